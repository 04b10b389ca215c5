/- Functions of the program, as functions of Lean, and the walks that show that the code answers as they do: written by a program. Conditions: those of each theorem. -/
import Derived.Test.YtioimihminelaaaDoorWholeRemaindersF3
namespace Go.Proofs.YtioimihminelaaaDoor.P
open Go.RowKit Go.Proofs.YtioimihminelaaaDoorW.PrintWords Go.Proofs.YtioimihminelaaaDoorW.PrintLast Go.Proofs.YtioimihminelaaaDoorW.PrintMore
attribute [local go_sem] gtr_text max2_int min2_int max_two min_two max_three min_three max_four min_four
set_option linter.unusedVariables false
set_option linter.unusedSimpArgs false
def decimal_DivMod.f (k : Nat) (a0 : ByteArray) (a1 : ByteArray) : Option (ByteArray × ByteArray × Int) := if a1.toList = ([48] : List UInt8) then (some ((⟨#[]⟩ : ByteArray), (⟨#[]⟩ : ByteArray), 17)) else ((decimal_both.f k a0 a1).bind fun bt242 => (if bt242.2.2 = true then (if bt242.2.1 = 0 then (none) else ((decimal_Of.f (IntKind.u64.wrap (Int.tdiv bt242.1 bt242.2.1))).bind fun t245 => ((decimal_Of.f (Int.tmod bt242.1 bt242.2.1)).bind fun t246 => (some (t245, t246, 0))))) else ((decimal_cut.f k a0).bind fun t247 => ((decimal_cut.f k a1).bind fun t250 => ((decimal_pieces_compare.f k t247 t250).bind fun t253 => (if t253 < 0 then (some ((⟨#[48]⟩ : ByteArray), a0, 0)) else (if (t250.length : Int) = 1 then (if 0 < (t250.length : Int) then ((decimal_pieces_small.f k t247 (rd t250 0)).bind fun bt255 => ((decimal_pieces_text.f k bt255.1).bind fun t259 => ((decimal_Of.f bt255.2).bind fun t260 => (some (t259, t260, 0))))) else (none)) else ((decimal_pieces_divide.f k t247 t250).bind fun bt261 => ((decimal_pieces_text.f k bt261.1).bind fun t267 => ((decimal_pieces_text.f k bt261.2).bind fun t268 => (some (t267, t268, 0))))))))))))
theorem decimal_DivMod.mono : ∀ a0 a1 k, LeO (decimal_DivMod.f k a0 a1) (decimal_DivMod.f (k + 1) a0 a1) := by
  intro a0 a1 k
  unfold decimal_DivMod.f
  repeat' first
      | (with_reducible exact decimal_both.mono _ _ _)
      | (with_reducible exact decimal_cut.mono _ _)
      | (with_reducible exact decimal_pieces_compare.mono _ _ _)
      | (with_reducible exact decimal_pieces_divide.mono _ _ _)
      | (with_reducible exact decimal_pieces_small.mono _ _ _)
      | (with_reducible exact decimal_pieces_text.mono _ _)
      | (with_reducible exact LeO.refl _)
      | (with_reducible exact LeO.none _)
      | (with_reducible refine LeO.ite ?_ ?_)
      | (with_reducible refine LeO.bind ?_ (fun _ => ?_))
      | exact decimal_both.mono _ _ _
      | exact decimal_cut.mono _ _
      | exact decimal_pieces_compare.mono _ _ _
      | exact decimal_pieces_divide.mono _ _ _
      | exact decimal_pieces_small.mono _ _ _
      | exact decimal_pieces_text.mono _ _
      | exact LeO.none _
      | refine LeO.ite ?_ ?_
      | refine LeO.bind ?_ (fun _ => ?_)
def decimal_DivMod.T5 : Bool × List (List Nat × List Nat) := (true, [([], []), ([], []), ([0, 1], [0, 1]), ([2], [2]), ([], []), ([], []), ([4, 5], [4, 5]), ([6, 3], [6]), ([3, 7, 0, 1, 2, 3], [3]), ([7, 8, 0, 1, 2, 3, 4, 5, 6, 7, 8], [7]), ([9, 0, 1, 2, 3, 4, 5, 6, 7, 8, 9], [])])
def decimal_DivMod.B5 : List Nat := [0, 0, 3, 7, 0, 0, 48, 127, 255, 511, 1023]
theorem decimal_DivMod.tab5 : rtab .any (opsOf Tryd.f34 5) = decimal_DivMod.T5 := by kernel_rfl
theorem decimal_DivMod.bits5 : waitsOk decimal_DivMod.T5.2 decimal_DivMod.B5 = true := by kernel_rfl
set_option maxHeartbeats 8000000 in
set_option maxRecDepth 100000 in
theorem decimal_DivMod.calls (k : Nat) (a0 : ByteArray) (a1 : ByteArray) (r1 : ByteArray) (r2 : ByteArray) (r3 : Int) (w : World) (hT : Tab w) (h : decimal_DivMod.f k a0 a1 = some (r1, r2, r3)) :
    Calls Tryd.prog 34 #[.string a0, .string a1] w fun e w' => e = .returned (.tuple #[.string r1, .string r2, .int .i64 r3]) ∧ Below w.heap.size w w' := by
  have HT := Aside0.mk hT
  clear hT
  have HB := Aside0.mk (Below.refl w.heap.size w)
  have H : (if a1.toList = ([48] : List UInt8) then (some ((⟨#[]⟩ : ByteArray), (⟨#[]⟩ : ByteArray), 17)) else ((decimal_both.f k a0 a1).bind fun bt242 => (if bt242.2.2 = true then (if bt242.2.1 = 0 then (none) else ((decimal_Of.f (IntKind.u64.wrap (Int.tdiv bt242.1 bt242.2.1))).bind fun t245 => ((decimal_Of.f (Int.tmod bt242.1 bt242.2.1)).bind fun t246 => (some (t245, t246, 0))))) else ((decimal_cut.f k a0).bind fun t247 => ((decimal_cut.f k a1).bind fun t250 => ((decimal_pieces_compare.f k t247 t250).bind fun t253 => (if t253 < 0 then (some ((⟨#[48]⟩ : ByteArray), a0, 0)) else (if (t250.length : Int) = 1 then (if 0 < (t250.length : Int) then ((decimal_pieces_small.f k t247 (rd t250 0)).bind fun bt255 => ((decimal_pieces_text.f k bt255.1).bind fun t259 => ((decimal_Of.f bt255.2).bind fun t260 => (some (t259, t260, 0))))) else (none)) else ((decimal_pieces_divide.f k t247 t250).bind fun bt261 => ((decimal_pieces_text.f k bt261.1).bind fun t267 => ((decimal_pieces_text.f k bt261.2).bind fun t268 => (some (t267, t268, 0))))))))))))) = some (r1, r2, r3) := h
  clear h
  by_cases c3 : a1.toList = ([48] : List UInt8)
  · rw [if_pos c3] at H
    have c3b0 : (a1.toList == ([48] : List UInt8)) = true := beq_iff_eq.mpr c3
    have c3b1 : (a1.toList != ([48] : List UInt8)) = false := bne_eq_false_iff_eq.mpr c3
    clear c3
    simp only [Option.some.injEq, Prod.mk.injEq] at H
    obtain ⟨rfl, rfl, rfl⟩ := H
    go_enter Tryd.func34, Tryd.ntmps34
    go_wp2
    go_ret3
    exact ⟨eq_, bq⟩
  · rw [if_neg c3] at H
    have c3b0 : (a1.toList == ([48] : List UInt8)) = false := beq_eq_false_iff_ne.mpr c3
    have c3b1 : (a1.toList != ([48] : List UInt8)) = true := bne_iff_ne.mpr c3
    replace H := Option.bind_eq_some_iff.mp H
    obtain ⟨⟨t242, t243, t244⟩, A40, H⟩ := H
    replace H : (if t244 = true then (if t243 = 0 then (none) else ((decimal_Of.f (IntKind.u64.wrap (Int.tdiv t242 t243))).bind fun t245 => ((decimal_Of.f (Int.tmod t242 t243)).bind fun t246 => (some (t245, t246, 0))))) else ((decimal_cut.f k a0).bind fun t247 => ((decimal_cut.f k a1).bind fun t250 => ((decimal_pieces_compare.f k t247 t250).bind fun t253 => (if t253 < 0 then (some ((⟨#[48]⟩ : ByteArray), a0, 0)) else (if (t250.length : Int) = 1 then (if 0 < (t250.length : Int) then ((decimal_pieces_small.f k t247 (rd t250 0)).bind fun bt255 => ((decimal_pieces_text.f k bt255.1).bind fun t259 => ((decimal_Of.f bt255.2).bind fun t260 => (some (t259, t260, 0))))) else (none)) else ((decimal_pieces_divide.f k t247 t250).bind fun bt261 => ((decimal_pieces_text.f k bt261.1).bind fun t267 => ((decimal_pieces_text.f k bt261.2).bind fun t268 => (some (t267, t268, 0))))))))))) = some (r1, r2, r3) := H
    have A4 := Aside0.mk A40
    clear A40
    by_cases c5 : t244 = true
    · subst c5
      have H1 : (if t243 = 0 then (none) else ((decimal_Of.f (IntKind.u64.wrap (Int.tdiv t242 t243))).bind fun t245 => ((decimal_Of.f (Int.tmod t242 t243)).bind fun t246 => (some (t245, t246, 0))))) = some (r1, r2, r3) := by rw [if_pos rfl] at H; exact H
      clear H
      have H := H1
      clear H1
      by_cases c6 : t243 = 0
      · rw [if_pos c6] at H
        exact absurd H (by simp)
      · rw [if_neg c6] at H
        have c6b0 : (t243 == 0) = false := beq_eq_false_iff_ne.mpr c6
        have c6b1 : (t243 != 0) = true := bne_iff_ne.mpr c6
        replace H := Option.bind_eq_some_iff.mp H
        obtain ⟨t245, A70, H⟩ := H
        replace H : ((decimal_Of.f (Int.tmod t242 t243)).bind fun t246 => (some (t245, t246, 0))) = some (r1, r2, r3) := H
        have A7 := Aside0.mk A70
        clear A70
        replace H := Option.bind_eq_some_iff.mp H
        obtain ⟨t246, A80, H⟩ := H
        replace H : (some (t245, t246, 0)) = some (r1, r2, r3) := H
        have A8 := Aside0.mk A80
        clear A80
        simp only [Option.some.injEq, Prod.mk.injEq] at H
        obtain ⟨rfl, rfl, rfl⟩ := H
        go_enter Tryd.func34, Tryd.ntmps34
        try go_wp2_with (first | ((with_reducible refine gate_callee (f := 42) rfl ?_); refine goesL_ (some 21) rfl rfl Tryd.func42 (by kernel_rfl) rfl #[.string a0, .string a1] rfl mq ?_; (with_reducible refine (decimal_both.calls (hT := HT.out.below bq) k a0 a1 t242 t243 true _ A4.out).mono ?_); rintro e w9 ⟨rfl, hb⟩; refine ⟨_, rfl, ?_⟩; replace HB := Aside0.mk (below_step bq hb); (try clear hb); (try clear hb2); (try clear hk); (try clear hi)))
        have n0_ := Aside0.mk (below_drew1 HB.out)
        clear HB
        have HB := n0_
        clear n0_
        refine start_ (n := 11) (S := fun w' => True) (ds := []) #[false, false, false, false, false, false, false, false, false, false, false] (by kernel_rfl) rfl rfl trivial (fun hHeld => ?_); refine with_tabW decimal_DivMod.tab5 decimal_DivMod.bits5 (fun HT_ HW_ => ?_)
        generalize w9.drew = w10 at HB hHeld ⊢
        refine pure_ (i := 0) (N := some 26) (v := ?_) (a' := ?_) #[true, false, false, false, false, false, false, false, false, false, false] rfl rfl (any_of HT_.out (by kernel_rfl)) (fun _ _ _ h => h) (Or.inl ⟨by rfl, ?_⟩) ?_ ?_
        rotate_left
        · intro w'
          go_simp
          with_reducible rfl
        rotate_left
        · simp only [Act.put, List.setIfInBounds_toArray, List.set_cons_zero, List.set_cons_succ, i64_w, i32_w]
          rfl
        refine pure_ (i := 1) (N := some 27) (v := ?_) (a' := ?_) #[true, true, false, false, false, false, false, false, false, false, false] rfl rfl (any_of HT_.out (by kernel_rfl)) (fun _ _ _ h => h) (Or.inl ⟨by rfl, ?_⟩) ?_ ?_
        rotate_left
        · intro w'
          go_simp
          with_reducible rfl
        rotate_left
        · simp only [Act.put, List.setIfInBounds_toArray, List.set_cons_zero, List.set_cons_succ, i64_w, i32_w]
          rfl
        refine pure_ (i := 2) (N := some 28) (v := ?_) (a' := ?_) #[true, true, true, false, false, false, false, false, false, false, false] rfl rfl (any_of HT_.out (by kernel_rfl)) (fun _ _ _ h => h) (Or.inl ⟨by rfl, ?_⟩) ?_ ?_
        rotate_left
        · intro w'
          go_simp
          with_reducible rfl
        rotate_left
        · simp only [Act.put, List.setIfInBounds_toArray, List.set_cons_zero, List.set_cons_succ, i64_w, i32_w]
          rfl
        refine pure_ (i := 4) (N := some 30) (v := ?_) (a' := ?_) #[true, true, true, false, true, false, false, false, false, false, false] rfl rfl (any_of HT_.out (by kernel_rfl)) (fun _ _ _ h => h) (Or.inl ⟨by rfl, ?_⟩) ?_ ?_
        rotate_left
        · intro w'
          go_simp
          with_reducible rfl
        rotate_left
        · simp only [Act.put, List.setIfInBounds_toArray, List.set_cons_zero, List.set_cons_succ, i64_w, i32_w]
          rfl
        refine pure_ (i := 5) (N := some 31) (v := ?_) (a' := ?_) #[true, true, true, false, true, true, false, false, false, false, false] rfl rfl (any_of HT_.out (by kernel_rfl)) (fun _ _ _ h => h) (Or.inl ⟨by rfl, ?_⟩) ?_ ?_
        rotate_left
        · intro w'
          go_simp
          with_reducible rfl
        rotate_left
        · simp only [Act.put, List.setIfInBounds_toArray, List.set_cons_zero, List.set_cons_succ, i64_w, i32_w]
          rfl
        refine pure_ (i := 6) (N := some 32) (v := ?_) (a' := ?_) #[true, true, true, false, true, true, true, false, false, false, false] rfl rfl (any_of HT_.out (by kernel_rfl)) (fun _ _ _ h => h) (Or.inl ⟨by rfl, ?_⟩) ?_ ?_
        rotate_left
        · intro w'
          go_simp
          with_reducible rfl
        rotate_left
        · simp only [Act.put, List.setIfInBounds_toArray, List.set_cons_zero, List.set_cons_succ, i64_w, i32_w]
          rfl
        refine one_ (i := 3) (N := some 29) #[true, true, true, true, true, true, true, false, false, false, false] rfl rfl (one_of HT_.out (by kernel_rfl)) (by decide) (fun K hK => ?_)
        refine goes_ Tryd.func43 (by kernel_rfl) rfl #[.int .u64 (IntKind.u64.wrap (Int.tdiv t242 t243))] (by rfl) rfl rfl mq ?_
        with_reducible refine (decimal_Of.calls (hT := HT.out.below bq) (IntKind.u64.wrap (Int.tdiv t242 t243)) t245 _ A7.out).mono ?_
        rintro e w11 ⟨rfl, hb⟩
        refine ⟨_, rfl, ?_⟩
        have n0_ := Aside0.mk (below_step bq hb)
        clear HB
        have HB := n0_
        clear n0_
        (try clear hb)
        (try clear hb2)
        (try clear hk)
        (try clear hi)
        refine hK.out _ _ trivial (fun hHeld => ?_)
        clear hK K
        refine norm_ (a' := ?_) ?_ ?_
        rotate_left
        · show Act.put _ (some 29) _ = _
          simp only [Act.put, List.setIfInBounds_toArray, List.set_cons_zero, List.set_cons_succ, i64_w, i32_w]
          rfl
        refine one_ (i := 7) (N := some 33) #[true, true, true, true, true, true, true, true, false, false, false] rfl rfl (one_of HT_.out (by kernel_rfl)) (by decide) (fun K hK => ?_)
        refine goes_ Tryd.func43 (by kernel_rfl) rfl #[.int .u64 (Int.tmod t242 t243)] (by rfl) rfl rfl mq ?_
        with_reducible refine (decimal_Of.calls (hT := HT.out.below bq) (Int.tmod t242 t243) t246 _ A8.out).mono ?_
        rintro e w12 ⟨rfl, hb⟩
        refine ⟨_, rfl, ?_⟩
        have n0_ := Aside0.mk (below_step bq hb)
        clear HB
        have HB := n0_
        clear n0_
        (try clear hb)
        (try clear hb2)
        (try clear hk)
        (try clear hi)
        refine hK.out _ _ trivial (fun hHeld => ?_)
        clear hK K
        refine norm_ (a' := ?_) ?_ ?_
        rotate_left
        · show Act.put _ (some 33) _ = _
          simp only [Act.put, List.setIfInBounds_toArray, List.set_cons_zero, List.set_cons_succ, i64_w, i32_w]
          rfl
        refine pure_ (i := 8) (N := some 4) (v := ?_) (a' := ?_) #[true, true, true, true, true, true, true, true, true, false, false] rfl rfl (any_of HT_.out (by kernel_rfl)) (fun _ _ _ h => h) (Or.inl ⟨by rfl, ?_⟩) ?_ ?_
        rotate_left
        · intro w'
          go_simp
          with_reducible rfl
        rotate_left
        · simp only [Act.put, List.setIfInBounds_toArray, List.set_cons_zero, List.set_cons_succ, i64_w, i32_w]
          rfl
        refine pure_ (i := 9) (N := some 5) (v := ?_) (a' := ?_) #[true, true, true, true, true, true, true, true, true, true, false] rfl rfl (any_of HT_.out (by kernel_rfl)) (fun _ _ _ h => h) (Or.inl ⟨by rfl, ?_⟩) ?_ ?_
        rotate_left
        · intro w'
          go_simp
          with_reducible rfl
        rotate_left
        · simp only [Act.put, List.setIfInBounds_toArray, List.set_cons_zero, List.set_cons_succ, i64_w, i32_w]
          rfl
        refine pure_ (i := 10) (N := some 6) (v := ?_) (a' := ?_) #[true, true, true, true, true, true, true, true, true, true, true] rfl rfl (any_of HT_.out (by kernel_rfl)) (fun _ _ _ h => h) (Or.inl ⟨by rfl, ?_⟩) ?_ ?_
        rotate_left
        · intro w'
          go_simp
          with_reducible rfl
        rotate_left
        · simp only [Act.put, List.setIfInBounds_toArray, List.set_cons_zero, List.set_cons_succ, i64_w, i32_w]
          rfl
        refine done_ (done_of HT_.out (by kernel_rfl)) ?_
        try go_wp2
        go_ret3
        exact ⟨eq_, bq⟩
    · replace c5 := Bool.eq_false_iff.mpr c5
      subst c5
      have H1 : ((decimal_cut.f k a0).bind fun t247 => ((decimal_cut.f k a1).bind fun t250 => ((decimal_pieces_compare.f k t247 t250).bind fun t253 => (if t253 < 0 then (some ((⟨#[48]⟩ : ByteArray), a0, 0)) else (if (t250.length : Int) = 1 then (if 0 < (t250.length : Int) then ((decimal_pieces_small.f k t247 (rd t250 0)).bind fun bt255 => ((decimal_pieces_text.f k bt255.1).bind fun t259 => ((decimal_Of.f bt255.2).bind fun t260 => (some (t259, t260, 0))))) else (none)) else ((decimal_pieces_divide.f k t247 t250).bind fun bt261 => ((decimal_pieces_text.f k bt261.1).bind fun t267 => ((decimal_pieces_text.f k bt261.2).bind fun t268 => (some (t267, t268, 0)))))))))) = some (r1, r2, r3) := by rw [if_neg (show ¬ (false = true) by decide)] at H; exact H
      clear H
      have H := H1
      clear H1
      replace H := Option.bind_eq_some_iff.mp H
      obtain ⟨t247, A130, H⟩ := H
      replace H : ((decimal_cut.f k a1).bind fun t250 => ((decimal_pieces_compare.f k t247 t250).bind fun t253 => (if t253 < 0 then (some ((⟨#[48]⟩ : ByteArray), a0, 0)) else (if (t250.length : Int) = 1 then (if 0 < (t250.length : Int) then ((decimal_pieces_small.f k t247 (rd t250 0)).bind fun bt255 => ((decimal_pieces_text.f k bt255.1).bind fun t259 => ((decimal_Of.f bt255.2).bind fun t260 => (some (t259, t260, 0))))) else (none)) else ((decimal_pieces_divide.f k t247 t250).bind fun bt261 => ((decimal_pieces_text.f k bt261.1).bind fun t267 => ((decimal_pieces_text.f k bt261.2).bind fun t268 => (some (t267, t268, 0))))))))) = some (r1, r2, r3) := H
      have A13 := Aside0.mk A130
      clear A130
      replace H := Option.bind_eq_some_iff.mp H
      obtain ⟨t250, A140, H⟩ := H
      replace H : ((decimal_pieces_compare.f k t247 t250).bind fun t253 => (if t253 < 0 then (some ((⟨#[48]⟩ : ByteArray), a0, 0)) else (if (t250.length : Int) = 1 then (if 0 < (t250.length : Int) then ((decimal_pieces_small.f k t247 (rd t250 0)).bind fun bt255 => ((decimal_pieces_text.f k bt255.1).bind fun t259 => ((decimal_Of.f bt255.2).bind fun t260 => (some (t259, t260, 0))))) else (none)) else ((decimal_pieces_divide.f k t247 t250).bind fun bt261 => ((decimal_pieces_text.f k bt261.1).bind fun t267 => ((decimal_pieces_text.f k bt261.2).bind fun t268 => (some (t267, t268, 0)))))))) = some (r1, r2, r3) := H
      have A14 := Aside0.mk A140
      clear A140
      replace H := Option.bind_eq_some_iff.mp H
      obtain ⟨t253, A150, H⟩ := H
      replace H : (if t253 < 0 then (some ((⟨#[48]⟩ : ByteArray), a0, 0)) else (if (t250.length : Int) = 1 then (if 0 < (t250.length : Int) then ((decimal_pieces_small.f k t247 (rd t250 0)).bind fun bt255 => ((decimal_pieces_text.f k bt255.1).bind fun t259 => ((decimal_Of.f bt255.2).bind fun t260 => (some (t259, t260, 0))))) else (none)) else ((decimal_pieces_divide.f k t247 t250).bind fun bt261 => ((decimal_pieces_text.f k bt261.1).bind fun t267 => ((decimal_pieces_text.f k bt261.2).bind fun t268 => (some (t267, t268, 0))))))) = some (r1, r2, r3) := H
      have A15 := Aside0.mk A150
      clear A150
      by_cases c16 : t253 < 0
      · rw [if_pos c16] at H
        have c16b0 : decide (t253 < 0) = true := decide_eq_true c16
        clear c16
        simp only [Option.some.injEq, Prod.mk.injEq] at H
        obtain ⟨rfl, rfl, rfl⟩ := H
        go_enter Tryd.func34, Tryd.ntmps34
        go_wp2_with (first | ((with_reducible refine gate_callee (f := 42) rfl ?_); refine goesL_ (some 21) rfl rfl Tryd.func42 (by kernel_rfl) rfl #[.string a0, .string a1] rfl mq ?_; (with_reducible refine (decimal_both.calls (hT := HT.out.below bq) k a0 a1 t242 t243 false _ A4.out).mono ?_); rintro e w17 ⟨rfl, hb⟩; refine ⟨_, rfl, ?_⟩; replace HB := Aside0.mk (below_step bq hb); (try clear hb); (try clear hb2); (try clear hk); (try clear hi)) | ((with_reducible refine gate_callee (f := 44) rfl ?_); refine goesL_ (some 35) rfl rfl Tryd.func44 (by kernel_rfl) rfl #[.string a0] rfl mq ?_; (with_reducible refine (decimal_cut.calls k a0 t247 _ A13.out).mono ?_); rintro e w18 ⟨v248, rfl, ho0, hb⟩; refine ⟨_, rfl, ?_⟩; have n0_ := Aside0.mk (Kd.R_lower ho0 (below_size bq)); have n1_ := Aside0.mk (below_step bq hb); clear HB; have HO249 := n0_; have HB := n1_; clear n0_ n1_; (try clear hb); (try clear hb2); (try clear hk); (try clear hi); (try clear ho0)) | ((with_reducible refine gate_callee (f := 44) rfl ?_); refine goesL_ (some 37) rfl rfl Tryd.func44 (by kernel_rfl) rfl #[.string a1] rfl mq ?_; (with_reducible refine (decimal_cut.calls k a1 t250 _ A14.out).mono ?_); rintro e w19 ⟨v251, rfl, ho0, hb⟩; refine ⟨_, rfl, ?_⟩; have n0_ := Aside0.mk (Kd.R_elder' (by (with_reducible repeat (first | apply Kd.R_alloc | apply Kd.R_drewN | apply Kd.R_drew)); exact HO249.out) (Kd.R_base ho0) hb); have n1_ := Aside0.mk (Kd.R_lower (Kd.R_new' ho0 (Kd.R_lt (by (with_reducible repeat (first | apply Kd.R_alloc | apply Kd.R_drewN | apply Kd.R_drew)); exact HO249.out))) (below_size bq)); have n2_ := Aside0.mk (below_step bq hb); clear HO249; clear HB; have HO249 := n0_; have HO252 := n1_; have HB := n2_; clear n0_ n1_ n2_; (try clear hb); (try clear hb2); (try clear hk); (try clear hi); (try clear ho0); obtain ⟨Ao20, co20, eo20⟩ := Kd.R_slice HO249.out; subst eo20; obtain ⟨Ao21, co21, eo21⟩ := Kd.R_slice HO252.out; subst eo21) | ((with_reducible refine gate_callee (f := 50) rfl ?_); refine goesL_ (some 40) rfl rfl Tryd.func50 (by kernel_rfl) rfl #[.slice Ao20 t247.length co20, .slice Ao21 t250.length co21] rfl mq ?_; (with_reducible refine (decimal_pieces_compare.calls k _ _ t247 _ _ t250 t253 _ ?side1 ?side2 ?side3 ?side4 A15.out).mono ?_); (case side1 => repeat (first | exact (Kd.R_reads' HO249.out).2.2 | (with_reducible refine Kd.C_alloc ?_ _) | (with_reducible refine Kd.C_drewN ?_ _) | (with_reducible refine Kd.C_drew ?_))); (case side2 => exact (Kd.R_reads' HO249.out).2.1); (case side3 => repeat (first | exact (Kd.R_reads' HO252.out).2.2 | (with_reducible refine Kd.C_alloc ?_ _) | (with_reducible refine Kd.C_drewN ?_ _) | (with_reducible refine Kd.C_drew ?_))); (case side4 => exact (Kd.R_reads' HO252.out).2.1); rintro e w22 ⟨rfl, hb⟩; refine ⟨_, rfl, ?_⟩; have n0_ := Aside0.mk (Kd.R_below (by (with_reducible repeat (first | apply Kd.R_alloc | apply Kd.R_drewN | apply Kd.R_drew)); exact HO249.out) hb); have n1_ := Aside0.mk (Kd.R_below (by (with_reducible repeat (first | apply Kd.R_alloc | apply Kd.R_drewN | apply Kd.R_drew)); exact HO252.out) hb); have n2_ := Aside0.mk (below_step bq hb); clear HO249; clear HO252; clear HB; have HO249 := n0_; have HO252 := n1_; have HB := n2_; clear n0_ n1_ n2_; (try clear hb); (try clear hb2); (try clear hk); (try clear hi)))
        go_ret3
        exact ⟨eq_, bq⟩
      · rw [if_neg c16] at H
        have c16b0 : decide (t253 < 0) = false := decide_eq_false c16
        clear c16
        by_cases c23 : (t250.length : Int) = 1
        · rw [if_pos c23] at H
          have c23b0 : ((t250.length : Int) == 1) = true := beq_iff_eq.mpr c23
          have c23b1 : ((t250.length : Int) != 1) = false := bne_eq_false_iff_eq.mpr c23
          clear c23
          by_cases c24 : 0 < (t250.length : Int)
          · rw [if_pos c24] at H
            have c24b0 : decide (0 < (t250.length : Int)) = true := decide_eq_true c24
            have c24b1 : decide (0 < t250.length) = true := decide_eq_true (by omega)
            clear c24
            replace H := Option.bind_eq_some_iff.mp H
            obtain ⟨⟨t255, t256⟩, A250, H⟩ := H
            replace H : ((decimal_pieces_text.f k t255).bind fun t259 => ((decimal_Of.f t256).bind fun t260 => (some (t259, t260, 0)))) = some (r1, r2, r3) := H
            have A25 := Aside0.mk A250
            clear A250
            replace H := Option.bind_eq_some_iff.mp H
            obtain ⟨t259, A260, H⟩ := H
            replace H : ((decimal_Of.f t256).bind fun t260 => (some (t259, t260, 0))) = some (r1, r2, r3) := H
            have A26 := Aside0.mk A260
            clear A260
            replace H := Option.bind_eq_some_iff.mp H
            obtain ⟨t260, A270, H⟩ := H
            replace H : (some (t259, t260, 0)) = some (r1, r2, r3) := H
            have A27 := Aside0.mk A270
            clear A270
            simp only [Option.some.injEq, Prod.mk.injEq] at H
            obtain ⟨rfl, rfl, rfl⟩ := H
            go_enter Tryd.func34, Tryd.ntmps34
            go_wp2_with (first | ((with_reducible refine gate_callee (f := 42) rfl ?_); refine goesL_ (some 21) rfl rfl Tryd.func42 (by kernel_rfl) rfl #[.string a0, .string a1] rfl mq ?_; (with_reducible refine (decimal_both.calls (hT := HT.out.below bq) k a0 a1 t242 t243 false _ A4.out).mono ?_); rintro e w28 ⟨rfl, hb⟩; refine ⟨_, rfl, ?_⟩; replace HB := Aside0.mk (below_step bq hb); (try clear hb); (try clear hb2); (try clear hk); (try clear hi)) | ((with_reducible refine gate_callee (f := 44) rfl ?_); refine goesL_ (some 35) rfl rfl Tryd.func44 (by kernel_rfl) rfl #[.string a0] rfl mq ?_; (with_reducible refine (decimal_cut.calls k a0 t247 _ A13.out).mono ?_); rintro e w29 ⟨v248, rfl, ho0, hb⟩; refine ⟨_, rfl, ?_⟩; have n0_ := Aside0.mk (Kd.R_lower ho0 (below_size bq)); have n1_ := Aside0.mk (below_step bq hb); clear HB; have HO249 := n0_; have HB := n1_; clear n0_ n1_; (try clear hb); (try clear hb2); (try clear hk); (try clear hi); (try clear ho0)) | ((with_reducible refine gate_callee (f := 44) rfl ?_); refine goesL_ (some 37) rfl rfl Tryd.func44 (by kernel_rfl) rfl #[.string a1] rfl mq ?_; (with_reducible refine (decimal_cut.calls k a1 t250 _ A14.out).mono ?_); rintro e w30 ⟨v251, rfl, ho0, hb⟩; refine ⟨_, rfl, ?_⟩; have n0_ := Aside0.mk (Kd.R_elder' (by (with_reducible repeat (first | apply Kd.R_alloc | apply Kd.R_drewN | apply Kd.R_drew)); exact HO249.out) (Kd.R_base ho0) hb); have n1_ := Aside0.mk (Kd.R_lower (Kd.R_new' ho0 (Kd.R_lt (by (with_reducible repeat (first | apply Kd.R_alloc | apply Kd.R_drewN | apply Kd.R_drew)); exact HO249.out))) (below_size bq)); have n2_ := Aside0.mk (below_step bq hb); clear HO249; clear HB; have HO249 := n0_; have HO252 := n1_; have HB := n2_; clear n0_ n1_ n2_; (try clear hb); (try clear hb2); (try clear hk); (try clear hi); (try clear ho0); obtain ⟨Ao31, co31, eo31⟩ := Kd.R_slice HO249.out; subst eo31; obtain ⟨Ao32, co32, eo32⟩ := Kd.R_slice HO252.out; subst eo32) | ((with_reducible refine gate_callee (f := 50) rfl ?_); refine goesL_ (some 40) rfl rfl Tryd.func50 (by kernel_rfl) rfl #[.slice Ao31 t247.length co31, .slice Ao32 t250.length co32] rfl mq ?_; (with_reducible refine (decimal_pieces_compare.calls k _ _ t247 _ _ t250 t253 _ ?side1 ?side2 ?side3 ?side4 A15.out).mono ?_); (case side1 => repeat (first | exact (Kd.R_reads' HO249.out).2.2 | (with_reducible refine Kd.C_alloc ?_ _) | (with_reducible refine Kd.C_drewN ?_ _) | (with_reducible refine Kd.C_drew ?_))); (case side2 => exact (Kd.R_reads' HO249.out).2.1); (case side3 => repeat (first | exact (Kd.R_reads' HO252.out).2.2 | (with_reducible refine Kd.C_alloc ?_ _) | (with_reducible refine Kd.C_drewN ?_ _) | (with_reducible refine Kd.C_drew ?_))); (case side4 => exact (Kd.R_reads' HO252.out).2.1); rintro e w33 ⟨rfl, hb⟩; refine ⟨_, rfl, ?_⟩; have n0_ := Aside0.mk (Kd.R_below (by (with_reducible repeat (first | apply Kd.R_alloc | apply Kd.R_drewN | apply Kd.R_drew)); exact HO249.out) hb); have n1_ := Aside0.mk (Kd.R_below (by (with_reducible repeat (first | apply Kd.R_alloc | apply Kd.R_drewN | apply Kd.R_drew)); exact HO252.out) hb); have n2_ := Aside0.mk (below_step bq hb); clear HO249; clear HO252; clear HB; have HO249 := n0_; have HO252 := n1_; have HB := n2_; clear n0_ n1_ n2_; (try clear hb); (try clear hb2); (try clear hk); (try clear hi); have p254 : 0 ≤ (0 : Int) := (by omega); have q254 : 0 < (t250.length : Int) := of_decide_eq_true (by first | (with_reducible assumption) | assumption); obtain ⟨ad254, e254, hx254_0⟩ := Kd.at_int (Kd.R_reads' HO252.out).2.2 0 p254 q254; cases e254; have qi254 : (0 < t250.length) = True := eq_true (by omega); (try rw [show ((0 : Int)).toNat = 0 from rfl] at hx254_0); (try rw [Addr.add_zero'] at hx254_0); replace p254 := eq_true p254; replace q254 := eq_true q254) | ((with_reducible refine gate_callee (f := 51) rfl ?_); refine goesL_ (some 51) rfl rfl Tryd.func51 (by kernel_rfl) rfl #[.slice Ao31 t247.length co31, .int .u64 (rd t250 0)] rfl mq ?_; (with_reducible refine (decimal_pieces_small.calls k _ _ t247 (rd t250 0) t255 t256 _ ?side1 ?side2 A25.out).mono ?_); (case side1 => repeat (first | exact (Kd.R_reads' HO249.out).2.2 | (with_reducible refine Kd.C_alloc ?_ _) | (with_reducible refine Kd.C_drewN ?_ _) | (with_reducible refine Kd.C_drew ?_))); (case side2 => exact (Kd.R_reads' HO249.out).2.1); rintro e w34 ⟨v257, rfl, ho0, hb⟩; refine ⟨_, rfl, ?_⟩; have n0_ := Aside0.mk (Kd.R_elder' (by (with_reducible repeat (first | apply Kd.R_alloc | apply Kd.R_drewN | apply Kd.R_drew)); exact HO249.out) (Kd.R_base ho0) hb); have n1_ := Aside0.mk (Kd.R_elder' (by (with_reducible repeat (first | apply Kd.R_alloc | apply Kd.R_drewN | apply Kd.R_drew)); exact HO252.out) (Kd.R_base ho0) hb); have n2_ := Aside0.mk (Kd.R_lower (Kd.R_new' (Kd.R_new' ho0 (Kd.R_lt (by (with_reducible repeat (first | apply Kd.R_alloc | apply Kd.R_drewN | apply Kd.R_drew)); exact HO249.out))) (Kd.R_lt (by (with_reducible repeat (first | apply Kd.R_alloc | apply Kd.R_drewN | apply Kd.R_drew)); exact HO252.out))) (below_size bq)); have n3_ := Aside0.mk (below_step bq hb); clear HO249; clear HO252; clear HB; have HO249 := n0_; have HO252 := n1_; have HO258 := n2_; have HB := n3_; clear n0_ n1_ n2_ n3_; (try clear hb); (try clear hb2); (try clear hk); (try clear hi); (try clear ho0); obtain ⟨Ao35, co35, eo35⟩ := Kd.R_slice HO258.out; subst eo35) | ((with_reducible refine gate_callee (f := 47) rfl ?_); refine goesL_ (some 55) rfl rfl Tryd.func47 (by kernel_rfl) rfl #[.slice Ao35 t255.length co35] rfl mq ?_; (with_reducible refine (decimal_pieces_text.calls k _ _ t255 t259 _ ?side1 ?side2 A26.out).mono ?_); (case side1 => repeat (first | exact (Kd.R_reads' HO258.out).2.2 | (with_reducible refine Kd.C_alloc ?_ _) | (with_reducible refine Kd.C_drewN ?_ _) | (with_reducible refine Kd.C_drew ?_))); (case side2 => exact (Kd.R_reads' HO258.out).2.1); rintro e w36 ⟨rfl, hb⟩; refine ⟨_, rfl, ?_⟩; have n0_ := Aside0.mk (Kd.R_below (by (with_reducible repeat (first | apply Kd.R_alloc | apply Kd.R_drewN | apply Kd.R_drew)); exact HO249.out) hb); have n1_ := Aside0.mk (Kd.R_below (by (with_reducible repeat (first | apply Kd.R_alloc | apply Kd.R_drewN | apply Kd.R_drew)); exact HO252.out) hb); have n2_ := Aside0.mk (Kd.R_below (by (with_reducible repeat (first | apply Kd.R_alloc | apply Kd.R_drewN | apply Kd.R_drew)); exact HO258.out) hb); have n3_ := Aside0.mk (below_step bq hb); clear HO249; clear HO252; clear HO258; clear HB; have HO249 := n0_; have HO252 := n1_; have HO258 := n2_; have HB := n3_; clear n0_ n1_ n2_ n3_; (try clear hb); (try clear hb2); (try clear hk); (try clear hi)) | ((with_reducible refine gate_callee (f := 43) rfl ?_); refine goesL_ (some 57) rfl rfl Tryd.func43 (by kernel_rfl) rfl #[.int .u64 t256] rfl mq ?_; (with_reducible refine (decimal_Of.calls (hT := HT.out.below bq) t256 t260 _ A27.out).mono ?_); rintro e w37 ⟨rfl, hb⟩; refine ⟨_, rfl, ?_⟩; have n0_ := Aside0.mk (Kd.R_below (by (with_reducible repeat (first | apply Kd.R_alloc | apply Kd.R_drewN | apply Kd.R_drew)); exact HO249.out) hb); have n1_ := Aside0.mk (Kd.R_below (by (with_reducible repeat (first | apply Kd.R_alloc | apply Kd.R_drewN | apply Kd.R_drew)); exact HO252.out) hb); have n2_ := Aside0.mk (Kd.R_below (by (with_reducible repeat (first | apply Kd.R_alloc | apply Kd.R_drewN | apply Kd.R_drew)); exact HO258.out) hb); have n3_ := Aside0.mk (below_step bq hb); clear HO249; clear HO252; clear HO258; clear HB; have HO249 := n0_; have HO252 := n1_; have HO258 := n2_; have HB := n3_; clear n0_ n1_ n2_ n3_; (try clear hb); (try clear hb2); (try clear hk); (try clear hi)))
            go_ret3
            exact ⟨eq_, bq⟩
          · rw [if_neg c24] at H
            exact absurd H (by simp)
        · rw [if_neg c23] at H
          have c23b0 : ((t250.length : Int) == 1) = false := beq_eq_false_iff_ne.mpr c23
          have c23b1 : ((t250.length : Int) != 1) = true := bne_iff_ne.mpr c23
          replace H := Option.bind_eq_some_iff.mp H
          obtain ⟨⟨t261, t262⟩, A380, H⟩ := H
          replace H : ((decimal_pieces_text.f k t261).bind fun t267 => ((decimal_pieces_text.f k t262).bind fun t268 => (some (t267, t268, 0)))) = some (r1, r2, r3) := H
          have A38 := Aside0.mk A380
          clear A380
          replace H := Option.bind_eq_some_iff.mp H
          obtain ⟨t267, A390, H⟩ := H
          replace H : ((decimal_pieces_text.f k t262).bind fun t268 => (some (t267, t268, 0))) = some (r1, r2, r3) := H
          have A39 := Aside0.mk A390
          clear A390
          replace H := Option.bind_eq_some_iff.mp H
          obtain ⟨t268, A400, H⟩ := H
          replace H : (some (t267, t268, 0)) = some (r1, r2, r3) := H
          have A40 := Aside0.mk A400
          clear A400
          simp only [Option.some.injEq, Prod.mk.injEq] at H
          obtain ⟨rfl, rfl, rfl⟩ := H
          go_enter Tryd.func34, Tryd.ntmps34
          go_wp2_with (first | ((with_reducible refine gate_callee (f := 42) rfl ?_); refine goesL_ (some 21) rfl rfl Tryd.func42 (by kernel_rfl) rfl #[.string a0, .string a1] rfl mq ?_; (with_reducible refine (decimal_both.calls (hT := HT.out.below bq) k a0 a1 t242 t243 false _ A4.out).mono ?_); rintro e w41 ⟨rfl, hb⟩; refine ⟨_, rfl, ?_⟩; replace HB := Aside0.mk (below_step bq hb); (try clear hb); (try clear hb2); (try clear hk); (try clear hi)) | ((with_reducible refine gate_callee (f := 44) rfl ?_); refine goesL_ (some 35) rfl rfl Tryd.func44 (by kernel_rfl) rfl #[.string a0] rfl mq ?_; (with_reducible refine (decimal_cut.calls k a0 t247 _ A13.out).mono ?_); rintro e w42 ⟨v248, rfl, ho0, hb⟩; refine ⟨_, rfl, ?_⟩; have n0_ := Aside0.mk (Kd.R_lower ho0 (below_size bq)); have n1_ := Aside0.mk (below_step bq hb); clear HB; have HO249 := n0_; have HB := n1_; clear n0_ n1_; (try clear hb); (try clear hb2); (try clear hk); (try clear hi); (try clear ho0)) | ((with_reducible refine gate_callee (f := 44) rfl ?_); refine goesL_ (some 37) rfl rfl Tryd.func44 (by kernel_rfl) rfl #[.string a1] rfl mq ?_; (with_reducible refine (decimal_cut.calls k a1 t250 _ A14.out).mono ?_); rintro e w43 ⟨v251, rfl, ho0, hb⟩; refine ⟨_, rfl, ?_⟩; have n0_ := Aside0.mk (Kd.R_elder' (by (with_reducible repeat (first | apply Kd.R_alloc | apply Kd.R_drewN | apply Kd.R_drew)); exact HO249.out) (Kd.R_base ho0) hb); have n1_ := Aside0.mk (Kd.R_lower (Kd.R_new' ho0 (Kd.R_lt (by (with_reducible repeat (first | apply Kd.R_alloc | apply Kd.R_drewN | apply Kd.R_drew)); exact HO249.out))) (below_size bq)); have n2_ := Aside0.mk (below_step bq hb); clear HO249; clear HB; have HO249 := n0_; have HO252 := n1_; have HB := n2_; clear n0_ n1_ n2_; (try clear hb); (try clear hb2); (try clear hk); (try clear hi); (try clear ho0); obtain ⟨Ao44, co44, eo44⟩ := Kd.R_slice HO249.out; subst eo44; obtain ⟨Ao45, co45, eo45⟩ := Kd.R_slice HO252.out; subst eo45) | ((with_reducible refine gate_callee (f := 50) rfl ?_); refine goesL_ (some 40) rfl rfl Tryd.func50 (by kernel_rfl) rfl #[.slice Ao44 t247.length co44, .slice Ao45 t250.length co45] rfl mq ?_; (with_reducible refine (decimal_pieces_compare.calls k _ _ t247 _ _ t250 t253 _ ?side1 ?side2 ?side3 ?side4 A15.out).mono ?_); (case side1 => repeat (first | exact (Kd.R_reads' HO249.out).2.2 | (with_reducible refine Kd.C_alloc ?_ _) | (with_reducible refine Kd.C_drewN ?_ _) | (with_reducible refine Kd.C_drew ?_))); (case side2 => exact (Kd.R_reads' HO249.out).2.1); (case side3 => repeat (first | exact (Kd.R_reads' HO252.out).2.2 | (with_reducible refine Kd.C_alloc ?_ _) | (with_reducible refine Kd.C_drewN ?_ _) | (with_reducible refine Kd.C_drew ?_))); (case side4 => exact (Kd.R_reads' HO252.out).2.1); rintro e w46 ⟨rfl, hb⟩; refine ⟨_, rfl, ?_⟩; have n0_ := Aside0.mk (Kd.R_below (by (with_reducible repeat (first | apply Kd.R_alloc | apply Kd.R_drewN | apply Kd.R_drew)); exact HO249.out) hb); have n1_ := Aside0.mk (Kd.R_below (by (with_reducible repeat (first | apply Kd.R_alloc | apply Kd.R_drewN | apply Kd.R_drew)); exact HO252.out) hb); have n2_ := Aside0.mk (below_step bq hb); clear HO249; clear HO252; clear HB; have HO249 := n0_; have HO252 := n1_; have HB := n2_; clear n0_ n1_ n2_; (try clear hb); (try clear hb2); (try clear hk); (try clear hi)) | ((with_reducible refine gate_callee (f := 52) rfl ?_); refine goesL_ (some 61) rfl rfl Tryd.func52 (by kernel_rfl) rfl #[.slice Ao44 t247.length co44, .slice Ao45 t250.length co45] rfl mq ?_; (with_reducible refine (decimal_pieces_divide.calls k _ _ t247 _ _ t250 t261 t262 _ ?side1 ?side2 ?side3 ?side4 A38.out).mono ?_); (case side1 => repeat (first | exact (Kd.R_reads' HO249.out).2.2 | (with_reducible refine Kd.C_alloc ?_ _) | (with_reducible refine Kd.C_drewN ?_ _) | (with_reducible refine Kd.C_drew ?_))); (case side2 => exact (Kd.R_reads' HO249.out).2.1); (case side3 => repeat (first | exact (Kd.R_reads' HO252.out).2.2 | (with_reducible refine Kd.C_alloc ?_ _) | (with_reducible refine Kd.C_drewN ?_ _) | (with_reducible refine Kd.C_drew ?_))); (case side4 => exact (Kd.R_reads' HO252.out).2.1); rintro e w47 ⟨v263, v265, rfl, ho0, ho1, hb⟩; refine ⟨_, rfl, ?_⟩; have n0_ := Aside0.mk (Kd.R_mono (Kd.R_told (Kd.R_told (Kd.R_old (by (with_reducible repeat (first | apply Kd.R_alloc | apply Kd.R_drewN | apply Kd.R_drew)); exact HO249.out) hb) (Kd.R_base ho0)) (Kd.R_base ho1)) (fun _ h_ => h_.1)); have n1_ := Aside0.mk (Kd.R_mono (Kd.R_told (Kd.R_told (Kd.R_old (by (with_reducible repeat (first | apply Kd.R_alloc | apply Kd.R_drewN | apply Kd.R_drew)); exact HO252.out) hb) (Kd.R_base ho0)) (Kd.R_base ho1)) (fun _ h_ => h_.1)); have n2_ := Aside0.mk (Kd.R_lower (Kd.R_new' (Kd.R_new' ho0 (Kd.R_lt (by (with_reducible repeat (first | apply Kd.R_alloc | apply Kd.R_drewN | apply Kd.R_drew)); exact HO249.out))) (Kd.R_lt (by (with_reducible repeat (first | apply Kd.R_alloc | apply Kd.R_drewN | apply Kd.R_drew)); exact HO252.out))) (below_size bq)); have n3_ := Aside0.mk (Kd.R_lower (Kd.R_new' (Kd.R_new' ho1 (Kd.R_lt (by (with_reducible repeat (first | apply Kd.R_alloc | apply Kd.R_drewN | apply Kd.R_drew)); exact HO249.out))) (Kd.R_lt (by (with_reducible repeat (first | apply Kd.R_alloc | apply Kd.R_drewN | apply Kd.R_drew)); exact HO252.out))) (below_size bq)); have n4_ := Aside0.mk (below_step bq hb); clear HO249; clear HO252; clear HB; have HO249 := n0_; have HO252 := n1_; have HO264 := n2_; have HO266 := n3_; have HB := n4_; clear n0_ n1_ n2_ n3_ n4_; (try clear hb); (try clear hb2); (try clear hk); (try clear hi); (try clear ho0); (try clear ho1); obtain ⟨Ao48, co48, eo48⟩ := Kd.R_slice HO264.out; subst eo48) | ((with_reducible refine gate_callee (f := 47) rfl ?_); refine goesL_ (some 65) rfl rfl Tryd.func47 (by kernel_rfl) rfl #[.slice Ao48 t261.length co48] rfl mq ?_; (with_reducible refine (decimal_pieces_text.calls k _ _ t261 t267 _ ?side1 ?side2 A39.out).mono ?_); (case side1 => repeat (first | exact (Kd.R_reads' HO264.out).2.2 | (with_reducible refine Kd.C_alloc ?_ _) | (with_reducible refine Kd.C_drewN ?_ _) | (with_reducible refine Kd.C_drew ?_))); (case side2 => exact (Kd.R_reads' HO264.out).2.1); rintro e w49 ⟨rfl, hb⟩; refine ⟨_, rfl, ?_⟩; have n0_ := Aside0.mk (Kd.R_below (by (with_reducible repeat (first | apply Kd.R_alloc | apply Kd.R_drewN | apply Kd.R_drew)); exact HO249.out) hb); have n1_ := Aside0.mk (Kd.R_below (by (with_reducible repeat (first | apply Kd.R_alloc | apply Kd.R_drewN | apply Kd.R_drew)); exact HO252.out) hb); have n2_ := Aside0.mk (Kd.R_below (by (with_reducible repeat (first | apply Kd.R_alloc | apply Kd.R_drewN | apply Kd.R_drew)); exact HO264.out) hb); have n3_ := Aside0.mk (Kd.R_below (by (with_reducible repeat (first | apply Kd.R_alloc | apply Kd.R_drewN | apply Kd.R_drew)); exact HO266.out) hb); have n4_ := Aside0.mk (below_step bq hb); clear HO249; clear HO252; clear HO264; clear HO266; clear HB; have HO249 := n0_; have HO252 := n1_; have HO264 := n2_; have HO266 := n3_; have HB := n4_; clear n0_ n1_ n2_ n3_ n4_; (try clear hb); (try clear hb2); (try clear hk); (try clear hi); obtain ⟨Ao50, co50, eo50⟩ := Kd.R_slice HO266.out; subst eo50) | ((with_reducible refine gate_callee (f := 47) rfl ?_); refine goesL_ (some 67) rfl rfl Tryd.func47 (by kernel_rfl) rfl #[.slice Ao50 t262.length co50] rfl mq ?_; (with_reducible refine (decimal_pieces_text.calls k _ _ t262 t268 _ ?side1 ?side2 A40.out).mono ?_); (case side1 => repeat (first | exact (Kd.R_reads' HO266.out).2.2 | (with_reducible refine Kd.C_alloc ?_ _) | (with_reducible refine Kd.C_drewN ?_ _) | (with_reducible refine Kd.C_drew ?_))); (case side2 => exact (Kd.R_reads' HO266.out).2.1); rintro e w51 ⟨rfl, hb⟩; refine ⟨_, rfl, ?_⟩; have n0_ := Aside0.mk (Kd.R_below (by (with_reducible repeat (first | apply Kd.R_alloc | apply Kd.R_drewN | apply Kd.R_drew)); exact HO249.out) hb); have n1_ := Aside0.mk (Kd.R_below (by (with_reducible repeat (first | apply Kd.R_alloc | apply Kd.R_drewN | apply Kd.R_drew)); exact HO252.out) hb); have n2_ := Aside0.mk (Kd.R_below (by (with_reducible repeat (first | apply Kd.R_alloc | apply Kd.R_drewN | apply Kd.R_drew)); exact HO264.out) hb); have n3_ := Aside0.mk (Kd.R_below (by (with_reducible repeat (first | apply Kd.R_alloc | apply Kd.R_drewN | apply Kd.R_drew)); exact HO266.out) hb); have n4_ := Aside0.mk (below_step bq hb); clear HO249; clear HO252; clear HO264; clear HO266; clear HB; have HO249 := n0_; have HO252 := n1_; have HO264 := n2_; have HO266 := n3_; have HB := n4_; clear n0_ n1_ n2_ n3_ n4_; (try clear hb); (try clear hb2); (try clear hk); (try clear hi)))
          go_ret3
          exact ⟨eq_, bq⟩
def decimal_Gcd.l0 : Nat → ByteArray → ByteArray → Option (ByteArray)
  | 0, _, _ => none
  | k + 1, x0, x1 => if x1.toList = ([48] : List UInt8) then (some x0) else ((decimal_DivMod.f k x0 x1).bind fun bt269 => (if bt269.2.2 = 0 then (decimal_Gcd.l0 k x1 bt269.2.1) else (some (⟨#[]⟩ : ByteArray))))
def decimal_Gcd.f (k : Nat) (a0 : ByteArray) (a1 : ByteArray) : Option (ByteArray) := decimal_Gcd.l0 k a0 a1
theorem decimal_Gcd.mono_l : ∀ k, (∀ y0 y1, LeO (decimal_Gcd.l0 k y0 y1) (decimal_Gcd.l0 (k + 1) y0 y1))
  | 0 => fun _ _ r h => by simp [decimal_Gcd.l0] at h
  | k + 1 => by
    have ih0 := decimal_Gcd.mono_l k
    · intro y0 y1
      unfold decimal_Gcd.l0
      repeat' first
      | (with_reducible exact ih0 _ _)
      | (with_reducible exact decimal_DivMod.mono _ _ _)
      | (with_reducible exact LeO.refl _)
      | (with_reducible exact LeO.none _)
      | (with_reducible refine LeO.ite ?_ ?_)
      | (with_reducible refine LeO.bind ?_ (fun _ => ?_))
      | exact ih0 _ _
      | exact decimal_DivMod.mono _ _ _
      | exact LeO.none _
      | refine LeO.ite ?_ ?_
      | refine LeO.bind ?_ (fun _ => ?_)
theorem decimal_Gcd.mono : ∀ a0 a1 k, LeO (decimal_Gcd.f k a0 a1) (decimal_Gcd.f (k + 1) a0 a1) := by
  intro a0 a1 k
  have ih0 := decimal_Gcd.mono_l k
  unfold decimal_Gcd.f
  repeat' first
      | (with_reducible exact ih0 _ _)
      | (with_reducible exact decimal_DivMod.mono _ _ _)
      | (with_reducible exact LeO.refl _)
      | (with_reducible exact LeO.none _)
      | (with_reducible refine LeO.ite ?_ ?_)
      | (with_reducible refine LeO.bind ?_ (fun _ => ?_))
      | exact ih0 _ _
      | exact decimal_DivMod.mono _ _ _
      | exact LeO.none _
      | refine LeO.ite ?_ ?_
      | refine LeO.bind ?_ (fun _ => ?_)
set_option maxHeartbeats 8000000 in
set_option maxRecDepth 100000 in
theorem decimal_Gcd.calls (k : Nat) (a0 : ByteArray) (a1 : ByteArray) (r : ByteArray) (w : World) (hT : Tab w) (h : decimal_Gcd.f k a0 a1 = some r) :
    Calls Tryd.prog 32 #[.string a0, .string a1] w fun e w' => e = .returned (.string r) ∧ Below w.heap.size w w' := by
  have HT := Aside0.mk hT
  clear hT
  have HB := Aside0.mk (Below.refl w.heap.size w)
  have H : (decimal_Gcd.l0 k a0 a1) = some r := h
  clear h
  have H' := Aside0.mk H
  clear H
  go_enter Tryd.func32, Tryd.ntmps32
  go_wp2
  go_loopg [0, 1] k (fun kq v0 v1 w' => ∃ (x0_1 : ByteArray) (x1_1 : ByteArray), v0 = .string x0_1 ∧ v1 = .string x1_1 ∧ Aside0 (decimal_Gcd.l0 kq x0_1 x1_1 = some r) ∧ Aside0 (kq ≤ k) ∧ Aside0 (Below w.heap.size w w'))
  case atStart => exact ⟨(a0), (a1), (by first | rfl | (simp; done) | (simp [*]; done)), (by first | rfl | (simp; done) | (simp [*]; done)), H', ⟨Nat.le_refl _⟩, ⟨bq⟩⟩
  case round =>
    clear H'
    try clear p2
    obtain ⟨x0_1, x1_1, rfl, rfl, HA, HK1, HB⟩ := hrel
    cases gk with
    | zero => exact absurd HA.out (by simp [decimal_Gcd.l0])
    | succ k1 =>
      have H := HA.out
      clear HA
      simp only [decimal_Gcd.l0] at H
      by_cases c3 : x1_1.toList = ([48] : List UInt8)
      · rw [if_pos c3] at H
        have c3b0 : (x1_1.toList == ([48] : List UInt8)) = true := beq_iff_eq.mpr c3
        have c3b1 : (x1_1.toList != ([48] : List UInt8)) = false := bne_eq_false_iff_eq.mpr c3
        clear c3
        obtain rfl := Option.some.inj H
        go_wp2
        go_ret
        exact ⟨eq_, bq⟩
      · rw [if_neg c3] at H
        have c3b0 : (x1_1.toList == ([48] : List UInt8)) = false := beq_eq_false_iff_ne.mpr c3
        have c3b1 : (x1_1.toList != ([48] : List UInt8)) = true := bne_iff_ne.mpr c3
        replace H := Option.bind_eq_some_iff.mp H
        obtain ⟨⟨t269, t270, t271⟩, A40, H⟩ := H
        replace H : (if t271 = 0 then (decimal_Gcd.l0 k1 x1_1 t270) else (some (⟨#[]⟩ : ByteArray))) = some r := H
        have A4 := Aside0.mk A40
        clear A40
        by_cases c5 : t271 = 0
        · rw [if_pos c5] at H
          have c5b0 : (t271 == 0) = true := beq_iff_eq.mpr c5
          have c5b1 : (t271 != 0) = false := bne_eq_false_iff_eq.mpr c5
          clear c5
          have H' := Aside0.mk H
          clear H
          go_wp2_with (first | ((with_reducible refine gate_callee (f := 34) rfl ?_); refine goesL_ (some 13) rfl rfl Tryd.func34 (by kernel_rfl) rfl #[.string x0_1, .string x1_1] rfl mq ?_; (with_reducible refine (decimal_DivMod.calls (hT := HT.out.below bq) k1 x0_1 x1_1 t269 t270 t271 _ A4.out).mono ?_); rintro e w6 ⟨rfl, hb⟩; refine ⟨_, rfl, ?_⟩; replace HB := Aside0.mk (below_step bq hb); (try clear hb); (try clear hb2); (try clear hk); (try clear hi)))
          go_roundg k1
          case measure => have := HK1.out; omega
          case rel => exact ⟨(x1_1), (t270), (by first | rfl | (simp; done) | (simp [*]; done)), (by first | rfl | (simp; done) | (simp [*]; done)), H', ⟨by have := HK1.out; omega⟩, ⟨bq⟩⟩
        · rw [if_neg c5] at H
          have c5b0 : (t271 == 0) = false := beq_eq_false_iff_ne.mpr c5
          have c5b1 : (t271 != 0) = true := bne_iff_ne.mpr c5
          obtain rfl := Option.some.inj H
          go_wp2_with (first | ((with_reducible refine gate_callee (f := 34) rfl ?_); refine goesL_ (some 13) rfl rfl Tryd.func34 (by kernel_rfl) rfl #[.string x0_1, .string x1_1] rfl mq ?_; (with_reducible refine (decimal_DivMod.calls (hT := HT.out.below bq) k1 x0_1 x1_1 t269 t270 t271 _ A4.out).mono ?_); rintro e w7 ⟨rfl, hb⟩; refine ⟨_, rfl, ?_⟩; replace HB := Aside0.mk (below_step bq hb); (try clear hb); (try clear hb2); (try clear hk); (try clear hi)))
          go_ret
          exact ⟨eq_, bq⟩
def decimal_Lcm.j0 : Nat → ByteArray → ByteArray → Bool → Option (ByteArray)
  | 0, _, _, _ => none
  | k + 1, x0, x1, x13 => if x13 = true then (some (⟨#[48]⟩ : ByteArray)) else ((decimal_Gcd.f k x0 x1).bind fun t272 => ((decimal_DivMod.f k x0 t272).bind fun bt273 => (if bt273.2.2 = 0 then ((decimal_Mul.f k bt273.1 x1).bind fun t276 => (some t276)) else (some (⟨#[]⟩ : ByteArray)))))
def decimal_Lcm.f (k : Nat) (a0 : ByteArray) (a1 : ByteArray) : Option (ByteArray) := if a0.toList = ([48] : List UInt8) then (decimal_Lcm.j0 k a0 a1 true) else (decimal_Lcm.j0 k a0 a1 (a1.toList == ([48] : List UInt8)))
theorem decimal_Lcm.mono_l : ∀ k, (∀ y0 y1 y2, LeO (decimal_Lcm.j0 k y0 y1 y2) (decimal_Lcm.j0 (k + 1) y0 y1 y2))
  | 0 => fun _ _ _ r h => by simp [decimal_Lcm.j0] at h
  | k + 1 => by
    have ih0 := decimal_Lcm.mono_l k
    · intro y0 y1 y2
      unfold decimal_Lcm.j0
      repeat' first
      | (with_reducible exact ih0 _ _ _)
      | (with_reducible exact decimal_DivMod.mono _ _ _)
      | (with_reducible exact decimal_Gcd.mono _ _ _)
      | (with_reducible exact decimal_Mul.mono _ _ _)
      | (with_reducible exact LeO.refl _)
      | (with_reducible exact LeO.none _)
      | (with_reducible refine LeO.ite ?_ ?_)
      | (with_reducible refine LeO.bind ?_ (fun _ => ?_))
      | exact ih0 _ _ _
      | exact decimal_DivMod.mono _ _ _
      | exact decimal_Gcd.mono _ _ _
      | exact decimal_Mul.mono _ _ _
      | exact LeO.none _
      | refine LeO.ite ?_ ?_
      | refine LeO.bind ?_ (fun _ => ?_)
theorem decimal_Lcm.mono : ∀ a0 a1 k, LeO (decimal_Lcm.f k a0 a1) (decimal_Lcm.f (k + 1) a0 a1) := by
  intro a0 a1 k
  have ih0 := decimal_Lcm.mono_l k
  unfold decimal_Lcm.f
  repeat' first
      | (with_reducible exact ih0 _ _ _)
      | (with_reducible exact decimal_DivMod.mono _ _ _)
      | (with_reducible exact decimal_Gcd.mono _ _ _)
      | (with_reducible exact decimal_Mul.mono _ _ _)
      | (with_reducible exact LeO.refl _)
      | (with_reducible exact LeO.none _)
      | (with_reducible refine LeO.ite ?_ ?_)
      | (with_reducible refine LeO.bind ?_ (fun _ => ?_))
      | exact ih0 _ _ _
      | exact decimal_DivMod.mono _ _ _
      | exact decimal_Gcd.mono _ _ _
      | exact decimal_Mul.mono _ _ _
      | exact LeO.none _
      | refine LeO.ite ?_ ?_
      | refine LeO.bind ?_ (fun _ => ?_)
set_option maxHeartbeats 8000000 in
set_option maxRecDepth 100000 in
theorem decimal_Lcm.calls (k : Nat) (a0 : ByteArray) (a1 : ByteArray) (r : ByteArray) (w : World) (hT : Tab w) (h : decimal_Lcm.f k a0 a1 = some r) :
    Calls Tryd.prog 33 #[.string a0, .string a1] w fun e w' => e = .returned (.string r) ∧ Below w.heap.size w w' := by
  have HT := Aside0.mk hT
  clear hT
  have HB := Aside0.mk (Below.refl w.heap.size w)
  have H : (if a0.toList = ([48] : List UInt8) then (decimal_Lcm.j0 k a0 a1 true) else (decimal_Lcm.j0 k a0 a1 (a1.toList == ([48] : List UInt8)))) = some r := h
  clear h
  have HC3 := Aside0.mk H
  clear H
  go_enter Tryd.func33, Tryd.ntmps33
  go_upto_region 1 with (fail)
  go_cut [13] (fun v13 wc => ∃ (kq : Nat) (x13_2 : Bool), v13 = .bool x13_2 ∧ Aside0 (decimal_Lcm.j0 kq a0 a1 x13_2 = some r) ∧ Aside0 (kq ≤ k) ∧ Aside0 (Below w.heap.size w wc))
  case first =>
    have H := HC3.out
    clear HC3
    by_cases c4 : a0.toList = ([48] : List UInt8)
    · rw [if_pos c4] at H
      have c4b0 : (a0.toList == ([48] : List UInt8)) = true := beq_iff_eq.mpr c4
      have c4b1 : (a0.toList != ([48] : List UInt8)) = false := bne_eq_false_iff_eq.mpr c4
      clear c4
      (first | rw [c4b0] | (simp only [i64_w, i32_w]; rw [c4b0]) | skip)
      have H' := Aside0.mk H
      clear H
      go_wp2
      go_meet
      case rel => exact ⟨_, (true), (by first | rfl | (simp; done) | (simp [*]; done)), H', ⟨by first | omega | exact Nat.le_refl _⟩, ⟨bq⟩⟩
    · rw [if_neg c4] at H
      have c4b0 : (a0.toList == ([48] : List UInt8)) = false := beq_eq_false_iff_ne.mpr c4
      have c4b1 : (a0.toList != ([48] : List UInt8)) = true := bne_iff_ne.mpr c4
      (first | rw [c4b0] | (simp only [i64_w, i32_w]; rw [c4b0]) | skip)
      have H' := Aside0.mk H
      clear H
      go_wp2
      go_meet
      case rel => exact ⟨_, ((a1.toList == ([48] : List UInt8))), (by first | rfl | (simp; done) | (simp [*]; done)), H', ⟨by first | omega | exact Nat.le_refl _⟩, ⟨bq⟩⟩
  case rest =>
    clear HC3
    try clear p2
    try clear c3
    try clear c4
    try clear c4b0
    try clear c4b1
    obtain ⟨kq, x13_2, rfl, HA, HJ2, HB⟩ := hcut
    cases kq with
    | zero => exact absurd HA.out (by simp [decimal_Lcm.j0])
    | succ kj2 =>
      have H := HA.out
      clear HA
      simp only [decimal_Lcm.j0] at H
      by_cases c5 : x13_2 = true
      · subst c5
        have H1 : (some (⟨#[48]⟩ : ByteArray)) = some r := by rw [if_pos rfl] at H; exact H
        clear H
        have H := H1
        clear H1
        obtain rfl := Option.some.inj H
        go_wp2
        go_ret
        exact ⟨eq_, bq⟩
      · replace c5 := Bool.eq_false_iff.mpr c5
        subst c5
        have H1 : ((decimal_Gcd.f kj2 a0 a1).bind fun t272 => ((decimal_DivMod.f kj2 a0 t272).bind fun bt273 => (if bt273.2.2 = 0 then ((decimal_Mul.f kj2 bt273.1 a1).bind fun t276 => (some t276)) else (some (⟨#[]⟩ : ByteArray))))) = some r := by rw [if_neg (show ¬ (false = true) by decide)] at H; exact H
        clear H
        have H := H1
        clear H1
        replace H := Option.bind_eq_some_iff.mp H
        obtain ⟨t272, A60, H⟩ := H
        replace H : ((decimal_DivMod.f kj2 a0 t272).bind fun bt273 => (if bt273.2.2 = 0 then ((decimal_Mul.f kj2 bt273.1 a1).bind fun t276 => (some t276)) else (some (⟨#[]⟩ : ByteArray)))) = some r := H
        have A6 := Aside0.mk A60
        clear A60
        replace H := Option.bind_eq_some_iff.mp H
        obtain ⟨⟨t273, t274, t275⟩, A70, H⟩ := H
        replace H : (if t275 = 0 then ((decimal_Mul.f kj2 t273 a1).bind fun t276 => (some t276)) else (some (⟨#[]⟩ : ByteArray))) = some r := H
        have A7 := Aside0.mk A70
        clear A70
        by_cases c8 : t275 = 0
        · rw [if_pos c8] at H
          have c8b0 : (t275 == 0) = true := beq_iff_eq.mpr c8
          have c8b1 : (t275 != 0) = false := bne_eq_false_iff_eq.mpr c8
          clear c8
          replace H := Option.bind_eq_some_iff.mp H
          obtain ⟨t276, A90, H⟩ := H
          replace H : (some t276) = some r := H
          have A9 := Aside0.mk A90
          clear A90
          obtain rfl := Option.some.inj H
          go_wp2_with (first | ((with_reducible refine gate_callee (f := 32) rfl ?_); refine goesL_ (some 18) rfl rfl Tryd.func32 (by kernel_rfl) rfl #[.string a0, .string a1] rfl mq ?_; (with_reducible refine (decimal_Gcd.calls (hT := HT.out.below bq) kj2 a0 a1 t272 _ A6.out).mono ?_); rintro e w10 ⟨rfl, hb⟩; refine ⟨_, rfl, ?_⟩; replace HB := Aside0.mk (below_step bq hb); (try clear hb); (try clear hb2); (try clear hk); (try clear hi)) | ((with_reducible refine gate_callee (f := 34) rfl ?_); refine goesL_ (some 19) rfl rfl Tryd.func34 (by kernel_rfl) rfl #[.string a0, .string t272] rfl mq ?_; (with_reducible refine (decimal_DivMod.calls (hT := HT.out.below bq) kj2 a0 t272 t273 t274 t275 _ A7.out).mono ?_); rintro e w11 ⟨rfl, hb⟩; refine ⟨_, rfl, ?_⟩; replace HB := Aside0.mk (below_step bq hb); (try clear hb); (try clear hb2); (try clear hk); (try clear hi)) | ((with_reducible refine gate_callee (f := 29) rfl ?_); refine goesL_ (some 27) rfl rfl Tryd.func29 (by kernel_rfl) rfl #[.string t273, .string a1] rfl mq ?_; (with_reducible refine (decimal_Mul.calls (hT := HT.out.below bq) kj2 t273 a1 t276 _ A9.out).mono ?_); rintro e w12 ⟨rfl, hb⟩; refine ⟨_, rfl, ?_⟩; replace HB := Aside0.mk (below_step bq hb); (try clear hb); (try clear hb2); (try clear hk); (try clear hi)))
          go_ret
          exact ⟨eq_, bq⟩
        · rw [if_neg c8] at H
          have c8b0 : (t275 == 0) = false := beq_eq_false_iff_ne.mpr c8
          have c8b1 : (t275 != 0) = true := bne_iff_ne.mpr c8
          obtain rfl := Option.some.inj H
          go_wp2_with (first | ((with_reducible refine gate_callee (f := 32) rfl ?_); refine goesL_ (some 18) rfl rfl Tryd.func32 (by kernel_rfl) rfl #[.string a0, .string a1] rfl mq ?_; (with_reducible refine (decimal_Gcd.calls (hT := HT.out.below bq) kj2 a0 a1 t272 _ A6.out).mono ?_); rintro e w13 ⟨rfl, hb⟩; refine ⟨_, rfl, ?_⟩; replace HB := Aside0.mk (below_step bq hb); (try clear hb); (try clear hb2); (try clear hk); (try clear hi)) | ((with_reducible refine gate_callee (f := 34) rfl ?_); refine goesL_ (some 19) rfl rfl Tryd.func34 (by kernel_rfl) rfl #[.string a0, .string t272] rfl mq ?_; (with_reducible refine (decimal_DivMod.calls (hT := HT.out.below bq) kj2 a0 t272 t273 t274 t275 _ A7.out).mono ?_); rintro e w14 ⟨rfl, hb⟩; refine ⟨_, rfl, ?_⟩; replace HB := Aside0.mk (below_step bq hb); (try clear hb); (try clear hb2); (try clear hk); (try clear hi)))
          go_ret
          exact ⟨eq_, bq⟩
def whole_Lcm.f (k : Nat) (a0 : ByteArray) (a1 : ByteArray) : Option (ByteArray) := (whole_Abs.f a0).bind fun t277 => ((whole_Abs.f a1).bind fun t278 => ((decimal_Lcm.f k t277 t278).bind fun t279 => (some t279)))
theorem whole_Lcm.mono : ∀ a0 a1 k, LeO (whole_Lcm.f k a0 a1) (whole_Lcm.f (k + 1) a0 a1) := by
  intro a0 a1 k
  unfold whole_Lcm.f
  repeat' first
      | (with_reducible exact decimal_Lcm.mono _ _ _)
      | (with_reducible exact LeO.refl _)
      | (with_reducible exact LeO.none _)
      | (with_reducible refine LeO.ite ?_ ?_)
      | (with_reducible refine LeO.bind ?_ (fun _ => ?_))
      | exact decimal_Lcm.mono _ _ _
      | exact LeO.none _
      | refine LeO.ite ?_ ?_
      | refine LeO.bind ?_ (fun _ => ?_)
set_option maxHeartbeats 8000000 in
set_option maxRecDepth 100000 in
theorem whole_Lcm.calls (k : Nat) (a0 : ByteArray) (a1 : ByteArray) (r : ByteArray) (w : World) (hT : Tab w) (h : whole_Lcm.f k a0 a1 = some r) :
    Calls Tryd.prog 13 #[.string a0, .string a1] w fun e w' => e = .returned (.string r) ∧ Below w.heap.size w w' := by
  have HT := Aside0.mk hT
  clear hT
  have HB := Aside0.mk (Below.refl w.heap.size w)
  have H : ((whole_Abs.f a0).bind fun t277 => ((whole_Abs.f a1).bind fun t278 => ((decimal_Lcm.f k t277 t278).bind fun t279 => (some t279)))) = some r := h
  clear h
  replace H := Option.bind_eq_some_iff.mp H
  obtain ⟨t277, A30, H⟩ := H
  replace H : ((whole_Abs.f a1).bind fun t278 => ((decimal_Lcm.f k t277 t278).bind fun t279 => (some t279))) = some r := H
  have A3 := Aside0.mk A30
  clear A30
  replace H := Option.bind_eq_some_iff.mp H
  obtain ⟨t278, A40, H⟩ := H
  replace H : ((decimal_Lcm.f k t277 t278).bind fun t279 => (some t279)) = some r := H
  have A4 := Aside0.mk A40
  clear A40
  replace H := Option.bind_eq_some_iff.mp H
  obtain ⟨t279, A50, H⟩ := H
  replace H : (some t279) = some r := H
  have A5 := Aside0.mk A50
  clear A50
  obtain rfl := Option.some.inj H
  go_enter Tryd.func13, Tryd.ntmps13
  go_wp2_with (first | ((with_reducible refine gate_callee (f := 14) rfl ?_); refine goesL_ (some 6) rfl rfl Tryd.func14 (by kernel_rfl) rfl #[.string a0] rfl mq ?_; (with_reducible refine (whole_Abs.calls a0 t277 _ A3.out).mono ?_); rintro e w' ⟨rfl, ⟨nd, rfl⟩⟩; refine ⟨_, rfl, ?_⟩) | ((with_reducible refine gate_callee (f := 14) rfl ?_); refine goesL_ (some 8) rfl rfl Tryd.func14 (by kernel_rfl) rfl #[.string a1] rfl mq ?_; (with_reducible refine (whole_Abs.calls a1 t278 _ A4.out).mono ?_); rintro e w' ⟨rfl, ⟨nd, rfl⟩⟩; refine ⟨_, rfl, ?_⟩) | ((with_reducible refine gate_callee (f := 33) rfl ?_); refine goesL_ (some 9) rfl rfl Tryd.func33 (by kernel_rfl) rfl #[.string t277, .string t278] rfl mq ?_; (with_reducible refine (decimal_Lcm.calls (hT := HT.out.below bq) k t277 t278 t279 _ A5.out).mono ?_); rintro e w6 ⟨rfl, hb⟩; refine ⟨_, rfl, ?_⟩; replace HB := Aside0.mk (below_step bq hb); (try clear hb); (try clear hb2); (try clear hk); (try clear hi)))
  go_ret
  exact ⟨eq_, bq⟩
def whole_Of.f (a0 : Int) : Option (ByteArray) := (strconv_Itoa.f a0).bind fun t280 => (some t280)
set_option maxHeartbeats 8000000 in
set_option maxRecDepth 100000 in
theorem whole_Of.calls (a0 : Int) (r : ByteArray) (w : World) (hT : Tab w) (h : whole_Of.f a0 = some r) :
    Calls Tryd.prog 24 #[.int .i64 a0] w fun e w' => e = .returned (.string r) ∧ Below w.heap.size w w' := by
  have HT := Aside0.mk hT
  clear hT
  have HB := Aside0.mk (Below.refl w.heap.size w)
  have H : ((strconv_Itoa.f a0).bind fun t280 => (some t280)) = some r := h
  clear h
  replace H := Option.bind_eq_some_iff.mp H
  obtain ⟨t280, A20, H⟩ := H
  replace H : (some t280) = some r := H
  have A2 := Aside0.mk A20
  clear A20
  obtain rfl := Option.some.inj H
  go_enter Tryd.func24, Tryd.ntmps24
  go_wp2_with (first | ((with_reducible refine gate_callee (f := 41) rfl ?_); refine goesL_ (some 4) rfl rfl Tryd.func41 (by kernel_rfl) rfl #[.int .i64 a0] rfl mq ?_; (with_reducible refine (strconv_Itoa.calls (hT := HT.out.below bq) a0 t280 _ A2.out).mono ?_); rintro e w3 ⟨rfl, hb⟩; refine ⟨_, rfl, ?_⟩; replace HB := Aside0.mk (below_step bq hb); (try clear hb); (try clear hb2); (try clear hk); (try clear hi)))
  go_ret
  exact ⟨eq_, bq⟩
def whole_Mul.j0 : Nat → ByteArray → ByteArray → Option (ByteArray)
  | 0, _, _ => none
  | k + 1, x0, x1 => (whole_split.f x0).bind fun bt286 => ((whole_split.f x1).bind fun bt288 => ((decimal_Mul.f k bt286.2 bt288.2).bind fun t290 => ((whole_join.f (bt286.1 != bt288.1) t290).bind fun t291 => (some t291))))
def whole_Mul.f (k : Nat) (a0 : ByteArray) (a1 : ByteArray) : Option (ByteArray) := (whole_little.f a0 9).bind fun bt281 => (if bt281.2 = true then ((whole_little.f a1 9).bind fun bt283 => (if bt283.2 = true then ((whole_Of.f (wrap64 (bt281.1 * bt283.1))).bind fun t285 => (some t285)) else (whole_Mul.j0 k a0 a1))) else (whole_Mul.j0 k a0 a1))
theorem whole_Mul.mono_l : ∀ k, (∀ y0 y1, LeO (whole_Mul.j0 k y0 y1) (whole_Mul.j0 (k + 1) y0 y1))
  | 0 => fun _ _ r h => by simp [whole_Mul.j0] at h
  | k + 1 => by
    have ih0 := whole_Mul.mono_l k
    · intro y0 y1
      unfold whole_Mul.j0
      repeat' first
      | (with_reducible exact ih0 _ _)
      | (with_reducible exact decimal_Mul.mono _ _ _)
      | (with_reducible exact LeO.refl _)
      | (with_reducible exact LeO.none _)
      | (with_reducible refine LeO.ite ?_ ?_)
      | (with_reducible refine LeO.bind ?_ (fun _ => ?_))
      | exact ih0 _ _
      | exact decimal_Mul.mono _ _ _
      | exact LeO.none _
      | refine LeO.ite ?_ ?_
      | refine LeO.bind ?_ (fun _ => ?_)
theorem whole_Mul.mono : ∀ a0 a1 k, LeO (whole_Mul.f k a0 a1) (whole_Mul.f (k + 1) a0 a1) := by
  intro a0 a1 k
  have ih0 := whole_Mul.mono_l k
  unfold whole_Mul.f
  repeat' first
      | (with_reducible exact ih0 _ _)
      | (with_reducible exact decimal_Mul.mono _ _ _)
      | (with_reducible exact LeO.refl _)
      | (with_reducible exact LeO.none _)
      | (with_reducible refine LeO.ite ?_ ?_)
      | (with_reducible refine LeO.bind ?_ (fun _ => ?_))
      | exact ih0 _ _
      | exact decimal_Mul.mono _ _ _
      | exact LeO.none _
      | refine LeO.ite ?_ ?_
      | refine LeO.bind ?_ (fun _ => ?_)
set_option maxHeartbeats 8000000 in
set_option maxRecDepth 100000 in
theorem whole_Mul.calls (k : Nat) (a0 : ByteArray) (a1 : ByteArray) (r : ByteArray) (w : World) (hT : Tab w) (h : whole_Mul.f k a0 a1 = some r) :
    Calls Tryd.prog 9 #[.string a0, .string a1] w fun e w' => e = .returned (.string r) ∧ Below w.heap.size w w' := by
  have HT := Aside0.mk hT
  clear hT
  have HB := Aside0.mk (Below.refl w.heap.size w)
  have H : ((whole_little.f a0 9).bind fun bt281 => (if bt281.2 = true then ((whole_little.f a1 9).bind fun bt283 => (if bt283.2 = true then ((whole_Of.f (wrap64 (bt281.1 * bt283.1))).bind fun t285 => (some t285)) else (whole_Mul.j0 k a0 a1))) else (whole_Mul.j0 k a0 a1))) = some r := h
  clear h
  replace H := Option.bind_eq_some_iff.mp H
  obtain ⟨⟨t281, t282⟩, A30, H⟩ := H
  replace H : (if t282 = true then ((whole_little.f a1 9).bind fun bt283 => (if bt283.2 = true then ((whole_Of.f (wrap64 (t281 * bt283.1))).bind fun t285 => (some t285)) else (whole_Mul.j0 k a0 a1))) else (whole_Mul.j0 k a0 a1)) = some r := H
  have A3 := Aside0.mk A30
  clear A30
  have HC4 := Aside0.mk H
  clear H
  go_enter Tryd.func9, Tryd.ntmps9
  go_upto_if 18 with (first | ((with_reducible refine gate_callee (f := 23) rfl ?_); refine goesL_ (some 15) rfl rfl Tryd.func23 (by kernel_rfl) rfl #[.string a0, .int .i64 9] rfl mq ?_; (with_reducible refine (whole_little.calls a0 9 t281 t282 _ A3.out).mono ?_); rintro e w5 ⟨rfl, hb⟩; refine ⟨_, rfl, ?_⟩; replace HB := Aside0.mk (below_step bq hb); (try clear hb); (try clear hb2); (try clear hk); (try clear hi)))
  (try simp only [Act.put, List.setIfInBounds_toArray, List.set_cons_zero, List.set_cons_succ])
  go_cut [] (fun wc => ∃ (kq : Nat), Aside0 (whole_Mul.j0 kq a0 a1 = some r) ∧ Aside0 (kq ≤ k) ∧ Aside0 (Below w.heap.size w wc))
  case first =>
    have H := HC4.out
    clear HC4
    by_cases c6 : t282 = true
    · subst c6
      have H1 : ((whole_little.f a1 9).bind fun bt283 => (if bt283.2 = true then ((whole_Of.f (wrap64 (t281 * bt283.1))).bind fun t285 => (some t285)) else (whole_Mul.j0 k a0 a1))) = some r := by rw [if_pos rfl] at H; exact H
      clear H
      have H := H1
      clear H1
      replace H := Option.bind_eq_some_iff.mp H
      obtain ⟨⟨t283, t284⟩, A70, H⟩ := H
      replace H : (if t284 = true then ((whole_Of.f (wrap64 (t281 * t283))).bind fun t285 => (some t285)) else (whole_Mul.j0 k a0 a1)) = some r := H
      have A7 := Aside0.mk A70
      clear A70
      by_cases c8 : t284 = true
      · subst c8
        have H1 : ((whole_Of.f (wrap64 (t281 * t283))).bind fun t285 => (some t285)) = some r := by rw [if_pos rfl] at H; exact H
        clear H
        have H := H1
        clear H1
        replace H := Option.bind_eq_some_iff.mp H
        obtain ⟨t285, A90, H⟩ := H
        replace H : (some t285) = some r := H
        have A9 := Aside0.mk A90
        clear A90
        obtain rfl := Option.some.inj H
        go_wp2_with (first | ((with_reducible refine gate_callee (f := 23) rfl ?_); refine goesL_ (some 21) rfl rfl Tryd.func23 (by kernel_rfl) rfl #[.string a1, .int .i64 9] rfl mq ?_; (with_reducible refine (whole_little.calls a1 9 t283 true _ A7.out).mono ?_); rintro e w10 ⟨rfl, hb⟩; refine ⟨_, rfl, ?_⟩; replace HB := Aside0.mk (below_step bq hb); (try clear hb); (try clear hb2); (try clear hk); (try clear hi)) | ((with_reducible refine gate_callee (f := 24) rfl ?_); refine goesL_ (some 28) rfl rfl Tryd.func24 (by kernel_rfl) rfl #[.int .i64 (wrap64 (t281 * t283))] rfl mq ?_; (with_reducible refine (whole_Of.calls (hT := HT.out.below bq) (wrap64 (t281 * t283)) t285 _ A9.out).mono ?_); rintro e w11 ⟨rfl, hb⟩; refine ⟨_, rfl, ?_⟩; replace HB := Aside0.mk (below_step bq hb); (try clear hb); (try clear hb2); (try clear hk); (try clear hi)))
        go_ret
        exact ⟨eq_, bq⟩
      · replace c8 := Bool.eq_false_iff.mpr c8
        subst c8
        have H1 : (whole_Mul.j0 k a0 a1) = some r := by rw [if_neg (show ¬ (false = true) by decide)] at H; exact H
        clear H
        have H := H1
        clear H1
        have H' := Aside0.mk H
        clear H
        go_wp2_with (first | ((with_reducible refine gate_callee (f := 23) rfl ?_); refine goesL_ (some 21) rfl rfl Tryd.func23 (by kernel_rfl) rfl #[.string a1, .int .i64 9] rfl mq ?_; (with_reducible refine (whole_little.calls a1 9 t283 false _ A7.out).mono ?_); rintro e w12 ⟨rfl, hb⟩; refine ⟨_, rfl, ?_⟩; replace HB := Aside0.mk (below_step bq hb); (try clear hb); (try clear hb2); (try clear hk); (try clear hi)))
        go_meet
        case rel => exact ⟨_, H', ⟨by first | omega | exact Nat.le_refl _⟩, ⟨bq⟩⟩
    · replace c6 := Bool.eq_false_iff.mpr c6
      subst c6
      have H1 : (whole_Mul.j0 k a0 a1) = some r := by rw [if_neg (show ¬ (false = true) by decide)] at H; exact H
      clear H
      have H := H1
      clear H1
      have H' := Aside0.mk H
      clear H
      go_wp2
      go_meet
      case rel => exact ⟨_, H', ⟨by first | omega | exact Nat.le_refl _⟩, ⟨bq⟩⟩
  case rest =>
    clear HC4
    try clear c2
    try clear p2
    try clear c6
    try clear p6
    try clear c8
    try clear c9
    obtain ⟨kq, HA, HJ3, HB⟩ := hcut
    cases kq with
    | zero => exact absurd HA.out (by simp [whole_Mul.j0])
    | succ kj3 =>
      have H := HA.out
      clear HA
      simp only [whole_Mul.j0] at H
      replace H := Option.bind_eq_some_iff.mp H
      obtain ⟨⟨t286, t287⟩, A130, H⟩ := H
      replace H : ((whole_split.f a1).bind fun bt288 => ((decimal_Mul.f kj3 t287 bt288.2).bind fun t290 => ((whole_join.f (t286 != bt288.1) t290).bind fun t291 => (some t291)))) = some r := H
      have A13 := Aside0.mk A130
      clear A130
      replace H := Option.bind_eq_some_iff.mp H
      obtain ⟨⟨t288, t289⟩, A140, H⟩ := H
      replace H : ((decimal_Mul.f kj3 t287 t289).bind fun t290 => ((whole_join.f (t286 != t288) t290).bind fun t291 => (some t291))) = some r := H
      have A14 := Aside0.mk A140
      clear A140
      replace H := Option.bind_eq_some_iff.mp H
      obtain ⟨t290, A150, H⟩ := H
      replace H : ((whole_join.f (t286 != t288) t290).bind fun t291 => (some t291)) = some r := H
      have A15 := Aside0.mk A150
      clear A150
      replace H := Option.bind_eq_some_iff.mp H
      obtain ⟨t291, A160, H⟩ := H
      replace H : (some t291) = some r := H
      have A16 := Aside0.mk A160
      clear A160
      obtain rfl := Option.some.inj H
      have A16n := A16
      try rw [neq_bools] at A16n
      go_wp2_with (first | ((with_reducible refine gate_callee (f := 25) rfl ?_); refine goesL_ (some 31) rfl rfl Tryd.func25 (by kernel_rfl) rfl #[.string a0] rfl mq ?_; (with_reducible refine (whole_split.calls a0 t286 t287 _ A13.out).mono ?_); rintro e w' ⟨rfl, ⟨nd, rfl⟩⟩; refine ⟨_, rfl, ?_⟩) | ((with_reducible refine gate_callee (f := 25) rfl ?_); refine goesL_ (some 36) rfl rfl Tryd.func25 (by kernel_rfl) rfl #[.string a1] rfl mq ?_; (with_reducible refine (whole_split.calls a1 t288 t289 _ A14.out).mono ?_); rintro e w' ⟨rfl, ⟨nd, rfl⟩⟩; refine ⟨_, rfl, ?_⟩) | ((with_reducible refine gate_callee (f := 29) rfl ?_); refine goesL_ (some 44) rfl rfl Tryd.func29 (by kernel_rfl) rfl #[.string t287, .string t289] rfl mq ?_; (with_reducible refine (decimal_Mul.calls (hT := HT.out.below bq) kj3 t287 t289 t290 _ A15.out).mono ?_); rintro e w17 ⟨rfl, hb⟩; refine ⟨_, rfl, ?_⟩; replace HB := Aside0.mk (below_step bq hb); (try clear hb); (try clear hb2); (try clear hk); (try clear hi)) | ((with_reducible refine gate_callee (f := 22) rfl ?_); refine goesL_ (some 45) rfl rfl Tryd.func22 (by kernel_rfl) rfl #[.bool (t286 != t288), .string t290] rfl mq ?_; (first | with_reducible refine (whole_join.calls (t286 != t288) t290 t291 _ A16.out).mono ?_ | with_reducible refine (whole_join.calls (!(t286 == t288)) t290 t291 _ A16n.out).mono ?_); rintro e w' ⟨rfl, ⟨nd, rfl⟩⟩; refine ⟨_, rfl, ?_⟩))
      go_ret
      exact ⟨eq_, bq⟩
def decimal_Add.f (k : Nat) (a0 : ByteArray) (a1 : ByteArray) : Option (ByteArray) := (decimal_both.f k a0 a1).bind fun bt292 => (if bt292.2.2 = true then ((decimal_Of.f (IntKind.u64.wrap (bt292.1 + bt292.2.1))).bind fun t295 => (some t295)) else ((decimal_cut.f k a0).bind fun t296 => ((decimal_cut.f k a1).bind fun t299 => (if (t296.length : Int) < (t299.length : Int) then (if t299.length < 17592186044416 then ((some (t299 ++ [0] : List Int)).bind fun y302 => (if 0 ≤ (wrap64 ((wrap64 ((y302.length : Int) - 1)) - (t296.length : Int))) then (if t296.length + (wrap64 ((wrap64 ((y302.length : Int) - 1)) - (t296.length : Int)) : Int).toNat < 17592186044416 then ((decimal_pieces_back.f k y302 (t296 ++ List.replicate (wrap64 ((wrap64 ((y302.length : Int) - 1)) - (t296.length : Int)) : Int).toNat 0) 0).bind fun t308 => ((decimal_pieces_trim.f k t308).bind fun t309 => ((decimal_pieces_text.f k t309).bind fun t312 => (some t312)))) else (none)) else (none))) else (none)) else (if t296.length < 17592186044416 then ((some (t296 ++ [0] : List Int)).bind fun y313 => (if 0 ≤ (wrap64 ((wrap64 ((y313.length : Int) - 1)) - (t299.length : Int))) then (if t299.length + (wrap64 ((wrap64 ((y313.length : Int) - 1)) - (t299.length : Int)) : Int).toNat < 17592186044416 then ((decimal_pieces_back.f k y313 (t299 ++ List.replicate (wrap64 ((wrap64 ((y313.length : Int) - 1)) - (t299.length : Int)) : Int).toNat 0) 0).bind fun t319 => ((decimal_pieces_trim.f k t319).bind fun t320 => ((decimal_pieces_text.f k t320).bind fun t323 => (some t323)))) else (none)) else (none))) else (none))))))
theorem decimal_Add.mono : ∀ a0 a1 k, LeO (decimal_Add.f k a0 a1) (decimal_Add.f (k + 1) a0 a1) := by
  intro a0 a1 k
  unfold decimal_Add.f
  repeat' first
      | (with_reducible exact decimal_both.mono _ _ _)
      | (with_reducible exact decimal_cut.mono _ _)
      | (with_reducible exact decimal_pieces_back.mono _ _ _ _)
      | (with_reducible exact decimal_pieces_text.mono _ _)
      | (with_reducible exact decimal_pieces_trim.mono _ _)
      | (with_reducible exact LeO.refl _)
      | (with_reducible exact LeO.none _)
      | (with_reducible refine LeO.ite ?_ ?_)
      | (with_reducible refine LeO.bind ?_ (fun _ => ?_))
      | exact decimal_both.mono _ _ _
      | exact decimal_cut.mono _ _
      | exact decimal_pieces_back.mono _ _ _ _
      | exact decimal_pieces_text.mono _ _
      | exact decimal_pieces_trim.mono _ _
      | exact LeO.none _
      | refine LeO.ite ?_ ?_
      | refine LeO.bind ?_ (fun _ => ?_)
set_option maxHeartbeats 8000000 in
set_option maxRecDepth 100000 in
theorem decimal_Add.calls (k : Nat) (a0 : ByteArray) (a1 : ByteArray) (r : ByteArray) (w : World) (hT : Tab w) (h : decimal_Add.f k a0 a1 = some r) :
    Calls Tryd.prog 26 #[.string a0, .string a1] w fun e w' => e = .returned (.string r) ∧ Below w.heap.size w w' := by
  have HT := Aside0.mk hT
  clear hT
  have HB := Aside0.mk (Below.refl w.heap.size w)
  have H : ((decimal_both.f k a0 a1).bind fun bt292 => (if bt292.2.2 = true then ((decimal_Of.f (IntKind.u64.wrap (bt292.1 + bt292.2.1))).bind fun t295 => (some t295)) else ((decimal_cut.f k a0).bind fun t296 => ((decimal_cut.f k a1).bind fun t299 => (if (t296.length : Int) < (t299.length : Int) then (if t299.length < 17592186044416 then ((some (t299 ++ [0] : List Int)).bind fun y302 => (if 0 ≤ (wrap64 ((wrap64 ((y302.length : Int) - 1)) - (t296.length : Int))) then (if t296.length + (wrap64 ((wrap64 ((y302.length : Int) - 1)) - (t296.length : Int)) : Int).toNat < 17592186044416 then ((decimal_pieces_back.f k y302 (t296 ++ List.replicate (wrap64 ((wrap64 ((y302.length : Int) - 1)) - (t296.length : Int)) : Int).toNat 0) 0).bind fun t308 => ((decimal_pieces_trim.f k t308).bind fun t309 => ((decimal_pieces_text.f k t309).bind fun t312 => (some t312)))) else (none)) else (none))) else (none)) else (if t296.length < 17592186044416 then ((some (t296 ++ [0] : List Int)).bind fun y313 => (if 0 ≤ (wrap64 ((wrap64 ((y313.length : Int) - 1)) - (t299.length : Int))) then (if t299.length + (wrap64 ((wrap64 ((y313.length : Int) - 1)) - (t299.length : Int)) : Int).toNat < 17592186044416 then ((decimal_pieces_back.f k y313 (t299 ++ List.replicate (wrap64 ((wrap64 ((y313.length : Int) - 1)) - (t299.length : Int)) : Int).toNat 0) 0).bind fun t319 => ((decimal_pieces_trim.f k t319).bind fun t320 => ((decimal_pieces_text.f k t320).bind fun t323 => (some t323)))) else (none)) else (none))) else (none))))))) = some r := h
  clear h
  replace H := Option.bind_eq_some_iff.mp H
  obtain ⟨⟨t292, t293, t294⟩, A30, H⟩ := H
  replace H : (if t294 = true then ((decimal_Of.f (IntKind.u64.wrap (t292 + t293))).bind fun t295 => (some t295)) else ((decimal_cut.f k a0).bind fun t296 => ((decimal_cut.f k a1).bind fun t299 => (if (t296.length : Int) < (t299.length : Int) then (if t299.length < 17592186044416 then ((some (t299 ++ [0] : List Int)).bind fun y302 => (if 0 ≤ (wrap64 ((wrap64 ((y302.length : Int) - 1)) - (t296.length : Int))) then (if t296.length + (wrap64 ((wrap64 ((y302.length : Int) - 1)) - (t296.length : Int)) : Int).toNat < 17592186044416 then ((decimal_pieces_back.f k y302 (t296 ++ List.replicate (wrap64 ((wrap64 ((y302.length : Int) - 1)) - (t296.length : Int)) : Int).toNat 0) 0).bind fun t308 => ((decimal_pieces_trim.f k t308).bind fun t309 => ((decimal_pieces_text.f k t309).bind fun t312 => (some t312)))) else (none)) else (none))) else (none)) else (if t296.length < 17592186044416 then ((some (t296 ++ [0] : List Int)).bind fun y313 => (if 0 ≤ (wrap64 ((wrap64 ((y313.length : Int) - 1)) - (t299.length : Int))) then (if t299.length + (wrap64 ((wrap64 ((y313.length : Int) - 1)) - (t299.length : Int)) : Int).toNat < 17592186044416 then ((decimal_pieces_back.f k y313 (t299 ++ List.replicate (wrap64 ((wrap64 ((y313.length : Int) - 1)) - (t299.length : Int)) : Int).toNat 0) 0).bind fun t319 => ((decimal_pieces_trim.f k t319).bind fun t320 => ((decimal_pieces_text.f k t320).bind fun t323 => (some t323)))) else (none)) else (none))) else (none)))))) = some r := H
  have A3 := Aside0.mk A30
  clear A30
  by_cases c4 : t294 = true
  · subst c4
    have H1 : ((decimal_Of.f (IntKind.u64.wrap (t292 + t293))).bind fun t295 => (some t295)) = some r := by rw [if_pos rfl] at H; exact H
    clear H
    have H := H1
    clear H1
    replace H := Option.bind_eq_some_iff.mp H
    obtain ⟨t295, A50, H⟩ := H
    replace H : (some t295) = some r := H
    have A5 := Aside0.mk A50
    clear A50
    obtain rfl := Option.some.inj H
    go_enter Tryd.func26, Tryd.ntmps26
    go_wp2_with (first | ((with_reducible refine gate_callee (f := 42) rfl ?_); refine goesL_ (some 13) rfl rfl Tryd.func42 (by kernel_rfl) rfl #[.string a0, .string a1] rfl mq ?_; (with_reducible refine (decimal_both.calls (hT := HT.out.below bq) k a0 a1 t292 t293 true _ A3.out).mono ?_); rintro e w6 ⟨rfl, hb⟩; refine ⟨_, rfl, ?_⟩; replace HB := Aside0.mk (below_step bq hb); (try clear hb); (try clear hb2); (try clear hk); (try clear hi)) | ((with_reducible refine gate_callee (f := 43) rfl ?_); refine goesL_ (some 21) rfl rfl Tryd.func43 (by kernel_rfl) rfl #[.int .u64 (IntKind.u64.wrap (t292 + t293))] rfl mq ?_; (with_reducible refine (decimal_Of.calls (hT := HT.out.below bq) (IntKind.u64.wrap (t292 + t293)) t295 _ A5.out).mono ?_); rintro e w7 ⟨rfl, hb⟩; refine ⟨_, rfl, ?_⟩; replace HB := Aside0.mk (below_step bq hb); (try clear hb); (try clear hb2); (try clear hk); (try clear hi)))
    go_ret
    exact ⟨eq_, bq⟩
  · replace c4 := Bool.eq_false_iff.mpr c4
    subst c4
    have H1 : ((decimal_cut.f k a0).bind fun t296 => ((decimal_cut.f k a1).bind fun t299 => (if (t296.length : Int) < (t299.length : Int) then (if t299.length < 17592186044416 then ((some (t299 ++ [0] : List Int)).bind fun y302 => (if 0 ≤ (wrap64 ((wrap64 ((y302.length : Int) - 1)) - (t296.length : Int))) then (if t296.length + (wrap64 ((wrap64 ((y302.length : Int) - 1)) - (t296.length : Int)) : Int).toNat < 17592186044416 then ((decimal_pieces_back.f k y302 (t296 ++ List.replicate (wrap64 ((wrap64 ((y302.length : Int) - 1)) - (t296.length : Int)) : Int).toNat 0) 0).bind fun t308 => ((decimal_pieces_trim.f k t308).bind fun t309 => ((decimal_pieces_text.f k t309).bind fun t312 => (some t312)))) else (none)) else (none))) else (none)) else (if t296.length < 17592186044416 then ((some (t296 ++ [0] : List Int)).bind fun y313 => (if 0 ≤ (wrap64 ((wrap64 ((y313.length : Int) - 1)) - (t299.length : Int))) then (if t299.length + (wrap64 ((wrap64 ((y313.length : Int) - 1)) - (t299.length : Int)) : Int).toNat < 17592186044416 then ((decimal_pieces_back.f k y313 (t299 ++ List.replicate (wrap64 ((wrap64 ((y313.length : Int) - 1)) - (t299.length : Int)) : Int).toNat 0) 0).bind fun t319 => ((decimal_pieces_trim.f k t319).bind fun t320 => ((decimal_pieces_text.f k t320).bind fun t323 => (some t323)))) else (none)) else (none))) else (none))))) = some r := by rw [if_neg (show ¬ (false = true) by decide)] at H; exact H
    clear H
    have H := H1
    clear H1
    replace H := Option.bind_eq_some_iff.mp H
    obtain ⟨t296, A80, H⟩ := H
    replace H : ((decimal_cut.f k a1).bind fun t299 => (if (t296.length : Int) < (t299.length : Int) then (if t299.length < 17592186044416 then ((some (t299 ++ [0] : List Int)).bind fun y302 => (if 0 ≤ (wrap64 ((wrap64 ((y302.length : Int) - 1)) - (t296.length : Int))) then (if t296.length + (wrap64 ((wrap64 ((y302.length : Int) - 1)) - (t296.length : Int)) : Int).toNat < 17592186044416 then ((decimal_pieces_back.f k y302 (t296 ++ List.replicate (wrap64 ((wrap64 ((y302.length : Int) - 1)) - (t296.length : Int)) : Int).toNat 0) 0).bind fun t308 => ((decimal_pieces_trim.f k t308).bind fun t309 => ((decimal_pieces_text.f k t309).bind fun t312 => (some t312)))) else (none)) else (none))) else (none)) else (if t296.length < 17592186044416 then ((some (t296 ++ [0] : List Int)).bind fun y313 => (if 0 ≤ (wrap64 ((wrap64 ((y313.length : Int) - 1)) - (t299.length : Int))) then (if t299.length + (wrap64 ((wrap64 ((y313.length : Int) - 1)) - (t299.length : Int)) : Int).toNat < 17592186044416 then ((decimal_pieces_back.f k y313 (t299 ++ List.replicate (wrap64 ((wrap64 ((y313.length : Int) - 1)) - (t299.length : Int)) : Int).toNat 0) 0).bind fun t319 => ((decimal_pieces_trim.f k t319).bind fun t320 => ((decimal_pieces_text.f k t320).bind fun t323 => (some t323)))) else (none)) else (none))) else (none)))) = some r := H
    have A8 := Aside0.mk A80
    clear A80
    replace H := Option.bind_eq_some_iff.mp H
    obtain ⟨t299, A90, H⟩ := H
    replace H : (if (t296.length : Int) < (t299.length : Int) then (if t299.length < 17592186044416 then ((some (t299 ++ [0] : List Int)).bind fun y302 => (if 0 ≤ (wrap64 ((wrap64 ((y302.length : Int) - 1)) - (t296.length : Int))) then (if t296.length + (wrap64 ((wrap64 ((y302.length : Int) - 1)) - (t296.length : Int)) : Int).toNat < 17592186044416 then ((decimal_pieces_back.f k y302 (t296 ++ List.replicate (wrap64 ((wrap64 ((y302.length : Int) - 1)) - (t296.length : Int)) : Int).toNat 0) 0).bind fun t308 => ((decimal_pieces_trim.f k t308).bind fun t309 => ((decimal_pieces_text.f k t309).bind fun t312 => (some t312)))) else (none)) else (none))) else (none)) else (if t296.length < 17592186044416 then ((some (t296 ++ [0] : List Int)).bind fun y313 => (if 0 ≤ (wrap64 ((wrap64 ((y313.length : Int) - 1)) - (t299.length : Int))) then (if t299.length + (wrap64 ((wrap64 ((y313.length : Int) - 1)) - (t299.length : Int)) : Int).toNat < 17592186044416 then ((decimal_pieces_back.f k y313 (t299 ++ List.replicate (wrap64 ((wrap64 ((y313.length : Int) - 1)) - (t299.length : Int)) : Int).toNat 0) 0).bind fun t319 => ((decimal_pieces_trim.f k t319).bind fun t320 => ((decimal_pieces_text.f k t320).bind fun t323 => (some t323)))) else (none)) else (none))) else (none))) = some r := H
    have A9 := Aside0.mk A90
    clear A90
    by_cases c10 : (t296.length : Int) < (t299.length : Int)
    · rw [if_pos c10] at H
      have c10b0 : decide ((t296.length : Int) < (t299.length : Int)) = true := decide_eq_true c10
      have c10b1 : decide (t296.length < t299.length) = true := decide_eq_true (Int.ofNat_lt.mp c10)
      clear c10
      by_cases c11 : t299.length < 17592186044416
      · rw [if_pos c11] at H
        have LMc11 := Aside0.mk c11
        clear c11
        obtain ⟨y302, hy302⟩ : ∃ y_ : List Int, y_ = (t299 ++ [0]) := ⟨_, rfl⟩
        replace H : (if 0 ≤ (wrap64 ((wrap64 ((y302.length : Int) - 1)) - (t296.length : Int))) then (if t296.length + (wrap64 ((wrap64 ((y302.length : Int) - 1)) - (t296.length : Int)) : Int).toNat < 17592186044416 then ((decimal_pieces_back.f k y302 (t296 ++ List.replicate (wrap64 ((wrap64 ((y302.length : Int) - 1)) - (t296.length : Int)) : Int).toNat 0) 0).bind fun t308 => ((decimal_pieces_trim.f k t308).bind fun t309 => ((decimal_pieces_text.f k t309).bind fun t312 => (some t312)))) else (none)) else (none)) = some r := by first | (rw [hy302]; with_reducible exact H) | (have H2_ := (Option.bind_some _ _).symm.trans H; rw [hy302]; with_reducible exact H2_) | (have H2_ := (Option.bind_some _ _).symm.trans H; with_reducible exact H2_) | with_reducible exact H | (rw [hy302]; exact H) | exact H
        have Ny302 := Aside0.mk hy302
        clear hy302
        obtain ⟨ji12, hji12⟩ : ∃ j_ : Int, (wrap64 ((wrap64 ((y302.length : Int) - 1)) - (t296.length : Int))) = j_ := ⟨_, rfl⟩
        replace H : (if 0 ≤ (ji12) then (if t296.length + (ji12 : Int).toNat < 17592186044416 then ((decimal_pieces_back.f k y302 (t296 ++ List.replicate (ji12 : Int).toNat 0) 0).bind fun t308 => ((decimal_pieces_trim.f k t308).bind fun t309 => ((decimal_pieces_text.f k t309).bind fun t312 => (some t312)))) else (none)) else (none)) = some r := by first | (rw [hji12] at H; exact H) | (simp only [hji12] at H ⊢; exact H)
        (try rw [hji12] at A3)
        (try rw [hji12] at A8)
        (try rw [hji12] at A9)
        have hji12w : (IntKind.i64.wrap ((wrap64 ((y302.length : Int) - 1)) - (t296.length : Int))) = ji12 := (i64_w _).trans hji12
        by_cases c13 : 0 ≤ (ji12)
        · rw [if_pos c13] at H
          have c13b0 := eq_true c13
          have c13b1 : decide (0 ≤ (ji12)) = true := decide_eq_true c13
          clear c13
          by_cases c14 : t296.length + (ji12 : Int).toNat < 17592186044416
          · rw [if_pos c14] at H
            have LMc14 := Aside0.mk c14
            clear c14
            obtain ⟨y305, hy305⟩ : ∃ y_ : List Int, y_ = (t296 ++ List.replicate (ji12 : Int).toNat 0) := ⟨_, rfl⟩
            replace H : ((decimal_pieces_back.f k y302 y305 0).bind fun t308 => ((decimal_pieces_trim.f k t308).bind fun t309 => ((decimal_pieces_text.f k t309).bind fun t312 => (some t312)))) = some r := by first | (rw [hy305]; with_reducible exact H) | (have H2_ := (Option.bind_some _ _).symm.trans H; rw [hy305]; with_reducible exact H2_) | (have H2_ := (Option.bind_some _ _).symm.trans H; with_reducible exact H2_) | with_reducible exact H | (rw [hy305]; exact H) | exact H
            have Ny305 := Aside0.mk hy305
            clear hy305
            replace H := Option.bind_eq_some_iff.mp H
            obtain ⟨t308, A150, H⟩ := H
            replace H : ((decimal_pieces_trim.f k t308).bind fun t309 => ((decimal_pieces_text.f k t309).bind fun t312 => (some t312))) = some r := H
            have A15 := Aside0.mk A150
            clear A150
            replace H := Option.bind_eq_some_iff.mp H
            obtain ⟨t309, A160, H⟩ := H
            replace H : ((decimal_pieces_text.f k t309).bind fun t312 => (some t312)) = some r := H
            have A16 := Aside0.mk A160
            clear A160
            replace H := Option.bind_eq_some_iff.mp H
            obtain ⟨t312, A170, H⟩ := H
            replace H : (some t312) = some r := H
            have A17 := Aside0.mk A170
            clear A170
            obtain rfl := Option.some.inj H
            go_enter Tryd.func26, Tryd.ntmps26
            go_wp2_with (first | ((with_reducible refine gate_callee (f := 42) rfl ?_); refine goesL_ (some 13) rfl rfl Tryd.func42 (by kernel_rfl) rfl #[.string a0, .string a1] rfl mq ?_; (with_reducible refine (decimal_both.calls (hT := HT.out.below bq) k a0 a1 t292 t293 false _ A3.out).mono ?_); rintro e w18 ⟨rfl, hb⟩; refine ⟨_, rfl, ?_⟩; replace HB := Aside0.mk (below_step bq hb); (try clear hb); (try clear hb2); (try clear hk); (try clear hi)) | ((with_reducible refine gate_callee (f := 44) rfl ?_); refine goesL_ (some 23) rfl rfl Tryd.func44 (by kernel_rfl) rfl #[.string a0] rfl mq ?_; (with_reducible refine (decimal_cut.calls k a0 t296 _ A8.out).mono ?_); rintro e w19 ⟨v297, rfl, ho0, hb⟩; refine ⟨_, rfl, ?_⟩; have n0_ := Aside0.mk (Kd.R_lower ho0 (below_size bq)); have n1_ := Aside0.mk (below_step bq hb); clear HB; have HO298 := n0_; have HB := n1_; clear n0_ n1_; (try clear hb); (try clear hb2); (try clear hk); (try clear hi); (try clear ho0)) | ((with_reducible refine gate_callee (f := 44) rfl ?_); refine goesL_ (some 25) rfl rfl Tryd.func44 (by kernel_rfl) rfl #[.string a1] rfl mq ?_; (with_reducible refine (decimal_cut.calls k a1 t299 _ A9.out).mono ?_); rintro e w20 ⟨v300, rfl, ho0, hb⟩; refine ⟨_, rfl, ?_⟩; have n0_ := Aside0.mk (Kd.R_elder' (by (with_reducible repeat (first | apply Kd.R_alloc | apply Kd.R_drewN | apply Kd.R_drew)); exact HO298.out) (Kd.R_base ho0) hb); have n1_ := Aside0.mk (Kd.R_lower (Kd.R_new' ho0 (Kd.R_lt (by (with_reducible repeat (first | apply Kd.R_alloc | apply Kd.R_drewN | apply Kd.R_drew)); exact HO298.out))) (below_size bq)); have n2_ := Aside0.mk (below_step bq hb); clear HO298; clear HB; have HO298 := n0_; have HO301 := n1_; have HB := n2_; clear n0_ n1_ n2_; (try clear hb); (try clear hb2); (try clear hk); (try clear hi); (try clear ho0); obtain ⟨Ao21, co21, eo21⟩ := Kd.R_slice HO298.out; subst eo21; obtain ⟨Ao22, co22, eo22⟩ := Kd.R_slice HO301.out; subst eo22) | ((with_reducible refine gate_builtin (b := .append) (xs := #[.tmp 33, .tmp 34]) rfl ?_); at_builtin; refine Kd.R_append (Kd.int .u64) (w0 := w) w.heap.size rfl (.tmp 33) (.tmp 34) 71 66 (.int .u64 0) 8 rfl Tryd.underlying71 info66 rfl (by decide) (by omega) (.slice Ao22 t299.length co22) t299 0 [.int .u64 0] (fun k_ => some k_ ≠ (.slice Ao21 t296.length co21 : Value).ownBlock) (fun _ => False) rfl rfl ?aP (fun _ hk => hk.elim) ?aF ?aO ?aB ?aS ?aL ?_; (case aP => exact rfl); (case aB => exact bq); (case aF => exact (fun k_ hk => Kd.fresh' (Kd.R_lt (by (with_reducible repeat (first | apply Kd.R_alloc | apply Kd.R_drewN | apply Kd.R_drew)); exact HO298.out)) k_ hk)); (case aO => exact (by (with_reducible repeat (first | apply Kd.R_alloc | apply Kd.R_drewN | apply Kd.R_drew)); exact Kd.R_mono HO301.out (fun _ hk => hk.2))); (case aS => exact (below_size bq)); (case aL => have := LMc11.out; omega); intro v303 w23 ho hb hg hat; rw [← Ny302.out] at ho; have n0_ := Aside0.mk (Kd.R_after (ok := (fun _ => True)) (by (with_reducible repeat (first | apply Kd.R_alloc | apply Kd.R_drewN | apply Kd.R_drew)); exact HO298.out) hg hat); have n1_ := Aside0.mk (hb); have n2_ := Aside0.mk (ho); clear HO298; clear HB; clear HO301; have HO298 := n0_; have HB := n1_; have HO304 := n2_; clear n0_ n1_ n2_; clear ho hb hg hat; obtain ⟨Ao24, co24, eo24⟩ := Kd.R_slice HO304.out; subst eo24) | (at_builtin; refine Kd.R_append_zeros (Kd.int .u64) (w0 := w) w.heap.size rfl (.tmp 37) (.tmp 43) 71 3 66 (.int .u64 0) 8 rfl Tryd.underlying71 Tryd.underlying3 info66 rfl (by decide) (by omega) (.slice Ao21 t296.length co21) t296 0 (ji12 : Int) (fun k_ => some k_ ≠ (.slice Ao24 y302.length co24 : Value).ownBlock) rfl rfl rfl ?aF ?aO (of_decide_eq_true (by first | (with_reducible assumption) | assumption)) ?aB ?aS ?aL ?_; (case aB => exact bq); (case aF => exact (fun k_ hk => Kd.fresh' (Kd.R_lt (by (with_reducible repeat (first | apply Kd.R_alloc | apply Kd.R_drewN | apply Kd.R_drew)); exact HO304.out)) k_ hk)); (case aO => exact (by (with_reducible repeat (first | apply Kd.R_alloc | apply Kd.R_drewN | apply Kd.R_drew)); exact Kd.R_mono HO298.out (fun _ hk => hk.2))); (case aS => exact (below_size bq)); (case aL => have := LMc14.out; omega); intro v306 w25 ho hb hg hat; rw [← Ny305.out] at ho; have n0_ := Aside0.mk (Kd.R_after (ok := (fun _ => True)) (by (with_reducible repeat (first | apply Kd.R_alloc | apply Kd.R_drewN | apply Kd.R_drew)); exact Kd.R_mono HO304.out (fun _ hk => ⟨trivial, hk⟩)) hg hat); have n1_ := Aside0.mk (hb); have n2_ := Aside0.mk (ho); clear HO304; clear HB; clear HO298; have HO304 := n0_; have HB := n1_; have HO307 := n2_; clear n0_ n1_ n2_; clear ho hb hg hat; obtain ⟨Ao26, co26, eo26⟩ := Kd.R_slice HO307.out; subst eo26) | ((with_reducible refine gate_callee (f := 45) rfl ?_); refine goesL_ (some 45) rfl rfl Tryd.func45 (by kernel_rfl) rfl #[.slice Ao24 y302.length co24, .slice Ao26 y305.length co26, .int .i64 0] rfl mq ?_; (with_reducible refine (decimal_pieces_back.calls k (fun k_ => some k_ = (.slice Ao24 y302.length co24 : Value).ownBlock) (.slice Ao24 y302.length co24) y302 _ _ y305 0 t308 w _ ?side1 ?side2 ?side3 ?side4 A15.out).mono ?_); (case side1 => exact bq); (case side2 => exact Kd.R_tight rfl HO304.out); (case side3 => exact Kd.C_kept_own (HO307.out) (fun k_ hk_ hs_ => (hk_) hs_)); (case side4 => exact (Kd.R_reads' HO307.out).2.1); rintro e w27 ⟨rfl, hy0, hb, hkp⟩; refine ⟨_, rfl, ?_⟩; have n0_ := Aside0.mk (Kd.R_reok rfl hy0 (fun k_ e_ => HO304.out.1 k_ e_)); have n1_ := Aside0.mk (Kd.R_mono (ok' := fun k_ => some k_ ≠ (.slice Ao24 y302.length co24 : Value).ownBlock) (Kd.R_keptB (HO307.out) hkp (fun k_ hk_ hs_ => (hk_) hs_)) (fun k_ hk_ => hk_.1)); have n2_ := Aside0.mk (hb); clear HO304; clear HO307; clear HB; have HO304 := n0_; have HO307 := n1_; have HB := n2_; clear n0_ n1_ n2_; (try clear hb); (try clear hkp); (try clear hy0)) | ((with_reducible refine gate_callee (f := 46) rfl ?_); refine goesL_ (some 47) rfl rfl Tryd.func46 (by kernel_rfl) rfl #[.slice Ao24 y302.length co24] rfl mq ?_; (with_reducible refine (decimal_pieces_trim.calls k (fun k_ => some k_ = (.slice Ao24 y302.length co24 : Value).ownBlock) (.slice Ao24 y302.length co24) t308 t309 w _ ?side1 ?side2 A16.out).mono ?_); (case side1 => exact bq); (case side2 => exact Kd.R_tight rfl HO304.out); rintro e w28 ⟨v310, rfl, ho0, hb, hkp⟩; refine ⟨_, rfl, ?_⟩; have n0_ := Aside0.mk (Kd.R_mono (ok' := fun k_ => some k_ ≠ (v310 : Value).ownBlock) (Kd.R_keptB (HO307.out) hkp (fun k_ hk_ hs_ => (hk_) hs_)) (fun k_ hk_ => fun e_ => Or.elim (ho0.1 k_ e_.symm) (fun hs_ => hk_.2.1 hs_) (fun hn_ => Nat.not_le.2 hk_.2.2 hn_))); have n1_ := Aside0.mk (Kd.R_mono (ok' := fun k_ => some k_ ≠ (.slice Ao26 y305.length co26 : Value).ownBlock) ho0 (fun k_ hk_ => Or.elim hk_ (fun hs_ => fun e_ => (((HO307.out).1 k_ e_.symm)) hs_) (fun hn_ => (Kd.fresh' (Kd.R_lt (by (with_reducible repeat (first | apply Kd.R_alloc | apply Kd.R_drewN | apply Kd.R_drew)); exact HO307.out)) k_ hn_)))); have n2_ := Aside0.mk (hb); clear HO307; clear HB; clear HO304; have HO307 := n0_; have HO311 := n1_; have HB := n2_; clear n0_ n1_ n2_; (try clear hb); (try clear hkp); (try clear ho0); obtain ⟨Ao29, co29, eo29⟩ := Kd.R_slice HO311.out; subst eo29) | ((with_reducible refine gate_callee (f := 47) rfl ?_); refine goesL_ (some 48) rfl rfl Tryd.func47 (by kernel_rfl) rfl #[.slice Ao29 t309.length co29] rfl mq ?_; (with_reducible refine (decimal_pieces_text.calls k _ _ t309 t312 _ ?side1 ?side2 A17.out).mono ?_); (case side1 => repeat (first | exact (Kd.R_reads' HO311.out).2.2 | (with_reducible refine Kd.C_alloc ?_ _) | (with_reducible refine Kd.C_drewN ?_ _) | (with_reducible refine Kd.C_drew ?_))); (case side2 => exact (Kd.R_reads' HO311.out).2.1); rintro e w30 ⟨rfl, hb⟩; refine ⟨_, rfl, ?_⟩; have n0_ := Aside0.mk (Kd.R_below (by (with_reducible repeat (first | apply Kd.R_alloc | apply Kd.R_drewN | apply Kd.R_drew)); exact HO307.out) hb); have n1_ := Aside0.mk (Kd.R_below (by (with_reducible repeat (first | apply Kd.R_alloc | apply Kd.R_drewN | apply Kd.R_drew)); exact HO311.out) hb); have n2_ := Aside0.mk (below_step bq hb); clear HO307; clear HO311; clear HB; have HO307 := n0_; have HO311 := n1_; have HB := n2_; clear n0_ n1_ n2_; (try clear hb); (try clear hb2); (try clear hk); (try clear hi)))
            go_ret
            exact ⟨by first | rfl | (simp [errW_none, errW_some] <;> rfl) | (simp only [← hji12]; first | rfl | (simp [errW_none, errW_some] <;> rfl)) | (simp [*, errW_none, errW_some] <;> rfl), bq⟩
          · rw [if_neg c14] at H
            exact absurd H (by simp)
        · rw [if_neg c13] at H
          exact absurd H (by simp)
      · rw [if_neg c11] at H
        exact absurd H (by simp)
    · rw [if_neg c10] at H
      have c10b0 : decide ((t296.length : Int) < (t299.length : Int)) = false := decide_eq_false c10
      have c10b1 : decide (t296.length < t299.length) = false := decide_eq_false (fun h => c10 (Int.ofNat_lt.mpr h))
      clear c10
      by_cases c31 : t296.length < 17592186044416
      · rw [if_pos c31] at H
        have LMc31 := Aside0.mk c31
        clear c31
        obtain ⟨y313, hy313⟩ : ∃ y_ : List Int, y_ = (t296 ++ [0]) := ⟨_, rfl⟩
        replace H : (if 0 ≤ (wrap64 ((wrap64 ((y313.length : Int) - 1)) - (t299.length : Int))) then (if t299.length + (wrap64 ((wrap64 ((y313.length : Int) - 1)) - (t299.length : Int)) : Int).toNat < 17592186044416 then ((decimal_pieces_back.f k y313 (t299 ++ List.replicate (wrap64 ((wrap64 ((y313.length : Int) - 1)) - (t299.length : Int)) : Int).toNat 0) 0).bind fun t319 => ((decimal_pieces_trim.f k t319).bind fun t320 => ((decimal_pieces_text.f k t320).bind fun t323 => (some t323)))) else (none)) else (none)) = some r := by first | (rw [hy313]; with_reducible exact H) | (have H2_ := (Option.bind_some _ _).symm.trans H; rw [hy313]; with_reducible exact H2_) | (have H2_ := (Option.bind_some _ _).symm.trans H; with_reducible exact H2_) | with_reducible exact H | (rw [hy313]; exact H) | exact H
        have Ny313 := Aside0.mk hy313
        clear hy313
        obtain ⟨ji32, hji32⟩ : ∃ j_ : Int, (wrap64 ((wrap64 ((y313.length : Int) - 1)) - (t299.length : Int))) = j_ := ⟨_, rfl⟩
        replace H : (if 0 ≤ (ji32) then (if t299.length + (ji32 : Int).toNat < 17592186044416 then ((decimal_pieces_back.f k y313 (t299 ++ List.replicate (ji32 : Int).toNat 0) 0).bind fun t319 => ((decimal_pieces_trim.f k t319).bind fun t320 => ((decimal_pieces_text.f k t320).bind fun t323 => (some t323)))) else (none)) else (none)) = some r := by first | (rw [hji32] at H; exact H) | (simp only [hji32] at H ⊢; exact H)
        (try rw [hji32] at A3)
        (try rw [hji32] at A8)
        (try rw [hji32] at A9)
        have hji32w : (IntKind.i64.wrap ((wrap64 ((y313.length : Int) - 1)) - (t299.length : Int))) = ji32 := (i64_w _).trans hji32
        by_cases c33 : 0 ≤ (ji32)
        · rw [if_pos c33] at H
          have c33b0 := eq_true c33
          have c33b1 : decide (0 ≤ (ji32)) = true := decide_eq_true c33
          clear c33
          by_cases c34 : t299.length + (ji32 : Int).toNat < 17592186044416
          · rw [if_pos c34] at H
            have LMc34 := Aside0.mk c34
            clear c34
            obtain ⟨y316, hy316⟩ : ∃ y_ : List Int, y_ = (t299 ++ List.replicate (ji32 : Int).toNat 0) := ⟨_, rfl⟩
            replace H : ((decimal_pieces_back.f k y313 y316 0).bind fun t319 => ((decimal_pieces_trim.f k t319).bind fun t320 => ((decimal_pieces_text.f k t320).bind fun t323 => (some t323)))) = some r := by first | (rw [hy316]; with_reducible exact H) | (have H2_ := (Option.bind_some _ _).symm.trans H; rw [hy316]; with_reducible exact H2_) | (have H2_ := (Option.bind_some _ _).symm.trans H; with_reducible exact H2_) | with_reducible exact H | (rw [hy316]; exact H) | exact H
            have Ny316 := Aside0.mk hy316
            clear hy316
            replace H := Option.bind_eq_some_iff.mp H
            obtain ⟨t319, A350, H⟩ := H
            replace H : ((decimal_pieces_trim.f k t319).bind fun t320 => ((decimal_pieces_text.f k t320).bind fun t323 => (some t323))) = some r := H
            have A35 := Aside0.mk A350
            clear A350
            replace H := Option.bind_eq_some_iff.mp H
            obtain ⟨t320, A360, H⟩ := H
            replace H : ((decimal_pieces_text.f k t320).bind fun t323 => (some t323)) = some r := H
            have A36 := Aside0.mk A360
            clear A360
            replace H := Option.bind_eq_some_iff.mp H
            obtain ⟨t323, A370, H⟩ := H
            replace H : (some t323) = some r := H
            have A37 := Aside0.mk A370
            clear A370
            obtain rfl := Option.some.inj H
            go_enter Tryd.func26, Tryd.ntmps26
            go_wp2_with (first | ((with_reducible refine gate_callee (f := 42) rfl ?_); refine goesL_ (some 13) rfl rfl Tryd.func42 (by kernel_rfl) rfl #[.string a0, .string a1] rfl mq ?_; (with_reducible refine (decimal_both.calls (hT := HT.out.below bq) k a0 a1 t292 t293 false _ A3.out).mono ?_); rintro e w38 ⟨rfl, hb⟩; refine ⟨_, rfl, ?_⟩; replace HB := Aside0.mk (below_step bq hb); (try clear hb); (try clear hb2); (try clear hk); (try clear hi)) | ((with_reducible refine gate_callee (f := 44) rfl ?_); refine goesL_ (some 23) rfl rfl Tryd.func44 (by kernel_rfl) rfl #[.string a0] rfl mq ?_; (with_reducible refine (decimal_cut.calls k a0 t296 _ A8.out).mono ?_); rintro e w39 ⟨v297, rfl, ho0, hb⟩; refine ⟨_, rfl, ?_⟩; have n0_ := Aside0.mk (Kd.R_lower ho0 (below_size bq)); have n1_ := Aside0.mk (below_step bq hb); clear HB; have HO298 := n0_; have HB := n1_; clear n0_ n1_; (try clear hb); (try clear hb2); (try clear hk); (try clear hi); (try clear ho0)) | ((with_reducible refine gate_callee (f := 44) rfl ?_); refine goesL_ (some 25) rfl rfl Tryd.func44 (by kernel_rfl) rfl #[.string a1] rfl mq ?_; (with_reducible refine (decimal_cut.calls k a1 t299 _ A9.out).mono ?_); rintro e w40 ⟨v300, rfl, ho0, hb⟩; refine ⟨_, rfl, ?_⟩; have n0_ := Aside0.mk (Kd.R_elder' (by (with_reducible repeat (first | apply Kd.R_alloc | apply Kd.R_drewN | apply Kd.R_drew)); exact HO298.out) (Kd.R_base ho0) hb); have n1_ := Aside0.mk (Kd.R_lower (Kd.R_new' ho0 (Kd.R_lt (by (with_reducible repeat (first | apply Kd.R_alloc | apply Kd.R_drewN | apply Kd.R_drew)); exact HO298.out))) (below_size bq)); have n2_ := Aside0.mk (below_step bq hb); clear HO298; clear HB; have HO298 := n0_; have HO301 := n1_; have HB := n2_; clear n0_ n1_ n2_; (try clear hb); (try clear hb2); (try clear hk); (try clear hi); (try clear ho0); obtain ⟨Ao41, co41, eo41⟩ := Kd.R_slice HO298.out; subst eo41; obtain ⟨Ao42, co42, eo42⟩ := Kd.R_slice HO301.out; subst eo42) | ((with_reducible refine gate_builtin (b := .append) (xs := #[.tmp 33, .tmp 34]) rfl ?_); at_builtin; refine Kd.R_append (Kd.int .u64) (w0 := w) w.heap.size rfl (.tmp 33) (.tmp 34) 71 66 (.int .u64 0) 8 rfl Tryd.underlying71 info66 rfl (by decide) (by omega) (.slice Ao41 t296.length co41) t296 0 [.int .u64 0] (fun k_ => some k_ ≠ (.slice Ao42 t299.length co42 : Value).ownBlock) (fun _ => False) rfl rfl ?aP (fun _ hk => hk.elim) ?aF ?aO ?aB ?aS ?aL ?_; (case aP => exact rfl); (case aB => exact bq); (case aF => exact (fun k_ hk => Kd.fresh' (Kd.R_lt (by (with_reducible repeat (first | apply Kd.R_alloc | apply Kd.R_drewN | apply Kd.R_drew)); exact HO301.out)) k_ hk)); (case aO => exact (by (with_reducible repeat (first | apply Kd.R_alloc | apply Kd.R_drewN | apply Kd.R_drew)); exact Kd.R_mono HO298.out (fun _ hk => hk.2))); (case aS => exact (below_size bq)); (case aL => have := LMc31.out; omega); intro v314 w43 ho hb hg hat; rw [← Ny313.out] at ho; have n0_ := Aside0.mk (Kd.R_after (ok := (fun _ => True)) (by (with_reducible repeat (first | apply Kd.R_alloc | apply Kd.R_drewN | apply Kd.R_drew)); exact HO301.out) hg hat); have n1_ := Aside0.mk (hb); have n2_ := Aside0.mk (ho); clear HO301; clear HB; clear HO298; have HO301 := n0_; have HB := n1_; have HO315 := n2_; clear n0_ n1_ n2_; clear ho hb hg hat; obtain ⟨Ao44, co44, eo44⟩ := Kd.R_slice HO315.out; subst eo44) | (at_builtin; refine Kd.R_append_zeros (Kd.int .u64) (w0 := w) w.heap.size rfl (.tmp 37) (.tmp 43) 71 3 66 (.int .u64 0) 8 rfl Tryd.underlying71 Tryd.underlying3 info66 rfl (by decide) (by omega) (.slice Ao42 t299.length co42) t299 0 (ji32 : Int) (fun k_ => some k_ ≠ (.slice Ao44 y313.length co44 : Value).ownBlock) rfl rfl rfl ?aF ?aO (of_decide_eq_true (by first | (with_reducible assumption) | assumption)) ?aB ?aS ?aL ?_; (case aB => exact bq); (case aF => exact (fun k_ hk => Kd.fresh' (Kd.R_lt (by (with_reducible repeat (first | apply Kd.R_alloc | apply Kd.R_drewN | apply Kd.R_drew)); exact HO315.out)) k_ hk)); (case aO => exact (by (with_reducible repeat (first | apply Kd.R_alloc | apply Kd.R_drewN | apply Kd.R_drew)); exact Kd.R_mono HO301.out (fun _ hk => hk.2))); (case aS => exact (below_size bq)); (case aL => have := LMc34.out; omega); intro v317 w45 ho hb hg hat; rw [← Ny316.out] at ho; have n0_ := Aside0.mk (Kd.R_after (ok := (fun _ => True)) (by (with_reducible repeat (first | apply Kd.R_alloc | apply Kd.R_drewN | apply Kd.R_drew)); exact Kd.R_mono HO315.out (fun _ hk => ⟨trivial, hk⟩)) hg hat); have n1_ := Aside0.mk (hb); have n2_ := Aside0.mk (ho); clear HO315; clear HB; clear HO301; have HO315 := n0_; have HB := n1_; have HO318 := n2_; clear n0_ n1_ n2_; clear ho hb hg hat; obtain ⟨Ao46, co46, eo46⟩ := Kd.R_slice HO318.out; subst eo46) | ((with_reducible refine gate_callee (f := 45) rfl ?_); refine goesL_ (some 45) rfl rfl Tryd.func45 (by kernel_rfl) rfl #[.slice Ao44 y313.length co44, .slice Ao46 y316.length co46, .int .i64 0] rfl mq ?_; (with_reducible refine (decimal_pieces_back.calls k (fun k_ => some k_ = (.slice Ao44 y313.length co44 : Value).ownBlock) (.slice Ao44 y313.length co44) y313 _ _ y316 0 t319 w _ ?side1 ?side2 ?side3 ?side4 A35.out).mono ?_); (case side1 => exact bq); (case side2 => exact Kd.R_tight rfl HO315.out); (case side3 => exact Kd.C_kept_own (HO318.out) (fun k_ hk_ hs_ => (hk_) hs_)); (case side4 => exact (Kd.R_reads' HO318.out).2.1); rintro e w47 ⟨rfl, hy0, hb, hkp⟩; refine ⟨_, rfl, ?_⟩; have n0_ := Aside0.mk (Kd.R_reok rfl hy0 (fun k_ e_ => HO315.out.1 k_ e_)); have n1_ := Aside0.mk (Kd.R_mono (ok' := fun k_ => some k_ ≠ (.slice Ao44 y313.length co44 : Value).ownBlock) (Kd.R_keptB (HO318.out) hkp (fun k_ hk_ hs_ => (hk_) hs_)) (fun k_ hk_ => hk_.1)); have n2_ := Aside0.mk (hb); clear HO315; clear HO318; clear HB; have HO315 := n0_; have HO318 := n1_; have HB := n2_; clear n0_ n1_ n2_; (try clear hb); (try clear hkp); (try clear hy0)) | ((with_reducible refine gate_callee (f := 46) rfl ?_); refine goesL_ (some 47) rfl rfl Tryd.func46 (by kernel_rfl) rfl #[.slice Ao44 y313.length co44] rfl mq ?_; (with_reducible refine (decimal_pieces_trim.calls k (fun k_ => some k_ = (.slice Ao44 y313.length co44 : Value).ownBlock) (.slice Ao44 y313.length co44) t319 t320 w _ ?side1 ?side2 A36.out).mono ?_); (case side1 => exact bq); (case side2 => exact Kd.R_tight rfl HO315.out); rintro e w48 ⟨v321, rfl, ho0, hb, hkp⟩; refine ⟨_, rfl, ?_⟩; have n0_ := Aside0.mk (Kd.R_mono (ok' := fun k_ => some k_ ≠ (v321 : Value).ownBlock) (Kd.R_keptB (HO318.out) hkp (fun k_ hk_ hs_ => (hk_) hs_)) (fun k_ hk_ => fun e_ => Or.elim (ho0.1 k_ e_.symm) (fun hs_ => hk_.2.1 hs_) (fun hn_ => Nat.not_le.2 hk_.2.2 hn_))); have n1_ := Aside0.mk (Kd.R_mono (ok' := fun k_ => some k_ ≠ (.slice Ao46 y316.length co46 : Value).ownBlock) ho0 (fun k_ hk_ => Or.elim hk_ (fun hs_ => fun e_ => (((HO318.out).1 k_ e_.symm)) hs_) (fun hn_ => (Kd.fresh' (Kd.R_lt (by (with_reducible repeat (first | apply Kd.R_alloc | apply Kd.R_drewN | apply Kd.R_drew)); exact HO318.out)) k_ hn_)))); have n2_ := Aside0.mk (hb); clear HO318; clear HB; clear HO315; have HO318 := n0_; have HO322 := n1_; have HB := n2_; clear n0_ n1_ n2_; (try clear hb); (try clear hkp); (try clear ho0); obtain ⟨Ao49, co49, eo49⟩ := Kd.R_slice HO322.out; subst eo49) | ((with_reducible refine gate_callee (f := 47) rfl ?_); refine goesL_ (some 48) rfl rfl Tryd.func47 (by kernel_rfl) rfl #[.slice Ao49 t320.length co49] rfl mq ?_; (with_reducible refine (decimal_pieces_text.calls k _ _ t320 t323 _ ?side1 ?side2 A37.out).mono ?_); (case side1 => repeat (first | exact (Kd.R_reads' HO322.out).2.2 | (with_reducible refine Kd.C_alloc ?_ _) | (with_reducible refine Kd.C_drewN ?_ _) | (with_reducible refine Kd.C_drew ?_))); (case side2 => exact (Kd.R_reads' HO322.out).2.1); rintro e w50 ⟨rfl, hb⟩; refine ⟨_, rfl, ?_⟩; have n0_ := Aside0.mk (Kd.R_below (by (with_reducible repeat (first | apply Kd.R_alloc | apply Kd.R_drewN | apply Kd.R_drew)); exact HO318.out) hb); have n1_ := Aside0.mk (Kd.R_below (by (with_reducible repeat (first | apply Kd.R_alloc | apply Kd.R_drewN | apply Kd.R_drew)); exact HO322.out) hb); have n2_ := Aside0.mk (below_step bq hb); clear HO318; clear HO322; clear HB; have HO318 := n0_; have HO322 := n1_; have HB := n2_; clear n0_ n1_ n2_; (try clear hb); (try clear hb2); (try clear hk); (try clear hi)))
            go_ret
            exact ⟨by first | rfl | (simp [errW_none, errW_some] <;> rfl) | (simp only [← hji32]; first | rfl | (simp [errW_none, errW_some] <;> rfl)) | (simp [*, errW_none, errW_some] <;> rfl), bq⟩
          · rw [if_neg c34] at H
            exact absurd H (by simp)
        · rw [if_neg c33] at H
          exact absurd H (by simp)
      · rw [if_neg c31] at H
        exact absurd H (by simp)
def decimal_Compare.f (a0 : ByteArray) (a1 : ByteArray) : Option (Int) := if (a0.size : Int) = (a1.size : Int) then (if (Op.bytesLess a0.toList a1.toList) = true then (some (-1)) else (if (Op.bytesLess a1.toList a0.toList) = true then (some 1) else (some 0))) else (some (mn 1 (mx (-1) (wrap64 ((a0.size : Int) - (a1.size : Int))))))
set_option maxHeartbeats 8000000 in
set_option maxRecDepth 100000 in
theorem decimal_Compare.calls (a0 : ByteArray) (a1 : ByteArray) (r : Int) (w : World) (h : decimal_Compare.f a0 a1 = some r) :
    Calls Tryd.prog 27 #[.string a0, .string a1] w fun e w' => e = .returned (.int .i64 r) ∧ Below w.heap.size w w' := by
  have HB := Aside0.mk (Below.refl w.heap.size w)
  have H : (if (a0.size : Int) = (a1.size : Int) then (if (Op.bytesLess a0.toList a1.toList) = true then (some (-1)) else (if (Op.bytesLess a1.toList a0.toList) = true then (some 1) else (some 0))) else (some (mn 1 (mx (-1) (wrap64 ((a0.size : Int) - (a1.size : Int))))))) = some r := h
  clear h
  by_cases c3 : (a0.size : Int) = (a1.size : Int)
  · rw [if_pos c3] at H
    have c3b0 : ((a0.size : Int) == (a1.size : Int)) = true := beq_iff_eq.mpr c3
    have c3b1 : ((a0.size : Int) != (a1.size : Int)) = false := bne_eq_false_iff_eq.mpr c3
    have c3b2 : (a0.size == a1.size) = true := by first | simpa using c3 | (simp at c3 ⊢; omega)
    clear c3
    by_cases c4 : (Op.bytesLess a0.toList a1.toList) = true
    · rw [if_pos c4] at H
      have c4b0 : (Op.bytesLess a0.toList a1.toList) = true := c4
      clear c4
      obtain rfl := Option.some.inj H
      go_enter Tryd.func27, Tryd.ntmps27
      go_wp2
      go_ret
      exact ⟨eq_, bq⟩
    · rw [if_neg c4] at H
      have c4b0 : (Op.bytesLess a0.toList a1.toList) = false := by simpa using c4
      clear c4
      by_cases c5 : (Op.bytesLess a1.toList a0.toList) = true
      · rw [if_pos c5] at H
        have c5b0 : (Op.bytesLess a1.toList a0.toList) = true := c5
        clear c5
        obtain rfl := Option.some.inj H
        go_enter Tryd.func27, Tryd.ntmps27
        go_wp2
        go_ret
        exact ⟨eq_, bq⟩
      · rw [if_neg c5] at H
        have c5b0 : (Op.bytesLess a1.toList a0.toList) = false := by simpa using c5
        clear c5
        obtain rfl := Option.some.inj H
        go_enter Tryd.func27, Tryd.ntmps27
        go_wp2
        go_ret
        exact ⟨eq_, bq⟩
  · rw [if_neg c3] at H
    have c3b0 : ((a0.size : Int) == (a1.size : Int)) = false := beq_eq_false_iff_ne.mpr c3
    have c3b1 : ((a0.size : Int) != (a1.size : Int)) = true := bne_iff_ne.mpr c3
    have c3b2 : (a0.size == a1.size) = false := by first | simpa using c3 | (simp at c3 ⊢; omega)
    obtain ⟨ji6, hji6⟩ : ∃ j_ : Int, (mx (-1) (wrap64 ((a0.size : Int) - (a1.size : Int)))) = j_ := ⟨_, rfl⟩
    replace H : (some (mn 1 (ji6))) = some r := by first | (rw [hji6] at H; exact H) | (simp only [hji6] at H ⊢; exact H)
    have hji6_ : (if (-1) < (wrap64 ((a0.size : Int) - (a1.size : Int))) then (wrap64 ((a0.size : Int) - (a1.size : Int))) else (-1)) = ji6 := hji6
    obtain ⟨ji7, hji7⟩ : ∃ j_ : Int, (mn 1 (ji6)) = j_ := ⟨_, rfl⟩
    replace H : (some ji7) = some r := by first | (rw [hji7] at H; exact H) | (simp only [hji7] at H ⊢; exact H)
    have hji7_ : (if (ji6) < 1 then (ji6) else 1) = ji7 := hji7
    obtain rfl := Option.some.inj H
    go_enter Tryd.func27, Tryd.ntmps27
    go_wp2
    go_ret
    exact ⟨by first | rfl | (simp [errW_none, errW_some] <;> rfl) | (simp only [← hji6, ← hji7]; first | rfl | (simp [errW_none, errW_some] <;> rfl)) | (simp [*, errW_none, errW_some] <;> rfl), bq⟩
end Go.Proofs.YtioimihminelaaaDoor.P
