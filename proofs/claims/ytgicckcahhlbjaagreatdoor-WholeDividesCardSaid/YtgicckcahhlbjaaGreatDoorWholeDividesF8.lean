/- Functions of the program, as functions of Lean, and the walks that show that the code answers as they do: written by a program. Conditions: those of each theorem. -/
import Derived.Test.YtgicckcahhlbjaaGreatDoorWholeDividesF7
namespace Go.Proofs.YtgicckcahhlbjaaGreatDoor.P
open Go.RowKit Go.Proofs.YtgicckcahhlbjaaGreatDoorW.PrintWords Go.Proofs.YtgicckcahhlbjaaGreatDoorW.PrintLast Go.Proofs.YtgicckcahhlbjaaGreatDoorW.PrintMore
attribute [local go_sem] gtr_text max2_int min2_int max_two min_two max_three min_three max_four min_four
set_option linter.unusedVariables false
set_option linter.unusedSimpArgs false
def w_WholeDivides.f (k : Nat) (a0_0 : Bool) (l0_1 : List Int) (a1_0 : Bool) (l1_1 : List Int) : Option (Bool) := (w_known.f k).bind fun t710 => (if t710 = true then ((w_Make.f k a0_0 l0_1 60).bind fun t711 => ((w_Make.f k a1_0 l1_1 60).bind fun t712 => ((z_DivMod.f k t711 t712).bind fun bt713 => (if t712.toList = ([48] : List UInt8) then (if bt713.1.toList = ([] : List UInt8) then (if bt713.2.1.toList = ([] : List UInt8) then (some (bt713.2.2 == 17)) else (some false)) else (some false)) else ((r_DivMod.f k t711 t712).bind fun bt716 => (if bt713.1.toList = bt716.1.toList then (if bt713.2.1.toList = bt716.2.toList then (some (bt713.2.2 == 0)) else (some false)) else (some false))))))) else (some false))
theorem w_WholeDivides.mono : ∀ a0 a1 a2 a3 k, LeO (w_WholeDivides.f k a0 a1 a2 a3) (w_WholeDivides.f (k + 1) a0 a1 a2 a3) := by
  intro a0 a1 a2 a3 k; unfold w_WholeDivides.f
  repeat' with_reducible first | apply w_Make.mono | apply w_known.mono | apply r_DivMod.mono | apply z_DivMod.mono | apply LeO.refl | apply LeO.none | refine LeO.ite ?_ ?_ | refine LeO.bind ?_ (fun _ => ?_)
set_option maxHeartbeats 8000000 in
set_option maxRecDepth 100000 in
theorem w_WholeDivides.calls (k : Nat) (a0_0 : Bool) (A0_1 : Option Addr) (c0_1 : Nat) (l0_1 : List Int) (a1_0 : Bool) (A1_1 : Option Addr) (c1_1 : Nat) (l1_1 : List Int) (r : Bool) (w : World) (hr0_1 : Kd.C (Kd.int .u8) w A0_1 l0_1.length l0_1) (hc0_1 : l0_1.length ≤ c0_1) (hr1_1 : Kd.C (Kd.int .u8) w A1_1 l1_1.length l1_1) (hc1_1 : l1_1.length ≤ c1_1) (hT : Tab w) (h : w_WholeDivides.f k a0_0 l0_1 a1_0 l1_1 = some r) :
    Calls Tryz.prog 5 #[.agg #[.bool a0_0, .slice A0_1 l0_1.length c0_1], .agg #[.bool a1_0, .slice A1_1 l1_1.length c1_1]] w fun e w' => e = .returned (.bool r) ∧ Below w.heap.size w w' := by
  have HT := Aside0.mk hT; clear hT; have hu24 := Tryz.underlying24; have HR0_1 := Aside0.mk hr0_1; have HC0_1 := Aside0.mk hc0_1; clear hr0_1 hc0_1; have HR1_1 := Aside0.mk hr1_1; have HC1_1 := Aside0.mk hc1_1; clear hr1_1 hc1_1; have HB := Aside0.mk (Below.refl w.heap.size w); have H : ((w_known.f k).bind fun t710 => (if t710 = true then ((w_Make.f k a0_0 l0_1 60).bind fun t711 => ((w_Make.f k a1_0 l1_1 60).bind fun t712 => ((z_DivMod.f k t711 t712).bind fun bt713 => (if t712.toList = ([48] : List UInt8) then (if bt713.1.toList = ([] : List UInt8) then (if bt713.2.1.toList = ([] : List UInt8) then (some (bt713.2.2 == 17)) else (some false)) else (some false)) else ((r_DivMod.f k t711 t712).bind fun bt716 => (if bt713.1.toList = bt716.1.toList then (if bt713.2.1.toList = bt716.2.toList then (some (bt713.2.2 == 0)) else (some false)) else (some false))))))) else (some false))) = some r := h
  clear h; replace H := Option.bind_eq_some_iff.mp H; obtain ⟨t710, A30, H⟩ := H; have A3 := Aside0.mk A30; clear A30; by_cases c4 : t710 = true
  · subst c4; have H1 : ((w_Make.f k a0_0 l0_1 60).bind fun t711 => ((w_Make.f k a1_0 l1_1 60).bind fun t712 => ((z_DivMod.f k t711 t712).bind fun bt713 => (if t712.toList = ([48] : List UInt8) then (if bt713.1.toList = ([] : List UInt8) then (if bt713.2.1.toList = ([] : List UInt8) then (some (bt713.2.2 == 17)) else (some false)) else (some false)) else ((r_DivMod.f k t711 t712).bind fun bt716 => (if bt713.1.toList = bt716.1.toList then (if bt713.2.1.toList = bt716.2.toList then (some (bt713.2.2 == 0)) else (some false)) else (some false))))))) = some r := by rw [if_pos rfl] at H; exact H
    clear H; have H := H1; clear H1; replace H := Option.bind_eq_some_iff.mp H; obtain ⟨t711, A50, H⟩ := H; have A5 := Aside0.mk A50; clear A50; replace H := Option.bind_eq_some_iff.mp H; obtain ⟨t712, A60, H⟩ := H; have A6 := Aside0.mk A60; clear A60; replace H := Option.bind_eq_some_iff.mp H; obtain ⟨⟨t713, t714, t715⟩, A70, H⟩ := H; have A7 := Aside0.mk A70; clear A70; by_cases c8 : t712.toList = ([48] : List UInt8)
    · rw [if_pos c8] at H; have c8b0 : (t712.toList == ([48] : List UInt8)) = true := beq_iff_eq.mpr c8; have c8b1 : (t712.toList != ([48] : List UInt8)) = false := bne_eq_false_iff_eq.mpr c8; clear c8; by_cases c9 : t713.toList = ([] : List UInt8)
      · rw [if_pos c9] at H; have c9b0 : (t713.toList == ([] : List UInt8)) = true := beq_iff_eq.mpr c9; have c9b1 : (t713.toList != ([] : List UInt8)) = false := bne_eq_false_iff_eq.mpr c9; clear c9; by_cases c10 : t714.toList = ([] : List UInt8)
        · rw [if_pos c10] at H; have c10b0 : (t714.toList == ([] : List UInt8)) = true := beq_iff_eq.mpr c10; have c10b1 : (t714.toList != ([] : List UInt8)) = false := bne_eq_false_iff_eq.mpr c10; clear c10; obtain rfl := Option.some.inj H
          go_enter Tryz.func5, Tryz.ntmps5
          try go_wp2_with (first | ((with_reducible refine gate_dst (N := 2) rfl ?_); refine box_event ?hg (N := 2) ?hd (cs := #[.bool a0_0, .slice A0_1 l0_1.length c0_1]) (t := 24) ?hr ?_; (case hd => rfl); (case hg => rfl); (case hr => first | (go_simp; done) | (go_simp; rfl)); intro gb708 hg w11 hbox hb; have n0_ := Aside0.mk (below_step bq hb); have n1_ := Aside0.mk (hbox); have n2_ := Aside0.mk ((by rw [hg]; exact (below_size bq) : w.heap.size ≤ gb708)); have n3_ := Aside0.mk ((by rw [hg]; exact (below_size bq) : w.heap.size ≤ gb708)); clear HB; have HB := n0_; have BK708 := n1_; have GW708 := n2_; have GE708 := n3_; clear n0_ n1_ n2_ n3_; clear hb hbox hg) | ((with_reducible refine gate_dst (N := 3) rfl ?_); refine box_event ?hg (N := 3) ?hd (cs := #[.bool a1_0, .slice A1_1 l1_1.length c1_1]) (t := 24) ?hr ?_; (case hd => rfl); (case hg => rfl); (case hr => first | (go_simp; done) | (go_simp; rfl)); intro gb709 hg w12 hbox hb; have n0_ := Aside0.mk (blk_below (g := gb708) (o := .cells #[.bool a0_0, .slice A0_1 l0_1.length c0_1] 24 (0, 0)) (pb BK708.out) hb); have n1_ := Aside0.mk (below_step (bg GE708.out) hb); have n2_ := Aside0.mk (hbox); have n3_ := Aside0.mk ((by rw [hg]; exact (below_size (bg GE708.out)) : w.heap.size ≤ gb709)); have n4_ := Aside0.mk ((by rw [hg]; exact (below_size (bg GE708.out)) : w.heap.size ≤ gb709)); have n5_ := Aside0.mk ((by rw [hg]; exact Nat.ne_of_lt (blk_lt (g := gb708) (o := .cells #[.bool a0_0, .slice A0_1 l0_1.length c0_1] 24 (0, 0)) (pb BK708.out)) : gb708 ≠ gb709)); have n6_ := Aside0.mk ((by rw [hg]; exact Nat.ne_of_gt (blk_lt (g := gb708) (o := .cells #[.bool a0_0, .slice A0_1 l0_1.length c0_1] 24 (0, 0)) (pb BK708.out)) : gb709 ≠ gb708)); clear BK708; clear HB; have BK708 := n0_; have HB := n1_; have BK709 := n2_; have GW709 := n3_; have GE709 := n4_; have NB708_709 := n5_; have NB709_708 := n6_; clear n0_ n1_ n2_ n3_ n4_ n5_ n6_; clear hb hbox hg) | ((with_reducible refine gate_callee (f := 7) rfl ?_); refine goesL_ (some 12) rfl rfl Tryz.func7 (by kernel_rfl) rfl #[] rfl mq ?_; (with_reducible refine (w_known.calls (hT := HT.out.below bq) k  true _ A3.out).mono ?_); rintro e w13 ⟨rfl, hb⟩; refine ⟨_, rfl, ?_⟩; have n0_ := Aside0.mk (blk_below (g := gb708) (o := .cells #[.bool a0_0, .slice A0_1 l0_1.length c0_1] 24 (0, 0)) (pb BK708.out) hb); have n1_ := Aside0.mk (blk_below (g := gb709) (o := .cells #[.bool a1_0, .slice A1_1 l1_1.length c1_1] 24 (0, 0)) (pb BK709.out) hb); have n2_ := Aside0.mk (below_step (bh GE708.out GE709.out) hb); clear BK708; clear BK709; clear HB; have BK708 := n0_; have BK709 := n1_; have HB := n2_; clear n0_ n1_ n2_; (try clear hb); (try clear hb2); (try clear hk); (try clear hi)))
          have n0_ := Aside0.mk (blk_drew BK708.out); have n1_ := Aside0.mk (blk_drew BK709.out); have n2_ := Aside0.mk (below_drew1 HB.out); clear BK708; clear BK709; clear HB; have BK708 := n0_; have BK709 := n1_; have HB := n2_; clear n0_ n1_ n2_; refine start_ (n := 6) (S := fun w' => w'.cell? ⟨gb708, 0, none⟩ = some (.bool a0_0) ∧ w'.cell? ⟨gb708, 1, none⟩ = some (.slice A0_1 l0_1.length c0_1) ∧ w'.cell? ⟨gb709, 0, none⟩ = some (.bool a1_0) ∧ w'.cell? ⟨gb709, 1, none⟩ = some (.slice A1_1 l1_1.length c1_1)) (ds := []) #[false, false, false, false, false, false] (by kernel_rfl) rfl rfl ⟨(blk_cell BK708.out 0).trans rfl, (blk_cell BK708.out 1).trans rfl, (blk_cell BK709.out 0).trans rfl, (blk_cell BK709.out 1).trans rfl⟩ (fun hHeld => ?_)
          generalize w13.drew = w14 at BK708 BK709 HB hHeld ⊢
          refine take_ (i := 0) (N := some 14) (v := ?_) (a' := ?_) #[true, false, false, false, false, false] rfl rfl (by kernel_rfl) (fun _ _ _ h => h) (Or.inl ⟨by rfl, ?_⟩) hHeld ?_ ?_
          rotate_left
          · rintro w' ⟨s0, s1, s2, s3⟩
            go_simp
            with_reducible rfl
          rotate_left
          · simp only [Act.put, List.setIfInBounds_toArray, List.set_cons_zero, List.set_cons_succ, i64_w, i32_w]
            rfl
          refine take_ (i := 2) (N := some 16) (v := ?_) (a' := ?_) #[true, false, true, false, false, false] rfl rfl (by kernel_rfl) (fun _ _ _ h => h) (Or.inl ⟨by rfl, ?_⟩) hHeld ?_ ?_
          rotate_left
          · rintro w' ⟨s0, s1, s2, s3⟩
            go_simp
            with_reducible rfl
          rotate_left
          · simp only [Act.put, List.setIfInBounds_toArray, List.set_cons_zero, List.set_cons_succ, i64_w, i32_w]
            rfl
          refine one_ (i := 1) (N := some 15) #[true, true, true, false, false, false] rfl rfl (by kernel_rfl) (by decide) (fun K hK => ?_)
          refine goes_ Tryz.func8 (by kernel_rfl) rfl #[.agg #[.bool a0_0, .slice A0_1 l0_1.length c0_1], .int .i64 60] (by rfl) rfl rfl mq ?_
          with_reducible refine (w_Make.calls k a0_0 _ _ l0_1 60 t711 _ ?side1 ?side2 A5.out).mono ?_
          (case side1 => exact cq ((Kd.C_below HR0_1.out HB.out)))
          (case side2 => exact HC0_1.out)
          rintro e w15 ⟨rfl, hb⟩; refine ⟨_, rfl, ?_⟩
          have n0_ := Aside0.mk (blk_below (g := gb708) (o := .cells #[.bool a0_0, .slice A0_1 l0_1.length c0_1] 24 (0, 0)) (pb BK708.out) hb); have n1_ := Aside0.mk (blk_below (g := gb709) (o := .cells #[.bool a1_0, .slice A1_1 l1_1.length c1_1] 24 (0, 0)) (pb BK709.out) hb); have n2_ := Aside0.mk (below_step (bh GE708.out GE709.out) hb); clear BK708; clear BK709; clear HB; have BK708 := n0_; have BK709 := n1_; have HB := n2_; clear n0_ n1_ n2_
          (try clear hb)
          (try clear hb2)
          (try clear hk)
          (try clear hi)
          refine hK.out _ _ ⟨(blk_cell BK708.out 0).trans rfl, (blk_cell BK708.out 1).trans rfl, (blk_cell BK709.out 0).trans rfl, (blk_cell BK709.out 1).trans rfl⟩ (fun hHeld => ?_)
          clear hK K; refine norm_ (a' := ?_) ?_ ?_
          rotate_left
          · show Act.put _ (some 15) _ = _
            simp only [Act.put, List.setIfInBounds_toArray, List.set_cons_zero, List.set_cons_succ, i64_w, i32_w]
            rfl
          refine one_ (i := 3) (N := some 17) #[true, true, true, true, false, false] rfl rfl (by kernel_rfl) (by decide) (fun K hK => ?_)
          refine goes_ Tryz.func8 (by kernel_rfl) rfl #[.agg #[.bool a1_0, .slice A1_1 l1_1.length c1_1], .int .i64 60] (by rfl) rfl rfl mq ?_
          with_reducible refine (w_Make.calls k a1_0 _ _ l1_1 60 t712 _ ?side1 ?side2 A6.out).mono ?_
          (case side1 => exact cq ((Kd.C_below HR1_1.out HB.out)))
          (case side2 => exact HC1_1.out)
          rintro e w16 ⟨rfl, hb⟩; refine ⟨_, rfl, ?_⟩
          have n0_ := Aside0.mk (blk_below (g := gb708) (o := .cells #[.bool a0_0, .slice A0_1 l0_1.length c0_1] 24 (0, 0)) (pb BK708.out) hb); have n1_ := Aside0.mk (blk_below (g := gb709) (o := .cells #[.bool a1_0, .slice A1_1 l1_1.length c1_1] 24 (0, 0)) (pb BK709.out) hb); have n2_ := Aside0.mk (below_step (bh GE708.out GE709.out) hb); clear BK708; clear BK709; clear HB; have BK708 := n0_; have BK709 := n1_; have HB := n2_; clear n0_ n1_ n2_
          (try clear hb)
          (try clear hb2)
          (try clear hk)
          (try clear hi)
          refine hK.out _ _ ⟨(blk_cell BK708.out 0).trans rfl, (blk_cell BK708.out 1).trans rfl, (blk_cell BK709.out 0).trans rfl, (blk_cell BK709.out 1).trans rfl⟩ (fun hHeld => ?_)
          clear hK K; refine norm_ (a' := ?_) ?_ ?_
          rotate_left
          · show Act.put _ (some 17) _ = _
            simp only [Act.put, List.setIfInBounds_toArray, List.set_cons_zero, List.set_cons_succ, i64_w, i32_w]
            rfl
          refine pure_ (i := 4) (N := some 5) (v := ?_) (a' := ?_) #[true, true, true, true, true, false] rfl rfl (by kernel_rfl) (fun _ _ _ h => h) (Or.inl ⟨by rfl, ?_⟩) ?_ ?_
          rotate_left
          · intro w'
            go_simp
            with_reducible rfl
          rotate_left
          · simp only [Act.put, List.setIfInBounds_toArray, List.set_cons_zero, List.set_cons_succ, i64_w, i32_w]
            rfl
          refine pure_ (i := 5) (N := some 6) (v := ?_) (a' := ?_) #[true, true, true, true, true, true] rfl rfl (by kernel_rfl) (fun _ _ _ h => h) (Or.inl ⟨by rfl, ?_⟩) ?_ ?_
          rotate_left
          · intro w'
            go_simp
            with_reducible rfl
          rotate_left
          · simp only [Act.put, List.setIfInBounds_toArray, List.set_cons_zero, List.set_cons_succ, i64_w, i32_w]
            rfl
          refine done_ (by kernel_rfl) ?_
          try go_wp2_with (first | ((with_reducible refine gate_callee (f := 17) rfl ?_); refine goesL_ (some 21) rfl rfl Tryz.func17 (by kernel_rfl) rfl #[.string t711, .string t712] rfl mq ?_; (with_reducible refine (z_DivMod.calls (hT := HT.out.below bq) k t711 t712 t713 t714 t715 _ A7.out).mono ?_); rintro e w17 ⟨rfl, hb⟩; refine ⟨_, rfl, ?_⟩; have n0_ := Aside0.mk (blk_below (g := gb708) (o := .cells #[.bool a0_0, .slice A0_1 l0_1.length c0_1] 24 (0, 0)) (pb BK708.out) hb); have n1_ := Aside0.mk (blk_below (g := gb709) (o := .cells #[.bool a1_0, .slice A1_1 l1_1.length c1_1] 24 (0, 0)) (pb BK709.out) hb); have n2_ := Aside0.mk (below_step (bh GE708.out GE709.out) hb); clear BK708; clear BK709; clear HB; have BK708 := n0_; have BK709 := n1_; have HB := n2_; clear n0_ n1_ n2_; (try clear hb); (try clear hb2); (try clear hk); (try clear hi)))
          go_ret
          exact ⟨eq_, by repeat (first | (with_reducible first | exact HB.out | apply below_alloc | apply pw_below_drewN | apply below_drew1 | refine below_set ?_ GE708.out | refine below_set ?_ GE709.out) | exact HB.out)⟩
        · rw [if_neg c10] at H; have c10b0 : (t714.toList == ([] : List UInt8)) = false := beq_eq_false_iff_ne.mpr c10; have c10b1 : (t714.toList != ([] : List UInt8)) = true := bne_iff_ne.mpr c10; obtain rfl := Option.some.inj H
          go_enter Tryz.func5, Tryz.ntmps5
          try go_wp2_with (first | ((with_reducible refine gate_dst (N := 2) rfl ?_); refine box_event ?hg (N := 2) ?hd (cs := #[.bool a0_0, .slice A0_1 l0_1.length c0_1]) (t := 24) ?hr ?_; (case hd => rfl); (case hg => rfl); (case hr => first | (go_simp; done) | (go_simp; rfl)); intro gb708 hg w18 hbox hb; have n0_ := Aside0.mk (below_step bq hb); have n1_ := Aside0.mk (hbox); have n2_ := Aside0.mk ((by rw [hg]; exact (below_size bq) : w.heap.size ≤ gb708)); have n3_ := Aside0.mk ((by rw [hg]; exact (below_size bq) : w.heap.size ≤ gb708)); clear HB; have HB := n0_; have BK708 := n1_; have GW708 := n2_; have GE708 := n3_; clear n0_ n1_ n2_ n3_; clear hb hbox hg) | ((with_reducible refine gate_dst (N := 3) rfl ?_); refine box_event ?hg (N := 3) ?hd (cs := #[.bool a1_0, .slice A1_1 l1_1.length c1_1]) (t := 24) ?hr ?_; (case hd => rfl); (case hg => rfl); (case hr => first | (go_simp; done) | (go_simp; rfl)); intro gb709 hg w19 hbox hb; have n0_ := Aside0.mk (blk_below (g := gb708) (o := .cells #[.bool a0_0, .slice A0_1 l0_1.length c0_1] 24 (0, 0)) (pb BK708.out) hb); have n1_ := Aside0.mk (below_step (bg GE708.out) hb); have n2_ := Aside0.mk (hbox); have n3_ := Aside0.mk ((by rw [hg]; exact (below_size (bg GE708.out)) : w.heap.size ≤ gb709)); have n4_ := Aside0.mk ((by rw [hg]; exact (below_size (bg GE708.out)) : w.heap.size ≤ gb709)); have n5_ := Aside0.mk ((by rw [hg]; exact Nat.ne_of_lt (blk_lt (g := gb708) (o := .cells #[.bool a0_0, .slice A0_1 l0_1.length c0_1] 24 (0, 0)) (pb BK708.out)) : gb708 ≠ gb709)); have n6_ := Aside0.mk ((by rw [hg]; exact Nat.ne_of_gt (blk_lt (g := gb708) (o := .cells #[.bool a0_0, .slice A0_1 l0_1.length c0_1] 24 (0, 0)) (pb BK708.out)) : gb709 ≠ gb708)); clear BK708; clear HB; have BK708 := n0_; have HB := n1_; have BK709 := n2_; have GW709 := n3_; have GE709 := n4_; have NB708_709 := n5_; have NB709_708 := n6_; clear n0_ n1_ n2_ n3_ n4_ n5_ n6_; clear hb hbox hg) | ((with_reducible refine gate_callee (f := 7) rfl ?_); refine goesL_ (some 12) rfl rfl Tryz.func7 (by kernel_rfl) rfl #[] rfl mq ?_; (with_reducible refine (w_known.calls (hT := HT.out.below bq) k  true _ A3.out).mono ?_); rintro e w20 ⟨rfl, hb⟩; refine ⟨_, rfl, ?_⟩; have n0_ := Aside0.mk (blk_below (g := gb708) (o := .cells #[.bool a0_0, .slice A0_1 l0_1.length c0_1] 24 (0, 0)) (pb BK708.out) hb); have n1_ := Aside0.mk (blk_below (g := gb709) (o := .cells #[.bool a1_0, .slice A1_1 l1_1.length c1_1] 24 (0, 0)) (pb BK709.out) hb); have n2_ := Aside0.mk (below_step (bh GE708.out GE709.out) hb); clear BK708; clear BK709; clear HB; have BK708 := n0_; have BK709 := n1_; have HB := n2_; clear n0_ n1_ n2_; (try clear hb); (try clear hb2); (try clear hk); (try clear hi)))
          have n0_ := Aside0.mk (blk_drew BK708.out); have n1_ := Aside0.mk (blk_drew BK709.out); have n2_ := Aside0.mk (below_drew1 HB.out); clear BK708; clear BK709; clear HB; have BK708 := n0_; have BK709 := n1_; have HB := n2_; clear n0_ n1_ n2_; refine start_ (n := 6) (S := fun w' => w'.cell? ⟨gb708, 0, none⟩ = some (.bool a0_0) ∧ w'.cell? ⟨gb708, 1, none⟩ = some (.slice A0_1 l0_1.length c0_1) ∧ w'.cell? ⟨gb709, 0, none⟩ = some (.bool a1_0) ∧ w'.cell? ⟨gb709, 1, none⟩ = some (.slice A1_1 l1_1.length c1_1)) (ds := []) #[false, false, false, false, false, false] (by kernel_rfl) rfl rfl ⟨(blk_cell BK708.out 0).trans rfl, (blk_cell BK708.out 1).trans rfl, (blk_cell BK709.out 0).trans rfl, (blk_cell BK709.out 1).trans rfl⟩ (fun hHeld => ?_)
          generalize w20.drew = w21 at BK708 BK709 HB hHeld ⊢
          refine take_ (i := 0) (N := some 14) (v := ?_) (a' := ?_) #[true, false, false, false, false, false] rfl rfl (by kernel_rfl) (fun _ _ _ h => h) (Or.inl ⟨by rfl, ?_⟩) hHeld ?_ ?_
          rotate_left
          · rintro w' ⟨s0, s1, s2, s3⟩
            go_simp
            with_reducible rfl
          rotate_left
          · simp only [Act.put, List.setIfInBounds_toArray, List.set_cons_zero, List.set_cons_succ, i64_w, i32_w]
            rfl
          refine take_ (i := 2) (N := some 16) (v := ?_) (a' := ?_) #[true, false, true, false, false, false] rfl rfl (by kernel_rfl) (fun _ _ _ h => h) (Or.inl ⟨by rfl, ?_⟩) hHeld ?_ ?_
          rotate_left
          · rintro w' ⟨s0, s1, s2, s3⟩
            go_simp
            with_reducible rfl
          rotate_left
          · simp only [Act.put, List.setIfInBounds_toArray, List.set_cons_zero, List.set_cons_succ, i64_w, i32_w]
            rfl
          refine one_ (i := 1) (N := some 15) #[true, true, true, false, false, false] rfl rfl (by kernel_rfl) (by decide) (fun K hK => ?_)
          refine goes_ Tryz.func8 (by kernel_rfl) rfl #[.agg #[.bool a0_0, .slice A0_1 l0_1.length c0_1], .int .i64 60] (by rfl) rfl rfl mq ?_
          with_reducible refine (w_Make.calls k a0_0 _ _ l0_1 60 t711 _ ?side1 ?side2 A5.out).mono ?_
          (case side1 => exact cq ((Kd.C_below HR0_1.out HB.out)))
          (case side2 => exact HC0_1.out)
          rintro e w22 ⟨rfl, hb⟩; refine ⟨_, rfl, ?_⟩
          have n0_ := Aside0.mk (blk_below (g := gb708) (o := .cells #[.bool a0_0, .slice A0_1 l0_1.length c0_1] 24 (0, 0)) (pb BK708.out) hb); have n1_ := Aside0.mk (blk_below (g := gb709) (o := .cells #[.bool a1_0, .slice A1_1 l1_1.length c1_1] 24 (0, 0)) (pb BK709.out) hb); have n2_ := Aside0.mk (below_step (bh GE708.out GE709.out) hb); clear BK708; clear BK709; clear HB; have BK708 := n0_; have BK709 := n1_; have HB := n2_; clear n0_ n1_ n2_
          (try clear hb)
          (try clear hb2)
          (try clear hk)
          (try clear hi)
          refine hK.out _ _ ⟨(blk_cell BK708.out 0).trans rfl, (blk_cell BK708.out 1).trans rfl, (blk_cell BK709.out 0).trans rfl, (blk_cell BK709.out 1).trans rfl⟩ (fun hHeld => ?_)
          clear hK K; refine norm_ (a' := ?_) ?_ ?_
          rotate_left
          · show Act.put _ (some 15) _ = _
            simp only [Act.put, List.setIfInBounds_toArray, List.set_cons_zero, List.set_cons_succ, i64_w, i32_w]
            rfl
          refine one_ (i := 3) (N := some 17) #[true, true, true, true, false, false] rfl rfl (by kernel_rfl) (by decide) (fun K hK => ?_)
          refine goes_ Tryz.func8 (by kernel_rfl) rfl #[.agg #[.bool a1_0, .slice A1_1 l1_1.length c1_1], .int .i64 60] (by rfl) rfl rfl mq ?_
          with_reducible refine (w_Make.calls k a1_0 _ _ l1_1 60 t712 _ ?side1 ?side2 A6.out).mono ?_
          (case side1 => exact cq ((Kd.C_below HR1_1.out HB.out)))
          (case side2 => exact HC1_1.out)
          rintro e w23 ⟨rfl, hb⟩; refine ⟨_, rfl, ?_⟩
          have n0_ := Aside0.mk (blk_below (g := gb708) (o := .cells #[.bool a0_0, .slice A0_1 l0_1.length c0_1] 24 (0, 0)) (pb BK708.out) hb); have n1_ := Aside0.mk (blk_below (g := gb709) (o := .cells #[.bool a1_0, .slice A1_1 l1_1.length c1_1] 24 (0, 0)) (pb BK709.out) hb); have n2_ := Aside0.mk (below_step (bh GE708.out GE709.out) hb); clear BK708; clear BK709; clear HB; have BK708 := n0_; have BK709 := n1_; have HB := n2_; clear n0_ n1_ n2_
          (try clear hb)
          (try clear hb2)
          (try clear hk)
          (try clear hi)
          refine hK.out _ _ ⟨(blk_cell BK708.out 0).trans rfl, (blk_cell BK708.out 1).trans rfl, (blk_cell BK709.out 0).trans rfl, (blk_cell BK709.out 1).trans rfl⟩ (fun hHeld => ?_)
          clear hK K; refine norm_ (a' := ?_) ?_ ?_
          rotate_left
          · show Act.put _ (some 17) _ = _
            simp only [Act.put, List.setIfInBounds_toArray, List.set_cons_zero, List.set_cons_succ, i64_w, i32_w]
            rfl
          refine pure_ (i := 4) (N := some 5) (v := ?_) (a' := ?_) #[true, true, true, true, true, false] rfl rfl (by kernel_rfl) (fun _ _ _ h => h) (Or.inl ⟨by rfl, ?_⟩) ?_ ?_
          rotate_left
          · intro w'
            go_simp
            with_reducible rfl
          rotate_left
          · simp only [Act.put, List.setIfInBounds_toArray, List.set_cons_zero, List.set_cons_succ, i64_w, i32_w]
            rfl
          refine pure_ (i := 5) (N := some 6) (v := ?_) (a' := ?_) #[true, true, true, true, true, true] rfl rfl (by kernel_rfl) (fun _ _ _ h => h) (Or.inl ⟨by rfl, ?_⟩) ?_ ?_
          rotate_left
          · intro w'
            go_simp
            with_reducible rfl
          rotate_left
          · simp only [Act.put, List.setIfInBounds_toArray, List.set_cons_zero, List.set_cons_succ, i64_w, i32_w]
            rfl
          refine done_ (by kernel_rfl) ?_
          try go_wp2_with (first | ((with_reducible refine gate_callee (f := 17) rfl ?_); refine goesL_ (some 21) rfl rfl Tryz.func17 (by kernel_rfl) rfl #[.string t711, .string t712] rfl mq ?_; (with_reducible refine (z_DivMod.calls (hT := HT.out.below bq) k t711 t712 t713 t714 t715 _ A7.out).mono ?_); rintro e w24 ⟨rfl, hb⟩; refine ⟨_, rfl, ?_⟩; have n0_ := Aside0.mk (blk_below (g := gb708) (o := .cells #[.bool a0_0, .slice A0_1 l0_1.length c0_1] 24 (0, 0)) (pb BK708.out) hb); have n1_ := Aside0.mk (blk_below (g := gb709) (o := .cells #[.bool a1_0, .slice A1_1 l1_1.length c1_1] 24 (0, 0)) (pb BK709.out) hb); have n2_ := Aside0.mk (below_step (bh GE708.out GE709.out) hb); clear BK708; clear BK709; clear HB; have BK708 := n0_; have BK709 := n1_; have HB := n2_; clear n0_ n1_ n2_; (try clear hb); (try clear hb2); (try clear hk); (try clear hi)))
          go_ret
          exact ⟨eq_, by repeat (first | (with_reducible first | exact HB.out | apply below_alloc | apply pw_below_drewN | apply below_drew1 | refine below_set ?_ GE708.out | refine below_set ?_ GE709.out) | exact HB.out)⟩
      · rw [if_neg c9] at H; have c9b0 : (t713.toList == ([] : List UInt8)) = false := beq_eq_false_iff_ne.mpr c9; have c9b1 : (t713.toList != ([] : List UInt8)) = true := bne_iff_ne.mpr c9; obtain rfl := Option.some.inj H
        go_enter Tryz.func5, Tryz.ntmps5
        try go_wp2_with (first | ((with_reducible refine gate_dst (N := 2) rfl ?_); refine box_event ?hg (N := 2) ?hd (cs := #[.bool a0_0, .slice A0_1 l0_1.length c0_1]) (t := 24) ?hr ?_; (case hd => rfl); (case hg => rfl); (case hr => first | (go_simp; done) | (go_simp; rfl)); intro gb708 hg w25 hbox hb; have n0_ := Aside0.mk (below_step bq hb); have n1_ := Aside0.mk (hbox); have n2_ := Aside0.mk ((by rw [hg]; exact (below_size bq) : w.heap.size ≤ gb708)); have n3_ := Aside0.mk ((by rw [hg]; exact (below_size bq) : w.heap.size ≤ gb708)); clear HB; have HB := n0_; have BK708 := n1_; have GW708 := n2_; have GE708 := n3_; clear n0_ n1_ n2_ n3_; clear hb hbox hg) | ((with_reducible refine gate_dst (N := 3) rfl ?_); refine box_event ?hg (N := 3) ?hd (cs := #[.bool a1_0, .slice A1_1 l1_1.length c1_1]) (t := 24) ?hr ?_; (case hd => rfl); (case hg => rfl); (case hr => first | (go_simp; done) | (go_simp; rfl)); intro gb709 hg w26 hbox hb; have n0_ := Aside0.mk (blk_below (g := gb708) (o := .cells #[.bool a0_0, .slice A0_1 l0_1.length c0_1] 24 (0, 0)) (pb BK708.out) hb); have n1_ := Aside0.mk (below_step (bg GE708.out) hb); have n2_ := Aside0.mk (hbox); have n3_ := Aside0.mk ((by rw [hg]; exact (below_size (bg GE708.out)) : w.heap.size ≤ gb709)); have n4_ := Aside0.mk ((by rw [hg]; exact (below_size (bg GE708.out)) : w.heap.size ≤ gb709)); have n5_ := Aside0.mk ((by rw [hg]; exact Nat.ne_of_lt (blk_lt (g := gb708) (o := .cells #[.bool a0_0, .slice A0_1 l0_1.length c0_1] 24 (0, 0)) (pb BK708.out)) : gb708 ≠ gb709)); have n6_ := Aside0.mk ((by rw [hg]; exact Nat.ne_of_gt (blk_lt (g := gb708) (o := .cells #[.bool a0_0, .slice A0_1 l0_1.length c0_1] 24 (0, 0)) (pb BK708.out)) : gb709 ≠ gb708)); clear BK708; clear HB; have BK708 := n0_; have HB := n1_; have BK709 := n2_; have GW709 := n3_; have GE709 := n4_; have NB708_709 := n5_; have NB709_708 := n6_; clear n0_ n1_ n2_ n3_ n4_ n5_ n6_; clear hb hbox hg) | ((with_reducible refine gate_callee (f := 7) rfl ?_); refine goesL_ (some 12) rfl rfl Tryz.func7 (by kernel_rfl) rfl #[] rfl mq ?_; (with_reducible refine (w_known.calls (hT := HT.out.below bq) k  true _ A3.out).mono ?_); rintro e w27 ⟨rfl, hb⟩; refine ⟨_, rfl, ?_⟩; have n0_ := Aside0.mk (blk_below (g := gb708) (o := .cells #[.bool a0_0, .slice A0_1 l0_1.length c0_1] 24 (0, 0)) (pb BK708.out) hb); have n1_ := Aside0.mk (blk_below (g := gb709) (o := .cells #[.bool a1_0, .slice A1_1 l1_1.length c1_1] 24 (0, 0)) (pb BK709.out) hb); have n2_ := Aside0.mk (below_step (bh GE708.out GE709.out) hb); clear BK708; clear BK709; clear HB; have BK708 := n0_; have BK709 := n1_; have HB := n2_; clear n0_ n1_ n2_; (try clear hb); (try clear hb2); (try clear hk); (try clear hi)))
        have n0_ := Aside0.mk (blk_drew BK708.out); have n1_ := Aside0.mk (blk_drew BK709.out); have n2_ := Aside0.mk (below_drew1 HB.out); clear BK708; clear BK709; clear HB; have BK708 := n0_; have BK709 := n1_; have HB := n2_; clear n0_ n1_ n2_; refine start_ (n := 6) (S := fun w' => w'.cell? ⟨gb708, 0, none⟩ = some (.bool a0_0) ∧ w'.cell? ⟨gb708, 1, none⟩ = some (.slice A0_1 l0_1.length c0_1) ∧ w'.cell? ⟨gb709, 0, none⟩ = some (.bool a1_0) ∧ w'.cell? ⟨gb709, 1, none⟩ = some (.slice A1_1 l1_1.length c1_1)) (ds := []) #[false, false, false, false, false, false] (by kernel_rfl) rfl rfl ⟨(blk_cell BK708.out 0).trans rfl, (blk_cell BK708.out 1).trans rfl, (blk_cell BK709.out 0).trans rfl, (blk_cell BK709.out 1).trans rfl⟩ (fun hHeld => ?_)
        generalize w27.drew = w28 at BK708 BK709 HB hHeld ⊢
        refine take_ (i := 0) (N := some 14) (v := ?_) (a' := ?_) #[true, false, false, false, false, false] rfl rfl (by kernel_rfl) (fun _ _ _ h => h) (Or.inl ⟨by rfl, ?_⟩) hHeld ?_ ?_
        rotate_left
        · rintro w' ⟨s0, s1, s2, s3⟩
          go_simp
          with_reducible rfl
        rotate_left
        · simp only [Act.put, List.setIfInBounds_toArray, List.set_cons_zero, List.set_cons_succ, i64_w, i32_w]
          rfl
        refine take_ (i := 2) (N := some 16) (v := ?_) (a' := ?_) #[true, false, true, false, false, false] rfl rfl (by kernel_rfl) (fun _ _ _ h => h) (Or.inl ⟨by rfl, ?_⟩) hHeld ?_ ?_
        rotate_left
        · rintro w' ⟨s0, s1, s2, s3⟩
          go_simp
          with_reducible rfl
        rotate_left
        · simp only [Act.put, List.setIfInBounds_toArray, List.set_cons_zero, List.set_cons_succ, i64_w, i32_w]
          rfl
        refine one_ (i := 1) (N := some 15) #[true, true, true, false, false, false] rfl rfl (by kernel_rfl) (by decide) (fun K hK => ?_)
        refine goes_ Tryz.func8 (by kernel_rfl) rfl #[.agg #[.bool a0_0, .slice A0_1 l0_1.length c0_1], .int .i64 60] (by rfl) rfl rfl mq ?_
        with_reducible refine (w_Make.calls k a0_0 _ _ l0_1 60 t711 _ ?side1 ?side2 A5.out).mono ?_
        (case side1 => exact cq ((Kd.C_below HR0_1.out HB.out)))
        (case side2 => exact HC0_1.out)
        rintro e w29 ⟨rfl, hb⟩; refine ⟨_, rfl, ?_⟩
        have n0_ := Aside0.mk (blk_below (g := gb708) (o := .cells #[.bool a0_0, .slice A0_1 l0_1.length c0_1] 24 (0, 0)) (pb BK708.out) hb); have n1_ := Aside0.mk (blk_below (g := gb709) (o := .cells #[.bool a1_0, .slice A1_1 l1_1.length c1_1] 24 (0, 0)) (pb BK709.out) hb); have n2_ := Aside0.mk (below_step (bh GE708.out GE709.out) hb); clear BK708; clear BK709; clear HB; have BK708 := n0_; have BK709 := n1_; have HB := n2_; clear n0_ n1_ n2_
        (try clear hb)
        (try clear hb2)
        (try clear hk)
        (try clear hi)
        refine hK.out _ _ ⟨(blk_cell BK708.out 0).trans rfl, (blk_cell BK708.out 1).trans rfl, (blk_cell BK709.out 0).trans rfl, (blk_cell BK709.out 1).trans rfl⟩ (fun hHeld => ?_)
        clear hK K; refine norm_ (a' := ?_) ?_ ?_
        rotate_left
        · show Act.put _ (some 15) _ = _
          simp only [Act.put, List.setIfInBounds_toArray, List.set_cons_zero, List.set_cons_succ, i64_w, i32_w]
          rfl
        refine one_ (i := 3) (N := some 17) #[true, true, true, true, false, false] rfl rfl (by kernel_rfl) (by decide) (fun K hK => ?_)
        refine goes_ Tryz.func8 (by kernel_rfl) rfl #[.agg #[.bool a1_0, .slice A1_1 l1_1.length c1_1], .int .i64 60] (by rfl) rfl rfl mq ?_
        with_reducible refine (w_Make.calls k a1_0 _ _ l1_1 60 t712 _ ?side1 ?side2 A6.out).mono ?_
        (case side1 => exact cq ((Kd.C_below HR1_1.out HB.out)))
        (case side2 => exact HC1_1.out)
        rintro e w30 ⟨rfl, hb⟩; refine ⟨_, rfl, ?_⟩
        have n0_ := Aside0.mk (blk_below (g := gb708) (o := .cells #[.bool a0_0, .slice A0_1 l0_1.length c0_1] 24 (0, 0)) (pb BK708.out) hb); have n1_ := Aside0.mk (blk_below (g := gb709) (o := .cells #[.bool a1_0, .slice A1_1 l1_1.length c1_1] 24 (0, 0)) (pb BK709.out) hb); have n2_ := Aside0.mk (below_step (bh GE708.out GE709.out) hb); clear BK708; clear BK709; clear HB; have BK708 := n0_; have BK709 := n1_; have HB := n2_; clear n0_ n1_ n2_
        (try clear hb)
        (try clear hb2)
        (try clear hk)
        (try clear hi)
        refine hK.out _ _ ⟨(blk_cell BK708.out 0).trans rfl, (blk_cell BK708.out 1).trans rfl, (blk_cell BK709.out 0).trans rfl, (blk_cell BK709.out 1).trans rfl⟩ (fun hHeld => ?_)
        clear hK K; refine norm_ (a' := ?_) ?_ ?_
        rotate_left
        · show Act.put _ (some 17) _ = _
          simp only [Act.put, List.setIfInBounds_toArray, List.set_cons_zero, List.set_cons_succ, i64_w, i32_w]
          rfl
        refine pure_ (i := 4) (N := some 5) (v := ?_) (a' := ?_) #[true, true, true, true, true, false] rfl rfl (by kernel_rfl) (fun _ _ _ h => h) (Or.inl ⟨by rfl, ?_⟩) ?_ ?_
        rotate_left
        · intro w'
          go_simp
          with_reducible rfl
        rotate_left
        · simp only [Act.put, List.setIfInBounds_toArray, List.set_cons_zero, List.set_cons_succ, i64_w, i32_w]
          rfl
        refine pure_ (i := 5) (N := some 6) (v := ?_) (a' := ?_) #[true, true, true, true, true, true] rfl rfl (by kernel_rfl) (fun _ _ _ h => h) (Or.inl ⟨by rfl, ?_⟩) ?_ ?_
        rotate_left
        · intro w'
          go_simp
          with_reducible rfl
        rotate_left
        · simp only [Act.put, List.setIfInBounds_toArray, List.set_cons_zero, List.set_cons_succ, i64_w, i32_w]
          rfl
        refine done_ (by kernel_rfl) ?_
        try go_wp2_with (first | ((with_reducible refine gate_callee (f := 17) rfl ?_); refine goesL_ (some 21) rfl rfl Tryz.func17 (by kernel_rfl) rfl #[.string t711, .string t712] rfl mq ?_; (with_reducible refine (z_DivMod.calls (hT := HT.out.below bq) k t711 t712 t713 t714 t715 _ A7.out).mono ?_); rintro e w31 ⟨rfl, hb⟩; refine ⟨_, rfl, ?_⟩; have n0_ := Aside0.mk (blk_below (g := gb708) (o := .cells #[.bool a0_0, .slice A0_1 l0_1.length c0_1] 24 (0, 0)) (pb BK708.out) hb); have n1_ := Aside0.mk (blk_below (g := gb709) (o := .cells #[.bool a1_0, .slice A1_1 l1_1.length c1_1] 24 (0, 0)) (pb BK709.out) hb); have n2_ := Aside0.mk (below_step (bh GE708.out GE709.out) hb); clear BK708; clear BK709; clear HB; have BK708 := n0_; have BK709 := n1_; have HB := n2_; clear n0_ n1_ n2_; (try clear hb); (try clear hb2); (try clear hk); (try clear hi)))
        go_ret
        exact ⟨eq_, by repeat (first | (with_reducible first | exact HB.out | apply below_alloc | apply pw_below_drewN | apply below_drew1 | refine below_set ?_ GE708.out | refine below_set ?_ GE709.out) | exact HB.out)⟩
    · rw [if_neg c8] at H; have c8b0 : (t712.toList == ([48] : List UInt8)) = false := beq_eq_false_iff_ne.mpr c8; have c8b1 : (t712.toList != ([48] : List UInt8)) = true := bne_iff_ne.mpr c8; replace H := Option.bind_eq_some_iff.mp H; obtain ⟨⟨t716, t717⟩, A320, H⟩ := H; have A32 := Aside0.mk A320; clear A320; by_cases c33 : t713.toList = t716.toList
      · rw [if_pos c33] at H; have c33b0 : (t713.toList == t716.toList) = true := beq_iff_eq.mpr c33; have c33b1 : (t713.toList != t716.toList) = false := bne_eq_false_iff_eq.mpr c33; clear c33; by_cases c34 : t714.toList = t717.toList
        · rw [if_pos c34] at H; have c34b0 : (t714.toList == t717.toList) = true := beq_iff_eq.mpr c34; have c34b1 : (t714.toList != t717.toList) = false := bne_eq_false_iff_eq.mpr c34; clear c34; obtain rfl := Option.some.inj H
          go_enter Tryz.func5, Tryz.ntmps5
          try go_wp2_with (first | ((with_reducible refine gate_dst (N := 2) rfl ?_); refine box_event ?hg (N := 2) ?hd (cs := #[.bool a0_0, .slice A0_1 l0_1.length c0_1]) (t := 24) ?hr ?_; (case hd => rfl); (case hg => rfl); (case hr => first | (go_simp; done) | (go_simp; rfl)); intro gb708 hg w35 hbox hb; have n0_ := Aside0.mk (below_step bq hb); have n1_ := Aside0.mk (hbox); have n2_ := Aside0.mk ((by rw [hg]; exact (below_size bq) : w.heap.size ≤ gb708)); have n3_ := Aside0.mk ((by rw [hg]; exact (below_size bq) : w.heap.size ≤ gb708)); clear HB; have HB := n0_; have BK708 := n1_; have GW708 := n2_; have GE708 := n3_; clear n0_ n1_ n2_ n3_; clear hb hbox hg) | ((with_reducible refine gate_dst (N := 3) rfl ?_); refine box_event ?hg (N := 3) ?hd (cs := #[.bool a1_0, .slice A1_1 l1_1.length c1_1]) (t := 24) ?hr ?_; (case hd => rfl); (case hg => rfl); (case hr => first | (go_simp; done) | (go_simp; rfl)); intro gb709 hg w36 hbox hb; have n0_ := Aside0.mk (blk_below (g := gb708) (o := .cells #[.bool a0_0, .slice A0_1 l0_1.length c0_1] 24 (0, 0)) (pb BK708.out) hb); have n1_ := Aside0.mk (below_step (bg GE708.out) hb); have n2_ := Aside0.mk (hbox); have n3_ := Aside0.mk ((by rw [hg]; exact (below_size (bg GE708.out)) : w.heap.size ≤ gb709)); have n4_ := Aside0.mk ((by rw [hg]; exact (below_size (bg GE708.out)) : w.heap.size ≤ gb709)); have n5_ := Aside0.mk ((by rw [hg]; exact Nat.ne_of_lt (blk_lt (g := gb708) (o := .cells #[.bool a0_0, .slice A0_1 l0_1.length c0_1] 24 (0, 0)) (pb BK708.out)) : gb708 ≠ gb709)); have n6_ := Aside0.mk ((by rw [hg]; exact Nat.ne_of_gt (blk_lt (g := gb708) (o := .cells #[.bool a0_0, .slice A0_1 l0_1.length c0_1] 24 (0, 0)) (pb BK708.out)) : gb709 ≠ gb708)); clear BK708; clear HB; have BK708 := n0_; have HB := n1_; have BK709 := n2_; have GW709 := n3_; have GE709 := n4_; have NB708_709 := n5_; have NB709_708 := n6_; clear n0_ n1_ n2_ n3_ n4_ n5_ n6_; clear hb hbox hg) | ((with_reducible refine gate_callee (f := 7) rfl ?_); refine goesL_ (some 12) rfl rfl Tryz.func7 (by kernel_rfl) rfl #[] rfl mq ?_; (with_reducible refine (w_known.calls (hT := HT.out.below bq) k  true _ A3.out).mono ?_); rintro e w37 ⟨rfl, hb⟩; refine ⟨_, rfl, ?_⟩; have n0_ := Aside0.mk (blk_below (g := gb708) (o := .cells #[.bool a0_0, .slice A0_1 l0_1.length c0_1] 24 (0, 0)) (pb BK708.out) hb); have n1_ := Aside0.mk (blk_below (g := gb709) (o := .cells #[.bool a1_0, .slice A1_1 l1_1.length c1_1] 24 (0, 0)) (pb BK709.out) hb); have n2_ := Aside0.mk (below_step (bh GE708.out GE709.out) hb); clear BK708; clear BK709; clear HB; have BK708 := n0_; have BK709 := n1_; have HB := n2_; clear n0_ n1_ n2_; (try clear hb); (try clear hb2); (try clear hk); (try clear hi)))
          have n0_ := Aside0.mk (blk_drew BK708.out); have n1_ := Aside0.mk (blk_drew BK709.out); have n2_ := Aside0.mk (below_drew1 HB.out); clear BK708; clear BK709; clear HB; have BK708 := n0_; have BK709 := n1_; have HB := n2_; clear n0_ n1_ n2_; refine start_ (n := 6) (S := fun w' => w'.cell? ⟨gb708, 0, none⟩ = some (.bool a0_0) ∧ w'.cell? ⟨gb708, 1, none⟩ = some (.slice A0_1 l0_1.length c0_1) ∧ w'.cell? ⟨gb709, 0, none⟩ = some (.bool a1_0) ∧ w'.cell? ⟨gb709, 1, none⟩ = some (.slice A1_1 l1_1.length c1_1)) (ds := []) #[false, false, false, false, false, false] (by kernel_rfl) rfl rfl ⟨(blk_cell BK708.out 0).trans rfl, (blk_cell BK708.out 1).trans rfl, (blk_cell BK709.out 0).trans rfl, (blk_cell BK709.out 1).trans rfl⟩ (fun hHeld => ?_)
          generalize w37.drew = w38 at BK708 BK709 HB hHeld ⊢
          refine take_ (i := 0) (N := some 14) (v := ?_) (a' := ?_) #[true, false, false, false, false, false] rfl rfl (by kernel_rfl) (fun _ _ _ h => h) (Or.inl ⟨by rfl, ?_⟩) hHeld ?_ ?_
          rotate_left
          · rintro w' ⟨s0, s1, s2, s3⟩
            go_simp
            with_reducible rfl
          rotate_left
          · simp only [Act.put, List.setIfInBounds_toArray, List.set_cons_zero, List.set_cons_succ, i64_w, i32_w]
            rfl
          refine take_ (i := 2) (N := some 16) (v := ?_) (a' := ?_) #[true, false, true, false, false, false] rfl rfl (by kernel_rfl) (fun _ _ _ h => h) (Or.inl ⟨by rfl, ?_⟩) hHeld ?_ ?_
          rotate_left
          · rintro w' ⟨s0, s1, s2, s3⟩
            go_simp
            with_reducible rfl
          rotate_left
          · simp only [Act.put, List.setIfInBounds_toArray, List.set_cons_zero, List.set_cons_succ, i64_w, i32_w]
            rfl
          refine one_ (i := 1) (N := some 15) #[true, true, true, false, false, false] rfl rfl (by kernel_rfl) (by decide) (fun K hK => ?_)
          refine goes_ Tryz.func8 (by kernel_rfl) rfl #[.agg #[.bool a0_0, .slice A0_1 l0_1.length c0_1], .int .i64 60] (by rfl) rfl rfl mq ?_
          with_reducible refine (w_Make.calls k a0_0 _ _ l0_1 60 t711 _ ?side1 ?side2 A5.out).mono ?_
          (case side1 => exact cq ((Kd.C_below HR0_1.out HB.out)))
          (case side2 => exact HC0_1.out)
          rintro e w39 ⟨rfl, hb⟩; refine ⟨_, rfl, ?_⟩
          have n0_ := Aside0.mk (blk_below (g := gb708) (o := .cells #[.bool a0_0, .slice A0_1 l0_1.length c0_1] 24 (0, 0)) (pb BK708.out) hb); have n1_ := Aside0.mk (blk_below (g := gb709) (o := .cells #[.bool a1_0, .slice A1_1 l1_1.length c1_1] 24 (0, 0)) (pb BK709.out) hb); have n2_ := Aside0.mk (below_step (bh GE708.out GE709.out) hb); clear BK708; clear BK709; clear HB; have BK708 := n0_; have BK709 := n1_; have HB := n2_; clear n0_ n1_ n2_
          (try clear hb)
          (try clear hb2)
          (try clear hk)
          (try clear hi)
          refine hK.out _ _ ⟨(blk_cell BK708.out 0).trans rfl, (blk_cell BK708.out 1).trans rfl, (blk_cell BK709.out 0).trans rfl, (blk_cell BK709.out 1).trans rfl⟩ (fun hHeld => ?_)
          clear hK K; refine norm_ (a' := ?_) ?_ ?_
          rotate_left
          · show Act.put _ (some 15) _ = _
            simp only [Act.put, List.setIfInBounds_toArray, List.set_cons_zero, List.set_cons_succ, i64_w, i32_w]
            rfl
          refine one_ (i := 3) (N := some 17) #[true, true, true, true, false, false] rfl rfl (by kernel_rfl) (by decide) (fun K hK => ?_)
          refine goes_ Tryz.func8 (by kernel_rfl) rfl #[.agg #[.bool a1_0, .slice A1_1 l1_1.length c1_1], .int .i64 60] (by rfl) rfl rfl mq ?_
          with_reducible refine (w_Make.calls k a1_0 _ _ l1_1 60 t712 _ ?side1 ?side2 A6.out).mono ?_
          (case side1 => exact cq ((Kd.C_below HR1_1.out HB.out)))
          (case side2 => exact HC1_1.out)
          rintro e w40 ⟨rfl, hb⟩; refine ⟨_, rfl, ?_⟩
          have n0_ := Aside0.mk (blk_below (g := gb708) (o := .cells #[.bool a0_0, .slice A0_1 l0_1.length c0_1] 24 (0, 0)) (pb BK708.out) hb); have n1_ := Aside0.mk (blk_below (g := gb709) (o := .cells #[.bool a1_0, .slice A1_1 l1_1.length c1_1] 24 (0, 0)) (pb BK709.out) hb); have n2_ := Aside0.mk (below_step (bh GE708.out GE709.out) hb); clear BK708; clear BK709; clear HB; have BK708 := n0_; have BK709 := n1_; have HB := n2_; clear n0_ n1_ n2_
          (try clear hb)
          (try clear hb2)
          (try clear hk)
          (try clear hi)
          refine hK.out _ _ ⟨(blk_cell BK708.out 0).trans rfl, (blk_cell BK708.out 1).trans rfl, (blk_cell BK709.out 0).trans rfl, (blk_cell BK709.out 1).trans rfl⟩ (fun hHeld => ?_)
          clear hK K; refine norm_ (a' := ?_) ?_ ?_
          rotate_left
          · show Act.put _ (some 17) _ = _
            simp only [Act.put, List.setIfInBounds_toArray, List.set_cons_zero, List.set_cons_succ, i64_w, i32_w]
            rfl
          refine pure_ (i := 4) (N := some 5) (v := ?_) (a' := ?_) #[true, true, true, true, true, false] rfl rfl (by kernel_rfl) (fun _ _ _ h => h) (Or.inl ⟨by rfl, ?_⟩) ?_ ?_
          rotate_left
          · intro w'
            go_simp
            with_reducible rfl
          rotate_left
          · simp only [Act.put, List.setIfInBounds_toArray, List.set_cons_zero, List.set_cons_succ, i64_w, i32_w]
            rfl
          refine pure_ (i := 5) (N := some 6) (v := ?_) (a' := ?_) #[true, true, true, true, true, true] rfl rfl (by kernel_rfl) (fun _ _ _ h => h) (Or.inl ⟨by rfl, ?_⟩) ?_ ?_
          rotate_left
          · intro w'
            go_simp
            with_reducible rfl
          rotate_left
          · simp only [Act.put, List.setIfInBounds_toArray, List.set_cons_zero, List.set_cons_succ, i64_w, i32_w]
            rfl
          refine done_ (by kernel_rfl) ?_
          try go_wp2_with (first | ((with_reducible refine gate_callee (f := 17) rfl ?_); refine goesL_ (some 21) rfl rfl Tryz.func17 (by kernel_rfl) rfl #[.string t711, .string t712] rfl mq ?_; (with_reducible refine (z_DivMod.calls (hT := HT.out.below bq) k t711 t712 t713 t714 t715 _ A7.out).mono ?_); rintro e w41 ⟨rfl, hb⟩; refine ⟨_, rfl, ?_⟩; have n0_ := Aside0.mk (blk_below (g := gb708) (o := .cells #[.bool a0_0, .slice A0_1 l0_1.length c0_1] 24 (0, 0)) (pb BK708.out) hb); have n1_ := Aside0.mk (blk_below (g := gb709) (o := .cells #[.bool a1_0, .slice A1_1 l1_1.length c1_1] 24 (0, 0)) (pb BK709.out) hb); have n2_ := Aside0.mk (below_step (bh GE708.out GE709.out) hb); clear BK708; clear BK709; clear HB; have BK708 := n0_; have BK709 := n1_; have HB := n2_; clear n0_ n1_ n2_; (try clear hb); (try clear hb2); (try clear hk); (try clear hi)) | ((with_reducible refine gate_callee (f := 18) rfl ?_); refine goesL_ (some 40) rfl rfl Tryz.func18 (by kernel_rfl) rfl #[.string t711, .string t712] rfl mq ?_; (with_reducible refine (r_DivMod.calls (hT := HT.out.below bq) k t711 t712 t716 t717 _ A32.out).mono ?_); rintro e w42 ⟨rfl, hb⟩; refine ⟨_, rfl, ?_⟩; have n0_ := Aside0.mk (blk_below (g := gb708) (o := .cells #[.bool a0_0, .slice A0_1 l0_1.length c0_1] 24 (0, 0)) (pb BK708.out) hb); have n1_ := Aside0.mk (blk_below (g := gb709) (o := .cells #[.bool a1_0, .slice A1_1 l1_1.length c1_1] 24 (0, 0)) (pb BK709.out) hb); have n2_ := Aside0.mk (below_step (bh GE708.out GE709.out) hb); clear BK708; clear BK709; clear HB; have BK708 := n0_; have BK709 := n1_; have HB := n2_; clear n0_ n1_ n2_; (try clear hb); (try clear hb2); (try clear hk); (try clear hi)))
          go_ret
          exact ⟨eq_, by repeat (first | (with_reducible first | exact HB.out | apply below_alloc | apply pw_below_drewN | apply below_drew1 | refine below_set ?_ GE708.out | refine below_set ?_ GE709.out) | exact HB.out)⟩
        · rw [if_neg c34] at H; have c34b0 : (t714.toList == t717.toList) = false := beq_eq_false_iff_ne.mpr c34; have c34b1 : (t714.toList != t717.toList) = true := bne_iff_ne.mpr c34; obtain rfl := Option.some.inj H
          go_enter Tryz.func5, Tryz.ntmps5
          try go_wp2_with (first | ((with_reducible refine gate_dst (N := 2) rfl ?_); refine box_event ?hg (N := 2) ?hd (cs := #[.bool a0_0, .slice A0_1 l0_1.length c0_1]) (t := 24) ?hr ?_; (case hd => rfl); (case hg => rfl); (case hr => first | (go_simp; done) | (go_simp; rfl)); intro gb708 hg w43 hbox hb; have n0_ := Aside0.mk (below_step bq hb); have n1_ := Aside0.mk (hbox); have n2_ := Aside0.mk ((by rw [hg]; exact (below_size bq) : w.heap.size ≤ gb708)); have n3_ := Aside0.mk ((by rw [hg]; exact (below_size bq) : w.heap.size ≤ gb708)); clear HB; have HB := n0_; have BK708 := n1_; have GW708 := n2_; have GE708 := n3_; clear n0_ n1_ n2_ n3_; clear hb hbox hg) | ((with_reducible refine gate_dst (N := 3) rfl ?_); refine box_event ?hg (N := 3) ?hd (cs := #[.bool a1_0, .slice A1_1 l1_1.length c1_1]) (t := 24) ?hr ?_; (case hd => rfl); (case hg => rfl); (case hr => first | (go_simp; done) | (go_simp; rfl)); intro gb709 hg w44 hbox hb; have n0_ := Aside0.mk (blk_below (g := gb708) (o := .cells #[.bool a0_0, .slice A0_1 l0_1.length c0_1] 24 (0, 0)) (pb BK708.out) hb); have n1_ := Aside0.mk (below_step (bg GE708.out) hb); have n2_ := Aside0.mk (hbox); have n3_ := Aside0.mk ((by rw [hg]; exact (below_size (bg GE708.out)) : w.heap.size ≤ gb709)); have n4_ := Aside0.mk ((by rw [hg]; exact (below_size (bg GE708.out)) : w.heap.size ≤ gb709)); have n5_ := Aside0.mk ((by rw [hg]; exact Nat.ne_of_lt (blk_lt (g := gb708) (o := .cells #[.bool a0_0, .slice A0_1 l0_1.length c0_1] 24 (0, 0)) (pb BK708.out)) : gb708 ≠ gb709)); have n6_ := Aside0.mk ((by rw [hg]; exact Nat.ne_of_gt (blk_lt (g := gb708) (o := .cells #[.bool a0_0, .slice A0_1 l0_1.length c0_1] 24 (0, 0)) (pb BK708.out)) : gb709 ≠ gb708)); clear BK708; clear HB; have BK708 := n0_; have HB := n1_; have BK709 := n2_; have GW709 := n3_; have GE709 := n4_; have NB708_709 := n5_; have NB709_708 := n6_; clear n0_ n1_ n2_ n3_ n4_ n5_ n6_; clear hb hbox hg) | ((with_reducible refine gate_callee (f := 7) rfl ?_); refine goesL_ (some 12) rfl rfl Tryz.func7 (by kernel_rfl) rfl #[] rfl mq ?_; (with_reducible refine (w_known.calls (hT := HT.out.below bq) k  true _ A3.out).mono ?_); rintro e w45 ⟨rfl, hb⟩; refine ⟨_, rfl, ?_⟩; have n0_ := Aside0.mk (blk_below (g := gb708) (o := .cells #[.bool a0_0, .slice A0_1 l0_1.length c0_1] 24 (0, 0)) (pb BK708.out) hb); have n1_ := Aside0.mk (blk_below (g := gb709) (o := .cells #[.bool a1_0, .slice A1_1 l1_1.length c1_1] 24 (0, 0)) (pb BK709.out) hb); have n2_ := Aside0.mk (below_step (bh GE708.out GE709.out) hb); clear BK708; clear BK709; clear HB; have BK708 := n0_; have BK709 := n1_; have HB := n2_; clear n0_ n1_ n2_; (try clear hb); (try clear hb2); (try clear hk); (try clear hi)))
          have n0_ := Aside0.mk (blk_drew BK708.out); have n1_ := Aside0.mk (blk_drew BK709.out); have n2_ := Aside0.mk (below_drew1 HB.out); clear BK708; clear BK709; clear HB; have BK708 := n0_; have BK709 := n1_; have HB := n2_; clear n0_ n1_ n2_; refine start_ (n := 6) (S := fun w' => w'.cell? ⟨gb708, 0, none⟩ = some (.bool a0_0) ∧ w'.cell? ⟨gb708, 1, none⟩ = some (.slice A0_1 l0_1.length c0_1) ∧ w'.cell? ⟨gb709, 0, none⟩ = some (.bool a1_0) ∧ w'.cell? ⟨gb709, 1, none⟩ = some (.slice A1_1 l1_1.length c1_1)) (ds := []) #[false, false, false, false, false, false] (by kernel_rfl) rfl rfl ⟨(blk_cell BK708.out 0).trans rfl, (blk_cell BK708.out 1).trans rfl, (blk_cell BK709.out 0).trans rfl, (blk_cell BK709.out 1).trans rfl⟩ (fun hHeld => ?_)
          generalize w45.drew = w46 at BK708 BK709 HB hHeld ⊢
          refine take_ (i := 0) (N := some 14) (v := ?_) (a' := ?_) #[true, false, false, false, false, false] rfl rfl (by kernel_rfl) (fun _ _ _ h => h) (Or.inl ⟨by rfl, ?_⟩) hHeld ?_ ?_
          rotate_left
          · rintro w' ⟨s0, s1, s2, s3⟩
            go_simp
            with_reducible rfl
          rotate_left
          · simp only [Act.put, List.setIfInBounds_toArray, List.set_cons_zero, List.set_cons_succ, i64_w, i32_w]
            rfl
          refine take_ (i := 2) (N := some 16) (v := ?_) (a' := ?_) #[true, false, true, false, false, false] rfl rfl (by kernel_rfl) (fun _ _ _ h => h) (Or.inl ⟨by rfl, ?_⟩) hHeld ?_ ?_
          rotate_left
          · rintro w' ⟨s0, s1, s2, s3⟩
            go_simp
            with_reducible rfl
          rotate_left
          · simp only [Act.put, List.setIfInBounds_toArray, List.set_cons_zero, List.set_cons_succ, i64_w, i32_w]
            rfl
          refine one_ (i := 1) (N := some 15) #[true, true, true, false, false, false] rfl rfl (by kernel_rfl) (by decide) (fun K hK => ?_)
          refine goes_ Tryz.func8 (by kernel_rfl) rfl #[.agg #[.bool a0_0, .slice A0_1 l0_1.length c0_1], .int .i64 60] (by rfl) rfl rfl mq ?_
          with_reducible refine (w_Make.calls k a0_0 _ _ l0_1 60 t711 _ ?side1 ?side2 A5.out).mono ?_
          (case side1 => exact cq ((Kd.C_below HR0_1.out HB.out)))
          (case side2 => exact HC0_1.out)
          rintro e w47 ⟨rfl, hb⟩; refine ⟨_, rfl, ?_⟩
          have n0_ := Aside0.mk (blk_below (g := gb708) (o := .cells #[.bool a0_0, .slice A0_1 l0_1.length c0_1] 24 (0, 0)) (pb BK708.out) hb); have n1_ := Aside0.mk (blk_below (g := gb709) (o := .cells #[.bool a1_0, .slice A1_1 l1_1.length c1_1] 24 (0, 0)) (pb BK709.out) hb); have n2_ := Aside0.mk (below_step (bh GE708.out GE709.out) hb); clear BK708; clear BK709; clear HB; have BK708 := n0_; have BK709 := n1_; have HB := n2_; clear n0_ n1_ n2_
          (try clear hb)
          (try clear hb2)
          (try clear hk)
          (try clear hi)
          refine hK.out _ _ ⟨(blk_cell BK708.out 0).trans rfl, (blk_cell BK708.out 1).trans rfl, (blk_cell BK709.out 0).trans rfl, (blk_cell BK709.out 1).trans rfl⟩ (fun hHeld => ?_)
          clear hK K; refine norm_ (a' := ?_) ?_ ?_
          rotate_left
          · show Act.put _ (some 15) _ = _
            simp only [Act.put, List.setIfInBounds_toArray, List.set_cons_zero, List.set_cons_succ, i64_w, i32_w]
            rfl
          refine one_ (i := 3) (N := some 17) #[true, true, true, true, false, false] rfl rfl (by kernel_rfl) (by decide) (fun K hK => ?_)
          refine goes_ Tryz.func8 (by kernel_rfl) rfl #[.agg #[.bool a1_0, .slice A1_1 l1_1.length c1_1], .int .i64 60] (by rfl) rfl rfl mq ?_
          with_reducible refine (w_Make.calls k a1_0 _ _ l1_1 60 t712 _ ?side1 ?side2 A6.out).mono ?_
          (case side1 => exact cq ((Kd.C_below HR1_1.out HB.out)))
          (case side2 => exact HC1_1.out)
          rintro e w48 ⟨rfl, hb⟩; refine ⟨_, rfl, ?_⟩
          have n0_ := Aside0.mk (blk_below (g := gb708) (o := .cells #[.bool a0_0, .slice A0_1 l0_1.length c0_1] 24 (0, 0)) (pb BK708.out) hb); have n1_ := Aside0.mk (blk_below (g := gb709) (o := .cells #[.bool a1_0, .slice A1_1 l1_1.length c1_1] 24 (0, 0)) (pb BK709.out) hb); have n2_ := Aside0.mk (below_step (bh GE708.out GE709.out) hb); clear BK708; clear BK709; clear HB; have BK708 := n0_; have BK709 := n1_; have HB := n2_; clear n0_ n1_ n2_
          (try clear hb)
          (try clear hb2)
          (try clear hk)
          (try clear hi)
          refine hK.out _ _ ⟨(blk_cell BK708.out 0).trans rfl, (blk_cell BK708.out 1).trans rfl, (blk_cell BK709.out 0).trans rfl, (blk_cell BK709.out 1).trans rfl⟩ (fun hHeld => ?_)
          clear hK K; refine norm_ (a' := ?_) ?_ ?_
          rotate_left
          · show Act.put _ (some 17) _ = _
            simp only [Act.put, List.setIfInBounds_toArray, List.set_cons_zero, List.set_cons_succ, i64_w, i32_w]
            rfl
          refine pure_ (i := 4) (N := some 5) (v := ?_) (a' := ?_) #[true, true, true, true, true, false] rfl rfl (by kernel_rfl) (fun _ _ _ h => h) (Or.inl ⟨by rfl, ?_⟩) ?_ ?_
          rotate_left
          · intro w'
            go_simp
            with_reducible rfl
          rotate_left
          · simp only [Act.put, List.setIfInBounds_toArray, List.set_cons_zero, List.set_cons_succ, i64_w, i32_w]
            rfl
          refine pure_ (i := 5) (N := some 6) (v := ?_) (a' := ?_) #[true, true, true, true, true, true] rfl rfl (by kernel_rfl) (fun _ _ _ h => h) (Or.inl ⟨by rfl, ?_⟩) ?_ ?_
          rotate_left
          · intro w'
            go_simp
            with_reducible rfl
          rotate_left
          · simp only [Act.put, List.setIfInBounds_toArray, List.set_cons_zero, List.set_cons_succ, i64_w, i32_w]
            rfl
          refine done_ (by kernel_rfl) ?_
          try go_wp2_with (first | ((with_reducible refine gate_callee (f := 17) rfl ?_); refine goesL_ (some 21) rfl rfl Tryz.func17 (by kernel_rfl) rfl #[.string t711, .string t712] rfl mq ?_; (with_reducible refine (z_DivMod.calls (hT := HT.out.below bq) k t711 t712 t713 t714 t715 _ A7.out).mono ?_); rintro e w49 ⟨rfl, hb⟩; refine ⟨_, rfl, ?_⟩; have n0_ := Aside0.mk (blk_below (g := gb708) (o := .cells #[.bool a0_0, .slice A0_1 l0_1.length c0_1] 24 (0, 0)) (pb BK708.out) hb); have n1_ := Aside0.mk (blk_below (g := gb709) (o := .cells #[.bool a1_0, .slice A1_1 l1_1.length c1_1] 24 (0, 0)) (pb BK709.out) hb); have n2_ := Aside0.mk (below_step (bh GE708.out GE709.out) hb); clear BK708; clear BK709; clear HB; have BK708 := n0_; have BK709 := n1_; have HB := n2_; clear n0_ n1_ n2_; (try clear hb); (try clear hb2); (try clear hk); (try clear hi)) | ((with_reducible refine gate_callee (f := 18) rfl ?_); refine goesL_ (some 40) rfl rfl Tryz.func18 (by kernel_rfl) rfl #[.string t711, .string t712] rfl mq ?_; (with_reducible refine (r_DivMod.calls (hT := HT.out.below bq) k t711 t712 t716 t717 _ A32.out).mono ?_); rintro e w50 ⟨rfl, hb⟩; refine ⟨_, rfl, ?_⟩; have n0_ := Aside0.mk (blk_below (g := gb708) (o := .cells #[.bool a0_0, .slice A0_1 l0_1.length c0_1] 24 (0, 0)) (pb BK708.out) hb); have n1_ := Aside0.mk (blk_below (g := gb709) (o := .cells #[.bool a1_0, .slice A1_1 l1_1.length c1_1] 24 (0, 0)) (pb BK709.out) hb); have n2_ := Aside0.mk (below_step (bh GE708.out GE709.out) hb); clear BK708; clear BK709; clear HB; have BK708 := n0_; have BK709 := n1_; have HB := n2_; clear n0_ n1_ n2_; (try clear hb); (try clear hb2); (try clear hk); (try clear hi)))
          go_ret
          exact ⟨eq_, by repeat (first | (with_reducible first | exact HB.out | apply below_alloc | apply pw_below_drewN | apply below_drew1 | refine below_set ?_ GE708.out | refine below_set ?_ GE709.out) | exact HB.out)⟩
      · rw [if_neg c33] at H; have c33b0 : (t713.toList == t716.toList) = false := beq_eq_false_iff_ne.mpr c33; have c33b1 : (t713.toList != t716.toList) = true := bne_iff_ne.mpr c33; obtain rfl := Option.some.inj H
        go_enter Tryz.func5, Tryz.ntmps5
        try go_wp2_with (first | ((with_reducible refine gate_dst (N := 2) rfl ?_); refine box_event ?hg (N := 2) ?hd (cs := #[.bool a0_0, .slice A0_1 l0_1.length c0_1]) (t := 24) ?hr ?_; (case hd => rfl); (case hg => rfl); (case hr => first | (go_simp; done) | (go_simp; rfl)); intro gb708 hg w51 hbox hb; have n0_ := Aside0.mk (below_step bq hb); have n1_ := Aside0.mk (hbox); have n2_ := Aside0.mk ((by rw [hg]; exact (below_size bq) : w.heap.size ≤ gb708)); have n3_ := Aside0.mk ((by rw [hg]; exact (below_size bq) : w.heap.size ≤ gb708)); clear HB; have HB := n0_; have BK708 := n1_; have GW708 := n2_; have GE708 := n3_; clear n0_ n1_ n2_ n3_; clear hb hbox hg) | ((with_reducible refine gate_dst (N := 3) rfl ?_); refine box_event ?hg (N := 3) ?hd (cs := #[.bool a1_0, .slice A1_1 l1_1.length c1_1]) (t := 24) ?hr ?_; (case hd => rfl); (case hg => rfl); (case hr => first | (go_simp; done) | (go_simp; rfl)); intro gb709 hg w52 hbox hb; have n0_ := Aside0.mk (blk_below (g := gb708) (o := .cells #[.bool a0_0, .slice A0_1 l0_1.length c0_1] 24 (0, 0)) (pb BK708.out) hb); have n1_ := Aside0.mk (below_step (bg GE708.out) hb); have n2_ := Aside0.mk (hbox); have n3_ := Aside0.mk ((by rw [hg]; exact (below_size (bg GE708.out)) : w.heap.size ≤ gb709)); have n4_ := Aside0.mk ((by rw [hg]; exact (below_size (bg GE708.out)) : w.heap.size ≤ gb709)); have n5_ := Aside0.mk ((by rw [hg]; exact Nat.ne_of_lt (blk_lt (g := gb708) (o := .cells #[.bool a0_0, .slice A0_1 l0_1.length c0_1] 24 (0, 0)) (pb BK708.out)) : gb708 ≠ gb709)); have n6_ := Aside0.mk ((by rw [hg]; exact Nat.ne_of_gt (blk_lt (g := gb708) (o := .cells #[.bool a0_0, .slice A0_1 l0_1.length c0_1] 24 (0, 0)) (pb BK708.out)) : gb709 ≠ gb708)); clear BK708; clear HB; have BK708 := n0_; have HB := n1_; have BK709 := n2_; have GW709 := n3_; have GE709 := n4_; have NB708_709 := n5_; have NB709_708 := n6_; clear n0_ n1_ n2_ n3_ n4_ n5_ n6_; clear hb hbox hg) | ((with_reducible refine gate_callee (f := 7) rfl ?_); refine goesL_ (some 12) rfl rfl Tryz.func7 (by kernel_rfl) rfl #[] rfl mq ?_; (with_reducible refine (w_known.calls (hT := HT.out.below bq) k  true _ A3.out).mono ?_); rintro e w53 ⟨rfl, hb⟩; refine ⟨_, rfl, ?_⟩; have n0_ := Aside0.mk (blk_below (g := gb708) (o := .cells #[.bool a0_0, .slice A0_1 l0_1.length c0_1] 24 (0, 0)) (pb BK708.out) hb); have n1_ := Aside0.mk (blk_below (g := gb709) (o := .cells #[.bool a1_0, .slice A1_1 l1_1.length c1_1] 24 (0, 0)) (pb BK709.out) hb); have n2_ := Aside0.mk (below_step (bh GE708.out GE709.out) hb); clear BK708; clear BK709; clear HB; have BK708 := n0_; have BK709 := n1_; have HB := n2_; clear n0_ n1_ n2_; (try clear hb); (try clear hb2); (try clear hk); (try clear hi)))
        have n0_ := Aside0.mk (blk_drew BK708.out); have n1_ := Aside0.mk (blk_drew BK709.out); have n2_ := Aside0.mk (below_drew1 HB.out); clear BK708; clear BK709; clear HB; have BK708 := n0_; have BK709 := n1_; have HB := n2_; clear n0_ n1_ n2_; refine start_ (n := 6) (S := fun w' => w'.cell? ⟨gb708, 0, none⟩ = some (.bool a0_0) ∧ w'.cell? ⟨gb708, 1, none⟩ = some (.slice A0_1 l0_1.length c0_1) ∧ w'.cell? ⟨gb709, 0, none⟩ = some (.bool a1_0) ∧ w'.cell? ⟨gb709, 1, none⟩ = some (.slice A1_1 l1_1.length c1_1)) (ds := []) #[false, false, false, false, false, false] (by kernel_rfl) rfl rfl ⟨(blk_cell BK708.out 0).trans rfl, (blk_cell BK708.out 1).trans rfl, (blk_cell BK709.out 0).trans rfl, (blk_cell BK709.out 1).trans rfl⟩ (fun hHeld => ?_)
        generalize w53.drew = w54 at BK708 BK709 HB hHeld ⊢
        refine take_ (i := 0) (N := some 14) (v := ?_) (a' := ?_) #[true, false, false, false, false, false] rfl rfl (by kernel_rfl) (fun _ _ _ h => h) (Or.inl ⟨by rfl, ?_⟩) hHeld ?_ ?_
        rotate_left
        · rintro w' ⟨s0, s1, s2, s3⟩
          go_simp
          with_reducible rfl
        rotate_left
        · simp only [Act.put, List.setIfInBounds_toArray, List.set_cons_zero, List.set_cons_succ, i64_w, i32_w]
          rfl
        refine take_ (i := 2) (N := some 16) (v := ?_) (a' := ?_) #[true, false, true, false, false, false] rfl rfl (by kernel_rfl) (fun _ _ _ h => h) (Or.inl ⟨by rfl, ?_⟩) hHeld ?_ ?_
        rotate_left
        · rintro w' ⟨s0, s1, s2, s3⟩
          go_simp
          with_reducible rfl
        rotate_left
        · simp only [Act.put, List.setIfInBounds_toArray, List.set_cons_zero, List.set_cons_succ, i64_w, i32_w]
          rfl
        refine one_ (i := 1) (N := some 15) #[true, true, true, false, false, false] rfl rfl (by kernel_rfl) (by decide) (fun K hK => ?_)
        refine goes_ Tryz.func8 (by kernel_rfl) rfl #[.agg #[.bool a0_0, .slice A0_1 l0_1.length c0_1], .int .i64 60] (by rfl) rfl rfl mq ?_
        with_reducible refine (w_Make.calls k a0_0 _ _ l0_1 60 t711 _ ?side1 ?side2 A5.out).mono ?_
        (case side1 => exact cq ((Kd.C_below HR0_1.out HB.out)))
        (case side2 => exact HC0_1.out)
        rintro e w55 ⟨rfl, hb⟩; refine ⟨_, rfl, ?_⟩
        have n0_ := Aside0.mk (blk_below (g := gb708) (o := .cells #[.bool a0_0, .slice A0_1 l0_1.length c0_1] 24 (0, 0)) (pb BK708.out) hb); have n1_ := Aside0.mk (blk_below (g := gb709) (o := .cells #[.bool a1_0, .slice A1_1 l1_1.length c1_1] 24 (0, 0)) (pb BK709.out) hb); have n2_ := Aside0.mk (below_step (bh GE708.out GE709.out) hb); clear BK708; clear BK709; clear HB; have BK708 := n0_; have BK709 := n1_; have HB := n2_; clear n0_ n1_ n2_
        (try clear hb)
        (try clear hb2)
        (try clear hk)
        (try clear hi)
        refine hK.out _ _ ⟨(blk_cell BK708.out 0).trans rfl, (blk_cell BK708.out 1).trans rfl, (blk_cell BK709.out 0).trans rfl, (blk_cell BK709.out 1).trans rfl⟩ (fun hHeld => ?_)
        clear hK K; refine norm_ (a' := ?_) ?_ ?_
        rotate_left
        · show Act.put _ (some 15) _ = _
          simp only [Act.put, List.setIfInBounds_toArray, List.set_cons_zero, List.set_cons_succ, i64_w, i32_w]
          rfl
        refine one_ (i := 3) (N := some 17) #[true, true, true, true, false, false] rfl rfl (by kernel_rfl) (by decide) (fun K hK => ?_)
        refine goes_ Tryz.func8 (by kernel_rfl) rfl #[.agg #[.bool a1_0, .slice A1_1 l1_1.length c1_1], .int .i64 60] (by rfl) rfl rfl mq ?_
        with_reducible refine (w_Make.calls k a1_0 _ _ l1_1 60 t712 _ ?side1 ?side2 A6.out).mono ?_
        (case side1 => exact cq ((Kd.C_below HR1_1.out HB.out)))
        (case side2 => exact HC1_1.out)
        rintro e w56 ⟨rfl, hb⟩; refine ⟨_, rfl, ?_⟩
        have n0_ := Aside0.mk (blk_below (g := gb708) (o := .cells #[.bool a0_0, .slice A0_1 l0_1.length c0_1] 24 (0, 0)) (pb BK708.out) hb); have n1_ := Aside0.mk (blk_below (g := gb709) (o := .cells #[.bool a1_0, .slice A1_1 l1_1.length c1_1] 24 (0, 0)) (pb BK709.out) hb); have n2_ := Aside0.mk (below_step (bh GE708.out GE709.out) hb); clear BK708; clear BK709; clear HB; have BK708 := n0_; have BK709 := n1_; have HB := n2_; clear n0_ n1_ n2_
        (try clear hb)
        (try clear hb2)
        (try clear hk)
        (try clear hi)
        refine hK.out _ _ ⟨(blk_cell BK708.out 0).trans rfl, (blk_cell BK708.out 1).trans rfl, (blk_cell BK709.out 0).trans rfl, (blk_cell BK709.out 1).trans rfl⟩ (fun hHeld => ?_)
        clear hK K; refine norm_ (a' := ?_) ?_ ?_
        rotate_left
        · show Act.put _ (some 17) _ = _
          simp only [Act.put, List.setIfInBounds_toArray, List.set_cons_zero, List.set_cons_succ, i64_w, i32_w]
          rfl
        refine pure_ (i := 4) (N := some 5) (v := ?_) (a' := ?_) #[true, true, true, true, true, false] rfl rfl (by kernel_rfl) (fun _ _ _ h => h) (Or.inl ⟨by rfl, ?_⟩) ?_ ?_
        rotate_left
        · intro w'
          go_simp
          with_reducible rfl
        rotate_left
        · simp only [Act.put, List.setIfInBounds_toArray, List.set_cons_zero, List.set_cons_succ, i64_w, i32_w]
          rfl
        refine pure_ (i := 5) (N := some 6) (v := ?_) (a' := ?_) #[true, true, true, true, true, true] rfl rfl (by kernel_rfl) (fun _ _ _ h => h) (Or.inl ⟨by rfl, ?_⟩) ?_ ?_
        rotate_left
        · intro w'
          go_simp
          with_reducible rfl
        rotate_left
        · simp only [Act.put, List.setIfInBounds_toArray, List.set_cons_zero, List.set_cons_succ, i64_w, i32_w]
          rfl
        refine done_ (by kernel_rfl) ?_
        try go_wp2_with (first | ((with_reducible refine gate_callee (f := 17) rfl ?_); refine goesL_ (some 21) rfl rfl Tryz.func17 (by kernel_rfl) rfl #[.string t711, .string t712] rfl mq ?_; (with_reducible refine (z_DivMod.calls (hT := HT.out.below bq) k t711 t712 t713 t714 t715 _ A7.out).mono ?_); rintro e w57 ⟨rfl, hb⟩; refine ⟨_, rfl, ?_⟩; have n0_ := Aside0.mk (blk_below (g := gb708) (o := .cells #[.bool a0_0, .slice A0_1 l0_1.length c0_1] 24 (0, 0)) (pb BK708.out) hb); have n1_ := Aside0.mk (blk_below (g := gb709) (o := .cells #[.bool a1_0, .slice A1_1 l1_1.length c1_1] 24 (0, 0)) (pb BK709.out) hb); have n2_ := Aside0.mk (below_step (bh GE708.out GE709.out) hb); clear BK708; clear BK709; clear HB; have BK708 := n0_; have BK709 := n1_; have HB := n2_; clear n0_ n1_ n2_; (try clear hb); (try clear hb2); (try clear hk); (try clear hi)) | ((with_reducible refine gate_callee (f := 18) rfl ?_); refine goesL_ (some 40) rfl rfl Tryz.func18 (by kernel_rfl) rfl #[.string t711, .string t712] rfl mq ?_; (with_reducible refine (r_DivMod.calls (hT := HT.out.below bq) k t711 t712 t716 t717 _ A32.out).mono ?_); rintro e w58 ⟨rfl, hb⟩; refine ⟨_, rfl, ?_⟩; have n0_ := Aside0.mk (blk_below (g := gb708) (o := .cells #[.bool a0_0, .slice A0_1 l0_1.length c0_1] 24 (0, 0)) (pb BK708.out) hb); have n1_ := Aside0.mk (blk_below (g := gb709) (o := .cells #[.bool a1_0, .slice A1_1 l1_1.length c1_1] 24 (0, 0)) (pb BK709.out) hb); have n2_ := Aside0.mk (below_step (bh GE708.out GE709.out) hb); clear BK708; clear BK709; clear HB; have BK708 := n0_; have BK709 := n1_; have HB := n2_; clear n0_ n1_ n2_; (try clear hb); (try clear hb2); (try clear hk); (try clear hi)))
        go_ret
        exact ⟨eq_, by repeat (first | (with_reducible first | exact HB.out | apply below_alloc | apply pw_below_drewN | apply below_drew1 | refine below_set ?_ GE708.out | refine below_set ?_ GE709.out) | exact HB.out)⟩
  · replace c4 := Bool.eq_false_iff.mpr c4; subst c4; have H1 : (some false) = some r := by rw [if_neg (show ¬ (false = true) by decide)] at H; exact H
    clear H; have H := H1; clear H1; obtain rfl := Option.some.inj H
    go_enter Tryz.func5, Tryz.ntmps5
    go_wp2_with (first | ((with_reducible refine gate_dst (N := 2) rfl ?_); refine box_event ?hg (N := 2) ?hd (cs := #[.bool a0_0, .slice A0_1 l0_1.length c0_1]) (t := 24) ?hr ?_; (case hd => rfl); (case hg => rfl); (case hr => first | (go_simp; done) | (go_simp; rfl)); intro gb708 hg w59 hbox hb; have n0_ := Aside0.mk (below_step bq hb); have n1_ := Aside0.mk (hbox); have n2_ := Aside0.mk ((by rw [hg]; exact (below_size bq) : w.heap.size ≤ gb708)); have n3_ := Aside0.mk ((by rw [hg]; exact (below_size bq) : w.heap.size ≤ gb708)); clear HB; have HB := n0_; have BK708 := n1_; have GW708 := n2_; have GE708 := n3_; clear n0_ n1_ n2_ n3_; clear hb hbox hg) | ((with_reducible refine gate_dst (N := 3) rfl ?_); refine box_event ?hg (N := 3) ?hd (cs := #[.bool a1_0, .slice A1_1 l1_1.length c1_1]) (t := 24) ?hr ?_; (case hd => rfl); (case hg => rfl); (case hr => first | (go_simp; done) | (go_simp; rfl)); intro gb709 hg w60 hbox hb; have n0_ := Aside0.mk (blk_below (g := gb708) (o := .cells #[.bool a0_0, .slice A0_1 l0_1.length c0_1] 24 (0, 0)) (pb BK708.out) hb); have n1_ := Aside0.mk (below_step (bg GE708.out) hb); have n2_ := Aside0.mk (hbox); have n3_ := Aside0.mk ((by rw [hg]; exact (below_size (bg GE708.out)) : w.heap.size ≤ gb709)); have n4_ := Aside0.mk ((by rw [hg]; exact (below_size (bg GE708.out)) : w.heap.size ≤ gb709)); have n5_ := Aside0.mk ((by rw [hg]; exact Nat.ne_of_lt (blk_lt (g := gb708) (o := .cells #[.bool a0_0, .slice A0_1 l0_1.length c0_1] 24 (0, 0)) (pb BK708.out)) : gb708 ≠ gb709)); have n6_ := Aside0.mk ((by rw [hg]; exact Nat.ne_of_gt (blk_lt (g := gb708) (o := .cells #[.bool a0_0, .slice A0_1 l0_1.length c0_1] 24 (0, 0)) (pb BK708.out)) : gb709 ≠ gb708)); clear BK708; clear HB; have BK708 := n0_; have HB := n1_; have BK709 := n2_; have GW709 := n3_; have GE709 := n4_; have NB708_709 := n5_; have NB709_708 := n6_; clear n0_ n1_ n2_ n3_ n4_ n5_ n6_; clear hb hbox hg) | ((with_reducible refine gate_callee (f := 7) rfl ?_); refine goesL_ (some 12) rfl rfl Tryz.func7 (by kernel_rfl) rfl #[] rfl mq ?_; (with_reducible refine (w_known.calls (hT := HT.out.below bq) k  false _ A3.out).mono ?_); rintro e w61 ⟨rfl, hb⟩; refine ⟨_, rfl, ?_⟩; have n0_ := Aside0.mk (blk_below (g := gb708) (o := .cells #[.bool a0_0, .slice A0_1 l0_1.length c0_1] 24 (0, 0)) (pb BK708.out) hb); have n1_ := Aside0.mk (blk_below (g := gb709) (o := .cells #[.bool a1_0, .slice A1_1 l1_1.length c1_1] 24 (0, 0)) (pb BK709.out) hb); have n2_ := Aside0.mk (below_step (bh GE708.out GE709.out) hb); clear BK708; clear BK709; clear HB; have BK708 := n0_; have BK709 := n1_; have HB := n2_; clear n0_ n1_ n2_; (try clear hb); (try clear hb2); (try clear hk); (try clear hi)))
    go_ret
    exact ⟨eq_, by repeat (first | (with_reducible first | exact HB.out | apply below_alloc | apply pw_below_drewN | apply below_drew1 | refine below_set ?_ GE708.out | refine below_set ?_ GE709.out) | exact HB.out)⟩
end Go.Proofs.YtgicckcahhlbjaaGreatDoor.P
