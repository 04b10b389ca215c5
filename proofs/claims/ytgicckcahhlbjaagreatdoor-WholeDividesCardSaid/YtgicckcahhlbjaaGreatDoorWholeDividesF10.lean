/- Functions of the program, as functions of Lean, and the walks that show that the code answers as they do: written by a program. Conditions: those of each theorem. -/
import Derived.Test.YtgicckcahhlbjaaGreatDoorWholeDividesF9
namespace Go.Proofs.YtgicckcahhlbjaaGreatDoor.P
open Go.RowKit Go.Proofs.YtgicckcahhlbjaaGreatDoorW.PrintWords Go.Proofs.YtgicckcahhlbjaaGreatDoorW.PrintLast Go.Proofs.YtgicckcahhlbjaaGreatDoorW.PrintMore
attribute [local go_sem] gtr_text max2_int min2_int max_two min_two max_three min_three max_four min_four
set_option linter.unusedVariables false
set_option linter.unusedSimpArgs false
mutual
def schismaref02_divide.l0 : Nat → List Int → List Int → List Int → List Int → Int → Option (List Int × List Int)
  | 0, _, _, _, _, _ => none
  | k + 1, x0, x1, x6, x7, x8 => if x8 ≥ 0 then (if 0 ≤ x8 then (if x8 < (x0.length : Int) then ((some (([rd x0 x8] : List Int) : List Int)).bind fun y651 => (if y651.length + x7.length < 17592186044416 then ((schismaref02_trim.f k (y651 ++ x7)).bind fun t657 => (schismaref02_divide.l1 k x0 x1 x6 t657 x8 0 999999999)) else (none))) else (none)) else (none)) else ((schismaref02_trim.f k x6).bind fun t647 => (some (t647, x7)))
def schismaref02_divide.l1 : Nat → List Int → List Int → List Int → List Int → Int → Int → Int → Option (List Int × List Int)
  | 0, _, _, _, _, _, _, _ => none
  | k + 1, x0, x1, x6, x7, x8, x9, x10 => if x9 < x10 then ((schismaref02_times.f k x1 (([wrap64 (Int.tdiv (wrap64 ((wrap64 (x9 + x10)) + 1)) 2)] : List Int))).bind fun t663 => ((schismaref02_order.f k t663 x7).bind fun t666 => (if t666 ≤ 0 then (schismaref02_divide.l1 k x0 x1 x6 x7 x8 (wrap64 (Int.tdiv (wrap64 ((wrap64 (x9 + x10)) + 1)) 2)) x10) else (schismaref02_divide.l1 k x0 x1 x6 x7 x8 x9 (wrap64 ((wrap64 (Int.tdiv (wrap64 ((wrap64 (x9 + x10)) + 1)) 2)) - 1)))))) else (if 0 ≤ x8 then (if x8 < (x6.length : Int) then ((some (x6.set (x8 : Int).toNat x9 : List Int)).bind fun y667 => (if x9 > 0 then ((schismaref02_times.f k x1 (([x9] : List Int))).bind fun t671 => ((schismaref02_minus.f k x7 t671).bind fun t674 => (schismaref02_divide.l0 k x0 x1 y667 t674 (wrap64 (x8 - 1))))) else (schismaref02_divide.l0 k x0 x1 y667 x7 (wrap64 (x8 - 1))))) else (none)) else (none))
end
def schismaref02_divide.f (k : Nat) (l0 : List Int) (l1 : List Int) : Option (List Int × List Int) := if 0 ≤ (l0.length : Int) then (if ((l0.length : Int) : Int).toNat ≤ 35184372088832 then (schismaref02_divide.l0 k l0 l1 (List.replicate ((l0.length : Int) : Int).toNat 0) ([] : List Int) (wrap64 ((l0.length : Int) - 1))) else (none)) else (none)
theorem schismaref02_divide.mono_l : ∀ k, (∀ y0 y1 y2 y3 y4, LeO (schismaref02_divide.l0 k y0 y1 y2 y3 y4) (schismaref02_divide.l0 (k + 1) y0 y1 y2 y3 y4)) ∧ (∀ y0 y1 y2 y3 y4 y5 y6, LeO (schismaref02_divide.l1 k y0 y1 y2 y3 y4 y5 y6) (schismaref02_divide.l1 (k + 1) y0 y1 y2 y3 y4 y5 y6))
  | 0 => ⟨fun _ _ _ _ _ r h => by simp [schismaref02_divide.l0] at h, fun _ _ _ _ _ _ _ r h => by simp [schismaref02_divide.l1] at h⟩
  | k + 1 => by
    obtain ⟨ih0, ih1⟩ := schismaref02_divide.mono_l k
    refine ⟨?_, ?_⟩
    · intro y0 y1 y2 y3 y4
      unfold schismaref02_divide.l0
      repeat' first
      | (with_reducible exact ih0 _ _ _ _ _)
      | (with_reducible exact ih1 _ _ _ _ _ _ _)
      | (with_reducible exact schismaref02_minus.mono _ _ _)
      | (with_reducible exact schismaref02_order.mono _ _ _)
      | (with_reducible exact schismaref02_times.mono _ _ _)
      | (with_reducible exact schismaref02_trim.mono _ _)
      | (with_reducible exact LeO.refl _)
      | (with_reducible exact LeO.none _)
      | (with_reducible refine LeO.ite ?_ ?_)
      | (with_reducible refine LeO.bind ?_ (fun _ => ?_))
      | exact ih0 _ _ _ _ _
      | exact ih1 _ _ _ _ _ _ _
      | exact schismaref02_minus.mono _ _ _
      | exact schismaref02_order.mono _ _ _
      | exact schismaref02_times.mono _ _ _
      | exact schismaref02_trim.mono _ _
      | exact LeO.none _
      | refine LeO.ite ?_ ?_
      | refine LeO.bind ?_ (fun _ => ?_)
    · intro y0 y1 y2 y3 y4 y5 y6
      unfold schismaref02_divide.l1
      repeat' first
      | (with_reducible exact ih0 _ _ _ _ _)
      | (with_reducible exact ih1 _ _ _ _ _ _ _)
      | (with_reducible exact schismaref02_minus.mono _ _ _)
      | (with_reducible exact schismaref02_order.mono _ _ _)
      | (with_reducible exact schismaref02_times.mono _ _ _)
      | (with_reducible exact schismaref02_trim.mono _ _)
      | (with_reducible exact LeO.refl _)
      | (with_reducible exact LeO.none _)
      | (with_reducible refine LeO.ite ?_ ?_)
      | (with_reducible refine LeO.bind ?_ (fun _ => ?_))
      | exact ih0 _ _ _ _ _
      | exact ih1 _ _ _ _ _ _ _
      | exact schismaref02_minus.mono _ _ _
      | exact schismaref02_order.mono _ _ _
      | exact schismaref02_times.mono _ _ _
      | exact schismaref02_trim.mono _ _
      | exact LeO.none _
      | refine LeO.ite ?_ ?_
      | refine LeO.bind ?_ (fun _ => ?_)
theorem schismaref02_divide.mono : ∀ a0 a1 k, LeO (schismaref02_divide.f k a0 a1) (schismaref02_divide.f (k + 1) a0 a1) := by
  intro a0 a1 k
  obtain ⟨ih0, ih1⟩ := schismaref02_divide.mono_l k
  unfold schismaref02_divide.f
  repeat' first
      | (with_reducible exact ih0 _ _ _ _ _)
      | (with_reducible exact ih1 _ _ _ _ _ _ _)
      | (with_reducible exact schismaref02_minus.mono _ _ _)
      | (with_reducible exact schismaref02_order.mono _ _ _)
      | (with_reducible exact schismaref02_times.mono _ _ _)
      | (with_reducible exact schismaref02_trim.mono _ _)
      | (with_reducible exact LeO.refl _)
      | (with_reducible exact LeO.none _)
      | (with_reducible refine LeO.ite ?_ ?_)
      | (with_reducible refine LeO.bind ?_ (fun _ => ?_))
      | exact ih0 _ _ _ _ _
      | exact ih1 _ _ _ _ _ _ _
      | exact schismaref02_minus.mono _ _ _
      | exact schismaref02_order.mono _ _ _
      | exact schismaref02_times.mono _ _ _
      | exact schismaref02_trim.mono _ _
      | exact LeO.none _
      | refine LeO.ite ?_ ?_
      | refine LeO.bind ?_ (fun _ => ?_)
set_option maxHeartbeats 8000000 in
set_option maxRecDepth 100000 in
theorem schismaref02_divide.calls (k : Nat) (A0 : Option Addr) (c0 : Nat) (l0 : List Int) (A1 : Option Addr) (c1 : Nat) (l1 : List Int) (r1 : List Int) (r2 : List Int) (w : World) (hr0 : Kd.C (Kd.int .i64) w A0 l0.length l0) (hc0 : l0.length ≤ c0) (hr1 : Kd.C (Kd.int .i64) w A1 l1.length l1) (hc1 : l1.length ≤ c1) (h : schismaref02_divide.f k l0 l1 = some (r1, r2)) :
    Calls Tryz.prog 48 #[.slice A0 l0.length c0, .slice A1 l1.length c1] w fun e w' => ∃ v0_ v1_ : Value, e = .returned (.tuple #[v0_, v1_]) ∧ Kd.R (Kd.int .i64) 3 w' w.heap.size (fun k_ => some k_ ≠ (v1_ : Value).ownBlock) v0_ r1 ∧ Kd.R (Kd.int .i64) 3 w' w.heap.size (fun k_ => some k_ ≠ (v0_ : Value).ownBlock) v1_ r2 ∧ Below w.heap.size w w' := by
  have HR0 := Aside0.mk hr0
  have HC0 := Aside0.mk hc0
  clear hr0 hc0
  have HR1 := Aside0.mk hr1
  have HC1 := Aside0.mk hc1
  clear hr1 hc1
  have HB := Aside0.mk (Below.refl w.heap.size w)
  have H : (if 0 ≤ (l0.length : Int) then (if ((l0.length : Int) : Int).toNat ≤ 35184372088832 then (schismaref02_divide.l0 k l0 l1 (List.replicate ((l0.length : Int) : Int).toNat 0) ([] : List Int) (wrap64 ((l0.length : Int) - 1))) else (none)) else (none)) = some (r1, r2) := h
  clear h
  by_cases c3 : 0 ≤ (l0.length : Int)
  · rw [if_pos c3] at H
    have c3b0 := eq_true c3
    have c3b1 : decide (0 ≤ (l0.length : Int)) = true := decide_eq_true c3
    clear c3
    by_cases c4 : ((l0.length : Int) : Int).toNat ≤ 35184372088832
    · rw [if_pos c4] at H
      have c4b0 := eq_true c4
      have c4b1 : decide (((l0.length : Int) : Int).toNat ≤ 35184372088832) = true := decide_eq_true c4
      clear c4
      obtain ⟨y644, hy644⟩ : ∃ y_ : List Int, y_ = (List.replicate ((l0.length : Int) : Int).toNat 0) := ⟨_, rfl⟩
      replace H : (schismaref02_divide.l0 k l0 l1 y644 ([] : List Int) (wrap64 ((l0.length : Int) - 1))) = some (r1, r2) := by first | (rw [hy644]; with_reducible exact H) | (have H2_ := (Option.bind_some _ _).symm.trans H; rw [hy644]; with_reducible exact H2_) | (have H2_ := (Option.bind_some _ _).symm.trans H; with_reducible exact H2_) | with_reducible exact H | (rw [hy644]; exact H) | exact H
      have Ny644 := Aside0.mk hy644
      clear hy644
      have H' := Aside0.mk H
      clear H
      go_enter Tryz.func48, Tryz.ntmps48
      go_wp2_with (first | ((with_reducible refine gate_dst (N := 14) rfl ?_); refine Kd.R_make (Kd.int .i64) _ 3 rfl (N := 14) rfl 55 _ _ rfl (l0.length : Int) rfl rfl Tryz.underlying55 (.int .i64 0) 8 info3 rfl (by decide) (by omega) 0 (ok := fun _ => True) (okp := fun _ => True) rfl (fun _ hk => hk) trivial (of_decide_eq_true (by first | (with_reducible assumption) | assumption)) (Nat.le_trans (Nat.mul_le_mul_right _ (of_decide_eq_true (by first | (with_reducible assumption) | assumption) : (l0.length : Int).toNat ≤ 35184372088832)) (by omega)) (Below.refl _ _) (Nat.le_refl _) ?_; intro v645 w5 ho6 hb hg_ hnew_; clear hg_ hnew_; (first | rw [← Ny644.out] at ho6 | (simp only [Int.reduceToNat] at ho6; rw [← Ny644.out] at ho6)); have n0_ := Aside0.mk (Kd.R_lower ho6 (below_size bq)); have n1_ := Aside0.mk (below_step bq hb); clear HB; have HO646 := n0_; have HB := n1_; clear n0_ n1_; clear hb ho6))
      go_loopg [7, 8] k (fun kq v7 v8 w' => ∃ (x6_1 : List Int) (x7_1 : List Int) (x8_1 : Int), v8 = .int .i64 x8_1 ∧ Aside0 (schismaref02_divide.l0 kq l0 l1 x6_1 x7_1 x8_1 = some (r1, r2)) ∧ Aside0 (kq ≤ k) ∧ Aside0 (Kd.R (Kd.int .i64) 3 w' w.heap.size (fun k_ => some k_ ≠ (v7 : Value).ownBlock) v645 x6_1) ∧ Aside0 (Kd.R (Kd.int .i64) 3 w' w.heap.size (fun k_ => some k_ ≠ (v645 : Value).ownBlock) v7 x7_1) ∧ Aside0 (Below w.heap.size w w'))
      case atStart => exact ⟨(y644), (([] : List Int)), (wrap64 ((l0.length : Int) - 1)), (by first | rfl | (simp; done) | (simp [*]; done)), H', ⟨Nat.le_refl _⟩, ⟨by (with_reducible repeat (first | apply Kd.R_alloc | apply Kd.R_drewN | apply Kd.R_drew)); exact Kd.R_mono HO646.out (fun _ hk => (by simp [Value.ownBlock]))⟩, ⟨by first | exact Kd.R_nil _ _ _ _ _ | exact Kd.N_nil _ _ _ _ _ | exact Kd.V_nil _ _ _ _ _ | exact Kd.Q_nil _ _ _ _ _ | exact Kd.S_nil _ _ _ _ _⟩, ⟨bq⟩⟩
      case round =>
        clear H'
        try clear c1
        try clear p2
        try clear c3
        try clear c3b0
        try clear c3b1
        try clear c4
        try clear c4b0
        try clear c4b1
        try clear p6
        obtain ⟨x6_1, x7_1, x8_1, rfl, HA, HK1, HO_6, HO_7, HB⟩ := hrel
        cases gk with
        | zero => exact absurd HA.out (by simp [schismaref02_divide.l0])
        | succ k1 =>
          have H := HA.out
          clear HA
          simp only [schismaref02_divide.l0] at H
          by_cases c7 : x8_1 ≥ 0
          · rw [if_pos c7] at H
            have c7b0 : decide (0 ≤ x8_1) = true := decide_eq_true c7
            clear c7
            by_cases c8 : 0 ≤ x8_1
            · rw [if_pos c8] at H
              have c8b0 : decide (0 ≤ x8_1) = true := decide_eq_true c8
              clear c8
              by_cases c9 : x8_1 < (l0.length : Int)
              · rw [if_pos c9] at H
                have c9b0 : decide (x8_1 < (l0.length : Int)) = true := decide_eq_true c9
                clear c9
                obtain ⟨y651, hy651⟩ : ∃ y_ : List Int, y_ = (([rd l0 x8_1] : List Int)) := ⟨_, rfl⟩
                replace H : (if y651.length + x7_1.length < 17592186044416 then ((schismaref02_trim.f k1 (y651 ++ x7_1)).bind fun t657 => (schismaref02_divide.l1 k1 l0 l1 x6_1 t657 x8_1 0 999999999)) else (none)) = some (r1, r2) := by first | (rw [hy651]; with_reducible exact H) | (have H2_ := (Option.bind_some _ _).symm.trans H; rw [hy651]; with_reducible exact H2_) | (have H2_ := (Option.bind_some _ _).symm.trans H; with_reducible exact H2_) | with_reducible exact H | (rw [hy651]; exact H) | exact H
                have Ny651 := Aside0.mk hy651
                clear hy651
                by_cases c10 : y651.length + x7_1.length < 17592186044416
                · rw [if_pos c10] at H
                  have LMc10 := Aside0.mk c10
                  clear c10
                  obtain ⟨y654, hy654⟩ : ∃ y_ : List Int, y_ = (y651 ++ x7_1) := ⟨_, rfl⟩
                  replace H : ((schismaref02_trim.f k1 y654).bind fun t657 => (schismaref02_divide.l1 k1 l0 l1 x6_1 t657 x8_1 0 999999999)) = some (r1, r2) := by first | (rw [hy654]; with_reducible exact H) | (have H2_ := (Option.bind_some _ _).symm.trans H; rw [hy654]; with_reducible exact H2_) | (have H2_ := (Option.bind_some _ _).symm.trans H; with_reducible exact H2_) | with_reducible exact H | (rw [hy654]; exact H) | exact H
                  have Ny654 := Aside0.mk hy654
                  clear hy654
                  replace H := Option.bind_eq_some_iff.mp H
                  obtain ⟨t657, A110, H⟩ := H
                  replace H : (schismaref02_divide.l1 k1 l0 l1 x6_1 t657 x8_1 0 999999999) = some (r1, r2) := H
                  have A11 := Aside0.mk A110
                  clear A110
                  have H' := Aside0.mk H
                  clear H
                  have p650 : 0 ≤ (x8_1 : Int) := of_decide_eq_true (by first | (with_reducible assumption) | assumption)
                  have q650 : x8_1 < (l0.length : Int) := of_decide_eq_true (by first | (with_reducible assumption) | assumption)
                  obtain ⟨ad650, e650, hx650_0⟩ := Kd.at_int HR0.out x8_1 p650 q650
                  cases e650
                  replace hx650_0 := (HB.out.cell (World.block_lt_of_cell? w _ hx650_0)).trans hx650_0
                  replace p650 := eq_true p650
                  replace q650 := eq_true q650
                  go_wp2_with (first | ((with_reducible refine gate_dst (N := 26) rfl ?_); refine Kd.R_lit (Kd.int .i64) _ 3 ?hg (N := 26) ?hd (xs := ([rd l0 x8_1] : List Int)) (inner := [.int .i64 (rd l0 x8_1)]) (ok := fun _ => True) (okp := fun _ => True) ?hr ?hp (fun _ hk => hk) trivial (Below.refl _ _) (Nat.le_refl _) (by simp) ?_; (case hd => rfl); (case hg => rfl); (case hr => first | (go_simp; done) | (go_simp; rfl)); (case hp => exact (Reps.one (show Kd.M (Kd.int .i64) _ _ _ (rd l0 x8_1) [.int .i64 (rd l0 x8_1)] from rfl) (Reps.none _ _))); intro v652 w12 ho13 hb hg_ hnew_; clear hg_ hnew_; (first | rw [← Ny651.out] at ho13 | (simp only [Int.reduceToNat] at ho13; rw [← Ny651.out] at ho13)); have n0_ := Aside0.mk (Kd.R_elder' (by (with_reducible repeat (first | apply Kd.R_alloc | apply Kd.R_drewN | apply Kd.R_drew)); exact HO_6.out) (Kd.R_base ho13) hb); have n1_ := Aside0.mk (Kd.R_elder' (by (with_reducible repeat (first | apply Kd.R_alloc | apply Kd.R_drewN | apply Kd.R_drew)); exact HO_7.out) (Kd.R_base ho13) hb); have n2_ := Aside0.mk (Kd.R_lower (Kd.R_new' (Kd.R_new' ho13 (Kd.R_lt (by (with_reducible repeat (first | apply Kd.R_alloc | apply Kd.R_drewN | apply Kd.R_drew)); exact HO_6.out))) (Kd.R_lt (by (with_reducible repeat (first | apply Kd.R_alloc | apply Kd.R_drewN | apply Kd.R_drew)); exact HO_7.out))) (below_size bq)); have n3_ := Aside0.mk (below_step bq hb); clear HO_6; clear HO_7; clear HB; have HO_6 := n0_; have HO_7 := n1_; have HO653 := n2_; have HB := n3_; clear n0_ n1_ n2_ n3_; clear hb ho13; obtain ⟨Ao15, co15, eo15⟩ := Kd.R_slice HO_7.out; subst eo15) | ((with_reducible refine gate_builtin (b := .append) (xs := #[.tmp 26, .tmp 27]) rfl ?_); at_builtin; refine Kd.R_append_rows (Kd.int .i64) (w0 := w) w.heap.size rfl (.tmp 26) (.tmp 27) 55 3 (.int .i64 0) 8 rfl Tryz.underlying55 info3 rfl (by decide) (by omega) v652 y651 x7_1 _ _ _ (fun k_ => some k_ ≠ (v645 : Value).ownBlock ∧ some k_ ≠ (.slice Ao15 x7_1.length co15 : Value).ownBlock) (fun _ => False) rfl rfl ?aO ?aR (fun _ _ h => h) (fun _ h => h.elim) ?aF ?aB ?aS ?aL ?_; (case aR => repeat (first | exact (Kd.R_reads' HO_7.out).2.2 | (with_reducible refine Kd.C_alloc ?_ _) | (with_reducible refine Kd.C_drewN ?_ _) | (with_reducible refine Kd.C_drew ?_))); (case aB => exact bq); (case aF => exact (fun k_ hk => ⟨Kd.fresh' (Kd.R_lt (by (with_reducible repeat (first | apply Kd.R_alloc | apply Kd.R_drewN | apply Kd.R_drew)); exact HO_6.out)) k_ hk, Kd.fresh' (Kd.R_lt (by (with_reducible repeat (first | apply Kd.R_alloc | apply Kd.R_drewN | apply Kd.R_drew)); exact HO_7.out)) k_ hk⟩)); (case aO => exact (by (with_reducible repeat (first | apply Kd.R_alloc | apply Kd.R_drewN | apply Kd.R_drew)); exact Kd.R_mono HO653.out (fun _ hk => ⟨hk.1.2, hk.2⟩))); (case aS => exact (below_size bq)); (case aL => have := LMc10.out; omega); intro v655 w14 ho hb hg hat; rw [← Ny654.out] at ho; have n0_ := Aside0.mk (Kd.R_after (ok := (fun k_ => some k_ ≠ (.slice Ao15 x7_1.length co15 : Value).ownBlock)) (by (with_reducible repeat (first | apply Kd.R_alloc | apply Kd.R_drewN | apply Kd.R_drew)); exact HO_6.out) hg hat); have n1_ := Aside0.mk (Kd.R_after (ok := (fun k_ => some k_ ≠ (v645 : Value).ownBlock)) (by (with_reducible repeat (first | apply Kd.R_alloc | apply Kd.R_drewN | apply Kd.R_drew)); exact HO_7.out) hg hat); have n2_ := Aside0.mk (hb); have n3_ := Aside0.mk (ho); clear HO_6; clear HO_7; clear HB; clear HO653; have HO_6 := n0_; have HO_7 := n1_; have HB := n2_; have HO656 := n3_; clear n0_ n1_ n2_ n3_; clear ho hb hg hat; obtain ⟨Ao16, co16, eo16⟩ := Kd.R_slice HO656.out; subst eo16) | ((with_reducible refine gate_callee (f := 65) rfl ?_); refine goesL_ (some 29) rfl rfl Tryz.func65 (by kernel_rfl) rfl #[.slice Ao16 y654.length co16] rfl mq ?_; (with_reducible refine (schismaref02_trim.calls k1 (fun k_ => some k_ = (.slice Ao16 y654.length co16 : Value).ownBlock) (.slice Ao16 y654.length co16) y654 t657 w _ ?side1 ?side2 A11.out).mono ?_); (case side1 => exact bq); (case side2 => exact Kd.R_tight rfl HO656.out); rintro e w17 ⟨v658, rfl, ho0, hb, hkp⟩; refine ⟨_, rfl, ?_⟩; have n0_ := Aside0.mk (Kd.R_mono (ok' := fun k_ => some k_ ≠ (.slice Ao15 x7_1.length co15 : Value).ownBlock ∧ some k_ ≠ (v658 : Value).ownBlock) (Kd.R_keptB (HO_6.out) hkp (fun k_ hk_ hs_ => (hk_.2) hs_)) (fun k_ hk_ => ⟨hk_.1.1, fun e_ => Or.elim (ho0.1 k_ e_.symm) (fun hs_ => hk_.2.1 hs_) (fun hn_ => Nat.not_le.2 hk_.2.2 hn_)⟩)); have n1_ := Aside0.mk (Kd.R_mono (ok' := fun k_ => some k_ ≠ (v645 : Value).ownBlock ∧ some k_ ≠ (v658 : Value).ownBlock) (Kd.R_keptB (HO_7.out) hkp (fun k_ hk_ hs_ => (hk_.2) hs_)) (fun k_ hk_ => ⟨hk_.1.1, fun e_ => Or.elim (ho0.1 k_ e_.symm) (fun hs_ => hk_.2.1 hs_) (fun hn_ => Nat.not_le.2 hk_.2.2 hn_)⟩)); have n2_ := Aside0.mk (Kd.R_mono (ok' := fun k_ => some k_ ≠ (v645 : Value).ownBlock ∧ some k_ ≠ (.slice Ao15 x7_1.length co15 : Value).ownBlock) ho0 (fun k_ hk_ => ⟨Or.elim hk_ (fun hs_ => fun e_ => (((HO_6.out).1 k_ e_.symm).2) hs_) (fun hn_ => (Kd.fresh' (Kd.R_lt (by (with_reducible repeat (first | apply Kd.R_alloc | apply Kd.R_drewN | apply Kd.R_drew)); exact HO_6.out)) k_ hn_)), Or.elim hk_ (fun hs_ => fun e_ => (((HO_7.out).1 k_ e_.symm).2) hs_) (fun hn_ => (Kd.fresh' (Kd.R_lt (by (with_reducible repeat (first | apply Kd.R_alloc | apply Kd.R_drewN | apply Kd.R_drew)); exact HO_7.out)) k_ hn_))⟩)); have n3_ := Aside0.mk (hb); clear HO_6; clear HO_7; clear HB; clear HO656; have HO_6 := n0_; have HO_7 := n1_; have HO659 := n2_; have HB := n3_; clear n0_ n1_ n2_ n3_; (try clear hb); (try clear hkp); (try clear ho0)))
                  go_loopg [9, 10] k1 (fun kq v9 v10 w' => ∃ (x9_2 : Int) (x10_2 : Int), v9 = .int .i64 x9_2 ∧ v10 = .int .i64 x10_2 ∧ Aside0 (schismaref02_divide.l1 kq l0 l1 x6_1 t657 x8_1 x9_2 x10_2 = some (r1, r2)) ∧ Aside0 (kq ≤ k1) ∧ Aside0 (Kd.R (Kd.int .i64) 3 w' w.heap.size (fun k_ => some k_ ≠ (v658 : Value).ownBlock) v645 x6_1) ∧ Aside0 (Kd.R (Kd.int .i64) 3 w' w.heap.size (fun k_ => some k_ ≠ (v645 : Value).ownBlock) v658 t657) ∧ Aside0 (Below w.heap.size w w'))
                  case atStart => exact ⟨(0), (999999999), (by first | rfl | (simp; done) | (simp [*]; done)), (by first | rfl | (simp; done) | (simp [*]; done)), H', ⟨Nat.le_refl _⟩, ⟨by (with_reducible repeat (first | apply Kd.R_alloc | apply Kd.R_drewN | apply Kd.R_drew)); exact Kd.R_mono HO_6.out (fun _ hk => hk.2)⟩, ⟨by (with_reducible repeat (first | apply Kd.R_alloc | apply Kd.R_drewN | apply Kd.R_drew)); exact Kd.R_mono HO659.out (fun _ hk => hk.1)⟩, ⟨bq⟩⟩
                  case round =>
                    clear H'
                    try clear c1
                    try clear p2
                    try clear c3
                    try clear c3b0
                    try clear c3b1
                    try clear c4
                    try clear c4b0
                    try clear c4b1
                    try clear c6
                    try clear p6
                    try clear q6
                    try clear hx6
                    try clear c7
                    try clear c7b0
                    try clear c8
                    try clear c8b0
                    try clear c9
                    try clear c9b0
                    try clear c10
                    try clear hx650_0
                    try clear p2
                    try clear p6
                    try clear p650
                    try clear q650
                    obtain ⟨x9_2, x10_2, rfl, rfl, HA, HK2, HO_6, HO_7, HB⟩ := hrel
                    cases gk with
                    | zero => exact absurd HA.out (by simp [schismaref02_divide.l1])
                    | succ k2 =>
                      have H := HA.out
                      clear HA
                      simp only [schismaref02_divide.l1] at H
                      by_cases c18 : x9_2 < x10_2
                      · rw [if_pos c18] at H
                        have c18b0 : decide (x9_2 < x10_2) = true := decide_eq_true c18
                        clear c18
                        obtain ⟨y660, hy660⟩ : ∃ y_ : List Int, y_ = (([wrap64 (Int.tdiv (wrap64 ((wrap64 (x9_2 + x10_2)) + 1)) 2)] : List Int)) := ⟨_, rfl⟩
                        replace H : ((schismaref02_times.f k2 l1 y660).bind fun t663 => ((schismaref02_order.f k2 t663 t657).bind fun t666 => (if t666 ≤ 0 then (schismaref02_divide.l1 k2 l0 l1 x6_1 t657 x8_1 (wrap64 (Int.tdiv (wrap64 ((wrap64 (x9_2 + x10_2)) + 1)) 2)) x10_2) else (schismaref02_divide.l1 k2 l0 l1 x6_1 t657 x8_1 x9_2 (wrap64 ((wrap64 (Int.tdiv (wrap64 ((wrap64 (x9_2 + x10_2)) + 1)) 2)) - 1)))))) = some (r1, r2) := by first | (rw [hy660]; with_reducible exact H) | (have H2_ := (Option.bind_some _ _).symm.trans H; rw [hy660]; with_reducible exact H2_) | (have H2_ := (Option.bind_some _ _).symm.trans H; with_reducible exact H2_) | with_reducible exact H | (rw [hy660]; exact H) | exact H
                        have Ny660 := Aside0.mk hy660
                        clear hy660
                        replace H := Option.bind_eq_some_iff.mp H
                        obtain ⟨t663, A190, H⟩ := H
                        replace H : ((schismaref02_order.f k2 t663 t657).bind fun t666 => (if t666 ≤ 0 then (schismaref02_divide.l1 k2 l0 l1 x6_1 t657 x8_1 (wrap64 (Int.tdiv (wrap64 ((wrap64 (x9_2 + x10_2)) + 1)) 2)) x10_2) else (schismaref02_divide.l1 k2 l0 l1 x6_1 t657 x8_1 x9_2 (wrap64 ((wrap64 (Int.tdiv (wrap64 ((wrap64 (x9_2 + x10_2)) + 1)) 2)) - 1))))) = some (r1, r2) := H
                        have A19 := Aside0.mk A190
                        clear A190
                        replace H := Option.bind_eq_some_iff.mp H
                        obtain ⟨t666, A200, H⟩ := H
                        replace H : (if t666 ≤ 0 then (schismaref02_divide.l1 k2 l0 l1 x6_1 t657 x8_1 (wrap64 (Int.tdiv (wrap64 ((wrap64 (x9_2 + x10_2)) + 1)) 2)) x10_2) else (schismaref02_divide.l1 k2 l0 l1 x6_1 t657 x8_1 x9_2 (wrap64 ((wrap64 (Int.tdiv (wrap64 ((wrap64 (x9_2 + x10_2)) + 1)) 2)) - 1)))) = some (r1, r2) := H
                        have A20 := Aside0.mk A200
                        clear A200
                        by_cases c21 : t666 ≤ 0
                        · rw [if_pos c21] at H
                          have c21b0 : decide (t666 ≤ 0) = true := decide_eq_true c21
                          clear c21
                          have H' := Aside0.mk H
                          clear H
                          go_wp2_with (first | ((with_reducible refine gate_dst (N := 40) rfl ?_); refine Kd.R_lit (Kd.int .i64) _ 3 ?hg (N := 40) ?hd (xs := ([wrap64 (Int.tdiv (wrap64 ((wrap64 (x9_2 + x10_2)) + 1)) 2)] : List Int)) (inner := [.int .i64 (wrap64 (Int.tdiv (wrap64 ((wrap64 (x9_2 + x10_2)) + 1)) 2))]) (ok := fun _ => True) (okp := fun _ => True) ?hr ?hp (fun _ hk => hk) trivial (Below.refl _ _) (Nat.le_refl _) (by simp) ?_; (case hd => rfl); (case hg => rfl); (case hr => first | (go_simp; done) | (go_simp; rfl)); (case hp => exact (Reps.one (show Kd.M (Kd.int .i64) _ _ _ (wrap64 (Int.tdiv (wrap64 ((wrap64 (x9_2 + x10_2)) + 1)) 2)) [.int .i64 (wrap64 (Int.tdiv (wrap64 ((wrap64 (x9_2 + x10_2)) + 1)) 2))] from rfl) (Reps.none _ _))); intro v661 w22 ho23 hb hg_ hnew_; clear hg_ hnew_; (first | rw [← Ny660.out] at ho23 | (simp only [Int.reduceToNat] at ho23; rw [← Ny660.out] at ho23)); have n0_ := Aside0.mk (Kd.R_elder' (by (with_reducible repeat (first | apply Kd.R_alloc | apply Kd.R_drewN | apply Kd.R_drew)); exact HO_6.out) (Kd.R_base ho23) hb); have n1_ := Aside0.mk (Kd.R_elder' (by (with_reducible repeat (first | apply Kd.R_alloc | apply Kd.R_drewN | apply Kd.R_drew)); exact HO_7.out) (Kd.R_base ho23) hb); have n2_ := Aside0.mk (Kd.R_lower (Kd.R_new' (Kd.R_new' ho23 (Kd.R_lt (by (with_reducible repeat (first | apply Kd.R_alloc | apply Kd.R_drewN | apply Kd.R_drew)); exact HO_6.out))) (Kd.R_lt (by (with_reducible repeat (first | apply Kd.R_alloc | apply Kd.R_drewN | apply Kd.R_drew)); exact HO_7.out))) (below_size bq)); have n3_ := Aside0.mk (below_step bq hb); clear HO_6; clear HO_7; clear HB; have HO_6 := n0_; have HO_7 := n1_; have HO662 := n2_; have HB := n3_; clear n0_ n1_ n2_ n3_; clear hb ho23; obtain ⟨Ao24, co24, eo24⟩ := Kd.R_slice HO662.out; subst eo24) | ((with_reducible refine gate_callee (f := 49) rfl ?_); refine goesL_ (some 41) rfl rfl Tryz.func49 (by kernel_rfl) rfl #[.slice A1 l1.length c1, .slice Ao24 y660.length co24] rfl mq ?_; (with_reducible refine (schismaref02_times.calls k2 _ _ l1 _ _ y660 t663 _ ?side1 ?side2 ?side3 ?side4 A19.out).mono ?_); (case side1 => repeat (first | exact (Kd.C_below HR1.out HB.out) | (with_reducible refine Kd.C_alloc ?_ _) | (with_reducible refine Kd.C_drewN ?_ _) | (with_reducible refine Kd.C_drew ?_))); (case side2 => exact HC1.out); (case side3 => repeat (first | exact (Kd.R_reads' HO662.out).2.2 | (with_reducible refine Kd.C_alloc ?_ _) | (with_reducible refine Kd.C_drewN ?_ _) | (with_reducible refine Kd.C_drew ?_))); (case side4 => exact (Kd.R_reads' HO662.out).2.1); rintro e w25 ⟨v664, rfl, ho0, hb⟩; refine ⟨_, rfl, ?_⟩; have n0_ := Aside0.mk (Kd.R_elder' (by (with_reducible repeat (first | apply Kd.R_alloc | apply Kd.R_drewN | apply Kd.R_drew)); exact HO_6.out) (Kd.R_base ho0) hb); have n1_ := Aside0.mk (Kd.R_elder' (by (with_reducible repeat (first | apply Kd.R_alloc | apply Kd.R_drewN | apply Kd.R_drew)); exact HO_7.out) (Kd.R_base ho0) hb); have n2_ := Aside0.mk (Kd.R_elder' (by (with_reducible repeat (first | apply Kd.R_alloc | apply Kd.R_drewN | apply Kd.R_drew)); exact HO662.out) (Kd.R_base ho0) hb); have n3_ := Aside0.mk (Kd.R_lower (Kd.R_new' (Kd.R_new' (Kd.R_new' ho0 (Kd.R_lt (by (with_reducible repeat (first | apply Kd.R_alloc | apply Kd.R_drewN | apply Kd.R_drew)); exact HO_6.out))) (Kd.R_lt (by (with_reducible repeat (first | apply Kd.R_alloc | apply Kd.R_drewN | apply Kd.R_drew)); exact HO_7.out))) (Kd.R_lt (by (with_reducible repeat (first | apply Kd.R_alloc | apply Kd.R_drewN | apply Kd.R_drew)); exact HO662.out))) (below_size bq)); have n4_ := Aside0.mk (below_step bq hb); clear HO_6; clear HO_7; clear HO662; clear HB; have HO_6 := n0_; have HO_7 := n1_; have HO662 := n2_; have HO665 := n3_; have HB := n4_; clear n0_ n1_ n2_ n3_ n4_; (try clear hb); (try clear hb2); (try clear hk); (try clear hi); (try clear ho0); obtain ⟨Ao26, co26, eo26⟩ := Kd.R_slice HO665.out; subst eo26; obtain ⟨Ao27, co27, eo27⟩ := Kd.R_slice HO_7.out; subst eo27) | ((with_reducible refine gate_callee (f := 38) rfl ?_); refine goesL_ (some 43) rfl rfl Tryz.func38 (by kernel_rfl) rfl #[.slice Ao26 t663.length co26, .slice Ao27 t657.length co27] rfl mq ?_; (with_reducible refine (schismaref02_order.calls k2 _ _ t663 _ _ t657 t666 _ ?side1 ?side2 ?side3 ?side4 A20.out).mono ?_); (case side1 => repeat (first | exact (Kd.R_reads' HO665.out).2.2 | (with_reducible refine Kd.C_alloc ?_ _) | (with_reducible refine Kd.C_drewN ?_ _) | (with_reducible refine Kd.C_drew ?_))); (case side2 => exact (Kd.R_reads' HO665.out).2.1); (case side3 => repeat (first | exact (Kd.R_reads' HO_7.out).2.2 | (with_reducible refine Kd.C_alloc ?_ _) | (with_reducible refine Kd.C_drewN ?_ _) | (with_reducible refine Kd.C_drew ?_))); (case side4 => exact (Kd.R_reads' HO_7.out).2.1); rintro e w' ⟨rfl, ⟨nd, rfl⟩⟩; refine ⟨_, rfl, ?_⟩))
                          go_roundg k2
                          case measure => have := HK1.out; have := HK2.out; omega
                          case rel => exact ⟨(wrap64 (Int.tdiv (wrap64 ((wrap64 (x9_2 + x10_2)) + 1)) 2)), (x10_2), (by first | rfl | (simp; done) | (simp [*]; done)), (by first | rfl | (simp; done) | (simp [*]; done)), H', ⟨by have := HK1.out; have := HK2.out; omega⟩, ⟨by (with_reducible repeat (first | apply Kd.R_alloc | apply Kd.R_drewN | apply Kd.R_drew)); exact Kd.R_mono HO_6.out (fun _ hk => hk.1.1)⟩, ⟨by (with_reducible repeat (first | apply Kd.R_alloc | apply Kd.R_drewN | apply Kd.R_drew)); exact Kd.R_mono HO_7.out (fun _ hk => hk.1.1)⟩, ⟨bq⟩⟩
                        · rw [if_neg c21] at H
                          have c21b0 : decide (t666 ≤ 0) = false := decide_eq_false c21
                          clear c21
                          have H' := Aside0.mk H
                          clear H
                          go_wp2_with (first | ((with_reducible refine gate_dst (N := 40) rfl ?_); refine Kd.R_lit (Kd.int .i64) _ 3 ?hg (N := 40) ?hd (xs := ([wrap64 (Int.tdiv (wrap64 ((wrap64 (x9_2 + x10_2)) + 1)) 2)] : List Int)) (inner := [.int .i64 (wrap64 (Int.tdiv (wrap64 ((wrap64 (x9_2 + x10_2)) + 1)) 2))]) (ok := fun _ => True) (okp := fun _ => True) ?hr ?hp (fun _ hk => hk) trivial (Below.refl _ _) (Nat.le_refl _) (by simp) ?_; (case hd => rfl); (case hg => rfl); (case hr => first | (go_simp; done) | (go_simp; rfl)); (case hp => exact (Reps.one (show Kd.M (Kd.int .i64) _ _ _ (wrap64 (Int.tdiv (wrap64 ((wrap64 (x9_2 + x10_2)) + 1)) 2)) [.int .i64 (wrap64 (Int.tdiv (wrap64 ((wrap64 (x9_2 + x10_2)) + 1)) 2))] from rfl) (Reps.none _ _))); intro v661 w28 ho29 hb hg_ hnew_; clear hg_ hnew_; (first | rw [← Ny660.out] at ho29 | (simp only [Int.reduceToNat] at ho29; rw [← Ny660.out] at ho29)); have n0_ := Aside0.mk (Kd.R_elder' (by (with_reducible repeat (first | apply Kd.R_alloc | apply Kd.R_drewN | apply Kd.R_drew)); exact HO_6.out) (Kd.R_base ho29) hb); have n1_ := Aside0.mk (Kd.R_elder' (by (with_reducible repeat (first | apply Kd.R_alloc | apply Kd.R_drewN | apply Kd.R_drew)); exact HO_7.out) (Kd.R_base ho29) hb); have n2_ := Aside0.mk (Kd.R_lower (Kd.R_new' (Kd.R_new' ho29 (Kd.R_lt (by (with_reducible repeat (first | apply Kd.R_alloc | apply Kd.R_drewN | apply Kd.R_drew)); exact HO_6.out))) (Kd.R_lt (by (with_reducible repeat (first | apply Kd.R_alloc | apply Kd.R_drewN | apply Kd.R_drew)); exact HO_7.out))) (below_size bq)); have n3_ := Aside0.mk (below_step bq hb); clear HO_6; clear HO_7; clear HB; have HO_6 := n0_; have HO_7 := n1_; have HO662 := n2_; have HB := n3_; clear n0_ n1_ n2_ n3_; clear hb ho29; obtain ⟨Ao30, co30, eo30⟩ := Kd.R_slice HO662.out; subst eo30) | ((with_reducible refine gate_callee (f := 49) rfl ?_); refine goesL_ (some 41) rfl rfl Tryz.func49 (by kernel_rfl) rfl #[.slice A1 l1.length c1, .slice Ao30 y660.length co30] rfl mq ?_; (with_reducible refine (schismaref02_times.calls k2 _ _ l1 _ _ y660 t663 _ ?side1 ?side2 ?side3 ?side4 A19.out).mono ?_); (case side1 => repeat (first | exact (Kd.C_below HR1.out HB.out) | (with_reducible refine Kd.C_alloc ?_ _) | (with_reducible refine Kd.C_drewN ?_ _) | (with_reducible refine Kd.C_drew ?_))); (case side2 => exact HC1.out); (case side3 => repeat (first | exact (Kd.R_reads' HO662.out).2.2 | (with_reducible refine Kd.C_alloc ?_ _) | (with_reducible refine Kd.C_drewN ?_ _) | (with_reducible refine Kd.C_drew ?_))); (case side4 => exact (Kd.R_reads' HO662.out).2.1); rintro e w31 ⟨v664, rfl, ho0, hb⟩; refine ⟨_, rfl, ?_⟩; have n0_ := Aside0.mk (Kd.R_elder' (by (with_reducible repeat (first | apply Kd.R_alloc | apply Kd.R_drewN | apply Kd.R_drew)); exact HO_6.out) (Kd.R_base ho0) hb); have n1_ := Aside0.mk (Kd.R_elder' (by (with_reducible repeat (first | apply Kd.R_alloc | apply Kd.R_drewN | apply Kd.R_drew)); exact HO_7.out) (Kd.R_base ho0) hb); have n2_ := Aside0.mk (Kd.R_elder' (by (with_reducible repeat (first | apply Kd.R_alloc | apply Kd.R_drewN | apply Kd.R_drew)); exact HO662.out) (Kd.R_base ho0) hb); have n3_ := Aside0.mk (Kd.R_lower (Kd.R_new' (Kd.R_new' (Kd.R_new' ho0 (Kd.R_lt (by (with_reducible repeat (first | apply Kd.R_alloc | apply Kd.R_drewN | apply Kd.R_drew)); exact HO_6.out))) (Kd.R_lt (by (with_reducible repeat (first | apply Kd.R_alloc | apply Kd.R_drewN | apply Kd.R_drew)); exact HO_7.out))) (Kd.R_lt (by (with_reducible repeat (first | apply Kd.R_alloc | apply Kd.R_drewN | apply Kd.R_drew)); exact HO662.out))) (below_size bq)); have n4_ := Aside0.mk (below_step bq hb); clear HO_6; clear HO_7; clear HO662; clear HB; have HO_6 := n0_; have HO_7 := n1_; have HO662 := n2_; have HO665 := n3_; have HB := n4_; clear n0_ n1_ n2_ n3_ n4_; (try clear hb); (try clear hb2); (try clear hk); (try clear hi); (try clear ho0); obtain ⟨Ao32, co32, eo32⟩ := Kd.R_slice HO665.out; subst eo32; obtain ⟨Ao33, co33, eo33⟩ := Kd.R_slice HO_7.out; subst eo33) | ((with_reducible refine gate_callee (f := 38) rfl ?_); refine goesL_ (some 43) rfl rfl Tryz.func38 (by kernel_rfl) rfl #[.slice Ao32 t663.length co32, .slice Ao33 t657.length co33] rfl mq ?_; (with_reducible refine (schismaref02_order.calls k2 _ _ t663 _ _ t657 t666 _ ?side1 ?side2 ?side3 ?side4 A20.out).mono ?_); (case side1 => repeat (first | exact (Kd.R_reads' HO665.out).2.2 | (with_reducible refine Kd.C_alloc ?_ _) | (with_reducible refine Kd.C_drewN ?_ _) | (with_reducible refine Kd.C_drew ?_))); (case side2 => exact (Kd.R_reads' HO665.out).2.1); (case side3 => repeat (first | exact (Kd.R_reads' HO_7.out).2.2 | (with_reducible refine Kd.C_alloc ?_ _) | (with_reducible refine Kd.C_drewN ?_ _) | (with_reducible refine Kd.C_drew ?_))); (case side4 => exact (Kd.R_reads' HO_7.out).2.1); rintro e w' ⟨rfl, ⟨nd, rfl⟩⟩; refine ⟨_, rfl, ?_⟩))
                          go_roundg k2
                          case measure => have := HK1.out; have := HK2.out; omega
                          case rel => exact ⟨(x9_2), (wrap64 ((wrap64 (Int.tdiv (wrap64 ((wrap64 (x9_2 + x10_2)) + 1)) 2)) - 1)), (by first | rfl | (simp; done) | (simp [*]; done)), (by first | rfl | (simp; done) | (simp [*]; done)), H', ⟨by have := HK1.out; have := HK2.out; omega⟩, ⟨by (with_reducible repeat (first | apply Kd.R_alloc | apply Kd.R_drewN | apply Kd.R_drew)); exact Kd.R_mono HO_6.out (fun _ hk => hk.1.1)⟩, ⟨by (with_reducible repeat (first | apply Kd.R_alloc | apply Kd.R_drewN | apply Kd.R_drew)); exact Kd.R_mono HO_7.out (fun _ hk => hk.1.1)⟩, ⟨bq⟩⟩
                      · rw [if_neg c18] at H
                        have c18b0 : decide (x9_2 < x10_2) = false := decide_eq_false c18
                        clear c18
                        by_cases c34 : 0 ≤ x8_1
                        · rw [if_pos c34] at H
                          have c34b0 : decide (0 ≤ x8_1) = true := decide_eq_true c34
                          clear c34
                          by_cases c35 : x8_1 < (x6_1.length : Int)
                          · rw [if_pos c35] at H
                            have c35b0 : decide (x8_1 < (x6_1.length : Int)) = true := decide_eq_true c35
                            clear c35
                            obtain ⟨y667, hy667⟩ : ∃ y_ : List Int, y_ = (x6_1.set (x8_1 : Int).toNat x9_2) := ⟨_, rfl⟩
                            replace H : (if x9_2 > 0 then ((schismaref02_times.f k2 l1 (([x9_2] : List Int))).bind fun t671 => ((schismaref02_minus.f k2 t657 t671).bind fun t674 => (schismaref02_divide.l0 k2 l0 l1 y667 t674 (wrap64 (x8_1 - 1))))) else (schismaref02_divide.l0 k2 l0 l1 y667 t657 (wrap64 (x8_1 - 1)))) = some (r1, r2) := by first | (rw [hy667]; with_reducible exact H) | (have H2_ := (Option.bind_some _ _).symm.trans H; rw [hy667]; with_reducible exact H2_) | (have H2_ := (Option.bind_some _ _).symm.trans H; with_reducible exact H2_) | with_reducible exact H | (rw [hy667]; exact H) | exact H
                            have Ny667 := Aside0.mk hy667
                            clear hy667
                            by_cases c37 : x9_2 > 0
                            · rw [if_pos c37] at H
                              have c37b0 : decide (0 < x9_2) = true := decide_eq_true c37
                              clear c37
                              obtain ⟨y668, hy668⟩ : ∃ y_ : List Int, y_ = (([x9_2] : List Int)) := ⟨_, rfl⟩
                              replace H : ((schismaref02_times.f k2 l1 y668).bind fun t671 => ((schismaref02_minus.f k2 t657 t671).bind fun t674 => (schismaref02_divide.l0 k2 l0 l1 y667 t674 (wrap64 (x8_1 - 1))))) = some (r1, r2) := by first | (rw [hy668]; with_reducible exact H) | (have H2_ := (Option.bind_some _ _).symm.trans H; rw [hy668]; with_reducible exact H2_) | (have H2_ := (Option.bind_some _ _).symm.trans H; with_reducible exact H2_) | with_reducible exact H | (rw [hy668]; exact H) | exact H
                              have Ny668 := Aside0.mk hy668
                              clear hy668
                              replace H := Option.bind_eq_some_iff.mp H
                              obtain ⟨t671, A380, H⟩ := H
                              replace H : ((schismaref02_minus.f k2 t657 t671).bind fun t674 => (schismaref02_divide.l0 k2 l0 l1 y667 t674 (wrap64 (x8_1 - 1)))) = some (r1, r2) := H
                              have A38 := Aside0.mk A380
                              clear A380
                              replace H := Option.bind_eq_some_iff.mp H
                              obtain ⟨t674, A390, H⟩ := H
                              replace H : (schismaref02_divide.l0 k2 l0 l1 y667 t674 (wrap64 (x8_1 - 1))) = some (r1, r2) := H
                              have A39 := Aside0.mk A390
                              clear A390
                              have H' := Aside0.mk H
                              clear H
                              have p36 : 0 ≤ (x8_1 : Int) := of_decide_eq_true (by first | (with_reducible assumption) | assumption)
                              have q36 : (x8_1 : Int) < ((x6_1.length : Int) : Int) := of_decide_eq_true (by first | (with_reducible assumption) | assumption)
                              obtain ⟨go36, co36, eo36, gb36, gl36, cl36, HG36⟩ := Kd.R_form HO_6.out (by omega)
                              (first | cases eo36 | (injection eo36 with ea_ en_ ec_; (first | subst ea_ | (injection ea_ with ea_; subst ea_)); subst ec_; clear en_))
                              have GB36 := Aside0.mk gb36
                              have GG36 := Aside0.mk HG36
                              clear gb36 gl36 HG36
                              obtain ⟨hx36_0, hf36_0⟩ := Kd.R_celln 0 HO_6.out (x8_1 : Int) p36 q36
                              replace p36 := eq_true p36
                              replace q36 := eq_true q36
                              have HP40 := Kd.R_putg HO_6.out (x8_1 : Int) x9_2
                              go_wp2_with (first | ((with_reducible refine gate_store (t := 3) (p := 51) rfl ?_); refine store_event (t := 3) (p := 51) (v := ?vo_w41) (w1 := (wr.setCell ⟨go36, (x8_1 : Int).toNat, none⟩ (.int .i64 x9_2))) ?hg ?ho ?hn ?hr ?_; (case ho => rfl); (case hg => rfl); (case hn => rfl); (case hr => first | (go_simp; done) | (go_simp; rfl)); intro w41 hw; have hg : wr.grownBy w41 (some go36) := (by rw [hw]; exact HP40.2); have hp_ : Kd.R (Kd.int .i64) 3 w41 w.heap.size (fun k_ => some k_ ≠ (v658 : Value).ownBlock) (.slice (some ⟨go36, 0, none⟩) x6_1.length co36) y667 := (by rw [hw, Ny667.out]; exact HP40.1); clear HP40; have n0_ := Aside0.mk (hp_); have n1_ := Aside0.mk (Kd.R_after (v := (.slice (some ⟨go36, 0, none⟩) x6_1.length co36)) (v1 := (.slice (some ⟨go36, 0, none⟩) x6_1.length co36)) (ok := (fun _ => True)) (by (with_reducible repeat (first | apply Kd.R_alloc | apply Kd.R_drewN | apply Kd.R_drew)); exact Kd.R_mono HO_7.out (fun _ hk => ⟨trivial, hk⟩)) hg (.inl rfl)); have n2_ := Aside0.mk ((by rw [hw]; exact below_set (HB.out) GB36.out : Below w.heap.size w w41)); clear HO_6; clear HO_7; clear HB; have HO_6 := n0_; have HO_7 := n1_; have HB := n2_; clear n0_ n1_ n2_; clear hg hw hp_) | ((with_reducible refine gate_dst (N := 57) rfl ?_); refine Kd.R_lit (Kd.int .i64) _ 3 ?hg (N := 57) ?hd (xs := ([x9_2] : List Int)) (inner := [.int .i64 x9_2]) (ok := fun _ => True) (okp := fun _ => True) ?hr ?hp (fun _ hk => hk) trivial (Below.refl _ _) (Nat.le_refl _) (by simp) ?_; (case hd => rfl); (case hg => rfl); (case hr => first | (go_simp; done) | (go_simp; rfl)); (case hp => exact (Reps.one (show Kd.M (Kd.int .i64) _ _ _ x9_2 [.int .i64 x9_2] from rfl) (Reps.none _ _))); intro v669 w42 ho43 hb hg_ hnew_; clear hg_ hnew_; (first | rw [← Ny668.out] at ho43 | (simp only [Int.reduceToNat] at ho43; rw [← Ny668.out] at ho43)); have n0_ := Aside0.mk (Kd.R_elder' (by (with_reducible repeat (first | apply Kd.R_alloc | apply Kd.R_drewN | apply Kd.R_drew)); exact HO_6.out) (Kd.R_base ho43) hb); have n1_ := Aside0.mk (Kd.R_elder' (by (with_reducible repeat (first | apply Kd.R_alloc | apply Kd.R_drewN | apply Kd.R_drew)); exact HO_7.out) (Kd.R_base ho43) hb); have n2_ := Aside0.mk (Kd.R_lower (Kd.R_new' (Kd.R_new' ho43 (Kd.R_lt (by (with_reducible repeat (first | apply Kd.R_alloc | apply Kd.R_drewN | apply Kd.R_drew)); exact HO_6.out))) (Kd.R_lt (by (with_reducible repeat (first | apply Kd.R_alloc | apply Kd.R_drewN | apply Kd.R_drew)); exact HO_7.out))) (below_size bq)); have n3_ := Aside0.mk (below_step bq hb); clear HO_6; clear HO_7; clear HB; have HO_6 := n0_; have HO_7 := n1_; have HO670 := n2_; have HB := n3_; clear n0_ n1_ n2_ n3_; clear hb ho43; obtain ⟨Ao44, co44, eo44⟩ := Kd.R_slice HO670.out; subst eo44) | ((with_reducible refine gate_callee (f := 49) rfl ?_); refine goesL_ (some 58) rfl rfl Tryz.func49 (by kernel_rfl) rfl #[.slice A1 l1.length c1, .slice Ao44 y668.length co44] rfl mq ?_; (with_reducible refine (schismaref02_times.calls k2 _ _ l1 _ _ y668 t671 _ ?side1 ?side2 ?side3 ?side4 A38.out).mono ?_); (case side1 => repeat (first | exact (Kd.C_below HR1.out HB.out) | (with_reducible refine Kd.C_alloc ?_ _) | (with_reducible refine Kd.C_drewN ?_ _) | (with_reducible refine Kd.C_drew ?_))); (case side2 => exact HC1.out); (case side3 => repeat (first | exact (Kd.R_reads' HO670.out).2.2 | (with_reducible refine Kd.C_alloc ?_ _) | (with_reducible refine Kd.C_drewN ?_ _) | (with_reducible refine Kd.C_drew ?_))); (case side4 => exact (Kd.R_reads' HO670.out).2.1); rintro e w45 ⟨v672, rfl, ho0, hb⟩; refine ⟨_, rfl, ?_⟩; have n0_ := Aside0.mk (Kd.R_elder' (by (with_reducible repeat (first | apply Kd.R_alloc | apply Kd.R_drewN | apply Kd.R_drew)); exact HO_6.out) (Kd.R_base ho0) hb); have n1_ := Aside0.mk (Kd.R_elder' (by (with_reducible repeat (first | apply Kd.R_alloc | apply Kd.R_drewN | apply Kd.R_drew)); exact HO_7.out) (Kd.R_base ho0) hb); have n2_ := Aside0.mk (Kd.R_elder' (by (with_reducible repeat (first | apply Kd.R_alloc | apply Kd.R_drewN | apply Kd.R_drew)); exact HO670.out) (Kd.R_base ho0) hb); have n3_ := Aside0.mk (Kd.R_lower (Kd.R_new' (Kd.R_new' (Kd.R_new' ho0 (Kd.R_lt (by (with_reducible repeat (first | apply Kd.R_alloc | apply Kd.R_drewN | apply Kd.R_drew)); exact HO_6.out))) (Kd.R_lt (by (with_reducible repeat (first | apply Kd.R_alloc | apply Kd.R_drewN | apply Kd.R_drew)); exact HO_7.out))) (Kd.R_lt (by (with_reducible repeat (first | apply Kd.R_alloc | apply Kd.R_drewN | apply Kd.R_drew)); exact HO670.out))) (below_size bq)); have n4_ := Aside0.mk (below_step bq hb); clear HO_6; clear HO_7; clear HO670; clear HB; have HO_6 := n0_; have HO_7 := n1_; have HO670 := n2_; have HO673 := n3_; have HB := n4_; clear n0_ n1_ n2_ n3_ n4_; (try clear hb); (try clear hb2); (try clear hk); (try clear hi); (try clear ho0); obtain ⟨Ao46, co46, eo46⟩ := Kd.R_slice HO_7.out; subst eo46; obtain ⟨Ao47, co47, eo47⟩ := Kd.R_slice HO673.out; subst eo47) | ((with_reducible refine gate_callee (f := 39) rfl ?_); refine goesL_ (some 59) rfl rfl Tryz.func39 (by kernel_rfl) rfl #[.slice Ao46 t657.length co46, .slice Ao47 t671.length co47] rfl mq ?_; (with_reducible refine (schismaref02_minus.calls k2 _ _ t657 _ _ t671 t674 _ ?side1 ?side2 ?side3 ?side4 A39.out).mono ?_); (case side1 => repeat (first | exact (Kd.R_reads' HO_7.out).2.2 | (with_reducible refine Kd.C_alloc ?_ _) | (with_reducible refine Kd.C_drewN ?_ _) | (with_reducible refine Kd.C_drew ?_))); (case side2 => exact (Kd.R_reads' HO_7.out).2.1); (case side3 => repeat (first | exact (Kd.R_reads' HO673.out).2.2 | (with_reducible refine Kd.C_alloc ?_ _) | (with_reducible refine Kd.C_drewN ?_ _) | (with_reducible refine Kd.C_drew ?_))); (case side4 => exact (Kd.R_reads' HO673.out).2.1); rintro e w48 ⟨v675, rfl, ho0, hb⟩; refine ⟨_, rfl, ?_⟩; have n0_ := Aside0.mk (Kd.R_elder' (by (with_reducible repeat (first | apply Kd.R_alloc | apply Kd.R_drewN | apply Kd.R_drew)); exact HO_6.out) (Kd.R_base ho0) hb); have n1_ := Aside0.mk (Kd.R_elder' (by (with_reducible repeat (first | apply Kd.R_alloc | apply Kd.R_drewN | apply Kd.R_drew)); exact HO_7.out) (Kd.R_base ho0) hb); have n2_ := Aside0.mk (Kd.R_elder' (by (with_reducible repeat (first | apply Kd.R_alloc | apply Kd.R_drewN | apply Kd.R_drew)); exact HO670.out) (Kd.R_base ho0) hb); have n3_ := Aside0.mk (Kd.R_elder' (by (with_reducible repeat (first | apply Kd.R_alloc | apply Kd.R_drewN | apply Kd.R_drew)); exact HO673.out) (Kd.R_base ho0) hb); have n4_ := Aside0.mk (Kd.R_lower (Kd.R_new' (Kd.R_new' (Kd.R_new' (Kd.R_new' ho0 (Kd.R_lt (by (with_reducible repeat (first | apply Kd.R_alloc | apply Kd.R_drewN | apply Kd.R_drew)); exact HO_6.out))) (Kd.R_lt (by (with_reducible repeat (first | apply Kd.R_alloc | apply Kd.R_drewN | apply Kd.R_drew)); exact HO_7.out))) (Kd.R_lt (by (with_reducible repeat (first | apply Kd.R_alloc | apply Kd.R_drewN | apply Kd.R_drew)); exact HO670.out))) (Kd.R_lt (by (with_reducible repeat (first | apply Kd.R_alloc | apply Kd.R_drewN | apply Kd.R_drew)); exact HO673.out))) (below_size bq)); have n5_ := Aside0.mk (below_step bq hb); clear HO_6; clear HO_7; clear HO670; clear HO673; clear HB; have HO_6 := n0_; have HO_7 := n1_; have HO670 := n2_; have HO673 := n3_; have HO676 := n4_; have HB := n5_; clear n0_ n1_ n2_ n3_ n4_ n5_; (try clear hb); (try clear hb2); (try clear hk); (try clear hi); (try clear ho0)))
                              go_roundg k2
                              case measure => have := HK1.out; have := HK2.out; omega
                              case rel => exact ⟨(y667), (t674), (wrap64 (x8_1 - 1)), (by first | rfl | (simp; done) | (simp [*]; done)), H', ⟨by have := HK1.out; have := HK2.out; omega⟩, ⟨by (with_reducible repeat (first | apply Kd.R_alloc | apply Kd.R_drewN | apply Kd.R_drew)); exact Kd.R_mono HO_6.out (fun _ hk => hk.2)⟩, ⟨by (with_reducible repeat (first | apply Kd.R_alloc | apply Kd.R_drewN | apply Kd.R_drew)); exact Kd.R_mono HO676.out (fun _ hk => hk.1.1.1.2)⟩, ⟨bq⟩⟩
                            · rw [if_neg c37] at H
                              have c37b0 : decide (0 < x9_2) = false := decide_eq_false c37
                              clear c37
                              have H' := Aside0.mk H
                              clear H
                              have p36 : 0 ≤ (x8_1 : Int) := of_decide_eq_true (by first | (with_reducible assumption) | assumption)
                              have q36 : (x8_1 : Int) < ((x6_1.length : Int) : Int) := of_decide_eq_true (by first | (with_reducible assumption) | assumption)
                              obtain ⟨go36, co36, eo36, gb36, gl36, cl36, HG36⟩ := Kd.R_form HO_6.out (by omega)
                              (first | cases eo36 | (injection eo36 with ea_ en_ ec_; (first | subst ea_ | (injection ea_ with ea_; subst ea_)); subst ec_; clear en_))
                              have GB36 := Aside0.mk gb36
                              have GG36 := Aside0.mk HG36
                              clear gb36 gl36 HG36
                              obtain ⟨hx36_0, hf36_0⟩ := Kd.R_celln 0 HO_6.out (x8_1 : Int) p36 q36
                              replace p36 := eq_true p36
                              replace q36 := eq_true q36
                              have HP49 := Kd.R_putg HO_6.out (x8_1 : Int) x9_2
                              go_wp2_with (first | ((with_reducible refine gate_store (t := 3) (p := 51) rfl ?_); refine store_event (t := 3) (p := 51) (v := ?vo_w50) (w1 := (wr.setCell ⟨go36, (x8_1 : Int).toNat, none⟩ (.int .i64 x9_2))) ?hg ?ho ?hn ?hr ?_; (case ho => rfl); (case hg => rfl); (case hn => rfl); (case hr => first | (go_simp; done) | (go_simp; rfl)); intro w50 hw; have hg : wr.grownBy w50 (some go36) := (by rw [hw]; exact HP49.2); have hp_ : Kd.R (Kd.int .i64) 3 w50 w.heap.size (fun k_ => some k_ ≠ (v658 : Value).ownBlock) (.slice (some ⟨go36, 0, none⟩) x6_1.length co36) y667 := (by rw [hw, Ny667.out]; exact HP49.1); clear HP49; have n0_ := Aside0.mk (hp_); have n1_ := Aside0.mk (Kd.R_after (v := (.slice (some ⟨go36, 0, none⟩) x6_1.length co36)) (v1 := (.slice (some ⟨go36, 0, none⟩) x6_1.length co36)) (ok := (fun _ => True)) (by (with_reducible repeat (first | apply Kd.R_alloc | apply Kd.R_drewN | apply Kd.R_drew)); exact Kd.R_mono HO_7.out (fun _ hk => ⟨trivial, hk⟩)) hg (.inl rfl)); have n2_ := Aside0.mk ((by rw [hw]; exact below_set (HB.out) GB36.out : Below w.heap.size w w50)); clear HO_6; clear HO_7; clear HB; have HO_6 := n0_; have HO_7 := n1_; have HB := n2_; clear n0_ n1_ n2_; clear hg hw hp_))
                              go_roundg k2
                              case measure => have := HK1.out; have := HK2.out; omega
                              case rel => exact ⟨(y667), (t657), (wrap64 (x8_1 - 1)), (by first | rfl | (simp; done) | (simp [*]; done)), H', ⟨by have := HK1.out; have := HK2.out; omega⟩, ⟨by (with_reducible repeat (first | apply Kd.R_alloc | apply Kd.R_drewN | apply Kd.R_drew)); exact HO_6.out⟩, ⟨by (with_reducible repeat (first | apply Kd.R_alloc | apply Kd.R_drewN | apply Kd.R_drew)); exact Kd.R_mono HO_7.out (fun _ hk => hk.2)⟩, ⟨bq⟩⟩
                          · rw [if_neg c35] at H
                            exact absurd H (by simp)
                        · rw [if_neg c34] at H
                          exact absurd H (by simp)
                · rw [if_neg c10] at H
                  exact absurd H (by simp)
              · rw [if_neg c9] at H
                exact absurd H (by simp)
            · rw [if_neg c8] at H
              exact absurd H (by simp)
          · rw [if_neg c7] at H
            have c7b0 : decide (0 ≤ x8_1) = false := decide_eq_false c7
            clear c7
            replace H := Option.bind_eq_some_iff.mp H
            obtain ⟨t647, A510, H⟩ := H
            replace H : (some (t647, x7_1)) = some (r1, r2) := H
            have A51 := Aside0.mk A510
            clear A510
            simp only [Option.some.injEq, Prod.mk.injEq] at H
            obtain ⟨rfl, rfl⟩ := H
            obtain ⟨Ao52, co52, eo52⟩ := Kd.R_slice HO_6.out
            subst eo52
            go_wp2_with (first | ((with_reducible refine gate_callee (f := 65) rfl ?_); refine goesL_ (some 61) rfl rfl Tryz.func65 (by kernel_rfl) rfl #[.slice Ao52 x6_1.length co52] rfl mq ?_; (with_reducible refine (schismaref02_trim.calls k1 (fun k_ => some k_ = (.slice Ao52 x6_1.length co52 : Value).ownBlock) (.slice Ao52 x6_1.length co52) x6_1 t647 w _ ?side1 ?side2 A51.out).mono ?_); (case side1 => exact bq); (case side2 => exact Kd.R_tight rfl HO_6.out); rintro e w53 ⟨v648, rfl, ho0, hb, hkp⟩; refine ⟨_, rfl, ?_⟩; have n0_ := Aside0.mk (Kd.R_mono (ok' := fun k_ => some k_ ≠ (v648 : Value).ownBlock) (Kd.R_keptB (HO_7.out) hkp (fun k_ hk_ hs_ => (hk_) hs_)) (fun k_ hk_ => fun e_ => Or.elim (ho0.1 k_ e_.symm) (fun hs_ => hk_.2.1 hs_) (fun hn_ => Nat.not_le.2 hk_.2.2 hn_))); have n1_ := Aside0.mk (Kd.R_mono (ok' := fun k_ => some k_ ≠ (u7 : Value).ownBlock) ho0 (fun k_ hk_ => Or.elim hk_ (fun hs_ => fun e_ => (((HO_7.out).1 k_ e_.symm)) hs_) (fun hn_ => (Kd.fresh' (Kd.R_lt (by (with_reducible repeat (first | apply Kd.R_alloc | apply Kd.R_drewN | apply Kd.R_drew)); exact HO_7.out)) k_ hn_)))); have n2_ := Aside0.mk (hb); clear HO_7; clear HB; clear HO_6; have HO_7 := n0_; have HO649 := n1_; have HB := n2_; clear n0_ n1_ n2_; (try clear hb); (try clear hkp); (try clear ho0)))
            go_ret2
            exact ⟨_, _, eq_, by (with_reducible repeat (first | apply Kd.R_alloc | apply Kd.R_drewN | apply Kd.R_drew)); exact HO649.out, by (with_reducible repeat (first | apply Kd.R_alloc | apply Kd.R_drewN | apply Kd.R_drew)); exact HO_7.out, bq⟩
    · rw [if_neg c4] at H
      exact absurd H (by simp)
  · rw [if_neg c3] at H
    exact absurd H (by simp)
mutual
def schismaref02_DivMod.j0 : Nat → ByteArray → ByteArray → Int → Int → Bool → Option (ByteArray × ByteArray)
  | 0, _, _, _, _, _ => none
  | k + 1, x0, x1, x6, x8, x29 => if x29 = true then (if x8 = 0 then (none) else (if (Int.tmod x6 x8) = 0 then (schismaref02_DivMod.j1 k x8 (wrap64 (Int.tdiv x6 x8)) (Int.tmod x6 x8) false) else (schismaref02_DivMod.j1 k x8 (wrap64 (Int.tdiv x6 x8)) (Int.tmod x6 x8) ((decide ((Int.tmod x6 x8) < 0)) != (decide (x8 < 0)))))) else ((schismaref02_digits.f x0).bind fun t685 => ((schismaref02_split.f k t685).bind fun t686 => ((schismaref02_digits.f x1).bind fun t689 => ((schismaref02_split.f k t689).bind fun t690 => ((schismaref02_divide.f k t686 t690).bind fun bt693 => ((schismaref02_side.f x0).bind fun t699 => ((schismaref02_side.f x1).bind fun t700 => ((schismaref02_signed.f k (t699 != t700) bt693.1).bind fun t701 => ((schismaref02_side.f x0).bind fun t702 => ((schismaref02_signed.f k (decide (t702 < 0)) bt693.2).bind fun t703 => (if t703.toList = ([48] : List UInt8) then (schismaref02_DivMod.j2 k x1 t701 t703 false) else ((schismaref02_side.f x0).bind fun t704 => ((schismaref02_side.f x1).bind fun t705 => (schismaref02_DivMod.j2 k x1 t701 t703 (t704 != t705)))))))))))))))
def schismaref02_DivMod.j1 : Nat → Int → Int → Int → Bool → Option (ByteArray × ByteArray)
  | 0, _, _, _, _ => none
  | k + 1, x8, x10, x11, x44 => if x44 = true then ((schismaref02_Of.f (wrap64 (x10 - 1))).bind fun t681 => ((schismaref02_Of.f (wrap64 (x11 + x8))).bind fun t682 => (some (t681, t682)))) else ((schismaref02_Of.f x10).bind fun t683 => ((schismaref02_Of.f x11).bind fun t684 => (some (t683, t684))))
def schismaref02_DivMod.j2 : Nat → ByteArray → ByteArray → ByteArray → Bool → Option (ByteArray × ByteArray)
  | 0, _, _, _, _ => none
  | k + 1, x1, x14, x15, x84 => if x84 = true then ((schismaref02_Sub.f k x14 (⟨#[49]⟩ : ByteArray)).bind fun t706 => ((schismaref02_Add.f k x15 x1).bind fun t707 => (some (t706, t707)))) else (some (x14, x15))
end
def schismaref02_DivMod.f (k : Nat) (a0 : ByteArray) (a1 : ByteArray) : Option (ByteArray × ByteArray) := (schismaref02_quick.f k a0).bind fun bt677 => ((schismaref02_quick.f k a1).bind fun bt679 => (if bt677.2 = true then (schismaref02_DivMod.j0 k a0 a1 bt677.1 bt679.1 bt679.2) else (schismaref02_DivMod.j0 k a0 a1 bt677.1 bt679.1 false)))
theorem schismaref02_DivMod.mono_l : ∀ k, (∀ y0 y1 y2 y3 y4, LeO (schismaref02_DivMod.j0 k y0 y1 y2 y3 y4) (schismaref02_DivMod.j0 (k + 1) y0 y1 y2 y3 y4)) ∧ (∀ y0 y1 y2 y3, LeO (schismaref02_DivMod.j1 k y0 y1 y2 y3) (schismaref02_DivMod.j1 (k + 1) y0 y1 y2 y3)) ∧ (∀ y0 y1 y2 y3, LeO (schismaref02_DivMod.j2 k y0 y1 y2 y3) (schismaref02_DivMod.j2 (k + 1) y0 y1 y2 y3))
  | 0 => ⟨fun _ _ _ _ _ r h => by simp [schismaref02_DivMod.j0] at h, fun _ _ _ _ r h => by simp [schismaref02_DivMod.j1] at h, fun _ _ _ _ r h => by simp [schismaref02_DivMod.j2] at h⟩
  | k + 1 => by
    obtain ⟨ih0, ih1, ih2⟩ := schismaref02_DivMod.mono_l k
    refine ⟨?_, ?_, ?_⟩
    · intro y0 y1 y2 y3 y4
      unfold schismaref02_DivMod.j0
      repeat' first
      | (with_reducible exact ih0 _ _ _ _ _)
      | (with_reducible exact ih1 _ _ _ _)
      | (with_reducible exact ih2 _ _ _ _)
      | (with_reducible exact schismaref02_Add.mono _ _ _)
      | (with_reducible exact schismaref02_Sub.mono _ _ _)
      | (with_reducible exact schismaref02_divide.mono _ _ _)
      | (with_reducible exact schismaref02_quick.mono _ _)
      | (with_reducible exact schismaref02_signed.mono _ _ _)
      | (with_reducible exact schismaref02_split.mono _ _)
      | (with_reducible exact LeO.refl _)
      | (with_reducible exact LeO.none _)
      | (with_reducible refine LeO.ite ?_ ?_)
      | (with_reducible refine LeO.bind ?_ (fun _ => ?_))
      | exact ih0 _ _ _ _ _
      | exact ih1 _ _ _ _
      | exact ih2 _ _ _ _
      | exact schismaref02_Add.mono _ _ _
      | exact schismaref02_Sub.mono _ _ _
      | exact schismaref02_divide.mono _ _ _
      | exact schismaref02_quick.mono _ _
      | exact schismaref02_signed.mono _ _ _
      | exact schismaref02_split.mono _ _
      | exact LeO.none _
      | refine LeO.ite ?_ ?_
      | refine LeO.bind ?_ (fun _ => ?_)
    · intro y0 y1 y2 y3
      unfold schismaref02_DivMod.j1
      repeat' first
      | (with_reducible exact ih0 _ _ _ _ _)
      | (with_reducible exact ih1 _ _ _ _)
      | (with_reducible exact ih2 _ _ _ _)
      | (with_reducible exact schismaref02_Add.mono _ _ _)
      | (with_reducible exact schismaref02_Sub.mono _ _ _)
      | (with_reducible exact schismaref02_divide.mono _ _ _)
      | (with_reducible exact schismaref02_quick.mono _ _)
      | (with_reducible exact schismaref02_signed.mono _ _ _)
      | (with_reducible exact schismaref02_split.mono _ _)
      | (with_reducible exact LeO.refl _)
      | (with_reducible exact LeO.none _)
      | (with_reducible refine LeO.ite ?_ ?_)
      | (with_reducible refine LeO.bind ?_ (fun _ => ?_))
      | exact ih0 _ _ _ _ _
      | exact ih1 _ _ _ _
      | exact ih2 _ _ _ _
      | exact schismaref02_Add.mono _ _ _
      | exact schismaref02_Sub.mono _ _ _
      | exact schismaref02_divide.mono _ _ _
      | exact schismaref02_quick.mono _ _
      | exact schismaref02_signed.mono _ _ _
      | exact schismaref02_split.mono _ _
      | exact LeO.none _
      | refine LeO.ite ?_ ?_
      | refine LeO.bind ?_ (fun _ => ?_)
    · intro y0 y1 y2 y3
      unfold schismaref02_DivMod.j2
      repeat' first
      | (with_reducible exact ih0 _ _ _ _ _)
      | (with_reducible exact ih1 _ _ _ _)
      | (with_reducible exact ih2 _ _ _ _)
      | (with_reducible exact schismaref02_Add.mono _ _ _)
      | (with_reducible exact schismaref02_Sub.mono _ _ _)
      | (with_reducible exact schismaref02_divide.mono _ _ _)
      | (with_reducible exact schismaref02_quick.mono _ _)
      | (with_reducible exact schismaref02_signed.mono _ _ _)
      | (with_reducible exact schismaref02_split.mono _ _)
      | (with_reducible exact LeO.refl _)
      | (with_reducible exact LeO.none _)
      | (with_reducible refine LeO.ite ?_ ?_)
      | (with_reducible refine LeO.bind ?_ (fun _ => ?_))
      | exact ih0 _ _ _ _ _
      | exact ih1 _ _ _ _
      | exact ih2 _ _ _ _
      | exact schismaref02_Add.mono _ _ _
      | exact schismaref02_Sub.mono _ _ _
      | exact schismaref02_divide.mono _ _ _
      | exact schismaref02_quick.mono _ _
      | exact schismaref02_signed.mono _ _ _
      | exact schismaref02_split.mono _ _
      | exact LeO.none _
      | refine LeO.ite ?_ ?_
      | refine LeO.bind ?_ (fun _ => ?_)
theorem schismaref02_DivMod.mono : ∀ a0 a1 k, LeO (schismaref02_DivMod.f k a0 a1) (schismaref02_DivMod.f (k + 1) a0 a1) := by
  intro a0 a1 k
  obtain ⟨ih0, ih1, ih2⟩ := schismaref02_DivMod.mono_l k
  unfold schismaref02_DivMod.f
  repeat' first
      | (with_reducible exact ih0 _ _ _ _ _)
      | (with_reducible exact ih1 _ _ _ _)
      | (with_reducible exact ih2 _ _ _ _)
      | (with_reducible exact schismaref02_Add.mono _ _ _)
      | (with_reducible exact schismaref02_Sub.mono _ _ _)
      | (with_reducible exact schismaref02_divide.mono _ _ _)
      | (with_reducible exact schismaref02_quick.mono _ _)
      | (with_reducible exact schismaref02_signed.mono _ _ _)
      | (with_reducible exact schismaref02_split.mono _ _)
      | (with_reducible exact LeO.refl _)
      | (with_reducible exact LeO.none _)
      | (with_reducible refine LeO.ite ?_ ?_)
      | (with_reducible refine LeO.bind ?_ (fun _ => ?_))
      | exact ih0 _ _ _ _ _
      | exact ih1 _ _ _ _
      | exact ih2 _ _ _ _
      | exact schismaref02_Add.mono _ _ _
      | exact schismaref02_Sub.mono _ _ _
      | exact schismaref02_divide.mono _ _ _
      | exact schismaref02_quick.mono _ _
      | exact schismaref02_signed.mono _ _ _
      | exact schismaref02_split.mono _ _
      | exact LeO.none _
      | refine LeO.ite ?_ ?_
      | refine LeO.bind ?_ (fun _ => ?_)
set_option maxHeartbeats 8000000 in
set_option maxRecDepth 100000 in
theorem schismaref02_DivMod.calls (k : Nat) (a0 : ByteArray) (a1 : ByteArray) (r1 : ByteArray) (r2 : ByteArray) (w : World) (hT : Tab w) (h : schismaref02_DivMod.f k a0 a1 = some (r1, r2)) :
    Calls Tryz.prog 18 #[.string a0, .string a1] w fun e w' => e = .returned (.tuple #[.string r1, .string r2]) ∧ Below w.heap.size w w' := by
  have HT := Aside0.mk hT
  clear hT
  have HB := Aside0.mk (Below.refl w.heap.size w)
  have H : ((schismaref02_quick.f k a0).bind fun bt677 => ((schismaref02_quick.f k a1).bind fun bt679 => (if bt677.2 = true then (schismaref02_DivMod.j0 k a0 a1 bt677.1 bt679.1 bt679.2) else (schismaref02_DivMod.j0 k a0 a1 bt677.1 bt679.1 false)))) = some (r1, r2) := h
  clear h
  replace H := Option.bind_eq_some_iff.mp H
  obtain ⟨⟨t677, t678⟩, A30, H⟩ := H
  replace H : ((schismaref02_quick.f k a1).bind fun bt679 => (if t678 = true then (schismaref02_DivMod.j0 k a0 a1 t677 bt679.1 bt679.2) else (schismaref02_DivMod.j0 k a0 a1 t677 bt679.1 false))) = some (r1, r2) := H
  have A3 := Aside0.mk A30
  clear A30
  replace H := Option.bind_eq_some_iff.mp H
  obtain ⟨⟨t679, t680⟩, A40, H⟩ := H
  replace H : (if t678 = true then (schismaref02_DivMod.j0 k a0 a1 t677 t679 t680) else (schismaref02_DivMod.j0 k a0 a1 t677 t679 false)) = some (r1, r2) := H
  have A4 := Aside0.mk A40
  clear A40
  have HC5 := Aside0.mk H
  clear H
  go_enter Tryz.func18, Tryz.ntmps18
  go_upto_region 3 with (first | (go_at_call 32; (with_reducible refine (schismaref02_quick.calls k a0 t677 t678 _ A3.out).mono ?_); rintro e w' ⟨rfl, ⟨nd, rfl⟩⟩; (try first | exact ⟨rfl, _, World.drewN_drewN _ _ _⟩ | exact ⟨rfl, _, Eq.trans (World.drewN_drewN _ _ _) (congrArg (World.drewN _) (Nat.add_assoc _ _ _))⟩)) | (go_at_call 32; (with_reducible refine (schismaref02_quick.calls k a1 t679 t680 _ A4.out).mono ?_); rintro e w' ⟨rfl, ⟨nd, rfl⟩⟩; (try first | exact ⟨rfl, _, World.drewN_drewN _ _ _⟩ | exact ⟨rfl, _, Eq.trans (World.drewN_drewN _ _ _) (congrArg (World.drewN _) (Nat.add_assoc _ _ _))⟩)))
  repeat (go_quiet (first | (go_at_call 32; (with_reducible refine (schismaref02_quick.calls k a0 t677 t678 _ A3.out).mono ?_); rintro e w' ⟨rfl, ⟨nd, rfl⟩⟩; (try first | exact ⟨rfl, _, World.drewN_drewN _ _ _⟩ | exact ⟨rfl, _, Eq.trans (World.drewN_drewN _ _ _) (congrArg (World.drewN _) (Nat.add_assoc _ _ _))⟩)) | (go_at_call 32; (with_reducible refine (schismaref02_quick.calls k a1 t679 t680 _ A4.out).mono ?_); rintro e w' ⟨rfl, ⟨nd, rfl⟩⟩; (try first | exact ⟨rfl, _, World.drewN_drewN _ _ _⟩ | exact ⟨rfl, _, Eq.trans (World.drewN_drewN _ _ _) (congrArg (World.drewN _) (Nat.add_assoc _ _ _))⟩))); go_upto_region 3 with (first | (go_at_call 32; (with_reducible refine (schismaref02_quick.calls k a0 t677 t678 _ A3.out).mono ?_); rintro e w' ⟨rfl, ⟨nd, rfl⟩⟩; (try first | exact ⟨rfl, _, World.drewN_drewN _ _ _⟩ | exact ⟨rfl, _, Eq.trans (World.drewN_drewN _ _ _) (congrArg (World.drewN _) (Nat.add_assoc _ _ _))⟩)) | (go_at_call 32; (with_reducible refine (schismaref02_quick.calls k a1 t679 t680 _ A4.out).mono ?_); rintro e w' ⟨rfl, ⟨nd, rfl⟩⟩; (try first | exact ⟨rfl, _, World.drewN_drewN _ _ _⟩ | exact ⟨rfl, _, Eq.trans (World.drewN_drewN _ _ _) (congrArg (World.drewN _) (Nat.add_assoc _ _ _))⟩))))
  (try simp only [Act.put, List.setIfInBounds_toArray, List.set_cons_zero, List.set_cons_succ])
  go_cut [29] (fun v29 wc => ∃ (kq : Nat) (x29_4 : Bool), v29 = .bool x29_4 ∧ Aside0 (schismaref02_DivMod.j0 kq a0 a1 t677 t679 x29_4 = some (r1, r2)) ∧ Aside0 (kq ≤ k) ∧ Aside0 (Below w.heap.size w wc))
  case first =>
    have H := HC5.out
    clear HC5
    by_cases c6 : t678 = true
    · subst c6
      have H1 : (schismaref02_DivMod.j0 k a0 a1 t677 t679 t680) = some (r1, r2) := by rw [if_pos rfl] at H; exact H
      clear H
      have H := H1
      clear H1
      have H' := Aside0.mk H
      clear H
      go_wp2
      repeat (go_quiet (fail); try go_wp2)
      go_meet
      case rel => exact ⟨_, (t680), (by first | rfl | (simp; done) | (simp [*]; done)), H', ⟨by first | omega | exact Nat.le_refl _⟩, ⟨bq⟩⟩
    · replace c6 := Bool.eq_false_iff.mpr c6
      subst c6
      have H1 : (schismaref02_DivMod.j0 k a0 a1 t677 t679 false) = some (r1, r2) := by rw [if_neg (show ¬ (false = true) by decide)] at H; exact H
      clear H
      have H := H1
      clear H1
      have H' := Aside0.mk H
      clear H
      go_wp2
      repeat (go_quiet (fail); try go_wp2)
      go_meet
      case rel => exact ⟨_, (false), (by first | rfl | (simp; done) | (simp [*]; done)), H', ⟨by first | omega | exact Nat.le_refl _⟩, ⟨bq⟩⟩
  case rest =>
    clear HC5
    try clear c1
    try clear p2
    try clear c6
    obtain ⟨kq, x29_4, rfl, HA, HJ4, HB⟩ := hcut
    cases kq with
    | zero => exact absurd HA.out (by simp [schismaref02_DivMod.j0])
    | succ kj4 =>
      have H := HA.out
      clear HA
      simp only [schismaref02_DivMod.j0] at H
      by_cases c7 : x29_4 = true
      · subst c7
        have H1 : (if t679 = 0 then (none) else (if (Int.tmod t677 t679) = 0 then (schismaref02_DivMod.j1 kj4 t679 (wrap64 (Int.tdiv t677 t679)) (Int.tmod t677 t679) false) else (schismaref02_DivMod.j1 kj4 t679 (wrap64 (Int.tdiv t677 t679)) (Int.tmod t677 t679) ((decide ((Int.tmod t677 t679) < 0)) != (decide (t679 < 0)))))) = some (r1, r2) := by rw [if_pos rfl] at H; exact H
        clear H
        have H := H1
        clear H1
        by_cases c8 : t679 = 0
        · rw [if_pos c8] at H
          exact absurd H (by simp)
        · rw [if_neg c8] at H
          have c8b0 : (t679 == 0) = false := beq_eq_false_iff_ne.mpr c8
          have c8b1 : (t679 != 0) = true := bne_iff_ne.mpr c8
          have HC9 := Aside0.mk H
          clear H
          go_upto_region 5 with (fail)
          repeat (go_quiet (fail); go_upto_region 5 with (fail))
          go_cut [44] (fun v44 wc => ∃ (kq : Nat) (x44_8 : Bool), v44 = .bool x44_8 ∧ Aside0 (schismaref02_DivMod.j1 kq t679 (wrap64 (Int.tdiv t677 t679)) (Int.tmod t677 t679) x44_8 = some (r1, r2)) ∧ Aside0 (kq ≤ kj4) ∧ Aside0 (Below w.heap.size w wc))
          case first =>
            have H := HC9.out
            clear HC9
            by_cases c10 : (Int.tmod t677 t679) = 0
            · rw [if_pos c10] at H
              have c10b0 : ((Int.tmod t677 t679) == 0) = true := beq_iff_eq.mpr c10
              have c10b1 : ((Int.tmod t677 t679) != 0) = false := bne_eq_false_iff_eq.mpr c10
              clear c10
              (first | rw [c10b0] | (simp only [i64_w, i32_w]; rw [c10b0]) | skip)
              have H' := Aside0.mk H
              clear H
              go_wp2
              repeat (go_quiet (fail); try go_wp2)
              go_meet
              case rel => exact ⟨_, (false), (by first | rfl | (simp; done) | (simp [*]; done)), H', ⟨by have := HJ4.out; first | omega | exact Nat.le_refl _⟩, ⟨bq⟩⟩
            · rw [if_neg c10] at H
              have c10b0 : ((Int.tmod t677 t679) == 0) = false := beq_eq_false_iff_ne.mpr c10
              have c10b1 : ((Int.tmod t677 t679) != 0) = true := bne_iff_ne.mpr c10
              (first | rw [c10b0] | (simp only [i64_w, i32_w]; rw [c10b0]) | skip)
              have H' := Aside0.mk H
              clear H
              go_wp2
              repeat (go_quiet (fail); try go_wp2)
              go_meet
              case rel => exact ⟨_, (((decide ((Int.tmod t677 t679) < 0)) != (decide (t679 < 0)))), (by first | rfl | (simp; done) | (simp [*]; done)), H', ⟨by have := HJ4.out; first | omega | exact Nat.le_refl _⟩, ⟨bq⟩⟩
          case rest =>
            clear HC9
            try clear c1
            try clear p2
            try clear c6
            try clear p6
            try clear c7
            try clear c8
            try clear c8b0
            try clear c8b1
            try clear c10
            try clear c10b0
            try clear c10b1
            try clear p2
            obtain ⟨kq, x44_8, rfl, HA, HJ8, HB⟩ := hcut
            cases kq with
            | zero => exact absurd HA.out (by simp [schismaref02_DivMod.j1])
            | succ kj8 =>
              have H := HA.out
              clear HA
              simp only [schismaref02_DivMod.j1] at H
              by_cases c11 : x44_8 = true
              · subst c11
                have H1 : ((schismaref02_Of.f (wrap64 ((wrap64 (Int.tdiv t677 t679)) - 1))).bind fun t681 => ((schismaref02_Of.f (wrap64 ((Int.tmod t677 t679) + t679))).bind fun t682 => (some (t681, t682)))) = some (r1, r2) := by rw [if_pos rfl] at H; exact H
                clear H
                have H := H1
                clear H1
                replace H := Option.bind_eq_some_iff.mp H
                obtain ⟨t681, A120, H⟩ := H
                replace H : ((schismaref02_Of.f (wrap64 ((Int.tmod t677 t679) + t679))).bind fun t682 => (some (t681, t682))) = some (r1, r2) := H
                have A12 := Aside0.mk A120
                clear A120
                replace H := Option.bind_eq_some_iff.mp H
                obtain ⟨t682, A130, H⟩ := H
                replace H : (some (t681, t682)) = some (r1, r2) := H
                have A13 := Aside0.mk A130
                clear A130
                simp only [Option.some.injEq, Prod.mk.injEq] at H
                obtain ⟨rfl, rfl⟩ := H
                go_wp2_with (first | (go_at_call 33; (with_reducible refine (schismaref02_Of.calls (hT := HT.out.below bq) (wrap64 ((wrap64 (Int.tdiv t677 t679)) - 1)) t681 _ A12.out).mono ?_); rintro e w14 ⟨rfl, hb⟩; replace HB := Aside0.mk (below_step bq hb); (try clear hb); (try clear hb2); (try clear hk); (try clear hi)) | (go_at_call 33; (with_reducible refine (schismaref02_Of.calls (hT := HT.out.below bq) (wrap64 ((Int.tmod t677 t679) + t679)) t682 _ A13.out).mono ?_); rintro e w15 ⟨rfl, hb⟩; replace HB := Aside0.mk (below_step bq hb); (try clear hb); (try clear hb2); (try clear hk); (try clear hi)))
                repeat (go_quiet (first | (go_at_call 33; (with_reducible refine (schismaref02_Of.calls (hT := HT.out.below bq) (wrap64 ((wrap64 (Int.tdiv t677 t679)) - 1)) t681 _ A12.out).mono ?_); rintro e w14 ⟨rfl, hb⟩; replace HB := Aside0.mk (below_step bq hb); (try clear hb); (try clear hb2); (try clear hk); (try clear hi)) | (go_at_call 33; (with_reducible refine (schismaref02_Of.calls (hT := HT.out.below bq) (wrap64 ((Int.tmod t677 t679) + t679)) t682 _ A13.out).mono ?_); rintro e w15 ⟨rfl, hb⟩; replace HB := Aside0.mk (below_step bq hb); (try clear hb); (try clear hb2); (try clear hk); (try clear hi))); try go_wp2_with (first | (go_at_call 33; (with_reducible refine (schismaref02_Of.calls (hT := HT.out.below bq) (wrap64 ((wrap64 (Int.tdiv t677 t679)) - 1)) t681 _ A12.out).mono ?_); rintro e w14 ⟨rfl, hb⟩; replace HB := Aside0.mk (below_step bq hb); (try clear hb); (try clear hb2); (try clear hk); (try clear hi)) | (go_at_call 33; (with_reducible refine (schismaref02_Of.calls (hT := HT.out.below bq) (wrap64 ((Int.tmod t677 t679) + t679)) t682 _ A13.out).mono ?_); rintro e w15 ⟨rfl, hb⟩; replace HB := Aside0.mk (below_step bq hb); (try clear hb); (try clear hb2); (try clear hk); (try clear hi))))
                go_ret2
                exact ⟨eq_, bq⟩
              · replace c11 := Bool.eq_false_iff.mpr c11
                subst c11
                have H1 : ((schismaref02_Of.f (wrap64 (Int.tdiv t677 t679))).bind fun t683 => ((schismaref02_Of.f (Int.tmod t677 t679)).bind fun t684 => (some (t683, t684)))) = some (r1, r2) := by rw [if_neg (show ¬ (false = true) by decide)] at H; exact H
                clear H
                have H := H1
                clear H1
                replace H := Option.bind_eq_some_iff.mp H
                obtain ⟨t683, A160, H⟩ := H
                replace H : ((schismaref02_Of.f (Int.tmod t677 t679)).bind fun t684 => (some (t683, t684))) = some (r1, r2) := H
                have A16 := Aside0.mk A160
                clear A160
                replace H := Option.bind_eq_some_iff.mp H
                obtain ⟨t684, A170, H⟩ := H
                replace H : (some (t683, t684)) = some (r1, r2) := H
                have A17 := Aside0.mk A170
                clear A170
                simp only [Option.some.injEq, Prod.mk.injEq] at H
                obtain ⟨rfl, rfl⟩ := H
                go_wp2_with (first | (go_at_call 33; (with_reducible refine (schismaref02_Of.calls (hT := HT.out.below bq) (wrap64 (Int.tdiv t677 t679)) t683 _ A16.out).mono ?_); rintro e w18 ⟨rfl, hb⟩; replace HB := Aside0.mk (below_step bq hb); (try clear hb); (try clear hb2); (try clear hk); (try clear hi)) | (go_at_call 33; (with_reducible refine (schismaref02_Of.calls (hT := HT.out.below bq) (Int.tmod t677 t679) t684 _ A17.out).mono ?_); rintro e w19 ⟨rfl, hb⟩; replace HB := Aside0.mk (below_step bq hb); (try clear hb); (try clear hb2); (try clear hk); (try clear hi)))
                repeat (go_quiet (first | (go_at_call 33; (with_reducible refine (schismaref02_Of.calls (hT := HT.out.below bq) (wrap64 (Int.tdiv t677 t679)) t683 _ A16.out).mono ?_); rintro e w18 ⟨rfl, hb⟩; replace HB := Aside0.mk (below_step bq hb); (try clear hb); (try clear hb2); (try clear hk); (try clear hi)) | (go_at_call 33; (with_reducible refine (schismaref02_Of.calls (hT := HT.out.below bq) (Int.tmod t677 t679) t684 _ A17.out).mono ?_); rintro e w19 ⟨rfl, hb⟩; replace HB := Aside0.mk (below_step bq hb); (try clear hb); (try clear hb2); (try clear hk); (try clear hi))); try go_wp2_with (first | (go_at_call 33; (with_reducible refine (schismaref02_Of.calls (hT := HT.out.below bq) (wrap64 (Int.tdiv t677 t679)) t683 _ A16.out).mono ?_); rintro e w18 ⟨rfl, hb⟩; replace HB := Aside0.mk (below_step bq hb); (try clear hb); (try clear hb2); (try clear hk); (try clear hi)) | (go_at_call 33; (with_reducible refine (schismaref02_Of.calls (hT := HT.out.below bq) (Int.tmod t677 t679) t684 _ A17.out).mono ?_); rintro e w19 ⟨rfl, hb⟩; replace HB := Aside0.mk (below_step bq hb); (try clear hb); (try clear hb2); (try clear hk); (try clear hi))))
                go_ret2
                exact ⟨eq_, bq⟩
      · replace c7 := Bool.eq_false_iff.mpr c7
        subst c7
        have H1 : ((schismaref02_digits.f a0).bind fun t685 => ((schismaref02_split.f kj4 t685).bind fun t686 => ((schismaref02_digits.f a1).bind fun t689 => ((schismaref02_split.f kj4 t689).bind fun t690 => ((schismaref02_divide.f kj4 t686 t690).bind fun bt693 => ((schismaref02_side.f a0).bind fun t699 => ((schismaref02_side.f a1).bind fun t700 => ((schismaref02_signed.f kj4 (t699 != t700) bt693.1).bind fun t701 => ((schismaref02_side.f a0).bind fun t702 => ((schismaref02_signed.f kj4 (decide (t702 < 0)) bt693.2).bind fun t703 => (if t703.toList = ([48] : List UInt8) then (schismaref02_DivMod.j2 kj4 a1 t701 t703 false) else ((schismaref02_side.f a0).bind fun t704 => ((schismaref02_side.f a1).bind fun t705 => (schismaref02_DivMod.j2 kj4 a1 t701 t703 (t704 != t705))))))))))))))) = some (r1, r2) := by rw [if_neg (show ¬ (false = true) by decide)] at H; exact H
        clear H
        have H := H1
        clear H1
        replace H := Option.bind_eq_some_iff.mp H
        obtain ⟨t685, A200, H⟩ := H
        replace H : ((schismaref02_split.f kj4 t685).bind fun t686 => ((schismaref02_digits.f a1).bind fun t689 => ((schismaref02_split.f kj4 t689).bind fun t690 => ((schismaref02_divide.f kj4 t686 t690).bind fun bt693 => ((schismaref02_side.f a0).bind fun t699 => ((schismaref02_side.f a1).bind fun t700 => ((schismaref02_signed.f kj4 (t699 != t700) bt693.1).bind fun t701 => ((schismaref02_side.f a0).bind fun t702 => ((schismaref02_signed.f kj4 (decide (t702 < 0)) bt693.2).bind fun t703 => (if t703.toList = ([48] : List UInt8) then (schismaref02_DivMod.j2 kj4 a1 t701 t703 false) else ((schismaref02_side.f a0).bind fun t704 => ((schismaref02_side.f a1).bind fun t705 => (schismaref02_DivMod.j2 kj4 a1 t701 t703 (t704 != t705)))))))))))))) = some (r1, r2) := H
        have A20 := Aside0.mk A200
        clear A200
        replace H := Option.bind_eq_some_iff.mp H
        obtain ⟨t686, A210, H⟩ := H
        replace H : ((schismaref02_digits.f a1).bind fun t689 => ((schismaref02_split.f kj4 t689).bind fun t690 => ((schismaref02_divide.f kj4 t686 t690).bind fun bt693 => ((schismaref02_side.f a0).bind fun t699 => ((schismaref02_side.f a1).bind fun t700 => ((schismaref02_signed.f kj4 (t699 != t700) bt693.1).bind fun t701 => ((schismaref02_side.f a0).bind fun t702 => ((schismaref02_signed.f kj4 (decide (t702 < 0)) bt693.2).bind fun t703 => (if t703.toList = ([48] : List UInt8) then (schismaref02_DivMod.j2 kj4 a1 t701 t703 false) else ((schismaref02_side.f a0).bind fun t704 => ((schismaref02_side.f a1).bind fun t705 => (schismaref02_DivMod.j2 kj4 a1 t701 t703 (t704 != t705))))))))))))) = some (r1, r2) := H
        have A21 := Aside0.mk A210
        clear A210
        replace H := Option.bind_eq_some_iff.mp H
        obtain ⟨t689, A220, H⟩ := H
        replace H : ((schismaref02_split.f kj4 t689).bind fun t690 => ((schismaref02_divide.f kj4 t686 t690).bind fun bt693 => ((schismaref02_side.f a0).bind fun t699 => ((schismaref02_side.f a1).bind fun t700 => ((schismaref02_signed.f kj4 (t699 != t700) bt693.1).bind fun t701 => ((schismaref02_side.f a0).bind fun t702 => ((schismaref02_signed.f kj4 (decide (t702 < 0)) bt693.2).bind fun t703 => (if t703.toList = ([48] : List UInt8) then (schismaref02_DivMod.j2 kj4 a1 t701 t703 false) else ((schismaref02_side.f a0).bind fun t704 => ((schismaref02_side.f a1).bind fun t705 => (schismaref02_DivMod.j2 kj4 a1 t701 t703 (t704 != t705)))))))))))) = some (r1, r2) := H
        have A22 := Aside0.mk A220
        clear A220
        replace H := Option.bind_eq_some_iff.mp H
        obtain ⟨t690, A230, H⟩ := H
        replace H : ((schismaref02_divide.f kj4 t686 t690).bind fun bt693 => ((schismaref02_side.f a0).bind fun t699 => ((schismaref02_side.f a1).bind fun t700 => ((schismaref02_signed.f kj4 (t699 != t700) bt693.1).bind fun t701 => ((schismaref02_side.f a0).bind fun t702 => ((schismaref02_signed.f kj4 (decide (t702 < 0)) bt693.2).bind fun t703 => (if t703.toList = ([48] : List UInt8) then (schismaref02_DivMod.j2 kj4 a1 t701 t703 false) else ((schismaref02_side.f a0).bind fun t704 => ((schismaref02_side.f a1).bind fun t705 => (schismaref02_DivMod.j2 kj4 a1 t701 t703 (t704 != t705))))))))))) = some (r1, r2) := H
        have A23 := Aside0.mk A230
        clear A230
        replace H := Option.bind_eq_some_iff.mp H
        obtain ⟨⟨t693, t694⟩, A240, H⟩ := H
        replace H : ((schismaref02_side.f a0).bind fun t699 => ((schismaref02_side.f a1).bind fun t700 => ((schismaref02_signed.f kj4 (t699 != t700) t693).bind fun t701 => ((schismaref02_side.f a0).bind fun t702 => ((schismaref02_signed.f kj4 (decide (t702 < 0)) t694).bind fun t703 => (if t703.toList = ([48] : List UInt8) then (schismaref02_DivMod.j2 kj4 a1 t701 t703 false) else ((schismaref02_side.f a0).bind fun t704 => ((schismaref02_side.f a1).bind fun t705 => (schismaref02_DivMod.j2 kj4 a1 t701 t703 (t704 != t705)))))))))) = some (r1, r2) := H
        have A24 := Aside0.mk A240
        clear A240
        replace H := Option.bind_eq_some_iff.mp H
        obtain ⟨t699, A250, H⟩ := H
        replace H : ((schismaref02_side.f a1).bind fun t700 => ((schismaref02_signed.f kj4 (t699 != t700) t693).bind fun t701 => ((schismaref02_side.f a0).bind fun t702 => ((schismaref02_signed.f kj4 (decide (t702 < 0)) t694).bind fun t703 => (if t703.toList = ([48] : List UInt8) then (schismaref02_DivMod.j2 kj4 a1 t701 t703 false) else ((schismaref02_side.f a0).bind fun t704 => ((schismaref02_side.f a1).bind fun t705 => (schismaref02_DivMod.j2 kj4 a1 t701 t703 (t704 != t705))))))))) = some (r1, r2) := H
        have A25 := Aside0.mk A250
        clear A250
        replace H := Option.bind_eq_some_iff.mp H
        obtain ⟨t700, A260, H⟩ := H
        replace H : ((schismaref02_signed.f kj4 (t699 != t700) t693).bind fun t701 => ((schismaref02_side.f a0).bind fun t702 => ((schismaref02_signed.f kj4 (decide (t702 < 0)) t694).bind fun t703 => (if t703.toList = ([48] : List UInt8) then (schismaref02_DivMod.j2 kj4 a1 t701 t703 false) else ((schismaref02_side.f a0).bind fun t704 => ((schismaref02_side.f a1).bind fun t705 => (schismaref02_DivMod.j2 kj4 a1 t701 t703 (t704 != t705)))))))) = some (r1, r2) := H
        have A26 := Aside0.mk A260
        clear A260
        replace H := Option.bind_eq_some_iff.mp H
        obtain ⟨t701, A270, H⟩ := H
        replace H : ((schismaref02_side.f a0).bind fun t702 => ((schismaref02_signed.f kj4 (decide (t702 < 0)) t694).bind fun t703 => (if t703.toList = ([48] : List UInt8) then (schismaref02_DivMod.j2 kj4 a1 t701 t703 false) else ((schismaref02_side.f a0).bind fun t704 => ((schismaref02_side.f a1).bind fun t705 => (schismaref02_DivMod.j2 kj4 a1 t701 t703 (t704 != t705))))))) = some (r1, r2) := H
        have A27 := Aside0.mk A270
        clear A270
        replace H := Option.bind_eq_some_iff.mp H
        obtain ⟨t702, A280, H⟩ := H
        replace H : ((schismaref02_signed.f kj4 (decide (t702 < 0)) t694).bind fun t703 => (if t703.toList = ([48] : List UInt8) then (schismaref02_DivMod.j2 kj4 a1 t701 t703 false) else ((schismaref02_side.f a0).bind fun t704 => ((schismaref02_side.f a1).bind fun t705 => (schismaref02_DivMod.j2 kj4 a1 t701 t703 (t704 != t705)))))) = some (r1, r2) := H
        have A28 := Aside0.mk A280
        clear A280
        have hq2_ : t699 = t702 := Option.some.inj (A25.out.symm.trans A28.out)
        obtain rfl := hq2_
        replace H := Option.bind_eq_some_iff.mp H
        obtain ⟨t703, A290, H⟩ := H
        replace H : (if t703.toList = ([48] : List UInt8) then (schismaref02_DivMod.j2 kj4 a1 t701 t703 false) else ((schismaref02_side.f a0).bind fun t704 => ((schismaref02_side.f a1).bind fun t705 => (schismaref02_DivMod.j2 kj4 a1 t701 t703 (t704 != t705))))) = some (r1, r2) := H
        have A29 := Aside0.mk A290
        clear A290
        have HC30 := Aside0.mk H
        clear H
        have A27n := A27
        try rw [neq_bools] at A27n
        have tok5_0 := Aside0.mk True.intro
        go_upto_region 10 with (first | (go_at_call 31; (with_reducible refine (schismaref02_digits.calls a0 t685 _ A20.out).mono ?_); rintro e w' ⟨rfl, ⟨nd, rfl⟩⟩; (try first | exact ⟨rfl, _, World.drewN_drewN _ _ _⟩ | exact ⟨rfl, _, Eq.trans (World.drewN_drewN _ _ _) (congrArg (World.drewN _) (Nat.add_assoc _ _ _))⟩)) | (go_at_call 34; (with_reducible refine (schismaref02_split.calls kj4 t685 t686 _ A21.out).mono ?_); rintro e w31 ⟨v687, rfl, ho0, hb⟩; have n0_ := Aside0.mk (Kd.R_lower ho0 (below_size bq)); have n1_ := Aside0.mk (below_step bq hb); clear HB; have HO688 := n0_; have HB := n1_; clear n0_ n1_; (try clear hb); (try clear hb2); (try clear hk); (try clear hi); (try clear ho0)) | (go_at_call 31; (with_reducible refine (schismaref02_digits.calls a1 t689 _ A22.out).mono ?_); rintro e w' ⟨rfl, ⟨nd, rfl⟩⟩; (try first | exact ⟨rfl, _, World.drewN_drewN _ _ _⟩ | exact ⟨rfl, _, Eq.trans (World.drewN_drewN _ _ _) (congrArg (World.drewN _) (Nat.add_assoc _ _ _))⟩)) | (go_at_call 34; (with_reducible refine (schismaref02_split.calls kj4 t689 t690 _ A23.out).mono ?_); rintro e w32 ⟨v691, rfl, ho0, hb⟩; have n0_ := Aside0.mk (Kd.R_elder' (by (with_reducible repeat (first | apply Kd.R_alloc | apply Kd.R_drewN | apply Kd.R_drew)); exact HO688.out) (Kd.R_base ho0) hb); have n1_ := Aside0.mk (Kd.R_lower (Kd.R_new' ho0 (Kd.R_lt (by (with_reducible repeat (first | apply Kd.R_alloc | apply Kd.R_drewN | apply Kd.R_drew)); exact HO688.out))) (below_size bq)); have n2_ := Aside0.mk (below_step bq hb); clear HO688; clear HB; have HO688 := n0_; have HO692 := n1_; have HB := n2_; clear n0_ n1_ n2_; (try clear hb); (try clear hb2); (try clear hk); (try clear hi); (try clear ho0); obtain ⟨Ao33, co33, eo33⟩ := Kd.R_slice HO688.out; subst eo33; obtain ⟨Ao34, co34, eo34⟩ := Kd.R_slice HO692.out; subst eo34) | (go_at_call 48; (with_reducible refine (schismaref02_divide.calls kj4 _ _ t686 _ _ t690 t693 t694 _ ?side1 ?side2 ?side3 ?side4 A24.out).mono ?_); (case side1 => repeat (first | exact (Kd.R_reads' HO688.out).2.2 | (with_reducible refine Kd.C_alloc ?_ _) | (with_reducible refine Kd.C_drewN ?_ _) | (with_reducible refine Kd.C_drew ?_))); (case side2 => exact (Kd.R_reads' HO688.out).2.1); (case side3 => repeat (first | exact (Kd.R_reads' HO692.out).2.2 | (with_reducible refine Kd.C_alloc ?_ _) | (with_reducible refine Kd.C_drewN ?_ _) | (with_reducible refine Kd.C_drew ?_))); (case side4 => exact (Kd.R_reads' HO692.out).2.1); rintro e w35 ⟨v695, v697, rfl, ho0, ho1, hb⟩; have n0_ := Aside0.mk (Kd.R_mono (Kd.R_told (Kd.R_told (Kd.R_old (by (with_reducible repeat (first | apply Kd.R_alloc | apply Kd.R_drewN | apply Kd.R_drew)); exact HO688.out) hb) (Kd.R_base ho0)) (Kd.R_base ho1)) (fun _ h_ => h_.1)); have n1_ := Aside0.mk (Kd.R_mono (Kd.R_told (Kd.R_told (Kd.R_old (by (with_reducible repeat (first | apply Kd.R_alloc | apply Kd.R_drewN | apply Kd.R_drew)); exact HO692.out) hb) (Kd.R_base ho0)) (Kd.R_base ho1)) (fun _ h_ => h_.1)); have n2_ := Aside0.mk (Kd.R_lower (Kd.R_new' (Kd.R_new' ho0 (Kd.R_lt (by (with_reducible repeat (first | apply Kd.R_alloc | apply Kd.R_drewN | apply Kd.R_drew)); exact HO688.out))) (Kd.R_lt (by (with_reducible repeat (first | apply Kd.R_alloc | apply Kd.R_drewN | apply Kd.R_drew)); exact HO692.out))) (below_size bq)); have n3_ := Aside0.mk (Kd.R_lower (Kd.R_new' (Kd.R_new' ho1 (Kd.R_lt (by (with_reducible repeat (first | apply Kd.R_alloc | apply Kd.R_drewN | apply Kd.R_drew)); exact HO688.out))) (Kd.R_lt (by (with_reducible repeat (first | apply Kd.R_alloc | apply Kd.R_drewN | apply Kd.R_drew)); exact HO692.out))) (below_size bq)); have n4_ := Aside0.mk (below_step bq hb); clear HO688; clear HO692; clear HB; have HO688 := n0_; have HO692 := n1_; have HO696 := n2_; have HO698 := n3_; have HB := n4_; clear n0_ n1_ n2_ n3_ n4_; (try clear hb); (try clear hb2); (try clear hk); (try clear hi); (try clear ho0); (try clear ho1)) | (go_at_call 35; have t_ := tok5_0; clear t_; (with_reducible refine (schismaref02_side.calls a0 t699 _ A25.out).mono ?_); rintro e w' ⟨rfl, ⟨nd, rfl⟩⟩; (try first | exact ⟨rfl, _, World.drewN_drewN _ _ _⟩ | exact ⟨rfl, _, Eq.trans (World.drewN_drewN _ _ _) (congrArg (World.drewN _) (Nat.add_assoc _ _ _))⟩); clear tok5_0) | (go_at_call 35; (with_reducible refine (schismaref02_side.calls a1 t700 _ A26.out).mono ?_); rintro e w' ⟨rfl, ⟨nd, rfl⟩⟩; (try first | exact ⟨rfl, _, World.drewN_drewN _ _ _⟩ | exact ⟨rfl, _, Eq.trans (World.drewN_drewN _ _ _) (congrArg (World.drewN _) (Nat.add_assoc _ _ _))⟩); obtain ⟨Ao36, co36, eo36⟩ := Kd.R_slice HO696.out; subst eo36) | (go_at_call 36; (first | with_reducible refine (schismaref02_signed.calls (hT := HT.out) kj4 (t699 != t700) (fun k_ => some k_ = (.slice Ao36 t693.length co36 : Value).ownBlock) (.slice Ao36 t693.length co36) t693 t701 w _ ?side1 ?side2 A27.out).mono ?_ | with_reducible refine (schismaref02_signed.calls (hT := HT.out) kj4 (!(t699 == t700)) (fun k_ => some k_ = (.slice Ao36 t693.length co36 : Value).ownBlock) (.slice Ao36 t693.length co36) t693 t701 w _ ?side1 ?side2 A27n.out).mono ?_); (case side1 => exact bq); (case side2 => exact Kd.R_tight rfl HO696.out); rintro e w37 ⟨rfl, hb, hkp⟩; have n0_ := Aside0.mk (Kd.R_mono (ok' := fun k_ => some k_ ≠ (.slice Ao34 t690.length co34 : Value).ownBlock ∧ some k_ ≠ (v697 : Value).ownBlock) (Kd.R_keptB (HO688.out) hkp (fun k_ hk_ hs_ => (hk_.1.2) hs_)) (fun k_ hk_ => ⟨hk_.1.1.1.2, hk_.1.2⟩)); have n1_ := Aside0.mk (Kd.R_mono (ok' := fun k_ => some k_ ≠ (.slice Ao33 t686.length co33 : Value).ownBlock ∧ some k_ ≠ (v697 : Value).ownBlock) (Kd.R_keptB (HO692.out) hkp (fun k_ hk_ hs_ => (hk_.1.2) hs_)) (fun k_ hk_ => ⟨hk_.1.1.1.2, hk_.1.2⟩)); have n2_ := Aside0.mk (Kd.R_mono (ok' := fun k_ => some k_ ≠ (.slice Ao33 t686.length co33 : Value).ownBlock ∧ some k_ ≠ (.slice Ao34 t690.length co34 : Value).ownBlock) (Kd.R_keptB (HO698.out) hkp (fun k_ hk_ hs_ => (hk_.1.1) hs_)) (fun k_ hk_ => ⟨hk_.1.1.2, hk_.1.2⟩)); have n3_ := Aside0.mk (hb); clear HO688; clear HO692; clear HO698; clear HB; clear HO696; have HO688 := n0_; have HO692 := n1_; have HO698 := n2_; have HB := n3_; clear n0_ n1_ n2_ n3_; (try clear hb); (try clear hkp)) | (go_at_call 35; (with_reducible refine (schismaref02_side.calls a0 t699 _ A28.out).mono ?_); rintro e w' ⟨rfl, ⟨nd, rfl⟩⟩; (try first | exact ⟨rfl, _, World.drewN_drewN _ _ _⟩ | exact ⟨rfl, _, Eq.trans (World.drewN_drewN _ _ _) (congrArg (World.drewN _) (Nat.add_assoc _ _ _))⟩); obtain ⟨Ao38, co38, eo38⟩ := Kd.R_slice HO698.out; subst eo38) | (go_at_call 36; (with_reducible refine (schismaref02_signed.calls (hT := HT.out) kj4 (decide (t699 < 0)) (fun k_ => some k_ = (.slice Ao38 t694.length co38 : Value).ownBlock) (.slice Ao38 t694.length co38) t694 t703 w _ ?side1 ?side2 A29.out).mono ?_); (case side1 => exact bq); (case side2 => exact Kd.R_tight rfl HO698.out); rintro e w39 ⟨rfl, hb, hkp⟩; have n0_ := Aside0.mk (Kd.R_mono (ok' := fun k_ => some k_ ≠ (.slice Ao34 t690.length co34 : Value).ownBlock) (Kd.R_keptB (HO688.out) hkp (fun k_ hk_ hs_ => (hk_.2) hs_)) (fun k_ hk_ => hk_.1.1)); have n1_ := Aside0.mk (Kd.R_mono (ok' := fun k_ => some k_ ≠ (.slice Ao33 t686.length co33 : Value).ownBlock) (Kd.R_keptB (HO692.out) hkp (fun k_ hk_ hs_ => (hk_.2) hs_)) (fun k_ hk_ => hk_.1.1)); have n2_ := Aside0.mk (hb); clear HO688; clear HO692; clear HB; clear HO698; have HO688 := n0_; have HO692 := n1_; have HB := n2_; clear n0_ n1_ n2_; (try clear hb); (try clear hkp)))
        have A27n := A27
        try rw [neq_bools] at A27n
        have tok5_0 := Aside0.mk True.intro
        repeat (go_quiet (first | (go_at_call 31; (with_reducible refine (schismaref02_digits.calls a0 t685 _ A20.out).mono ?_); rintro e w' ⟨rfl, ⟨nd, rfl⟩⟩; (try first | exact ⟨rfl, _, World.drewN_drewN _ _ _⟩ | exact ⟨rfl, _, Eq.trans (World.drewN_drewN _ _ _) (congrArg (World.drewN _) (Nat.add_assoc _ _ _))⟩)) | (go_at_call 34; (with_reducible refine (schismaref02_split.calls kj4 t685 t686 _ A21.out).mono ?_); rintro e w31 ⟨v687, rfl, ho0, hb⟩; have n0_ := Aside0.mk (Kd.R_lower ho0 (below_size bq)); have n1_ := Aside0.mk (below_step bq hb); clear HB; have HO688 := n0_; have HB := n1_; clear n0_ n1_; (try clear hb); (try clear hb2); (try clear hk); (try clear hi); (try clear ho0)) | (go_at_call 31; (with_reducible refine (schismaref02_digits.calls a1 t689 _ A22.out).mono ?_); rintro e w' ⟨rfl, ⟨nd, rfl⟩⟩; (try first | exact ⟨rfl, _, World.drewN_drewN _ _ _⟩ | exact ⟨rfl, _, Eq.trans (World.drewN_drewN _ _ _) (congrArg (World.drewN _) (Nat.add_assoc _ _ _))⟩)) | (go_at_call 34; (with_reducible refine (schismaref02_split.calls kj4 t689 t690 _ A23.out).mono ?_); rintro e w32 ⟨v691, rfl, ho0, hb⟩; have n0_ := Aside0.mk (Kd.R_elder' (by (with_reducible repeat (first | apply Kd.R_alloc | apply Kd.R_drewN | apply Kd.R_drew)); exact HO688.out) (Kd.R_base ho0) hb); have n1_ := Aside0.mk (Kd.R_lower (Kd.R_new' ho0 (Kd.R_lt (by (with_reducible repeat (first | apply Kd.R_alloc | apply Kd.R_drewN | apply Kd.R_drew)); exact HO688.out))) (below_size bq)); have n2_ := Aside0.mk (below_step bq hb); clear HO688; clear HB; have HO688 := n0_; have HO692 := n1_; have HB := n2_; clear n0_ n1_ n2_; (try clear hb); (try clear hb2); (try clear hk); (try clear hi); (try clear ho0); obtain ⟨Ao33, co33, eo33⟩ := Kd.R_slice HO688.out; subst eo33; obtain ⟨Ao34, co34, eo34⟩ := Kd.R_slice HO692.out; subst eo34) | (go_at_call 48; (with_reducible refine (schismaref02_divide.calls kj4 _ _ t686 _ _ t690 t693 t694 _ ?side1 ?side2 ?side3 ?side4 A24.out).mono ?_); (case side1 => repeat (first | exact (Kd.R_reads' HO688.out).2.2 | (with_reducible refine Kd.C_alloc ?_ _) | (with_reducible refine Kd.C_drewN ?_ _) | (with_reducible refine Kd.C_drew ?_))); (case side2 => exact (Kd.R_reads' HO688.out).2.1); (case side3 => repeat (first | exact (Kd.R_reads' HO692.out).2.2 | (with_reducible refine Kd.C_alloc ?_ _) | (with_reducible refine Kd.C_drewN ?_ _) | (with_reducible refine Kd.C_drew ?_))); (case side4 => exact (Kd.R_reads' HO692.out).2.1); rintro e w35 ⟨v695, v697, rfl, ho0, ho1, hb⟩; have n0_ := Aside0.mk (Kd.R_mono (Kd.R_told (Kd.R_told (Kd.R_old (by (with_reducible repeat (first | apply Kd.R_alloc | apply Kd.R_drewN | apply Kd.R_drew)); exact HO688.out) hb) (Kd.R_base ho0)) (Kd.R_base ho1)) (fun _ h_ => h_.1)); have n1_ := Aside0.mk (Kd.R_mono (Kd.R_told (Kd.R_told (Kd.R_old (by (with_reducible repeat (first | apply Kd.R_alloc | apply Kd.R_drewN | apply Kd.R_drew)); exact HO692.out) hb) (Kd.R_base ho0)) (Kd.R_base ho1)) (fun _ h_ => h_.1)); have n2_ := Aside0.mk (Kd.R_lower (Kd.R_new' (Kd.R_new' ho0 (Kd.R_lt (by (with_reducible repeat (first | apply Kd.R_alloc | apply Kd.R_drewN | apply Kd.R_drew)); exact HO688.out))) (Kd.R_lt (by (with_reducible repeat (first | apply Kd.R_alloc | apply Kd.R_drewN | apply Kd.R_drew)); exact HO692.out))) (below_size bq)); have n3_ := Aside0.mk (Kd.R_lower (Kd.R_new' (Kd.R_new' ho1 (Kd.R_lt (by (with_reducible repeat (first | apply Kd.R_alloc | apply Kd.R_drewN | apply Kd.R_drew)); exact HO688.out))) (Kd.R_lt (by (with_reducible repeat (first | apply Kd.R_alloc | apply Kd.R_drewN | apply Kd.R_drew)); exact HO692.out))) (below_size bq)); have n4_ := Aside0.mk (below_step bq hb); clear HO688; clear HO692; clear HB; have HO688 := n0_; have HO692 := n1_; have HO696 := n2_; have HO698 := n3_; have HB := n4_; clear n0_ n1_ n2_ n3_ n4_; (try clear hb); (try clear hb2); (try clear hk); (try clear hi); (try clear ho0); (try clear ho1)) | (go_at_call 35; have t_ := tok5_0; clear t_; (with_reducible refine (schismaref02_side.calls a0 t699 _ A25.out).mono ?_); rintro e w' ⟨rfl, ⟨nd, rfl⟩⟩; (try first | exact ⟨rfl, _, World.drewN_drewN _ _ _⟩ | exact ⟨rfl, _, Eq.trans (World.drewN_drewN _ _ _) (congrArg (World.drewN _) (Nat.add_assoc _ _ _))⟩); clear tok5_0) | (go_at_call 35; (with_reducible refine (schismaref02_side.calls a1 t700 _ A26.out).mono ?_); rintro e w' ⟨rfl, ⟨nd, rfl⟩⟩; (try first | exact ⟨rfl, _, World.drewN_drewN _ _ _⟩ | exact ⟨rfl, _, Eq.trans (World.drewN_drewN _ _ _) (congrArg (World.drewN _) (Nat.add_assoc _ _ _))⟩); obtain ⟨Ao36, co36, eo36⟩ := Kd.R_slice HO696.out; subst eo36) | (go_at_call 36; (first | with_reducible refine (schismaref02_signed.calls (hT := HT.out) kj4 (t699 != t700) (fun k_ => some k_ = (.slice Ao36 t693.length co36 : Value).ownBlock) (.slice Ao36 t693.length co36) t693 t701 w _ ?side1 ?side2 A27.out).mono ?_ | with_reducible refine (schismaref02_signed.calls (hT := HT.out) kj4 (!(t699 == t700)) (fun k_ => some k_ = (.slice Ao36 t693.length co36 : Value).ownBlock) (.slice Ao36 t693.length co36) t693 t701 w _ ?side1 ?side2 A27n.out).mono ?_); (case side1 => exact bq); (case side2 => exact Kd.R_tight rfl HO696.out); rintro e w37 ⟨rfl, hb, hkp⟩; have n0_ := Aside0.mk (Kd.R_mono (ok' := fun k_ => some k_ ≠ (.slice Ao34 t690.length co34 : Value).ownBlock ∧ some k_ ≠ (v697 : Value).ownBlock) (Kd.R_keptB (HO688.out) hkp (fun k_ hk_ hs_ => (hk_.1.2) hs_)) (fun k_ hk_ => ⟨hk_.1.1.1.2, hk_.1.2⟩)); have n1_ := Aside0.mk (Kd.R_mono (ok' := fun k_ => some k_ ≠ (.slice Ao33 t686.length co33 : Value).ownBlock ∧ some k_ ≠ (v697 : Value).ownBlock) (Kd.R_keptB (HO692.out) hkp (fun k_ hk_ hs_ => (hk_.1.2) hs_)) (fun k_ hk_ => ⟨hk_.1.1.1.2, hk_.1.2⟩)); have n2_ := Aside0.mk (Kd.R_mono (ok' := fun k_ => some k_ ≠ (.slice Ao33 t686.length co33 : Value).ownBlock ∧ some k_ ≠ (.slice Ao34 t690.length co34 : Value).ownBlock) (Kd.R_keptB (HO698.out) hkp (fun k_ hk_ hs_ => (hk_.1.1) hs_)) (fun k_ hk_ => ⟨hk_.1.1.2, hk_.1.2⟩)); have n3_ := Aside0.mk (hb); clear HO688; clear HO692; clear HO698; clear HB; clear HO696; have HO688 := n0_; have HO692 := n1_; have HO698 := n2_; have HB := n3_; clear n0_ n1_ n2_ n3_; (try clear hb); (try clear hkp)) | (go_at_call 35; (with_reducible refine (schismaref02_side.calls a0 t699 _ A28.out).mono ?_); rintro e w' ⟨rfl, ⟨nd, rfl⟩⟩; (try first | exact ⟨rfl, _, World.drewN_drewN _ _ _⟩ | exact ⟨rfl, _, Eq.trans (World.drewN_drewN _ _ _) (congrArg (World.drewN _) (Nat.add_assoc _ _ _))⟩); obtain ⟨Ao38, co38, eo38⟩ := Kd.R_slice HO698.out; subst eo38) | (go_at_call 36; (with_reducible refine (schismaref02_signed.calls (hT := HT.out) kj4 (decide (t699 < 0)) (fun k_ => some k_ = (.slice Ao38 t694.length co38 : Value).ownBlock) (.slice Ao38 t694.length co38) t694 t703 w _ ?side1 ?side2 A29.out).mono ?_); (case side1 => exact bq); (case side2 => exact Kd.R_tight rfl HO698.out); rintro e w39 ⟨rfl, hb, hkp⟩; have n0_ := Aside0.mk (Kd.R_mono (ok' := fun k_ => some k_ ≠ (.slice Ao34 t690.length co34 : Value).ownBlock) (Kd.R_keptB (HO688.out) hkp (fun k_ hk_ hs_ => (hk_.2) hs_)) (fun k_ hk_ => hk_.1.1)); have n1_ := Aside0.mk (Kd.R_mono (ok' := fun k_ => some k_ ≠ (.slice Ao33 t686.length co33 : Value).ownBlock) (Kd.R_keptB (HO692.out) hkp (fun k_ hk_ hs_ => (hk_.2) hs_)) (fun k_ hk_ => hk_.1.1)); have n2_ := Aside0.mk (hb); clear HO688; clear HO692; clear HB; clear HO698; have HO688 := n0_; have HO692 := n1_; have HB := n2_; clear n0_ n1_ n2_; (try clear hb); (try clear hkp))); go_upto_region 10 with (first | (go_at_call 31; (with_reducible refine (schismaref02_digits.calls a0 t685 _ A20.out).mono ?_); rintro e w' ⟨rfl, ⟨nd, rfl⟩⟩; (try first | exact ⟨rfl, _, World.drewN_drewN _ _ _⟩ | exact ⟨rfl, _, Eq.trans (World.drewN_drewN _ _ _) (congrArg (World.drewN _) (Nat.add_assoc _ _ _))⟩)) | (go_at_call 34; (with_reducible refine (schismaref02_split.calls kj4 t685 t686 _ A21.out).mono ?_); rintro e w31 ⟨v687, rfl, ho0, hb⟩; have n0_ := Aside0.mk (Kd.R_lower ho0 (below_size bq)); have n1_ := Aside0.mk (below_step bq hb); clear HB; have HO688 := n0_; have HB := n1_; clear n0_ n1_; (try clear hb); (try clear hb2); (try clear hk); (try clear hi); (try clear ho0)) | (go_at_call 31; (with_reducible refine (schismaref02_digits.calls a1 t689 _ A22.out).mono ?_); rintro e w' ⟨rfl, ⟨nd, rfl⟩⟩; (try first | exact ⟨rfl, _, World.drewN_drewN _ _ _⟩ | exact ⟨rfl, _, Eq.trans (World.drewN_drewN _ _ _) (congrArg (World.drewN _) (Nat.add_assoc _ _ _))⟩)) | (go_at_call 34; (with_reducible refine (schismaref02_split.calls kj4 t689 t690 _ A23.out).mono ?_); rintro e w32 ⟨v691, rfl, ho0, hb⟩; have n0_ := Aside0.mk (Kd.R_elder' (by (with_reducible repeat (first | apply Kd.R_alloc | apply Kd.R_drewN | apply Kd.R_drew)); exact HO688.out) (Kd.R_base ho0) hb); have n1_ := Aside0.mk (Kd.R_lower (Kd.R_new' ho0 (Kd.R_lt (by (with_reducible repeat (first | apply Kd.R_alloc | apply Kd.R_drewN | apply Kd.R_drew)); exact HO688.out))) (below_size bq)); have n2_ := Aside0.mk (below_step bq hb); clear HO688; clear HB; have HO688 := n0_; have HO692 := n1_; have HB := n2_; clear n0_ n1_ n2_; (try clear hb); (try clear hb2); (try clear hk); (try clear hi); (try clear ho0); obtain ⟨Ao33, co33, eo33⟩ := Kd.R_slice HO688.out; subst eo33; obtain ⟨Ao34, co34, eo34⟩ := Kd.R_slice HO692.out; subst eo34) | (go_at_call 48; (with_reducible refine (schismaref02_divide.calls kj4 _ _ t686 _ _ t690 t693 t694 _ ?side1 ?side2 ?side3 ?side4 A24.out).mono ?_); (case side1 => repeat (first | exact (Kd.R_reads' HO688.out).2.2 | (with_reducible refine Kd.C_alloc ?_ _) | (with_reducible refine Kd.C_drewN ?_ _) | (with_reducible refine Kd.C_drew ?_))); (case side2 => exact (Kd.R_reads' HO688.out).2.1); (case side3 => repeat (first | exact (Kd.R_reads' HO692.out).2.2 | (with_reducible refine Kd.C_alloc ?_ _) | (with_reducible refine Kd.C_drewN ?_ _) | (with_reducible refine Kd.C_drew ?_))); (case side4 => exact (Kd.R_reads' HO692.out).2.1); rintro e w35 ⟨v695, v697, rfl, ho0, ho1, hb⟩; have n0_ := Aside0.mk (Kd.R_mono (Kd.R_told (Kd.R_told (Kd.R_old (by (with_reducible repeat (first | apply Kd.R_alloc | apply Kd.R_drewN | apply Kd.R_drew)); exact HO688.out) hb) (Kd.R_base ho0)) (Kd.R_base ho1)) (fun _ h_ => h_.1)); have n1_ := Aside0.mk (Kd.R_mono (Kd.R_told (Kd.R_told (Kd.R_old (by (with_reducible repeat (first | apply Kd.R_alloc | apply Kd.R_drewN | apply Kd.R_drew)); exact HO692.out) hb) (Kd.R_base ho0)) (Kd.R_base ho1)) (fun _ h_ => h_.1)); have n2_ := Aside0.mk (Kd.R_lower (Kd.R_new' (Kd.R_new' ho0 (Kd.R_lt (by (with_reducible repeat (first | apply Kd.R_alloc | apply Kd.R_drewN | apply Kd.R_drew)); exact HO688.out))) (Kd.R_lt (by (with_reducible repeat (first | apply Kd.R_alloc | apply Kd.R_drewN | apply Kd.R_drew)); exact HO692.out))) (below_size bq)); have n3_ := Aside0.mk (Kd.R_lower (Kd.R_new' (Kd.R_new' ho1 (Kd.R_lt (by (with_reducible repeat (first | apply Kd.R_alloc | apply Kd.R_drewN | apply Kd.R_drew)); exact HO688.out))) (Kd.R_lt (by (with_reducible repeat (first | apply Kd.R_alloc | apply Kd.R_drewN | apply Kd.R_drew)); exact HO692.out))) (below_size bq)); have n4_ := Aside0.mk (below_step bq hb); clear HO688; clear HO692; clear HB; have HO688 := n0_; have HO692 := n1_; have HO696 := n2_; have HO698 := n3_; have HB := n4_; clear n0_ n1_ n2_ n3_ n4_; (try clear hb); (try clear hb2); (try clear hk); (try clear hi); (try clear ho0); (try clear ho1)) | (go_at_call 35; have t_ := tok5_0; clear t_; (with_reducible refine (schismaref02_side.calls a0 t699 _ A25.out).mono ?_); rintro e w' ⟨rfl, ⟨nd, rfl⟩⟩; (try first | exact ⟨rfl, _, World.drewN_drewN _ _ _⟩ | exact ⟨rfl, _, Eq.trans (World.drewN_drewN _ _ _) (congrArg (World.drewN _) (Nat.add_assoc _ _ _))⟩); clear tok5_0) | (go_at_call 35; (with_reducible refine (schismaref02_side.calls a1 t700 _ A26.out).mono ?_); rintro e w' ⟨rfl, ⟨nd, rfl⟩⟩; (try first | exact ⟨rfl, _, World.drewN_drewN _ _ _⟩ | exact ⟨rfl, _, Eq.trans (World.drewN_drewN _ _ _) (congrArg (World.drewN _) (Nat.add_assoc _ _ _))⟩); obtain ⟨Ao36, co36, eo36⟩ := Kd.R_slice HO696.out; subst eo36) | (go_at_call 36; (first | with_reducible refine (schismaref02_signed.calls (hT := HT.out) kj4 (t699 != t700) (fun k_ => some k_ = (.slice Ao36 t693.length co36 : Value).ownBlock) (.slice Ao36 t693.length co36) t693 t701 w _ ?side1 ?side2 A27.out).mono ?_ | with_reducible refine (schismaref02_signed.calls (hT := HT.out) kj4 (!(t699 == t700)) (fun k_ => some k_ = (.slice Ao36 t693.length co36 : Value).ownBlock) (.slice Ao36 t693.length co36) t693 t701 w _ ?side1 ?side2 A27n.out).mono ?_); (case side1 => exact bq); (case side2 => exact Kd.R_tight rfl HO696.out); rintro e w37 ⟨rfl, hb, hkp⟩; have n0_ := Aside0.mk (Kd.R_mono (ok' := fun k_ => some k_ ≠ (.slice Ao34 t690.length co34 : Value).ownBlock ∧ some k_ ≠ (v697 : Value).ownBlock) (Kd.R_keptB (HO688.out) hkp (fun k_ hk_ hs_ => (hk_.1.2) hs_)) (fun k_ hk_ => ⟨hk_.1.1.1.2, hk_.1.2⟩)); have n1_ := Aside0.mk (Kd.R_mono (ok' := fun k_ => some k_ ≠ (.slice Ao33 t686.length co33 : Value).ownBlock ∧ some k_ ≠ (v697 : Value).ownBlock) (Kd.R_keptB (HO692.out) hkp (fun k_ hk_ hs_ => (hk_.1.2) hs_)) (fun k_ hk_ => ⟨hk_.1.1.1.2, hk_.1.2⟩)); have n2_ := Aside0.mk (Kd.R_mono (ok' := fun k_ => some k_ ≠ (.slice Ao33 t686.length co33 : Value).ownBlock ∧ some k_ ≠ (.slice Ao34 t690.length co34 : Value).ownBlock) (Kd.R_keptB (HO698.out) hkp (fun k_ hk_ hs_ => (hk_.1.1) hs_)) (fun k_ hk_ => ⟨hk_.1.1.2, hk_.1.2⟩)); have n3_ := Aside0.mk (hb); clear HO688; clear HO692; clear HO698; clear HB; clear HO696; have HO688 := n0_; have HO692 := n1_; have HO698 := n2_; have HB := n3_; clear n0_ n1_ n2_ n3_; (try clear hb); (try clear hkp)) | (go_at_call 35; (with_reducible refine (schismaref02_side.calls a0 t699 _ A28.out).mono ?_); rintro e w' ⟨rfl, ⟨nd, rfl⟩⟩; (try first | exact ⟨rfl, _, World.drewN_drewN _ _ _⟩ | exact ⟨rfl, _, Eq.trans (World.drewN_drewN _ _ _) (congrArg (World.drewN _) (Nat.add_assoc _ _ _))⟩); obtain ⟨Ao38, co38, eo38⟩ := Kd.R_slice HO698.out; subst eo38) | (go_at_call 36; (with_reducible refine (schismaref02_signed.calls (hT := HT.out) kj4 (decide (t699 < 0)) (fun k_ => some k_ = (.slice Ao38 t694.length co38 : Value).ownBlock) (.slice Ao38 t694.length co38) t694 t703 w _ ?side1 ?side2 A29.out).mono ?_); (case side1 => exact bq); (case side2 => exact Kd.R_tight rfl HO698.out); rintro e w39 ⟨rfl, hb, hkp⟩; have n0_ := Aside0.mk (Kd.R_mono (ok' := fun k_ => some k_ ≠ (.slice Ao34 t690.length co34 : Value).ownBlock) (Kd.R_keptB (HO688.out) hkp (fun k_ hk_ hs_ => (hk_.2) hs_)) (fun k_ hk_ => hk_.1.1)); have n1_ := Aside0.mk (Kd.R_mono (ok' := fun k_ => some k_ ≠ (.slice Ao33 t686.length co33 : Value).ownBlock) (Kd.R_keptB (HO692.out) hkp (fun k_ hk_ hs_ => (hk_.2) hs_)) (fun k_ hk_ => hk_.1.1)); have n2_ := Aside0.mk (hb); clear HO688; clear HO692; clear HB; clear HO698; have HO688 := n0_; have HO692 := n1_; have HB := n2_; clear n0_ n1_ n2_; (try clear hb); (try clear hkp))))
        (try simp only [Act.put, List.setIfInBounds_toArray, List.set_cons_zero, List.set_cons_succ])
        go_cut [84] (fun v84 wc => ∃ (kq : Nat) (x84_29 : Bool), v84 = .bool x84_29 ∧ Aside0 (schismaref02_DivMod.j2 kq a1 t701 t703 x84_29 = some (r1, r2)) ∧ Aside0 (kq ≤ kj4) ∧ Aside0 (Below w.heap.size w wc))
        case first =>
          have H := HC30.out
          clear HC30
          by_cases c40 : t703.toList = ([48] : List UInt8)
          · rw [if_pos c40] at H
            have c40b0 : (t703.toList == ([48] : List UInt8)) = true := beq_iff_eq.mpr c40
            have c40b1 : (t703.toList != ([48] : List UInt8)) = false := bne_eq_false_iff_eq.mpr c40
            clear c40
            (first | rw [c40b0] | (simp only [i64_w, i32_w]; rw [c40b0]) | skip)
            have H' := Aside0.mk H
            clear H
            go_wp2
            repeat (go_quiet (fail); try go_wp2)
            go_meet
            case rel => exact ⟨_, (false), (by first | rfl | (simp; done) | (simp [*]; done)), H', ⟨by have := HJ4.out; first | omega | exact Nat.le_refl _⟩, ⟨bq⟩⟩
          · rw [if_neg c40] at H
            have c40b0 : (t703.toList == ([48] : List UInt8)) = false := beq_eq_false_iff_ne.mpr c40
            have c40b1 : (t703.toList != ([48] : List UInt8)) = true := bne_iff_ne.mpr c40
            (first | rw [c40b0] | (simp only [i64_w, i32_w]; rw [c40b0]) | skip)
            replace H := Option.bind_eq_some_iff.mp H
            obtain ⟨t704, A410, H⟩ := H
            replace H : ((schismaref02_side.f a1).bind fun t705 => (schismaref02_DivMod.j2 kj4 a1 t701 t703 (t704 != t705))) = some (r1, r2) := H
            have A41 := Aside0.mk A410
            clear A410
            have hq2_ : t699 = t704 := Option.some.inj (A25.out.symm.trans A41.out)
            obtain rfl := hq2_
            replace H := Option.bind_eq_some_iff.mp H
            obtain ⟨t705, A420, H⟩ := H
            replace H : (schismaref02_DivMod.j2 kj4 a1 t701 t703 (t699 != t705)) = some (r1, r2) := H
            have A42 := Aside0.mk A420
            clear A420
            have hq2_ : t700 = t705 := Option.some.inj (A26.out.symm.trans A42.out)
            obtain rfl := hq2_
            have H' := Aside0.mk H
            clear H
            go_wp2_with (first | (go_at_call 35; (with_reducible refine (schismaref02_side.calls a0 t699 _ A41.out).mono ?_); rintro e w' ⟨rfl, ⟨nd, rfl⟩⟩; (try first | exact ⟨rfl, _, World.drewN_drewN _ _ _⟩ | exact ⟨rfl, _, Eq.trans (World.drewN_drewN _ _ _) (congrArg (World.drewN _) (Nat.add_assoc _ _ _))⟩)) | (go_at_call 35; (with_reducible refine (schismaref02_side.calls a1 t700 _ A42.out).mono ?_); rintro e w' ⟨rfl, ⟨nd, rfl⟩⟩; (try first | exact ⟨rfl, _, World.drewN_drewN _ _ _⟩ | exact ⟨rfl, _, Eq.trans (World.drewN_drewN _ _ _) (congrArg (World.drewN _) (Nat.add_assoc _ _ _))⟩)))
            repeat (go_quiet (first | (go_at_call 35; (with_reducible refine (schismaref02_side.calls a0 t699 _ A41.out).mono ?_); rintro e w' ⟨rfl, ⟨nd, rfl⟩⟩; (try first | exact ⟨rfl, _, World.drewN_drewN _ _ _⟩ | exact ⟨rfl, _, Eq.trans (World.drewN_drewN _ _ _) (congrArg (World.drewN _) (Nat.add_assoc _ _ _))⟩)) | (go_at_call 35; (with_reducible refine (schismaref02_side.calls a1 t700 _ A42.out).mono ?_); rintro e w' ⟨rfl, ⟨nd, rfl⟩⟩; (try first | exact ⟨rfl, _, World.drewN_drewN _ _ _⟩ | exact ⟨rfl, _, Eq.trans (World.drewN_drewN _ _ _) (congrArg (World.drewN _) (Nat.add_assoc _ _ _))⟩))); try go_wp2_with (first | (go_at_call 35; (with_reducible refine (schismaref02_side.calls a0 t699 _ A41.out).mono ?_); rintro e w' ⟨rfl, ⟨nd, rfl⟩⟩; (try first | exact ⟨rfl, _, World.drewN_drewN _ _ _⟩ | exact ⟨rfl, _, Eq.trans (World.drewN_drewN _ _ _) (congrArg (World.drewN _) (Nat.add_assoc _ _ _))⟩)) | (go_at_call 35; (with_reducible refine (schismaref02_side.calls a1 t700 _ A42.out).mono ?_); rintro e w' ⟨rfl, ⟨nd, rfl⟩⟩; (try first | exact ⟨rfl, _, World.drewN_drewN _ _ _⟩ | exact ⟨rfl, _, Eq.trans (World.drewN_drewN _ _ _) (congrArg (World.drewN _) (Nat.add_assoc _ _ _))⟩))))
            go_meet
            case rel => exact ⟨_, ((t699 != t700)), (by first | rfl | (simp; done) | (simp [*]; done)), H', ⟨by have := HJ4.out; first | omega | exact Nat.le_refl _⟩, ⟨bq⟩⟩
        case rest =>
          clear HC30
          try clear c1
          try clear p2
          try clear c4
          try clear c6
          try clear p6
          try clear c7
          try clear c8
          try clear c8b0
          try clear c8b1
          try clear c10
          try clear c10b0
          try clear c10b1
          try clear c11
          try clear c18
          try clear c40
          try clear c40b0
          try clear c40b1
          try clear p2
          try clear p6
          obtain ⟨kq, x84_29, rfl, HA, HJ29, HB⟩ := hcut
          cases kq with
          | zero => exact absurd HA.out (by simp [schismaref02_DivMod.j2])
          | succ kj29 =>
            have H := HA.out
            clear HA
            simp only [schismaref02_DivMod.j2] at H
            by_cases c43 : x84_29 = true
            · subst c43
              have H1 : ((schismaref02_Sub.f kj29 t701 (⟨#[49]⟩ : ByteArray)).bind fun t706 => ((schismaref02_Add.f kj29 t703 a1).bind fun t707 => (some (t706, t707)))) = some (r1, r2) := by rw [if_pos rfl] at H; exact H
              clear H
              have H := H1
              clear H1
              replace H := Option.bind_eq_some_iff.mp H
              obtain ⟨t706, A440, H⟩ := H
              replace H : ((schismaref02_Add.f kj29 t703 a1).bind fun t707 => (some (t706, t707))) = some (r1, r2) := H
              have A44 := Aside0.mk A440
              clear A440
              replace H := Option.bind_eq_some_iff.mp H
              obtain ⟨t707, A450, H⟩ := H
              replace H : (some (t706, t707)) = some (r1, r2) := H
              have A45 := Aside0.mk A450
              clear A450
              simp only [Option.some.injEq, Prod.mk.injEq] at H
              obtain ⟨rfl, rfl⟩ := H
              go_wp2_with (first | (go_at_call 15; (with_reducible refine (schismaref02_Sub.calls (hT := HT.out.below bq) kj29 t701 (⟨#[49]⟩ : ByteArray) t706 _ A44.out).mono ?_); rintro e w46 ⟨rfl, hb⟩; replace HB := Aside0.mk (below_step bq hb); (try clear hb); (try clear hb2); (try clear hk); (try clear hi)) | (go_at_call 12; (with_reducible refine (schismaref02_Add.calls (hT := HT.out.below bq) kj29 t703 a1 t707 _ A45.out).mono ?_); rintro e w47 ⟨rfl, hb⟩; replace HB := Aside0.mk (below_step bq hb); (try clear hb); (try clear hb2); (try clear hk); (try clear hi)))
              repeat (go_quiet (first | (go_at_call 15; (with_reducible refine (schismaref02_Sub.calls (hT := HT.out.below bq) kj29 t701 (⟨#[49]⟩ : ByteArray) t706 _ A44.out).mono ?_); rintro e w46 ⟨rfl, hb⟩; replace HB := Aside0.mk (below_step bq hb); (try clear hb); (try clear hb2); (try clear hk); (try clear hi)) | (go_at_call 12; (with_reducible refine (schismaref02_Add.calls (hT := HT.out.below bq) kj29 t703 a1 t707 _ A45.out).mono ?_); rintro e w47 ⟨rfl, hb⟩; replace HB := Aside0.mk (below_step bq hb); (try clear hb); (try clear hb2); (try clear hk); (try clear hi))); try go_wp2_with (first | (go_at_call 15; (with_reducible refine (schismaref02_Sub.calls (hT := HT.out.below bq) kj29 t701 (⟨#[49]⟩ : ByteArray) t706 _ A44.out).mono ?_); rintro e w46 ⟨rfl, hb⟩; replace HB := Aside0.mk (below_step bq hb); (try clear hb); (try clear hb2); (try clear hk); (try clear hi)) | (go_at_call 12; (with_reducible refine (schismaref02_Add.calls (hT := HT.out.below bq) kj29 t703 a1 t707 _ A45.out).mono ?_); rintro e w47 ⟨rfl, hb⟩; replace HB := Aside0.mk (below_step bq hb); (try clear hb); (try clear hb2); (try clear hk); (try clear hi))))
              go_ret2
              exact ⟨eq_, bq⟩
            · replace c43 := Bool.eq_false_iff.mpr c43
              subst c43
              have H1 : (some (t701, t703)) = some (r1, r2) := by rw [if_neg (show ¬ (false = true) by decide)] at H; exact H
              clear H
              have H := H1
              clear H1
              simp only [Option.some.injEq, Prod.mk.injEq] at H
              obtain ⟨rfl, rfl⟩ := H
              go_wp2
              repeat (go_quiet (fail); try go_wp2)
              go_ret2
              exact ⟨eq_, bq⟩
end Go.Proofs.YtgicckcahhlbjaaGreatDoor.P
