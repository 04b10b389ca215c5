/- Functions of the program, as functions of Lean, and the walks that show that the code answers as they do: written by a program. Conditions: those of each theorem. -/
import Derived.Test.YtgicckcahhlbjaaGreatDoorWholeDividesF8
namespace Go.Proofs.YtgicckcahhlbjaaGreatDoor.P
open Go.RowKit Go.Proofs.YtgicckcahhlbjaaGreatDoorW.PrintWords Go.Proofs.YtgicckcahhlbjaaGreatDoorW.PrintLast Go.Proofs.YtgicckcahhlbjaaGreatDoorW.PrintMore
attribute [local go_sem] gtr_text max2_int min2_int max_two min_two max_three min_three max_four min_four
set_option linter.unusedVariables false
set_option linter.unusedSimpArgs false
def schismaref02_minus.l0 : Nat → List Int → List Int → List Int → Int → Int → Option (List Int)
  | 0, _, _, _, _, _ => none
  | k + 1, x0, x1, x5, x6, x7 => if x7 < (x0.length : Int) then (if 0 ≤ x7 then (if x7 < (x1.length : Int) then (if (wrap64 ((wrap64 ((rd x0 x7) - x6)) - (rd x1 x7))) < 0 then (if x5.length < 17592186044416 then (schismaref02_minus.l0 k x0 x1 (x5 ++ [wrap64 ((wrap64 ((wrap64 ((rd x0 x7) - x6)) - (rd x1 x7))) + 1000000000)]) 1 (wrap64 (x7 + 1))) else (none)) else (if x5.length < 17592186044416 then (schismaref02_minus.l0 k x0 x1 (x5 ++ [wrap64 ((wrap64 ((rd x0 x7) - x6)) - (rd x1 x7))]) 0 (wrap64 (x7 + 1))) else (none))) else (if (wrap64 ((rd x0 x7) - x6)) < 0 then (if x5.length < 17592186044416 then (schismaref02_minus.l0 k x0 x1 (x5 ++ [wrap64 ((wrap64 ((rd x0 x7) - x6)) + 1000000000)]) 1 (wrap64 (x7 + 1))) else (none)) else (if x5.length < 17592186044416 then (schismaref02_minus.l0 k x0 x1 (x5 ++ [wrap64 ((rd x0 x7) - x6)]) 0 (wrap64 (x7 + 1))) else (none)))) else (none)) else ((schismaref02_trim.f k x5).bind fun t574 => (some t574))
def schismaref02_minus.f (k : Nat) (l0 : List Int) (l1 : List Int) : Option (List Int) := schismaref02_minus.l0 k l0 l1 ([] : List Int) 0 0
theorem schismaref02_minus.mono_l : ∀ k, (∀ y0 y1 y2 y3 y4, LeO (schismaref02_minus.l0 k y0 y1 y2 y3 y4) (schismaref02_minus.l0 (k + 1) y0 y1 y2 y3 y4))
  | 0 => fun _ _ _ _ _ r h => by simp [schismaref02_minus.l0] at h
  | k + 1 => by
    have ih0 := schismaref02_minus.mono_l k
    · intro y0 y1 y2 y3 y4
      unfold schismaref02_minus.l0
      repeat' first
      | (with_reducible exact ih0 _ _ _ _ _)
      | (with_reducible exact schismaref02_trim.mono _ _)
      | (with_reducible exact LeO.refl _)
      | (with_reducible exact LeO.none _)
      | (with_reducible refine LeO.ite ?_ ?_)
      | (with_reducible refine LeO.bind ?_ (fun _ => ?_))
      | exact ih0 _ _ _ _ _
      | exact schismaref02_trim.mono _ _
      | exact LeO.none _
      | refine LeO.ite ?_ ?_
      | refine LeO.bind ?_ (fun _ => ?_)
theorem schismaref02_minus.mono : ∀ a0 a1 k, LeO (schismaref02_minus.f k a0 a1) (schismaref02_minus.f (k + 1) a0 a1) := by
  intro a0 a1 k
  have ih0 := schismaref02_minus.mono_l k
  unfold schismaref02_minus.f
  repeat' first
      | (with_reducible exact ih0 _ _ _ _ _)
      | (with_reducible exact schismaref02_trim.mono _ _)
      | (with_reducible exact LeO.refl _)
      | (with_reducible exact LeO.none _)
      | (with_reducible refine LeO.ite ?_ ?_)
      | (with_reducible refine LeO.bind ?_ (fun _ => ?_))
      | exact ih0 _ _ _ _ _
      | exact schismaref02_trim.mono _ _
      | exact LeO.none _
      | refine LeO.ite ?_ ?_
      | refine LeO.bind ?_ (fun _ => ?_)
set_option maxHeartbeats 8000000 in
set_option maxRecDepth 100000 in
theorem schismaref02_minus.calls (k : Nat) (A0 : Option Addr) (c0 : Nat) (l0 : List Int) (A1 : Option Addr) (c1 : Nat) (l1 : List Int) (r : List Int) (w : World) (hr0 : Kd.C (Kd.int .i64) w A0 l0.length l0) (hc0 : l0.length ≤ c0) (hr1 : Kd.C (Kd.int .i64) w A1 l1.length l1) (hc1 : l1.length ≤ c1) (h : schismaref02_minus.f k l0 l1 = some r) :
    Calls Tryz.prog 39 #[.slice A0 l0.length c0, .slice A1 l1.length c1] w fun e w' => ∃ v0_ : Value, e = .returned (v0_) ∧ Kd.R (Kd.int .i64) 3 w' w.heap.size (fun _ => True) v0_ r ∧ Below w.heap.size w w' := by
  have HR0 := Aside0.mk hr0
  have HC0 := Aside0.mk hc0
  clear hr0 hc0
  have HR1 := Aside0.mk hr1
  have HC1 := Aside0.mk hc1
  clear hr1 hc1
  have HB := Aside0.mk (Below.refl w.heap.size w)
  have H : (schismaref02_minus.l0 k l0 l1 ([] : List Int) 0 0) = some r := h
  clear h
  have H' := Aside0.mk H
  clear H
  go_enter Tryz.func39, Tryz.ntmps39
  go_wp2
  go_loopg [5, 6, 7] k (fun kq v5 v6 v7 w' => ∃ (x5_1 : List Int) (x6_1 : Int) (x7_1 : Int), v6 = .int .i64 x6_1 ∧ v7 = .int .i64 x7_1 ∧ Aside0 (schismaref02_minus.l0 kq l0 l1 x5_1 x6_1 x7_1 = some r) ∧ Aside0 (kq ≤ k) ∧ Aside0 (Kd.R (Kd.int .i64) 3 w' w.heap.size (fun _ => True) v5 x5_1) ∧ Aside0 (Below w.heap.size w w'))
  case atStart => exact ⟨(([] : List Int)), (0), (0), (by first | rfl | (simp; done) | (simp [*]; done)), (by first | rfl | (simp; done) | (simp [*]; done)), H', ⟨Nat.le_refl _⟩, ⟨by first | exact Kd.R_nil _ _ _ _ _ | exact Kd.N_nil _ _ _ _ _ | exact Kd.V_nil _ _ _ _ _ | exact Kd.Q_nil _ _ _ _ _ | exact Kd.S_nil _ _ _ _ _⟩, ⟨bq⟩⟩
  case round =>
    clear H'
    try clear c1
    try clear p2
    obtain ⟨x5_1, x6_1, x7_1, rfl, rfl, HA, HK1, HO_5, HB⟩ := hrel
    cases gk with
    | zero => exact absurd HA.out (by simp [schismaref02_minus.l0])
    | succ k1 =>
      have H := HA.out
      clear HA
      simp only [schismaref02_minus.l0] at H
      by_cases c3 : x7_1 < (l0.length : Int)
      · rw [if_pos c3] at H
        have c3b0 : decide (x7_1 < (l0.length : Int)) = true := decide_eq_true c3
        clear c3
        by_cases c4 : 0 ≤ x7_1
        · rw [if_pos c4] at H
          have c4b0 : decide (0 ≤ x7_1) = true := decide_eq_true c4
          clear c4
          by_cases c5 : x7_1 < (l1.length : Int)
          · rw [if_pos c5] at H
            have c5b0 : decide (x7_1 < (l1.length : Int)) = true := decide_eq_true c5
            clear c5
            by_cases c6 : (wrap64 ((wrap64 ((rd l0 x7_1) - x6_1)) - (rd l1 x7_1))) < 0
            · rw [if_pos c6] at H
              have c6b0 : decide ((wrap64 ((wrap64 ((rd l0 x7_1) - x6_1)) - (rd l1 x7_1))) < 0) = true := decide_eq_true c6
              clear c6
              by_cases c7 : x5_1.length < 17592186044416
              · rw [if_pos c7] at H
                have LMc7 := Aside0.mk c7
                clear c7
                obtain ⟨y579, hy579⟩ : ∃ y_ : List Int, y_ = (x5_1 ++ [wrap64 ((wrap64 ((wrap64 ((rd l0 x7_1) - x6_1)) - (rd l1 x7_1))) + 1000000000)]) := ⟨_, rfl⟩
                replace H : (schismaref02_minus.l0 k1 l0 l1 y579 1 (wrap64 (x7_1 + 1))) = some r := by first | (rw [hy579]; with_reducible exact H) | (have H2_ := (Option.bind_some _ _).symm.trans H; rw [hy579]; with_reducible exact H2_) | (have H2_ := (Option.bind_some _ _).symm.trans H; with_reducible exact H2_) | with_reducible exact H | (rw [hy579]; exact H) | exact H
                have Ny579 := Aside0.mk hy579
                clear hy579
                have H' := Aside0.mk H
                clear H
                have p577 : 0 ≤ (x7_1 : Int) := of_decide_eq_true (by first | (with_reducible assumption) | assumption)
                have q577 : x7_1 < (l0.length : Int) := of_decide_eq_true (by first | (with_reducible assumption) | assumption)
                obtain ⟨ad577, e577, hx577_0⟩ := Kd.at_int HR0.out x7_1 p577 q577
                cases e577
                replace hx577_0 := (HB.out.cell (World.block_lt_of_cell? w _ hx577_0)).trans hx577_0
                replace p577 := eq_true p577
                replace q577 := eq_true q577
                have p578 : 0 ≤ (x7_1 : Int) := of_decide_eq_true (by first | (with_reducible assumption) | assumption)
                have q578 : x7_1 < (l1.length : Int) := of_decide_eq_true (by first | (with_reducible assumption) | assumption)
                obtain ⟨ad578, e578, hx578_0⟩ := Kd.at_int HR1.out x7_1 p578 q578
                cases e578
                replace hx578_0 := (HB.out.cell (World.block_lt_of_cell? w _ hx578_0)).trans hx578_0
                replace p578 := eq_true p578
                replace q578 := eq_true q578
                go_wp2_with (first | ((with_reducible refine gate_builtin (b := .append) (xs := #[.tmp 35, .tmp 37]) rfl ?_); at_builtin; refine Kd.R_append (Kd.int .i64) (w0 := w) w.heap.size rfl (.tmp 35) (.tmp 37) 55 3 (.int .i64 0) 8 rfl Tryz.underlying55 info3 rfl (by decide) (by omega) u5 x5_1 (wrap64 ((wrap64 ((wrap64 ((rd l0 x7_1) - x6_1)) - (rd l1 x7_1))) + 1000000000)) [.int .i64 (wrap64 ((wrap64 ((wrap64 ((rd l0 x7_1) - x6_1)) - (rd l1 x7_1))) + 1000000000))] (fun _ => True) (fun _ => False) rfl rfl ?aP (fun _ hk => hk.elim) ?aF ?aO ?aB ?aS ?aL ?_; (case aP => exact rfl); (case aB => exact bq); (case aF => exact (fun _ _ => trivial)); (case aO => exact (by (with_reducible repeat (first | apply Kd.R_alloc | apply Kd.R_drewN | apply Kd.R_drew)); exact HO_5.out)); (case aS => exact (below_size bq)); (case aL => have := LMc7.out; omega); intro v580 w8 ho hb hg hat; rw [← Ny579.out] at ho; have n0_ := Aside0.mk (hb); have n1_ := Aside0.mk (ho); clear HB; clear HO_5; have HB := n0_; have HO581 := n1_; clear n0_ n1_; clear ho hb hg hat))
                go_roundg k1
                case measure => have := HK1.out; omega
                case rel => exact ⟨(y579), (1), (wrap64 (x7_1 + 1)), (by first | rfl | (simp; done) | (simp [*]; done)), (by first | rfl | (simp; done) | (simp [*]; done)), H', ⟨by have := HK1.out; omega⟩, ⟨by (with_reducible repeat (first | apply Kd.R_alloc | apply Kd.R_drewN | apply Kd.R_drew)); exact HO581.out⟩, ⟨bq⟩⟩
              · rw [if_neg c7] at H
                exact absurd H (by simp)
            · rw [if_neg c6] at H
              have c6b0 : decide ((wrap64 ((wrap64 ((rd l0 x7_1) - x6_1)) - (rd l1 x7_1))) < 0) = false := decide_eq_false c6
              clear c6
              by_cases c9 : x5_1.length < 17592186044416
              · rw [if_pos c9] at H
                have LMc9 := Aside0.mk c9
                clear c9
                obtain ⟨y582, hy582⟩ : ∃ y_ : List Int, y_ = (x5_1 ++ [wrap64 ((wrap64 ((rd l0 x7_1) - x6_1)) - (rd l1 x7_1))]) := ⟨_, rfl⟩
                replace H : (schismaref02_minus.l0 k1 l0 l1 y582 0 (wrap64 (x7_1 + 1))) = some r := by first | (rw [hy582]; with_reducible exact H) | (have H2_ := (Option.bind_some _ _).symm.trans H; rw [hy582]; with_reducible exact H2_) | (have H2_ := (Option.bind_some _ _).symm.trans H; with_reducible exact H2_) | with_reducible exact H | (rw [hy582]; exact H) | exact H
                have Ny582 := Aside0.mk hy582
                clear hy582
                have H' := Aside0.mk H
                clear H
                have p577 : 0 ≤ (x7_1 : Int) := of_decide_eq_true (by first | (with_reducible assumption) | assumption)
                have q577 : x7_1 < (l0.length : Int) := of_decide_eq_true (by first | (with_reducible assumption) | assumption)
                obtain ⟨ad577, e577, hx577_0⟩ := Kd.at_int HR0.out x7_1 p577 q577
                cases e577
                replace hx577_0 := (HB.out.cell (World.block_lt_of_cell? w _ hx577_0)).trans hx577_0
                replace p577 := eq_true p577
                replace q577 := eq_true q577
                have p578 : 0 ≤ (x7_1 : Int) := of_decide_eq_true (by first | (with_reducible assumption) | assumption)
                have q578 : x7_1 < (l1.length : Int) := of_decide_eq_true (by first | (with_reducible assumption) | assumption)
                obtain ⟨ad578, e578, hx578_0⟩ := Kd.at_int HR1.out x7_1 p578 q578
                cases e578
                replace hx578_0 := (HB.out.cell (World.block_lt_of_cell? w _ hx578_0)).trans hx578_0
                replace p578 := eq_true p578
                replace q578 := eq_true q578
                go_wp2_with (first | ((with_reducible refine gate_builtin (b := .append) (xs := #[.tmp 35, .tmp 37]) rfl ?_); at_builtin; refine Kd.R_append (Kd.int .i64) (w0 := w) w.heap.size rfl (.tmp 35) (.tmp 37) 55 3 (.int .i64 0) 8 rfl Tryz.underlying55 info3 rfl (by decide) (by omega) u5 x5_1 (wrap64 ((wrap64 ((rd l0 x7_1) - x6_1)) - (rd l1 x7_1))) [.int .i64 (wrap64 ((wrap64 ((rd l0 x7_1) - x6_1)) - (rd l1 x7_1)))] (fun _ => True) (fun _ => False) rfl rfl ?aP (fun _ hk => hk.elim) ?aF ?aO ?aB ?aS ?aL ?_; (case aP => exact rfl); (case aB => exact bq); (case aF => exact (fun _ _ => trivial)); (case aO => exact (by (with_reducible repeat (first | apply Kd.R_alloc | apply Kd.R_drewN | apply Kd.R_drew)); exact HO_5.out)); (case aS => exact (below_size bq)); (case aL => have := LMc9.out; omega); intro v583 w10 ho hb hg hat; rw [← Ny582.out] at ho; have n0_ := Aside0.mk (hb); have n1_ := Aside0.mk (ho); clear HB; clear HO_5; have HB := n0_; have HO584 := n1_; clear n0_ n1_; clear ho hb hg hat))
                go_roundg k1
                case measure => have := HK1.out; omega
                case rel => exact ⟨(y582), (0), (wrap64 (x7_1 + 1)), (by first | rfl | (simp; done) | (simp [*]; done)), (by first | rfl | (simp; done) | (simp [*]; done)), H', ⟨by have := HK1.out; omega⟩, ⟨by (with_reducible repeat (first | apply Kd.R_alloc | apply Kd.R_drewN | apply Kd.R_drew)); exact HO584.out⟩, ⟨bq⟩⟩
              · rw [if_neg c9] at H
                exact absurd H (by simp)
          · rw [if_neg c5] at H
            have c5b0 : decide (x7_1 < (l1.length : Int)) = false := decide_eq_false c5
            clear c5
            by_cases c11 : (wrap64 ((rd l0 x7_1) - x6_1)) < 0
            · rw [if_pos c11] at H
              have c11b0 : decide ((wrap64 ((rd l0 x7_1) - x6_1)) < 0) = true := decide_eq_true c11
              clear c11
              by_cases c12 : x5_1.length < 17592186044416
              · rw [if_pos c12] at H
                have LMc12 := Aside0.mk c12
                clear c12
                obtain ⟨y585, hy585⟩ : ∃ y_ : List Int, y_ = (x5_1 ++ [wrap64 ((wrap64 ((rd l0 x7_1) - x6_1)) + 1000000000)]) := ⟨_, rfl⟩
                replace H : (schismaref02_minus.l0 k1 l0 l1 y585 1 (wrap64 (x7_1 + 1))) = some r := by first | (rw [hy585]; with_reducible exact H) | (have H2_ := (Option.bind_some _ _).symm.trans H; rw [hy585]; with_reducible exact H2_) | (have H2_ := (Option.bind_some _ _).symm.trans H; with_reducible exact H2_) | with_reducible exact H | (rw [hy585]; exact H) | exact H
                have Ny585 := Aside0.mk hy585
                clear hy585
                have H' := Aside0.mk H
                clear H
                have p577 : 0 ≤ (x7_1 : Int) := of_decide_eq_true (by first | (with_reducible assumption) | assumption)
                have q577 : x7_1 < (l0.length : Int) := of_decide_eq_true (by first | (with_reducible assumption) | assumption)
                obtain ⟨ad577, e577, hx577_0⟩ := Kd.at_int HR0.out x7_1 p577 q577
                cases e577
                replace hx577_0 := (HB.out.cell (World.block_lt_of_cell? w _ hx577_0)).trans hx577_0
                replace p577 := eq_true p577
                replace q577 := eq_true q577
                go_wp2_with (first | ((with_reducible refine gate_builtin (b := .append) (xs := #[.tmp 35, .tmp 37]) rfl ?_); at_builtin; refine Kd.R_append (Kd.int .i64) (w0 := w) w.heap.size rfl (.tmp 35) (.tmp 37) 55 3 (.int .i64 0) 8 rfl Tryz.underlying55 info3 rfl (by decide) (by omega) u5 x5_1 (wrap64 ((wrap64 ((rd l0 x7_1) - x6_1)) + 1000000000)) [.int .i64 (wrap64 ((wrap64 ((rd l0 x7_1) - x6_1)) + 1000000000))] (fun _ => True) (fun _ => False) rfl rfl ?aP (fun _ hk => hk.elim) ?aF ?aO ?aB ?aS ?aL ?_; (case aP => exact rfl); (case aB => exact bq); (case aF => exact (fun _ _ => trivial)); (case aO => exact (by (with_reducible repeat (first | apply Kd.R_alloc | apply Kd.R_drewN | apply Kd.R_drew)); exact HO_5.out)); (case aS => exact (below_size bq)); (case aL => have := LMc12.out; omega); intro v586 w13 ho hb hg hat; rw [← Ny585.out] at ho; have n0_ := Aside0.mk (hb); have n1_ := Aside0.mk (ho); clear HB; clear HO_5; have HB := n0_; have HO587 := n1_; clear n0_ n1_; clear ho hb hg hat))
                go_roundg k1
                case measure => have := HK1.out; omega
                case rel => exact ⟨(y585), (1), (wrap64 (x7_1 + 1)), (by first | rfl | (simp; done) | (simp [*]; done)), (by first | rfl | (simp; done) | (simp [*]; done)), H', ⟨by have := HK1.out; omega⟩, ⟨by (with_reducible repeat (first | apply Kd.R_alloc | apply Kd.R_drewN | apply Kd.R_drew)); exact HO587.out⟩, ⟨bq⟩⟩
              · rw [if_neg c12] at H
                exact absurd H (by simp)
            · rw [if_neg c11] at H
              have c11b0 : decide ((wrap64 ((rd l0 x7_1) - x6_1)) < 0) = false := decide_eq_false c11
              clear c11
              by_cases c14 : x5_1.length < 17592186044416
              · rw [if_pos c14] at H
                have LMc14 := Aside0.mk c14
                clear c14
                obtain ⟨y588, hy588⟩ : ∃ y_ : List Int, y_ = (x5_1 ++ [wrap64 ((rd l0 x7_1) - x6_1)]) := ⟨_, rfl⟩
                replace H : (schismaref02_minus.l0 k1 l0 l1 y588 0 (wrap64 (x7_1 + 1))) = some r := by first | (rw [hy588]; with_reducible exact H) | (have H2_ := (Option.bind_some _ _).symm.trans H; rw [hy588]; with_reducible exact H2_) | (have H2_ := (Option.bind_some _ _).symm.trans H; with_reducible exact H2_) | with_reducible exact H | (rw [hy588]; exact H) | exact H
                have Ny588 := Aside0.mk hy588
                clear hy588
                have H' := Aside0.mk H
                clear H
                have p577 : 0 ≤ (x7_1 : Int) := of_decide_eq_true (by first | (with_reducible assumption) | assumption)
                have q577 : x7_1 < (l0.length : Int) := of_decide_eq_true (by first | (with_reducible assumption) | assumption)
                obtain ⟨ad577, e577, hx577_0⟩ := Kd.at_int HR0.out x7_1 p577 q577
                cases e577
                replace hx577_0 := (HB.out.cell (World.block_lt_of_cell? w _ hx577_0)).trans hx577_0
                replace p577 := eq_true p577
                replace q577 := eq_true q577
                go_wp2_with (first | ((with_reducible refine gate_builtin (b := .append) (xs := #[.tmp 35, .tmp 37]) rfl ?_); at_builtin; refine Kd.R_append (Kd.int .i64) (w0 := w) w.heap.size rfl (.tmp 35) (.tmp 37) 55 3 (.int .i64 0) 8 rfl Tryz.underlying55 info3 rfl (by decide) (by omega) u5 x5_1 (wrap64 ((rd l0 x7_1) - x6_1)) [.int .i64 (wrap64 ((rd l0 x7_1) - x6_1))] (fun _ => True) (fun _ => False) rfl rfl ?aP (fun _ hk => hk.elim) ?aF ?aO ?aB ?aS ?aL ?_; (case aP => exact rfl); (case aB => exact bq); (case aF => exact (fun _ _ => trivial)); (case aO => exact (by (with_reducible repeat (first | apply Kd.R_alloc | apply Kd.R_drewN | apply Kd.R_drew)); exact HO_5.out)); (case aS => exact (below_size bq)); (case aL => have := LMc14.out; omega); intro v589 w15 ho hb hg hat; rw [← Ny588.out] at ho; have n0_ := Aside0.mk (hb); have n1_ := Aside0.mk (ho); clear HB; clear HO_5; have HB := n0_; have HO590 := n1_; clear n0_ n1_; clear ho hb hg hat))
                go_roundg k1
                case measure => have := HK1.out; omega
                case rel => exact ⟨(y588), (0), (wrap64 (x7_1 + 1)), (by first | rfl | (simp; done) | (simp [*]; done)), (by first | rfl | (simp; done) | (simp [*]; done)), H', ⟨by have := HK1.out; omega⟩, ⟨by (with_reducible repeat (first | apply Kd.R_alloc | apply Kd.R_drewN | apply Kd.R_drew)); exact HO590.out⟩, ⟨bq⟩⟩
              · rw [if_neg c14] at H
                exact absurd H (by simp)
        · rw [if_neg c4] at H
          exact absurd H (by simp)
      · rw [if_neg c3] at H
        have c3b0 : decide (x7_1 < (l0.length : Int)) = false := decide_eq_false c3
        clear c3
        replace H := Option.bind_eq_some_iff.mp H
        obtain ⟨t574, A160, H⟩ := H
        replace H : (some t574) = some r := H
        have A16 := Aside0.mk A160
        clear A160
        obtain rfl := Option.some.inj H
        obtain ⟨Ao17, co17, eo17⟩ := Kd.R_slice HO_5.out
        subst eo17
        go_wp2_with (first | ((with_reducible refine gate_callee (f := 65) rfl ?_); refine goesL_ (some 40) rfl rfl Tryz.func65 (by kernel_rfl) rfl #[.slice Ao17 x5_1.length co17] rfl mq ?_; (with_reducible refine (schismaref02_trim.calls k1 (fun k_ => some k_ = (.slice Ao17 x5_1.length co17 : Value).ownBlock) (.slice Ao17 x5_1.length co17) x5_1 t574 w _ ?side1 ?side2 A16.out).mono ?_); (case side1 => exact bq); (case side2 => exact Kd.R_tight rfl HO_5.out); rintro e w18 ⟨v575, rfl, ho0, hb, hkp⟩; refine ⟨_, rfl, ?_⟩; have n0_ := Aside0.mk (Kd.R_mono (ok' := fun k_ => True) ho0 (fun k_ hk_ => trivial)); have n1_ := Aside0.mk (hb); clear HB; clear HO_5; have HO576 := n0_; have HB := n1_; clear n0_ n1_; (try clear hb); (try clear hkp); (try clear ho0)))
        go_ret
        exact ⟨_, eq_, by (with_reducible repeat (first | apply Kd.R_alloc | apply Kd.R_drewN | apply Kd.R_drew)); exact HO576.out, bq⟩
def schismaref02_Add.j0 : Nat → ByteArray → ByteArray → Int → Int → Bool → Option (ByteArray)
  | 0, _, _, _, _, _ => none
  | k + 1, x0, x1, x5, x7, x24 => if x24 = true then ((schismaref02_Of.f (wrap64 (x5 + x7))).bind fun t595 => (some t595)) else ((schismaref02_digits.f x0).bind fun t596 => ((schismaref02_split.f k t596).bind fun t597 => ((schismaref02_digits.f x1).bind fun t600 => ((schismaref02_split.f k t600).bind fun t601 => ((schismaref02_side.f x0).bind fun t604 => ((schismaref02_side.f x1).bind fun t605 => (if t604 = t605 then ((schismaref02_side.f x0).bind fun t606 => ((schismaref02_plus.f k t597 t601).bind fun t607 => ((schismaref02_signed.f k (decide (t606 < 0)) t607).bind fun t610 => (some t610)))) else ((schismaref02_order.f k t597 t601).bind fun t611 => (if t611 ≥ 0 then ((schismaref02_side.f x0).bind fun t612 => ((schismaref02_minus.f k t597 t601).bind fun t613 => ((schismaref02_signed.f k (decide (t612 < 0)) t613).bind fun t616 => (some t616)))) else ((schismaref02_side.f x1).bind fun t617 => ((schismaref02_minus.f k t601 t597).bind fun t618 => ((schismaref02_signed.f k (decide (t617 < 0)) t618).bind fun t621 => (some t621)))))))))))))
def schismaref02_Add.f (k : Nat) (a0 : ByteArray) (a1 : ByteArray) : Option (ByteArray) := (schismaref02_quick.f k a0).bind fun bt591 => ((schismaref02_quick.f k a1).bind fun bt593 => (if bt591.2 = true then (schismaref02_Add.j0 k a0 a1 bt591.1 bt593.1 bt593.2) else (schismaref02_Add.j0 k a0 a1 bt591.1 bt593.1 false)))
theorem schismaref02_Add.mono_l : ∀ k, (∀ y0 y1 y2 y3 y4, LeO (schismaref02_Add.j0 k y0 y1 y2 y3 y4) (schismaref02_Add.j0 (k + 1) y0 y1 y2 y3 y4))
  | 0 => fun _ _ _ _ _ r h => by simp [schismaref02_Add.j0] at h
  | k + 1 => by
    have ih0 := schismaref02_Add.mono_l k
    · intro y0 y1 y2 y3 y4
      unfold schismaref02_Add.j0
      repeat' first
      | (with_reducible exact ih0 _ _ _ _ _)
      | (with_reducible exact schismaref02_minus.mono _ _ _)
      | (with_reducible exact schismaref02_order.mono _ _ _)
      | (with_reducible exact schismaref02_plus.mono _ _ _)
      | (with_reducible exact schismaref02_quick.mono _ _)
      | (with_reducible exact schismaref02_signed.mono _ _ _)
      | (with_reducible exact schismaref02_split.mono _ _)
      | (with_reducible exact LeO.refl _)
      | (with_reducible exact LeO.none _)
      | (with_reducible refine LeO.ite ?_ ?_)
      | (with_reducible refine LeO.bind ?_ (fun _ => ?_))
      | exact ih0 _ _ _ _ _
      | exact schismaref02_minus.mono _ _ _
      | exact schismaref02_order.mono _ _ _
      | exact schismaref02_plus.mono _ _ _
      | exact schismaref02_quick.mono _ _
      | exact schismaref02_signed.mono _ _ _
      | exact schismaref02_split.mono _ _
      | exact LeO.none _
      | refine LeO.ite ?_ ?_
      | refine LeO.bind ?_ (fun _ => ?_)
theorem schismaref02_Add.mono : ∀ a0 a1 k, LeO (schismaref02_Add.f k a0 a1) (schismaref02_Add.f (k + 1) a0 a1) := by
  intro a0 a1 k
  have ih0 := schismaref02_Add.mono_l k
  unfold schismaref02_Add.f
  repeat' first
      | (with_reducible exact ih0 _ _ _ _ _)
      | (with_reducible exact schismaref02_minus.mono _ _ _)
      | (with_reducible exact schismaref02_order.mono _ _ _)
      | (with_reducible exact schismaref02_plus.mono _ _ _)
      | (with_reducible exact schismaref02_quick.mono _ _)
      | (with_reducible exact schismaref02_signed.mono _ _ _)
      | (with_reducible exact schismaref02_split.mono _ _)
      | (with_reducible exact LeO.refl _)
      | (with_reducible exact LeO.none _)
      | (with_reducible refine LeO.ite ?_ ?_)
      | (with_reducible refine LeO.bind ?_ (fun _ => ?_))
      | exact ih0 _ _ _ _ _
      | exact schismaref02_minus.mono _ _ _
      | exact schismaref02_order.mono _ _ _
      | exact schismaref02_plus.mono _ _ _
      | exact schismaref02_quick.mono _ _
      | exact schismaref02_signed.mono _ _ _
      | exact schismaref02_split.mono _ _
      | exact LeO.none _
      | refine LeO.ite ?_ ?_
      | refine LeO.bind ?_ (fun _ => ?_)
set_option maxHeartbeats 8000000 in
set_option maxRecDepth 100000 in
theorem schismaref02_Add.calls (k : Nat) (a0 : ByteArray) (a1 : ByteArray) (r : ByteArray) (w : World) (hT : Tab w) (h : schismaref02_Add.f k a0 a1 = some r) :
    Calls Tryz.prog 12 #[.string a0, .string a1] w fun e w' => e = .returned (.string r) ∧ Below w.heap.size w w' := by
  have HT := Aside0.mk hT
  clear hT
  have HB := Aside0.mk (Below.refl w.heap.size w)
  have H : ((schismaref02_quick.f k a0).bind fun bt591 => ((schismaref02_quick.f k a1).bind fun bt593 => (if bt591.2 = true then (schismaref02_Add.j0 k a0 a1 bt591.1 bt593.1 bt593.2) else (schismaref02_Add.j0 k a0 a1 bt591.1 bt593.1 false)))) = some r := h
  clear h
  replace H := Option.bind_eq_some_iff.mp H
  obtain ⟨⟨t591, t592⟩, A30, H⟩ := H
  replace H : ((schismaref02_quick.f k a1).bind fun bt593 => (if t592 = true then (schismaref02_Add.j0 k a0 a1 t591 bt593.1 bt593.2) else (schismaref02_Add.j0 k a0 a1 t591 bt593.1 false))) = some r := H
  have A3 := Aside0.mk A30
  clear A30
  replace H := Option.bind_eq_some_iff.mp H
  obtain ⟨⟨t593, t594⟩, A40, H⟩ := H
  replace H : (if t592 = true then (schismaref02_Add.j0 k a0 a1 t591 t593 t594) else (schismaref02_Add.j0 k a0 a1 t591 t593 false)) = some r := H
  have A4 := Aside0.mk A40
  clear A40
  have HC5 := Aside0.mk H
  clear H
  go_enter Tryz.func12, Tryz.ntmps12
  go_upto_region 3 with (first | ((with_reducible refine gate_callee (f := 32) rfl ?_); refine goesL_ (some 13) rfl rfl Tryz.func32 (by kernel_rfl) rfl #[.string a0] rfl mq ?_; (with_reducible refine (schismaref02_quick.calls k a0 t591 t592 _ A3.out).mono ?_); rintro e w' ⟨rfl, ⟨nd, rfl⟩⟩; refine ⟨_, rfl, ?_⟩) | ((with_reducible refine gate_callee (f := 32) rfl ?_); refine goesL_ (some 18) rfl rfl Tryz.func32 (by kernel_rfl) rfl #[.string a1] rfl mq ?_; (with_reducible refine (schismaref02_quick.calls k a1 t593 t594 _ A4.out).mono ?_); rintro e w' ⟨rfl, ⟨nd, rfl⟩⟩; refine ⟨_, rfl, ?_⟩))
  (try simp only [Act.put, List.setIfInBounds_toArray, List.set_cons_zero, List.set_cons_succ])
  go_cut [24] (fun v24 wc => ∃ (kq : Nat) (x24_4 : Bool), v24 = .bool x24_4 ∧ Aside0 (schismaref02_Add.j0 kq a0 a1 t591 t593 x24_4 = some r) ∧ Aside0 (kq ≤ k) ∧ Aside0 (Below w.heap.size w wc))
  case first =>
    have H := HC5.out
    clear HC5
    by_cases c6 : t592 = true
    · subst c6
      have H1 : (schismaref02_Add.j0 k a0 a1 t591 t593 t594) = some r := by rw [if_pos rfl] at H; exact H
      clear H
      have H := H1
      clear H1
      have H' := Aside0.mk H
      clear H
      go_wp2
      go_meet
      case rel => exact ⟨_, (t594), (by first | rfl | (simp; done) | (simp [*]; done)), H', ⟨by first | omega | exact Nat.le_refl _⟩, ⟨bq⟩⟩
    · replace c6 := Bool.eq_false_iff.mpr c6
      subst c6
      have H1 : (schismaref02_Add.j0 k a0 a1 t591 t593 false) = some r := by rw [if_neg (show ¬ (false = true) by decide)] at H; exact H
      clear H
      have H := H1
      clear H1
      have H' := Aside0.mk H
      clear H
      go_wp2
      go_meet
      case rel => exact ⟨_, (false), (by first | rfl | (simp; done) | (simp [*]; done)), H', ⟨by first | omega | exact Nat.le_refl _⟩, ⟨bq⟩⟩
  case rest =>
    clear HC5
    try clear c1
    try clear p2
    try clear c3
    try clear c6
    obtain ⟨kq, x24_4, rfl, HA, HJ4, HB⟩ := hcut
    cases kq with
    | zero => exact absurd HA.out (by simp [schismaref02_Add.j0])
    | succ kj4 =>
      have H := HA.out
      clear HA
      simp only [schismaref02_Add.j0] at H
      by_cases c7 : x24_4 = true
      · subst c7
        have H1 : ((schismaref02_Of.f (wrap64 (t591 + t593))).bind fun t595 => (some t595)) = some r := by rw [if_pos rfl] at H; exact H
        clear H
        have H := H1
        clear H1
        replace H := Option.bind_eq_some_iff.mp H
        obtain ⟨t595, A80, H⟩ := H
        replace H : (some t595) = some r := H
        have A8 := Aside0.mk A80
        clear A80
        obtain rfl := Option.some.inj H
        go_wp2_with (first | ((with_reducible refine gate_callee (f := 33) rfl ?_); refine goesL_ (some 28) rfl rfl Tryz.func33 (by kernel_rfl) rfl #[.int .i64 (wrap64 (t591 + t593))] rfl mq ?_; (with_reducible refine (schismaref02_Of.calls (hT := HT.out.below bq) (wrap64 (t591 + t593)) t595 _ A8.out).mono ?_); rintro e w9 ⟨rfl, hb⟩; refine ⟨_, rfl, ?_⟩; replace HB := Aside0.mk (below_step bq hb); (try clear hb); (try clear hb2); (try clear hk); (try clear hi)))
        go_ret
        exact ⟨eq_, bq⟩
      · replace c7 := Bool.eq_false_iff.mpr c7
        subst c7
        have H1 : ((schismaref02_digits.f a0).bind fun t596 => ((schismaref02_split.f kj4 t596).bind fun t597 => ((schismaref02_digits.f a1).bind fun t600 => ((schismaref02_split.f kj4 t600).bind fun t601 => ((schismaref02_side.f a0).bind fun t604 => ((schismaref02_side.f a1).bind fun t605 => (if t604 = t605 then ((schismaref02_side.f a0).bind fun t606 => ((schismaref02_plus.f kj4 t597 t601).bind fun t607 => ((schismaref02_signed.f kj4 (decide (t606 < 0)) t607).bind fun t610 => (some t610)))) else ((schismaref02_order.f kj4 t597 t601).bind fun t611 => (if t611 ≥ 0 then ((schismaref02_side.f a0).bind fun t612 => ((schismaref02_minus.f kj4 t597 t601).bind fun t613 => ((schismaref02_signed.f kj4 (decide (t612 < 0)) t613).bind fun t616 => (some t616)))) else ((schismaref02_side.f a1).bind fun t617 => ((schismaref02_minus.f kj4 t601 t597).bind fun t618 => ((schismaref02_signed.f kj4 (decide (t617 < 0)) t618).bind fun t621 => (some t621))))))))))))) = some r := by rw [if_neg (show ¬ (false = true) by decide)] at H; exact H
        clear H
        have H := H1
        clear H1
        replace H := Option.bind_eq_some_iff.mp H
        obtain ⟨t596, A100, H⟩ := H
        replace H : ((schismaref02_split.f kj4 t596).bind fun t597 => ((schismaref02_digits.f a1).bind fun t600 => ((schismaref02_split.f kj4 t600).bind fun t601 => ((schismaref02_side.f a0).bind fun t604 => ((schismaref02_side.f a1).bind fun t605 => (if t604 = t605 then ((schismaref02_side.f a0).bind fun t606 => ((schismaref02_plus.f kj4 t597 t601).bind fun t607 => ((schismaref02_signed.f kj4 (decide (t606 < 0)) t607).bind fun t610 => (some t610)))) else ((schismaref02_order.f kj4 t597 t601).bind fun t611 => (if t611 ≥ 0 then ((schismaref02_side.f a0).bind fun t612 => ((schismaref02_minus.f kj4 t597 t601).bind fun t613 => ((schismaref02_signed.f kj4 (decide (t612 < 0)) t613).bind fun t616 => (some t616)))) else ((schismaref02_side.f a1).bind fun t617 => ((schismaref02_minus.f kj4 t601 t597).bind fun t618 => ((schismaref02_signed.f kj4 (decide (t617 < 0)) t618).bind fun t621 => (some t621)))))))))))) = some r := H
        have A10 := Aside0.mk A100
        clear A100
        replace H := Option.bind_eq_some_iff.mp H
        obtain ⟨t597, A110, H⟩ := H
        replace H : ((schismaref02_digits.f a1).bind fun t600 => ((schismaref02_split.f kj4 t600).bind fun t601 => ((schismaref02_side.f a0).bind fun t604 => ((schismaref02_side.f a1).bind fun t605 => (if t604 = t605 then ((schismaref02_side.f a0).bind fun t606 => ((schismaref02_plus.f kj4 t597 t601).bind fun t607 => ((schismaref02_signed.f kj4 (decide (t606 < 0)) t607).bind fun t610 => (some t610)))) else ((schismaref02_order.f kj4 t597 t601).bind fun t611 => (if t611 ≥ 0 then ((schismaref02_side.f a0).bind fun t612 => ((schismaref02_minus.f kj4 t597 t601).bind fun t613 => ((schismaref02_signed.f kj4 (decide (t612 < 0)) t613).bind fun t616 => (some t616)))) else ((schismaref02_side.f a1).bind fun t617 => ((schismaref02_minus.f kj4 t601 t597).bind fun t618 => ((schismaref02_signed.f kj4 (decide (t617 < 0)) t618).bind fun t621 => (some t621))))))))))) = some r := H
        have A11 := Aside0.mk A110
        clear A110
        replace H := Option.bind_eq_some_iff.mp H
        obtain ⟨t600, A120, H⟩ := H
        replace H : ((schismaref02_split.f kj4 t600).bind fun t601 => ((schismaref02_side.f a0).bind fun t604 => ((schismaref02_side.f a1).bind fun t605 => (if t604 = t605 then ((schismaref02_side.f a0).bind fun t606 => ((schismaref02_plus.f kj4 t597 t601).bind fun t607 => ((schismaref02_signed.f kj4 (decide (t606 < 0)) t607).bind fun t610 => (some t610)))) else ((schismaref02_order.f kj4 t597 t601).bind fun t611 => (if t611 ≥ 0 then ((schismaref02_side.f a0).bind fun t612 => ((schismaref02_minus.f kj4 t597 t601).bind fun t613 => ((schismaref02_signed.f kj4 (decide (t612 < 0)) t613).bind fun t616 => (some t616)))) else ((schismaref02_side.f a1).bind fun t617 => ((schismaref02_minus.f kj4 t601 t597).bind fun t618 => ((schismaref02_signed.f kj4 (decide (t617 < 0)) t618).bind fun t621 => (some t621)))))))))) = some r := H
        have A12 := Aside0.mk A120
        clear A120
        replace H := Option.bind_eq_some_iff.mp H
        obtain ⟨t601, A130, H⟩ := H
        replace H : ((schismaref02_side.f a0).bind fun t604 => ((schismaref02_side.f a1).bind fun t605 => (if t604 = t605 then ((schismaref02_side.f a0).bind fun t606 => ((schismaref02_plus.f kj4 t597 t601).bind fun t607 => ((schismaref02_signed.f kj4 (decide (t606 < 0)) t607).bind fun t610 => (some t610)))) else ((schismaref02_order.f kj4 t597 t601).bind fun t611 => (if t611 ≥ 0 then ((schismaref02_side.f a0).bind fun t612 => ((schismaref02_minus.f kj4 t597 t601).bind fun t613 => ((schismaref02_signed.f kj4 (decide (t612 < 0)) t613).bind fun t616 => (some t616)))) else ((schismaref02_side.f a1).bind fun t617 => ((schismaref02_minus.f kj4 t601 t597).bind fun t618 => ((schismaref02_signed.f kj4 (decide (t617 < 0)) t618).bind fun t621 => (some t621))))))))) = some r := H
        have A13 := Aside0.mk A130
        clear A130
        replace H := Option.bind_eq_some_iff.mp H
        obtain ⟨t604, A140, H⟩ := H
        replace H : ((schismaref02_side.f a1).bind fun t605 => (if t604 = t605 then ((schismaref02_side.f a0).bind fun t606 => ((schismaref02_plus.f kj4 t597 t601).bind fun t607 => ((schismaref02_signed.f kj4 (decide (t606 < 0)) t607).bind fun t610 => (some t610)))) else ((schismaref02_order.f kj4 t597 t601).bind fun t611 => (if t611 ≥ 0 then ((schismaref02_side.f a0).bind fun t612 => ((schismaref02_minus.f kj4 t597 t601).bind fun t613 => ((schismaref02_signed.f kj4 (decide (t612 < 0)) t613).bind fun t616 => (some t616)))) else ((schismaref02_side.f a1).bind fun t617 => ((schismaref02_minus.f kj4 t601 t597).bind fun t618 => ((schismaref02_signed.f kj4 (decide (t617 < 0)) t618).bind fun t621 => (some t621)))))))) = some r := H
        have A14 := Aside0.mk A140
        clear A140
        replace H := Option.bind_eq_some_iff.mp H
        obtain ⟨t605, A150, H⟩ := H
        replace H : (if t604 = t605 then ((schismaref02_side.f a0).bind fun t606 => ((schismaref02_plus.f kj4 t597 t601).bind fun t607 => ((schismaref02_signed.f kj4 (decide (t606 < 0)) t607).bind fun t610 => (some t610)))) else ((schismaref02_order.f kj4 t597 t601).bind fun t611 => (if t611 ≥ 0 then ((schismaref02_side.f a0).bind fun t612 => ((schismaref02_minus.f kj4 t597 t601).bind fun t613 => ((schismaref02_signed.f kj4 (decide (t612 < 0)) t613).bind fun t616 => (some t616)))) else ((schismaref02_side.f a1).bind fun t617 => ((schismaref02_minus.f kj4 t601 t597).bind fun t618 => ((schismaref02_signed.f kj4 (decide (t617 < 0)) t618).bind fun t621 => (some t621))))))) = some r := H
        have A15 := Aside0.mk A150
        clear A150
        by_cases c16 : t604 = t605
        · rw [if_pos c16] at H
          have c16b0 : (t604 == t605) = true := beq_iff_eq.mpr c16
          have c16b1 : (t604 != t605) = false := bne_eq_false_iff_eq.mpr c16
          clear c16
          replace H := Option.bind_eq_some_iff.mp H
          obtain ⟨t606, A170, H⟩ := H
          replace H : ((schismaref02_plus.f kj4 t597 t601).bind fun t607 => ((schismaref02_signed.f kj4 (decide (t606 < 0)) t607).bind fun t610 => (some t610))) = some r := H
          have A17 := Aside0.mk A170
          clear A170
          have hq2_ : t604 = t606 := Option.some.inj (A14.out.symm.trans A17.out)
          obtain rfl := hq2_
          replace H := Option.bind_eq_some_iff.mp H
          obtain ⟨t607, A180, H⟩ := H
          replace H : ((schismaref02_signed.f kj4 (decide (t604 < 0)) t607).bind fun t610 => (some t610)) = some r := H
          have A18 := Aside0.mk A180
          clear A180
          replace H := Option.bind_eq_some_iff.mp H
          obtain ⟨t610, A190, H⟩ := H
          replace H : (some t610) = some r := H
          have A19 := Aside0.mk A190
          clear A190
          obtain rfl := Option.some.inj H
          go_wp2_with (first | ((with_reducible refine gate_callee (f := 31) rfl ?_); refine goesL_ (some 30) rfl rfl Tryz.func31 (by kernel_rfl) rfl #[.string a0] rfl mq ?_; (with_reducible refine (schismaref02_digits.calls a0 t596 _ A10.out).mono ?_); rintro e w' ⟨rfl, ⟨nd, rfl⟩⟩; refine ⟨_, rfl, ?_⟩) | ((with_reducible refine gate_callee (f := 34) rfl ?_); refine goesL_ (some 31) rfl rfl Tryz.func34 (by kernel_rfl) rfl #[.string t596] rfl mq ?_; (with_reducible refine (schismaref02_split.calls kj4 t596 t597 _ A11.out).mono ?_); rintro e w20 ⟨v598, rfl, ho0, hb⟩; refine ⟨_, rfl, ?_⟩; have n0_ := Aside0.mk (Kd.R_lower ho0 (below_size bq)); have n1_ := Aside0.mk (below_step bq hb); clear HB; have HO599 := n0_; have HB := n1_; clear n0_ n1_; (try clear hb); (try clear hb2); (try clear hk); (try clear hi); (try clear ho0)) | ((with_reducible refine gate_callee (f := 31) rfl ?_); refine goesL_ (some 33) rfl rfl Tryz.func31 (by kernel_rfl) rfl #[.string a1] rfl mq ?_; (with_reducible refine (schismaref02_digits.calls a1 t600 _ A12.out).mono ?_); rintro e w' ⟨rfl, ⟨nd, rfl⟩⟩; refine ⟨_, rfl, ?_⟩) | ((with_reducible refine gate_callee (f := 34) rfl ?_); refine goesL_ (some 34) rfl rfl Tryz.func34 (by kernel_rfl) rfl #[.string t600] rfl mq ?_; (with_reducible refine (schismaref02_split.calls kj4 t600 t601 _ A13.out).mono ?_); rintro e w21 ⟨v602, rfl, ho0, hb⟩; refine ⟨_, rfl, ?_⟩; have n0_ := Aside0.mk (Kd.R_elder' (by (with_reducible repeat (first | apply Kd.R_alloc | apply Kd.R_drewN | apply Kd.R_drew)); exact HO599.out) (Kd.R_base ho0) hb); have n1_ := Aside0.mk (Kd.R_lower (Kd.R_new' ho0 (Kd.R_lt (by (with_reducible repeat (first | apply Kd.R_alloc | apply Kd.R_drewN | apply Kd.R_drew)); exact HO599.out))) (below_size bq)); have n2_ := Aside0.mk (below_step bq hb); clear HO599; clear HB; have HO599 := n0_; have HO603 := n1_; have HB := n2_; clear n0_ n1_ n2_; (try clear hb); (try clear hb2); (try clear hk); (try clear hi); (try clear ho0)) | ((with_reducible refine gate_callee (f := 35) rfl ?_); refine goesL_ (some 36) rfl rfl Tryz.func35 (by kernel_rfl) rfl #[.string a0] rfl mq ?_; (with_reducible refine (schismaref02_side.calls a0 t604 _ A14.out).mono ?_); rintro e w' ⟨rfl, ⟨nd, rfl⟩⟩; refine ⟨_, rfl, ?_⟩) | ((with_reducible refine gate_callee (f := 35) rfl ?_); refine goesL_ (some 38) rfl rfl Tryz.func35 (by kernel_rfl) rfl #[.string a1] rfl mq ?_; (with_reducible refine (schismaref02_side.calls a1 t605 _ A15.out).mono ?_); rintro e w' ⟨rfl, ⟨nd, rfl⟩⟩; refine ⟨_, rfl, ?_⟩) | ((with_reducible refine gate_callee (f := 35) rfl ?_); refine goesL_ (some 41) rfl rfl Tryz.func35 (by kernel_rfl) rfl #[.string a0] rfl mq ?_; (with_reducible refine (schismaref02_side.calls a0 t604 _ A17.out).mono ?_); rintro e w' ⟨rfl, ⟨nd, rfl⟩⟩; refine ⟨_, rfl, ?_⟩; obtain ⟨Ao22, co22, eo22⟩ := Kd.R_slice HO599.out; subst eo22; obtain ⟨Ao23, co23, eo23⟩ := Kd.R_slice HO603.out; subst eo23) | ((with_reducible refine gate_callee (f := 37) rfl ?_); refine goesL_ (some 45) rfl rfl Tryz.func37 (by kernel_rfl) rfl #[.slice Ao22 t597.length co22, .slice Ao23 t601.length co23] rfl mq ?_; (with_reducible refine (schismaref02_plus.calls kj4 _ _ t597 _ _ t601 t607 _ ?side1 ?side2 ?side3 ?side4 A18.out).mono ?_); (case side1 => repeat (first | exact (Kd.R_reads' HO599.out).2.2 | (with_reducible refine Kd.C_alloc ?_ _) | (with_reducible refine Kd.C_drewN ?_ _) | (with_reducible refine Kd.C_drew ?_))); (case side2 => exact (Kd.R_reads' HO599.out).2.1); (case side3 => repeat (first | exact (Kd.R_reads' HO603.out).2.2 | (with_reducible refine Kd.C_alloc ?_ _) | (with_reducible refine Kd.C_drewN ?_ _) | (with_reducible refine Kd.C_drew ?_))); (case side4 => exact (Kd.R_reads' HO603.out).2.1); rintro e w24 ⟨v608, rfl, ho0, hb⟩; refine ⟨_, rfl, ?_⟩; have n0_ := Aside0.mk (Kd.R_elder' (by (with_reducible repeat (first | apply Kd.R_alloc | apply Kd.R_drewN | apply Kd.R_drew)); exact HO599.out) (Kd.R_base ho0) hb); have n1_ := Aside0.mk (Kd.R_elder' (by (with_reducible repeat (first | apply Kd.R_alloc | apply Kd.R_drewN | apply Kd.R_drew)); exact HO603.out) (Kd.R_base ho0) hb); have n2_ := Aside0.mk (Kd.R_lower (Kd.R_new' (Kd.R_new' ho0 (Kd.R_lt (by (with_reducible repeat (first | apply Kd.R_alloc | apply Kd.R_drewN | apply Kd.R_drew)); exact HO599.out))) (Kd.R_lt (by (with_reducible repeat (first | apply Kd.R_alloc | apply Kd.R_drewN | apply Kd.R_drew)); exact HO603.out))) (below_size bq)); have n3_ := Aside0.mk (below_step bq hb); clear HO599; clear HO603; clear HB; have HO599 := n0_; have HO603 := n1_; have HO609 := n2_; have HB := n3_; clear n0_ n1_ n2_ n3_; (try clear hb); (try clear hb2); (try clear hk); (try clear hi); (try clear ho0); obtain ⟨Ao25, co25, eo25⟩ := Kd.R_slice HO609.out; subst eo25) | ((with_reducible refine gate_callee (f := 36) rfl ?_); refine goesL_ (some 46) rfl rfl Tryz.func36 (by kernel_rfl) rfl #[.bool (decide (t604 < 0)), .slice Ao25 t607.length co25] rfl mq ?_; (with_reducible refine (schismaref02_signed.calls (hT := HT.out) kj4 (decide (t604 < 0)) (fun k_ => some k_ = (.slice Ao25 t607.length co25 : Value).ownBlock) (.slice Ao25 t607.length co25) t607 t610 w _ ?side1 ?side2 A19.out).mono ?_); (case side1 => exact bq); (case side2 => exact Kd.R_tight rfl HO609.out); rintro e w26 ⟨rfl, hb, hkp⟩; refine ⟨_, rfl, ?_⟩; have n0_ := Aside0.mk (Kd.R_mono (ok' := fun k_ => some k_ ≠ (.slice Ao23 t601.length co23 : Value).ownBlock) (Kd.R_keptB (HO599.out) hkp (fun k_ hk_ hs_ => (hk_.2) hs_)) (fun k_ hk_ => hk_.1.1.2)); have n1_ := Aside0.mk (Kd.R_mono (ok' := fun k_ => some k_ ≠ (.slice Ao22 t597.length co22 : Value).ownBlock) (Kd.R_keptB (HO603.out) hkp (fun k_ hk_ hs_ => (hk_.2) hs_)) (fun k_ hk_ => hk_.1.1.2)); have n2_ := Aside0.mk (hb); clear HO599; clear HO603; clear HB; clear HO609; have HO599 := n0_; have HO603 := n1_; have HB := n2_; clear n0_ n1_ n2_; (try clear hb); (try clear hkp)))
          go_ret
          exact ⟨eq_, bq⟩
        · rw [if_neg c16] at H
          have c16b0 : (t604 == t605) = false := beq_eq_false_iff_ne.mpr c16
          have c16b1 : (t604 != t605) = true := bne_iff_ne.mpr c16
          replace H := Option.bind_eq_some_iff.mp H
          obtain ⟨t611, A270, H⟩ := H
          replace H : (if t611 ≥ 0 then ((schismaref02_side.f a0).bind fun t612 => ((schismaref02_minus.f kj4 t597 t601).bind fun t613 => ((schismaref02_signed.f kj4 (decide (t612 < 0)) t613).bind fun t616 => (some t616)))) else ((schismaref02_side.f a1).bind fun t617 => ((schismaref02_minus.f kj4 t601 t597).bind fun t618 => ((schismaref02_signed.f kj4 (decide (t617 < 0)) t618).bind fun t621 => (some t621))))) = some r := H
          have A27 := Aside0.mk A270
          clear A270
          by_cases c28 : t611 ≥ 0
          · rw [if_pos c28] at H
            have c28b0 : decide (0 ≤ t611) = true := decide_eq_true c28
            clear c28
            replace H := Option.bind_eq_some_iff.mp H
            obtain ⟨t612, A290, H⟩ := H
            replace H : ((schismaref02_minus.f kj4 t597 t601).bind fun t613 => ((schismaref02_signed.f kj4 (decide (t612 < 0)) t613).bind fun t616 => (some t616))) = some r := H
            have A29 := Aside0.mk A290
            clear A290
            have hq2_ : t604 = t612 := Option.some.inj (A14.out.symm.trans A29.out)
            obtain rfl := hq2_
            replace H := Option.bind_eq_some_iff.mp H
            obtain ⟨t613, A300, H⟩ := H
            replace H : ((schismaref02_signed.f kj4 (decide (t604 < 0)) t613).bind fun t616 => (some t616)) = some r := H
            have A30 := Aside0.mk A300
            clear A300
            replace H := Option.bind_eq_some_iff.mp H
            obtain ⟨t616, A310, H⟩ := H
            replace H : (some t616) = some r := H
            have A31 := Aside0.mk A310
            clear A310
            obtain rfl := Option.some.inj H
            go_wp2_with (first | ((with_reducible refine gate_callee (f := 31) rfl ?_); refine goesL_ (some 30) rfl rfl Tryz.func31 (by kernel_rfl) rfl #[.string a0] rfl mq ?_; (with_reducible refine (schismaref02_digits.calls a0 t596 _ A10.out).mono ?_); rintro e w' ⟨rfl, ⟨nd, rfl⟩⟩; refine ⟨_, rfl, ?_⟩) | ((with_reducible refine gate_callee (f := 34) rfl ?_); refine goesL_ (some 31) rfl rfl Tryz.func34 (by kernel_rfl) rfl #[.string t596] rfl mq ?_; (with_reducible refine (schismaref02_split.calls kj4 t596 t597 _ A11.out).mono ?_); rintro e w32 ⟨v598, rfl, ho0, hb⟩; refine ⟨_, rfl, ?_⟩; have n0_ := Aside0.mk (Kd.R_lower ho0 (below_size bq)); have n1_ := Aside0.mk (below_step bq hb); clear HB; have HO599 := n0_; have HB := n1_; clear n0_ n1_; (try clear hb); (try clear hb2); (try clear hk); (try clear hi); (try clear ho0)) | ((with_reducible refine gate_callee (f := 31) rfl ?_); refine goesL_ (some 33) rfl rfl Tryz.func31 (by kernel_rfl) rfl #[.string a1] rfl mq ?_; (with_reducible refine (schismaref02_digits.calls a1 t600 _ A12.out).mono ?_); rintro e w' ⟨rfl, ⟨nd, rfl⟩⟩; refine ⟨_, rfl, ?_⟩) | ((with_reducible refine gate_callee (f := 34) rfl ?_); refine goesL_ (some 34) rfl rfl Tryz.func34 (by kernel_rfl) rfl #[.string t600] rfl mq ?_; (with_reducible refine (schismaref02_split.calls kj4 t600 t601 _ A13.out).mono ?_); rintro e w33 ⟨v602, rfl, ho0, hb⟩; refine ⟨_, rfl, ?_⟩; have n0_ := Aside0.mk (Kd.R_elder' (by (with_reducible repeat (first | apply Kd.R_alloc | apply Kd.R_drewN | apply Kd.R_drew)); exact HO599.out) (Kd.R_base ho0) hb); have n1_ := Aside0.mk (Kd.R_lower (Kd.R_new' ho0 (Kd.R_lt (by (with_reducible repeat (first | apply Kd.R_alloc | apply Kd.R_drewN | apply Kd.R_drew)); exact HO599.out))) (below_size bq)); have n2_ := Aside0.mk (below_step bq hb); clear HO599; clear HB; have HO599 := n0_; have HO603 := n1_; have HB := n2_; clear n0_ n1_ n2_; (try clear hb); (try clear hb2); (try clear hk); (try clear hi); (try clear ho0)) | ((with_reducible refine gate_callee (f := 35) rfl ?_); refine goesL_ (some 36) rfl rfl Tryz.func35 (by kernel_rfl) rfl #[.string a0] rfl mq ?_; (with_reducible refine (schismaref02_side.calls a0 t604 _ A14.out).mono ?_); rintro e w' ⟨rfl, ⟨nd, rfl⟩⟩; refine ⟨_, rfl, ?_⟩) | ((with_reducible refine gate_callee (f := 35) rfl ?_); refine goesL_ (some 38) rfl rfl Tryz.func35 (by kernel_rfl) rfl #[.string a1] rfl mq ?_; (with_reducible refine (schismaref02_side.calls a1 t605 _ A15.out).mono ?_); rintro e w' ⟨rfl, ⟨nd, rfl⟩⟩; refine ⟨_, rfl, ?_⟩; obtain ⟨Ao34, co34, eo34⟩ := Kd.R_slice HO599.out; subst eo34; obtain ⟨Ao35, co35, eo35⟩ := Kd.R_slice HO603.out; subst eo35) | ((with_reducible refine gate_callee (f := 38) rfl ?_); refine goesL_ (some 49) rfl rfl Tryz.func38 (by kernel_rfl) rfl #[.slice Ao34 t597.length co34, .slice Ao35 t601.length co35] rfl mq ?_; (with_reducible refine (schismaref02_order.calls kj4 _ _ t597 _ _ t601 t611 _ ?side1 ?side2 ?side3 ?side4 A27.out).mono ?_); (case side1 => repeat (first | exact (Kd.R_reads' HO599.out).2.2 | (with_reducible refine Kd.C_alloc ?_ _) | (with_reducible refine Kd.C_drewN ?_ _) | (with_reducible refine Kd.C_drew ?_))); (case side2 => exact (Kd.R_reads' HO599.out).2.1); (case side3 => repeat (first | exact (Kd.R_reads' HO603.out).2.2 | (with_reducible refine Kd.C_alloc ?_ _) | (with_reducible refine Kd.C_drewN ?_ _) | (with_reducible refine Kd.C_drew ?_))); (case side4 => exact (Kd.R_reads' HO603.out).2.1); rintro e w' ⟨rfl, ⟨nd, rfl⟩⟩; refine ⟨_, rfl, ?_⟩) | ((with_reducible refine gate_callee (f := 35) rfl ?_); refine goesL_ (some 52) rfl rfl Tryz.func35 (by kernel_rfl) rfl #[.string a0] rfl mq ?_; (with_reducible refine (schismaref02_side.calls a0 t604 _ A29.out).mono ?_); rintro e w' ⟨rfl, ⟨nd, rfl⟩⟩; refine ⟨_, rfl, ?_⟩) | ((with_reducible refine gate_callee (f := 39) rfl ?_); refine goesL_ (some 56) rfl rfl Tryz.func39 (by kernel_rfl) rfl #[.slice Ao34 t597.length co34, .slice Ao35 t601.length co35] rfl mq ?_; (with_reducible refine (schismaref02_minus.calls kj4 _ _ t597 _ _ t601 t613 _ ?side1 ?side2 ?side3 ?side4 A30.out).mono ?_); (case side1 => repeat (first | exact (Kd.R_reads' HO599.out).2.2 | (with_reducible refine Kd.C_alloc ?_ _) | (with_reducible refine Kd.C_drewN ?_ _) | (with_reducible refine Kd.C_drew ?_))); (case side2 => exact (Kd.R_reads' HO599.out).2.1); (case side3 => repeat (first | exact (Kd.R_reads' HO603.out).2.2 | (with_reducible refine Kd.C_alloc ?_ _) | (with_reducible refine Kd.C_drewN ?_ _) | (with_reducible refine Kd.C_drew ?_))); (case side4 => exact (Kd.R_reads' HO603.out).2.1); rintro e w36 ⟨v614, rfl, ho0, hb⟩; refine ⟨_, rfl, ?_⟩; have n0_ := Aside0.mk (Kd.R_elder' (by (with_reducible repeat (first | apply Kd.R_alloc | apply Kd.R_drewN | apply Kd.R_drew)); exact HO599.out) (Kd.R_base ho0) hb); have n1_ := Aside0.mk (Kd.R_elder' (by (with_reducible repeat (first | apply Kd.R_alloc | apply Kd.R_drewN | apply Kd.R_drew)); exact HO603.out) (Kd.R_base ho0) hb); have n2_ := Aside0.mk (Kd.R_lower (Kd.R_new' (Kd.R_new' ho0 (Kd.R_lt (by (with_reducible repeat (first | apply Kd.R_alloc | apply Kd.R_drewN | apply Kd.R_drew)); exact HO599.out))) (Kd.R_lt (by (with_reducible repeat (first | apply Kd.R_alloc | apply Kd.R_drewN | apply Kd.R_drew)); exact HO603.out))) (below_size bq)); have n3_ := Aside0.mk (below_step bq hb); clear HO599; clear HO603; clear HB; have HO599 := n0_; have HO603 := n1_; have HO615 := n2_; have HB := n3_; clear n0_ n1_ n2_ n3_; (try clear hb); (try clear hb2); (try clear hk); (try clear hi); (try clear ho0); obtain ⟨Ao37, co37, eo37⟩ := Kd.R_slice HO615.out; subst eo37) | ((with_reducible refine gate_callee (f := 36) rfl ?_); refine goesL_ (some 57) rfl rfl Tryz.func36 (by kernel_rfl) rfl #[.bool (decide (t604 < 0)), .slice Ao37 t613.length co37] rfl mq ?_; (with_reducible refine (schismaref02_signed.calls (hT := HT.out) kj4 (decide (t604 < 0)) (fun k_ => some k_ = (.slice Ao37 t613.length co37 : Value).ownBlock) (.slice Ao37 t613.length co37) t613 t616 w _ ?side1 ?side2 A31.out).mono ?_); (case side1 => exact bq); (case side2 => exact Kd.R_tight rfl HO615.out); rintro e w38 ⟨rfl, hb, hkp⟩; refine ⟨_, rfl, ?_⟩; have n0_ := Aside0.mk (Kd.R_mono (ok' := fun k_ => some k_ ≠ (.slice Ao35 t601.length co35 : Value).ownBlock) (Kd.R_keptB (HO599.out) hkp (fun k_ hk_ hs_ => (hk_.2) hs_)) (fun k_ hk_ => hk_.1.1.2)); have n1_ := Aside0.mk (Kd.R_mono (ok' := fun k_ => some k_ ≠ (.slice Ao34 t597.length co34 : Value).ownBlock) (Kd.R_keptB (HO603.out) hkp (fun k_ hk_ hs_ => (hk_.2) hs_)) (fun k_ hk_ => hk_.1.1.2)); have n2_ := Aside0.mk (hb); clear HO599; clear HO603; clear HB; clear HO615; have HO599 := n0_; have HO603 := n1_; have HB := n2_; clear n0_ n1_ n2_; (try clear hb); (try clear hkp)))
            go_ret
            exact ⟨eq_, bq⟩
          · rw [if_neg c28] at H
            have c28b0 : decide (0 ≤ t611) = false := decide_eq_false c28
            clear c28
            replace H := Option.bind_eq_some_iff.mp H
            obtain ⟨t617, A390, H⟩ := H
            replace H : ((schismaref02_minus.f kj4 t601 t597).bind fun t618 => ((schismaref02_signed.f kj4 (decide (t617 < 0)) t618).bind fun t621 => (some t621))) = some r := H
            have A39 := Aside0.mk A390
            clear A390
            have hq2_ : t605 = t617 := Option.some.inj (A15.out.symm.trans A39.out)
            obtain rfl := hq2_
            replace H := Option.bind_eq_some_iff.mp H
            obtain ⟨t618, A400, H⟩ := H
            replace H : ((schismaref02_signed.f kj4 (decide (t605 < 0)) t618).bind fun t621 => (some t621)) = some r := H
            have A40 := Aside0.mk A400
            clear A400
            replace H := Option.bind_eq_some_iff.mp H
            obtain ⟨t621, A410, H⟩ := H
            replace H : (some t621) = some r := H
            have A41 := Aside0.mk A410
            clear A410
            obtain rfl := Option.some.inj H
            go_wp2_with (first | ((with_reducible refine gate_callee (f := 31) rfl ?_); refine goesL_ (some 30) rfl rfl Tryz.func31 (by kernel_rfl) rfl #[.string a0] rfl mq ?_; (with_reducible refine (schismaref02_digits.calls a0 t596 _ A10.out).mono ?_); rintro e w' ⟨rfl, ⟨nd, rfl⟩⟩; refine ⟨_, rfl, ?_⟩) | ((with_reducible refine gate_callee (f := 34) rfl ?_); refine goesL_ (some 31) rfl rfl Tryz.func34 (by kernel_rfl) rfl #[.string t596] rfl mq ?_; (with_reducible refine (schismaref02_split.calls kj4 t596 t597 _ A11.out).mono ?_); rintro e w42 ⟨v598, rfl, ho0, hb⟩; refine ⟨_, rfl, ?_⟩; have n0_ := Aside0.mk (Kd.R_lower ho0 (below_size bq)); have n1_ := Aside0.mk (below_step bq hb); clear HB; have HO599 := n0_; have HB := n1_; clear n0_ n1_; (try clear hb); (try clear hb2); (try clear hk); (try clear hi); (try clear ho0)) | ((with_reducible refine gate_callee (f := 31) rfl ?_); refine goesL_ (some 33) rfl rfl Tryz.func31 (by kernel_rfl) rfl #[.string a1] rfl mq ?_; (with_reducible refine (schismaref02_digits.calls a1 t600 _ A12.out).mono ?_); rintro e w' ⟨rfl, ⟨nd, rfl⟩⟩; refine ⟨_, rfl, ?_⟩) | ((with_reducible refine gate_callee (f := 34) rfl ?_); refine goesL_ (some 34) rfl rfl Tryz.func34 (by kernel_rfl) rfl #[.string t600] rfl mq ?_; (with_reducible refine (schismaref02_split.calls kj4 t600 t601 _ A13.out).mono ?_); rintro e w43 ⟨v602, rfl, ho0, hb⟩; refine ⟨_, rfl, ?_⟩; have n0_ := Aside0.mk (Kd.R_elder' (by (with_reducible repeat (first | apply Kd.R_alloc | apply Kd.R_drewN | apply Kd.R_drew)); exact HO599.out) (Kd.R_base ho0) hb); have n1_ := Aside0.mk (Kd.R_lower (Kd.R_new' ho0 (Kd.R_lt (by (with_reducible repeat (first | apply Kd.R_alloc | apply Kd.R_drewN | apply Kd.R_drew)); exact HO599.out))) (below_size bq)); have n2_ := Aside0.mk (below_step bq hb); clear HO599; clear HB; have HO599 := n0_; have HO603 := n1_; have HB := n2_; clear n0_ n1_ n2_; (try clear hb); (try clear hb2); (try clear hk); (try clear hi); (try clear ho0)) | ((with_reducible refine gate_callee (f := 35) rfl ?_); refine goesL_ (some 36) rfl rfl Tryz.func35 (by kernel_rfl) rfl #[.string a0] rfl mq ?_; (with_reducible refine (schismaref02_side.calls a0 t604 _ A14.out).mono ?_); rintro e w' ⟨rfl, ⟨nd, rfl⟩⟩; refine ⟨_, rfl, ?_⟩) | ((with_reducible refine gate_callee (f := 35) rfl ?_); refine goesL_ (some 38) rfl rfl Tryz.func35 (by kernel_rfl) rfl #[.string a1] rfl mq ?_; (with_reducible refine (schismaref02_side.calls a1 t605 _ A15.out).mono ?_); rintro e w' ⟨rfl, ⟨nd, rfl⟩⟩; refine ⟨_, rfl, ?_⟩; obtain ⟨Ao44, co44, eo44⟩ := Kd.R_slice HO599.out; subst eo44; obtain ⟨Ao45, co45, eo45⟩ := Kd.R_slice HO603.out; subst eo45) | ((with_reducible refine gate_callee (f := 38) rfl ?_); refine goesL_ (some 49) rfl rfl Tryz.func38 (by kernel_rfl) rfl #[.slice Ao44 t597.length co44, .slice Ao45 t601.length co45] rfl mq ?_; (with_reducible refine (schismaref02_order.calls kj4 _ _ t597 _ _ t601 t611 _ ?side1 ?side2 ?side3 ?side4 A27.out).mono ?_); (case side1 => repeat (first | exact (Kd.R_reads' HO599.out).2.2 | (with_reducible refine Kd.C_alloc ?_ _) | (with_reducible refine Kd.C_drewN ?_ _) | (with_reducible refine Kd.C_drew ?_))); (case side2 => exact (Kd.R_reads' HO599.out).2.1); (case side3 => repeat (first | exact (Kd.R_reads' HO603.out).2.2 | (with_reducible refine Kd.C_alloc ?_ _) | (with_reducible refine Kd.C_drewN ?_ _) | (with_reducible refine Kd.C_drew ?_))); (case side4 => exact (Kd.R_reads' HO603.out).2.1); rintro e w' ⟨rfl, ⟨nd, rfl⟩⟩; refine ⟨_, rfl, ?_⟩) | ((with_reducible refine gate_callee (f := 35) rfl ?_); refine goesL_ (some 59) rfl rfl Tryz.func35 (by kernel_rfl) rfl #[.string a1] rfl mq ?_; (with_reducible refine (schismaref02_side.calls a1 t605 _ A39.out).mono ?_); rintro e w' ⟨rfl, ⟨nd, rfl⟩⟩; refine ⟨_, rfl, ?_⟩) | ((with_reducible refine gate_callee (f := 39) rfl ?_); refine goesL_ (some 63) rfl rfl Tryz.func39 (by kernel_rfl) rfl #[.slice Ao45 t601.length co45, .slice Ao44 t597.length co44] rfl mq ?_; (with_reducible refine (schismaref02_minus.calls kj4 _ _ t601 _ _ t597 t618 _ ?side1 ?side2 ?side3 ?side4 A40.out).mono ?_); (case side1 => repeat (first | exact (Kd.R_reads' HO603.out).2.2 | (with_reducible refine Kd.C_alloc ?_ _) | (with_reducible refine Kd.C_drewN ?_ _) | (with_reducible refine Kd.C_drew ?_))); (case side2 => exact (Kd.R_reads' HO603.out).2.1); (case side3 => repeat (first | exact (Kd.R_reads' HO599.out).2.2 | (with_reducible refine Kd.C_alloc ?_ _) | (with_reducible refine Kd.C_drewN ?_ _) | (with_reducible refine Kd.C_drew ?_))); (case side4 => exact (Kd.R_reads' HO599.out).2.1); rintro e w46 ⟨v619, rfl, ho0, hb⟩; refine ⟨_, rfl, ?_⟩; have n0_ := Aside0.mk (Kd.R_elder' (by (with_reducible repeat (first | apply Kd.R_alloc | apply Kd.R_drewN | apply Kd.R_drew)); exact HO599.out) (Kd.R_base ho0) hb); have n1_ := Aside0.mk (Kd.R_elder' (by (with_reducible repeat (first | apply Kd.R_alloc | apply Kd.R_drewN | apply Kd.R_drew)); exact HO603.out) (Kd.R_base ho0) hb); have n2_ := Aside0.mk (Kd.R_lower (Kd.R_new' (Kd.R_new' ho0 (Kd.R_lt (by (with_reducible repeat (first | apply Kd.R_alloc | apply Kd.R_drewN | apply Kd.R_drew)); exact HO599.out))) (Kd.R_lt (by (with_reducible repeat (first | apply Kd.R_alloc | apply Kd.R_drewN | apply Kd.R_drew)); exact HO603.out))) (below_size bq)); have n3_ := Aside0.mk (below_step bq hb); clear HO599; clear HO603; clear HB; have HO599 := n0_; have HO603 := n1_; have HO620 := n2_; have HB := n3_; clear n0_ n1_ n2_ n3_; (try clear hb); (try clear hb2); (try clear hk); (try clear hi); (try clear ho0); obtain ⟨Ao47, co47, eo47⟩ := Kd.R_slice HO620.out; subst eo47) | ((with_reducible refine gate_callee (f := 36) rfl ?_); refine goesL_ (some 64) rfl rfl Tryz.func36 (by kernel_rfl) rfl #[.bool (decide (t605 < 0)), .slice Ao47 t618.length co47] rfl mq ?_; (with_reducible refine (schismaref02_signed.calls (hT := HT.out) kj4 (decide (t605 < 0)) (fun k_ => some k_ = (.slice Ao47 t618.length co47 : Value).ownBlock) (.slice Ao47 t618.length co47) t618 t621 w _ ?side1 ?side2 A41.out).mono ?_); (case side1 => exact bq); (case side2 => exact Kd.R_tight rfl HO620.out); rintro e w48 ⟨rfl, hb, hkp⟩; refine ⟨_, rfl, ?_⟩; have n0_ := Aside0.mk (Kd.R_mono (ok' := fun k_ => some k_ ≠ (.slice Ao45 t601.length co45 : Value).ownBlock) (Kd.R_keptB (HO599.out) hkp (fun k_ hk_ hs_ => (hk_.2) hs_)) (fun k_ hk_ => hk_.1.1.2)); have n1_ := Aside0.mk (Kd.R_mono (ok' := fun k_ => some k_ ≠ (.slice Ao44 t597.length co44 : Value).ownBlock) (Kd.R_keptB (HO603.out) hkp (fun k_ hk_ hs_ => (hk_.2) hs_)) (fun k_ hk_ => hk_.1.1.2)); have n2_ := Aside0.mk (hb); clear HO599; clear HO603; clear HB; clear HO620; have HO599 := n0_; have HO603 := n1_; have HB := n2_; clear n0_ n1_ n2_; (try clear hb); (try clear hkp)))
            go_ret
            exact ⟨eq_, bq⟩
def schismaref02_Neg.f (a0 : ByteArray) : Option (ByteArray) := (schismaref02_Sign.f a0).bind fun t622 => (if t622 < 0 then (if 1 ≤ (a0.size : Int) then (some (a0.extract 1 a0.size)) else (none)) else ((schismaref02_Sign.f a0).bind fun t623 => (if t623 = 0 then (some a0) else (if 1 + a0.size ≤ 9223372036854775807 then (some ((⟨#[45]⟩ : ByteArray) ++ a0)) else (none)))))
set_option maxHeartbeats 8000000 in
set_option maxRecDepth 100000 in
theorem schismaref02_Neg.calls (a0 : ByteArray) (r : ByteArray) (w : World) (h : schismaref02_Neg.f a0 = some r) :
    Calls Tryz.prog 46 #[.string a0] w fun e w' => e = .returned (.string r) ∧ Drawn0 w w' := by
  have H : ((schismaref02_Sign.f a0).bind fun t622 => (if t622 < 0 then (if 1 ≤ (a0.size : Int) then (some (a0.extract 1 a0.size)) else (none)) else ((schismaref02_Sign.f a0).bind fun t623 => (if t623 = 0 then (some a0) else (if 1 + a0.size ≤ 9223372036854775807 then (some ((⟨#[45]⟩ : ByteArray) ++ a0)) else (none)))))) = some r := h
  clear h
  replace H := Option.bind_eq_some_iff.mp H
  obtain ⟨t622, A20, H⟩ := H
  replace H : (if t622 < 0 then (if 1 ≤ (a0.size : Int) then (some (a0.extract 1 a0.size)) else (none)) else ((schismaref02_Sign.f a0).bind fun t623 => (if t623 = 0 then (some a0) else (if 1 + a0.size ≤ 9223372036854775807 then (some ((⟨#[45]⟩ : ByteArray) ++ a0)) else (none))))) = some r := H
  have A2 := Aside0.mk A20
  clear A20
  by_cases c3 : t622 < 0
  · rw [if_pos c3] at H
    have c3b0 : decide (t622 < 0) = true := decide_eq_true c3
    clear c3
    by_cases c4 : 1 ≤ (a0.size : Int)
    · rw [if_pos c4] at H
      have c4b0 := eq_true c4
      have c4b1 : decide (1 ≤ (a0.size : Int)) = true := decide_eq_true c4
      clear c4
      obtain rfl := Option.some.inj H
      go_enter Tryz.func46, Tryz.ntmps46
      go_wp2_with (first | ((with_reducible refine gate_callee (f := 53) rfl ?_); refine goesL_ (some 4) rfl rfl Tryz.func53 (by kernel_rfl) rfl #[.string a0] rfl mq ?_; (with_reducible refine (schismaref02_Sign.calls a0 t622 _ A2.out).mono ?_); rintro e w' ⟨rfl, ⟨nd, rfl⟩⟩; refine ⟨_, rfl, ?_⟩))
      go_ret
      exact ⟨by first | rfl | (simp; done) | (simp [wrap64]; done) | (simp [*]; done), by repeat (first | exact Drawn0.refl _ | apply Drawn0.step)⟩
    · rw [if_neg c4] at H
      exact absurd H (by simp)
  · rw [if_neg c3] at H
    have c3b0 : decide (t622 < 0) = false := decide_eq_false c3
    clear c3
    replace H := Option.bind_eq_some_iff.mp H
    obtain ⟨t623, A50, H⟩ := H
    replace H : (if t623 = 0 then (some a0) else (if 1 + a0.size ≤ 9223372036854775807 then (some ((⟨#[45]⟩ : ByteArray) ++ a0)) else (none))) = some r := H
    have A5 := Aside0.mk A50
    clear A50
    have hq2_ : t622 = t623 := Option.some.inj (A2.out.symm.trans A5.out)
    obtain rfl := hq2_
    by_cases c6 : t622 = 0
    · rw [if_pos c6] at H
      have c6b0 : (t622 == 0) = true := beq_iff_eq.mpr c6
      have c6b1 : (t622 != 0) = false := bne_eq_false_iff_eq.mpr c6
      clear c6
      obtain rfl := Option.some.inj H
      go_enter Tryz.func46, Tryz.ntmps46
      go_wp2_with (first | ((with_reducible refine gate_callee (f := 53) rfl ?_); refine goesL_ (some 4) rfl rfl Tryz.func53 (by kernel_rfl) rfl #[.string a0] rfl mq ?_; (with_reducible refine (schismaref02_Sign.calls a0 t622 _ A2.out).mono ?_); rintro e w' ⟨rfl, ⟨nd, rfl⟩⟩; refine ⟨_, rfl, ?_⟩) | ((with_reducible refine gate_callee (f := 53) rfl ?_); refine goesL_ (some 9) rfl rfl Tryz.func53 (by kernel_rfl) rfl #[.string a0] rfl mq ?_; (with_reducible refine (schismaref02_Sign.calls a0 t622 _ A5.out).mono ?_); rintro e w' ⟨rfl, ⟨nd, rfl⟩⟩; refine ⟨_, rfl, ?_⟩))
      go_ret
      exact ⟨by first | rfl | (simp; done) | (simp [wrap64]; done) | (simp [*]; done), by repeat (first | exact Drawn0.refl _ | apply Drawn0.step)⟩
    · rw [if_neg c6] at H
      have c6b0 : (t622 == 0) = false := beq_eq_false_iff_ne.mpr c6
      have c6b1 : (t622 != 0) = true := bne_iff_ne.mpr c6
      by_cases c7 : 1 + a0.size ≤ 9223372036854775807
      · rw [if_pos c7] at H
        have c7b0 := eq_true c7
        have c7b1 : decide (1 + a0.size ≤ 9223372036854775807) = true := decide_eq_true c7
        try have c7b2 : (9223372036854775807 < 1 + a0.size) = False := eq_false (Nat.not_lt.2 c7)
        obtain rfl := Option.some.inj H
        go_enter Tryz.func46, Tryz.ntmps46
        go_wp2_with (first | ((with_reducible refine gate_callee (f := 53) rfl ?_); refine goesL_ (some 4) rfl rfl Tryz.func53 (by kernel_rfl) rfl #[.string a0] rfl mq ?_; (with_reducible refine (schismaref02_Sign.calls a0 t622 _ A2.out).mono ?_); rintro e w' ⟨rfl, ⟨nd, rfl⟩⟩; refine ⟨_, rfl, ?_⟩) | ((with_reducible refine gate_callee (f := 53) rfl ?_); refine goesL_ (some 9) rfl rfl Tryz.func53 (by kernel_rfl) rfl #[.string a0] rfl mq ?_; (with_reducible refine (schismaref02_Sign.calls a0 t622 _ A5.out).mono ?_); rintro e w' ⟨rfl, ⟨nd, rfl⟩⟩; refine ⟨_, rfl, ?_⟩))
        go_ret
        exact ⟨by first | rfl | (simp; done) | (simp [wrap64]; done) | (simp [*]; done), by repeat (first | exact Drawn0.refl _ | apply Drawn0.step)⟩
      · rw [if_neg c7] at H
        exact absurd H (by simp)
def schismaref02_Sub.f (k : Nat) (a0 : ByteArray) (a1 : ByteArray) : Option (ByteArray) := (schismaref02_Neg.f a1).bind fun t624 => ((schismaref02_Add.f k a0 t624).bind fun t625 => (some t625))
theorem schismaref02_Sub.mono : ∀ a0 a1 k, LeO (schismaref02_Sub.f k a0 a1) (schismaref02_Sub.f (k + 1) a0 a1) := by
  intro a0 a1 k
  unfold schismaref02_Sub.f
  repeat' first
      | (with_reducible exact schismaref02_Add.mono _ _ _)
      | (with_reducible exact LeO.refl _)
      | (with_reducible exact LeO.none _)
      | (with_reducible refine LeO.ite ?_ ?_)
      | (with_reducible refine LeO.bind ?_ (fun _ => ?_))
      | exact schismaref02_Add.mono _ _ _
      | exact LeO.none _
      | refine LeO.ite ?_ ?_
      | refine LeO.bind ?_ (fun _ => ?_)
set_option maxHeartbeats 8000000 in
set_option maxRecDepth 100000 in
theorem schismaref02_Sub.calls (k : Nat) (a0 : ByteArray) (a1 : ByteArray) (r : ByteArray) (w : World) (hT : Tab w) (h : schismaref02_Sub.f k a0 a1 = some r) :
    Calls Tryz.prog 15 #[.string a0, .string a1] w fun e w' => e = .returned (.string r) ∧ Below w.heap.size w w' := by
  have HT := Aside0.mk hT
  clear hT
  have HB := Aside0.mk (Below.refl w.heap.size w)
  have H : ((schismaref02_Neg.f a1).bind fun t624 => ((schismaref02_Add.f k a0 t624).bind fun t625 => (some t625))) = some r := h
  clear h
  replace H := Option.bind_eq_some_iff.mp H
  obtain ⟨t624, A30, H⟩ := H
  replace H : ((schismaref02_Add.f k a0 t624).bind fun t625 => (some t625)) = some r := H
  have A3 := Aside0.mk A30
  clear A30
  replace H := Option.bind_eq_some_iff.mp H
  obtain ⟨t625, A40, H⟩ := H
  replace H : (some t625) = some r := H
  have A4 := Aside0.mk A40
  clear A40
  obtain rfl := Option.some.inj H
  go_enter Tryz.func15, Tryz.ntmps15
  go_wp2_with (first | ((with_reducible refine gate_callee (f := 46) rfl ?_); refine goesL_ (some 7) rfl rfl Tryz.func46 (by kernel_rfl) rfl #[.string a1] rfl mq ?_; (with_reducible refine (schismaref02_Neg.calls a1 t624 _ A3.out).mono ?_); rintro e w' ⟨rfl, ⟨nd, rfl⟩⟩; refine ⟨_, rfl, ?_⟩) | ((with_reducible refine gate_callee (f := 12) rfl ?_); refine goesL_ (some 8) rfl rfl Tryz.func12 (by kernel_rfl) rfl #[.string a0, .string t624] rfl mq ?_; (with_reducible refine (schismaref02_Add.calls (hT := HT.out.below bq) k a0 t624 t625 _ A4.out).mono ?_); rintro e w5 ⟨rfl, hb⟩; refine ⟨_, rfl, ?_⟩; replace HB := Aside0.mk (below_step bq hb); (try clear hb); (try clear hb2); (try clear hk); (try clear hi)))
  go_ret
  exact ⟨eq_, bq⟩
end Go.Proofs.YtgicckcahhlbjaaGreatDoor.P
