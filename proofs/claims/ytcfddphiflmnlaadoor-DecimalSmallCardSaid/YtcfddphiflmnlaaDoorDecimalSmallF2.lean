/- Functions of the program, as functions of Lean, and the walks that show that the code answers as they do: written by a program. Conditions: those of each theorem. -/
import Derived.Test.YtcfddphiflmnlaaDoorDecimalSmallF1
namespace Go.Proofs.YtcfddphiflmnlaaDoor.P
open Go.RowKit Go.Proofs.YtcfddphiflmnlaaDoorW.PrintWords Go.Proofs.YtcfddphiflmnlaaDoorW.PrintLast Go.Proofs.YtcfddphiflmnlaaDoorW.PrintMore
attribute [local go_sem] gtr_text max2_int min2_int max_two min_two max_three min_three max_four min_four   -- for this text's walks alone
set_option linter.unusedVariables false
set_option linter.unusedSimpArgs false

/-! ### decimal_pieces_text: function 48 -/
mutual
def decimal_pieces_text.l0 : Nat → List Int → List Int → List Int → Int → Int → Option (ByteArray)
  | 0, _, _, _, _, _ => none
  | k + 1, x0, x3, x14, x15, x16 => if x16 < x15 then (if 0 ≤ x16 then (if x16 < (x14.length : Int) then (decimal_pieces_text.l1 k x0 x3 x16 (rd x14 x16) 0 x14 x15 x16) else (none)) else (none)) else ((slices_Reverse_byte_byte.f k x3).bind fun t141 => (some (strOfNums t141)))
def decimal_pieces_text.l1 : Nat → List Int → List Int → Int → Int → Int → List Int → Int → Int → Option (ByteArray)
  | 0, _, _, _, _, _, _, _, _ => none
  | k + 1, x0, x3, x4, x5, x6, x14, x15, x16 => if x6 < 9 then (if (wrap64 (x4 + 1)) < (x0.length : Int) then (if x3.length < 140737488355328 then (decimal_pieces_text.l1 k x0 (x3 ++ [(IntKind.u64.wrap (48 + (Int.tmod x5 10))) % 256]) x4 (IntKind.u64.wrap (Int.tdiv x5 10)) (wrap64 (x6 + 1)) x14 x15 x16) else (none)) else (if x5 > 0 then (if x3.length < 140737488355328 then (decimal_pieces_text.l1 k x0 (x3 ++ [(IntKind.u64.wrap (48 + (Int.tmod x5 10))) % 256]) x4 (IntKind.u64.wrap (Int.tdiv x5 10)) (wrap64 (x6 + 1)) x14 x15 x16) else (none)) else (decimal_pieces_text.l0 k x0 x3 x14 x15 (wrap64 (x16 + 1))))) else (decimal_pieces_text.l0 k x0 x3 x14 x15 (wrap64 (x16 + 1)))
end
def decimal_pieces_text.f (k : Nat) (l0 : List Int) : Option (ByteArray) := if (l0.length : Int) = 0 then (some (⟨#[48]⟩ : ByteArray)) else (if 0 ≤ (wrap64 (9 * (l0.length : Int))) then (if (wrap64 (9 * (l0.length : Int)) : Int).toNat ≤ 281474976710656 then (decimal_pieces_text.l0 k l0 (([] : List Int)) l0 (l0.length : Int) 0) else (none)) else (none))
theorem decimal_pieces_text.mono_l : ∀ k, (∀ y0 y1 y2 y3 y4, LeO (decimal_pieces_text.l0 k y0 y1 y2 y3 y4) (decimal_pieces_text.l0 (k + 1) y0 y1 y2 y3 y4)) ∧ (∀ y0 y1 y2 y3 y4 y5 y6 y7, LeO (decimal_pieces_text.l1 k y0 y1 y2 y3 y4 y5 y6 y7) (decimal_pieces_text.l1 (k + 1) y0 y1 y2 y3 y4 y5 y6 y7))
  | 0 => ⟨fun _ _ _ _ _ r h => by simp [decimal_pieces_text.l0] at h, fun _ _ _ _ _ _ _ _ r h => by simp [decimal_pieces_text.l1] at h⟩
  | k + 1 => by
    obtain ⟨ih0, ih1⟩ := decimal_pieces_text.mono_l k
    refine ⟨?_, ?_⟩
    · intro y0 y1 y2 y3 y4
      unfold decimal_pieces_text.l0
      repeat' first
      | (with_reducible exact ih0 _ _ _ _ _)
      | (with_reducible exact ih1 _ _ _ _ _ _ _ _)
      | (with_reducible exact slices_Reverse_byte_byte.mono _ _)
      | (with_reducible exact LeO.refl _)
      | (with_reducible exact LeO.none _)
      | (with_reducible refine LeO.ite ?_ ?_)
      | (with_reducible refine LeO.bind ?_ (fun _ => ?_))
      | exact ih0 _ _ _ _ _
      | exact ih1 _ _ _ _ _ _ _ _
      | exact slices_Reverse_byte_byte.mono _ _
      | exact LeO.none _
      | refine LeO.ite ?_ ?_
      | refine LeO.bind ?_ (fun _ => ?_)
    · intro y0 y1 y2 y3 y4 y5 y6 y7
      unfold decimal_pieces_text.l1
      repeat' first
      | (with_reducible exact ih0 _ _ _ _ _)
      | (with_reducible exact ih1 _ _ _ _ _ _ _ _)
      | (with_reducible exact slices_Reverse_byte_byte.mono _ _)
      | (with_reducible exact LeO.refl _)
      | (with_reducible exact LeO.none _)
      | (with_reducible refine LeO.ite ?_ ?_)
      | (with_reducible refine LeO.bind ?_ (fun _ => ?_))
      | exact ih0 _ _ _ _ _
      | exact ih1 _ _ _ _ _ _ _ _
      | exact slices_Reverse_byte_byte.mono _ _
      | exact LeO.none _
      | refine LeO.ite ?_ ?_
      | refine LeO.bind ?_ (fun _ => ?_)
theorem decimal_pieces_text.mono : ∀ a0 k, LeO (decimal_pieces_text.f k a0) (decimal_pieces_text.f (k + 1) a0) := by
  intro a0 k
  obtain ⟨ih0, ih1⟩ := decimal_pieces_text.mono_l k
  unfold decimal_pieces_text.f
  repeat' first
      | (with_reducible exact ih0 _ _ _ _ _)
      | (with_reducible exact ih1 _ _ _ _ _ _ _ _)
      | (with_reducible exact slices_Reverse_byte_byte.mono _ _)
      | (with_reducible exact LeO.refl _)
      | (with_reducible exact LeO.none _)
      | (with_reducible refine LeO.ite ?_ ?_)
      | (with_reducible refine LeO.bind ?_ (fun _ => ?_))
      | exact ih0 _ _ _ _ _
      | exact ih1 _ _ _ _ _ _ _ _
      | exact slices_Reverse_byte_byte.mono _ _
      | exact LeO.none _
      | refine LeO.ite ?_ ?_
      | refine LeO.bind ?_ (fun _ => ?_)
set_option maxHeartbeats 8000000 in
set_option maxRecDepth 100000 in
theorem decimal_pieces_text.calls (k : Nat) (A0 : Option Addr) (c0 : Nat) (l0 : List Int) (r : ByteArray) (w : World) (hr0 : Kd.C (Kd.int .u64) w A0 l0.length l0) (hc0 : l0.length ≤ c0) (h : decimal_pieces_text.f k l0 = some r) :
    Calls Tryd.prog 48 #[.slice A0 l0.length c0] w fun e w' => e = .returned (.string r) ∧ Below w.heap.size w w' := by
  have HR0 := Aside0.mk hr0
  have HC0 := Aside0.mk hc0
  clear hr0 hc0
  have HB := Aside0.mk (Below.refl w.heap.size w)
  have H : (if (l0.length : Int) = 0 then (some (⟨#[48]⟩ : ByteArray)) else (if 0 ≤ (wrap64 (9 * (l0.length : Int))) then (if (wrap64 (9 * (l0.length : Int)) : Int).toNat ≤ 281474976710656 then (decimal_pieces_text.l0 k l0 (([] : List Int)) l0 (l0.length : Int) 0) else (none)) else (none))) = some r := h
  clear h
  by_cases c2 : (l0.length : Int) = 0
  · rw [if_pos c2] at H
    have c2b0 : ((l0.length : Int) == 0) = true := beq_iff_eq.mpr c2
    have c2b1 : ((l0.length : Int) != 0) = false := bne_eq_false_iff_eq.mpr c2
    clear c2
    obtain rfl := Option.some.inj H
    go_enter Tryd.func48, Tryd.ntmps48
    go_wp2
    go_ret
    exact ⟨by first | rfl | (simp [errW_none, errW_some] <;> rfl) | (simp [*, errW_none, errW_some] <;> rfl), by repeat (first | (with_reducible first | exact HB.out | apply below_alloc | apply pw_below_drewN | apply below_drew1) | exact HB.out)⟩
  · rw [if_neg c2] at H
    have c2b0 : ((l0.length : Int) == 0) = false := beq_eq_false_iff_ne.mpr c2
    have c2b1 : ((l0.length : Int) != 0) = true := bne_iff_ne.mpr c2
    have c2b2 : ¬ (l0 = []) := fun h_ => c2 (by rw [h_]; rfl)
    obtain ⟨ji3, hji3⟩ : ∃ j_ : Int, (wrap64 (9 * (l0.length : Int))) = j_ := ⟨_, rfl⟩
    replace H : (if 0 ≤ (ji3) then (if (ji3 : Int).toNat ≤ 281474976710656 then (decimal_pieces_text.l0 k l0 (([] : List Int)) l0 (l0.length : Int) 0) else (none)) else (none)) = some r := by first | (rw [hji3] at H; exact H) | (simp only [hji3] at H ⊢; exact H)
    have hji3w : (IntKind.i64.wrap (9 * (l0.length : Int))) = ji3 := (i64_w _).trans hji3
    by_cases c4 : 0 ≤ (ji3)
    · rw [if_pos c4] at H
      have c4b0 := eq_true c4
      have c4b1 : decide (0 ≤ (ji3)) = true := decide_eq_true c4
      clear c4
      by_cases c5 : (ji3 : Int).toNat ≤ 281474976710656
      · rw [if_pos c5] at H
        have c5b0 := eq_true c5
        have c5b1 : decide ((ji3 : Int).toNat ≤ 281474976710656) = true := decide_eq_true c5
        clear c5
        obtain ⟨y138, hy138⟩ : ∃ y_ : List Int, y_ = (([] : List Int)) := ⟨_, rfl⟩
        replace H : (decimal_pieces_text.l0 k l0 y138 l0 (l0.length : Int) 0) = some r := by first | (rw [hy138]; with_reducible exact H) | (have H2_ := (Option.bind_some _ _).symm.trans H; rw [hy138]; with_reducible exact H2_) | (have H2_ := (Option.bind_some _ _).symm.trans H; with_reducible exact H2_) | with_reducible exact H | (rw [hy138]; exact H) | exact H
        have Ny138 := Aside0.mk hy138
        clear hy138
        have H' := Aside0.mk H
        clear H
        go_enter Tryd.func48, Tryd.ntmps48
        go_wp2_with (first | ((with_reducible refine gate_dst (N := 13) rfl ?_); (try (refine gate_guard (by rfl) ?_; dsimp only)); refine Kd.R_makec (Kd.int .u8) _ 5 rfl (N := 13) rfl 23 _ _ rfl ji3 rfl rfl Tryd.underlying23 (.int .u8 0) 1 info5 (by decide) (ok := fun _ => True) trivial (of_decide_eq_true (by first | (with_reducible assumption) | assumption)) (Nat.le_trans (Nat.mul_le_mul_right _ (of_decide_eq_true (by first | (with_reducible assumption) | assumption) : ji3.toNat ≤ 281474976710656)) (by omega)) (Below.refl _ _) (Nat.le_refl _) ?_; intro v139 w6 ho7 hb hg_ hnew_; clear hg_ hnew_; (first | rw [← Ny138.out] at ho7 | (simp only [Int.reduceToNat] at ho7; rw [← Ny138.out] at ho7)); have n0_ := Aside0.mk (Kd.R_lower ho7 (below_size (by repeat (first | (with_reducible first | exact HB.out | apply below_alloc | apply pw_below_drewN | apply below_drew1) | exact HB.out)))); have n1_ := Aside0.mk (below_step (by repeat (first | (with_reducible first | exact HB.out | apply below_alloc | apply pw_below_drewN | apply below_drew1) | exact HB.out)) hb); clear HB; have HO140 := n0_; have HB := n1_; clear n0_ n1_; clear hb ho7))
        go_loopg [3, 16] k (fun kq v3 v16 w' => ∃ (x3_1 : List Int) (x16_1 : Int), v16 = .int .i64 x16_1 ∧ Aside0 (decimal_pieces_text.l0 kq l0 x3_1 l0 (l0.length : Int) x16_1 = some r) ∧ Aside0 (kq ≤ k) ∧ Aside0 (Kd.R (Kd.int .u8) 5 w' w.heap.size (fun _ => True) v3 x3_1) ∧ Aside0 (Below w.heap.size w w'))
        case atStart => exact ⟨(y138), (0), (by first | rfl | (simp; done) | (simp [*]; done)), H', ⟨Nat.le_refl _⟩, ⟨by (with_reducible repeat (first | apply Kd.R_alloc | apply Kd.R_drewN | apply Kd.R_drew)); exact HO140.out⟩, ⟨by repeat (first | (with_reducible first | exact HB.out | apply below_alloc | apply pw_below_drewN | apply below_drew1) | exact HB.out)⟩⟩
        case round =>
          clear H'
          try clear c2
          try clear c2b0
          try clear c2b1
          try clear c2b2
          try clear p2
          try clear c4
          try clear c4b0
          try clear c4b1
          try clear c5
          try clear c5b0
          try clear c5b1
          try clear p6
          obtain ⟨x3_1, x16_1, rfl, HA, HK1, HO_3, HB⟩ := hrel
          cases gk with
          | zero => exact absurd HA.out (by simp [decimal_pieces_text.l0])
          | succ k1 =>
            have H := HA.out
            clear HA
            simp only [decimal_pieces_text.l0] at H
            by_cases c8 : x16_1 < (l0.length : Int)
            · rw [if_pos c8] at H
              have c8b0 : decide (x16_1 < (l0.length : Int)) = true := decide_eq_true c8
              clear c8
              by_cases c9 : 0 ≤ x16_1
              · rw [if_pos c9] at H
                have c9b0 : decide (0 ≤ x16_1) = true := decide_eq_true c9
                clear c9
                by_cases c10 : x16_1 < (l0.length : Int)
                · rw [if_pos c10] at H
                  have c10b0 : decide (x16_1 < (l0.length : Int)) = true := decide_eq_true c10
                  clear c10
                  have H' := Aside0.mk H
                  clear H
                  have p142 : 0 ≤ (x16_1 : Int) := of_decide_eq_true (by first | (with_reducible assumption) | assumption)
                  have q142 : x16_1 < (l0.length : Int) := of_decide_eq_true (by first | (with_reducible assumption) | assumption)
                  obtain ⟨ad142, e142, hx142_0⟩ := Kd.at_int HR0.out x16_1 p142 q142
                  cases e142
                  replace hx142_0 := (HB.out.cell (World.block_lt_of_cell? w _ hx142_0)).trans hx142_0
                  replace p142 := eq_true p142
                  replace q142 := eq_true q142
                  go_wp2
                  go_loopg [3, 5, 6] k1 (fun kq v3 v5 v6 w' => ∃ (x3_2 : List Int) (x5_2 : Int) (x6_2 : Int), v5 = .int .u64 x5_2 ∧ v6 = .int .i64 x6_2 ∧ Aside0 (decimal_pieces_text.l1 kq l0 x3_2 x16_1 x5_2 x6_2 l0 (l0.length : Int) x16_1 = some r) ∧ Aside0 (kq ≤ k1) ∧ Aside0 (Kd.R (Kd.int .u8) 5 w' w.heap.size (fun _ => True) v3 x3_2) ∧ Aside0 (Below w.heap.size w w'))
                  case atStart => exact ⟨(x3_1), (rd l0 x16_1), (0), (by first | rfl | (simp; done) | (simp [*]; done)), (by first | rfl | (simp; done) | (simp [*]; done)), H', ⟨Nat.le_refl _⟩, ⟨by (with_reducible repeat (first | apply Kd.R_alloc | apply Kd.R_drewN | apply Kd.R_drew)); exact HO_3.out⟩, ⟨by repeat (first | (with_reducible first | exact HB.out | apply below_alloc | apply pw_below_drewN | apply below_drew1) | exact HB.out)⟩⟩
                  case round =>
                    clear H'
                    try clear c1
                    try clear p1
                    try clear q1
                    try clear hx1
                    try clear c2
                    try clear c2b0
                    try clear c2b1
                    try clear c2b2
                    try clear p2
                    try clear c4
                    try clear c4b0
                    try clear c4b1
                    try clear c5
                    try clear c5b0
                    try clear c5b1
                    try clear p6
                    try clear c8
                    try clear c8b0
                    try clear c9
                    try clear c9b0
                    try clear c10
                    try clear c10b0
                    try clear hx142_0
                    try clear p142
                    try clear p2
                    try clear p6
                    try clear q142
                    obtain ⟨x3_2, x5_2, x6_2, rfl, rfl, HA, HK2, HO_3, HB⟩ := hrel
                    cases gk with
                    | zero => exact absurd HA.out (by simp [decimal_pieces_text.l1])
                    | succ k2 =>
                      have H := HA.out
                      clear HA
                      simp only [decimal_pieces_text.l1] at H
                      by_cases c11 : x6_2 < 9
                      · rw [if_pos c11] at H
                        have c11b0 : decide (x6_2 < 9) = true := decide_eq_true c11
                        clear c11
                        by_cases c12 : (wrap64 (x16_1 + 1)) < (l0.length : Int)
                        · rw [if_pos c12] at H
                          have c12b0 : decide ((wrap64 (x16_1 + 1)) < (l0.length : Int)) = true := decide_eq_true c12
                          clear c12
                          by_cases c13 : x3_2.length < 140737488355328
                          · rw [if_pos c13] at H
                            have LMc13 := Aside0.mk c13
                            clear c13
                            obtain ⟨y143, hy143⟩ : ∃ y_ : List Int, y_ = (x3_2 ++ [(IntKind.u64.wrap (48 + (Int.tmod x5_2 10))) % 256]) := ⟨_, rfl⟩
                            replace H : (decimal_pieces_text.l1 k2 l0 y143 x16_1 (IntKind.u64.wrap (Int.tdiv x5_2 10)) (wrap64 (x6_2 + 1)) l0 (l0.length : Int) x16_1) = some r := by first | (rw [hy143]; with_reducible exact H) | (have H2_ := (Option.bind_some _ _).symm.trans H; rw [hy143]; with_reducible exact H2_) | (have H2_ := (Option.bind_some _ _).symm.trans H; with_reducible exact H2_) | with_reducible exact H | (rw [hy143]; exact H) | exact H
                            have Ny143 := Aside0.mk hy143
                            clear hy143
                            have H' := Aside0.mk H
                            clear H
                            go_wp2_with (first | ((with_reducible refine gate_builtin (b := .append) (xs := #[.tmp 36, .tmp 41]) rfl ?_); (try (refine gate_guard (by rfl) ?_; dsimp only)); at_builtin; refine Kd.R_append (Kd.int .u8) (w0 := w) w.heap.size rfl (.tmp 36) (.tmp 41) 23 5 (.int .u8 0) 1 rfl Tryd.underlying23 info5 rfl (by decide) (by omega) u3 x3_2 ((IntKind.u64.wrap (48 + (Int.tmod x5_2 10))) % 256) [.int .u8 ((IntKind.u64.wrap (48 + (Int.tmod x5_2 10))) % 256)] (fun _ => True) (fun _ => False) rfl rfl ?aP (fun _ hk => hk.elim) ?aF ?aO ?aB ?aS ?aL ?_; (case aP => exact rfl); (case aB => exact (by repeat (first | (with_reducible first | exact HB.out | apply below_alloc | apply pw_below_drewN | apply below_drew1) | exact HB.out))); (case aF => exact (fun _ _ => trivial)); (case aO => exact (by (with_reducible repeat (first | apply Kd.R_alloc | apply Kd.R_drewN | apply Kd.R_drew)); exact HO_3.out)); (case aS => exact (below_size (by repeat (first | (with_reducible first | exact HB.out | apply below_alloc | apply pw_below_drewN | apply below_drew1) | exact HB.out)))); (case aL => have := LMc13.out; omega); intro v144 w14 ho hb hg hat; rw [← Ny143.out] at ho; have n0_ := Aside0.mk (hb); have n1_ := Aside0.mk (ho); clear HB; clear HO_3; have HB := n0_; have HO145 := n1_; clear n0_ n1_; clear ho hb hg hat))
                            go_roundg k2
                            case measure => have := HK1.out; have := HK2.out; omega
                            case rel => exact ⟨(y143), (IntKind.u64.wrap (Int.tdiv x5_2 10)), (wrap64 (x6_2 + 1)), (by first | rfl | (simp; done) | (simp [*]; done)), (by first | rfl | (simp; done) | (simp [*]; done)), H', ⟨by have := HK1.out; have := HK2.out; omega⟩, ⟨by (with_reducible repeat (first | apply Kd.R_alloc | apply Kd.R_drewN | apply Kd.R_drew)); exact HO145.out⟩, ⟨by repeat (first | (with_reducible first | exact HB.out | apply below_alloc | apply pw_below_drewN | apply below_drew1) | exact HB.out)⟩⟩
                          · rw [if_neg c13] at H
                            exact absurd H (by simp)
                        · rw [if_neg c12] at H
                          have c12b0 : decide ((wrap64 (x16_1 + 1)) < (l0.length : Int)) = false := decide_eq_false c12
                          clear c12
                          by_cases c15 : x5_2 > 0
                          · rw [if_pos c15] at H
                            have c15b0 : decide (0 < x5_2) = true := decide_eq_true c15
                            clear c15
                            by_cases c16 : x3_2.length < 140737488355328
                            · rw [if_pos c16] at H
                              have LMc16 := Aside0.mk c16
                              clear c16
                              obtain ⟨y146, hy146⟩ : ∃ y_ : List Int, y_ = (x3_2 ++ [(IntKind.u64.wrap (48 + (Int.tmod x5_2 10))) % 256]) := ⟨_, rfl⟩
                              replace H : (decimal_pieces_text.l1 k2 l0 y146 x16_1 (IntKind.u64.wrap (Int.tdiv x5_2 10)) (wrap64 (x6_2 + 1)) l0 (l0.length : Int) x16_1) = some r := by first | (rw [hy146]; with_reducible exact H) | (have H2_ := (Option.bind_some _ _).symm.trans H; rw [hy146]; with_reducible exact H2_) | (have H2_ := (Option.bind_some _ _).symm.trans H; with_reducible exact H2_) | with_reducible exact H | (rw [hy146]; exact H) | exact H
                              have Ny146 := Aside0.mk hy146
                              clear hy146
                              have H' := Aside0.mk H
                              clear H
                              go_wp2_with (first | ((with_reducible refine gate_builtin (b := .append) (xs := #[.tmp 36, .tmp 41]) rfl ?_); (try (refine gate_guard (by rfl) ?_; dsimp only)); at_builtin; refine Kd.R_append (Kd.int .u8) (w0 := w) w.heap.size rfl (.tmp 36) (.tmp 41) 23 5 (.int .u8 0) 1 rfl Tryd.underlying23 info5 rfl (by decide) (by omega) u3 x3_2 ((IntKind.u64.wrap (48 + (Int.tmod x5_2 10))) % 256) [.int .u8 ((IntKind.u64.wrap (48 + (Int.tmod x5_2 10))) % 256)] (fun _ => True) (fun _ => False) rfl rfl ?aP (fun _ hk => hk.elim) ?aF ?aO ?aB ?aS ?aL ?_; (case aP => exact rfl); (case aB => exact (by repeat (first | (with_reducible first | exact HB.out | apply below_alloc | apply pw_below_drewN | apply below_drew1) | exact HB.out))); (case aF => exact (fun _ _ => trivial)); (case aO => exact (by (with_reducible repeat (first | apply Kd.R_alloc | apply Kd.R_drewN | apply Kd.R_drew)); exact HO_3.out)); (case aS => exact (below_size (by repeat (first | (with_reducible first | exact HB.out | apply below_alloc | apply pw_below_drewN | apply below_drew1) | exact HB.out)))); (case aL => have := LMc16.out; omega); intro v147 w17 ho hb hg hat; rw [← Ny146.out] at ho; have n0_ := Aside0.mk (hb); have n1_ := Aside0.mk (ho); clear HB; clear HO_3; have HB := n0_; have HO148 := n1_; clear n0_ n1_; clear ho hb hg hat))
                              go_roundg k2
                              case measure => have := HK1.out; have := HK2.out; omega
                              case rel => exact ⟨(y146), (IntKind.u64.wrap (Int.tdiv x5_2 10)), (wrap64 (x6_2 + 1)), (by first | rfl | (simp; done) | (simp [*]; done)), (by first | rfl | (simp; done) | (simp [*]; done)), H', ⟨by have := HK1.out; have := HK2.out; omega⟩, ⟨by (with_reducible repeat (first | apply Kd.R_alloc | apply Kd.R_drewN | apply Kd.R_drew)); exact HO148.out⟩, ⟨by repeat (first | (with_reducible first | exact HB.out | apply below_alloc | apply pw_below_drewN | apply below_drew1) | exact HB.out)⟩⟩
                            · rw [if_neg c16] at H
                              exact absurd H (by simp)
                          · rw [if_neg c15] at H
                            have c15b0 : decide (0 < x5_2) = false := decide_eq_false c15
                            clear c15
                            have H' := Aside0.mk H
                            clear H
                            go_wp2
                            go_roundg k2
                            case measure => have := HK1.out; have := HK2.out; omega
                            case rel => exact ⟨(x3_2), (wrap64 (x16_1 + 1)), (by first | rfl | (simp; done) | (simp [*]; done)), H', ⟨by have := HK1.out; have := HK2.out; omega⟩, ⟨by (with_reducible repeat (first | apply Kd.R_alloc | apply Kd.R_drewN | apply Kd.R_drew)); exact HO_3.out⟩, ⟨by repeat (first | (with_reducible first | exact HB.out | apply below_alloc | apply pw_below_drewN | apply below_drew1) | exact HB.out)⟩⟩
                      · rw [if_neg c11] at H
                        have c11b0 : decide (x6_2 < 9) = false := decide_eq_false c11
                        clear c11
                        have H' := Aside0.mk H
                        clear H
                        go_wp2
                        go_roundg k2
                        case measure => have := HK1.out; have := HK2.out; omega
                        case rel => exact ⟨(x3_2), (wrap64 (x16_1 + 1)), (by first | rfl | (simp; done) | (simp [*]; done)), H', ⟨by have := HK1.out; have := HK2.out; omega⟩, ⟨by (with_reducible repeat (first | apply Kd.R_alloc | apply Kd.R_drewN | apply Kd.R_drew)); exact HO_3.out⟩, ⟨by repeat (first | (with_reducible first | exact HB.out | apply below_alloc | apply pw_below_drewN | apply below_drew1) | exact HB.out)⟩⟩
                · rw [if_neg c10] at H
                  exact absurd H (by simp)
              · rw [if_neg c9] at H
                exact absurd H (by simp)
            · rw [if_neg c8] at H
              have c8b0 : decide (x16_1 < (l0.length : Int)) = false := decide_eq_false c8
              clear c8
              replace H := Option.bind_eq_some_iff.mp H
              obtain ⟨t141, A180, H⟩ := H
              replace H : (some (strOfNums t141)) = some r := H
              have A18 := Aside0.mk A180
              clear A180
              obtain rfl := Option.some.inj H
              obtain ⟨Ao19, co19, eo19⟩ := Kd.R_slice HO_3.out
              subst eo19
              go_wp2_with (first | ((with_reducible refine gate_callee (f := 62) rfl ?_); refine goesL_ (some 47) rfl rfl Tryd.func62 (by kernel_rfl) rfl #[.slice Ao19 x3_1.length co19] rfl (by (try simp only [List.map_toArray, List.map_cons, List.map_nil]); first | done | rfl | (simp only [List.length_drop, List.length_take]; rfl)) ?_; (with_reducible refine (slices_Reverse_byte_byte.calls k1 (fun k_ => some k_ = (.slice Ao19 x3_1.length co19 : Value).ownBlock) (.slice Ao19 x3_1.length co19) x3_1 t141 w _ ?side1 ?side2 A18.out).mono ?_); (case side1 => repeat (first | (with_reducible first | exact HB.out | apply below_alloc | apply pw_below_drewN | apply below_drew1) | exact HB.out)); (case side2 => exact Kd.R_tight rfl HO_3.out); rintro e w20 ⟨rfl, hy0, hb, hkp⟩; refine ⟨_, rfl, ?_⟩; have n0_ := Aside0.mk (Kd.R_reok rfl hy0 (fun k_ e_ => HO_3.out.1 k_ e_)); have n1_ := Aside0.mk (hb); clear HO_3; clear HB; have HO_3 := n0_; have HB := n1_; clear n0_ n1_; (try clear hb); (try clear hkp); (try clear hy0); have hcv21 := own_string (P := Tryd.prog) Tryd.underlying23 Tryd.underlying5 Tryd.underlying26 (Kd.own_of_R HO_3.out)))
              go_ret
              exact ⟨by first | rfl | (simp [errW_none, errW_some] <;> rfl) | (simp only [← hji3]; first | rfl | (simp [errW_none, errW_some] <;> rfl)) | (simp [*, errW_none, errW_some] <;> rfl), by repeat (first | (with_reducible first | exact HB.out | apply below_alloc | apply pw_below_drewN | apply below_drew1) | exact HB.out)⟩
      · rw [if_neg c5] at H
        exact absurd H (by simp)
    · rw [if_neg c4] at H
      exact absurd H (by simp)

/-! ### decimal_pieces_back: function 56 -/
def decimal_pieces_back.l0 : Nat → List Int → List Int → Int → Int → Int → Option (List Int)
  | 0, _, _, _, _, _ => none
  | k + 1, x0, x1, x2, x6, x7 => if x7 ≤ (x1.length : Int) then (if 0 ≤ (wrap64 (x2 + x7)) then (if (wrap64 (x2 + x7)) < (x0.length : Int) then (if x7 < (x1.length : Int) then (if 0 ≤ x7 then (decimal_pieces_back.l0 k (x0.set ((wrap64 (x2 + x7)) : Int).toNat (Int.tmod (IntKind.u64.wrap ((IntKind.u64.wrap (x6 + (rd x0 (wrap64 (x2 + x7))))) + (rd x1 x7))) 1000000000)) x1 x2 (IntKind.u64.wrap (Int.tdiv (IntKind.u64.wrap ((IntKind.u64.wrap (x6 + (rd x0 (wrap64 (x2 + x7))))) + (rd x1 x7))) 1000000000)) (wrap64 (x7 + 1))) else (none)) else (decimal_pieces_back.l0 k (x0.set ((wrap64 (x2 + x7)) : Int).toNat (Int.tmod (IntKind.u64.wrap (x6 + (rd x0 (wrap64 (x2 + x7))))) 1000000000)) x1 x2 (IntKind.u64.wrap (Int.tdiv (IntKind.u64.wrap (x6 + (rd x0 (wrap64 (x2 + x7))))) 1000000000)) (wrap64 (x7 + 1)))) else (none)) else (none)) else (some x0)
def decimal_pieces_back.f (k : Nat) (l0 : List Int) (l1 : List Int) (a2 : Int) : Option (List Int) := decimal_pieces_back.l0 k l0 l1 a2 0 0
theorem decimal_pieces_back.mono_l : ∀ k, (∀ y0 y1 y2 y3 y4, LeO (decimal_pieces_back.l0 k y0 y1 y2 y3 y4) (decimal_pieces_back.l0 (k + 1) y0 y1 y2 y3 y4))
  | 0 => fun _ _ _ _ _ r h => by simp [decimal_pieces_back.l0] at h
  | k + 1 => by
    have ih0 := decimal_pieces_back.mono_l k
    · intro y0 y1 y2 y3 y4
      unfold decimal_pieces_back.l0
      repeat' first
      | (with_reducible exact ih0 _ _ _ _ _)
      | (with_reducible exact LeO.refl _)
      | (with_reducible exact LeO.none _)
      | (with_reducible refine LeO.ite ?_ ?_)
      | (with_reducible refine LeO.bind ?_ (fun _ => ?_))
      | exact ih0 _ _ _ _ _
      | exact LeO.none _
      | refine LeO.ite ?_ ?_
      | refine LeO.bind ?_ (fun _ => ?_)
theorem decimal_pieces_back.mono : ∀ a0 a1 a2 k, LeO (decimal_pieces_back.f k a0 a1 a2) (decimal_pieces_back.f (k + 1) a0 a1 a2) := by
  intro a0 a1 a2 k
  have ih0 := decimal_pieces_back.mono_l k
  unfold decimal_pieces_back.f
  repeat' first
      | (with_reducible exact ih0 _ _ _ _ _)
      | (with_reducible exact LeO.refl _)
      | (with_reducible exact LeO.none _)
      | (with_reducible refine LeO.ite ?_ ?_)
      | (with_reducible refine LeO.bind ?_ (fun _ => ?_))
      | exact ih0 _ _ _ _ _
      | exact LeO.none _
      | refine LeO.ite ?_ ?_
      | refine LeO.bind ?_ (fun _ => ?_)
set_option maxHeartbeats 8000000 in
set_option maxRecDepth 100000 in
theorem decimal_pieces_back.calls (k : Nat) (P0_ : Nat → Prop) (u9000_ : Value) (l0 : List Int) (A1 : Option Addr) (c1 : Nat) (l1 : List Int) (a2 : Int) (r : List Int) (w0 w : World) (hB : Below w0.heap.size w0 w) (ho0 : Kd.R (Kd.int .u64) 22 w w0.heap.size P0_ u9000_ l0) (hr1 : ∀ W_, Kept w W_ (fun k_ => P0_ k_) → Kd.C (Kd.int .u64) W_ A1 l1.length l1) (hc1 : l1.length ≤ c1) (h : decimal_pieces_back.f k l0 l1 a2 = some r) :
    Calls Tryd.prog 56 #[u9000_, .slice A1 l1.length c1, .int .i64 a2] w fun e w' => e = .returned (.tuple #[]) ∧ Kd.R (Kd.int .u64) 22 w' w0.heap.size (fun k_ => (P0_ k_ ∨ w.heap.size ≤ k_)) u9000_ r ∧ Below w0.heap.size w0 w' ∧ Kept w w' (fun k_ => P0_ k_) := by
  have HO0 := Aside0.mk (show Kd.R (Kd.int .u64) 22 w w0.heap.size (fun k_ => (P0_ k_ ∨ w.heap.size ≤ k_)) u9000_ l0 from Kd.R_mono ho0 (fun k_ hk => (.inl hk)))
  have HR1 := Aside0.mk hr1
  have HC1 := Aside0.mk hc1
  clear hr1 hc1
  have HK := Aside0.mk (Kept.refl w (fun k_ => P0_ k_))
  have HW0 := Aside0.mk hB.size
  have HB := Aside0.mk hB
  clear hB
  have H : (decimal_pieces_back.l0 k l0 l1 a2 0 0) = some r := h
  clear h
  have H' := Aside0.mk H
  clear H
  go_enter Tryd.func56, Tryd.ntmps56
  go_wp2
  go_loopg [6, 7] k (fun kq v6 v7 w' => ∃ (x0_1 : List Int) (x6_1 : Int) (x7_1 : Int), v6 = .int .u64 x6_1 ∧ v7 = .int .i64 x7_1 ∧ Aside0 (decimal_pieces_back.l0 kq x0_1 l1 a2 x6_1 x7_1 = some r) ∧ Aside0 (kq ≤ k) ∧ Aside0 (Kd.R (Kd.int .u64) 22 w' w0.heap.size (fun k_ => (P0_ k_ ∨ w.heap.size ≤ k_)) u9000_ x0_1) ∧ Aside0 (Kept w w' (fun k_ => P0_ k_)) ∧ Aside0 (Below w0.heap.size w0 w'))
  case atStart => exact ⟨(l0), (0), (0), (by first | rfl | (simp; done) | (simp [*]; done)), (by first | rfl | (simp; done) | (simp [*]; done)), H', ⟨Nat.le_refl _⟩, ⟨by (with_reducible repeat (first | apply Kd.R_alloc | apply Kd.R_drewN | apply Kd.R_drew)); exact HO0.out⟩, ⟨by repeat (first | (with_reducible first | exact HK.out | apply Kept.alloc | apply Kept.drewN | apply Kept.drew) | exact HK.out)⟩, ⟨by repeat (first | (with_reducible first | exact HB.out | apply below_alloc | apply pw_below_drewN | apply below_drew1) | exact HB.out)⟩⟩
  case round =>
    clear H'
    try clear c1
    try clear p2
    obtain ⟨x0_1, x6_1, x7_1, rfl, rfl, HA, HK1, HO_0, HK, HB⟩ := hrel
    cases gk with
    | zero => exact absurd HA.out (by simp [decimal_pieces_back.l0])
    | succ k1 =>
      have H := HA.out
      clear HA
      simp only [decimal_pieces_back.l0] at H
      by_cases c4 : x7_1 ≤ (l1.length : Int)
      · rw [if_pos c4] at H
        have c4b0 : decide (x7_1 ≤ (l1.length : Int)) = true := decide_eq_true c4
        clear c4
        obtain ⟨ji5, hji5⟩ : ∃ j_ : Int, (wrap64 (a2 + x7_1)) = j_ := ⟨_, rfl⟩
        replace H : (if 0 ≤ (ji5) then (if (ji5) < (x0_1.length : Int) then (if x7_1 < (l1.length : Int) then (if 0 ≤ x7_1 then (decimal_pieces_back.l0 k1 (x0_1.set ((ji5) : Int).toNat (Int.tmod (IntKind.u64.wrap ((IntKind.u64.wrap (x6_1 + (rd x0_1 (ji5)))) + (rd l1 x7_1))) 1000000000)) l1 a2 (IntKind.u64.wrap (Int.tdiv (IntKind.u64.wrap ((IntKind.u64.wrap (x6_1 + (rd x0_1 (ji5)))) + (rd l1 x7_1))) 1000000000)) (wrap64 (x7_1 + 1))) else (none)) else (decimal_pieces_back.l0 k1 (x0_1.set ((ji5) : Int).toNat (Int.tmod (IntKind.u64.wrap (x6_1 + (rd x0_1 (ji5)))) 1000000000)) l1 a2 (IntKind.u64.wrap (Int.tdiv (IntKind.u64.wrap (x6_1 + (rd x0_1 (ji5)))) 1000000000)) (wrap64 (x7_1 + 1)))) else (none)) else (none)) = some r := by first | (rw [hji5] at H; exact H) | (simp only [hji5] at H ⊢; exact H)
        have hji5w : (IntKind.i64.wrap (a2 + x7_1)) = ji5 := (i64_w _).trans hji5
        by_cases c6 : 0 ≤ (ji5)
        · rw [if_pos c6] at H
          have c6b0 : decide (0 ≤ (ji5)) = true := decide_eq_true c6
          clear c6
          by_cases c7 : (ji5) < (x0_1.length : Int)
          · rw [if_pos c7] at H
            have c7b0 : decide ((ji5) < (x0_1.length : Int)) = true := decide_eq_true c7
            clear c7
            by_cases c8 : x7_1 < (l1.length : Int)
            · rw [if_pos c8] at H
              have c8b0 : decide (x7_1 < (l1.length : Int)) = true := decide_eq_true c8
              clear c8
              by_cases c9 : 0 ≤ x7_1
              · rw [if_pos c9] at H
                have c9b0 : decide (0 ≤ x7_1) = true := decide_eq_true c9
                clear c9
                obtain ⟨y151, hy151⟩ : ∃ y_ : List Int, y_ = (x0_1.set ((ji5) : Int).toNat (Int.tmod (IntKind.u64.wrap ((IntKind.u64.wrap (x6_1 + (rd x0_1 (ji5)))) + (rd l1 x7_1))) 1000000000)) := ⟨_, rfl⟩
                replace H : (decimal_pieces_back.l0 k1 y151 l1 a2 (IntKind.u64.wrap (Int.tdiv (IntKind.u64.wrap ((IntKind.u64.wrap (x6_1 + (rd x0_1 (ji5)))) + (rd l1 x7_1))) 1000000000)) (wrap64 (x7_1 + 1))) = some r := by first | (rw [hy151]; with_reducible exact H) | (have H2_ := (Option.bind_some _ _).symm.trans H; rw [hy151]; with_reducible exact H2_) | (have H2_ := (Option.bind_some _ _).symm.trans H; with_reducible exact H2_) | with_reducible exact H | (rw [hy151]; exact H) | exact H
                have Ny151 := Aside0.mk hy151
                clear hy151
                have H' := Aside0.mk H
                clear H
                obtain ⟨Ao11, co11, eo11⟩ := Kd.R_slice HO_0.out
                subst eo11
                have p149 : 0 ≤ ((ji5) : Int) := of_decide_eq_true (by first | (with_reducible assumption) | assumption)
                have q149 : (ji5) < (x0_1.length : Int) := of_decide_eq_true (by first | (with_reducible assumption) | assumption)
                obtain ⟨ad149, e149, hx149_0⟩ := Kd.at_int (Kd.R_reads' HO_0.out).2.2 (ji5) p149 q149
                cases e149
                replace p149 := eq_true p149
                replace q149 := eq_true q149
                have p150 : 0 ≤ (x7_1 : Int) := of_decide_eq_true (by first | (with_reducible assumption) | assumption)
                have q150 : x7_1 < (l1.length : Int) := of_decide_eq_true (by first | (with_reducible assumption) | assumption)
                obtain ⟨ad150, e150, hx150_0⟩ := Kd.at_int (Kd.C_kept_now HR1.out HK.out) x7_1 p150 q150
                cases e150
                replace p150 := eq_true p150
                replace q150 := eq_true q150
                have p10 : 0 ≤ ((ji5) : Int) := of_decide_eq_true (by first | (with_reducible assumption) | assumption)
                have q10 : ((ji5) : Int) < ((x0_1.length : Int) : Int) := of_decide_eq_true (by first | (with_reducible assumption) | assumption)
                obtain ⟨go10, co10, eo10, gb10, gl10, cl10, HG10⟩ := Kd.R_form HO_0.out (by omega)
                (first | cases eo10 | (injection eo10 with ea_ en_ ec_; (first | subst ea_ | (injection ea_ with ea_; subst ea_)); subst ec_; clear en_))
                have GB10 := Aside0.mk gb10
                have GG10 := Aside0.mk HG10
                clear gb10 gl10 HG10
                have HMgo10 := Aside0.mk (show (P0_ go10 ∨ w.heap.size ≤ go10) from (HO_0.out.1 _ rfl))
                (first | simp only [add_plain] at hx149_0 | skip)
                obtain ⟨hx10_0, hf10_0⟩ := Kd.R_celln 0 HO_0.out ((ji5) : Int) p10 q10
                replace p10 := eq_true p10
                replace q10 := eq_true q10
                have HP12 := Kd.R_putg HO_0.out ((ji5) : Int) (Int.tmod (IntKind.u64.wrap ((IntKind.u64.wrap (x6_1 + (rd x0_1 (ji5)))) + (rd l1 x7_1))) 1000000000)
                go_wp2_with (first | ((with_reducible refine gate_store (t := 22) (p := 38) rfl ?_); refine store_event (t := 22) (p := 38) (v := ?vo_w13) (w1 := (wr.setCell ⟨go10, ((ji5) : Int).toNat, none⟩ (.int .u64 (Int.tmod (IntKind.u64.wrap ((IntKind.u64.wrap (x6_1 + (rd x0_1 (ji5)))) + (rd l1 x7_1))) 1000000000)))) ?hg ?ho ?hn ?hr ?_; (case ho => rfl); (case hg => rfl); (case hn => rfl); (case hr => first | (go_simp; done) | (go_simp; rfl)); intro w13 hw; have hg : wr.grownBy w13 (some go10) := (by rw [hw]; exact HP12.2); have hp_ : Kd.R (Kd.int .u64) 22 w13 w0.heap.size (fun k_ => (P0_ k_ ∨ w.heap.size ≤ k_)) (.slice (some ⟨go10, 0, none⟩) x0_1.length co11) y151 := (by rw [hw, Ny151.out]; exact HP12.1); clear HP12; have n0_ := Aside0.mk (hp_); have n1_ := Aside0.mk ((by rw [hw]; exact below_set (HB.out) GB10.out : Below w0.heap.size w0 w13)); have n2_ := Aside0.mk (Kept.of_grown (S := (fun k_ => P0_ k_)) hg (by repeat (first | (with_reducible first | exact HK.out | apply Kept.alloc | apply Kept.drewN | apply Kept.drew) | exact HK.out)) (fun k_ e_ => (HO_0.out.1 k_ e_))); clear HO_0; clear HB; clear HK; have HO_0 := n0_; have HB := n1_; have HK := n2_; clear n0_ n1_ n2_; clear hg hw hp_))
                go_roundg k1
                case measure => have := HK1.out; omega
                case rel => exact ⟨(y151), (IntKind.u64.wrap (Int.tdiv (IntKind.u64.wrap ((IntKind.u64.wrap (x6_1 + (rd x0_1 (ji5)))) + (rd l1 x7_1))) 1000000000)), (wrap64 (x7_1 + 1)), (by first | rfl | (simp; done) | (simp only [← hji5] <;> (first | rfl | simp)) | (simp [*]; done)), (by first | rfl | (simp; done) | (simp [*]; done)), H', ⟨by have := HK1.out; omega⟩, ⟨by (with_reducible repeat (first | apply Kd.R_alloc | apply Kd.R_drewN | apply Kd.R_drew)); exact HO_0.out⟩, ⟨by repeat (first | (with_reducible first | exact HK.out | apply Kept.alloc | apply Kept.drewN | apply Kept.drew) | exact HK.out)⟩, ⟨by repeat (first | (with_reducible first | exact HB.out | apply below_alloc | apply pw_below_drewN | apply below_drew1) | exact HB.out)⟩⟩
              · rw [if_neg c9] at H
                exact absurd H (by simp)
            · rw [if_neg c8] at H
              have c8b0 : decide (x7_1 < (l1.length : Int)) = false := decide_eq_false c8
              clear c8
              obtain ⟨y152, hy152⟩ : ∃ y_ : List Int, y_ = (x0_1.set ((ji5) : Int).toNat (Int.tmod (IntKind.u64.wrap (x6_1 + (rd x0_1 (ji5)))) 1000000000)) := ⟨_, rfl⟩
              replace H : (decimal_pieces_back.l0 k1 y152 l1 a2 (IntKind.u64.wrap (Int.tdiv (IntKind.u64.wrap (x6_1 + (rd x0_1 (ji5)))) 1000000000)) (wrap64 (x7_1 + 1))) = some r := by first | (rw [hy152]; with_reducible exact H) | (have H2_ := (Option.bind_some _ _).symm.trans H; rw [hy152]; with_reducible exact H2_) | (have H2_ := (Option.bind_some _ _).symm.trans H; with_reducible exact H2_) | with_reducible exact H | (rw [hy152]; exact H) | exact H
              have Ny152 := Aside0.mk hy152
              clear hy152
              have H' := Aside0.mk H
              clear H
              obtain ⟨Ao15, co15, eo15⟩ := Kd.R_slice HO_0.out
              subst eo15
              have p149 : 0 ≤ ((ji5) : Int) := of_decide_eq_true (by first | (with_reducible assumption) | assumption)
              have q149 : (ji5) < (x0_1.length : Int) := of_decide_eq_true (by first | (with_reducible assumption) | assumption)
              obtain ⟨ad149, e149, hx149_0⟩ := Kd.at_int (Kd.R_reads' HO_0.out).2.2 (ji5) p149 q149
              cases e149
              replace p149 := eq_true p149
              replace q149 := eq_true q149
              have p14 : 0 ≤ ((ji5) : Int) := of_decide_eq_true (by first | (with_reducible assumption) | assumption)
              have q14 : ((ji5) : Int) < ((x0_1.length : Int) : Int) := of_decide_eq_true (by first | (with_reducible assumption) | assumption)
              obtain ⟨go14, co14, eo14, gb14, gl14, cl14, HG14⟩ := Kd.R_form HO_0.out (by omega)
              (first | cases eo14 | (injection eo14 with ea_ en_ ec_; (first | subst ea_ | (injection ea_ with ea_; subst ea_)); subst ec_; clear en_))
              have GB14 := Aside0.mk gb14
              have GG14 := Aside0.mk HG14
              clear gb14 gl14 HG14
              have HMgo14 := Aside0.mk (show (P0_ go14 ∨ w.heap.size ≤ go14) from (HO_0.out.1 _ rfl))
              (first | simp only [add_plain] at hx149_0 | skip)
              obtain ⟨hx14_0, hf14_0⟩ := Kd.R_celln 0 HO_0.out ((ji5) : Int) p14 q14
              replace p14 := eq_true p14
              replace q14 := eq_true q14
              have HP16 := Kd.R_putg HO_0.out ((ji5) : Int) (Int.tmod (IntKind.u64.wrap (x6_1 + (rd x0_1 (ji5)))) 1000000000)
              go_wp2_with (first | ((with_reducible refine gate_store (t := 22) (p := 38) rfl ?_); refine store_event (t := 22) (p := 38) (v := ?vo_w17) (w1 := (wr.setCell ⟨go14, ((ji5) : Int).toNat, none⟩ (.int .u64 (Int.tmod (IntKind.u64.wrap (x6_1 + (rd x0_1 (ji5)))) 1000000000)))) ?hg ?ho ?hn ?hr ?_; (case ho => rfl); (case hg => rfl); (case hn => rfl); (case hr => first | (go_simp; done) | (go_simp; rfl)); intro w17 hw; have hg : wr.grownBy w17 (some go14) := (by rw [hw]; exact HP16.2); have hp_ : Kd.R (Kd.int .u64) 22 w17 w0.heap.size (fun k_ => (P0_ k_ ∨ w.heap.size ≤ k_)) (.slice (some ⟨go14, 0, none⟩) x0_1.length co15) y152 := (by rw [hw, Ny152.out]; exact HP16.1); clear HP16; have n0_ := Aside0.mk (hp_); have n1_ := Aside0.mk ((by rw [hw]; exact below_set (HB.out) GB14.out : Below w0.heap.size w0 w17)); have n2_ := Aside0.mk (Kept.of_grown (S := (fun k_ => P0_ k_)) hg (by repeat (first | (with_reducible first | exact HK.out | apply Kept.alloc | apply Kept.drewN | apply Kept.drew) | exact HK.out)) (fun k_ e_ => (HO_0.out.1 k_ e_))); clear HO_0; clear HB; clear HK; have HO_0 := n0_; have HB := n1_; have HK := n2_; clear n0_ n1_ n2_; clear hg hw hp_))
              go_roundg k1
              case measure => have := HK1.out; omega
              case rel => exact ⟨(y152), (IntKind.u64.wrap (Int.tdiv (IntKind.u64.wrap (x6_1 + (rd x0_1 (ji5)))) 1000000000)), (wrap64 (x7_1 + 1)), (by first | rfl | (simp; done) | (simp only [← hji5] <;> (first | rfl | simp)) | (simp [*]; done)), (by first | rfl | (simp; done) | (simp [*]; done)), H', ⟨by have := HK1.out; omega⟩, ⟨by (with_reducible repeat (first | apply Kd.R_alloc | apply Kd.R_drewN | apply Kd.R_drew)); exact HO_0.out⟩, ⟨by repeat (first | (with_reducible first | exact HK.out | apply Kept.alloc | apply Kept.drewN | apply Kept.drew) | exact HK.out)⟩, ⟨by repeat (first | (with_reducible first | exact HB.out | apply below_alloc | apply pw_below_drewN | apply below_drew1) | exact HB.out)⟩⟩
          · rw [if_neg c7] at H
            exact absurd H (by simp)
        · rw [if_neg c6] at H
          exact absurd H (by simp)
      · rw [if_neg c4] at H
        have c4b0 : decide (x7_1 ≤ (l1.length : Int)) = false := decide_eq_false c4
        clear c4
        obtain rfl := Option.some.inj H
        go_wp2
        first | go_end0 | ((try simp only [Exit.inBlock, Exit.then]); refine bodyPost_ret (results_none rfl _ _ _) rfl ?_)
        exact ⟨by first | rfl | (simp [errW_none, errW_some] <;> rfl) | (simp [*, errW_none, errW_some] <;> rfl), by (with_reducible repeat (first | apply Kd.R_alloc | apply Kd.R_drewN | apply Kd.R_drew)); exact HO_0.out, by repeat (first | (with_reducible first | exact HB.out | apply below_alloc | apply pw_below_drewN | apply below_drew1) | exact HB.out), by repeat (first | (with_reducible first | exact HK.out | apply Kept.alloc | apply Kept.drewN | apply Kept.drew) | exact HK.out)⟩

/-! ### decimal_pieces_take: function 58 -/
def decimal_pieces_take.l0 : Nat → List Int → List Int → Int → Int → Int → Int → Int → Option (Bool × List Int)
  | 0, _, _, _, _, _, _, _ => none
  | k + 1, x0, x1, x2, x3, x9, x10, x11 => if x11 ≤ (x1.length : Int) then (if x11 < (x1.length : Int) then (if 0 ≤ x11 then (if 0 ≤ (wrap64 (x3 + x11)) then (if (wrap64 (x3 + x11)) < (x0.length : Int) then (if (wrap64 ((wrap64 ((wrap64 (rd x0 (wrap64 (x3 + x11)))) - (wrap64 (Int.tmod (IntKind.u64.wrap (x10 + (IntKind.u64.wrap (x2 * (rd x1 x11))))) 1000000000)))) - x9)) < 0 then (decimal_pieces_take.l0 k (x0.set ((wrap64 (x3 + x11)) : Int).toNat (IntKind.u64.wrap (wrap64 ((wrap64 ((wrap64 ((wrap64 (rd x0 (wrap64 (x3 + x11)))) - (wrap64 (Int.tmod (IntKind.u64.wrap (x10 + (IntKind.u64.wrap (x2 * (rd x1 x11))))) 1000000000)))) - x9)) + 1000000000)))) x1 x2 x3 1 (IntKind.u64.wrap (Int.tdiv (IntKind.u64.wrap (x10 + (IntKind.u64.wrap (x2 * (rd x1 x11))))) 1000000000)) (wrap64 (x11 + 1))) else (decimal_pieces_take.l0 k (x0.set ((wrap64 (x3 + x11)) : Int).toNat (IntKind.u64.wrap (wrap64 ((wrap64 ((wrap64 (rd x0 (wrap64 (x3 + x11)))) - (wrap64 (Int.tmod (IntKind.u64.wrap (x10 + (IntKind.u64.wrap (x2 * (rd x1 x11))))) 1000000000)))) - x9)))) x1 x2 x3 0 (IntKind.u64.wrap (Int.tdiv (IntKind.u64.wrap (x10 + (IntKind.u64.wrap (x2 * (rd x1 x11))))) 1000000000)) (wrap64 (x11 + 1)))) else (none)) else (none)) else (none)) else (if 0 ≤ (wrap64 (x3 + x11)) then (if (wrap64 (x3 + x11)) < (x0.length : Int) then (if (wrap64 ((wrap64 ((wrap64 (rd x0 (wrap64 (x3 + x11)))) - (wrap64 (Int.tmod x10 1000000000)))) - x9)) < 0 then (decimal_pieces_take.l0 k (x0.set ((wrap64 (x3 + x11)) : Int).toNat (IntKind.u64.wrap (wrap64 ((wrap64 ((wrap64 ((wrap64 (rd x0 (wrap64 (x3 + x11)))) - (wrap64 (Int.tmod x10 1000000000)))) - x9)) + 1000000000)))) x1 x2 x3 1 (IntKind.u64.wrap (Int.tdiv x10 1000000000)) (wrap64 (x11 + 1))) else (decimal_pieces_take.l0 k (x0.set ((wrap64 (x3 + x11)) : Int).toNat (IntKind.u64.wrap (wrap64 ((wrap64 ((wrap64 (rd x0 (wrap64 (x3 + x11)))) - (wrap64 (Int.tmod x10 1000000000)))) - x9)))) x1 x2 x3 0 (IntKind.u64.wrap (Int.tdiv x10 1000000000)) (wrap64 (x11 + 1)))) else (none)) else (none))) else (some (decide (x9 > 0), x0))
def decimal_pieces_take.f (k : Nat) (l0 : List Int) (l1 : List Int) (a2 : Int) (a3 : Int) : Option (Bool × List Int) := decimal_pieces_take.l0 k l0 l1 a2 a3 0 0 0
theorem decimal_pieces_take.mono_l : ∀ k, (∀ y0 y1 y2 y3 y4 y5 y6, LeO (decimal_pieces_take.l0 k y0 y1 y2 y3 y4 y5 y6) (decimal_pieces_take.l0 (k + 1) y0 y1 y2 y3 y4 y5 y6))
  | 0 => fun _ _ _ _ _ _ _ r h => by simp [decimal_pieces_take.l0] at h
  | k + 1 => by
    have ih0 := decimal_pieces_take.mono_l k
    · intro y0 y1 y2 y3 y4 y5 y6
      unfold decimal_pieces_take.l0
      repeat' first
      | (with_reducible exact ih0 _ _ _ _ _ _ _)
      | (with_reducible exact LeO.refl _)
      | (with_reducible exact LeO.none _)
      | (with_reducible refine LeO.ite ?_ ?_)
      | (with_reducible refine LeO.bind ?_ (fun _ => ?_))
      | exact ih0 _ _ _ _ _ _ _
      | exact LeO.none _
      | refine LeO.ite ?_ ?_
      | refine LeO.bind ?_ (fun _ => ?_)
theorem decimal_pieces_take.mono : ∀ a0 a1 a2 a3 k, LeO (decimal_pieces_take.f k a0 a1 a2 a3) (decimal_pieces_take.f (k + 1) a0 a1 a2 a3) := by
  intro a0 a1 a2 a3 k
  have ih0 := decimal_pieces_take.mono_l k
  unfold decimal_pieces_take.f
  repeat' first
      | (with_reducible exact ih0 _ _ _ _ _ _ _)
      | (with_reducible exact LeO.refl _)
      | (with_reducible exact LeO.none _)
      | (with_reducible refine LeO.ite ?_ ?_)
      | (with_reducible refine LeO.bind ?_ (fun _ => ?_))
      | exact ih0 _ _ _ _ _ _ _
      | exact LeO.none _
      | refine LeO.ite ?_ ?_
      | refine LeO.bind ?_ (fun _ => ?_)
set_option maxHeartbeats 8000000 in
set_option maxRecDepth 100000 in
theorem decimal_pieces_take.calls (k : Nat) (P0_ : Nat → Prop) (u9000_ : Value) (l0 : List Int) (A1 : Option Addr) (c1 : Nat) (l1 : List Int) (a2 : Int) (a3 : Int) (r1 : Bool) (r2 : List Int) (w0 w : World) (hB : Below w0.heap.size w0 w) (ho0 : Kd.R (Kd.int .u64) 22 w w0.heap.size P0_ u9000_ l0) (hr1 : ∀ W_, Kept w W_ (fun k_ => P0_ k_) → Kd.C (Kd.int .u64) W_ A1 l1.length l1) (hc1 : l1.length ≤ c1) (h : decimal_pieces_take.f k l0 l1 a2 a3 = some (r1, r2)) :
    Calls Tryd.prog 58 #[u9000_, .slice A1 l1.length c1, .int .u64 a2, .int .i64 a3] w fun e w' => e = .returned (.bool r1) ∧ Kd.R (Kd.int .u64) 22 w' w0.heap.size (fun k_ => (P0_ k_ ∨ w.heap.size ≤ k_)) u9000_ r2 ∧ Below w0.heap.size w0 w' ∧ Kept w w' (fun k_ => P0_ k_) := by
  have HO0 := Aside0.mk (show Kd.R (Kd.int .u64) 22 w w0.heap.size (fun k_ => (P0_ k_ ∨ w.heap.size ≤ k_)) u9000_ l0 from Kd.R_mono ho0 (fun k_ hk => (.inl hk)))
  have HR1 := Aside0.mk hr1
  have HC1 := Aside0.mk hc1
  clear hr1 hc1
  have HK := Aside0.mk (Kept.refl w (fun k_ => P0_ k_))
  have HW0 := Aside0.mk hB.size
  have HB := Aside0.mk hB
  clear hB
  have H : (decimal_pieces_take.l0 k l0 l1 a2 a3 0 0 0) = some (r1, r2) := h
  clear h
  have H' := Aside0.mk H
  clear H
  go_enter Tryd.func58, Tryd.ntmps58
  go_wp2
  go_loopg [9, 10, 11] k (fun kq v9 v10 v11 w' => ∃ (x0_1 : List Int) (x9_1 : Int) (x10_1 : Int) (x11_1 : Int), v9 = .int .i64 x9_1 ∧ v10 = .int .u64 x10_1 ∧ v11 = .int .i64 x11_1 ∧ Aside0 (decimal_pieces_take.l0 kq x0_1 l1 a2 a3 x9_1 x10_1 x11_1 = some (r1, r2)) ∧ Aside0 (kq ≤ k) ∧ Aside0 (Kd.R (Kd.int .u64) 22 w' w0.heap.size (fun k_ => (P0_ k_ ∨ w.heap.size ≤ k_)) u9000_ x0_1) ∧ Aside0 (Kept w w' (fun k_ => P0_ k_)) ∧ Aside0 (Below w0.heap.size w0 w'))
  case atStart => exact ⟨(l0), (0), (0), (0), (by first | rfl | (simp; done) | (simp [*]; done)), (by first | rfl | (simp; done) | (simp [*]; done)), (by first | rfl | (simp; done) | (simp [*]; done)), H', ⟨Nat.le_refl _⟩, ⟨by (with_reducible repeat (first | apply Kd.R_alloc | apply Kd.R_drewN | apply Kd.R_drew)); exact HO0.out⟩, ⟨by repeat (first | (with_reducible first | exact HK.out | apply Kept.alloc | apply Kept.drewN | apply Kept.drew) | exact HK.out)⟩, ⟨by repeat (first | (with_reducible first | exact HB.out | apply below_alloc | apply pw_below_drewN | apply below_drew1) | exact HB.out)⟩⟩
  case round =>
    clear H'
    try clear c1
    try clear p2
    obtain ⟨x0_1, x9_1, x10_1, x11_1, rfl, rfl, rfl, HA, HK1, HO_0, HK, HB⟩ := hrel
    cases gk with
    | zero => exact absurd HA.out (by simp [decimal_pieces_take.l0])
    | succ k1 =>
      have H := HA.out
      clear HA
      simp only [decimal_pieces_take.l0] at H
      by_cases c5 : x11_1 ≤ (l1.length : Int)
      · rw [if_pos c5] at H
        have c5b0 : decide (x11_1 ≤ (l1.length : Int)) = true := decide_eq_true c5
        clear c5
        by_cases c6 : x11_1 < (l1.length : Int)
        · rw [if_pos c6] at H
          have c6b0 : decide (x11_1 < (l1.length : Int)) = true := decide_eq_true c6
          clear c6
          by_cases c7 : 0 ≤ x11_1
          · rw [if_pos c7] at H
            have c7b0 : decide (0 ≤ x11_1) = true := decide_eq_true c7
            clear c7
            obtain ⟨ji8, hji8⟩ : ∃ j_ : Int, (wrap64 (a3 + x11_1)) = j_ := ⟨_, rfl⟩
            replace H : (if 0 ≤ (ji8) then (if (ji8) < (x0_1.length : Int) then (if (wrap64 ((wrap64 ((wrap64 (rd x0_1 (ji8))) - (wrap64 (Int.tmod (IntKind.u64.wrap (x10_1 + (IntKind.u64.wrap (a2 * (rd l1 x11_1))))) 1000000000)))) - x9_1)) < 0 then (decimal_pieces_take.l0 k1 (x0_1.set ((ji8) : Int).toNat (IntKind.u64.wrap (wrap64 ((wrap64 ((wrap64 ((wrap64 (rd x0_1 (ji8))) - (wrap64 (Int.tmod (IntKind.u64.wrap (x10_1 + (IntKind.u64.wrap (a2 * (rd l1 x11_1))))) 1000000000)))) - x9_1)) + 1000000000)))) l1 a2 a3 1 (IntKind.u64.wrap (Int.tdiv (IntKind.u64.wrap (x10_1 + (IntKind.u64.wrap (a2 * (rd l1 x11_1))))) 1000000000)) (wrap64 (x11_1 + 1))) else (decimal_pieces_take.l0 k1 (x0_1.set ((ji8) : Int).toNat (IntKind.u64.wrap (wrap64 ((wrap64 ((wrap64 (rd x0_1 (ji8))) - (wrap64 (Int.tmod (IntKind.u64.wrap (x10_1 + (IntKind.u64.wrap (a2 * (rd l1 x11_1))))) 1000000000)))) - x9_1)))) l1 a2 a3 0 (IntKind.u64.wrap (Int.tdiv (IntKind.u64.wrap (x10_1 + (IntKind.u64.wrap (a2 * (rd l1 x11_1))))) 1000000000)) (wrap64 (x11_1 + 1)))) else (none)) else (none)) = some (r1, r2) := by first | (rw [hji8] at H; exact H) | (simp only [hji8] at H ⊢; exact H)
            have hji8w : (IntKind.i64.wrap (a3 + x11_1)) = ji8 := (i64_w _).trans hji8
            by_cases c9 : 0 ≤ (ji8)
            · rw [if_pos c9] at H
              have c9b0 : decide (0 ≤ (ji8)) = true := decide_eq_true c9
              clear c9
              by_cases c10 : (ji8) < (x0_1.length : Int)
              · rw [if_pos c10] at H
                have c10b0 : decide ((ji8) < (x0_1.length : Int)) = true := decide_eq_true c10
                clear c10
                by_cases c11 : (wrap64 ((wrap64 ((wrap64 (rd x0_1 (ji8))) - (wrap64 (Int.tmod (IntKind.u64.wrap (x10_1 + (IntKind.u64.wrap (a2 * (rd l1 x11_1))))) 1000000000)))) - x9_1)) < 0
                · rw [if_pos c11] at H
                  have c11b0 : decide ((wrap64 ((wrap64 ((wrap64 (rd x0_1 (ji8))) - (wrap64 (Int.tmod (IntKind.u64.wrap (x10_1 + (IntKind.u64.wrap (a2 * (rd l1 x11_1))))) 1000000000)))) - x9_1)) < 0) = true := decide_eq_true c11
                  clear c11
                  obtain ⟨y155, hy155⟩ : ∃ y_ : List Int, y_ = (x0_1.set ((ji8) : Int).toNat (IntKind.u64.wrap (wrap64 ((wrap64 ((wrap64 ((wrap64 (rd x0_1 (ji8))) - (wrap64 (Int.tmod (IntKind.u64.wrap (x10_1 + (IntKind.u64.wrap (a2 * (rd l1 x11_1))))) 1000000000)))) - x9_1)) + 1000000000)))) := ⟨_, rfl⟩
                  replace H : (decimal_pieces_take.l0 k1 y155 l1 a2 a3 1 (IntKind.u64.wrap (Int.tdiv (IntKind.u64.wrap (x10_1 + (IntKind.u64.wrap (a2 * (rd l1 x11_1))))) 1000000000)) (wrap64 (x11_1 + 1))) = some (r1, r2) := by first | (rw [hy155]; with_reducible exact H) | (have H2_ := (Option.bind_some _ _).symm.trans H; rw [hy155]; with_reducible exact H2_) | (have H2_ := (Option.bind_some _ _).symm.trans H; with_reducible exact H2_) | with_reducible exact H | (rw [hy155]; exact H) | exact H
                  have Ny155 := Aside0.mk hy155
                  clear hy155
                  have H' := Aside0.mk H
                  clear H
                  have p153 : 0 ≤ (x11_1 : Int) := of_decide_eq_true (by first | (with_reducible assumption) | assumption)
                  have q153 : x11_1 < (l1.length : Int) := of_decide_eq_true (by first | (with_reducible assumption) | assumption)
                  obtain ⟨ad153, e153, hx153_0⟩ := Kd.at_int (Kd.C_kept_now HR1.out HK.out) x11_1 p153 q153
                  cases e153
                  replace p153 := eq_true p153
                  replace q153 := eq_true q153
                  obtain ⟨Ao13, co13, eo13⟩ := Kd.R_slice HO_0.out
                  subst eo13
                  have p154 : 0 ≤ ((ji8) : Int) := of_decide_eq_true (by first | (with_reducible assumption) | assumption)
                  have q154 : (ji8) < (x0_1.length : Int) := of_decide_eq_true (by first | (with_reducible assumption) | assumption)
                  obtain ⟨ad154, e154, hx154_0⟩ := Kd.at_int (Kd.R_reads' HO_0.out).2.2 (ji8) p154 q154
                  cases e154
                  replace p154 := eq_true p154
                  replace q154 := eq_true q154
                  have p12 : 0 ≤ ((ji8) : Int) := of_decide_eq_true (by first | (with_reducible assumption) | assumption)
                  have q12 : ((ji8) : Int) < ((x0_1.length : Int) : Int) := of_decide_eq_true (by first | (with_reducible assumption) | assumption)
                  obtain ⟨go12, co12, eo12, gb12, gl12, cl12, HG12⟩ := Kd.R_form HO_0.out (by omega)
                  (first | cases eo12 | (injection eo12 with ea_ en_ ec_; (first | subst ea_ | (injection ea_ with ea_; subst ea_)); subst ec_; clear en_))
                  have GB12 := Aside0.mk gb12
                  have GG12 := Aside0.mk HG12
                  clear gb12 gl12 HG12
                  have HMgo12 := Aside0.mk (show (P0_ go12 ∨ w.heap.size ≤ go12) from (HO_0.out.1 _ rfl))
                  (first | simp only [add_plain] at hx154_0 | skip)
                  obtain ⟨hx12_0, hf12_0⟩ := Kd.R_celln 0 HO_0.out ((ji8) : Int) p12 q12
                  replace p12 := eq_true p12
                  replace q12 := eq_true q12
                  have HP14 := Kd.R_putg HO_0.out ((ji8) : Int) (IntKind.u64.wrap (wrap64 ((wrap64 ((wrap64 ((wrap64 (rd x0_1 (ji8))) - (wrap64 (Int.tmod (IntKind.u64.wrap (x10_1 + (IntKind.u64.wrap (a2 * (rd l1 x11_1))))) 1000000000)))) - x9_1)) + 1000000000)))
                  go_wp2_with (first | ((with_reducible refine gate_store (t := 22) (p := 56) rfl ?_); refine store_event (t := 22) (p := 56) (v := ?vo_w15) (w1 := (wr.setCell ⟨go12, ((ji8) : Int).toNat, none⟩ (.int .u64 (IntKind.u64.wrap (wrap64 ((wrap64 ((wrap64 ((wrap64 (rd x0_1 (ji8))) - (wrap64 (Int.tmod (IntKind.u64.wrap (x10_1 + (IntKind.u64.wrap (a2 * (rd l1 x11_1))))) 1000000000)))) - x9_1)) + 1000000000)))))) ?hg ?ho ?hn ?hr ?_; (case ho => rfl); (case hg => rfl); (case hn => rfl); (case hr => first | (go_simp; done) | (go_simp; rfl)); intro w15 hw; have hg : wr.grownBy w15 (some go12) := (by rw [hw]; exact HP14.2); have hp_ : Kd.R (Kd.int .u64) 22 w15 w0.heap.size (fun k_ => (P0_ k_ ∨ w.heap.size ≤ k_)) (.slice (some ⟨go12, 0, none⟩) x0_1.length co13) y155 := (by rw [hw, Ny155.out]; exact HP14.1); clear HP14; have n0_ := Aside0.mk (hp_); have n1_ := Aside0.mk ((by rw [hw]; exact below_set (HB.out) GB12.out : Below w0.heap.size w0 w15)); have n2_ := Aside0.mk (Kept.of_grown (S := (fun k_ => P0_ k_)) hg (by repeat (first | (with_reducible first | exact HK.out | apply Kept.alloc | apply Kept.drewN | apply Kept.drew) | exact HK.out)) (fun k_ e_ => (HO_0.out.1 k_ e_))); clear HO_0; clear HB; clear HK; have HO_0 := n0_; have HB := n1_; have HK := n2_; clear n0_ n1_ n2_; clear hg hw hp_))
                  go_roundg k1
                  case measure => have := HK1.out; omega
                  case rel => exact ⟨(y155), (1), (IntKind.u64.wrap (Int.tdiv (IntKind.u64.wrap (x10_1 + (IntKind.u64.wrap (a2 * (rd l1 x11_1))))) 1000000000)), (wrap64 (x11_1 + 1)), (by first | rfl | (simp; done) | (simp [*]; done)), (by first | rfl | (simp; done) | (simp [*]; done)), (by first | rfl | (simp; done) | (simp [*]; done)), H', ⟨by have := HK1.out; omega⟩, ⟨by (with_reducible repeat (first | apply Kd.R_alloc | apply Kd.R_drewN | apply Kd.R_drew)); exact HO_0.out⟩, ⟨by repeat (first | (with_reducible first | exact HK.out | apply Kept.alloc | apply Kept.drewN | apply Kept.drew) | exact HK.out)⟩, ⟨by repeat (first | (with_reducible first | exact HB.out | apply below_alloc | apply pw_below_drewN | apply below_drew1) | exact HB.out)⟩⟩
                · rw [if_neg c11] at H
                  have c11b0 : decide ((wrap64 ((wrap64 ((wrap64 (rd x0_1 (ji8))) - (wrap64 (Int.tmod (IntKind.u64.wrap (x10_1 + (IntKind.u64.wrap (a2 * (rd l1 x11_1))))) 1000000000)))) - x9_1)) < 0) = false := decide_eq_false c11
                  clear c11
                  obtain ⟨y156, hy156⟩ : ∃ y_ : List Int, y_ = (x0_1.set ((ji8) : Int).toNat (IntKind.u64.wrap (wrap64 ((wrap64 ((wrap64 (rd x0_1 (ji8))) - (wrap64 (Int.tmod (IntKind.u64.wrap (x10_1 + (IntKind.u64.wrap (a2 * (rd l1 x11_1))))) 1000000000)))) - x9_1)))) := ⟨_, rfl⟩
                  replace H : (decimal_pieces_take.l0 k1 y156 l1 a2 a3 0 (IntKind.u64.wrap (Int.tdiv (IntKind.u64.wrap (x10_1 + (IntKind.u64.wrap (a2 * (rd l1 x11_1))))) 1000000000)) (wrap64 (x11_1 + 1))) = some (r1, r2) := by first | (rw [hy156]; with_reducible exact H) | (have H2_ := (Option.bind_some _ _).symm.trans H; rw [hy156]; with_reducible exact H2_) | (have H2_ := (Option.bind_some _ _).symm.trans H; with_reducible exact H2_) | with_reducible exact H | (rw [hy156]; exact H) | exact H
                  have Ny156 := Aside0.mk hy156
                  clear hy156
                  have H' := Aside0.mk H
                  clear H
                  have p153 : 0 ≤ (x11_1 : Int) := of_decide_eq_true (by first | (with_reducible assumption) | assumption)
                  have q153 : x11_1 < (l1.length : Int) := of_decide_eq_true (by first | (with_reducible assumption) | assumption)
                  obtain ⟨ad153, e153, hx153_0⟩ := Kd.at_int (Kd.C_kept_now HR1.out HK.out) x11_1 p153 q153
                  cases e153
                  replace p153 := eq_true p153
                  replace q153 := eq_true q153
                  obtain ⟨Ao17, co17, eo17⟩ := Kd.R_slice HO_0.out
                  subst eo17
                  have p154 : 0 ≤ ((ji8) : Int) := of_decide_eq_true (by first | (with_reducible assumption) | assumption)
                  have q154 : (ji8) < (x0_1.length : Int) := of_decide_eq_true (by first | (with_reducible assumption) | assumption)
                  obtain ⟨ad154, e154, hx154_0⟩ := Kd.at_int (Kd.R_reads' HO_0.out).2.2 (ji8) p154 q154
                  cases e154
                  replace p154 := eq_true p154
                  replace q154 := eq_true q154
                  have p16 : 0 ≤ ((ji8) : Int) := of_decide_eq_true (by first | (with_reducible assumption) | assumption)
                  have q16 : ((ji8) : Int) < ((x0_1.length : Int) : Int) := of_decide_eq_true (by first | (with_reducible assumption) | assumption)
                  obtain ⟨go16, co16, eo16, gb16, gl16, cl16, HG16⟩ := Kd.R_form HO_0.out (by omega)
                  (first | cases eo16 | (injection eo16 with ea_ en_ ec_; (first | subst ea_ | (injection ea_ with ea_; subst ea_)); subst ec_; clear en_))
                  have GB16 := Aside0.mk gb16
                  have GG16 := Aside0.mk HG16
                  clear gb16 gl16 HG16
                  have HMgo16 := Aside0.mk (show (P0_ go16 ∨ w.heap.size ≤ go16) from (HO_0.out.1 _ rfl))
                  (first | simp only [add_plain] at hx154_0 | skip)
                  obtain ⟨hx16_0, hf16_0⟩ := Kd.R_celln 0 HO_0.out ((ji8) : Int) p16 q16
                  replace p16 := eq_true p16
                  replace q16 := eq_true q16
                  have HP18 := Kd.R_putg HO_0.out ((ji8) : Int) (IntKind.u64.wrap (wrap64 ((wrap64 ((wrap64 (rd x0_1 (ji8))) - (wrap64 (Int.tmod (IntKind.u64.wrap (x10_1 + (IntKind.u64.wrap (a2 * (rd l1 x11_1))))) 1000000000)))) - x9_1)))
                  go_wp2_with (first | ((with_reducible refine gate_store (t := 22) (p := 56) rfl ?_); refine store_event (t := 22) (p := 56) (v := ?vo_w19) (w1 := (wr.setCell ⟨go16, ((ji8) : Int).toNat, none⟩ (.int .u64 (IntKind.u64.wrap (wrap64 ((wrap64 ((wrap64 (rd x0_1 (ji8))) - (wrap64 (Int.tmod (IntKind.u64.wrap (x10_1 + (IntKind.u64.wrap (a2 * (rd l1 x11_1))))) 1000000000)))) - x9_1)))))) ?hg ?ho ?hn ?hr ?_; (case ho => rfl); (case hg => rfl); (case hn => rfl); (case hr => first | (go_simp; done) | (go_simp; rfl)); intro w19 hw; have hg : wr.grownBy w19 (some go16) := (by rw [hw]; exact HP18.2); have hp_ : Kd.R (Kd.int .u64) 22 w19 w0.heap.size (fun k_ => (P0_ k_ ∨ w.heap.size ≤ k_)) (.slice (some ⟨go16, 0, none⟩) x0_1.length co17) y156 := (by rw [hw, Ny156.out]; exact HP18.1); clear HP18; have n0_ := Aside0.mk (hp_); have n1_ := Aside0.mk ((by rw [hw]; exact below_set (HB.out) GB16.out : Below w0.heap.size w0 w19)); have n2_ := Aside0.mk (Kept.of_grown (S := (fun k_ => P0_ k_)) hg (by repeat (first | (with_reducible first | exact HK.out | apply Kept.alloc | apply Kept.drewN | apply Kept.drew) | exact HK.out)) (fun k_ e_ => (HO_0.out.1 k_ e_))); clear HO_0; clear HB; clear HK; have HO_0 := n0_; have HB := n1_; have HK := n2_; clear n0_ n1_ n2_; clear hg hw hp_))
                  go_roundg k1
                  case measure => have := HK1.out; omega
                  case rel => exact ⟨(y156), (0), (IntKind.u64.wrap (Int.tdiv (IntKind.u64.wrap (x10_1 + (IntKind.u64.wrap (a2 * (rd l1 x11_1))))) 1000000000)), (wrap64 (x11_1 + 1)), (by first | rfl | (simp; done) | (simp [*]; done)), (by first | rfl | (simp; done) | (simp [*]; done)), (by first | rfl | (simp; done) | (simp [*]; done)), H', ⟨by have := HK1.out; omega⟩, ⟨by (with_reducible repeat (first | apply Kd.R_alloc | apply Kd.R_drewN | apply Kd.R_drew)); exact HO_0.out⟩, ⟨by repeat (first | (with_reducible first | exact HK.out | apply Kept.alloc | apply Kept.drewN | apply Kept.drew) | exact HK.out)⟩, ⟨by repeat (first | (with_reducible first | exact HB.out | apply below_alloc | apply pw_below_drewN | apply below_drew1) | exact HB.out)⟩⟩
              · rw [if_neg c10] at H
                exact absurd H (by simp)
            · rw [if_neg c9] at H
              exact absurd H (by simp)
          · rw [if_neg c7] at H
            exact absurd H (by simp)
        · rw [if_neg c6] at H
          have c6b0 : decide (x11_1 < (l1.length : Int)) = false := decide_eq_false c6
          clear c6
          obtain ⟨ji20, hji20⟩ : ∃ j_ : Int, (wrap64 (a3 + x11_1)) = j_ := ⟨_, rfl⟩
          replace H : (if 0 ≤ (ji20) then (if (ji20) < (x0_1.length : Int) then (if (wrap64 ((wrap64 ((wrap64 (rd x0_1 (ji20))) - (wrap64 (Int.tmod x10_1 1000000000)))) - x9_1)) < 0 then (decimal_pieces_take.l0 k1 (x0_1.set ((ji20) : Int).toNat (IntKind.u64.wrap (wrap64 ((wrap64 ((wrap64 ((wrap64 (rd x0_1 (ji20))) - (wrap64 (Int.tmod x10_1 1000000000)))) - x9_1)) + 1000000000)))) l1 a2 a3 1 (IntKind.u64.wrap (Int.tdiv x10_1 1000000000)) (wrap64 (x11_1 + 1))) else (decimal_pieces_take.l0 k1 (x0_1.set ((ji20) : Int).toNat (IntKind.u64.wrap (wrap64 ((wrap64 ((wrap64 (rd x0_1 (ji20))) - (wrap64 (Int.tmod x10_1 1000000000)))) - x9_1)))) l1 a2 a3 0 (IntKind.u64.wrap (Int.tdiv x10_1 1000000000)) (wrap64 (x11_1 + 1)))) else (none)) else (none)) = some (r1, r2) := by first | (rw [hji20] at H; exact H) | (simp only [hji20] at H ⊢; exact H)
          have hji20w : (IntKind.i64.wrap (a3 + x11_1)) = ji20 := (i64_w _).trans hji20
          by_cases c21 : 0 ≤ (ji20)
          · rw [if_pos c21] at H
            have c21b0 : decide (0 ≤ (ji20)) = true := decide_eq_true c21
            clear c21
            by_cases c22 : (ji20) < (x0_1.length : Int)
            · rw [if_pos c22] at H
              have c22b0 : decide ((ji20) < (x0_1.length : Int)) = true := decide_eq_true c22
              clear c22
              by_cases c23 : (wrap64 ((wrap64 ((wrap64 (rd x0_1 (ji20))) - (wrap64 (Int.tmod x10_1 1000000000)))) - x9_1)) < 0
              · rw [if_pos c23] at H
                have c23b0 : decide ((wrap64 ((wrap64 ((wrap64 (rd x0_1 (ji20))) - (wrap64 (Int.tmod x10_1 1000000000)))) - x9_1)) < 0) = true := decide_eq_true c23
                clear c23
                obtain ⟨y158, hy158⟩ : ∃ y_ : List Int, y_ = (x0_1.set ((ji20) : Int).toNat (IntKind.u64.wrap (wrap64 ((wrap64 ((wrap64 ((wrap64 (rd x0_1 (ji20))) - (wrap64 (Int.tmod x10_1 1000000000)))) - x9_1)) + 1000000000)))) := ⟨_, rfl⟩
                replace H : (decimal_pieces_take.l0 k1 y158 l1 a2 a3 1 (IntKind.u64.wrap (Int.tdiv x10_1 1000000000)) (wrap64 (x11_1 + 1))) = some (r1, r2) := by first | (rw [hy158]; with_reducible exact H) | (have H2_ := (Option.bind_some _ _).symm.trans H; rw [hy158]; with_reducible exact H2_) | (have H2_ := (Option.bind_some _ _).symm.trans H; with_reducible exact H2_) | with_reducible exact H | (rw [hy158]; exact H) | exact H
                have Ny158 := Aside0.mk hy158
                clear hy158
                have H' := Aside0.mk H
                clear H
                obtain ⟨Ao25, co25, eo25⟩ := Kd.R_slice HO_0.out
                subst eo25
                have p157 : 0 ≤ ((ji20) : Int) := of_decide_eq_true (by first | (with_reducible assumption) | assumption)
                have q157 : (ji20) < (x0_1.length : Int) := of_decide_eq_true (by first | (with_reducible assumption) | assumption)
                obtain ⟨ad157, e157, hx157_0⟩ := Kd.at_int (Kd.R_reads' HO_0.out).2.2 (ji20) p157 q157
                cases e157
                replace p157 := eq_true p157
                replace q157 := eq_true q157
                have p24 : 0 ≤ ((ji20) : Int) := of_decide_eq_true (by first | (with_reducible assumption) | assumption)
                have q24 : ((ji20) : Int) < ((x0_1.length : Int) : Int) := of_decide_eq_true (by first | (with_reducible assumption) | assumption)
                obtain ⟨go24, co24, eo24, gb24, gl24, cl24, HG24⟩ := Kd.R_form HO_0.out (by omega)
                (first | cases eo24 | (injection eo24 with ea_ en_ ec_; (first | subst ea_ | (injection ea_ with ea_; subst ea_)); subst ec_; clear en_))
                have GB24 := Aside0.mk gb24
                have GG24 := Aside0.mk HG24
                clear gb24 gl24 HG24
                have HMgo24 := Aside0.mk (show (P0_ go24 ∨ w.heap.size ≤ go24) from (HO_0.out.1 _ rfl))
                (first | simp only [add_plain] at hx157_0 | skip)
                obtain ⟨hx24_0, hf24_0⟩ := Kd.R_celln 0 HO_0.out ((ji20) : Int) p24 q24
                replace p24 := eq_true p24
                replace q24 := eq_true q24
                have HP26 := Kd.R_putg HO_0.out ((ji20) : Int) (IntKind.u64.wrap (wrap64 ((wrap64 ((wrap64 ((wrap64 (rd x0_1 (ji20))) - (wrap64 (Int.tmod x10_1 1000000000)))) - x9_1)) + 1000000000)))
                go_wp2_with (first | ((with_reducible refine gate_store (t := 22) (p := 56) rfl ?_); refine store_event (t := 22) (p := 56) (v := ?vo_w27) (w1 := (wr.setCell ⟨go24, ((ji20) : Int).toNat, none⟩ (.int .u64 (IntKind.u64.wrap (wrap64 ((wrap64 ((wrap64 ((wrap64 (rd x0_1 (ji20))) - (wrap64 (Int.tmod x10_1 1000000000)))) - x9_1)) + 1000000000)))))) ?hg ?ho ?hn ?hr ?_; (case ho => rfl); (case hg => rfl); (case hn => rfl); (case hr => first | (go_simp; done) | (go_simp; rfl)); intro w27 hw; have hg : wr.grownBy w27 (some go24) := (by rw [hw]; exact HP26.2); have hp_ : Kd.R (Kd.int .u64) 22 w27 w0.heap.size (fun k_ => (P0_ k_ ∨ w.heap.size ≤ k_)) (.slice (some ⟨go24, 0, none⟩) x0_1.length co25) y158 := (by rw [hw, Ny158.out]; exact HP26.1); clear HP26; have n0_ := Aside0.mk (hp_); have n1_ := Aside0.mk ((by rw [hw]; exact below_set (HB.out) GB24.out : Below w0.heap.size w0 w27)); have n2_ := Aside0.mk (Kept.of_grown (S := (fun k_ => P0_ k_)) hg (by repeat (first | (with_reducible first | exact HK.out | apply Kept.alloc | apply Kept.drewN | apply Kept.drew) | exact HK.out)) (fun k_ e_ => (HO_0.out.1 k_ e_))); clear HO_0; clear HB; clear HK; have HO_0 := n0_; have HB := n1_; have HK := n2_; clear n0_ n1_ n2_; clear hg hw hp_))
                go_roundg k1
                case measure => have := HK1.out; omega
                case rel => exact ⟨(y158), (1), (IntKind.u64.wrap (Int.tdiv x10_1 1000000000)), (wrap64 (x11_1 + 1)), (by first | rfl | (simp; done) | (simp [*]; done)), (by first | rfl | (simp; done) | (simp [*]; done)), (by first | rfl | (simp; done) | (simp [*]; done)), H', ⟨by have := HK1.out; omega⟩, ⟨by (with_reducible repeat (first | apply Kd.R_alloc | apply Kd.R_drewN | apply Kd.R_drew)); exact HO_0.out⟩, ⟨by repeat (first | (with_reducible first | exact HK.out | apply Kept.alloc | apply Kept.drewN | apply Kept.drew) | exact HK.out)⟩, ⟨by repeat (first | (with_reducible first | exact HB.out | apply below_alloc | apply pw_below_drewN | apply below_drew1) | exact HB.out)⟩⟩
              · rw [if_neg c23] at H
                have c23b0 : decide ((wrap64 ((wrap64 ((wrap64 (rd x0_1 (ji20))) - (wrap64 (Int.tmod x10_1 1000000000)))) - x9_1)) < 0) = false := decide_eq_false c23
                clear c23
                obtain ⟨y159, hy159⟩ : ∃ y_ : List Int, y_ = (x0_1.set ((ji20) : Int).toNat (IntKind.u64.wrap (wrap64 ((wrap64 ((wrap64 (rd x0_1 (ji20))) - (wrap64 (Int.tmod x10_1 1000000000)))) - x9_1)))) := ⟨_, rfl⟩
                replace H : (decimal_pieces_take.l0 k1 y159 l1 a2 a3 0 (IntKind.u64.wrap (Int.tdiv x10_1 1000000000)) (wrap64 (x11_1 + 1))) = some (r1, r2) := by first | (rw [hy159]; with_reducible exact H) | (have H2_ := (Option.bind_some _ _).symm.trans H; rw [hy159]; with_reducible exact H2_) | (have H2_ := (Option.bind_some _ _).symm.trans H; with_reducible exact H2_) | with_reducible exact H | (rw [hy159]; exact H) | exact H
                have Ny159 := Aside0.mk hy159
                clear hy159
                have H' := Aside0.mk H
                clear H
                obtain ⟨Ao29, co29, eo29⟩ := Kd.R_slice HO_0.out
                subst eo29
                have p157 : 0 ≤ ((ji20) : Int) := of_decide_eq_true (by first | (with_reducible assumption) | assumption)
                have q157 : (ji20) < (x0_1.length : Int) := of_decide_eq_true (by first | (with_reducible assumption) | assumption)
                obtain ⟨ad157, e157, hx157_0⟩ := Kd.at_int (Kd.R_reads' HO_0.out).2.2 (ji20) p157 q157
                cases e157
                replace p157 := eq_true p157
                replace q157 := eq_true q157
                have p28 : 0 ≤ ((ji20) : Int) := of_decide_eq_true (by first | (with_reducible assumption) | assumption)
                have q28 : ((ji20) : Int) < ((x0_1.length : Int) : Int) := of_decide_eq_true (by first | (with_reducible assumption) | assumption)
                obtain ⟨go28, co28, eo28, gb28, gl28, cl28, HG28⟩ := Kd.R_form HO_0.out (by omega)
                (first | cases eo28 | (injection eo28 with ea_ en_ ec_; (first | subst ea_ | (injection ea_ with ea_; subst ea_)); subst ec_; clear en_))
                have GB28 := Aside0.mk gb28
                have GG28 := Aside0.mk HG28
                clear gb28 gl28 HG28
                have HMgo28 := Aside0.mk (show (P0_ go28 ∨ w.heap.size ≤ go28) from (HO_0.out.1 _ rfl))
                (first | simp only [add_plain] at hx157_0 | skip)
                obtain ⟨hx28_0, hf28_0⟩ := Kd.R_celln 0 HO_0.out ((ji20) : Int) p28 q28
                replace p28 := eq_true p28
                replace q28 := eq_true q28
                have HP30 := Kd.R_putg HO_0.out ((ji20) : Int) (IntKind.u64.wrap (wrap64 ((wrap64 ((wrap64 (rd x0_1 (ji20))) - (wrap64 (Int.tmod x10_1 1000000000)))) - x9_1)))
                go_wp2_with (first | ((with_reducible refine gate_store (t := 22) (p := 56) rfl ?_); refine store_event (t := 22) (p := 56) (v := ?vo_w31) (w1 := (wr.setCell ⟨go28, ((ji20) : Int).toNat, none⟩ (.int .u64 (IntKind.u64.wrap (wrap64 ((wrap64 ((wrap64 (rd x0_1 (ji20))) - (wrap64 (Int.tmod x10_1 1000000000)))) - x9_1)))))) ?hg ?ho ?hn ?hr ?_; (case ho => rfl); (case hg => rfl); (case hn => rfl); (case hr => first | (go_simp; done) | (go_simp; rfl)); intro w31 hw; have hg : wr.grownBy w31 (some go28) := (by rw [hw]; exact HP30.2); have hp_ : Kd.R (Kd.int .u64) 22 w31 w0.heap.size (fun k_ => (P0_ k_ ∨ w.heap.size ≤ k_)) (.slice (some ⟨go28, 0, none⟩) x0_1.length co29) y159 := (by rw [hw, Ny159.out]; exact HP30.1); clear HP30; have n0_ := Aside0.mk (hp_); have n1_ := Aside0.mk ((by rw [hw]; exact below_set (HB.out) GB28.out : Below w0.heap.size w0 w31)); have n2_ := Aside0.mk (Kept.of_grown (S := (fun k_ => P0_ k_)) hg (by repeat (first | (with_reducible first | exact HK.out | apply Kept.alloc | apply Kept.drewN | apply Kept.drew) | exact HK.out)) (fun k_ e_ => (HO_0.out.1 k_ e_))); clear HO_0; clear HB; clear HK; have HO_0 := n0_; have HB := n1_; have HK := n2_; clear n0_ n1_ n2_; clear hg hw hp_))
                go_roundg k1
                case measure => have := HK1.out; omega
                case rel => exact ⟨(y159), (0), (IntKind.u64.wrap (Int.tdiv x10_1 1000000000)), (wrap64 (x11_1 + 1)), (by first | rfl | (simp; done) | (simp [*]; done)), (by first | rfl | (simp; done) | (simp [*]; done)), (by first | rfl | (simp; done) | (simp [*]; done)), H', ⟨by have := HK1.out; omega⟩, ⟨by (with_reducible repeat (first | apply Kd.R_alloc | apply Kd.R_drewN | apply Kd.R_drew)); exact HO_0.out⟩, ⟨by repeat (first | (with_reducible first | exact HK.out | apply Kept.alloc | apply Kept.drewN | apply Kept.drew) | exact HK.out)⟩, ⟨by repeat (first | (with_reducible first | exact HB.out | apply below_alloc | apply pw_below_drewN | apply below_drew1) | exact HB.out)⟩⟩
            · rw [if_neg c22] at H
              exact absurd H (by simp)
          · rw [if_neg c21] at H
            exact absurd H (by simp)
      · rw [if_neg c5] at H
        have c5b0 : decide (x11_1 ≤ (l1.length : Int)) = false := decide_eq_false c5
        clear c5
        simp only [Option.some.injEq, Prod.mk.injEq] at H
        obtain ⟨rfl, rfl⟩ := H
        go_wp2
        go_ret
        exact ⟨by first | rfl | (simp [errW_none, errW_some] <;> rfl) | (simp [*, errW_none, errW_some] <;> rfl), by (with_reducible repeat (first | apply Kd.R_alloc | apply Kd.R_drewN | apply Kd.R_drew)); exact HO_0.out, by repeat (first | (with_reducible first | exact HB.out | apply below_alloc | apply pw_below_drewN | apply below_drew1) | exact HB.out), by repeat (first | (with_reducible first | exact HK.out | apply Kept.alloc | apply Kept.drewN | apply Kept.drew) | exact HK.out)⟩

end Go.Proofs.YtcfddphiflmnlaaDoor.P
