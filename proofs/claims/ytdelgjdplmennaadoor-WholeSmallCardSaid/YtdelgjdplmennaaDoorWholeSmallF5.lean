/- Functions of the program, as functions of Lean, and the walks that show that the code answers as they do: written by a program. Conditions: those of each theorem. -/
import Derived.Test.YtdelgjdplmennaaDoorWholeSmallF4
namespace Go.Proofs.YtdelgjdplmennaaDoor.P
open Go.RowKit Go.Proofs.YtdelgjdplmennaaDoorW.PrintWords Go.Proofs.YtdelgjdplmennaaDoorW.PrintLast Go.Proofs.YtdelgjdplmennaaDoorW.PrintMore
attribute [local go_sem] gtr_text max2_int min2_int max_two min_two max_three min_three max_four min_four
set_option linter.unusedVariables false
set_option linter.unusedSimpArgs false
mutual
def whole_DivMod.j1 : Nat → ByteArray → ByteArray → Option (ByteArray × ByteArray × Int)
  | 0, _, _ => none
  | k + 1, x0, x1 => (whole_split.f x0).bind fun bt320 => ((whole_split.f x1).bind fun bt322 => ((decimal_DivMod.f k bt320.2 bt322.2).bind fun bt324 => (if bt324.2.2 = 0 then (if (bt320.1 != bt322.1) = true then (whole_DivMod.j2 k bt320.1 bt322.1 bt322.2 bt324.1 bt324.2.1 (bt324.2.1.toList != ([48] : List UInt8))) else (whole_DivMod.j2 k bt320.1 bt322.1 bt322.2 bt324.1 bt324.2.1 false)) else (some ((⟨#[]⟩ : ByteArray), (⟨#[]⟩ : ByteArray), bt324.2.2)))))
def whole_DivMod.j2 : Nat → Bool → Bool → ByteArray → ByteArray → ByteArray → Bool → Option (ByteArray × ByteArray × Int)
  | 0, _, _, _, _, _, _ => none
  | k + 1, x13, x15, x16, x17, x18, x83 => if x83 = true then ((decimal_Add.f k x17 (⟨#[49]⟩ : ByteArray)).bind fun t327 => ((decimal_Sub.f k x16 x18).bind fun bt328 => ((whole_join.f (x13 != x15) t327).bind fun t330 => ((whole_join.f x15 bt328.1).bind fun t331 => (some (t330, t331, 0)))))) else ((whole_join.f (x13 != x15) x17).bind fun t332 => ((whole_join.f x15 x18).bind fun t333 => (some (t332, t333, 0))))
def whole_DivMod.j0 : Nat → Int → Int → Int → Bool → Option (ByteArray × ByteArray × Int)
  | 0, _, _, _, _ => none
  | k + 1, x9, x11, x12, x47 => if x47 = true then ((whole_Of.f (wrap64 (x11 - 1))).bind fun t316 => ((whole_Of.f (wrap64 (x12 + x9))).bind fun t317 => (some (t316, t317, 0)))) else ((whole_Of.f x11).bind fun t318 => ((whole_Of.f x12).bind fun t319 => (some (t318, t319, 0))))
end
def whole_DivMod.f (k : Nat) (a0 : ByteArray) (a1 : ByteArray) : Option (ByteArray × ByteArray × Int) := if a1.toList = ([48] : List UInt8) then (some ((⟨#[]⟩ : ByteArray), (⟨#[]⟩ : ByteArray), 17)) else ((whole_little.f a0 18).bind fun bt312 => (if bt312.2 = true then ((whole_little.f a1 18).bind fun bt314 => (if bt314.2 = true then (if bt314.1 = 0 then (none) else (if (Int.tmod bt312.1 bt314.1) = 0 then (whole_DivMod.j0 k bt314.1 (wrap64 (Int.tdiv bt312.1 bt314.1)) (Int.tmod bt312.1 bt314.1) false) else (whole_DivMod.j0 k bt314.1 (wrap64 (Int.tdiv bt312.1 bt314.1)) (Int.tmod bt312.1 bt314.1) ((decide ((Int.tmod bt312.1 bt314.1) < 0)) != (decide (bt314.1 < 0)))))) else (whole_DivMod.j1 k a0 a1))) else (whole_DivMod.j1 k a0 a1)))
theorem whole_DivMod.mono_l : ∀ k, (∀ y0 y1, LeO (whole_DivMod.j1 k y0 y1) (whole_DivMod.j1 (k + 1) y0 y1)) ∧ (∀ y0 y1 y2 y3 y4 y5, LeO (whole_DivMod.j2 k y0 y1 y2 y3 y4 y5) (whole_DivMod.j2 (k + 1) y0 y1 y2 y3 y4 y5)) ∧ (∀ y0 y1 y2 y3, LeO (whole_DivMod.j0 k y0 y1 y2 y3) (whole_DivMod.j0 (k + 1) y0 y1 y2 y3))
  | 0 => ⟨fun _ _ r h => by simp [whole_DivMod.j1] at h, fun _ _ _ _ _ _ r h => by simp [whole_DivMod.j2] at h, fun _ _ _ _ r h => by simp [whole_DivMod.j0] at h⟩
  | k + 1 => by
    obtain ⟨ih0, ih1, ih2⟩ := whole_DivMod.mono_l k
    refine ⟨?_, ?_, ?_⟩
    · intro y0 y1
      unfold whole_DivMod.j1
      repeat' first
      | (with_reducible exact ih0 _ _)
      | (with_reducible exact ih1 _ _ _ _ _ _)
      | (with_reducible exact ih2 _ _ _ _)
      | (with_reducible exact decimal_Add.mono _ _ _)
      | (with_reducible exact decimal_DivMod.mono _ _ _)
      | (with_reducible exact decimal_Sub.mono _ _ _)
      | (with_reducible exact LeO.refl _)
      | (with_reducible exact LeO.none _)
      | (with_reducible refine LeO.ite ?_ ?_)
      | (with_reducible refine LeO.bind ?_ (fun _ => ?_))
      | exact ih0 _ _
      | exact ih1 _ _ _ _ _ _
      | exact ih2 _ _ _ _
      | exact decimal_Add.mono _ _ _
      | exact decimal_DivMod.mono _ _ _
      | exact decimal_Sub.mono _ _ _
      | exact LeO.none _
      | refine LeO.ite ?_ ?_
      | refine LeO.bind ?_ (fun _ => ?_)
    · intro y0 y1 y2 y3 y4 y5
      unfold whole_DivMod.j2
      repeat' first
      | (with_reducible exact ih0 _ _)
      | (with_reducible exact ih1 _ _ _ _ _ _)
      | (with_reducible exact ih2 _ _ _ _)
      | (with_reducible exact decimal_Add.mono _ _ _)
      | (with_reducible exact decimal_DivMod.mono _ _ _)
      | (with_reducible exact decimal_Sub.mono _ _ _)
      | (with_reducible exact LeO.refl _)
      | (with_reducible exact LeO.none _)
      | (with_reducible refine LeO.ite ?_ ?_)
      | (with_reducible refine LeO.bind ?_ (fun _ => ?_))
      | exact ih0 _ _
      | exact ih1 _ _ _ _ _ _
      | exact ih2 _ _ _ _
      | exact decimal_Add.mono _ _ _
      | exact decimal_DivMod.mono _ _ _
      | exact decimal_Sub.mono _ _ _
      | exact LeO.none _
      | refine LeO.ite ?_ ?_
      | refine LeO.bind ?_ (fun _ => ?_)
    · intro y0 y1 y2 y3
      unfold whole_DivMod.j0
      repeat' first
      | (with_reducible exact ih0 _ _)
      | (with_reducible exact ih1 _ _ _ _ _ _)
      | (with_reducible exact ih2 _ _ _ _)
      | (with_reducible exact decimal_Add.mono _ _ _)
      | (with_reducible exact decimal_DivMod.mono _ _ _)
      | (with_reducible exact decimal_Sub.mono _ _ _)
      | (with_reducible exact LeO.refl _)
      | (with_reducible exact LeO.none _)
      | (with_reducible refine LeO.ite ?_ ?_)
      | (with_reducible refine LeO.bind ?_ (fun _ => ?_))
      | exact ih0 _ _
      | exact ih1 _ _ _ _ _ _
      | exact ih2 _ _ _ _
      | exact decimal_Add.mono _ _ _
      | exact decimal_DivMod.mono _ _ _
      | exact decimal_Sub.mono _ _ _
      | exact LeO.none _
      | refine LeO.ite ?_ ?_
      | refine LeO.bind ?_ (fun _ => ?_)
theorem whole_DivMod.mono : ∀ a0 a1 k, LeO (whole_DivMod.f k a0 a1) (whole_DivMod.f (k + 1) a0 a1) := by
  intro a0 a1 k
  obtain ⟨ih0, ih1, ih2⟩ := whole_DivMod.mono_l k
  unfold whole_DivMod.f
  repeat' first
      | (with_reducible exact ih0 _ _)
      | (with_reducible exact ih1 _ _ _ _ _ _)
      | (with_reducible exact ih2 _ _ _ _)
      | (with_reducible exact decimal_Add.mono _ _ _)
      | (with_reducible exact decimal_DivMod.mono _ _ _)
      | (with_reducible exact decimal_Sub.mono _ _ _)
      | (with_reducible exact LeO.refl _)
      | (with_reducible exact LeO.none _)
      | (with_reducible refine LeO.ite ?_ ?_)
      | (with_reducible refine LeO.bind ?_ (fun _ => ?_))
      | exact ih0 _ _
      | exact ih1 _ _ _ _ _ _
      | exact ih2 _ _ _ _
      | exact decimal_Add.mono _ _ _
      | exact decimal_DivMod.mono _ _ _
      | exact decimal_Sub.mono _ _ _
      | exact LeO.none _
      | refine LeO.ite ?_ ?_
      | refine LeO.bind ?_ (fun _ => ?_)
set_option maxHeartbeats 8000000 in
set_option maxRecDepth 100000 in
theorem whole_DivMod.calls (k : Nat) (a0 : ByteArray) (a1 : ByteArray) (r1 : ByteArray) (r2 : ByteArray) (r3 : Int) (w : World) (hT : Tab w) (h : whole_DivMod.f k a0 a1 = some (r1, r2, r3)) :
    Calls Tryd.prog 25 #[.string a0, .string a1] w fun e w' => e = .returned (.tuple #[.string r1, .string r2, .int .i64 r3]) ∧ Below w.heap.size w w' := by
  have HT := Aside0.mk hT
  clear hT
  have HB := Aside0.mk (Below.refl w.heap.size w)
  have H : (if a1.toList = ([48] : List UInt8) then (some ((⟨#[]⟩ : ByteArray), (⟨#[]⟩ : ByteArray), 17)) else ((whole_little.f a0 18).bind fun bt312 => (if bt312.2 = true then ((whole_little.f a1 18).bind fun bt314 => (if bt314.2 = true then (if bt314.1 = 0 then (none) else (if (Int.tmod bt312.1 bt314.1) = 0 then (whole_DivMod.j0 k bt314.1 (wrap64 (Int.tdiv bt312.1 bt314.1)) (Int.tmod bt312.1 bt314.1) false) else (whole_DivMod.j0 k bt314.1 (wrap64 (Int.tdiv bt312.1 bt314.1)) (Int.tmod bt312.1 bt314.1) ((decide ((Int.tmod bt312.1 bt314.1) < 0)) != (decide (bt314.1 < 0)))))) else (whole_DivMod.j1 k a0 a1))) else (whole_DivMod.j1 k a0 a1)))) = some (r1, r2, r3) := h
  clear h
  by_cases c3 : a1.toList = ([48] : List UInt8)
  · rw [if_pos c3] at H
    have c3b0 : (a1.toList == ([48] : List UInt8)) = true := beq_iff_eq.mpr c3
    have c3b1 : (a1.toList != ([48] : List UInt8)) = false := bne_eq_false_iff_eq.mpr c3
    clear c3
    simp only [Option.some.injEq, Prod.mk.injEq] at H
    obtain ⟨rfl, rfl, rfl⟩ := H
    go_enter Tryd.func25, Tryd.ntmps25
    go_wp2
    repeat (go_quiet (fail); try go_wp2)
    go_ret3
    exact ⟨eq_, bq⟩
  · rw [if_neg c3] at H
    have c3b0 : (a1.toList == ([48] : List UInt8)) = false := beq_eq_false_iff_ne.mpr c3
    have c3b1 : (a1.toList != ([48] : List UInt8)) = true := bne_iff_ne.mpr c3
    replace H := Option.bind_eq_some_iff.mp H
    obtain ⟨⟨t312, t313⟩, A40, H⟩ := H
    replace H : (if t313 = true then ((whole_little.f a1 18).bind fun bt314 => (if bt314.2 = true then (if bt314.1 = 0 then (none) else (if (Int.tmod t312 bt314.1) = 0 then (whole_DivMod.j0 k bt314.1 (wrap64 (Int.tdiv t312 bt314.1)) (Int.tmod t312 bt314.1) false) else (whole_DivMod.j0 k bt314.1 (wrap64 (Int.tdiv t312 bt314.1)) (Int.tmod t312 bt314.1) ((decide ((Int.tmod t312 bt314.1) < 0)) != (decide (bt314.1 < 0)))))) else (whole_DivMod.j1 k a0 a1))) else (whole_DivMod.j1 k a0 a1)) = some (r1, r2, r3) := H
    have A4 := Aside0.mk A40
    clear A40
    have HC5 := Aside0.mk H
    clear H
    go_enter Tryd.func25, Tryd.ntmps25
    go_upto_if 26 with (first | (go_at_call 40; (with_reducible refine (whole_little.calls a0 18 t312 t313 _ A4.out).mono ?_); rintro e w6 ⟨rfl, hb⟩; replace HB := Aside0.mk (below_step bq hb); (try clear hb); (try clear hb2); (try clear hk); (try clear hi)))
    repeat (go_quiet (first | (go_at_call 40; (with_reducible refine (whole_little.calls a0 18 t312 t313 _ A4.out).mono ?_); rintro e w6 ⟨rfl, hb⟩; replace HB := Aside0.mk (below_step bq hb); (try clear hb); (try clear hb2); (try clear hk); (try clear hi))); go_upto_if 26 with (first | (go_at_call 40; (with_reducible refine (whole_little.calls a0 18 t312 t313 _ A4.out).mono ?_); rintro e w6 ⟨rfl, hb⟩; replace HB := Aside0.mk (below_step bq hb); (try clear hb); (try clear hb2); (try clear hk); (try clear hi))))
    (try simp only [Act.put, List.setIfInBounds_toArray, List.set_cons_zero, List.set_cons_succ])
    go_cut [] (fun wc => ∃ (kq : Nat), Aside0 (whole_DivMod.j1 kq a0 a1 = some (r1, r2, r3)) ∧ Aside0 (kq ≤ k) ∧ Aside0 (Below w.heap.size w wc))
    case first =>
      have H := HC5.out
      clear HC5
      by_cases c7 : t313 = true
      · subst c7
        have H1 : ((whole_little.f a1 18).bind fun bt314 => (if bt314.2 = true then (if bt314.1 = 0 then (none) else (if (Int.tmod t312 bt314.1) = 0 then (whole_DivMod.j0 k bt314.1 (wrap64 (Int.tdiv t312 bt314.1)) (Int.tmod t312 bt314.1) false) else (whole_DivMod.j0 k bt314.1 (wrap64 (Int.tdiv t312 bt314.1)) (Int.tmod t312 bt314.1) ((decide ((Int.tmod t312 bt314.1) < 0)) != (decide (bt314.1 < 0)))))) else (whole_DivMod.j1 k a0 a1))) = some (r1, r2, r3) := by rw [if_pos rfl] at H; exact H
        clear H
        have H := H1
        clear H1
        replace H := Option.bind_eq_some_iff.mp H
        obtain ⟨⟨t314, t315⟩, A80, H⟩ := H
        replace H : (if t315 = true then (if t314 = 0 then (none) else (if (Int.tmod t312 t314) = 0 then (whole_DivMod.j0 k t314 (wrap64 (Int.tdiv t312 t314)) (Int.tmod t312 t314) false) else (whole_DivMod.j0 k t314 (wrap64 (Int.tdiv t312 t314)) (Int.tmod t312 t314) ((decide ((Int.tmod t312 t314) < 0)) != (decide (t314 < 0)))))) else (whole_DivMod.j1 k a0 a1)) = some (r1, r2, r3) := H
        have A8 := Aside0.mk A80
        clear A80
        by_cases c9 : t315 = true
        · subst c9
          have H1 : (if t314 = 0 then (none) else (if (Int.tmod t312 t314) = 0 then (whole_DivMod.j0 k t314 (wrap64 (Int.tdiv t312 t314)) (Int.tmod t312 t314) false) else (whole_DivMod.j0 k t314 (wrap64 (Int.tdiv t312 t314)) (Int.tmod t312 t314) ((decide ((Int.tmod t312 t314) < 0)) != (decide (t314 < 0)))))) = some (r1, r2, r3) := by rw [if_pos rfl] at H; exact H
          clear H
          have H := H1
          clear H1
          by_cases c10 : t314 = 0
          · rw [if_pos c10] at H
            exact absurd H (by simp)
          · rw [if_neg c10] at H
            have c10b0 : (t314 == 0) = false := beq_eq_false_iff_ne.mpr c10
            have c10b1 : (t314 != 0) = true := bne_iff_ne.mpr c10
            (first | rw [c10b0] | (simp only [i64_w, i32_w]; rw [c10b0]) | skip)
            have HC11 := Aside0.mk H
            clear H
            go_upto_region 8 with (first | (go_at_call 40; (with_reducible refine (whole_little.calls a1 18 t314 true _ A8.out).mono ?_); rintro e w12 ⟨rfl, hb⟩; replace HB := Aside0.mk (below_step bq hb); (try clear hb); (try clear hb2); (try clear hk); (try clear hi)))
            repeat (go_quiet (first | (go_at_call 40; (with_reducible refine (whole_little.calls a1 18 t314 true _ A8.out).mono ?_); rintro e w12 ⟨rfl, hb⟩; replace HB := Aside0.mk (below_step bq hb); (try clear hb); (try clear hb2); (try clear hk); (try clear hi))); go_upto_region 8 with (first | (go_at_call 40; (with_reducible refine (whole_little.calls a1 18 t314 true _ A8.out).mono ?_); rintro e w12 ⟨rfl, hb⟩; replace HB := Aside0.mk (below_step bq hb); (try clear hb); (try clear hb2); (try clear hk); (try clear hi))))
            (try simp only [Act.put, List.setIfInBounds_toArray, List.set_cons_zero, List.set_cons_succ])
            go_cut [47] (fun v47 wc => ∃ (kq : Nat) (x47_10 : Bool), v47 = .bool x47_10 ∧ Aside0 (whole_DivMod.j0 kq t314 (wrap64 (Int.tdiv t312 t314)) (Int.tmod t312 t314) x47_10 = some (r1, r2, r3)) ∧ Aside0 (kq ≤ k) ∧ Aside0 (Below w.heap.size w wc))
            case first =>
              have H := HC11.out
              clear HC11
              by_cases c13 : (Int.tmod t312 t314) = 0
              · rw [if_pos c13] at H
                have c13b0 : ((Int.tmod t312 t314) == 0) = true := beq_iff_eq.mpr c13
                have c13b1 : ((Int.tmod t312 t314) != 0) = false := bne_eq_false_iff_eq.mpr c13
                clear c13
                (first | rw [c13b0] | (simp only [i64_w, i32_w]; rw [c13b0]) | skip)
                have H' := Aside0.mk H
                clear H
                go_wp2
                repeat (go_quiet (fail); try go_wp2)
                go_meet
                case rel => exact ⟨_, (false), (by first | rfl | (simp; done) | (simp [*]; done)), H', ⟨by first | omega | exact Nat.le_refl _⟩, ⟨bq⟩⟩
              · rw [if_neg c13] at H
                have c13b0 : ((Int.tmod t312 t314) == 0) = false := beq_eq_false_iff_ne.mpr c13
                have c13b1 : ((Int.tmod t312 t314) != 0) = true := bne_iff_ne.mpr c13
                (first | rw [c13b0] | (simp only [i64_w, i32_w]; rw [c13b0]) | skip)
                have H' := Aside0.mk H
                clear H
                go_wp2
                repeat (go_quiet (fail); try go_wp2)
                go_meet
                case rel => exact ⟨_, (((decide ((Int.tmod t312 t314) < 0)) != (decide (t314 < 0)))), (by first | rfl | (simp; done) | (simp [*]; done)), H', ⟨by first | omega | exact Nat.le_refl _⟩, ⟨bq⟩⟩
            case rest =>
              clear HC11
              try clear c1
              try clear c2
              try clear p2
              try clear c3
              try clear c3b0
              try clear c3b1
              try clear p6
              try clear c7
              try clear c9
              try clear c10
              try clear c10b0
              try clear c10b1
              try clear c13
              try clear c13b0
              try clear c13b1
              obtain ⟨kq, x47_10, rfl, HA, HJ10, HB⟩ := hcut
              cases kq with
              | zero => exact absurd HA.out (by simp [whole_DivMod.j0])
              | succ kj10 =>
                have H := HA.out
                clear HA
                simp only [whole_DivMod.j0] at H
                by_cases c14 : x47_10 = true
                · subst c14
                  have H1 : ((whole_Of.f (wrap64 ((wrap64 (Int.tdiv t312 t314)) - 1))).bind fun t316 => ((whole_Of.f (wrap64 ((Int.tmod t312 t314) + t314))).bind fun t317 => (some (t316, t317, 0)))) = some (r1, r2, r3) := by rw [if_pos rfl] at H; exact H
                  clear H
                  have H := H1
                  clear H1
                  replace H := Option.bind_eq_some_iff.mp H
                  obtain ⟨t316, A150, H⟩ := H
                  replace H : ((whole_Of.f (wrap64 ((Int.tmod t312 t314) + t314))).bind fun t317 => (some (t316, t317, 0))) = some (r1, r2, r3) := H
                  have A15 := Aside0.mk A150
                  clear A150
                  replace H := Option.bind_eq_some_iff.mp H
                  obtain ⟨t317, A160, H⟩ := H
                  replace H : (some (t316, t317, 0)) = some (r1, r2, r3) := H
                  have A16 := Aside0.mk A160
                  clear A160
                  simp only [Option.some.injEq, Prod.mk.injEq] at H
                  obtain ⟨rfl, rfl, rfl⟩ := H
                  go_wp2_with (first | (go_at_call 10; (with_reducible refine (whole_Of.calls (hT := HT.out.below bq) (wrap64 ((wrap64 (Int.tdiv t312 t314)) - 1)) t316 _ A15.out).mono ?_); rintro e w17 ⟨rfl, hb⟩; replace HB := Aside0.mk (below_step bq hb); (try clear hb); (try clear hb2); (try clear hk); (try clear hi)) | (go_at_call 10; (with_reducible refine (whole_Of.calls (hT := HT.out.below bq) (wrap64 ((Int.tmod t312 t314) + t314)) t317 _ A16.out).mono ?_); rintro e w18 ⟨rfl, hb⟩; replace HB := Aside0.mk (below_step bq hb); (try clear hb); (try clear hb2); (try clear hk); (try clear hi)))
                  repeat (go_quiet (first | (go_at_call 10; (with_reducible refine (whole_Of.calls (hT := HT.out.below bq) (wrap64 ((wrap64 (Int.tdiv t312 t314)) - 1)) t316 _ A15.out).mono ?_); rintro e w17 ⟨rfl, hb⟩; replace HB := Aside0.mk (below_step bq hb); (try clear hb); (try clear hb2); (try clear hk); (try clear hi)) | (go_at_call 10; (with_reducible refine (whole_Of.calls (hT := HT.out.below bq) (wrap64 ((Int.tmod t312 t314) + t314)) t317 _ A16.out).mono ?_); rintro e w18 ⟨rfl, hb⟩; replace HB := Aside0.mk (below_step bq hb); (try clear hb); (try clear hb2); (try clear hk); (try clear hi))); try go_wp2_with (first | (go_at_call 10; (with_reducible refine (whole_Of.calls (hT := HT.out.below bq) (wrap64 ((wrap64 (Int.tdiv t312 t314)) - 1)) t316 _ A15.out).mono ?_); rintro e w17 ⟨rfl, hb⟩; replace HB := Aside0.mk (below_step bq hb); (try clear hb); (try clear hb2); (try clear hk); (try clear hi)) | (go_at_call 10; (with_reducible refine (whole_Of.calls (hT := HT.out.below bq) (wrap64 ((Int.tmod t312 t314) + t314)) t317 _ A16.out).mono ?_); rintro e w18 ⟨rfl, hb⟩; replace HB := Aside0.mk (below_step bq hb); (try clear hb); (try clear hb2); (try clear hk); (try clear hi))))
                  go_ret3
                  exact ⟨eq_, bq⟩
                · replace c14 := Bool.eq_false_iff.mpr c14
                  subst c14
                  have H1 : ((whole_Of.f (wrap64 (Int.tdiv t312 t314))).bind fun t318 => ((whole_Of.f (Int.tmod t312 t314)).bind fun t319 => (some (t318, t319, 0)))) = some (r1, r2, r3) := by rw [if_neg (show ¬ (false = true) by decide)] at H; exact H
                  clear H
                  have H := H1
                  clear H1
                  replace H := Option.bind_eq_some_iff.mp H
                  obtain ⟨t318, A190, H⟩ := H
                  replace H : ((whole_Of.f (Int.tmod t312 t314)).bind fun t319 => (some (t318, t319, 0))) = some (r1, r2, r3) := H
                  have A19 := Aside0.mk A190
                  clear A190
                  replace H := Option.bind_eq_some_iff.mp H
                  obtain ⟨t319, A200, H⟩ := H
                  replace H : (some (t318, t319, 0)) = some (r1, r2, r3) := H
                  have A20 := Aside0.mk A200
                  clear A200
                  simp only [Option.some.injEq, Prod.mk.injEq] at H
                  obtain ⟨rfl, rfl, rfl⟩ := H
                  go_wp2_with (first | (go_at_call 10; (with_reducible refine (whole_Of.calls (hT := HT.out.below bq) (wrap64 (Int.tdiv t312 t314)) t318 _ A19.out).mono ?_); rintro e w21 ⟨rfl, hb⟩; replace HB := Aside0.mk (below_step bq hb); (try clear hb); (try clear hb2); (try clear hk); (try clear hi)) | (go_at_call 10; (with_reducible refine (whole_Of.calls (hT := HT.out.below bq) (Int.tmod t312 t314) t319 _ A20.out).mono ?_); rintro e w22 ⟨rfl, hb⟩; replace HB := Aside0.mk (below_step bq hb); (try clear hb); (try clear hb2); (try clear hk); (try clear hi)))
                  repeat (go_quiet (first | (go_at_call 10; (with_reducible refine (whole_Of.calls (hT := HT.out.below bq) (wrap64 (Int.tdiv t312 t314)) t318 _ A19.out).mono ?_); rintro e w21 ⟨rfl, hb⟩; replace HB := Aside0.mk (below_step bq hb); (try clear hb); (try clear hb2); (try clear hk); (try clear hi)) | (go_at_call 10; (with_reducible refine (whole_Of.calls (hT := HT.out.below bq) (Int.tmod t312 t314) t319 _ A20.out).mono ?_); rintro e w22 ⟨rfl, hb⟩; replace HB := Aside0.mk (below_step bq hb); (try clear hb); (try clear hb2); (try clear hk); (try clear hi))); try go_wp2_with (first | (go_at_call 10; (with_reducible refine (whole_Of.calls (hT := HT.out.below bq) (wrap64 (Int.tdiv t312 t314)) t318 _ A19.out).mono ?_); rintro e w21 ⟨rfl, hb⟩; replace HB := Aside0.mk (below_step bq hb); (try clear hb); (try clear hb2); (try clear hk); (try clear hi)) | (go_at_call 10; (with_reducible refine (whole_Of.calls (hT := HT.out.below bq) (Int.tmod t312 t314) t319 _ A20.out).mono ?_); rintro e w22 ⟨rfl, hb⟩; replace HB := Aside0.mk (below_step bq hb); (try clear hb); (try clear hb2); (try clear hk); (try clear hi))))
                  go_ret3
                  exact ⟨eq_, bq⟩
        · replace c9 := Bool.eq_false_iff.mpr c9
          subst c9
          have H1 : (whole_DivMod.j1 k a0 a1) = some (r1, r2, r3) := by rw [if_neg (show ¬ (false = true) by decide)] at H; exact H
          clear H
          have H := H1
          clear H1
          have H' := Aside0.mk H
          clear H
          go_wp2_with (first | (go_at_call 40; (with_reducible refine (whole_little.calls a1 18 t314 false _ A8.out).mono ?_); rintro e w23 ⟨rfl, hb⟩; replace HB := Aside0.mk (below_step bq hb); (try clear hb); (try clear hb2); (try clear hk); (try clear hi)))
          repeat (go_quiet (first | (go_at_call 40; (with_reducible refine (whole_little.calls a1 18 t314 false _ A8.out).mono ?_); rintro e w23 ⟨rfl, hb⟩; replace HB := Aside0.mk (below_step bq hb); (try clear hb); (try clear hb2); (try clear hk); (try clear hi))); try go_wp2_with (first | (go_at_call 40; (with_reducible refine (whole_little.calls a1 18 t314 false _ A8.out).mono ?_); rintro e w23 ⟨rfl, hb⟩; replace HB := Aside0.mk (below_step bq hb); (try clear hb); (try clear hb2); (try clear hk); (try clear hi))))
          go_meet
          case rel => exact ⟨_, H', ⟨by first | omega | exact Nat.le_refl _⟩, ⟨bq⟩⟩
      · replace c7 := Bool.eq_false_iff.mpr c7
        subst c7
        have H1 : (whole_DivMod.j1 k a0 a1) = some (r1, r2, r3) := by rw [if_neg (show ¬ (false = true) by decide)] at H; exact H
        clear H
        have H := H1
        clear H1
        have H' := Aside0.mk H
        clear H
        go_wp2
        repeat (go_quiet (fail); try go_wp2)
        go_meet
        case rel => exact ⟨_, H', ⟨by first | omega | exact Nat.le_refl _⟩, ⟨bq⟩⟩
    case rest =>
      clear HC5
      try clear c1
      try clear c2
      try clear p2
      try clear c3
      try clear c3b0
      try clear c3b1
      try clear p6
      try clear c7
      try clear c9
      try clear c10
      try clear c10b0
      try clear c10b1
      try clear c13
      try clear c13b0
      try clear c13b1
      try clear c14
      try clear p2
      try clear p6
      obtain ⟨kq, HA, HJ4, HB⟩ := hcut
      cases kq with
      | zero => exact absurd HA.out (by simp [whole_DivMod.j1])
      | succ kj4 =>
        have H := HA.out
        clear HA
        simp only [whole_DivMod.j1] at H
        replace H := Option.bind_eq_some_iff.mp H
        obtain ⟨⟨t320, t321⟩, A240, H⟩ := H
        replace H : ((whole_split.f a1).bind fun bt322 => ((decimal_DivMod.f kj4 t321 bt322.2).bind fun bt324 => (if bt324.2.2 = 0 then (if (t320 != bt322.1) = true then (whole_DivMod.j2 kj4 t320 bt322.1 bt322.2 bt324.1 bt324.2.1 (bt324.2.1.toList != ([48] : List UInt8))) else (whole_DivMod.j2 kj4 t320 bt322.1 bt322.2 bt324.1 bt324.2.1 false)) else (some ((⟨#[]⟩ : ByteArray), (⟨#[]⟩ : ByteArray), bt324.2.2))))) = some (r1, r2, r3) := H
        have A24 := Aside0.mk A240
        clear A240
        replace H := Option.bind_eq_some_iff.mp H
        obtain ⟨⟨t322, t323⟩, A250, H⟩ := H
        replace H : ((decimal_DivMod.f kj4 t321 t323).bind fun bt324 => (if bt324.2.2 = 0 then (if (t320 != t322) = true then (whole_DivMod.j2 kj4 t320 t322 t323 bt324.1 bt324.2.1 (bt324.2.1.toList != ([48] : List UInt8))) else (whole_DivMod.j2 kj4 t320 t322 t323 bt324.1 bt324.2.1 false)) else (some ((⟨#[]⟩ : ByteArray), (⟨#[]⟩ : ByteArray), bt324.2.2)))) = some (r1, r2, r3) := H
        have A25 := Aside0.mk A250
        clear A250
        replace H := Option.bind_eq_some_iff.mp H
        obtain ⟨⟨t324, t325, t326⟩, A260, H⟩ := H
        replace H : (if t326 = 0 then (if (t320 != t322) = true then (whole_DivMod.j2 kj4 t320 t322 t323 t324 t325 (t325.toList != ([48] : List UInt8))) else (whole_DivMod.j2 kj4 t320 t322 t323 t324 t325 false)) else (some ((⟨#[]⟩ : ByteArray), (⟨#[]⟩ : ByteArray), t326))) = some (r1, r2, r3) := H
        have A26 := Aside0.mk A260
        clear A260
        by_cases c27 : t326 = 0
        · rw [if_pos c27] at H
          have c27b0 : (t326 == 0) = true := beq_iff_eq.mpr c27
          have c27b1 : (t326 != 0) = false := bne_eq_false_iff_eq.mpr c27
          clear c27
          have HC28 := Aside0.mk H
          clear H
          go_upto_region 16 with (first | (go_at_call 33; (with_reducible refine (whole_split.calls a0 t320 t321 _ A24.out).mono ?_); rintro e w' ⟨rfl, ⟨nd, rfl⟩⟩; (try first | exact ⟨rfl, _, World.drewN_drewN _ _ _⟩ | exact ⟨rfl, _, Eq.trans (World.drewN_drewN _ _ _) (congrArg (World.drewN _) (Nat.add_assoc _ _ _))⟩)) | (go_at_call 33; (with_reducible refine (whole_split.calls a1 t322 t323 _ A25.out).mono ?_); rintro e w' ⟨rfl, ⟨nd, rfl⟩⟩; (try first | exact ⟨rfl, _, World.drewN_drewN _ _ _⟩ | exact ⟨rfl, _, Eq.trans (World.drewN_drewN _ _ _) (congrArg (World.drewN _) (Nat.add_assoc _ _ _))⟩)) | (go_at_call 41; (with_reducible refine (decimal_DivMod.calls (hT := HT.out.below bq) kj4 t321 t323 t324 t325 t326 _ A26.out).mono ?_); rintro e w29 ⟨rfl, hb⟩; replace HB := Aside0.mk (below_step bq hb); (try clear hb); (try clear hb2); (try clear hk); (try clear hi)))
          repeat (go_quiet (first | (go_at_call 33; (with_reducible refine (whole_split.calls a0 t320 t321 _ A24.out).mono ?_); rintro e w' ⟨rfl, ⟨nd, rfl⟩⟩; (try first | exact ⟨rfl, _, World.drewN_drewN _ _ _⟩ | exact ⟨rfl, _, Eq.trans (World.drewN_drewN _ _ _) (congrArg (World.drewN _) (Nat.add_assoc _ _ _))⟩)) | (go_at_call 33; (with_reducible refine (whole_split.calls a1 t322 t323 _ A25.out).mono ?_); rintro e w' ⟨rfl, ⟨nd, rfl⟩⟩; (try first | exact ⟨rfl, _, World.drewN_drewN _ _ _⟩ | exact ⟨rfl, _, Eq.trans (World.drewN_drewN _ _ _) (congrArg (World.drewN _) (Nat.add_assoc _ _ _))⟩)) | (go_at_call 41; (with_reducible refine (decimal_DivMod.calls (hT := HT.out.below bq) kj4 t321 t323 t324 t325 t326 _ A26.out).mono ?_); rintro e w29 ⟨rfl, hb⟩; replace HB := Aside0.mk (below_step bq hb); (try clear hb); (try clear hb2); (try clear hk); (try clear hi))); go_upto_region 16 with (first | (go_at_call 33; (with_reducible refine (whole_split.calls a0 t320 t321 _ A24.out).mono ?_); rintro e w' ⟨rfl, ⟨nd, rfl⟩⟩; (try first | exact ⟨rfl, _, World.drewN_drewN _ _ _⟩ | exact ⟨rfl, _, Eq.trans (World.drewN_drewN _ _ _) (congrArg (World.drewN _) (Nat.add_assoc _ _ _))⟩)) | (go_at_call 33; (with_reducible refine (whole_split.calls a1 t322 t323 _ A25.out).mono ?_); rintro e w' ⟨rfl, ⟨nd, rfl⟩⟩; (try first | exact ⟨rfl, _, World.drewN_drewN _ _ _⟩ | exact ⟨rfl, _, Eq.trans (World.drewN_drewN _ _ _) (congrArg (World.drewN _) (Nat.add_assoc _ _ _))⟩)) | (go_at_call 41; (with_reducible refine (decimal_DivMod.calls (hT := HT.out.below bq) kj4 t321 t323 t324 t325 t326 _ A26.out).mono ?_); rintro e w29 ⟨rfl, hb⟩; replace HB := Aside0.mk (below_step bq hb); (try clear hb); (try clear hb2); (try clear hk); (try clear hi))))
          (try simp only [Act.put, List.setIfInBounds_toArray, List.set_cons_zero, List.set_cons_succ])
          go_cut [83] (fun v83 wc => ∃ (kq : Nat) (x83_27 : Bool), v83 = .bool x83_27 ∧ Aside0 (whole_DivMod.j2 kq t320 t322 t323 t324 t325 x83_27 = some (r1, r2, r3)) ∧ Aside0 (kq ≤ kj4) ∧ Aside0 (Below w.heap.size w wc))
          case first =>
            have H := HC28.out
            clear HC28
            by_cases c30 : (t320 != t322) = true
            · rw [if_pos c30] at H
              have c30b0 : (t320 != t322) = true := c30
              (try (have c30b1 : decide (t320 = t322) = false := by simpa using c30))
              (try (have c30b2 : (t320 == t322) = false := by simpa using c30))
              (try (have c30b3 : ¬ (t320 = t322) := by simpa using c30))
              clear c30
              (first | rw [c30b0] | (simp only [i64_w, i32_w]; rw [c30b0]) | skip)
              have H' := Aside0.mk H
              clear H
              go_wp2
              repeat (go_quiet (fail); try go_wp2)
              go_meet
              case rel => exact ⟨_, ((t325.toList != ([48] : List UInt8))), (by first | rfl | (simp; done) | (simp [*]; done)), H', ⟨by have := HJ4.out; first | omega | exact Nat.le_refl _⟩, ⟨bq⟩⟩
            · rw [if_neg c30] at H
              have c30b0 : (t320 != t322) = false := by simpa using c30
              (try (have c30b1 : decide (t320 = t322) = true := by simpa using c30))
              (try (have c30b2 : (t320 == t322) = true := by simpa using c30))
              clear c30
              (first | rw [c30b0] | (simp only [i64_w, i32_w]; rw [c30b0]) | skip)
              have H' := Aside0.mk H
              clear H
              go_wp2
              repeat (go_quiet (fail); try go_wp2)
              go_meet
              case rel => exact ⟨_, (false), (by first | rfl | (simp; done) | (simp [*]; done)), H', ⟨by have := HJ4.out; first | omega | exact Nat.le_refl _⟩, ⟨bq⟩⟩
          case rest =>
            clear HC28
            try clear c1
            try clear c2
            try clear p2
            try clear c3
            try clear c3b0
            try clear c3b1
            try clear p6
            try clear c7
            try clear c9
            try clear c10
            try clear c10b0
            try clear c10b1
            try clear c13
            try clear c13b0
            try clear c13b1
            try clear c14
            try clear c25
            try clear c27
            try clear c27b0
            try clear c27b1
            try clear c30
            try clear c30b0
            try clear c30b1
            try clear c30b2
            try clear p2
            try clear p6
            obtain ⟨kq, x83_27, rfl, HA, HJ27, HB⟩ := hcut
            cases kq with
            | zero => exact absurd HA.out (by simp [whole_DivMod.j2])
            | succ kj27 =>
              have H := HA.out
              clear HA
              simp only [whole_DivMod.j2] at H
              by_cases c31 : x83_27 = true
              · subst c31
                have H1 : ((decimal_Add.f kj27 t324 (⟨#[49]⟩ : ByteArray)).bind fun t327 => ((decimal_Sub.f kj27 t323 t325).bind fun bt328 => ((whole_join.f (t320 != t322) t327).bind fun t330 => ((whole_join.f t322 bt328.1).bind fun t331 => (some (t330, t331, 0)))))) = some (r1, r2, r3) := by rw [if_pos rfl] at H; exact H
                clear H
                have H := H1
                clear H1
                replace H := Option.bind_eq_some_iff.mp H
                obtain ⟨t327, A320, H⟩ := H
                replace H : ((decimal_Sub.f kj27 t323 t325).bind fun bt328 => ((whole_join.f (t320 != t322) t327).bind fun t330 => ((whole_join.f t322 bt328.1).bind fun t331 => (some (t330, t331, 0))))) = some (r1, r2, r3) := H
                have A32 := Aside0.mk A320
                clear A320
                replace H := Option.bind_eq_some_iff.mp H
                obtain ⟨⟨t328, t329⟩, A330, H⟩ := H
                replace H : ((whole_join.f (t320 != t322) t327).bind fun t330 => ((whole_join.f t322 t328).bind fun t331 => (some (t330, t331, 0)))) = some (r1, r2, r3) := H
                have A33 := Aside0.mk A330
                clear A330
                replace H := Option.bind_eq_some_iff.mp H
                obtain ⟨t330, A340, H⟩ := H
                replace H : ((whole_join.f t322 t328).bind fun t331 => (some (t330, t331, 0))) = some (r1, r2, r3) := H
                have A34 := Aside0.mk A340
                clear A340
                replace H := Option.bind_eq_some_iff.mp H
                obtain ⟨t331, A350, H⟩ := H
                replace H : (some (t330, t331, 0)) = some (r1, r2, r3) := H
                have A35 := Aside0.mk A350
                clear A350
                simp only [Option.some.injEq, Prod.mk.injEq] at H
                obtain ⟨rfl, rfl, rfl⟩ := H
                have A34n := A34
                try rw [neq_bools] at A34n
                go_wp2_with (first | (go_at_call 42; (with_reducible refine (decimal_Add.calls (hT := HT.out.below bq) kj27 t324 (⟨#[49]⟩ : ByteArray) t327 _ A32.out).mono ?_); rintro e w36 ⟨rfl, hb⟩; replace HB := Aside0.mk (below_step bq hb); (try clear hb); (try clear hb2); (try clear hk); (try clear hi)) | (go_at_call 43; (with_reducible refine (decimal_Sub.calls (hT := HT.out.below bq) kj27 t323 t325 t328 t329 _ A33.out).mono ?_); rintro e w37 ⟨rfl, hb⟩; replace HB := Aside0.mk (below_step bq hb); (try clear hb); (try clear hb2); (try clear hk); (try clear hi)) | (go_at_call 37; (first | with_reducible refine (whole_join.calls (t320 != t322) t327 t330 _ A34.out).mono ?_ | with_reducible refine (whole_join.calls (!(t320 == t322)) t327 t330 _ A34n.out).mono ?_); rintro e w' ⟨rfl, ⟨nd, rfl⟩⟩; (try first | exact ⟨rfl, _, World.drewN_drewN _ _ _⟩ | exact ⟨rfl, _, Eq.trans (World.drewN_drewN _ _ _) (congrArg (World.drewN _) (Nat.add_assoc _ _ _))⟩)) | (go_at_call 37; (with_reducible refine (whole_join.calls t322 t328 t331 _ A35.out).mono ?_); rintro e w' ⟨rfl, ⟨nd, rfl⟩⟩; (try first | exact ⟨rfl, _, World.drewN_drewN _ _ _⟩ | exact ⟨rfl, _, Eq.trans (World.drewN_drewN _ _ _) (congrArg (World.drewN _) (Nat.add_assoc _ _ _))⟩)))
                have A34n := A34
                try rw [neq_bools] at A34n
                repeat (go_quiet (first | (go_at_call 42; (with_reducible refine (decimal_Add.calls (hT := HT.out.below bq) kj27 t324 (⟨#[49]⟩ : ByteArray) t327 _ A32.out).mono ?_); rintro e w36 ⟨rfl, hb⟩; replace HB := Aside0.mk (below_step bq hb); (try clear hb); (try clear hb2); (try clear hk); (try clear hi)) | (go_at_call 43; (with_reducible refine (decimal_Sub.calls (hT := HT.out.below bq) kj27 t323 t325 t328 t329 _ A33.out).mono ?_); rintro e w37 ⟨rfl, hb⟩; replace HB := Aside0.mk (below_step bq hb); (try clear hb); (try clear hb2); (try clear hk); (try clear hi)) | (go_at_call 37; (first | with_reducible refine (whole_join.calls (t320 != t322) t327 t330 _ A34.out).mono ?_ | with_reducible refine (whole_join.calls (!(t320 == t322)) t327 t330 _ A34n.out).mono ?_); rintro e w' ⟨rfl, ⟨nd, rfl⟩⟩; (try first | exact ⟨rfl, _, World.drewN_drewN _ _ _⟩ | exact ⟨rfl, _, Eq.trans (World.drewN_drewN _ _ _) (congrArg (World.drewN _) (Nat.add_assoc _ _ _))⟩)) | (go_at_call 37; (with_reducible refine (whole_join.calls t322 t328 t331 _ A35.out).mono ?_); rintro e w' ⟨rfl, ⟨nd, rfl⟩⟩; (try first | exact ⟨rfl, _, World.drewN_drewN _ _ _⟩ | exact ⟨rfl, _, Eq.trans (World.drewN_drewN _ _ _) (congrArg (World.drewN _) (Nat.add_assoc _ _ _))⟩))); try go_wp2_with (first | (go_at_call 42; (with_reducible refine (decimal_Add.calls (hT := HT.out.below bq) kj27 t324 (⟨#[49]⟩ : ByteArray) t327 _ A32.out).mono ?_); rintro e w36 ⟨rfl, hb⟩; replace HB := Aside0.mk (below_step bq hb); (try clear hb); (try clear hb2); (try clear hk); (try clear hi)) | (go_at_call 43; (with_reducible refine (decimal_Sub.calls (hT := HT.out.below bq) kj27 t323 t325 t328 t329 _ A33.out).mono ?_); rintro e w37 ⟨rfl, hb⟩; replace HB := Aside0.mk (below_step bq hb); (try clear hb); (try clear hb2); (try clear hk); (try clear hi)) | (go_at_call 37; (first | with_reducible refine (whole_join.calls (t320 != t322) t327 t330 _ A34.out).mono ?_ | with_reducible refine (whole_join.calls (!(t320 == t322)) t327 t330 _ A34n.out).mono ?_); rintro e w' ⟨rfl, ⟨nd, rfl⟩⟩; (try first | exact ⟨rfl, _, World.drewN_drewN _ _ _⟩ | exact ⟨rfl, _, Eq.trans (World.drewN_drewN _ _ _) (congrArg (World.drewN _) (Nat.add_assoc _ _ _))⟩)) | (go_at_call 37; (with_reducible refine (whole_join.calls t322 t328 t331 _ A35.out).mono ?_); rintro e w' ⟨rfl, ⟨nd, rfl⟩⟩; (try first | exact ⟨rfl, _, World.drewN_drewN _ _ _⟩ | exact ⟨rfl, _, Eq.trans (World.drewN_drewN _ _ _) (congrArg (World.drewN _) (Nat.add_assoc _ _ _))⟩))))
                go_ret3
                exact ⟨eq_, bq⟩
              · replace c31 := Bool.eq_false_iff.mpr c31
                subst c31
                have H1 : ((whole_join.f (t320 != t322) t324).bind fun t332 => ((whole_join.f t322 t325).bind fun t333 => (some (t332, t333, 0)))) = some (r1, r2, r3) := by rw [if_neg (show ¬ (false = true) by decide)] at H; exact H
                clear H
                have H := H1
                clear H1
                replace H := Option.bind_eq_some_iff.mp H
                obtain ⟨t332, A380, H⟩ := H
                replace H : ((whole_join.f t322 t325).bind fun t333 => (some (t332, t333, 0))) = some (r1, r2, r3) := H
                have A38 := Aside0.mk A380
                clear A380
                replace H := Option.bind_eq_some_iff.mp H
                obtain ⟨t333, A390, H⟩ := H
                replace H : (some (t332, t333, 0)) = some (r1, r2, r3) := H
                have A39 := Aside0.mk A390
                clear A390
                simp only [Option.some.injEq, Prod.mk.injEq] at H
                obtain ⟨rfl, rfl, rfl⟩ := H
                have A38n := A38
                try rw [neq_bools] at A38n
                go_wp2_with (first | (go_at_call 37; (first | with_reducible refine (whole_join.calls (t320 != t322) t324 t332 _ A38.out).mono ?_ | with_reducible refine (whole_join.calls (!(t320 == t322)) t324 t332 _ A38n.out).mono ?_); rintro e w' ⟨rfl, ⟨nd, rfl⟩⟩; (try first | exact ⟨rfl, _, World.drewN_drewN _ _ _⟩ | exact ⟨rfl, _, Eq.trans (World.drewN_drewN _ _ _) (congrArg (World.drewN _) (Nat.add_assoc _ _ _))⟩)) | (go_at_call 37; (with_reducible refine (whole_join.calls t322 t325 t333 _ A39.out).mono ?_); rintro e w' ⟨rfl, ⟨nd, rfl⟩⟩; (try first | exact ⟨rfl, _, World.drewN_drewN _ _ _⟩ | exact ⟨rfl, _, Eq.trans (World.drewN_drewN _ _ _) (congrArg (World.drewN _) (Nat.add_assoc _ _ _))⟩)))
                have A38n := A38
                try rw [neq_bools] at A38n
                repeat (go_quiet (first | (go_at_call 37; (first | with_reducible refine (whole_join.calls (t320 != t322) t324 t332 _ A38.out).mono ?_ | with_reducible refine (whole_join.calls (!(t320 == t322)) t324 t332 _ A38n.out).mono ?_); rintro e w' ⟨rfl, ⟨nd, rfl⟩⟩; (try first | exact ⟨rfl, _, World.drewN_drewN _ _ _⟩ | exact ⟨rfl, _, Eq.trans (World.drewN_drewN _ _ _) (congrArg (World.drewN _) (Nat.add_assoc _ _ _))⟩)) | (go_at_call 37; (with_reducible refine (whole_join.calls t322 t325 t333 _ A39.out).mono ?_); rintro e w' ⟨rfl, ⟨nd, rfl⟩⟩; (try first | exact ⟨rfl, _, World.drewN_drewN _ _ _⟩ | exact ⟨rfl, _, Eq.trans (World.drewN_drewN _ _ _) (congrArg (World.drewN _) (Nat.add_assoc _ _ _))⟩))); try go_wp2_with (first | (go_at_call 37; (first | with_reducible refine (whole_join.calls (t320 != t322) t324 t332 _ A38.out).mono ?_ | with_reducible refine (whole_join.calls (!(t320 == t322)) t324 t332 _ A38n.out).mono ?_); rintro e w' ⟨rfl, ⟨nd, rfl⟩⟩; (try first | exact ⟨rfl, _, World.drewN_drewN _ _ _⟩ | exact ⟨rfl, _, Eq.trans (World.drewN_drewN _ _ _) (congrArg (World.drewN _) (Nat.add_assoc _ _ _))⟩)) | (go_at_call 37; (with_reducible refine (whole_join.calls t322 t325 t333 _ A39.out).mono ?_); rintro e w' ⟨rfl, ⟨nd, rfl⟩⟩; (try first | exact ⟨rfl, _, World.drewN_drewN _ _ _⟩ | exact ⟨rfl, _, Eq.trans (World.drewN_drewN _ _ _) (congrArg (World.drewN _) (Nat.add_assoc _ _ _))⟩))))
                go_ret3
                exact ⟨eq_, bq⟩
        · rw [if_neg c27] at H
          have c27b0 : (t326 == 0) = false := beq_eq_false_iff_ne.mpr c27
          have c27b1 : (t326 != 0) = true := bne_iff_ne.mpr c27
          simp only [Option.some.injEq, Prod.mk.injEq] at H
          obtain ⟨rfl, rfl, rfl⟩ := H
          go_wp2_with (first | (go_at_call 33; (with_reducible refine (whole_split.calls a0 t320 t321 _ A24.out).mono ?_); rintro e w' ⟨rfl, ⟨nd, rfl⟩⟩; (try first | exact ⟨rfl, _, World.drewN_drewN _ _ _⟩ | exact ⟨rfl, _, Eq.trans (World.drewN_drewN _ _ _) (congrArg (World.drewN _) (Nat.add_assoc _ _ _))⟩)) | (go_at_call 33; (with_reducible refine (whole_split.calls a1 t322 t323 _ A25.out).mono ?_); rintro e w' ⟨rfl, ⟨nd, rfl⟩⟩; (try first | exact ⟨rfl, _, World.drewN_drewN _ _ _⟩ | exact ⟨rfl, _, Eq.trans (World.drewN_drewN _ _ _) (congrArg (World.drewN _) (Nat.add_assoc _ _ _))⟩)) | (go_at_call 41; (with_reducible refine (decimal_DivMod.calls (hT := HT.out.below bq) kj4 t321 t323 t324 t325 t326 _ A26.out).mono ?_); rintro e w40 ⟨rfl, hb⟩; replace HB := Aside0.mk (below_step bq hb); (try clear hb); (try clear hb2); (try clear hk); (try clear hi)))
          repeat (go_quiet (first | (go_at_call 33; (with_reducible refine (whole_split.calls a0 t320 t321 _ A24.out).mono ?_); rintro e w' ⟨rfl, ⟨nd, rfl⟩⟩; (try first | exact ⟨rfl, _, World.drewN_drewN _ _ _⟩ | exact ⟨rfl, _, Eq.trans (World.drewN_drewN _ _ _) (congrArg (World.drewN _) (Nat.add_assoc _ _ _))⟩)) | (go_at_call 33; (with_reducible refine (whole_split.calls a1 t322 t323 _ A25.out).mono ?_); rintro e w' ⟨rfl, ⟨nd, rfl⟩⟩; (try first | exact ⟨rfl, _, World.drewN_drewN _ _ _⟩ | exact ⟨rfl, _, Eq.trans (World.drewN_drewN _ _ _) (congrArg (World.drewN _) (Nat.add_assoc _ _ _))⟩)) | (go_at_call 41; (with_reducible refine (decimal_DivMod.calls (hT := HT.out.below bq) kj4 t321 t323 t324 t325 t326 _ A26.out).mono ?_); rintro e w40 ⟨rfl, hb⟩; replace HB := Aside0.mk (below_step bq hb); (try clear hb); (try clear hb2); (try clear hk); (try clear hi))); try go_wp2_with (first | (go_at_call 33; (with_reducible refine (whole_split.calls a0 t320 t321 _ A24.out).mono ?_); rintro e w' ⟨rfl, ⟨nd, rfl⟩⟩; (try first | exact ⟨rfl, _, World.drewN_drewN _ _ _⟩ | exact ⟨rfl, _, Eq.trans (World.drewN_drewN _ _ _) (congrArg (World.drewN _) (Nat.add_assoc _ _ _))⟩)) | (go_at_call 33; (with_reducible refine (whole_split.calls a1 t322 t323 _ A25.out).mono ?_); rintro e w' ⟨rfl, ⟨nd, rfl⟩⟩; (try first | exact ⟨rfl, _, World.drewN_drewN _ _ _⟩ | exact ⟨rfl, _, Eq.trans (World.drewN_drewN _ _ _) (congrArg (World.drewN _) (Nat.add_assoc _ _ _))⟩)) | (go_at_call 41; (with_reducible refine (decimal_DivMod.calls (hT := HT.out.below bq) kj4 t321 t323 t324 t325 t326 _ A26.out).mono ?_); rintro e w40 ⟨rfl, hb⟩; replace HB := Aside0.mk (below_step bq hb); (try clear hb); (try clear hb2); (try clear hk); (try clear hi))))
          go_ret3
          exact ⟨eq_, bq⟩
def whole_Sign.f (a0 : ByteArray) : Option (Int) := if a0.toList = ([48] : List UInt8) then (some 0) else (if 0 < (a0.size : Int) then (if (bt a0 0) = 45 then (some (-1)) else (some 1)) else (none))
set_option maxHeartbeats 8000000 in
set_option maxRecDepth 100000 in
theorem whole_Sign.calls (a0 : ByteArray) (r : Int) (w : World) (h : whole_Sign.f a0 = some r) :
    Calls Tryd.prog 17 #[.string a0] w fun e w' => e = .returned (.int .i64 r) ∧ Drawn0 w w' := by
  have H : (if a0.toList = ([48] : List UInt8) then (some 0) else (if 0 < (a0.size : Int) then (if (bt a0 0) = 45 then (some (-1)) else (some 1)) else (none))) = some r := h
  clear h
  by_cases c2 : a0.toList = ([48] : List UInt8)
  · rw [if_pos c2] at H
    have c2b0 : (a0.toList == ([48] : List UInt8)) = true := beq_iff_eq.mpr c2
    have c2b1 : (a0.toList != ([48] : List UInt8)) = false := bne_eq_false_iff_eq.mpr c2
    clear c2
    obtain rfl := Option.some.inj H
    go_enter Tryd.func17, Tryd.ntmps17
    go_wp2
    go_ret
    exact ⟨by first | rfl | (simp; done) | (simp [wrap64]; done) | (simp [*]; done), by repeat (first | exact Drawn0.refl _ | apply Drawn0.step)⟩
  · rw [if_neg c2] at H
    have c2b0 : (a0.toList == ([48] : List UInt8)) = false := beq_eq_false_iff_ne.mpr c2
    have c2b1 : (a0.toList != ([48] : List UInt8)) = true := bne_iff_ne.mpr c2
    by_cases c3 : 0 < (a0.size : Int)
    · rw [if_pos c3] at H
      have c3b0 : decide (0 < (a0.size : Int)) = true := decide_eq_true c3
      have c3b1 : decide (0 < a0.size) = true := decide_eq_true (by omega)
      clear c3
      by_cases c5 : (bt a0 0) = 45
      · rw [if_pos c5] at H
        have c5b0 : ((bt a0 0) == 45) = true := beq_iff_eq.mpr c5
        have c5b1 : ((bt a0 0) != 45) = false := bne_eq_false_iff_eq.mpr c5
        clear c5
        obtain rfl := Option.some.inj H
        have p4 : 0 ≤ (0 : Int) := (by omega)
        have q4 : 0 < a0.size := (by have : (0 : Int) < (a0.size : Int) := of_decide_eq_true (by first | (with_reducible assumption) | assumption); omega)
        have hx4 : ∀ h : 0 < a0.size, ((a0[0]'h).toNat : Int) = bt a0 0 := bt_at a0 0
        clear p4
        have qi4 : (0 < (a0.size : Int)) = True := eq_true (of_decide_eq_true (by first | (with_reducible assumption) | assumption))
        replace q4 := eq_true q4
        go_enter Tryd.func17, Tryd.ntmps17
        go_wp2
        go_ret
        exact ⟨by first | rfl | (simp; done) | (simp [wrap64]; done) | (simp [*]; done), by repeat (first | exact Drawn0.refl _ | apply Drawn0.step)⟩
      · rw [if_neg c5] at H
        have c5b0 : ((bt a0 0) == 45) = false := beq_eq_false_iff_ne.mpr c5
        have c5b1 : ((bt a0 0) != 45) = true := bne_iff_ne.mpr c5
        obtain rfl := Option.some.inj H
        have p4 : 0 ≤ (0 : Int) := (by omega)
        have q4 : 0 < a0.size := (by have : (0 : Int) < (a0.size : Int) := of_decide_eq_true (by first | (with_reducible assumption) | assumption); omega)
        have hx4 : ∀ h : 0 < a0.size, ((a0[0]'h).toNat : Int) = bt a0 0 := bt_at a0 0
        clear p4
        have qi4 : (0 < (a0.size : Int)) = True := eq_true (of_decide_eq_true (by first | (with_reducible assumption) | assumption))
        replace q4 := eq_true q4
        go_enter Tryd.func17, Tryd.ntmps17
        go_wp2
        go_ret
        exact ⟨by first | rfl | (simp; done) | (simp [wrap64]; done) | (simp [*]; done), by repeat (first | exact Drawn0.refl _ | apply Drawn0.step)⟩
    · rw [if_neg c3] at H
      exact absurd H (by simp)
def whole_Neg.f (a0 : ByteArray) : Option (ByteArray) := (whole_split.f a0).bind fun bt334 => ((whole_join.f (!bt334.1) bt334.2).bind fun t336 => (some t336))
set_option maxHeartbeats 8000000 in
set_option maxRecDepth 100000 in
theorem whole_Neg.calls (a0 : ByteArray) (r : ByteArray) (w : World) (h : whole_Neg.f a0 = some r) :
    Calls Tryd.prog 21 #[.string a0] w fun e w' => e = .returned (.string r) ∧ Drawn0 w w' := by
  have H : ((whole_split.f a0).bind fun bt334 => ((whole_join.f (!bt334.1) bt334.2).bind fun t336 => (some t336))) = some r := h
  clear h
  replace H := Option.bind_eq_some_iff.mp H
  obtain ⟨⟨t334, t335⟩, A20, H⟩ := H
  replace H : ((whole_join.f (!t334) t335).bind fun t336 => (some t336)) = some r := H
  have A2 := Aside0.mk A20
  clear A20
  replace H := Option.bind_eq_some_iff.mp H
  obtain ⟨t336, A30, H⟩ := H
  replace H : (some t336) = some r := H
  have A3 := Aside0.mk A30
  clear A30
  obtain rfl := Option.some.inj H
  go_enter Tryd.func21, Tryd.ntmps21
  go_wp2_with (first | ((with_reducible refine gate_callee (f := 33) rfl ?_); refine goesL_ (some 7) rfl rfl Tryd.func33 (by kernel_rfl) rfl #[.string a0] rfl mq ?_; (with_reducible refine (whole_split.calls a0 t334 t335 _ A2.out).mono ?_); rintro e w' ⟨rfl, ⟨nd, rfl⟩⟩; refine ⟨_, rfl, ?_⟩) | ((with_reducible refine gate_callee (f := 37) rfl ?_); refine goesL_ (some 13) rfl rfl Tryd.func37 (by kernel_rfl) rfl #[.bool (!t334), .string t335] rfl mq ?_; (with_reducible refine (whole_join.calls (!t334) t335 t336 _ A3.out).mono ?_); rintro e w' ⟨rfl, ⟨nd, rfl⟩⟩; refine ⟨_, rfl, ?_⟩))
  go_ret
  exact ⟨by first | rfl | (simp; done) | (simp [wrap64]; done) | (simp [*]; done), by repeat (first | exact Drawn0.refl _ | apply Drawn0.step)⟩
def whole_Abs.f (a0 : ByteArray) : Option (ByteArray) := (whole_split.f a0).bind fun bt337 => (some bt337.2)
set_option maxHeartbeats 8000000 in
set_option maxRecDepth 100000 in
theorem whole_Abs.calls (a0 : ByteArray) (r : ByteArray) (w : World) (h : whole_Abs.f a0 = some r) :
    Calls Tryd.prog 23 #[.string a0] w fun e w' => e = .returned (.string r) ∧ Drawn0 w w' := by
  have H : ((whole_split.f a0).bind fun bt337 => (some bt337.2)) = some r := h
  clear h
  replace H := Option.bind_eq_some_iff.mp H
  obtain ⟨⟨t337, t338⟩, A20, H⟩ := H
  replace H : (some t338) = some r := H
  have A2 := Aside0.mk A20
  clear A20
  obtain rfl := Option.some.inj H
  go_enter Tryd.func23, Tryd.ntmps23
  go_wp2_with (first | ((with_reducible refine gate_callee (f := 33) rfl ?_); refine goesL_ (some 7) rfl rfl Tryd.func33 (by kernel_rfl) rfl #[.string a0] rfl mq ?_; (with_reducible refine (whole_split.calls a0 t337 t338 _ A2.out).mono ?_); rintro e w' ⟨rfl, ⟨nd, rfl⟩⟩; refine ⟨_, rfl, ?_⟩))
  go_ret
  exact ⟨by first | rfl | (simp; done) | (simp [wrap64]; done) | (simp [*]; done), by repeat (first | exact Drawn0.refl _ | apply Drawn0.step)⟩
def whole_Add.j0 : Nat → ByteArray → ByteArray → Option (ByteArray)
  | 0, _, _ => none
  | k + 1, x0, x1 => (whole_split.f x0).bind fun bt344 => ((whole_split.f x1).bind fun bt346 => (if (bt344.1 == bt346.1) = true then ((decimal_Add.f k bt344.2 bt346.2).bind fun t348 => ((whole_join.f bt344.1 t348).bind fun t349 => (some t349))) else ((decimal_Compare.f bt344.2 bt346.2).bind fun t350 => (if t350 < 0 then ((decimal_Sub.f k bt346.2 bt344.2).bind fun bt351 => ((whole_join.f bt346.1 bt351.1).bind fun t353 => (some t353))) else ((decimal_Sub.f k bt344.2 bt346.2).bind fun bt354 => ((whole_join.f bt344.1 bt354.1).bind fun t356 => (some t356)))))))
def whole_Add.f (k : Nat) (a0 : ByteArray) (a1 : ByteArray) : Option (ByteArray) := (whole_little.f a0 18).bind fun bt339 => (if bt339.2 = true then ((whole_little.f a1 18).bind fun bt341 => (if bt341.2 = true then ((whole_Of.f (wrap64 (bt339.1 + bt341.1))).bind fun t343 => (some t343)) else (whole_Add.j0 k a0 a1))) else (whole_Add.j0 k a0 a1))
theorem whole_Add.mono_l : ∀ k, (∀ y0 y1, LeO (whole_Add.j0 k y0 y1) (whole_Add.j0 (k + 1) y0 y1))
  | 0 => fun _ _ r h => by simp [whole_Add.j0] at h
  | k + 1 => by
    have ih0 := whole_Add.mono_l k
    · intro y0 y1
      unfold whole_Add.j0
      repeat' first
      | (with_reducible exact ih0 _ _)
      | (with_reducible exact decimal_Add.mono _ _ _)
      | (with_reducible exact decimal_Sub.mono _ _ _)
      | (with_reducible exact LeO.refl _)
      | (with_reducible exact LeO.none _)
      | (with_reducible refine LeO.ite ?_ ?_)
      | (with_reducible refine LeO.bind ?_ (fun _ => ?_))
      | exact ih0 _ _
      | exact decimal_Add.mono _ _ _
      | exact decimal_Sub.mono _ _ _
      | exact LeO.none _
      | refine LeO.ite ?_ ?_
      | refine LeO.bind ?_ (fun _ => ?_)
theorem whole_Add.mono : ∀ a0 a1 k, LeO (whole_Add.f k a0 a1) (whole_Add.f (k + 1) a0 a1) := by
  intro a0 a1 k
  have ih0 := whole_Add.mono_l k
  unfold whole_Add.f
  repeat' first
      | (with_reducible exact ih0 _ _)
      | (with_reducible exact decimal_Add.mono _ _ _)
      | (with_reducible exact decimal_Sub.mono _ _ _)
      | (with_reducible exact LeO.refl _)
      | (with_reducible exact LeO.none _)
      | (with_reducible refine LeO.ite ?_ ?_)
      | (with_reducible refine LeO.bind ?_ (fun _ => ?_))
      | exact ih0 _ _
      | exact decimal_Add.mono _ _ _
      | exact decimal_Sub.mono _ _ _
      | exact LeO.none _
      | refine LeO.ite ?_ ?_
      | refine LeO.bind ?_ (fun _ => ?_)
set_option maxHeartbeats 8000000 in
set_option maxRecDepth 100000 in
theorem whole_Add.calls (k : Nat) (a0 : ByteArray) (a1 : ByteArray) (r : ByteArray) (w : World) (hT : Tab w) (h : whole_Add.f k a0 a1 = some r) :
    Calls Tryd.prog 47 #[.string a0, .string a1] w fun e w' => e = .returned (.string r) ∧ Below w.heap.size w w' := by
  have HT := Aside0.mk hT
  clear hT
  have HB := Aside0.mk (Below.refl w.heap.size w)
  have H : ((whole_little.f a0 18).bind fun bt339 => (if bt339.2 = true then ((whole_little.f a1 18).bind fun bt341 => (if bt341.2 = true then ((whole_Of.f (wrap64 (bt339.1 + bt341.1))).bind fun t343 => (some t343)) else (whole_Add.j0 k a0 a1))) else (whole_Add.j0 k a0 a1))) = some r := h
  clear h
  replace H := Option.bind_eq_some_iff.mp H
  obtain ⟨⟨t339, t340⟩, A30, H⟩ := H
  replace H : (if t340 = true then ((whole_little.f a1 18).bind fun bt341 => (if bt341.2 = true then ((whole_Of.f (wrap64 (t339 + bt341.1))).bind fun t343 => (some t343)) else (whole_Add.j0 k a0 a1))) else (whole_Add.j0 k a0 a1)) = some r := H
  have A3 := Aside0.mk A30
  clear A30
  have HC4 := Aside0.mk H
  clear H
  go_enter Tryd.func47, Tryd.ntmps47
  go_upto_if 20 with (first | ((with_reducible refine gate_callee (f := 40) rfl ?_); refine goesL_ (some 17) rfl rfl Tryd.func40 (by kernel_rfl) rfl #[.string a0, .int .i64 18] rfl mq ?_; (with_reducible refine (whole_little.calls a0 18 t339 t340 _ A3.out).mono ?_); rintro e w5 ⟨rfl, hb⟩; refine ⟨_, rfl, ?_⟩; replace HB := Aside0.mk (below_step bq hb); (try clear hb); (try clear hb2); (try clear hk); (try clear hi)))
  (try simp only [Act.put, List.setIfInBounds_toArray, List.set_cons_zero, List.set_cons_succ])
  go_cut [] (fun wc => ∃ (kq : Nat), Aside0 (whole_Add.j0 kq a0 a1 = some r) ∧ Aside0 (kq ≤ k) ∧ Aside0 (Below w.heap.size w wc))
  case first =>
    have H := HC4.out
    clear HC4
    by_cases c6 : t340 = true
    · subst c6
      have H1 : ((whole_little.f a1 18).bind fun bt341 => (if bt341.2 = true then ((whole_Of.f (wrap64 (t339 + bt341.1))).bind fun t343 => (some t343)) else (whole_Add.j0 k a0 a1))) = some r := by rw [if_pos rfl] at H; exact H
      clear H
      have H := H1
      clear H1
      replace H := Option.bind_eq_some_iff.mp H
      obtain ⟨⟨t341, t342⟩, A70, H⟩ := H
      replace H : (if t342 = true then ((whole_Of.f (wrap64 (t339 + t341))).bind fun t343 => (some t343)) else (whole_Add.j0 k a0 a1)) = some r := H
      have A7 := Aside0.mk A70
      clear A70
      by_cases c8 : t342 = true
      · subst c8
        have H1 : ((whole_Of.f (wrap64 (t339 + t341))).bind fun t343 => (some t343)) = some r := by rw [if_pos rfl] at H; exact H
        clear H
        have H := H1
        clear H1
        replace H := Option.bind_eq_some_iff.mp H
        obtain ⟨t343, A90, H⟩ := H
        replace H : (some t343) = some r := H
        have A9 := Aside0.mk A90
        clear A90
        obtain rfl := Option.some.inj H
        go_wp2_with (first | ((with_reducible refine gate_callee (f := 40) rfl ?_); refine goesL_ (some 23) rfl rfl Tryd.func40 (by kernel_rfl) rfl #[.string a1, .int .i64 18] rfl mq ?_; (with_reducible refine (whole_little.calls a1 18 t341 true _ A7.out).mono ?_); rintro e w10 ⟨rfl, hb⟩; refine ⟨_, rfl, ?_⟩; replace HB := Aside0.mk (below_step bq hb); (try clear hb); (try clear hb2); (try clear hk); (try clear hi)) | ((with_reducible refine gate_callee (f := 10) rfl ?_); refine goesL_ (some 30) rfl rfl Tryd.func10 (by kernel_rfl) rfl #[.int .i64 (wrap64 (t339 + t341))] rfl mq ?_; (with_reducible refine (whole_Of.calls (hT := HT.out.below bq) (wrap64 (t339 + t341)) t343 _ A9.out).mono ?_); rintro e w11 ⟨rfl, hb⟩; refine ⟨_, rfl, ?_⟩; replace HB := Aside0.mk (below_step bq hb); (try clear hb); (try clear hb2); (try clear hk); (try clear hi)))
        go_ret
        exact ⟨eq_, bq⟩
      · replace c8 := Bool.eq_false_iff.mpr c8
        subst c8
        have H1 : (whole_Add.j0 k a0 a1) = some r := by rw [if_neg (show ¬ (false = true) by decide)] at H; exact H
        clear H
        have H := H1
        clear H1
        have H' := Aside0.mk H
        clear H
        go_wp2_with (first | ((with_reducible refine gate_callee (f := 40) rfl ?_); refine goesL_ (some 23) rfl rfl Tryd.func40 (by kernel_rfl) rfl #[.string a1, .int .i64 18] rfl mq ?_; (with_reducible refine (whole_little.calls a1 18 t341 false _ A7.out).mono ?_); rintro e w12 ⟨rfl, hb⟩; refine ⟨_, rfl, ?_⟩; replace HB := Aside0.mk (below_step bq hb); (try clear hb); (try clear hb2); (try clear hk); (try clear hi)))
        go_meet
        case rel => exact ⟨_, H', ⟨by first | omega | exact Nat.le_refl _⟩, ⟨bq⟩⟩
    · replace c6 := Bool.eq_false_iff.mpr c6
      subst c6
      have H1 : (whole_Add.j0 k a0 a1) = some r := by rw [if_neg (show ¬ (false = true) by decide)] at H; exact H
      clear H
      have H := H1
      clear H1
      have H' := Aside0.mk H
      clear H
      go_wp2
      go_meet
      case rel => exact ⟨_, H', ⟨by first | omega | exact Nat.le_refl _⟩, ⟨bq⟩⟩
  case rest =>
    clear HC4
    try clear c1
    try clear p2
    try clear c4
    try clear c6
    try clear p6
    try clear c8
    try clear c10
    obtain ⟨kq, HA, HJ3, HB⟩ := hcut
    cases kq with
    | zero => exact absurd HA.out (by simp [whole_Add.j0])
    | succ kj3 =>
      have H := HA.out
      clear HA
      simp only [whole_Add.j0] at H
      replace H := Option.bind_eq_some_iff.mp H
      obtain ⟨⟨t344, t345⟩, A130, H⟩ := H
      replace H : ((whole_split.f a1).bind fun bt346 => (if (t344 == bt346.1) = true then ((decimal_Add.f kj3 t345 bt346.2).bind fun t348 => ((whole_join.f t344 t348).bind fun t349 => (some t349))) else ((decimal_Compare.f t345 bt346.2).bind fun t350 => (if t350 < 0 then ((decimal_Sub.f kj3 bt346.2 t345).bind fun bt351 => ((whole_join.f bt346.1 bt351.1).bind fun t353 => (some t353))) else ((decimal_Sub.f kj3 t345 bt346.2).bind fun bt354 => ((whole_join.f t344 bt354.1).bind fun t356 => (some t356))))))) = some r := H
      have A13 := Aside0.mk A130
      clear A130
      replace H := Option.bind_eq_some_iff.mp H
      obtain ⟨⟨t346, t347⟩, A140, H⟩ := H
      replace H : (if (t344 == t346) = true then ((decimal_Add.f kj3 t345 t347).bind fun t348 => ((whole_join.f t344 t348).bind fun t349 => (some t349))) else ((decimal_Compare.f t345 t347).bind fun t350 => (if t350 < 0 then ((decimal_Sub.f kj3 t347 t345).bind fun bt351 => ((whole_join.f t346 bt351.1).bind fun t353 => (some t353))) else ((decimal_Sub.f kj3 t345 t347).bind fun bt354 => ((whole_join.f t344 bt354.1).bind fun t356 => (some t356)))))) = some r := H
      have A14 := Aside0.mk A140
      clear A140
      by_cases c15 : (t344 == t346) = true
      · rw [if_pos c15] at H
        have c15b0 : (t344 == t346) = true := c15
        (try (have c15b1 : decide (t344 = t346) = true := by simpa using c15))
        (try (have c15b2 : (t344 == t346) = true := by simpa using c15))
        clear c15
        replace H := Option.bind_eq_some_iff.mp H
        obtain ⟨t348, A160, H⟩ := H
        replace H : ((whole_join.f t344 t348).bind fun t349 => (some t349)) = some r := H
        have A16 := Aside0.mk A160
        clear A160
        replace H := Option.bind_eq_some_iff.mp H
        obtain ⟨t349, A170, H⟩ := H
        replace H : (some t349) = some r := H
        have A17 := Aside0.mk A170
        clear A170
        obtain rfl := Option.some.inj H
        go_wp2_with (first | ((with_reducible refine gate_callee (f := 33) rfl ?_); refine goesL_ (some 33) rfl rfl Tryd.func33 (by kernel_rfl) rfl #[.string a0] rfl mq ?_; (with_reducible refine (whole_split.calls a0 t344 t345 _ A13.out).mono ?_); rintro e w' ⟨rfl, ⟨nd, rfl⟩⟩; refine ⟨_, rfl, ?_⟩) | ((with_reducible refine gate_callee (f := 33) rfl ?_); refine goesL_ (some 38) rfl rfl Tryd.func33 (by kernel_rfl) rfl #[.string a1] rfl mq ?_; (with_reducible refine (whole_split.calls a1 t346 t347 _ A14.out).mono ?_); rintro e w' ⟨rfl, ⟨nd, rfl⟩⟩; refine ⟨_, rfl, ?_⟩) | ((with_reducible refine gate_callee (f := 42) rfl ?_); refine goesL_ (some 47) rfl rfl Tryd.func42 (by kernel_rfl) rfl #[.string t345, .string t347] rfl mq ?_; (with_reducible refine (decimal_Add.calls (hT := HT.out.below bq) kj3 t345 t347 t348 _ A16.out).mono ?_); rintro e w18 ⟨rfl, hb⟩; refine ⟨_, rfl, ?_⟩; replace HB := Aside0.mk (below_step bq hb); (try clear hb); (try clear hb2); (try clear hk); (try clear hi)) | ((with_reducible refine gate_callee (f := 37) rfl ?_); refine goesL_ (some 48) rfl rfl Tryd.func37 (by kernel_rfl) rfl #[.bool t344, .string t348] rfl mq ?_; (with_reducible refine (whole_join.calls t344 t348 t349 _ A17.out).mono ?_); rintro e w' ⟨rfl, ⟨nd, rfl⟩⟩; refine ⟨_, rfl, ?_⟩))
        go_ret
        exact ⟨eq_, bq⟩
      · rw [if_neg c15] at H
        have c15b0 : (t344 == t346) = false := by simpa using c15
        (try (have c15b1 : decide (t344 = t346) = false := by simpa using c15))
        (try (have c15b2 : (t344 == t346) = false := by simpa using c15))
        (try (have c15b3 : ¬ (t344 = t346) := by simpa using c15))
        clear c15
        replace H := Option.bind_eq_some_iff.mp H
        obtain ⟨t350, A190, H⟩ := H
        replace H : (if t350 < 0 then ((decimal_Sub.f kj3 t347 t345).bind fun bt351 => ((whole_join.f t346 bt351.1).bind fun t353 => (some t353))) else ((decimal_Sub.f kj3 t345 t347).bind fun bt354 => ((whole_join.f t344 bt354.1).bind fun t356 => (some t356)))) = some r := H
        have A19 := Aside0.mk A190
        clear A190
        by_cases c20 : t350 < 0
        · rw [if_pos c20] at H
          have c20b0 : decide (t350 < 0) = true := decide_eq_true c20
          clear c20
          replace H := Option.bind_eq_some_iff.mp H
          obtain ⟨⟨t351, t352⟩, A210, H⟩ := H
          replace H : ((whole_join.f t346 t351).bind fun t353 => (some t353)) = some r := H
          have A21 := Aside0.mk A210
          clear A210
          replace H := Option.bind_eq_some_iff.mp H
          obtain ⟨t353, A220, H⟩ := H
          replace H : (some t353) = some r := H
          have A22 := Aside0.mk A220
          clear A220
          obtain rfl := Option.some.inj H
          go_wp2_with (first | ((with_reducible refine gate_callee (f := 33) rfl ?_); refine goesL_ (some 33) rfl rfl Tryd.func33 (by kernel_rfl) rfl #[.string a0] rfl mq ?_; (with_reducible refine (whole_split.calls a0 t344 t345 _ A13.out).mono ?_); rintro e w' ⟨rfl, ⟨nd, rfl⟩⟩; refine ⟨_, rfl, ?_⟩) | ((with_reducible refine gate_callee (f := 33) rfl ?_); refine goesL_ (some 38) rfl rfl Tryd.func33 (by kernel_rfl) rfl #[.string a1] rfl mq ?_; (with_reducible refine (whole_split.calls a1 t346 t347 _ A14.out).mono ?_); rintro e w' ⟨rfl, ⟨nd, rfl⟩⟩; refine ⟨_, rfl, ?_⟩) | ((with_reducible refine gate_callee (f := 38) rfl ?_); refine goesL_ (some 51) rfl rfl Tryd.func38 (by kernel_rfl) rfl #[.string t345, .string t347] rfl mq ?_; (with_reducible refine (decimal_Compare.calls t345 t347 t350 _ A19.out).mono ?_); rintro e w23 ⟨rfl, hb⟩; refine ⟨_, rfl, ?_⟩; replace HB := Aside0.mk (below_step bq hb); (try clear hb); (try clear hb2); (try clear hk); (try clear hi)) | ((with_reducible refine gate_callee (f := 43) rfl ?_); refine goesL_ (some 59) rfl rfl Tryd.func43 (by kernel_rfl) rfl #[.string t347, .string t345] rfl mq ?_; (with_reducible refine (decimal_Sub.calls (hT := HT.out.below bq) kj3 t347 t345 t351 t352 _ A21.out).mono ?_); rintro e w24 ⟨rfl, hb⟩; refine ⟨_, rfl, ?_⟩; replace HB := Aside0.mk (below_step bq hb); (try clear hb); (try clear hb2); (try clear hk); (try clear hi)) | ((with_reducible refine gate_callee (f := 37) rfl ?_); refine goesL_ (some 64) rfl rfl Tryd.func37 (by kernel_rfl) rfl #[.bool t346, .string t351] rfl mq ?_; (with_reducible refine (whole_join.calls t346 t351 t353 _ A22.out).mono ?_); rintro e w' ⟨rfl, ⟨nd, rfl⟩⟩; refine ⟨_, rfl, ?_⟩))
          go_ret
          exact ⟨eq_, bq⟩
        · rw [if_neg c20] at H
          have c20b0 : decide (t350 < 0) = false := decide_eq_false c20
          clear c20
          replace H := Option.bind_eq_some_iff.mp H
          obtain ⟨⟨t354, t355⟩, A250, H⟩ := H
          replace H : ((whole_join.f t344 t354).bind fun t356 => (some t356)) = some r := H
          have A25 := Aside0.mk A250
          clear A250
          replace H := Option.bind_eq_some_iff.mp H
          obtain ⟨t356, A260, H⟩ := H
          replace H : (some t356) = some r := H
          have A26 := Aside0.mk A260
          clear A260
          obtain rfl := Option.some.inj H
          go_wp2_with (first | ((with_reducible refine gate_callee (f := 33) rfl ?_); refine goesL_ (some 33) rfl rfl Tryd.func33 (by kernel_rfl) rfl #[.string a0] rfl mq ?_; (with_reducible refine (whole_split.calls a0 t344 t345 _ A13.out).mono ?_); rintro e w' ⟨rfl, ⟨nd, rfl⟩⟩; refine ⟨_, rfl, ?_⟩) | ((with_reducible refine gate_callee (f := 33) rfl ?_); refine goesL_ (some 38) rfl rfl Tryd.func33 (by kernel_rfl) rfl #[.string a1] rfl mq ?_; (with_reducible refine (whole_split.calls a1 t346 t347 _ A14.out).mono ?_); rintro e w' ⟨rfl, ⟨nd, rfl⟩⟩; refine ⟨_, rfl, ?_⟩) | ((with_reducible refine gate_callee (f := 38) rfl ?_); refine goesL_ (some 51) rfl rfl Tryd.func38 (by kernel_rfl) rfl #[.string t345, .string t347] rfl mq ?_; (with_reducible refine (decimal_Compare.calls t345 t347 t350 _ A19.out).mono ?_); rintro e w27 ⟨rfl, hb⟩; refine ⟨_, rfl, ?_⟩; replace HB := Aside0.mk (below_step bq hb); (try clear hb); (try clear hb2); (try clear hk); (try clear hi)) | ((with_reducible refine gate_callee (f := 43) rfl ?_); refine goesL_ (some 59) rfl rfl Tryd.func43 (by kernel_rfl) rfl #[.string t345, .string t347] rfl mq ?_; (with_reducible refine (decimal_Sub.calls (hT := HT.out.below bq) kj3 t345 t347 t354 t355 _ A25.out).mono ?_); rintro e w28 ⟨rfl, hb⟩; refine ⟨_, rfl, ?_⟩; replace HB := Aside0.mk (below_step bq hb); (try clear hb); (try clear hb2); (try clear hk); (try clear hi)) | ((with_reducible refine gate_callee (f := 37) rfl ?_); refine goesL_ (some 64) rfl rfl Tryd.func37 (by kernel_rfl) rfl #[.bool t344, .string t354] rfl mq ?_; (with_reducible refine (whole_join.calls t344 t354 t356 _ A26.out).mono ?_); rintro e w' ⟨rfl, ⟨nd, rfl⟩⟩; refine ⟨_, rfl, ?_⟩))
          go_ret
          exact ⟨eq_, bq⟩
def whole_Sub.f (k : Nat) (a0 : ByteArray) (a1 : ByteArray) : Option (ByteArray) := (whole_Neg.f a1).bind fun t357 => ((whole_Add.f k a0 t357).bind fun t358 => (some t358))
theorem whole_Sub.mono : ∀ a0 a1 k, LeO (whole_Sub.f k a0 a1) (whole_Sub.f (k + 1) a0 a1) := by
  intro a0 a1 k
  unfold whole_Sub.f
  repeat' first
      | (with_reducible exact whole_Add.mono _ _ _)
      | (with_reducible exact LeO.refl _)
      | (with_reducible exact LeO.none _)
      | (with_reducible refine LeO.ite ?_ ?_)
      | (with_reducible refine LeO.bind ?_ (fun _ => ?_))
      | exact whole_Add.mono _ _ _
      | exact LeO.none _
      | refine LeO.ite ?_ ?_
      | refine LeO.bind ?_ (fun _ => ?_)
set_option maxHeartbeats 8000000 in
set_option maxRecDepth 100000 in
theorem whole_Sub.calls (k : Nat) (a0 : ByteArray) (a1 : ByteArray) (r : ByteArray) (w : World) (hT : Tab w) (h : whole_Sub.f k a0 a1 = some r) :
    Calls Tryd.prog 44 #[.string a0, .string a1] w fun e w' => e = .returned (.string r) ∧ Below w.heap.size w w' := by
  have HT := Aside0.mk hT
  clear hT
  have HB := Aside0.mk (Below.refl w.heap.size w)
  have H : ((whole_Neg.f a1).bind fun t357 => ((whole_Add.f k a0 t357).bind fun t358 => (some t358))) = some r := h
  clear h
  replace H := Option.bind_eq_some_iff.mp H
  obtain ⟨t357, A30, H⟩ := H
  replace H : ((whole_Add.f k a0 t357).bind fun t358 => (some t358)) = some r := H
  have A3 := Aside0.mk A30
  clear A30
  replace H := Option.bind_eq_some_iff.mp H
  obtain ⟨t358, A40, H⟩ := H
  replace H : (some t358) = some r := H
  have A4 := Aside0.mk A40
  clear A40
  obtain rfl := Option.some.inj H
  go_enter Tryd.func44, Tryd.ntmps44
  go_wp2_with (first | ((with_reducible refine gate_callee (f := 21) rfl ?_); refine goesL_ (some 7) rfl rfl Tryd.func21 (by kernel_rfl) rfl #[.string a1] rfl mq ?_; (with_reducible refine (whole_Neg.calls a1 t357 _ A3.out).mono ?_); rintro e w' ⟨rfl, ⟨nd, rfl⟩⟩; refine ⟨_, rfl, ?_⟩) | ((with_reducible refine gate_callee (f := 47) rfl ?_); refine goesL_ (some 8) rfl rfl Tryd.func47 (by kernel_rfl) rfl #[.string a0, .string t357] rfl mq ?_; (with_reducible refine (whole_Add.calls (hT := HT.out.below bq) k a0 t357 t358 _ A4.out).mono ?_); rintro e w5 ⟨rfl, hb⟩; refine ⟨_, rfl, ?_⟩; replace HB := Aside0.mk (below_step bq hb); (try clear hb); (try clear hb2); (try clear hk); (try clear hi)))
  go_ret
  exact ⟨eq_, bq⟩
def decimal_Mul.f (k : Nat) (a0 : ByteArray) (a1 : ByteArray) : Option (ByteArray) := if (wrap64 ((a0.size : Int) + (a1.size : Int))) ≤ 18 then ((decimal_both.f k a0 a1).bind fun bt359 => ((decimal_Of.f (IntKind.u64.wrap (bt359.1 * bt359.2.1))).bind fun t362 => (some t362))) else ((decimal_cut.f k a0).bind fun t363 => ((decimal_cut.f k a1).bind fun t366 => ((decimal_pieces_times.f k t363 t366).bind fun t369 => ((decimal_pieces_text.f k t369).bind fun t372 => (some t372)))))
theorem decimal_Mul.mono : ∀ a0 a1 k, LeO (decimal_Mul.f k a0 a1) (decimal_Mul.f (k + 1) a0 a1) := by
  intro a0 a1 k
  unfold decimal_Mul.f
  repeat' first
      | (with_reducible exact decimal_both.mono _ _ _)
      | (with_reducible exact decimal_cut.mono _ _)
      | (with_reducible exact decimal_pieces_text.mono _ _)
      | (with_reducible exact decimal_pieces_times.mono _ _ _)
      | (with_reducible exact LeO.refl _)
      | (with_reducible exact LeO.none _)
      | (with_reducible refine LeO.ite ?_ ?_)
      | (with_reducible refine LeO.bind ?_ (fun _ => ?_))
      | exact decimal_both.mono _ _ _
      | exact decimal_cut.mono _ _
      | exact decimal_pieces_text.mono _ _
      | exact decimal_pieces_times.mono _ _ _
      | exact LeO.none _
      | refine LeO.ite ?_ ?_
      | refine LeO.bind ?_ (fun _ => ?_)
set_option maxHeartbeats 8000000 in
set_option maxRecDepth 100000 in
theorem decimal_Mul.calls (k : Nat) (a0 : ByteArray) (a1 : ByteArray) (r : ByteArray) (w : World) (hT : Tab w) (h : decimal_Mul.f k a0 a1 = some r) :
    Calls Tryd.prog 68 #[.string a0, .string a1] w fun e w' => e = .returned (.string r) ∧ Below w.heap.size w w' := by
  have HT := Aside0.mk hT
  clear hT
  have HB := Aside0.mk (Below.refl w.heap.size w)
  have H : (if (wrap64 ((a0.size : Int) + (a1.size : Int))) ≤ 18 then ((decimal_both.f k a0 a1).bind fun bt359 => ((decimal_Of.f (IntKind.u64.wrap (bt359.1 * bt359.2.1))).bind fun t362 => (some t362))) else ((decimal_cut.f k a0).bind fun t363 => ((decimal_cut.f k a1).bind fun t366 => ((decimal_pieces_times.f k t363 t366).bind fun t369 => ((decimal_pieces_text.f k t369).bind fun t372 => (some t372)))))) = some r := h
  clear h
  by_cases c3 : (wrap64 ((a0.size : Int) + (a1.size : Int))) ≤ 18
  · rw [if_pos c3] at H
    have c3b0 : decide ((wrap64 ((a0.size : Int) + (a1.size : Int))) ≤ 18) = true := decide_eq_true c3
    clear c3
    replace H := Option.bind_eq_some_iff.mp H
    obtain ⟨⟨t359, t360, t361⟩, A40, H⟩ := H
    replace H : ((decimal_Of.f (IntKind.u64.wrap (t359 * t360))).bind fun t362 => (some t362)) = some r := H
    have A4 := Aside0.mk A40
    clear A40
    replace H := Option.bind_eq_some_iff.mp H
    obtain ⟨t362, A50, H⟩ := H
    replace H : (some t362) = some r := H
    have A5 := Aside0.mk A50
    clear A50
    obtain rfl := Option.some.inj H
    go_enter Tryd.func68, Tryd.ntmps68
    go_wp2_with (first | ((with_reducible refine gate_callee (f := 58) rfl ?_); refine goesL_ (some 17) rfl rfl Tryd.func58 (by kernel_rfl) rfl #[.string a0, .string a1] rfl mq ?_; (with_reducible refine (decimal_both.calls (hT := HT.out.below bq) k a0 a1 t359 t360 t361 _ A4.out).mono ?_); rintro e w6 ⟨rfl, hb⟩; refine ⟨_, rfl, ?_⟩; replace HB := Aside0.mk (below_step bq hb); (try clear hb); (try clear hb2); (try clear hk); (try clear hi)) | ((with_reducible refine gate_callee (f := 59) rfl ?_); refine goesL_ (some 24) rfl rfl Tryd.func59 (by kernel_rfl) rfl #[.int .u64 (IntKind.u64.wrap (t359 * t360))] rfl mq ?_; (with_reducible refine (decimal_Of.calls (hT := HT.out.below bq) (IntKind.u64.wrap (t359 * t360)) t362 _ A5.out).mono ?_); rintro e w7 ⟨rfl, hb⟩; refine ⟨_, rfl, ?_⟩; replace HB := Aside0.mk (below_step bq hb); (try clear hb); (try clear hb2); (try clear hk); (try clear hi)))
    go_ret
    exact ⟨eq_, bq⟩
  · rw [if_neg c3] at H
    have c3b0 : decide ((wrap64 ((a0.size : Int) + (a1.size : Int))) ≤ 18) = false := decide_eq_false c3
    clear c3
    replace H := Option.bind_eq_some_iff.mp H
    obtain ⟨t363, A80, H⟩ := H
    replace H : ((decimal_cut.f k a1).bind fun t366 => ((decimal_pieces_times.f k t363 t366).bind fun t369 => ((decimal_pieces_text.f k t369).bind fun t372 => (some t372)))) = some r := H
    have A8 := Aside0.mk A80
    clear A80
    replace H := Option.bind_eq_some_iff.mp H
    obtain ⟨t366, A90, H⟩ := H
    replace H : ((decimal_pieces_times.f k t363 t366).bind fun t369 => ((decimal_pieces_text.f k t369).bind fun t372 => (some t372))) = some r := H
    have A9 := Aside0.mk A90
    clear A90
    replace H := Option.bind_eq_some_iff.mp H
    obtain ⟨t369, A100, H⟩ := H
    replace H : ((decimal_pieces_text.f k t369).bind fun t372 => (some t372)) = some r := H
    have A10 := Aside0.mk A100
    clear A100
    replace H := Option.bind_eq_some_iff.mp H
    obtain ⟨t372, A110, H⟩ := H
    replace H : (some t372) = some r := H
    have A11 := Aside0.mk A110
    clear A110
    obtain rfl := Option.some.inj H
    go_enter Tryd.func68, Tryd.ntmps68
    go_wp2_with (first | ((with_reducible refine gate_callee (f := 60) rfl ?_); refine goesL_ (some 26) rfl rfl Tryd.func60 (by kernel_rfl) rfl #[.string a0] rfl mq ?_; (with_reducible refine (decimal_cut.calls k a0 t363 _ A8.out).mono ?_); rintro e w12 ⟨v364, rfl, ho0, hb⟩; refine ⟨_, rfl, ?_⟩; have n0_ := Aside0.mk (Kd.R_lower ho0 (below_size bq)); have n1_ := Aside0.mk (below_step bq hb); clear HB; have HO365 := n0_; have HB := n1_; clear n0_ n1_; (try clear hb); (try clear hb2); (try clear hk); (try clear hi); (try clear ho0)) | ((with_reducible refine gate_callee (f := 60) rfl ?_); refine goesL_ (some 28) rfl rfl Tryd.func60 (by kernel_rfl) rfl #[.string a1] rfl mq ?_; (with_reducible refine (decimal_cut.calls k a1 t366 _ A9.out).mono ?_); rintro e w13 ⟨v367, rfl, ho0, hb⟩; refine ⟨_, rfl, ?_⟩; have n0_ := Aside0.mk (Kd.R_elder' (by (with_reducible repeat (first | apply Kd.R_alloc | apply Kd.R_drewN | apply Kd.R_drew)); exact HO365.out) (Kd.R_base ho0) hb); have n1_ := Aside0.mk (Kd.R_lower (Kd.R_new' ho0 (Kd.R_lt (by (with_reducible repeat (first | apply Kd.R_alloc | apply Kd.R_drewN | apply Kd.R_drew)); exact HO365.out))) (below_size bq)); have n2_ := Aside0.mk (below_step bq hb); clear HO365; clear HB; have HO365 := n0_; have HO368 := n1_; have HB := n2_; clear n0_ n1_ n2_; (try clear hb); (try clear hb2); (try clear hk); (try clear hi); (try clear ho0); obtain ⟨Ao14, co14, eo14⟩ := Kd.R_slice HO365.out; subst eo14; obtain ⟨Ao15, co15, eo15⟩ := Kd.R_slice HO368.out; subst eo15) | ((with_reducible refine gate_callee (f := 85) rfl ?_); refine goesL_ (some 29) rfl rfl Tryd.func85 (by kernel_rfl) rfl #[.slice Ao14 t363.length co14, .slice Ao15 t366.length co15] rfl mq ?_; (with_reducible refine (decimal_pieces_times.calls k _ _ t363 _ _ t366 t369 _ ?side1 ?side2 ?side3 ?side4 A10.out).mono ?_); (case side1 => repeat (first | exact (Kd.R_reads' HO365.out).2.2 | (with_reducible refine Kd.C_alloc ?_ _) | (with_reducible refine Kd.C_drewN ?_ _) | (with_reducible refine Kd.C_drew ?_))); (case side2 => exact (Kd.R_reads' HO365.out).2.1); (case side3 => repeat (first | exact (Kd.R_reads' HO368.out).2.2 | (with_reducible refine Kd.C_alloc ?_ _) | (with_reducible refine Kd.C_drewN ?_ _) | (with_reducible refine Kd.C_drew ?_))); (case side4 => exact (Kd.R_reads' HO368.out).2.1); rintro e w16 ⟨v370, rfl, ho0, hb⟩; refine ⟨_, rfl, ?_⟩; have n0_ := Aside0.mk (Kd.R_elder' (by (with_reducible repeat (first | apply Kd.R_alloc | apply Kd.R_drewN | apply Kd.R_drew)); exact HO365.out) (Kd.R_base ho0) hb); have n1_ := Aside0.mk (Kd.R_elder' (by (with_reducible repeat (first | apply Kd.R_alloc | apply Kd.R_drewN | apply Kd.R_drew)); exact HO368.out) (Kd.R_base ho0) hb); have n2_ := Aside0.mk (Kd.R_lower (Kd.R_new' (Kd.R_new' ho0 (Kd.R_lt (by (with_reducible repeat (first | apply Kd.R_alloc | apply Kd.R_drewN | apply Kd.R_drew)); exact HO365.out))) (Kd.R_lt (by (with_reducible repeat (first | apply Kd.R_alloc | apply Kd.R_drewN | apply Kd.R_drew)); exact HO368.out))) (below_size bq)); have n3_ := Aside0.mk (below_step bq hb); clear HO365; clear HO368; clear HB; have HO365 := n0_; have HO368 := n1_; have HO371 := n2_; have HB := n3_; clear n0_ n1_ n2_ n3_; (try clear hb); (try clear hb2); (try clear hk); (try clear hi); (try clear ho0); obtain ⟨Ao17, co17, eo17⟩ := Kd.R_slice HO371.out; subst eo17) | ((with_reducible refine gate_callee (f := 63) rfl ?_); refine goesL_ (some 30) rfl rfl Tryd.func63 (by kernel_rfl) rfl #[.slice Ao17 t369.length co17] rfl mq ?_; (with_reducible refine (decimal_pieces_text.calls k _ _ t369 t372 _ ?side1 ?side2 A11.out).mono ?_); (case side1 => repeat (first | exact (Kd.R_reads' HO371.out).2.2 | (with_reducible refine Kd.C_alloc ?_ _) | (with_reducible refine Kd.C_drewN ?_ _) | (with_reducible refine Kd.C_drew ?_))); (case side2 => exact (Kd.R_reads' HO371.out).2.1); rintro e w18 ⟨rfl, hb⟩; refine ⟨_, rfl, ?_⟩; have n0_ := Aside0.mk (Kd.R_below (by (with_reducible repeat (first | apply Kd.R_alloc | apply Kd.R_drewN | apply Kd.R_drew)); exact HO365.out) hb); have n1_ := Aside0.mk (Kd.R_below (by (with_reducible repeat (first | apply Kd.R_alloc | apply Kd.R_drewN | apply Kd.R_drew)); exact HO368.out) hb); have n2_ := Aside0.mk (Kd.R_below (by (with_reducible repeat (first | apply Kd.R_alloc | apply Kd.R_drewN | apply Kd.R_drew)); exact HO371.out) hb); have n3_ := Aside0.mk (below_step bq hb); clear HO365; clear HO368; clear HO371; clear HB; have HO365 := n0_; have HO368 := n1_; have HO371 := n2_; have HB := n3_; clear n0_ n1_ n2_ n3_; (try clear hb); (try clear hb2); (try clear hk); (try clear hi)))
    go_ret
    exact ⟨eq_, bq⟩
def whole_Mul.j0 : Nat → ByteArray → ByteArray → Option (ByteArray)
  | 0, _, _ => none
  | k + 1, x0, x1 => (whole_split.f x0).bind fun bt378 => ((whole_split.f x1).bind fun bt380 => ((decimal_Mul.f k bt378.2 bt380.2).bind fun t382 => ((whole_join.f (bt378.1 != bt380.1) t382).bind fun t383 => (some t383))))
def whole_Mul.f (k : Nat) (a0 : ByteArray) (a1 : ByteArray) : Option (ByteArray) := (whole_little.f a0 9).bind fun bt373 => (if bt373.2 = true then ((whole_little.f a1 9).bind fun bt375 => (if bt375.2 = true then ((whole_Of.f (wrap64 (bt373.1 * bt375.1))).bind fun t377 => (some t377)) else (whole_Mul.j0 k a0 a1))) else (whole_Mul.j0 k a0 a1))
theorem whole_Mul.mono_l : ∀ k, (∀ y0 y1, LeO (whole_Mul.j0 k y0 y1) (whole_Mul.j0 (k + 1) y0 y1))
  | 0 => fun _ _ r h => by simp [whole_Mul.j0] at h
  | k + 1 => by
    have ih0 := whole_Mul.mono_l k
    · intro y0 y1
      unfold whole_Mul.j0
      repeat' first
      | (with_reducible exact ih0 _ _)
      | (with_reducible exact decimal_Mul.mono _ _ _)
      | (with_reducible exact LeO.refl _)
      | (with_reducible exact LeO.none _)
      | (with_reducible refine LeO.ite ?_ ?_)
      | (with_reducible refine LeO.bind ?_ (fun _ => ?_))
      | exact ih0 _ _
      | exact decimal_Mul.mono _ _ _
      | exact LeO.none _
      | refine LeO.ite ?_ ?_
      | refine LeO.bind ?_ (fun _ => ?_)
theorem whole_Mul.mono : ∀ a0 a1 k, LeO (whole_Mul.f k a0 a1) (whole_Mul.f (k + 1) a0 a1) := by
  intro a0 a1 k
  have ih0 := whole_Mul.mono_l k
  unfold whole_Mul.f
  repeat' first
      | (with_reducible exact ih0 _ _)
      | (with_reducible exact decimal_Mul.mono _ _ _)
      | (with_reducible exact LeO.refl _)
      | (with_reducible exact LeO.none _)
      | (with_reducible refine LeO.ite ?_ ?_)
      | (with_reducible refine LeO.bind ?_ (fun _ => ?_))
      | exact ih0 _ _
      | exact decimal_Mul.mono _ _ _
      | exact LeO.none _
      | refine LeO.ite ?_ ?_
      | refine LeO.bind ?_ (fun _ => ?_)
set_option maxHeartbeats 8000000 in
set_option maxRecDepth 100000 in
theorem whole_Mul.calls (k : Nat) (a0 : ByteArray) (a1 : ByteArray) (r : ByteArray) (w : World) (hT : Tab w) (h : whole_Mul.f k a0 a1 = some r) :
    Calls Tryd.prog 45 #[.string a0, .string a1] w fun e w' => e = .returned (.string r) ∧ Below w.heap.size w w' := by
  have HT := Aside0.mk hT
  clear hT
  have HB := Aside0.mk (Below.refl w.heap.size w)
  have H : ((whole_little.f a0 9).bind fun bt373 => (if bt373.2 = true then ((whole_little.f a1 9).bind fun bt375 => (if bt375.2 = true then ((whole_Of.f (wrap64 (bt373.1 * bt375.1))).bind fun t377 => (some t377)) else (whole_Mul.j0 k a0 a1))) else (whole_Mul.j0 k a0 a1))) = some r := h
  clear h
  replace H := Option.bind_eq_some_iff.mp H
  obtain ⟨⟨t373, t374⟩, A30, H⟩ := H
  replace H : (if t374 = true then ((whole_little.f a1 9).bind fun bt375 => (if bt375.2 = true then ((whole_Of.f (wrap64 (t373 * bt375.1))).bind fun t377 => (some t377)) else (whole_Mul.j0 k a0 a1))) else (whole_Mul.j0 k a0 a1)) = some r := H
  have A3 := Aside0.mk A30
  clear A30
  have HC4 := Aside0.mk H
  clear H
  go_enter Tryd.func45, Tryd.ntmps45
  go_upto_if 18 with (first | ((with_reducible refine gate_callee (f := 40) rfl ?_); refine goesL_ (some 15) rfl rfl Tryd.func40 (by kernel_rfl) rfl #[.string a0, .int .i64 9] rfl mq ?_; (with_reducible refine (whole_little.calls a0 9 t373 t374 _ A3.out).mono ?_); rintro e w5 ⟨rfl, hb⟩; refine ⟨_, rfl, ?_⟩; replace HB := Aside0.mk (below_step bq hb); (try clear hb); (try clear hb2); (try clear hk); (try clear hi)))
  (try simp only [Act.put, List.setIfInBounds_toArray, List.set_cons_zero, List.set_cons_succ])
  go_cut [] (fun wc => ∃ (kq : Nat), Aside0 (whole_Mul.j0 kq a0 a1 = some r) ∧ Aside0 (kq ≤ k) ∧ Aside0 (Below w.heap.size w wc))
  case first =>
    have H := HC4.out
    clear HC4
    by_cases c6 : t374 = true
    · subst c6
      have H1 : ((whole_little.f a1 9).bind fun bt375 => (if bt375.2 = true then ((whole_Of.f (wrap64 (t373 * bt375.1))).bind fun t377 => (some t377)) else (whole_Mul.j0 k a0 a1))) = some r := by rw [if_pos rfl] at H; exact H
      clear H
      have H := H1
      clear H1
      replace H := Option.bind_eq_some_iff.mp H
      obtain ⟨⟨t375, t376⟩, A70, H⟩ := H
      replace H : (if t376 = true then ((whole_Of.f (wrap64 (t373 * t375))).bind fun t377 => (some t377)) else (whole_Mul.j0 k a0 a1)) = some r := H
      have A7 := Aside0.mk A70
      clear A70
      by_cases c8 : t376 = true
      · subst c8
        have H1 : ((whole_Of.f (wrap64 (t373 * t375))).bind fun t377 => (some t377)) = some r := by rw [if_pos rfl] at H; exact H
        clear H
        have H := H1
        clear H1
        replace H := Option.bind_eq_some_iff.mp H
        obtain ⟨t377, A90, H⟩ := H
        replace H : (some t377) = some r := H
        have A9 := Aside0.mk A90
        clear A90
        obtain rfl := Option.some.inj H
        go_wp2_with (first | ((with_reducible refine gate_callee (f := 40) rfl ?_); refine goesL_ (some 21) rfl rfl Tryd.func40 (by kernel_rfl) rfl #[.string a1, .int .i64 9] rfl mq ?_; (with_reducible refine (whole_little.calls a1 9 t375 true _ A7.out).mono ?_); rintro e w10 ⟨rfl, hb⟩; refine ⟨_, rfl, ?_⟩; replace HB := Aside0.mk (below_step bq hb); (try clear hb); (try clear hb2); (try clear hk); (try clear hi)) | ((with_reducible refine gate_callee (f := 10) rfl ?_); refine goesL_ (some 28) rfl rfl Tryd.func10 (by kernel_rfl) rfl #[.int .i64 (wrap64 (t373 * t375))] rfl mq ?_; (with_reducible refine (whole_Of.calls (hT := HT.out.below bq) (wrap64 (t373 * t375)) t377 _ A9.out).mono ?_); rintro e w11 ⟨rfl, hb⟩; refine ⟨_, rfl, ?_⟩; replace HB := Aside0.mk (below_step bq hb); (try clear hb); (try clear hb2); (try clear hk); (try clear hi)))
        go_ret
        exact ⟨eq_, bq⟩
      · replace c8 := Bool.eq_false_iff.mpr c8
        subst c8
        have H1 : (whole_Mul.j0 k a0 a1) = some r := by rw [if_neg (show ¬ (false = true) by decide)] at H; exact H
        clear H
        have H := H1
        clear H1
        have H' := Aside0.mk H
        clear H
        go_wp2_with (first | ((with_reducible refine gate_callee (f := 40) rfl ?_); refine goesL_ (some 21) rfl rfl Tryd.func40 (by kernel_rfl) rfl #[.string a1, .int .i64 9] rfl mq ?_; (with_reducible refine (whole_little.calls a1 9 t375 false _ A7.out).mono ?_); rintro e w12 ⟨rfl, hb⟩; refine ⟨_, rfl, ?_⟩; replace HB := Aside0.mk (below_step bq hb); (try clear hb); (try clear hb2); (try clear hk); (try clear hi)))
        go_meet
        case rel => exact ⟨_, H', ⟨by first | omega | exact Nat.le_refl _⟩, ⟨bq⟩⟩
    · replace c6 := Bool.eq_false_iff.mpr c6
      subst c6
      have H1 : (whole_Mul.j0 k a0 a1) = some r := by rw [if_neg (show ¬ (false = true) by decide)] at H; exact H
      clear H
      have H := H1
      clear H1
      have H' := Aside0.mk H
      clear H
      go_wp2
      go_meet
      case rel => exact ⟨_, H', ⟨by first | omega | exact Nat.le_refl _⟩, ⟨bq⟩⟩
  case rest =>
    clear HC4
    try clear c1
    try clear p2
    try clear c4
    try clear c6
    try clear p6
    try clear c8
    try clear c10
    obtain ⟨kq, HA, HJ3, HB⟩ := hcut
    cases kq with
    | zero => exact absurd HA.out (by simp [whole_Mul.j0])
    | succ kj3 =>
      have H := HA.out
      clear HA
      simp only [whole_Mul.j0] at H
      replace H := Option.bind_eq_some_iff.mp H
      obtain ⟨⟨t378, t379⟩, A130, H⟩ := H
      replace H : ((whole_split.f a1).bind fun bt380 => ((decimal_Mul.f kj3 t379 bt380.2).bind fun t382 => ((whole_join.f (t378 != bt380.1) t382).bind fun t383 => (some t383)))) = some r := H
      have A13 := Aside0.mk A130
      clear A130
      replace H := Option.bind_eq_some_iff.mp H
      obtain ⟨⟨t380, t381⟩, A140, H⟩ := H
      replace H : ((decimal_Mul.f kj3 t379 t381).bind fun t382 => ((whole_join.f (t378 != t380) t382).bind fun t383 => (some t383))) = some r := H
      have A14 := Aside0.mk A140
      clear A140
      replace H := Option.bind_eq_some_iff.mp H
      obtain ⟨t382, A150, H⟩ := H
      replace H : ((whole_join.f (t378 != t380) t382).bind fun t383 => (some t383)) = some r := H
      have A15 := Aside0.mk A150
      clear A150
      replace H := Option.bind_eq_some_iff.mp H
      obtain ⟨t383, A160, H⟩ := H
      replace H : (some t383) = some r := H
      have A16 := Aside0.mk A160
      clear A160
      obtain rfl := Option.some.inj H
      have A16n := A16
      try rw [neq_bools] at A16n
      go_wp2_with (first | ((with_reducible refine gate_callee (f := 33) rfl ?_); refine goesL_ (some 31) rfl rfl Tryd.func33 (by kernel_rfl) rfl #[.string a0] rfl mq ?_; (with_reducible refine (whole_split.calls a0 t378 t379 _ A13.out).mono ?_); rintro e w' ⟨rfl, ⟨nd, rfl⟩⟩; refine ⟨_, rfl, ?_⟩) | ((with_reducible refine gate_callee (f := 33) rfl ?_); refine goesL_ (some 36) rfl rfl Tryd.func33 (by kernel_rfl) rfl #[.string a1] rfl mq ?_; (with_reducible refine (whole_split.calls a1 t380 t381 _ A14.out).mono ?_); rintro e w' ⟨rfl, ⟨nd, rfl⟩⟩; refine ⟨_, rfl, ?_⟩) | ((with_reducible refine gate_callee (f := 68) rfl ?_); refine goesL_ (some 44) rfl rfl Tryd.func68 (by kernel_rfl) rfl #[.string t379, .string t381] rfl mq ?_; (with_reducible refine (decimal_Mul.calls (hT := HT.out.below bq) kj3 t379 t381 t382 _ A15.out).mono ?_); rintro e w17 ⟨rfl, hb⟩; refine ⟨_, rfl, ?_⟩; replace HB := Aside0.mk (below_step bq hb); (try clear hb); (try clear hb2); (try clear hk); (try clear hi)) | ((with_reducible refine gate_callee (f := 37) rfl ?_); refine goesL_ (some 45) rfl rfl Tryd.func37 (by kernel_rfl) rfl #[.bool (t378 != t380), .string t382] rfl mq ?_; (first | with_reducible refine (whole_join.calls (t378 != t380) t382 t383 _ A16.out).mono ?_ | with_reducible refine (whole_join.calls (!(t378 == t380)) t382 t383 _ A16n.out).mono ?_); rintro e w' ⟨rfl, ⟨nd, rfl⟩⟩; refine ⟨_, rfl, ?_⟩))
      go_ret
      exact ⟨eq_, bq⟩
mutual
def whole_Bezout.l0 : Nat → ByteArray → ByteArray → ByteArray → ByteArray → ByteArray → ByteArray → Option (ByteArray × ByteArray × ByteArray)
  | 0, _, _, _, _, _, _ => none
  | k + 1, x0, x1, x7, x8, x9, x10 => if x8.toList = ([48] : List UInt8) then ((whole_Sign.f x7).bind fun t392 => (if t392 < 0 then ((whole_Neg.f x7).bind fun t393 => ((whole_Neg.f x9).bind fun t394 => (whole_Bezout.j1 k x0 x1 t393 t394))) else (whole_Bezout.j1 k x0 x1 x7 x9))) else ((whole_DivMod.f k x7 x8).bind fun bt387 => ((whole_Mul.f k bt387.1 x10).bind fun t390 => ((whole_Sub.f k x9 t390).bind fun t391 => (whole_Bezout.l0 k x0 x1 x8 bt387.2.1 x10 t391))))
def whole_Bezout.j1 : Nat → ByteArray → ByteArray → ByteArray → ByteArray → Option (ByteArray × ByteArray × ByteArray)
  | 0, _, _, _, _ => none
  | k + 1, x0, x1, x7, x9 => (whole_Abs.f x1).bind fun t395 => ((whole_DivMod.f k t395 x7).bind fun bt396 => ((whole_DivMod.f k x9 bt396.1).bind fun bt399 => ((whole_Mul.f k x0 bt399.2.1).bind fun t402 => ((whole_Sub.f k x7 t402).bind fun t403 => ((whole_DivMod.f k t403 x1).bind fun bt404 => (some (x7, bt399.2.1, bt404.1)))))))
end
def whole_Bezout.f (k : Nat) (a0 : ByteArray) (a1 : ByteArray) : Option (ByteArray × ByteArray × ByteArray) := if a1.toList = ([48] : List UInt8) then ((whole_Abs.f a0).bind fun t384 => ((whole_Sign.f a0).bind fun t385 => ((whole_Of.f t385).bind fun t386 => (some (t384, t386, (⟨#[48]⟩ : ByteArray)))))) else (whole_Bezout.l0 k a0 a1 a0 a1 (⟨#[49]⟩ : ByteArray) (⟨#[48]⟩ : ByteArray))
theorem whole_Bezout.mono_l : ∀ k, (∀ y0 y1 y2 y3 y4 y5, LeO (whole_Bezout.l0 k y0 y1 y2 y3 y4 y5) (whole_Bezout.l0 (k + 1) y0 y1 y2 y3 y4 y5)) ∧ (∀ y0 y1 y2 y3, LeO (whole_Bezout.j1 k y0 y1 y2 y3) (whole_Bezout.j1 (k + 1) y0 y1 y2 y3))
  | 0 => ⟨fun _ _ _ _ _ _ r h => by simp [whole_Bezout.l0] at h, fun _ _ _ _ r h => by simp [whole_Bezout.j1] at h⟩
  | k + 1 => by
    obtain ⟨ih0, ih1⟩ := whole_Bezout.mono_l k
    refine ⟨?_, ?_⟩
    · intro y0 y1 y2 y3 y4 y5
      unfold whole_Bezout.l0
      repeat' first
      | (with_reducible exact ih0 _ _ _ _ _ _)
      | (with_reducible exact ih1 _ _ _ _)
      | (with_reducible exact whole_DivMod.mono _ _ _)
      | (with_reducible exact whole_Mul.mono _ _ _)
      | (with_reducible exact whole_Sub.mono _ _ _)
      | (with_reducible exact LeO.refl _)
      | (with_reducible exact LeO.none _)
      | (with_reducible refine LeO.ite ?_ ?_)
      | (with_reducible refine LeO.bind ?_ (fun _ => ?_))
      | exact ih0 _ _ _ _ _ _
      | exact ih1 _ _ _ _
      | exact whole_DivMod.mono _ _ _
      | exact whole_Mul.mono _ _ _
      | exact whole_Sub.mono _ _ _
      | exact LeO.none _
      | refine LeO.ite ?_ ?_
      | refine LeO.bind ?_ (fun _ => ?_)
    · intro y0 y1 y2 y3
      unfold whole_Bezout.j1
      repeat' first
      | (with_reducible exact ih0 _ _ _ _ _ _)
      | (with_reducible exact ih1 _ _ _ _)
      | (with_reducible exact whole_DivMod.mono _ _ _)
      | (with_reducible exact whole_Mul.mono _ _ _)
      | (with_reducible exact whole_Sub.mono _ _ _)
      | (with_reducible exact LeO.refl _)
      | (with_reducible exact LeO.none _)
      | (with_reducible refine LeO.ite ?_ ?_)
      | (with_reducible refine LeO.bind ?_ (fun _ => ?_))
      | exact ih0 _ _ _ _ _ _
      | exact ih1 _ _ _ _
      | exact whole_DivMod.mono _ _ _
      | exact whole_Mul.mono _ _ _
      | exact whole_Sub.mono _ _ _
      | exact LeO.none _
      | refine LeO.ite ?_ ?_
      | refine LeO.bind ?_ (fun _ => ?_)
theorem whole_Bezout.mono : ∀ a0 a1 k, LeO (whole_Bezout.f k a0 a1) (whole_Bezout.f (k + 1) a0 a1) := by
  intro a0 a1 k
  obtain ⟨ih0, ih1⟩ := whole_Bezout.mono_l k
  unfold whole_Bezout.f
  repeat' first
      | (with_reducible exact ih0 _ _ _ _ _ _)
      | (with_reducible exact ih1 _ _ _ _)
      | (with_reducible exact whole_DivMod.mono _ _ _)
      | (with_reducible exact whole_Mul.mono _ _ _)
      | (with_reducible exact whole_Sub.mono _ _ _)
      | (with_reducible exact LeO.refl _)
      | (with_reducible exact LeO.none _)
      | (with_reducible refine LeO.ite ?_ ?_)
      | (with_reducible refine LeO.bind ?_ (fun _ => ?_))
      | exact ih0 _ _ _ _ _ _
      | exact ih1 _ _ _ _
      | exact whole_DivMod.mono _ _ _
      | exact whole_Mul.mono _ _ _
      | exact whole_Sub.mono _ _ _
      | exact LeO.none _
      | refine LeO.ite ?_ ?_
      | refine LeO.bind ?_ (fun _ => ?_)
set_option maxHeartbeats 8000000 in
set_option maxRecDepth 100000 in
theorem whole_Bezout.calls (k : Nat) (a0 : ByteArray) (a1 : ByteArray) (r1 : ByteArray) (r2 : ByteArray) (r3 : ByteArray) (w : World) (hT : Tab w) (h : whole_Bezout.f k a0 a1 = some (r1, r2, r3)) :
    Calls Tryd.prog 26 #[.string a0, .string a1] w fun e w' => e = .returned (.tuple #[.string r1, .string r2, .string r3]) ∧ Below w.heap.size w w' := by
  have HT := Aside0.mk hT
  clear hT
  have HB := Aside0.mk (Below.refl w.heap.size w)
  have H : (if a1.toList = ([48] : List UInt8) then ((whole_Abs.f a0).bind fun t384 => ((whole_Sign.f a0).bind fun t385 => ((whole_Of.f t385).bind fun t386 => (some (t384, t386, (⟨#[48]⟩ : ByteArray)))))) else (whole_Bezout.l0 k a0 a1 a0 a1 (⟨#[49]⟩ : ByteArray) (⟨#[48]⟩ : ByteArray))) = some (r1, r2, r3) := h
  clear h
  by_cases c3 : a1.toList = ([48] : List UInt8)
  · rw [if_pos c3] at H
    have c3b0 : (a1.toList == ([48] : List UInt8)) = true := beq_iff_eq.mpr c3
    have c3b1 : (a1.toList != ([48] : List UInt8)) = false := bne_eq_false_iff_eq.mpr c3
    clear c3
    replace H := Option.bind_eq_some_iff.mp H
    obtain ⟨t384, A40, H⟩ := H
    replace H : ((whole_Sign.f a0).bind fun t385 => ((whole_Of.f t385).bind fun t386 => (some (t384, t386, (⟨#[48]⟩ : ByteArray))))) = some (r1, r2, r3) := H
    have A4 := Aside0.mk A40
    clear A40
    replace H := Option.bind_eq_some_iff.mp H
    obtain ⟨t385, A50, H⟩ := H
    replace H : ((whole_Of.f t385).bind fun t386 => (some (t384, t386, (⟨#[48]⟩ : ByteArray)))) = some (r1, r2, r3) := H
    have A5 := Aside0.mk A50
    clear A50
    replace H := Option.bind_eq_some_iff.mp H
    obtain ⟨t386, A60, H⟩ := H
    replace H : (some (t384, t386, (⟨#[48]⟩ : ByteArray))) = some (r1, r2, r3) := H
    have A6 := Aside0.mk A60
    clear A60
    simp only [Option.some.injEq, Prod.mk.injEq] at H
    obtain ⟨rfl, rfl, rfl⟩ := H
    go_enter Tryd.func26, Tryd.ntmps26
    go_wp2_with (first | ((with_reducible refine gate_callee (f := 23) rfl ?_); refine goesL_ (some 20) rfl rfl Tryd.func23 (by kernel_rfl) rfl #[.string a0] rfl mq ?_; (with_reducible refine (whole_Abs.calls a0 t384 _ A4.out).mono ?_); rintro e w' ⟨rfl, ⟨nd, rfl⟩⟩; refine ⟨_, rfl, ?_⟩) | ((with_reducible refine gate_callee (f := 17) rfl ?_); refine goesL_ (some 22) rfl rfl Tryd.func17 (by kernel_rfl) rfl #[.string a0] rfl mq ?_; (with_reducible refine (whole_Sign.calls a0 t385 _ A5.out).mono ?_); rintro e w' ⟨rfl, ⟨nd, rfl⟩⟩; refine ⟨_, rfl, ?_⟩) | ((with_reducible refine gate_callee (f := 10) rfl ?_); refine goesL_ (some 23) rfl rfl Tryd.func10 (by kernel_rfl) rfl #[.int .i64 t385] rfl mq ?_; (with_reducible refine (whole_Of.calls (hT := HT.out.below bq) t385 t386 _ A6.out).mono ?_); rintro e w7 ⟨rfl, hb⟩; refine ⟨_, rfl, ?_⟩; replace HB := Aside0.mk (below_step bq hb); (try clear hb); (try clear hb2); (try clear hk); (try clear hi)))
    go_ret3
    exact ⟨eq_, bq⟩
  · rw [if_neg c3] at H
    have c3b0 : (a1.toList == ([48] : List UInt8)) = false := beq_eq_false_iff_ne.mpr c3
    have c3b1 : (a1.toList != ([48] : List UInt8)) = true := bne_iff_ne.mpr c3
    have H' := Aside0.mk H
    clear H
    go_enter Tryd.func26, Tryd.ntmps26
    go_wp2
    go_loopg [7, 8, 9, 10] k (fun kq v7 v8 v9 v10 w' => ∃ (x7_1 : ByteArray) (x8_1 : ByteArray) (x9_1 : ByteArray) (x10_1 : ByteArray), v7 = .string x7_1 ∧ v8 = .string x8_1 ∧ v9 = .string x9_1 ∧ v10 = .string x10_1 ∧ Aside0 (whole_Bezout.l0 kq a0 a1 x7_1 x8_1 x9_1 x10_1 = some (r1, r2, r3)) ∧ Aside0 (kq ≤ k) ∧ Aside0 (Below w.heap.size w w'))
    case atStart => exact ⟨(a0), (a1), ((⟨#[49]⟩ : ByteArray)), ((⟨#[48]⟩ : ByteArray)), (by first | rfl | (simp; done) | (simp [*]; done)), (by first | rfl | (simp; done) | (simp [*]; done)), (by first | rfl | (simp; done) | (simp [*]; done)), (by first | rfl | (simp; done) | (simp [*]; done)), H', ⟨Nat.le_refl _⟩, ⟨bq⟩⟩
    case round =>
      clear H'
      try clear c1
      try clear c2
      try clear p2
      try clear c3
      try clear c3b0
      try clear c3b1
      obtain ⟨x7_1, x8_1, x9_1, x10_1, rfl, rfl, rfl, rfl, HA, HK1, HB⟩ := hrel
      cases gk with
      | zero => exact absurd HA.out (by simp [whole_Bezout.l0])
      | succ k1 =>
        have H := HA.out
        clear HA
        simp only [whole_Bezout.l0] at H
        by_cases c8 : x8_1.toList = ([48] : List UInt8)
        · rw [if_pos c8] at H
          have c8b0 : (x8_1.toList == ([48] : List UInt8)) = true := beq_iff_eq.mpr c8
          have c8b1 : (x8_1.toList != ([48] : List UInt8)) = false := bne_eq_false_iff_eq.mpr c8
          clear c8
          replace H := Option.bind_eq_some_iff.mp H
          obtain ⟨t392, A90, H⟩ := H
          replace H : (if t392 < 0 then ((whole_Neg.f x7_1).bind fun t393 => ((whole_Neg.f x9_1).bind fun t394 => (whole_Bezout.j1 k1 a0 a1 t393 t394))) else (whole_Bezout.j1 k1 a0 a1 x7_1 x9_1)) = some (r1, r2, r3) := H
          have A9 := Aside0.mk A90
          clear A90
          have HC10 := Aside0.mk H
          clear H
          go_upto_if 45 with (first | ((with_reducible refine gate_callee (f := 17) rfl ?_); refine goesL_ (some 44) rfl rfl Tryd.func17 (by kernel_rfl) rfl #[.string x7_1] rfl mq ?_; (with_reducible refine (whole_Sign.calls x7_1 t392 _ A9.out).mono ?_); rintro e w' ⟨rfl, ⟨nd, rfl⟩⟩; refine ⟨_, rfl, ?_⟩))
          (try simp only [Act.put, List.setIfInBounds_toArray, List.set_cons_zero, List.set_cons_succ])
          go_cut [7, 9] (fun v7 v9 wc => ∃ (kq : Nat) (x7_9 : ByteArray) (x9_9 : ByteArray), v7 = .string x7_9 ∧ v9 = .string x9_9 ∧ Aside0 (whole_Bezout.j1 kq a0 a1 x7_9 x9_9 = some (r1, r2, r3)) ∧ Aside0 (kq ≤ k1) ∧ Aside0 (Below w.heap.size w wc))
          case first =>
            have H := HC10.out
            clear HC10
            by_cases c11 : t392 < 0
            · rw [if_pos c11] at H
              have c11b0 : decide (t392 < 0) = true := decide_eq_true c11
              clear c11
              (first | rw [c11b0] | (simp only [i64_w, i32_w]; rw [c11b0]) | skip)
              replace H := Option.bind_eq_some_iff.mp H
              obtain ⟨t393, A120, H⟩ := H
              replace H : ((whole_Neg.f x9_1).bind fun t394 => (whole_Bezout.j1 k1 a0 a1 t393 t394)) = some (r1, r2, r3) := H
              have A12 := Aside0.mk A120
              clear A120
              replace H := Option.bind_eq_some_iff.mp H
              obtain ⟨t394, A130, H⟩ := H
              replace H : (whole_Bezout.j1 k1 a0 a1 t393 t394) = some (r1, r2, r3) := H
              have A13 := Aside0.mk A130
              clear A130
              have H' := Aside0.mk H
              clear H
              go_wp2_with (first | ((with_reducible refine gate_callee (f := 21) rfl ?_); refine goesL_ (some 47) rfl rfl Tryd.func21 (by kernel_rfl) rfl #[.string x7_1] rfl mq ?_; (with_reducible refine (whole_Neg.calls x7_1 t393 _ A12.out).mono ?_); rintro e w' ⟨rfl, ⟨nd, rfl⟩⟩; refine ⟨_, rfl, ?_⟩) | ((with_reducible refine gate_callee (f := 21) rfl ?_); refine goesL_ (some 49) rfl rfl Tryd.func21 (by kernel_rfl) rfl #[.string x9_1] rfl mq ?_; (with_reducible refine (whole_Neg.calls x9_1 t394 _ A13.out).mono ?_); rintro e w' ⟨rfl, ⟨nd, rfl⟩⟩; refine ⟨_, rfl, ?_⟩))
              go_meet
              case rel => exact ⟨_, (t393), (t394), (by first | rfl | (simp; done) | (simp [*]; done)), (by first | rfl | (simp; done) | (simp [*]; done)), H', ⟨by have := HK1.out; first | omega | exact Nat.le_refl _⟩, ⟨bq⟩⟩
            · rw [if_neg c11] at H
              have c11b0 : decide (t392 < 0) = false := decide_eq_false c11
              clear c11
              (first | rw [c11b0] | (simp only [i64_w, i32_w]; rw [c11b0]) | skip)
              have H' := Aside0.mk H
              clear H
              go_wp2
              go_meet
              case rel => exact ⟨_, (x7_1), (x9_1), (by first | rfl | (simp; done) | (simp [*]; done)), (by first | rfl | (simp; done) | (simp [*]; done)), H', ⟨by have := HK1.out; first | omega | exact Nat.le_refl _⟩, ⟨bq⟩⟩
          case rest =>
            clear HC10
            try clear c1
            try clear c2
            try clear p2
            try clear c3
            try clear c3b0
            try clear c3b1
            try clear c8
            try clear c8b0
            try clear c8b1
            try clear c10
            try clear c11
            try clear c11b0
            try clear p2
            obtain ⟨kq, x7_9, x9_9, rfl, rfl, HA, HJ9, HB⟩ := hcut
            cases kq with
            | zero => exact absurd HA.out (by simp [whole_Bezout.j1])
            | succ kj9 =>
              have H := HA.out
              clear HA
              simp only [whole_Bezout.j1] at H
              replace H := Option.bind_eq_some_iff.mp H
              obtain ⟨t395, A140, H⟩ := H
              replace H : ((whole_DivMod.f kj9 t395 x7_9).bind fun bt396 => ((whole_DivMod.f kj9 x9_9 bt396.1).bind fun bt399 => ((whole_Mul.f kj9 a0 bt399.2.1).bind fun t402 => ((whole_Sub.f kj9 x7_9 t402).bind fun t403 => ((whole_DivMod.f kj9 t403 a1).bind fun bt404 => (some (x7_9, bt399.2.1, bt404.1))))))) = some (r1, r2, r3) := H
              have A14 := Aside0.mk A140
              clear A140
              replace H := Option.bind_eq_some_iff.mp H
              obtain ⟨⟨t396, t397, t398⟩, A150, H⟩ := H
              replace H : ((whole_DivMod.f kj9 x9_9 t396).bind fun bt399 => ((whole_Mul.f kj9 a0 bt399.2.1).bind fun t402 => ((whole_Sub.f kj9 x7_9 t402).bind fun t403 => ((whole_DivMod.f kj9 t403 a1).bind fun bt404 => (some (x7_9, bt399.2.1, bt404.1)))))) = some (r1, r2, r3) := H
              have A15 := Aside0.mk A150
              clear A150
              replace H := Option.bind_eq_some_iff.mp H
              obtain ⟨⟨t399, t400, t401⟩, A160, H⟩ := H
              replace H : ((whole_Mul.f kj9 a0 t400).bind fun t402 => ((whole_Sub.f kj9 x7_9 t402).bind fun t403 => ((whole_DivMod.f kj9 t403 a1).bind fun bt404 => (some (x7_9, t400, bt404.1))))) = some (r1, r2, r3) := H
              have A16 := Aside0.mk A160
              clear A160
              replace H := Option.bind_eq_some_iff.mp H
              obtain ⟨t402, A170, H⟩ := H
              replace H : ((whole_Sub.f kj9 x7_9 t402).bind fun t403 => ((whole_DivMod.f kj9 t403 a1).bind fun bt404 => (some (x7_9, t400, bt404.1)))) = some (r1, r2, r3) := H
              have A17 := Aside0.mk A170
              clear A170
              replace H := Option.bind_eq_some_iff.mp H
              obtain ⟨t403, A180, H⟩ := H
              replace H : ((whole_DivMod.f kj9 t403 a1).bind fun bt404 => (some (x7_9, t400, bt404.1))) = some (r1, r2, r3) := H
              have A18 := Aside0.mk A180
              clear A180
              replace H := Option.bind_eq_some_iff.mp H
              obtain ⟨⟨t404, t405, t406⟩, A190, H⟩ := H
              replace H : (some (x7_9, t400, t404)) = some (r1, r2, r3) := H
              have A19 := Aside0.mk A190
              clear A190
              simp only [Option.some.injEq, Prod.mk.injEq] at H
              obtain ⟨rfl, rfl, rfl⟩ := H
              go_wp2_with (first | ((with_reducible refine gate_callee (f := 23) rfl ?_); refine goesL_ (some 52) rfl rfl Tryd.func23 (by kernel_rfl) rfl #[.string a1] rfl mq ?_; (with_reducible refine (whole_Abs.calls a1 t395 _ A14.out).mono ?_); rintro e w' ⟨rfl, ⟨nd, rfl⟩⟩; refine ⟨_, rfl, ?_⟩) | ((with_reducible refine gate_callee (f := 25) rfl ?_); refine goesL_ (some 54) rfl rfl Tryd.func25 (by kernel_rfl) rfl #[.string t395, .string x7_9] rfl mq ?_; (with_reducible refine (whole_DivMod.calls (hT := HT.out.below bq) kj9 t395 x7_9 t396 t397 t398 _ A15.out).mono ?_); rintro e w20 ⟨rfl, hb⟩; refine ⟨_, rfl, ?_⟩; replace HB := Aside0.mk (below_step bq hb); (try clear hb); (try clear hb2); (try clear hk); (try clear hi)) | ((with_reducible refine gate_callee (f := 25) rfl ?_); refine goesL_ (some 61) rfl rfl Tryd.func25 (by kernel_rfl) rfl #[.string x9_9, .string t396] rfl mq ?_; (with_reducible refine (whole_DivMod.calls (hT := HT.out.below bq) kj9 x9_9 t396 t399 t400 t401 _ A16.out).mono ?_); rintro e w21 ⟨rfl, hb⟩; refine ⟨_, rfl, ?_⟩; replace HB := Aside0.mk (below_step bq hb); (try clear hb); (try clear hb2); (try clear hk); (try clear hi)) | ((with_reducible refine gate_callee (f := 45) rfl ?_); refine goesL_ (some 69) rfl rfl Tryd.func45 (by kernel_rfl) rfl #[.string a0, .string t400] rfl mq ?_; (with_reducible refine (whole_Mul.calls (hT := HT.out.below bq) kj9 a0 t400 t402 _ A17.out).mono ?_); rintro e w22 ⟨rfl, hb⟩; refine ⟨_, rfl, ?_⟩; replace HB := Aside0.mk (below_step bq hb); (try clear hb); (try clear hb2); (try clear hk); (try clear hi)) | ((with_reducible refine gate_callee (f := 44) rfl ?_); refine goesL_ (some 70) rfl rfl Tryd.func44 (by kernel_rfl) rfl #[.string x7_9, .string t402] rfl mq ?_; (with_reducible refine (whole_Sub.calls (hT := HT.out.below bq) kj9 x7_9 t402 t403 _ A18.out).mono ?_); rintro e w23 ⟨rfl, hb⟩; refine ⟨_, rfl, ?_⟩; replace HB := Aside0.mk (below_step bq hb); (try clear hb); (try clear hb2); (try clear hk); (try clear hi)) | ((with_reducible refine gate_callee (f := 25) rfl ?_); refine goesL_ (some 72) rfl rfl Tryd.func25 (by kernel_rfl) rfl #[.string t403, .string a1] rfl mq ?_; (with_reducible refine (whole_DivMod.calls (hT := HT.out.below bq) kj9 t403 a1 t404 t405 t406 _ A19.out).mono ?_); rintro e w24 ⟨rfl, hb⟩; refine ⟨_, rfl, ?_⟩; replace HB := Aside0.mk (below_step bq hb); (try clear hb); (try clear hb2); (try clear hk); (try clear hi)))
              go_ret3
              exact ⟨eq_, bq⟩
        · rw [if_neg c8] at H
          have c8b0 : (x8_1.toList == ([48] : List UInt8)) = false := beq_eq_false_iff_ne.mpr c8
          have c8b1 : (x8_1.toList != ([48] : List UInt8)) = true := bne_iff_ne.mpr c8
          replace H := Option.bind_eq_some_iff.mp H
          obtain ⟨⟨t387, t388, t389⟩, A250, H⟩ := H
          replace H : ((whole_Mul.f k1 t387 x10_1).bind fun t390 => ((whole_Sub.f k1 x9_1 t390).bind fun t391 => (whole_Bezout.l0 k1 a0 a1 x8_1 t388 x10_1 t391))) = some (r1, r2, r3) := H
          have A25 := Aside0.mk A250
          clear A250
          replace H := Option.bind_eq_some_iff.mp H
          obtain ⟨t390, A260, H⟩ := H
          replace H : ((whole_Sub.f k1 x9_1 t390).bind fun t391 => (whole_Bezout.l0 k1 a0 a1 x8_1 t388 x10_1 t391)) = some (r1, r2, r3) := H
          have A26 := Aside0.mk A260
          clear A260
          replace H := Option.bind_eq_some_iff.mp H
          obtain ⟨t391, A270, H⟩ := H
          replace H : (whole_Bezout.l0 k1 a0 a1 x8_1 t388 x10_1 t391) = some (r1, r2, r3) := H
          have A27 := Aside0.mk A270
          clear A270
          have H' := Aside0.mk H
          clear H
          go_wp2_with (first | ((with_reducible refine gate_callee (f := 25) rfl ?_); refine goesL_ (some 31) rfl rfl Tryd.func25 (by kernel_rfl) rfl #[.string x7_1, .string x8_1] rfl mq ?_; (with_reducible refine (whole_DivMod.calls (hT := HT.out.below bq) k1 x7_1 x8_1 t387 t388 t389 _ A25.out).mono ?_); rintro e w28 ⟨rfl, hb⟩; refine ⟨_, rfl, ?_⟩; replace HB := Aside0.mk (below_step bq hb); (try clear hb); (try clear hb2); (try clear hk); (try clear hi)) | ((with_reducible refine gate_callee (f := 45) rfl ?_); refine goesL_ (some 41) rfl rfl Tryd.func45 (by kernel_rfl) rfl #[.string t387, .string x10_1] rfl mq ?_; (with_reducible refine (whole_Mul.calls (hT := HT.out.below bq) k1 t387 x10_1 t390 _ A26.out).mono ?_); rintro e w29 ⟨rfl, hb⟩; refine ⟨_, rfl, ?_⟩; replace HB := Aside0.mk (below_step bq hb); (try clear hb); (try clear hb2); (try clear hk); (try clear hi)) | ((with_reducible refine gate_callee (f := 44) rfl ?_); refine goesL_ (some 42) rfl rfl Tryd.func44 (by kernel_rfl) rfl #[.string x9_1, .string t390] rfl mq ?_; (with_reducible refine (whole_Sub.calls (hT := HT.out.below bq) k1 x9_1 t390 t391 _ A27.out).mono ?_); rintro e w30 ⟨rfl, hb⟩; refine ⟨_, rfl, ?_⟩; replace HB := Aside0.mk (below_step bq hb); (try clear hb); (try clear hb2); (try clear hk); (try clear hi)))
          go_roundg k1
          case measure => have := HK1.out; omega
          case rel => exact ⟨(x8_1), (t388), (x10_1), (t391), (by first | rfl | (simp; done) | (simp [*]; done)), (by first | rfl | (simp; done) | (simp [*]; done)), (by first | rfl | (simp; done) | (simp [*]; done)), (by first | rfl | (simp; done) | (simp [*]; done)), H', ⟨by have := HK1.out; omega⟩, ⟨bq⟩⟩
def decimal_Gcd.l0 : Nat → ByteArray → ByteArray → Option (ByteArray)
  | 0, _, _ => none
  | k + 1, x0, x1 => if x1.toList = ([48] : List UInt8) then (some x0) else ((decimal_DivMod.f k x0 x1).bind fun bt407 => (if bt407.2.2 = 0 then (decimal_Gcd.l0 k x1 bt407.2.1) else (some (⟨#[]⟩ : ByteArray))))
def decimal_Gcd.f (k : Nat) (a0 : ByteArray) (a1 : ByteArray) : Option (ByteArray) := decimal_Gcd.l0 k a0 a1
theorem decimal_Gcd.mono_l : ∀ k, (∀ y0 y1, LeO (decimal_Gcd.l0 k y0 y1) (decimal_Gcd.l0 (k + 1) y0 y1))
  | 0 => fun _ _ r h => by simp [decimal_Gcd.l0] at h
  | k + 1 => by
    have ih0 := decimal_Gcd.mono_l k
    · intro y0 y1
      unfold decimal_Gcd.l0
      repeat' first
      | (with_reducible exact ih0 _ _)
      | (with_reducible exact decimal_DivMod.mono _ _ _)
      | (with_reducible exact LeO.refl _)
      | (with_reducible exact LeO.none _)
      | (with_reducible refine LeO.ite ?_ ?_)
      | (with_reducible refine LeO.bind ?_ (fun _ => ?_))
      | exact ih0 _ _
      | exact decimal_DivMod.mono _ _ _
      | exact LeO.none _
      | refine LeO.ite ?_ ?_
      | refine LeO.bind ?_ (fun _ => ?_)
theorem decimal_Gcd.mono : ∀ a0 a1 k, LeO (decimal_Gcd.f k a0 a1) (decimal_Gcd.f (k + 1) a0 a1) := by
  intro a0 a1 k
  have ih0 := decimal_Gcd.mono_l k
  unfold decimal_Gcd.f
  repeat' first
      | (with_reducible exact ih0 _ _)
      | (with_reducible exact decimal_DivMod.mono _ _ _)
      | (with_reducible exact LeO.refl _)
      | (with_reducible exact LeO.none _)
      | (with_reducible refine LeO.ite ?_ ?_)
      | (with_reducible refine LeO.bind ?_ (fun _ => ?_))
      | exact ih0 _ _
      | exact decimal_DivMod.mono _ _ _
      | exact LeO.none _
      | refine LeO.ite ?_ ?_
      | refine LeO.bind ?_ (fun _ => ?_)
set_option maxHeartbeats 8000000 in
set_option maxRecDepth 100000 in
theorem decimal_Gcd.calls (k : Nat) (a0 : ByteArray) (a1 : ByteArray) (r : ByteArray) (w : World) (hT : Tab w) (h : decimal_Gcd.f k a0 a1 = some r) :
    Calls Tryd.prog 69 #[.string a0, .string a1] w fun e w' => e = .returned (.string r) ∧ Below w.heap.size w w' := by
  have HT := Aside0.mk hT
  clear hT
  have HB := Aside0.mk (Below.refl w.heap.size w)
  have H : (decimal_Gcd.l0 k a0 a1) = some r := h
  clear h
  have H' := Aside0.mk H
  clear H
  go_enter Tryd.func69, Tryd.ntmps69
  go_wp2
  go_loopg [0, 1] k (fun kq v0 v1 w' => ∃ (x0_1 : ByteArray) (x1_1 : ByteArray), v0 = .string x0_1 ∧ v1 = .string x1_1 ∧ Aside0 (decimal_Gcd.l0 kq x0_1 x1_1 = some r) ∧ Aside0 (kq ≤ k) ∧ Aside0 (Below w.heap.size w w'))
  case atStart => exact ⟨(a0), (a1), (by first | rfl | (simp; done) | (simp [*]; done)), (by first | rfl | (simp; done) | (simp [*]; done)), H', ⟨Nat.le_refl _⟩, ⟨bq⟩⟩
  case round =>
    clear H'
    try clear p2
    obtain ⟨x0_1, x1_1, rfl, rfl, HA, HK1, HB⟩ := hrel
    cases gk with
    | zero => exact absurd HA.out (by simp [decimal_Gcd.l0])
    | succ k1 =>
      have H := HA.out
      clear HA
      simp only [decimal_Gcd.l0] at H
      by_cases c3 : x1_1.toList = ([48] : List UInt8)
      · rw [if_pos c3] at H
        have c3b0 : (x1_1.toList == ([48] : List UInt8)) = true := beq_iff_eq.mpr c3
        have c3b1 : (x1_1.toList != ([48] : List UInt8)) = false := bne_eq_false_iff_eq.mpr c3
        clear c3
        obtain rfl := Option.some.inj H
        go_wp2
        go_ret
        exact ⟨eq_, bq⟩
      · rw [if_neg c3] at H
        have c3b0 : (x1_1.toList == ([48] : List UInt8)) = false := beq_eq_false_iff_ne.mpr c3
        have c3b1 : (x1_1.toList != ([48] : List UInt8)) = true := bne_iff_ne.mpr c3
        replace H := Option.bind_eq_some_iff.mp H
        obtain ⟨⟨t407, t408, t409⟩, A40, H⟩ := H
        replace H : (if t409 = 0 then (decimal_Gcd.l0 k1 x1_1 t408) else (some (⟨#[]⟩ : ByteArray))) = some r := H
        have A4 := Aside0.mk A40
        clear A40
        by_cases c5 : t409 = 0
        · rw [if_pos c5] at H
          have c5b0 : (t409 == 0) = true := beq_iff_eq.mpr c5
          have c5b1 : (t409 != 0) = false := bne_eq_false_iff_eq.mpr c5
          clear c5
          have H' := Aside0.mk H
          clear H
          go_wp2_with (first | ((with_reducible refine gate_callee (f := 41) rfl ?_); refine goesL_ (some 13) rfl rfl Tryd.func41 (by kernel_rfl) rfl #[.string x0_1, .string x1_1] rfl mq ?_; (with_reducible refine (decimal_DivMod.calls (hT := HT.out.below bq) k1 x0_1 x1_1 t407 t408 t409 _ A4.out).mono ?_); rintro e w6 ⟨rfl, hb⟩; refine ⟨_, rfl, ?_⟩; replace HB := Aside0.mk (below_step bq hb); (try clear hb); (try clear hb2); (try clear hk); (try clear hi)))
          go_roundg k1
          case measure => have := HK1.out; omega
          case rel => exact ⟨(x1_1), (t408), (by first | rfl | (simp; done) | (simp [*]; done)), (by first | rfl | (simp; done) | (simp [*]; done)), H', ⟨by have := HK1.out; omega⟩, ⟨bq⟩⟩
        · rw [if_neg c5] at H
          have c5b0 : (t409 == 0) = false := beq_eq_false_iff_ne.mpr c5
          have c5b1 : (t409 != 0) = true := bne_iff_ne.mpr c5
          obtain rfl := Option.some.inj H
          go_wp2_with (first | ((with_reducible refine gate_callee (f := 41) rfl ?_); refine goesL_ (some 13) rfl rfl Tryd.func41 (by kernel_rfl) rfl #[.string x0_1, .string x1_1] rfl mq ?_; (with_reducible refine (decimal_DivMod.calls (hT := HT.out.below bq) k1 x0_1 x1_1 t407 t408 t409 _ A4.out).mono ?_); rintro e w7 ⟨rfl, hb⟩; refine ⟨_, rfl, ?_⟩; replace HB := Aside0.mk (below_step bq hb); (try clear hb); (try clear hb2); (try clear hk); (try clear hi)))
          go_ret
          exact ⟨eq_, bq⟩
end Go.Proofs.YtdelgjdplmennaaDoor.P
