/- Functions of the program, as functions of Lean, and the walks that show that the code answers as they do: written by a program. Conditions: those of each theorem. -/
import Derived.Test.YtcfddphiflmnlaaDoorDecimalCommonF5
namespace Go.Proofs.YtcfddphiflmnlaaDoor.P
open Go.RowKit Go.Proofs.YtcfddphiflmnlaaDoorW.PrintWords Go.Proofs.YtcfddphiflmnlaaDoorW.PrintLast Go.Proofs.YtcfddphiflmnlaaDoorW.PrintMore
attribute [local go_sem] gtr_text max2_int min2_int max_two min_two max_three min_three max_four min_four
set_option linter.unusedVariables false
set_option linter.unusedSimpArgs false
mutual
def schismaref01_Mul.j0 : Nat → ByteArray → ByteArray → Int → Int → Bool → Option (ByteArray)
  | 0, _, _, _, _, _ => none
  | k + 1, x0, x1, x5, x7, x37 => if x37 = true then ((schismaref01_Of.f (IntKind.u64.wrap (x5 * x7))).bind fun t341 => (some t341)) else ((schismaref01_limbs.f k x0).bind fun t342 => ((schismaref01_limbs.f k x1).bind fun t345 => (if 0 ≤ (wrap64 ((wrap64 ((t342.length : Int) + (t345.length : Int))) + 1)) then (if (wrap64 ((wrap64 ((t342.length : Int) + (t345.length : Int))) + 1) : Int).toNat ≤ 35184372088832 then (schismaref01_Mul.l0 k t342 t345 (List.replicate (wrap64 ((wrap64 ((t342.length : Int) + (t345.length : Int))) + 1) : Int).toNat 0) 0) else (none)) else (none))))
def schismaref01_Mul.l0 : Nat → List Int → List Int → List Int → Int → Option (ByteArray)
  | 0, _, _, _, _ => none
  | k + 1, x9, x10, x11, x12 => if x12 < (x9.length : Int) then (schismaref01_Mul.l1 k x9 x10 x11 x12 0 0) else ((schismaref01_join.f k x11).bind fun t351 => (some t351))
def schismaref01_Mul.l1 : Nat → List Int → List Int → List Int → Int → Int → Int → Option (ByteArray)
  | 0, _, _, _, _, _, _ => none
  | k + 1, x9, x10, x11, x12, x13, x14 => if x14 < (x10.length : Int) then (if 0 ≤ (wrap64 (x12 + x14)) then (if (wrap64 (x12 + x14)) < (x11.length : Int) then (if 0 ≤ x12 then (if x12 < (x9.length : Int) then (if 0 ≤ x14 then (schismaref01_Mul.l1 k x9 x10 (x11.set ((wrap64 (x12 + x14)) : Int).toNat (Int.tmod (IntKind.u64.wrap ((IntKind.u64.wrap ((rd x11 (wrap64 (x12 + x14))) + (IntKind.u64.wrap ((rd x9 x12) * (rd x10 x14))))) + x13)) 1000000000)) x12 (IntKind.u64.wrap (Int.tdiv (IntKind.u64.wrap ((IntKind.u64.wrap ((rd x11 (wrap64 (x12 + x14))) + (IntKind.u64.wrap ((rd x9 x12) * (rd x10 x14))))) + x13)) 1000000000)) (wrap64 (x14 + 1))) else (none)) else (none)) else (none)) else (none)) else (none)) else (if 0 ≤ (wrap64 (x12 + (x10.length : Int))) then (if (wrap64 (x12 + (x10.length : Int))) < (x11.length : Int) then (schismaref01_Mul.l0 k x9 x10 (x11.set ((wrap64 (x12 + (x10.length : Int))) : Int).toNat (IntKind.u64.wrap ((rd x11 (wrap64 (x12 + (x10.length : Int)))) + x13))) (wrap64 (x12 + 1))) else (none)) else (none))
end
def schismaref01_Mul.f (k : Nat) (a0 : ByteArray) (a1 : ByteArray) : Option (ByteArray) := (schismaref01_quick.f k a0).bind fun bt337 => ((schismaref01_quick.f k a1).bind fun bt339 => (if bt337.2 = true then (if bt339.2 = true then (schismaref01_Mul.j0 k a0 a1 bt337.1 bt339.1 (decide ((wrap64 ((a0.size : Int) + (a1.size : Int))) ≤ 18))) else (schismaref01_Mul.j0 k a0 a1 bt337.1 bt339.1 false)) else (schismaref01_Mul.j0 k a0 a1 bt337.1 bt339.1 false)))
theorem schismaref01_Mul.mono_l : ∀ k, (∀ y0 y1 y2 y3 y4, LeO (schismaref01_Mul.j0 k y0 y1 y2 y3 y4) (schismaref01_Mul.j0 (k + 1) y0 y1 y2 y3 y4)) ∧ (∀ y0 y1 y2 y3, LeO (schismaref01_Mul.l0 k y0 y1 y2 y3) (schismaref01_Mul.l0 (k + 1) y0 y1 y2 y3)) ∧ (∀ y0 y1 y2 y3 y4 y5, LeO (schismaref01_Mul.l1 k y0 y1 y2 y3 y4 y5) (schismaref01_Mul.l1 (k + 1) y0 y1 y2 y3 y4 y5))
  | 0 => ⟨fun _ _ _ _ _ r h => by simp [schismaref01_Mul.j0] at h, fun _ _ _ _ r h => by simp [schismaref01_Mul.l0] at h, fun _ _ _ _ _ _ r h => by simp [schismaref01_Mul.l1] at h⟩
  | k + 1 => by
    obtain ⟨ih0, ih1, ih2⟩ := schismaref01_Mul.mono_l k
    refine ⟨?_, ?_, ?_⟩
    · intro y0 y1 y2 y3 y4
      unfold schismaref01_Mul.j0
      repeat' first
      | (with_reducible exact ih0 _ _ _ _ _)
      | (with_reducible exact ih1 _ _ _ _)
      | (with_reducible exact ih2 _ _ _ _ _ _)
      | (with_reducible exact schismaref01_join.mono _ _)
      | (with_reducible exact schismaref01_limbs.mono _ _)
      | (with_reducible exact schismaref01_quick.mono _ _)
      | (with_reducible exact LeO.refl _)
      | (with_reducible exact LeO.none _)
      | (with_reducible refine LeO.ite ?_ ?_)
      | (with_reducible refine LeO.bind ?_ (fun _ => ?_))
      | exact ih0 _ _ _ _ _
      | exact ih1 _ _ _ _
      | exact ih2 _ _ _ _ _ _
      | exact schismaref01_join.mono _ _
      | exact schismaref01_limbs.mono _ _
      | exact schismaref01_quick.mono _ _
      | exact LeO.none _
      | refine LeO.ite ?_ ?_
      | refine LeO.bind ?_ (fun _ => ?_)
    · intro y0 y1 y2 y3
      unfold schismaref01_Mul.l0
      repeat' first
      | (with_reducible exact ih0 _ _ _ _ _)
      | (with_reducible exact ih1 _ _ _ _)
      | (with_reducible exact ih2 _ _ _ _ _ _)
      | (with_reducible exact schismaref01_join.mono _ _)
      | (with_reducible exact schismaref01_limbs.mono _ _)
      | (with_reducible exact schismaref01_quick.mono _ _)
      | (with_reducible exact LeO.refl _)
      | (with_reducible exact LeO.none _)
      | (with_reducible refine LeO.ite ?_ ?_)
      | (with_reducible refine LeO.bind ?_ (fun _ => ?_))
      | exact ih0 _ _ _ _ _
      | exact ih1 _ _ _ _
      | exact ih2 _ _ _ _ _ _
      | exact schismaref01_join.mono _ _
      | exact schismaref01_limbs.mono _ _
      | exact schismaref01_quick.mono _ _
      | exact LeO.none _
      | refine LeO.ite ?_ ?_
      | refine LeO.bind ?_ (fun _ => ?_)
    · intro y0 y1 y2 y3 y4 y5
      unfold schismaref01_Mul.l1
      repeat' first
      | (with_reducible exact ih0 _ _ _ _ _)
      | (with_reducible exact ih1 _ _ _ _)
      | (with_reducible exact ih2 _ _ _ _ _ _)
      | (with_reducible exact schismaref01_join.mono _ _)
      | (with_reducible exact schismaref01_limbs.mono _ _)
      | (with_reducible exact schismaref01_quick.mono _ _)
      | (with_reducible exact LeO.refl _)
      | (with_reducible exact LeO.none _)
      | (with_reducible refine LeO.ite ?_ ?_)
      | (with_reducible refine LeO.bind ?_ (fun _ => ?_))
      | exact ih0 _ _ _ _ _
      | exact ih1 _ _ _ _
      | exact ih2 _ _ _ _ _ _
      | exact schismaref01_join.mono _ _
      | exact schismaref01_limbs.mono _ _
      | exact schismaref01_quick.mono _ _
      | exact LeO.none _
      | refine LeO.ite ?_ ?_
      | refine LeO.bind ?_ (fun _ => ?_)
theorem schismaref01_Mul.mono : ∀ a0 a1 k, LeO (schismaref01_Mul.f k a0 a1) (schismaref01_Mul.f (k + 1) a0 a1) := by
  intro a0 a1 k
  obtain ⟨ih0, ih1, ih2⟩ := schismaref01_Mul.mono_l k
  unfold schismaref01_Mul.f
  repeat' first
      | (with_reducible exact ih0 _ _ _ _ _)
      | (with_reducible exact ih1 _ _ _ _)
      | (with_reducible exact ih2 _ _ _ _ _ _)
      | (with_reducible exact schismaref01_join.mono _ _)
      | (with_reducible exact schismaref01_limbs.mono _ _)
      | (with_reducible exact schismaref01_quick.mono _ _)
      | (with_reducible exact LeO.refl _)
      | (with_reducible exact LeO.none _)
      | (with_reducible refine LeO.ite ?_ ?_)
      | (with_reducible refine LeO.bind ?_ (fun _ => ?_))
      | exact ih0 _ _ _ _ _
      | exact ih1 _ _ _ _
      | exact ih2 _ _ _ _ _ _
      | exact schismaref01_join.mono _ _
      | exact schismaref01_limbs.mono _ _
      | exact schismaref01_quick.mono _ _
      | exact LeO.none _
      | refine LeO.ite ?_ ?_
      | refine LeO.bind ?_ (fun _ => ?_)
set_option maxHeartbeats 8000000 in
set_option maxRecDepth 100000 in
theorem schismaref01_Mul.calls (k : Nat) (a0 : ByteArray) (a1 : ByteArray) (r : ByteArray) (w : World) (h : schismaref01_Mul.f k a0 a1 = some r) :
    Calls Tryd.prog 24 #[.string a0, .string a1] w fun e w' => e = .returned (.string r) ∧ Below w.heap.size w w' := by
  have HB := Aside0.mk (Below.refl w.heap.size w)
  have H : ((schismaref01_quick.f k a0).bind fun bt337 => ((schismaref01_quick.f k a1).bind fun bt339 => (if bt337.2 = true then (if bt339.2 = true then (schismaref01_Mul.j0 k a0 a1 bt337.1 bt339.1 (decide ((wrap64 ((a0.size : Int) + (a1.size : Int))) ≤ 18))) else (schismaref01_Mul.j0 k a0 a1 bt337.1 bt339.1 false)) else (schismaref01_Mul.j0 k a0 a1 bt337.1 bt339.1 false)))) = some r := h
  clear h
  replace H := Option.bind_eq_some_iff.mp H
  obtain ⟨⟨t337, t338⟩, A30, H⟩ := H
  replace H : ((schismaref01_quick.f k a1).bind fun bt339 => (if t338 = true then (if bt339.2 = true then (schismaref01_Mul.j0 k a0 a1 t337 bt339.1 (decide ((wrap64 ((a0.size : Int) + (a1.size : Int))) ≤ 18))) else (schismaref01_Mul.j0 k a0 a1 t337 bt339.1 false)) else (schismaref01_Mul.j0 k a0 a1 t337 bt339.1 false))) = some r := H
  have A3 := Aside0.mk A30
  clear A30
  replace H := Option.bind_eq_some_iff.mp H
  obtain ⟨⟨t339, t340⟩, A40, H⟩ := H
  replace H : (if t338 = true then (if t340 = true then (schismaref01_Mul.j0 k a0 a1 t337 t339 (decide ((wrap64 ((a0.size : Int) + (a1.size : Int))) ≤ 18))) else (schismaref01_Mul.j0 k a0 a1 t337 t339 false)) else (schismaref01_Mul.j0 k a0 a1 t337 t339 false)) = some r := H
  have A4 := Aside0.mk A40
  clear A40
  have HC5 := Aside0.mk H
  clear H
  go_enter Tryd.func24, Tryd.ntmps24
  go_upto_region 3 with (first | (go_at_call 43; (with_reducible refine (schismaref01_quick.calls k a0 t337 t338 _ A3.out).mono ?_); rintro e w' ⟨rfl, ⟨nd, rfl⟩⟩; (try first | exact ⟨rfl, _, World.drewN_drewN _ _ _⟩ | exact ⟨rfl, _, Eq.trans (World.drewN_drewN _ _ _) (congrArg (World.drewN _) (Nat.add_assoc _ _ _))⟩)) | (go_at_call 43; (with_reducible refine (schismaref01_quick.calls k a1 t339 t340 _ A4.out).mono ?_); rintro e w' ⟨rfl, ⟨nd, rfl⟩⟩; (try first | exact ⟨rfl, _, World.drewN_drewN _ _ _⟩ | exact ⟨rfl, _, Eq.trans (World.drewN_drewN _ _ _) (congrArg (World.drewN _) (Nat.add_assoc _ _ _))⟩)))
  repeat (go_quiet (first | (go_at_call 43; (with_reducible refine (schismaref01_quick.calls k a0 t337 t338 _ A3.out).mono ?_); rintro e w' ⟨rfl, ⟨nd, rfl⟩⟩; (try first | exact ⟨rfl, _, World.drewN_drewN _ _ _⟩ | exact ⟨rfl, _, Eq.trans (World.drewN_drewN _ _ _) (congrArg (World.drewN _) (Nat.add_assoc _ _ _))⟩)) | (go_at_call 43; (with_reducible refine (schismaref01_quick.calls k a1 t339 t340 _ A4.out).mono ?_); rintro e w' ⟨rfl, ⟨nd, rfl⟩⟩; (try first | exact ⟨rfl, _, World.drewN_drewN _ _ _⟩ | exact ⟨rfl, _, Eq.trans (World.drewN_drewN _ _ _) (congrArg (World.drewN _) (Nat.add_assoc _ _ _))⟩))); go_upto_region 3 with (first | (go_at_call 43; (with_reducible refine (schismaref01_quick.calls k a0 t337 t338 _ A3.out).mono ?_); rintro e w' ⟨rfl, ⟨nd, rfl⟩⟩; (try first | exact ⟨rfl, _, World.drewN_drewN _ _ _⟩ | exact ⟨rfl, _, Eq.trans (World.drewN_drewN _ _ _) (congrArg (World.drewN _) (Nat.add_assoc _ _ _))⟩)) | (go_at_call 43; (with_reducible refine (schismaref01_quick.calls k a1 t339 t340 _ A4.out).mono ?_); rintro e w' ⟨rfl, ⟨nd, rfl⟩⟩; (try first | exact ⟨rfl, _, World.drewN_drewN _ _ _⟩ | exact ⟨rfl, _, Eq.trans (World.drewN_drewN _ _ _) (congrArg (World.drewN _) (Nat.add_assoc _ _ _))⟩))))
  (try simp only [Act.put, List.setIfInBounds_toArray, List.set_cons_zero, List.set_cons_succ])
  go_cut [37] (fun v37 wc => ∃ (kq : Nat) (x37_4 : Bool), v37 = .bool x37_4 ∧ Aside0 (schismaref01_Mul.j0 kq a0 a1 t337 t339 x37_4 = some r) ∧ Aside0 (kq ≤ k) ∧ Aside0 (Below w.heap.size w wc))
  case first =>
    have H := HC5.out
    clear HC5
    by_cases c6 : t338 = true
    · subst c6
      have H1 : (if t340 = true then (schismaref01_Mul.j0 k a0 a1 t337 t339 (decide ((wrap64 ((a0.size : Int) + (a1.size : Int))) ≤ 18))) else (schismaref01_Mul.j0 k a0 a1 t337 t339 false)) = some r := by rw [if_pos rfl] at H; exact H
      clear H
      have H := H1
      clear H1
      by_cases c7 : t340 = true
      · subst c7
        have H1 : (schismaref01_Mul.j0 k a0 a1 t337 t339 (decide ((wrap64 ((a0.size : Int) + (a1.size : Int))) ≤ 18))) = some r := by rw [if_pos rfl] at H; exact H
        clear H
        have H := H1
        clear H1
        have H' := Aside0.mk H
        clear H
        go_wp2
        repeat (go_quiet (fail); try go_wp2)
        go_meet
        case rel => exact ⟨_, (decide ((wrap64 ((a0.size : Int) + (a1.size : Int))) ≤ 18)), (by first | rfl | (simp; done) | (simp [*]; done)), H', ⟨by first | omega | exact Nat.le_refl _⟩, ⟨bq⟩⟩
      · replace c7 := Bool.eq_false_iff.mpr c7
        subst c7
        have H1 : (schismaref01_Mul.j0 k a0 a1 t337 t339 false) = some r := by rw [if_neg (show ¬ (false = true) by decide)] at H; exact H
        clear H
        have H := H1
        clear H1
        have H' := Aside0.mk H
        clear H
        go_wp2
        repeat (go_quiet (fail); try go_wp2)
        go_meet
        case rel => exact ⟨_, (false), (by first | rfl | (simp; done) | (simp [*]; done)), H', ⟨by first | omega | exact Nat.le_refl _⟩, ⟨bq⟩⟩
    · replace c6 := Bool.eq_false_iff.mpr c6
      subst c6
      have H1 : (schismaref01_Mul.j0 k a0 a1 t337 t339 false) = some r := by rw [if_neg (show ¬ (false = true) by decide)] at H; exact H
      clear H
      have H := H1
      clear H1
      have H' := Aside0.mk H
      clear H
      go_wp2
      repeat (go_quiet (fail); try go_wp2)
      go_meet
      case rel => exact ⟨_, (false), (by first | rfl | (simp; done) | (simp [*]; done)), H', ⟨by first | omega | exact Nat.le_refl _⟩, ⟨bq⟩⟩
  case rest =>
    clear HC5
    try clear c2
    try clear p2
    try clear c6
    try clear p6
    try clear c7
    obtain ⟨kq, x37_4, rfl, HA, HJ4, HB⟩ := hcut
    cases kq with
    | zero => exact absurd HA.out (by simp [schismaref01_Mul.j0])
    | succ kj4 =>
      have H := HA.out
      clear HA
      simp only [schismaref01_Mul.j0] at H
      by_cases c8 : x37_4 = true
      · subst c8
        have H1 : ((schismaref01_Of.f (IntKind.u64.wrap (t337 * t339))).bind fun t341 => (some t341)) = some r := by rw [if_pos rfl] at H; exact H
        clear H
        have H := H1
        clear H1
        replace H := Option.bind_eq_some_iff.mp H
        obtain ⟨t341, A90, H⟩ := H
        replace H : (some t341) = some r := H
        have A9 := Aside0.mk A90
        clear A90
        obtain rfl := Option.some.inj H
        go_wp2_with (first | (go_at_call 18; (with_reducible refine (schismaref01_Of.calls (IntKind.u64.wrap (t337 * t339)) t341 _ A9.out).mono ?_); rintro e w10 ⟨rfl, hb⟩; replace HB := Aside0.mk (below_step bq hb); (try clear hb); (try clear hb2); (try clear hk); (try clear hi)))
        repeat (go_quiet (first | (go_at_call 18; (with_reducible refine (schismaref01_Of.calls (IntKind.u64.wrap (t337 * t339)) t341 _ A9.out).mono ?_); rintro e w10 ⟨rfl, hb⟩; replace HB := Aside0.mk (below_step bq hb); (try clear hb); (try clear hb2); (try clear hk); (try clear hi))); try go_wp2_with (first | (go_at_call 18; (with_reducible refine (schismaref01_Of.calls (IntKind.u64.wrap (t337 * t339)) t341 _ A9.out).mono ?_); rintro e w10 ⟨rfl, hb⟩; replace HB := Aside0.mk (below_step bq hb); (try clear hb); (try clear hb2); (try clear hk); (try clear hi))))
        go_ret
        exact ⟨eq_, bq⟩
      · replace c8 := Bool.eq_false_iff.mpr c8
        subst c8
        have H1 : ((schismaref01_limbs.f kj4 a0).bind fun t342 => ((schismaref01_limbs.f kj4 a1).bind fun t345 => (if 0 ≤ (wrap64 ((wrap64 ((t342.length : Int) + (t345.length : Int))) + 1)) then (if (wrap64 ((wrap64 ((t342.length : Int) + (t345.length : Int))) + 1) : Int).toNat ≤ 35184372088832 then (schismaref01_Mul.l0 kj4 t342 t345 (List.replicate (wrap64 ((wrap64 ((t342.length : Int) + (t345.length : Int))) + 1) : Int).toNat 0) 0) else (none)) else (none)))) = some r := by rw [if_neg (show ¬ (false = true) by decide)] at H; exact H
        clear H
        have H := H1
        clear H1
        replace H := Option.bind_eq_some_iff.mp H
        obtain ⟨t342, A110, H⟩ := H
        replace H : ((schismaref01_limbs.f kj4 a1).bind fun t345 => (if 0 ≤ (wrap64 ((wrap64 ((t342.length : Int) + (t345.length : Int))) + 1)) then (if (wrap64 ((wrap64 ((t342.length : Int) + (t345.length : Int))) + 1) : Int).toNat ≤ 35184372088832 then (schismaref01_Mul.l0 kj4 t342 t345 (List.replicate (wrap64 ((wrap64 ((t342.length : Int) + (t345.length : Int))) + 1) : Int).toNat 0) 0) else (none)) else (none))) = some r := H
        have A11 := Aside0.mk A110
        clear A110
        replace H := Option.bind_eq_some_iff.mp H
        obtain ⟨t345, A120, H⟩ := H
        replace H : (if 0 ≤ (wrap64 ((wrap64 ((t342.length : Int) + (t345.length : Int))) + 1)) then (if (wrap64 ((wrap64 ((t342.length : Int) + (t345.length : Int))) + 1) : Int).toNat ≤ 35184372088832 then (schismaref01_Mul.l0 kj4 t342 t345 (List.replicate (wrap64 ((wrap64 ((t342.length : Int) + (t345.length : Int))) + 1) : Int).toNat 0) 0) else (none)) else (none)) = some r := H
        have A12 := Aside0.mk A120
        clear A120
        obtain ⟨ji13, hji13⟩ : ∃ j_ : Int, (wrap64 ((wrap64 ((t342.length : Int) + (t345.length : Int))) + 1)) = j_ := ⟨_, rfl⟩
        replace H : (if 0 ≤ (ji13) then (if (ji13 : Int).toNat ≤ 35184372088832 then (schismaref01_Mul.l0 kj4 t342 t345 (List.replicate (ji13 : Int).toNat 0) 0) else (none)) else (none)) = some r := by first | (rw [hji13] at H; exact H) | (simp only [hji13] at H ⊢; exact H)
        (try rw [hji13] at A11)
        (try rw [hji13] at A12)
        have hji13w : (IntKind.i64.wrap ((wrap64 ((t342.length : Int) + (t345.length : Int))) + 1)) = ji13 := (i64_w _).trans hji13
        by_cases c14 : 0 ≤ (ji13)
        · rw [if_pos c14] at H
          have c14b0 := eq_true c14
          have c14b1 : decide (0 ≤ (ji13)) = true := decide_eq_true c14
          clear c14
          by_cases c15 : (ji13 : Int).toNat ≤ 35184372088832
          · rw [if_pos c15] at H
            have c15b0 := eq_true c15
            have c15b1 : decide ((ji13 : Int).toNat ≤ 35184372088832) = true := decide_eq_true c15
            clear c15
            obtain ⟨y348, hy348⟩ : ∃ y_ : List Int, y_ = (List.replicate (ji13 : Int).toNat 0) := ⟨_, rfl⟩
            replace H : (schismaref01_Mul.l0 kj4 t342 t345 y348 0) = some r := by first | (rw [hy348]; with_reducible exact H) | (have H2_ := (Option.bind_some _ _).symm.trans H; rw [hy348]; with_reducible exact H2_) | (have H2_ := (Option.bind_some _ _).symm.trans H; with_reducible exact H2_) | with_reducible exact H | (rw [hy348]; exact H) | exact H
            have Ny348 := Aside0.mk hy348
            clear hy348
            have H' := Aside0.mk H
            clear H
            go_wp2_with (first | (go_at_call 52; (with_reducible refine (schismaref01_limbs.calls kj4 a0 t342 _ A11.out).mono ?_); rintro e w16 ⟨v343, rfl, ho0, hb⟩; have n0_ := Aside0.mk (Kd.R_lower ho0 (below_size bq)); have n1_ := Aside0.mk (below_step bq hb); clear HB; have HO344 := n0_; have HB := n1_; clear n0_ n1_; (try clear hb); (try clear hb2); (try clear hk); (try clear hi); (try clear ho0)) | (go_at_call 52; (with_reducible refine (schismaref01_limbs.calls kj4 a1 t345 _ A12.out).mono ?_); rintro e w17 ⟨v346, rfl, ho0, hb⟩; have n0_ := Aside0.mk (Kd.R_elder' (by (with_reducible repeat (first | apply Kd.R_alloc | apply Kd.R_drewN | apply Kd.R_drew)); exact HO344.out) (Kd.R_base ho0) hb); have n1_ := Aside0.mk (Kd.R_lower (Kd.R_new' ho0 (Kd.R_lt (by (with_reducible repeat (first | apply Kd.R_alloc | apply Kd.R_drewN | apply Kd.R_drew)); exact HO344.out))) (below_size bq)); have n2_ := Aside0.mk (below_step bq hb); clear HO344; clear HB; have HO344 := n0_; have HO347 := n1_; have HB := n2_; clear n0_ n1_ n2_; (try clear hb); (try clear hb2); (try clear hk); (try clear hi); (try clear ho0); obtain ⟨Ao18, co18, eo18⟩ := Kd.R_slice HO344.out; subst eo18; obtain ⟨Ao19, co19, eo19⟩ := Kd.R_slice HO347.out; subst eo19) | ((with_reducible refine gate_dst (N := 52) rfl ?_); (try (refine gate_guard (by rfl) ?_; dsimp only)); refine Kd.R_make (Kd.int .u64) _ 22 rfl (N := 52) rfl 61 _ _ rfl ji13 rfl rfl Tryd.underlying61 (.int .u64 0) 8 info22 rfl (by decide) (by omega) 0 (ok := fun _ => True) (okp := fun _ => True) rfl (fun _ hk => hk) trivial (of_decide_eq_true (by first | (with_reducible assumption) | assumption)) (Nat.le_trans (Nat.mul_le_mul_right _ (of_decide_eq_true (by first | (with_reducible assumption) | assumption) : ji13.toNat ≤ 35184372088832)) (by omega)) (Below.refl _ _) (Nat.le_refl _) ?_; intro v349 w20 ho21 hb hg_ hnew_; clear hg_ hnew_; (first | rw [← Ny348.out] at ho21 | (simp only [Int.reduceToNat] at ho21; rw [← Ny348.out] at ho21)); have n0_ := Aside0.mk (Kd.R_elder' (by (with_reducible repeat (first | apply Kd.R_alloc | apply Kd.R_drewN | apply Kd.R_drew)); exact HO344.out) (Kd.R_base ho21) hb); have n1_ := Aside0.mk (Kd.R_elder' (by (with_reducible repeat (first | apply Kd.R_alloc | apply Kd.R_drewN | apply Kd.R_drew)); exact HO347.out) (Kd.R_base ho21) hb); have n2_ := Aside0.mk (Kd.R_lower (Kd.R_new' (Kd.R_new' ho21 (Kd.R_lt (by (with_reducible repeat (first | apply Kd.R_alloc | apply Kd.R_drewN | apply Kd.R_drew)); exact HO344.out))) (Kd.R_lt (by (with_reducible repeat (first | apply Kd.R_alloc | apply Kd.R_drewN | apply Kd.R_drew)); exact HO347.out))) (below_size bq)); have n3_ := Aside0.mk (below_step bq hb); clear HO344; clear HO347; clear HB; have HO344 := n0_; have HO347 := n1_; have HO350 := n2_; have HB := n3_; clear n0_ n1_ n2_ n3_; clear hb ho21))
            repeat (go_quiet (first | (go_at_call 52; (with_reducible refine (schismaref01_limbs.calls kj4 a0 t342 _ A11.out).mono ?_); rintro e w16 ⟨v343, rfl, ho0, hb⟩; have n0_ := Aside0.mk (Kd.R_lower ho0 (below_size bq)); have n1_ := Aside0.mk (below_step bq hb); clear HB; have HO344 := n0_; have HB := n1_; clear n0_ n1_; (try clear hb); (try clear hb2); (try clear hk); (try clear hi); (try clear ho0)) | (go_at_call 52; (with_reducible refine (schismaref01_limbs.calls kj4 a1 t345 _ A12.out).mono ?_); rintro e w17 ⟨v346, rfl, ho0, hb⟩; have n0_ := Aside0.mk (Kd.R_elder' (by (with_reducible repeat (first | apply Kd.R_alloc | apply Kd.R_drewN | apply Kd.R_drew)); exact HO344.out) (Kd.R_base ho0) hb); have n1_ := Aside0.mk (Kd.R_lower (Kd.R_new' ho0 (Kd.R_lt (by (with_reducible repeat (first | apply Kd.R_alloc | apply Kd.R_drewN | apply Kd.R_drew)); exact HO344.out))) (below_size bq)); have n2_ := Aside0.mk (below_step bq hb); clear HO344; clear HB; have HO344 := n0_; have HO347 := n1_; have HB := n2_; clear n0_ n1_ n2_; (try clear hb); (try clear hb2); (try clear hk); (try clear hi); (try clear ho0); obtain ⟨Ao18, co18, eo18⟩ := Kd.R_slice HO344.out; subst eo18; obtain ⟨Ao19, co19, eo19⟩ := Kd.R_slice HO347.out; subst eo19) | ((with_reducible refine gate_dst (N := 52) rfl ?_); (try (refine gate_guard (by rfl) ?_; dsimp only)); refine Kd.R_make (Kd.int .u64) _ 22 rfl (N := 52) rfl 61 _ _ rfl ji13 rfl rfl Tryd.underlying61 (.int .u64 0) 8 info22 rfl (by decide) (by omega) 0 (ok := fun _ => True) (okp := fun _ => True) rfl (fun _ hk => hk) trivial (of_decide_eq_true (by first | (with_reducible assumption) | assumption)) (Nat.le_trans (Nat.mul_le_mul_right _ (of_decide_eq_true (by first | (with_reducible assumption) | assumption) : ji13.toNat ≤ 35184372088832)) (by omega)) (Below.refl _ _) (Nat.le_refl _) ?_; intro v349 w20 ho21 hb hg_ hnew_; clear hg_ hnew_; (first | rw [← Ny348.out] at ho21 | (simp only [Int.reduceToNat] at ho21; rw [← Ny348.out] at ho21)); have n0_ := Aside0.mk (Kd.R_elder' (by (with_reducible repeat (first | apply Kd.R_alloc | apply Kd.R_drewN | apply Kd.R_drew)); exact HO344.out) (Kd.R_base ho21) hb); have n1_ := Aside0.mk (Kd.R_elder' (by (with_reducible repeat (first | apply Kd.R_alloc | apply Kd.R_drewN | apply Kd.R_drew)); exact HO347.out) (Kd.R_base ho21) hb); have n2_ := Aside0.mk (Kd.R_lower (Kd.R_new' (Kd.R_new' ho21 (Kd.R_lt (by (with_reducible repeat (first | apply Kd.R_alloc | apply Kd.R_drewN | apply Kd.R_drew)); exact HO344.out))) (Kd.R_lt (by (with_reducible repeat (first | apply Kd.R_alloc | apply Kd.R_drewN | apply Kd.R_drew)); exact HO347.out))) (below_size bq)); have n3_ := Aside0.mk (below_step bq hb); clear HO344; clear HO347; clear HB; have HO344 := n0_; have HO347 := n1_; have HO350 := n2_; have HB := n3_; clear n0_ n1_ n2_ n3_; clear hb ho21)); try go_wp2_with (first | (go_at_call 52; (with_reducible refine (schismaref01_limbs.calls kj4 a0 t342 _ A11.out).mono ?_); rintro e w16 ⟨v343, rfl, ho0, hb⟩; have n0_ := Aside0.mk (Kd.R_lower ho0 (below_size bq)); have n1_ := Aside0.mk (below_step bq hb); clear HB; have HO344 := n0_; have HB := n1_; clear n0_ n1_; (try clear hb); (try clear hb2); (try clear hk); (try clear hi); (try clear ho0)) | (go_at_call 52; (with_reducible refine (schismaref01_limbs.calls kj4 a1 t345 _ A12.out).mono ?_); rintro e w17 ⟨v346, rfl, ho0, hb⟩; have n0_ := Aside0.mk (Kd.R_elder' (by (with_reducible repeat (first | apply Kd.R_alloc | apply Kd.R_drewN | apply Kd.R_drew)); exact HO344.out) (Kd.R_base ho0) hb); have n1_ := Aside0.mk (Kd.R_lower (Kd.R_new' ho0 (Kd.R_lt (by (with_reducible repeat (first | apply Kd.R_alloc | apply Kd.R_drewN | apply Kd.R_drew)); exact HO344.out))) (below_size bq)); have n2_ := Aside0.mk (below_step bq hb); clear HO344; clear HB; have HO344 := n0_; have HO347 := n1_; have HB := n2_; clear n0_ n1_ n2_; (try clear hb); (try clear hb2); (try clear hk); (try clear hi); (try clear ho0); obtain ⟨Ao18, co18, eo18⟩ := Kd.R_slice HO344.out; subst eo18; obtain ⟨Ao19, co19, eo19⟩ := Kd.R_slice HO347.out; subst eo19) | ((with_reducible refine gate_dst (N := 52) rfl ?_); (try (refine gate_guard (by rfl) ?_; dsimp only)); refine Kd.R_make (Kd.int .u64) _ 22 rfl (N := 52) rfl 61 _ _ rfl ji13 rfl rfl Tryd.underlying61 (.int .u64 0) 8 info22 rfl (by decide) (by omega) 0 (ok := fun _ => True) (okp := fun _ => True) rfl (fun _ hk => hk) trivial (of_decide_eq_true (by first | (with_reducible assumption) | assumption)) (Nat.le_trans (Nat.mul_le_mul_right _ (of_decide_eq_true (by first | (with_reducible assumption) | assumption) : ji13.toNat ≤ 35184372088832)) (by omega)) (Below.refl _ _) (Nat.le_refl _) ?_; intro v349 w20 ho21 hb hg_ hnew_; clear hg_ hnew_; (first | rw [← Ny348.out] at ho21 | (simp only [Int.reduceToNat] at ho21; rw [← Ny348.out] at ho21)); have n0_ := Aside0.mk (Kd.R_elder' (by (with_reducible repeat (first | apply Kd.R_alloc | apply Kd.R_drewN | apply Kd.R_drew)); exact HO344.out) (Kd.R_base ho21) hb); have n1_ := Aside0.mk (Kd.R_elder' (by (with_reducible repeat (first | apply Kd.R_alloc | apply Kd.R_drewN | apply Kd.R_drew)); exact HO347.out) (Kd.R_base ho21) hb); have n2_ := Aside0.mk (Kd.R_lower (Kd.R_new' (Kd.R_new' ho21 (Kd.R_lt (by (with_reducible repeat (first | apply Kd.R_alloc | apply Kd.R_drewN | apply Kd.R_drew)); exact HO344.out))) (Kd.R_lt (by (with_reducible repeat (first | apply Kd.R_alloc | apply Kd.R_drewN | apply Kd.R_drew)); exact HO347.out))) (below_size bq)); have n3_ := Aside0.mk (below_step bq hb); clear HO344; clear HO347; clear HB; have HO344 := n0_; have HO347 := n1_; have HO350 := n2_; have HB := n3_; clear n0_ n1_ n2_ n3_; clear hb ho21)))
            go_loopg [12] kj4 (fun kq v12 w' => ∃ (x11_2 : List Int) (x12_2 : Int), v12 = .int .i64 x12_2 ∧ Aside0 (schismaref01_Mul.l0 kq t342 t345 x11_2 x12_2 = some r) ∧ Aside0 (kq ≤ kj4) ∧ Aside0 (Kd.R (Kd.int .u64) 22 w' w.heap.size (fun k_ => some k_ ≠ ((.slice Ao19 t345.length co19) : Value).ownBlock ∧ some k_ ≠ (v349 : Value).ownBlock) (.slice Ao18 t342.length co18) t342) ∧ Aside0 (Kd.R (Kd.int .u64) 22 w' w.heap.size (fun k_ => some k_ ≠ ((.slice Ao18 t342.length co18) : Value).ownBlock ∧ some k_ ≠ (v349 : Value).ownBlock) (.slice Ao19 t345.length co19) t345) ∧ Aside0 (Kd.R (Kd.int .u64) 22 w' w.heap.size (fun k_ => some k_ ≠ ((.slice Ao18 t342.length co18) : Value).ownBlock ∧ some k_ ≠ ((.slice Ao19 t345.length co19) : Value).ownBlock) v349 x11_2) ∧ Aside0 (Below w.heap.size w w'))
            case atStart => exact ⟨(y348), (0), (by first | rfl | (simp; done) | (simp [*]; done)), H', ⟨Nat.le_refl _⟩, ⟨by (with_reducible repeat (first | apply Kd.R_alloc | apply Kd.R_drewN | apply Kd.R_drew)); exact Kd.R_mono HO344.out (fun _ hk => ⟨hk.1.2, hk.2⟩)⟩, ⟨by (with_reducible repeat (first | apply Kd.R_alloc | apply Kd.R_drewN | apply Kd.R_drew)); exact Kd.R_mono HO347.out (fun _ hk => ⟨hk.1.2, hk.2⟩)⟩, ⟨by (with_reducible repeat (first | apply Kd.R_alloc | apply Kd.R_drewN | apply Kd.R_drew)); exact Kd.R_mono HO350.out (fun _ hk => ⟨hk.1.2, hk.2⟩)⟩, ⟨bq⟩⟩
            case round =>
              clear H'
              try clear c1
              try clear c2
              try clear p2
              try clear c6
              try clear p6
              try clear c7
              try clear c8
              try clear c14
              try clear c14b0
              try clear c14b1
              try clear c15
              try clear c15b0
              try clear c15b1
              try clear p2
              try clear p6
              obtain ⟨x11_2, x12_2, rfl, HA, HK2, HO_9, HO_10, HO_11, HB⟩ := hrel
              cases gk with
              | zero => exact absurd HA.out (by simp [schismaref01_Mul.l0])
              | succ k2 =>
                have H := HA.out
                clear HA
                simp only [schismaref01_Mul.l0] at H
                by_cases c22 : x12_2 < (t342.length : Int)
                · rw [if_pos c22] at H
                  have c22b0 : decide (x12_2 < (t342.length : Int)) = true := decide_eq_true c22
                  clear c22
                  have H' := Aside0.mk H
                  clear H
                  go_wp2
                  repeat (go_quiet (fail); try go_wp2)
                  go_loopg [13, 14] k2 (fun kq v13 v14 w' => ∃ (x11_3 : List Int) (x13_3 : Int) (x14_3 : Int), v13 = .int .u64 x13_3 ∧ v14 = .int .i64 x14_3 ∧ Aside0 (schismaref01_Mul.l1 kq t342 t345 x11_3 x12_2 x13_3 x14_3 = some r) ∧ Aside0 (kq ≤ k2) ∧ Aside0 (Kd.R (Kd.int .u64) 22 w' w.heap.size (fun k_ => some k_ ≠ ((.slice Ao19 t345.length co19) : Value).ownBlock ∧ some k_ ≠ (v349 : Value).ownBlock) (.slice Ao18 t342.length co18) t342) ∧ Aside0 (Kd.R (Kd.int .u64) 22 w' w.heap.size (fun k_ => some k_ ≠ ((.slice Ao18 t342.length co18) : Value).ownBlock ∧ some k_ ≠ (v349 : Value).ownBlock) (.slice Ao19 t345.length co19) t345) ∧ Aside0 (Kd.R (Kd.int .u64) 22 w' w.heap.size (fun k_ => some k_ ≠ ((.slice Ao18 t342.length co18) : Value).ownBlock ∧ some k_ ≠ ((.slice Ao19 t345.length co19) : Value).ownBlock) v349 x11_3) ∧ Aside0 (Below w.heap.size w w'))
                  case atStart => exact ⟨(x11_2), (0), (0), (by first | rfl | (simp; done) | (simp [*]; done)), (by first | rfl | (simp; done) | (simp [*]; done)), H', ⟨Nat.le_refl _⟩, ⟨by (with_reducible repeat (first | apply Kd.R_alloc | apply Kd.R_drewN | apply Kd.R_drew)); exact HO_9.out⟩, ⟨by (with_reducible repeat (first | apply Kd.R_alloc | apply Kd.R_drewN | apply Kd.R_drew)); exact HO_10.out⟩, ⟨by (with_reducible repeat (first | apply Kd.R_alloc | apply Kd.R_drewN | apply Kd.R_drew)); exact HO_11.out⟩, ⟨bq⟩⟩
                  case round =>
                    clear H'
                    try clear c1
                    try clear c2
                    try clear p2
                    try clear c6
                    try clear p6
                    try clear c7
                    try clear c8
                    try clear c14
                    try clear c14b0
                    try clear c14b1
                    try clear c15
                    try clear c15b0
                    try clear c15b1
                    try clear c22
                    try clear c22b0
                    try clear p2
                    try clear p6
                    obtain ⟨x11_3, x13_3, x14_3, rfl, rfl, HA, HK3, HO_9, HO_10, HO_11, HB⟩ := hrel
                    cases gk with
                    | zero => exact absurd HA.out (by simp [schismaref01_Mul.l1])
                    | succ k3 =>
                      have H := HA.out
                      clear HA
                      simp only [schismaref01_Mul.l1] at H
                      by_cases c23 : x14_3 < (t345.length : Int)
                      · rw [if_pos c23] at H
                        have c23b0 : decide (x14_3 < (t345.length : Int)) = true := decide_eq_true c23
                        clear c23
                        obtain ⟨ji24, hji24⟩ : ∃ j_ : Int, (wrap64 (x12_2 + x14_3)) = j_ := ⟨_, rfl⟩
                        replace H : (if 0 ≤ (ji24) then (if (ji24) < (x11_3.length : Int) then (if 0 ≤ x12_2 then (if x12_2 < (t342.length : Int) then (if 0 ≤ x14_3 then (schismaref01_Mul.l1 k3 t342 t345 (x11_3.set ((ji24) : Int).toNat (Int.tmod (IntKind.u64.wrap ((IntKind.u64.wrap ((rd x11_3 (ji24)) + (IntKind.u64.wrap ((rd t342 x12_2) * (rd t345 x14_3))))) + x13_3)) 1000000000)) x12_2 (IntKind.u64.wrap (Int.tdiv (IntKind.u64.wrap ((IntKind.u64.wrap ((rd x11_3 (ji24)) + (IntKind.u64.wrap ((rd t342 x12_2) * (rd t345 x14_3))))) + x13_3)) 1000000000)) (wrap64 (x14_3 + 1))) else (none)) else (none)) else (none)) else (none)) else (none)) = some r := by first | (rw [hji24] at H; exact H) | (simp only [hji24] at H ⊢; exact H)
                        have hji24w : (IntKind.i64.wrap (x12_2 + x14_3)) = ji24 := (i64_w _).trans hji24
                        by_cases c25 : 0 ≤ (ji24)
                        · rw [if_pos c25] at H
                          have c25b0 : decide (0 ≤ (ji24)) = true := decide_eq_true c25
                          clear c25
                          by_cases c26 : (ji24) < (x11_3.length : Int)
                          · rw [if_pos c26] at H
                            have c26b0 : decide ((ji24) < (x11_3.length : Int)) = true := decide_eq_true c26
                            clear c26
                            by_cases c27 : 0 ≤ x12_2
                            · rw [if_pos c27] at H
                              have c27b0 : decide (0 ≤ x12_2) = true := decide_eq_true c27
                              clear c27
                              by_cases c28 : x12_2 < (t342.length : Int)
                              · rw [if_pos c28] at H
                                have c28b0 : decide (x12_2 < (t342.length : Int)) = true := decide_eq_true c28
                                clear c28
                                by_cases c29 : 0 ≤ x14_3
                                · rw [if_pos c29] at H
                                  have c29b0 : decide (0 ≤ x14_3) = true := decide_eq_true c29
                                  clear c29
                                  obtain ⟨y355, hy355⟩ : ∃ y_ : List Int, y_ = (x11_3.set ((ji24) : Int).toNat (Int.tmod (IntKind.u64.wrap ((IntKind.u64.wrap ((rd x11_3 (ji24)) + (IntKind.u64.wrap ((rd t342 x12_2) * (rd t345 x14_3))))) + x13_3)) 1000000000)) := ⟨_, rfl⟩
                                  replace H : (schismaref01_Mul.l1 k3 t342 t345 y355 x12_2 (IntKind.u64.wrap (Int.tdiv (IntKind.u64.wrap ((IntKind.u64.wrap ((rd x11_3 (ji24)) + (IntKind.u64.wrap ((rd t342 x12_2) * (rd t345 x14_3))))) + x13_3)) 1000000000)) (wrap64 (x14_3 + 1))) = some r := by first | (rw [hy355]; with_reducible exact H) | (have H2_ := (Option.bind_some _ _).symm.trans H; rw [hy355]; with_reducible exact H2_) | (have H2_ := (Option.bind_some _ _).symm.trans H; with_reducible exact H2_) | with_reducible exact H | (rw [hy355]; exact H) | exact H
                                  have Ny355 := Aside0.mk hy355
                                  clear hy355
                                  have H' := Aside0.mk H
                                  clear H
                                  obtain ⟨Ao31, co31, eo31⟩ := Kd.R_slice HO_11.out
                                  subst eo31
                                  have p352 : 0 ≤ ((ji24) : Int) := of_decide_eq_true (by first | (with_reducible assumption) | assumption)
                                  have q352 : (ji24) < (x11_3.length : Int) := of_decide_eq_true (by first | (with_reducible assumption) | assumption)
                                  obtain ⟨ad352, e352, hx352_0⟩ := Kd.at_int (Kd.R_reads' HO_11.out).2.2 (ji24) p352 q352
                                  cases e352
                                  replace p352 := eq_true p352
                                  replace q352 := eq_true q352
                                  have p353 : 0 ≤ (x12_2 : Int) := of_decide_eq_true (by first | (with_reducible assumption) | assumption)
                                  have q353 : x12_2 < (t342.length : Int) := of_decide_eq_true (by first | (with_reducible assumption) | assumption)
                                  obtain ⟨ad353, e353, hx353_0⟩ := Kd.at_int (Kd.R_reads' HO_9.out).2.2 x12_2 p353 q353
                                  cases e353
                                  replace p353 := eq_true p353
                                  replace q353 := eq_true q353
                                  have p354 : 0 ≤ (x14_3 : Int) := of_decide_eq_true (by first | (with_reducible assumption) | assumption)
                                  have q354 : x14_3 < (t345.length : Int) := of_decide_eq_true (by first | (with_reducible assumption) | assumption)
                                  obtain ⟨ad354, e354, hx354_0⟩ := Kd.at_int (Kd.R_reads' HO_10.out).2.2 x14_3 p354 q354
                                  cases e354
                                  replace p354 := eq_true p354
                                  replace q354 := eq_true q354
                                  have p30 : 0 ≤ ((ji24) : Int) := of_decide_eq_true (by first | (with_reducible assumption) | assumption)
                                  have q30 : ((ji24) : Int) < ((x11_3.length : Int) : Int) := of_decide_eq_true (by first | (with_reducible assumption) | assumption)
                                  obtain ⟨go30, co30, eo30, gb30, gl30, cl30, HG30⟩ := Kd.R_form HO_11.out (by omega)
                                  (first | cases eo30 | (injection eo30 with ea_ en_ ec_; (first | subst ea_ | (injection ea_ with ea_; subst ea_)); subst ec_; clear en_))
                                  have GB30 := Aside0.mk gb30
                                  have GG30 := Aside0.mk HG30
                                  clear gb30 gl30 HG30
                                  (first | simp only [add_plain] at hx352_0 | skip)
                                  obtain ⟨hx30_0, hf30_0⟩ := Kd.R_celln 0 HO_11.out ((ji24) : Int) p30 q30
                                  replace p30 := eq_true p30
                                  replace q30 := eq_true q30
                                  have HP32 := Kd.R_putg HO_11.out ((ji24) : Int) (Int.tmod (IntKind.u64.wrap ((IntKind.u64.wrap ((rd x11_3 (ji24)) + (IntKind.u64.wrap ((rd t342 x12_2) * (rd t345 x14_3))))) + x13_3)) 1000000000)
                                  go_wp2_with (first | ((with_reducible refine gate_store (t := 22) (p := 89) rfl ?_); (try (rw [drewN_self wr]; generalize hq_ : World.drewN wr _ = wr; have n0_ := Aside0.mk (Kd.R_at hq_ HO_9.out); have n1_ := Aside0.mk (Kd.R_at hq_ HO_10.out); have n2_ := Aside0.mk (Kd.R_at hq_ HO_11.out); have n3_ := Aside0.mk (below_at hq_ HB.out); clear hq_ HO_9 HO_10 HO_11 HB; have HO_9 := n0_; have HO_10 := n1_; have HO_11 := n2_; have HB := n3_; clear n0_ n1_ n2_ n3_; (try (obtain ⟨hx30_0, hf30_0⟩ := Kd.R_celln 0 HO_11.out ((ji24) : Int) (of_eq_true p30) (of_eq_true q30))); (try (have HP32 := Kd.R_putg HO_11.out ((ji24) : Int) (Int.tmod (IntKind.u64.wrap ((IntKind.u64.wrap ((rd x11_3 (ji24)) + (IntKind.u64.wrap ((rd t342 x12_2) * (rd t345 x14_3))))) + x13_3)) 1000000000))))); refine store_event (t := 22) (p := 89) (v := ?vo_w33) (w1 := (wr.setCell ⟨go30, ((ji24) : Int).toNat, none⟩ (.int .u64 (Int.tmod (IntKind.u64.wrap ((IntKind.u64.wrap ((rd x11_3 (ji24)) + (IntKind.u64.wrap ((rd t342 x12_2) * (rd t345 x14_3))))) + x13_3)) 1000000000)))) ?hg ?ho ?hn ?hr ?_; (case ho => rfl); (case hg => rfl); (case hn => rfl); (case hr => first | (go_simp; done) | (go_simp; rfl)); intro w33 hw; have hg : wr.grownBy w33 (some go30) := (by rw [hw]; exact HP32.2); have hp_ : Kd.R (Kd.int .u64) 22 w33 w.heap.size (fun k_ => some k_ ≠ (.slice (some ad353) t342.length co18 : Value).ownBlock ∧ some k_ ≠ (.slice (some ad354) t345.length co19 : Value).ownBlock) (.slice (some ⟨go30, 0, none⟩) x11_3.length co31) y355 := (by rw [hw, Ny355.out]; exact HP32.1); clear HP32; have n0_ := Aside0.mk (Kd.R_after (v := (.slice (some ⟨go30, 0, none⟩) x11_3.length co31)) (v1 := (.slice (some ⟨go30, 0, none⟩) x11_3.length co31)) (ok := (fun k_ => some k_ ≠ (.slice (some ad354) t345.length co19 : Value).ownBlock)) (by (with_reducible repeat (first | apply Kd.R_alloc | apply Kd.R_drewN | apply Kd.R_drew)); exact HO_9.out) hg (.inl rfl)); have n1_ := Aside0.mk (Kd.R_after (v := (.slice (some ⟨go30, 0, none⟩) x11_3.length co31)) (v1 := (.slice (some ⟨go30, 0, none⟩) x11_3.length co31)) (ok := (fun k_ => some k_ ≠ (.slice (some ad353) t342.length co18 : Value).ownBlock)) (by (with_reducible repeat (first | apply Kd.R_alloc | apply Kd.R_drewN | apply Kd.R_drew)); exact HO_10.out) hg (.inl rfl)); have n2_ := Aside0.mk (hp_); have n3_ := Aside0.mk ((by rw [hw]; exact below_set (HB.out) GB30.out : Below w.heap.size w w33)); clear HO_9; clear HO_10; clear HO_11; clear HB; have HO_9 := n0_; have HO_10 := n1_; have HO_11 := n2_; have HB := n3_; clear n0_ n1_ n2_ n3_; clear hg hw hp_))
                                  repeat (go_quiet (first | ((with_reducible refine gate_store (t := 22) (p := 89) rfl ?_); (try (rw [drewN_self wr]; generalize hq_ : World.drewN wr _ = wr; have n0_ := Aside0.mk (Kd.R_at hq_ HO_9.out); have n1_ := Aside0.mk (Kd.R_at hq_ HO_10.out); have n2_ := Aside0.mk (Kd.R_at hq_ HO_11.out); have n3_ := Aside0.mk (below_at hq_ HB.out); clear hq_ HO_9 HO_10 HO_11 HB; have HO_9 := n0_; have HO_10 := n1_; have HO_11 := n2_; have HB := n3_; clear n0_ n1_ n2_ n3_; (try (obtain ⟨hx30_0, hf30_0⟩ := Kd.R_celln 0 HO_11.out ((ji24) : Int) (of_eq_true p30) (of_eq_true q30))); (try (have HP32 := Kd.R_putg HO_11.out ((ji24) : Int) (Int.tmod (IntKind.u64.wrap ((IntKind.u64.wrap ((rd x11_3 (ji24)) + (IntKind.u64.wrap ((rd t342 x12_2) * (rd t345 x14_3))))) + x13_3)) 1000000000))))); refine store_event (t := 22) (p := 89) (v := ?vo_w33) (w1 := (wr.setCell ⟨go30, ((ji24) : Int).toNat, none⟩ (.int .u64 (Int.tmod (IntKind.u64.wrap ((IntKind.u64.wrap ((rd x11_3 (ji24)) + (IntKind.u64.wrap ((rd t342 x12_2) * (rd t345 x14_3))))) + x13_3)) 1000000000)))) ?hg ?ho ?hn ?hr ?_; (case ho => rfl); (case hg => rfl); (case hn => rfl); (case hr => first | (go_simp; done) | (go_simp; rfl)); intro w33 hw; have hg : wr.grownBy w33 (some go30) := (by rw [hw]; exact HP32.2); have hp_ : Kd.R (Kd.int .u64) 22 w33 w.heap.size (fun k_ => some k_ ≠ (.slice (some ad353) t342.length co18 : Value).ownBlock ∧ some k_ ≠ (.slice (some ad354) t345.length co19 : Value).ownBlock) (.slice (some ⟨go30, 0, none⟩) x11_3.length co31) y355 := (by rw [hw, Ny355.out]; exact HP32.1); clear HP32; have n0_ := Aside0.mk (Kd.R_after (v := (.slice (some ⟨go30, 0, none⟩) x11_3.length co31)) (v1 := (.slice (some ⟨go30, 0, none⟩) x11_3.length co31)) (ok := (fun k_ => some k_ ≠ (.slice (some ad354) t345.length co19 : Value).ownBlock)) (by (with_reducible repeat (first | apply Kd.R_alloc | apply Kd.R_drewN | apply Kd.R_drew)); exact HO_9.out) hg (.inl rfl)); have n1_ := Aside0.mk (Kd.R_after (v := (.slice (some ⟨go30, 0, none⟩) x11_3.length co31)) (v1 := (.slice (some ⟨go30, 0, none⟩) x11_3.length co31)) (ok := (fun k_ => some k_ ≠ (.slice (some ad353) t342.length co18 : Value).ownBlock)) (by (with_reducible repeat (first | apply Kd.R_alloc | apply Kd.R_drewN | apply Kd.R_drew)); exact HO_10.out) hg (.inl rfl)); have n2_ := Aside0.mk (hp_); have n3_ := Aside0.mk ((by rw [hw]; exact below_set (HB.out) GB30.out : Below w.heap.size w w33)); clear HO_9; clear HO_10; clear HO_11; clear HB; have HO_9 := n0_; have HO_10 := n1_; have HO_11 := n2_; have HB := n3_; clear n0_ n1_ n2_ n3_; clear hg hw hp_)); try go_wp2_with (first | ((with_reducible refine gate_store (t := 22) (p := 89) rfl ?_); (try (rw [drewN_self wr]; generalize hq_ : World.drewN wr _ = wr; have n0_ := Aside0.mk (Kd.R_at hq_ HO_9.out); have n1_ := Aside0.mk (Kd.R_at hq_ HO_10.out); have n2_ := Aside0.mk (Kd.R_at hq_ HO_11.out); have n3_ := Aside0.mk (below_at hq_ HB.out); clear hq_ HO_9 HO_10 HO_11 HB; have HO_9 := n0_; have HO_10 := n1_; have HO_11 := n2_; have HB := n3_; clear n0_ n1_ n2_ n3_; (try (obtain ⟨hx30_0, hf30_0⟩ := Kd.R_celln 0 HO_11.out ((ji24) : Int) (of_eq_true p30) (of_eq_true q30))); (try (have HP32 := Kd.R_putg HO_11.out ((ji24) : Int) (Int.tmod (IntKind.u64.wrap ((IntKind.u64.wrap ((rd x11_3 (ji24)) + (IntKind.u64.wrap ((rd t342 x12_2) * (rd t345 x14_3))))) + x13_3)) 1000000000))))); refine store_event (t := 22) (p := 89) (v := ?vo_w33) (w1 := (wr.setCell ⟨go30, ((ji24) : Int).toNat, none⟩ (.int .u64 (Int.tmod (IntKind.u64.wrap ((IntKind.u64.wrap ((rd x11_3 (ji24)) + (IntKind.u64.wrap ((rd t342 x12_2) * (rd t345 x14_3))))) + x13_3)) 1000000000)))) ?hg ?ho ?hn ?hr ?_; (case ho => rfl); (case hg => rfl); (case hn => rfl); (case hr => first | (go_simp; done) | (go_simp; rfl)); intro w33 hw; have hg : wr.grownBy w33 (some go30) := (by rw [hw]; exact HP32.2); have hp_ : Kd.R (Kd.int .u64) 22 w33 w.heap.size (fun k_ => some k_ ≠ (.slice (some ad353) t342.length co18 : Value).ownBlock ∧ some k_ ≠ (.slice (some ad354) t345.length co19 : Value).ownBlock) (.slice (some ⟨go30, 0, none⟩) x11_3.length co31) y355 := (by rw [hw, Ny355.out]; exact HP32.1); clear HP32; have n0_ := Aside0.mk (Kd.R_after (v := (.slice (some ⟨go30, 0, none⟩) x11_3.length co31)) (v1 := (.slice (some ⟨go30, 0, none⟩) x11_3.length co31)) (ok := (fun k_ => some k_ ≠ (.slice (some ad354) t345.length co19 : Value).ownBlock)) (by (with_reducible repeat (first | apply Kd.R_alloc | apply Kd.R_drewN | apply Kd.R_drew)); exact HO_9.out) hg (.inl rfl)); have n1_ := Aside0.mk (Kd.R_after (v := (.slice (some ⟨go30, 0, none⟩) x11_3.length co31)) (v1 := (.slice (some ⟨go30, 0, none⟩) x11_3.length co31)) (ok := (fun k_ => some k_ ≠ (.slice (some ad353) t342.length co18 : Value).ownBlock)) (by (with_reducible repeat (first | apply Kd.R_alloc | apply Kd.R_drewN | apply Kd.R_drew)); exact HO_10.out) hg (.inl rfl)); have n2_ := Aside0.mk (hp_); have n3_ := Aside0.mk ((by rw [hw]; exact below_set (HB.out) GB30.out : Below w.heap.size w w33)); clear HO_9; clear HO_10; clear HO_11; clear HB; have HO_9 := n0_; have HO_10 := n1_; have HO_11 := n2_; have HB := n3_; clear n0_ n1_ n2_ n3_; clear hg hw hp_)))
                                  go_roundg k3
                                  case measure => have := HJ4.out; have := HK2.out; have := HK3.out; omega
                                  case rel => exact ⟨(y355), (IntKind.u64.wrap (Int.tdiv (IntKind.u64.wrap ((IntKind.u64.wrap ((rd x11_3 (ji24)) + (IntKind.u64.wrap ((rd t342 x12_2) * (rd t345 x14_3))))) + x13_3)) 1000000000)), (wrap64 (x14_3 + 1)), (by first | rfl | (simp; done) | (simp only [← hji24] <;> (first | rfl | simp)) | (simp [*]; done)), (by first | rfl | (simp; done) | (simp [*]; done)), H', ⟨by have := HJ4.out; have := HK2.out; have := HK3.out; omega⟩, ⟨by (with_reducible repeat (first | apply Kd.R_alloc | apply Kd.R_drewN | apply Kd.R_drew)); exact HO_9.out⟩, ⟨by (with_reducible repeat (first | apply Kd.R_alloc | apply Kd.R_drewN | apply Kd.R_drew)); exact HO_10.out⟩, ⟨by (with_reducible repeat (first | apply Kd.R_alloc | apply Kd.R_drewN | apply Kd.R_drew)); exact HO_11.out⟩, ⟨bq⟩⟩
                                · rw [if_neg c29] at H
                                  exact absurd H (by simp)
                              · rw [if_neg c28] at H
                                exact absurd H (by simp)
                            · rw [if_neg c27] at H
                              exact absurd H (by simp)
                          · rw [if_neg c26] at H
                            exact absurd H (by simp)
                        · rw [if_neg c25] at H
                          exact absurd H (by simp)
                      · rw [if_neg c23] at H
                        have c23b0 : decide (x14_3 < (t345.length : Int)) = false := decide_eq_false c23
                        clear c23
                        obtain ⟨ji34, hji34⟩ : ∃ j_ : Int, (wrap64 (x12_2 + (t345.length : Int))) = j_ := ⟨_, rfl⟩
                        replace H : (if 0 ≤ (ji34) then (if (ji34) < (x11_3.length : Int) then (schismaref01_Mul.l0 k3 t342 t345 (x11_3.set ((ji34) : Int).toNat (IntKind.u64.wrap ((rd x11_3 (ji34)) + x13_3))) (wrap64 (x12_2 + 1))) else (none)) else (none)) = some r := by first | (rw [hji34] at H; exact H) | (simp only [hji34] at H ⊢; exact H)
                        have hji34w : (IntKind.i64.wrap (x12_2 + (t345.length : Int))) = ji34 := (i64_w _).trans hji34
                        by_cases c35 : 0 ≤ (ji34)
                        · rw [if_pos c35] at H
                          have c35b0 : decide (0 ≤ (ji34)) = true := decide_eq_true c35
                          clear c35
                          by_cases c36 : (ji34) < (x11_3.length : Int)
                          · rw [if_pos c36] at H
                            have c36b0 : decide ((ji34) < (x11_3.length : Int)) = true := decide_eq_true c36
                            clear c36
                            obtain ⟨y357, hy357⟩ : ∃ y_ : List Int, y_ = (x11_3.set ((ji34) : Int).toNat (IntKind.u64.wrap ((rd x11_3 (ji34)) + x13_3))) := ⟨_, rfl⟩
                            replace H : (schismaref01_Mul.l0 k3 t342 t345 y357 (wrap64 (x12_2 + 1))) = some r := by first | (rw [hy357]; with_reducible exact H) | (have H2_ := (Option.bind_some _ _).symm.trans H; rw [hy357]; with_reducible exact H2_) | (have H2_ := (Option.bind_some _ _).symm.trans H; with_reducible exact H2_) | with_reducible exact H | (rw [hy357]; exact H) | exact H
                            have Ny357 := Aside0.mk hy357
                            clear hy357
                            have H' := Aside0.mk H
                            clear H
                            obtain ⟨Ao38, co38, eo38⟩ := Kd.R_slice HO_11.out
                            subst eo38
                            have p356 : 0 ≤ ((ji34) : Int) := of_decide_eq_true (by first | (with_reducible assumption) | assumption)
                            have q356 : (ji34) < (x11_3.length : Int) := of_decide_eq_true (by first | (with_reducible assumption) | assumption)
                            obtain ⟨ad356, e356, hx356_0⟩ := Kd.at_int (Kd.R_reads' HO_11.out).2.2 (ji34) p356 q356
                            cases e356
                            replace p356 := eq_true p356
                            replace q356 := eq_true q356
                            have p37 : 0 ≤ ((ji34) : Int) := of_decide_eq_true (by first | (with_reducible assumption) | assumption)
                            have q37 : ((ji34) : Int) < ((x11_3.length : Int) : Int) := of_decide_eq_true (by first | (with_reducible assumption) | assumption)
                            obtain ⟨go37, co37, eo37, gb37, gl37, cl37, HG37⟩ := Kd.R_form HO_11.out (by omega)
                            (first | cases eo37 | (injection eo37 with ea_ en_ ec_; (first | subst ea_ | (injection ea_ with ea_; subst ea_)); subst ec_; clear en_))
                            have GB37 := Aside0.mk gb37
                            have GG37 := Aside0.mk HG37
                            clear gb37 gl37 HG37
                            (first | simp only [add_plain] at hx356_0 | skip)
                            obtain ⟨hx37_0, hf37_0⟩ := Kd.R_celln 0 HO_11.out ((ji34) : Int) p37 q37
                            replace p37 := eq_true p37
                            replace q37 := eq_true q37
                            have HP39 := Kd.R_putg HO_11.out ((ji34) : Int) (IntKind.u64.wrap ((rd x11_3 (ji34)) + x13_3))
                            go_wp2_with (first | ((with_reducible refine gate_store (t := 22) (p := 101) rfl ?_); (try (rw [drewN_self wr]; generalize hq_ : World.drewN wr _ = wr; have n0_ := Aside0.mk (Kd.R_at hq_ HO_9.out); have n1_ := Aside0.mk (Kd.R_at hq_ HO_10.out); have n2_ := Aside0.mk (Kd.R_at hq_ HO_11.out); have n3_ := Aside0.mk (below_at hq_ HB.out); clear hq_ HO_9 HO_10 HO_11 HB; have HO_9 := n0_; have HO_10 := n1_; have HO_11 := n2_; have HB := n3_; clear n0_ n1_ n2_ n3_; (try (obtain ⟨hx37_0, hf37_0⟩ := Kd.R_celln 0 HO_11.out ((ji34) : Int) (of_eq_true p37) (of_eq_true q37))); (try (have HP39 := Kd.R_putg HO_11.out ((ji34) : Int) (IntKind.u64.wrap ((rd x11_3 (ji34)) + x13_3)))))); refine store_event (t := 22) (p := 101) (v := ?vo_w40) (w1 := (wr.setCell ⟨go37, ((ji34) : Int).toNat, none⟩ (.int .u64 (IntKind.u64.wrap ((rd x11_3 (ji34)) + x13_3))))) ?hg ?ho ?hn ?hr ?_; (case ho => rfl); (case hg => rfl); (case hn => rfl); (case hr => first | (go_simp; done) | (go_simp; rfl)); intro w40 hw; have hg : wr.grownBy w40 (some go37) := (by rw [hw]; exact HP39.2); have hp_ : Kd.R (Kd.int .u64) 22 w40 w.heap.size (fun k_ => some k_ ≠ (.slice Ao18 t342.length co18 : Value).ownBlock ∧ some k_ ≠ (.slice Ao19 t345.length co19 : Value).ownBlock) (.slice (some ⟨go37, 0, none⟩) x11_3.length co38) y357 := (by rw [hw, Ny357.out]; exact HP39.1); clear HP39; have n0_ := Aside0.mk (Kd.R_after (v := (.slice (some ⟨go37, 0, none⟩) x11_3.length co38)) (v1 := (.slice (some ⟨go37, 0, none⟩) x11_3.length co38)) (ok := (fun k_ => some k_ ≠ (.slice Ao19 t345.length co19 : Value).ownBlock)) (by (with_reducible repeat (first | apply Kd.R_alloc | apply Kd.R_drewN | apply Kd.R_drew)); exact HO_9.out) hg (.inl rfl)); have n1_ := Aside0.mk (Kd.R_after (v := (.slice (some ⟨go37, 0, none⟩) x11_3.length co38)) (v1 := (.slice (some ⟨go37, 0, none⟩) x11_3.length co38)) (ok := (fun k_ => some k_ ≠ (.slice Ao18 t342.length co18 : Value).ownBlock)) (by (with_reducible repeat (first | apply Kd.R_alloc | apply Kd.R_drewN | apply Kd.R_drew)); exact HO_10.out) hg (.inl rfl)); have n2_ := Aside0.mk (hp_); have n3_ := Aside0.mk ((by rw [hw]; exact below_set (HB.out) GB37.out : Below w.heap.size w w40)); clear HO_9; clear HO_10; clear HO_11; clear HB; have HO_9 := n0_; have HO_10 := n1_; have HO_11 := n2_; have HB := n3_; clear n0_ n1_ n2_ n3_; clear hg hw hp_))
                            repeat (go_quiet (first | ((with_reducible refine gate_store (t := 22) (p := 101) rfl ?_); (try (rw [drewN_self wr]; generalize hq_ : World.drewN wr _ = wr; have n0_ := Aside0.mk (Kd.R_at hq_ HO_9.out); have n1_ := Aside0.mk (Kd.R_at hq_ HO_10.out); have n2_ := Aside0.mk (Kd.R_at hq_ HO_11.out); have n3_ := Aside0.mk (below_at hq_ HB.out); clear hq_ HO_9 HO_10 HO_11 HB; have HO_9 := n0_; have HO_10 := n1_; have HO_11 := n2_; have HB := n3_; clear n0_ n1_ n2_ n3_; (try (obtain ⟨hx37_0, hf37_0⟩ := Kd.R_celln 0 HO_11.out ((ji34) : Int) (of_eq_true p37) (of_eq_true q37))); (try (have HP39 := Kd.R_putg HO_11.out ((ji34) : Int) (IntKind.u64.wrap ((rd x11_3 (ji34)) + x13_3)))))); refine store_event (t := 22) (p := 101) (v := ?vo_w40) (w1 := (wr.setCell ⟨go37, ((ji34) : Int).toNat, none⟩ (.int .u64 (IntKind.u64.wrap ((rd x11_3 (ji34)) + x13_3))))) ?hg ?ho ?hn ?hr ?_; (case ho => rfl); (case hg => rfl); (case hn => rfl); (case hr => first | (go_simp; done) | (go_simp; rfl)); intro w40 hw; have hg : wr.grownBy w40 (some go37) := (by rw [hw]; exact HP39.2); have hp_ : Kd.R (Kd.int .u64) 22 w40 w.heap.size (fun k_ => some k_ ≠ (.slice Ao18 t342.length co18 : Value).ownBlock ∧ some k_ ≠ (.slice Ao19 t345.length co19 : Value).ownBlock) (.slice (some ⟨go37, 0, none⟩) x11_3.length co38) y357 := (by rw [hw, Ny357.out]; exact HP39.1); clear HP39; have n0_ := Aside0.mk (Kd.R_after (v := (.slice (some ⟨go37, 0, none⟩) x11_3.length co38)) (v1 := (.slice (some ⟨go37, 0, none⟩) x11_3.length co38)) (ok := (fun k_ => some k_ ≠ (.slice Ao19 t345.length co19 : Value).ownBlock)) (by (with_reducible repeat (first | apply Kd.R_alloc | apply Kd.R_drewN | apply Kd.R_drew)); exact HO_9.out) hg (.inl rfl)); have n1_ := Aside0.mk (Kd.R_after (v := (.slice (some ⟨go37, 0, none⟩) x11_3.length co38)) (v1 := (.slice (some ⟨go37, 0, none⟩) x11_3.length co38)) (ok := (fun k_ => some k_ ≠ (.slice Ao18 t342.length co18 : Value).ownBlock)) (by (with_reducible repeat (first | apply Kd.R_alloc | apply Kd.R_drewN | apply Kd.R_drew)); exact HO_10.out) hg (.inl rfl)); have n2_ := Aside0.mk (hp_); have n3_ := Aside0.mk ((by rw [hw]; exact below_set (HB.out) GB37.out : Below w.heap.size w w40)); clear HO_9; clear HO_10; clear HO_11; clear HB; have HO_9 := n0_; have HO_10 := n1_; have HO_11 := n2_; have HB := n3_; clear n0_ n1_ n2_ n3_; clear hg hw hp_)); try go_wp2_with (first | ((with_reducible refine gate_store (t := 22) (p := 101) rfl ?_); (try (rw [drewN_self wr]; generalize hq_ : World.drewN wr _ = wr; have n0_ := Aside0.mk (Kd.R_at hq_ HO_9.out); have n1_ := Aside0.mk (Kd.R_at hq_ HO_10.out); have n2_ := Aside0.mk (Kd.R_at hq_ HO_11.out); have n3_ := Aside0.mk (below_at hq_ HB.out); clear hq_ HO_9 HO_10 HO_11 HB; have HO_9 := n0_; have HO_10 := n1_; have HO_11 := n2_; have HB := n3_; clear n0_ n1_ n2_ n3_; (try (obtain ⟨hx37_0, hf37_0⟩ := Kd.R_celln 0 HO_11.out ((ji34) : Int) (of_eq_true p37) (of_eq_true q37))); (try (have HP39 := Kd.R_putg HO_11.out ((ji34) : Int) (IntKind.u64.wrap ((rd x11_3 (ji34)) + x13_3)))))); refine store_event (t := 22) (p := 101) (v := ?vo_w40) (w1 := (wr.setCell ⟨go37, ((ji34) : Int).toNat, none⟩ (.int .u64 (IntKind.u64.wrap ((rd x11_3 (ji34)) + x13_3))))) ?hg ?ho ?hn ?hr ?_; (case ho => rfl); (case hg => rfl); (case hn => rfl); (case hr => first | (go_simp; done) | (go_simp; rfl)); intro w40 hw; have hg : wr.grownBy w40 (some go37) := (by rw [hw]; exact HP39.2); have hp_ : Kd.R (Kd.int .u64) 22 w40 w.heap.size (fun k_ => some k_ ≠ (.slice Ao18 t342.length co18 : Value).ownBlock ∧ some k_ ≠ (.slice Ao19 t345.length co19 : Value).ownBlock) (.slice (some ⟨go37, 0, none⟩) x11_3.length co38) y357 := (by rw [hw, Ny357.out]; exact HP39.1); clear HP39; have n0_ := Aside0.mk (Kd.R_after (v := (.slice (some ⟨go37, 0, none⟩) x11_3.length co38)) (v1 := (.slice (some ⟨go37, 0, none⟩) x11_3.length co38)) (ok := (fun k_ => some k_ ≠ (.slice Ao19 t345.length co19 : Value).ownBlock)) (by (with_reducible repeat (first | apply Kd.R_alloc | apply Kd.R_drewN | apply Kd.R_drew)); exact HO_9.out) hg (.inl rfl)); have n1_ := Aside0.mk (Kd.R_after (v := (.slice (some ⟨go37, 0, none⟩) x11_3.length co38)) (v1 := (.slice (some ⟨go37, 0, none⟩) x11_3.length co38)) (ok := (fun k_ => some k_ ≠ (.slice Ao18 t342.length co18 : Value).ownBlock)) (by (with_reducible repeat (first | apply Kd.R_alloc | apply Kd.R_drewN | apply Kd.R_drew)); exact HO_10.out) hg (.inl rfl)); have n2_ := Aside0.mk (hp_); have n3_ := Aside0.mk ((by rw [hw]; exact below_set (HB.out) GB37.out : Below w.heap.size w w40)); clear HO_9; clear HO_10; clear HO_11; clear HB; have HO_9 := n0_; have HO_10 := n1_; have HO_11 := n2_; have HB := n3_; clear n0_ n1_ n2_ n3_; clear hg hw hp_)))
                            go_roundg k3
                            case measure => have := HJ4.out; have := HK2.out; have := HK3.out; omega
                            case rel => exact ⟨(y357), (wrap64 (x12_2 + 1)), (by first | rfl | (simp; done) | (simp [*]; done)), H', ⟨by have := HJ4.out; have := HK2.out; have := HK3.out; omega⟩, ⟨by (with_reducible repeat (first | apply Kd.R_alloc | apply Kd.R_drewN | apply Kd.R_drew)); exact HO_9.out⟩, ⟨by (with_reducible repeat (first | apply Kd.R_alloc | apply Kd.R_drewN | apply Kd.R_drew)); exact HO_10.out⟩, ⟨by (with_reducible repeat (first | apply Kd.R_alloc | apply Kd.R_drewN | apply Kd.R_drew)); exact HO_11.out⟩, ⟨bq⟩⟩
                          · rw [if_neg c36] at H
                            exact absurd H (by simp)
                        · rw [if_neg c35] at H
                          exact absurd H (by simp)
                · rw [if_neg c22] at H
                  have c22b0 : decide (x12_2 < (t342.length : Int)) = false := decide_eq_false c22
                  clear c22
                  replace H := Option.bind_eq_some_iff.mp H
                  obtain ⟨t351, A410, H⟩ := H
                  replace H : (some t351) = some r := H
                  have A41 := Aside0.mk A410
                  clear A410
                  obtain rfl := Option.some.inj H
                  obtain ⟨Ao42, co42, eo42⟩ := Kd.R_slice HO_11.out
                  subst eo42
                  go_wp2_with (first | (go_at_call 53; (with_reducible refine (schismaref01_join.calls k2 _ _ x11_2 t351 _ ?side1 ?side2 A41.out).mono ?_); (case side1 => repeat (first | exact (Kd.R_reads' HO_11.out).2.2 | (with_reducible refine Kd.C_alloc ?_ _) | (with_reducible refine Kd.C_drewN ?_ _) | (with_reducible refine Kd.C_drew ?_))); (case side2 => exact (Kd.R_reads' HO_11.out).2.1); rintro e w43 ⟨rfl, hb⟩; have n0_ := Aside0.mk (Kd.R_below (by (with_reducible repeat (first | apply Kd.R_alloc | apply Kd.R_drewN | apply Kd.R_drew)); exact HO_9.out) hb); have n1_ := Aside0.mk (Kd.R_below (by (with_reducible repeat (first | apply Kd.R_alloc | apply Kd.R_drewN | apply Kd.R_drew)); exact HO_10.out) hb); have n2_ := Aside0.mk (Kd.R_below (by (with_reducible repeat (first | apply Kd.R_alloc | apply Kd.R_drewN | apply Kd.R_drew)); exact HO_11.out) hb); have n3_ := Aside0.mk (below_step bq hb); clear HO_9; clear HO_10; clear HO_11; clear HB; have HO_9 := n0_; have HO_10 := n1_; have HO_11 := n2_; have HB := n3_; clear n0_ n1_ n2_ n3_; (try clear hb); (try clear hb2); (try clear hk); (try clear hi)))
                  repeat (go_quiet (first | (go_at_call 53; (with_reducible refine (schismaref01_join.calls k2 _ _ x11_2 t351 _ ?side1 ?side2 A41.out).mono ?_); (case side1 => repeat (first | exact (Kd.R_reads' HO_11.out).2.2 | (with_reducible refine Kd.C_alloc ?_ _) | (with_reducible refine Kd.C_drewN ?_ _) | (with_reducible refine Kd.C_drew ?_))); (case side2 => exact (Kd.R_reads' HO_11.out).2.1); rintro e w43 ⟨rfl, hb⟩; have n0_ := Aside0.mk (Kd.R_below (by (with_reducible repeat (first | apply Kd.R_alloc | apply Kd.R_drewN | apply Kd.R_drew)); exact HO_9.out) hb); have n1_ := Aside0.mk (Kd.R_below (by (with_reducible repeat (first | apply Kd.R_alloc | apply Kd.R_drewN | apply Kd.R_drew)); exact HO_10.out) hb); have n2_ := Aside0.mk (Kd.R_below (by (with_reducible repeat (first | apply Kd.R_alloc | apply Kd.R_drewN | apply Kd.R_drew)); exact HO_11.out) hb); have n3_ := Aside0.mk (below_step bq hb); clear HO_9; clear HO_10; clear HO_11; clear HB; have HO_9 := n0_; have HO_10 := n1_; have HO_11 := n2_; have HB := n3_; clear n0_ n1_ n2_ n3_; (try clear hb); (try clear hb2); (try clear hk); (try clear hi))); try go_wp2_with (first | (go_at_call 53; (with_reducible refine (schismaref01_join.calls k2 _ _ x11_2 t351 _ ?side1 ?side2 A41.out).mono ?_); (case side1 => repeat (first | exact (Kd.R_reads' HO_11.out).2.2 | (with_reducible refine Kd.C_alloc ?_ _) | (with_reducible refine Kd.C_drewN ?_ _) | (with_reducible refine Kd.C_drew ?_))); (case side2 => exact (Kd.R_reads' HO_11.out).2.1); rintro e w43 ⟨rfl, hb⟩; have n0_ := Aside0.mk (Kd.R_below (by (with_reducible repeat (first | apply Kd.R_alloc | apply Kd.R_drewN | apply Kd.R_drew)); exact HO_9.out) hb); have n1_ := Aside0.mk (Kd.R_below (by (with_reducible repeat (first | apply Kd.R_alloc | apply Kd.R_drewN | apply Kd.R_drew)); exact HO_10.out) hb); have n2_ := Aside0.mk (Kd.R_below (by (with_reducible repeat (first | apply Kd.R_alloc | apply Kd.R_drewN | apply Kd.R_drew)); exact HO_11.out) hb); have n3_ := Aside0.mk (below_step bq hb); clear HO_9; clear HO_10; clear HO_11; clear HB; have HO_9 := n0_; have HO_10 := n1_; have HO_11 := n2_; have HB := n3_; clear n0_ n1_ n2_ n3_; (try clear hb); (try clear hb2); (try clear hk); (try clear hi))))
                  go_ret
                  exact ⟨by first | rfl | (simp [errW_none, errW_some] <;> rfl) | (simp only [← hji13]; first | rfl | (simp [errW_none, errW_some] <;> rfl)) | (simp [*, errW_none, errW_some] <;> rfl), bq⟩
          · rw [if_neg c15] at H
            exact absurd H (by simp)
        · rw [if_neg c14] at H
          exact absurd H (by simp)
mutual
def schismaref01_Minus.j0 : Nat → ByteArray → ByteArray → Int → Int → Bool → Option (ByteArray)
  | 0, _, _, _, _, _ => none
  | k + 1, x0, x1, x5, x7, x27 => if x27 = true then ((schismaref01_Of.f (IntKind.u64.wrap (x5 - x7))).bind fun t399 => (some t399)) else (if 0 ≤ (x0.size : Int) then (if ((x0.size : Int) : Int).toNat ≤ 281474976710656 then (schismaref01_Minus.l0 k x0 x1 (x0.size : Int) (List.replicate ((x0.size : Int) : Int).toNat 0) 0 0) else (none)) else (none))
def schismaref01_Minus.l0 : Nat → ByteArray → ByteArray → Int → List Int → Int → Int → Option (ByteArray)
  | 0, _, _, _, _, _, _ => none
  | k + 1, x0, x1, x9, x10, x11, x12 => if x12 < x9 then ((schismaref01_digit.f x0 x12).bind fun t404 => ((schismaref01_digit.f x1 x12).bind fun t405 => (if (wrap64 ((wrap64 (t404 - t405)) - x11)) < 0 then (if 0 ≤ (wrap64 ((wrap64 (x9 - 1)) - x12)) then (if (wrap64 ((wrap64 (x9 - 1)) - x12)) < (x10.length : Int) then (schismaref01_Minus.l0 k x0 x1 x9 (x10.set ((wrap64 ((wrap64 (x9 - 1)) - x12)) : Int).toNat ((wrap64 (48 + (wrap64 ((wrap64 ((wrap64 (t404 - t405)) - x11)) + 10)))) % 256)) 1 (wrap64 (x12 + 1))) else (none)) else (none)) else (if 0 ≤ (wrap64 ((wrap64 (x9 - 1)) - x12)) then (if (wrap64 ((wrap64 (x9 - 1)) - x12)) < (x10.length : Int) then (schismaref01_Minus.l0 k x0 x1 x9 (x10.set ((wrap64 ((wrap64 (x9 - 1)) - x12)) : Int).toNat ((wrap64 (48 + (wrap64 ((wrap64 (t404 - t405)) - x11)))) % 256)) 0 (wrap64 (x12 + 1))) else (none)) else (none))))) else ((schismaref01_trim.f k x10).bind fun t403 => (some t403))
end
def schismaref01_Minus.f (k : Nat) (a0 : ByteArray) (a1 : ByteArray) : Option (ByteArray) := (schismaref01_quick.f k a0).bind fun bt395 => ((schismaref01_quick.f k a1).bind fun bt397 => (if bt395.2 = true then (schismaref01_Minus.j0 k a0 a1 bt395.1 bt397.1 bt397.2) else (schismaref01_Minus.j0 k a0 a1 bt395.1 bt397.1 false)))
theorem schismaref01_Minus.mono_l : ∀ k, (∀ y0 y1 y2 y3 y4, LeO (schismaref01_Minus.j0 k y0 y1 y2 y3 y4) (schismaref01_Minus.j0 (k + 1) y0 y1 y2 y3 y4)) ∧ (∀ y0 y1 y2 y3 y4 y5, LeO (schismaref01_Minus.l0 k y0 y1 y2 y3 y4 y5) (schismaref01_Minus.l0 (k + 1) y0 y1 y2 y3 y4 y5))
  | 0 => ⟨fun _ _ _ _ _ r h => by simp [schismaref01_Minus.j0] at h, fun _ _ _ _ _ _ r h => by simp [schismaref01_Minus.l0] at h⟩
  | k + 1 => by
    obtain ⟨ih0, ih1⟩ := schismaref01_Minus.mono_l k
    refine ⟨?_, ?_⟩
    · intro y0 y1 y2 y3 y4
      unfold schismaref01_Minus.j0
      repeat' first
      | (with_reducible exact ih0 _ _ _ _ _)
      | (with_reducible exact ih1 _ _ _ _ _ _)
      | (with_reducible exact schismaref01_quick.mono _ _)
      | (with_reducible exact schismaref01_trim.mono _ _)
      | (with_reducible exact LeO.refl _)
      | (with_reducible exact LeO.none _)
      | (with_reducible refine LeO.ite ?_ ?_)
      | (with_reducible refine LeO.bind ?_ (fun _ => ?_))
      | exact ih0 _ _ _ _ _
      | exact ih1 _ _ _ _ _ _
      | exact schismaref01_quick.mono _ _
      | exact schismaref01_trim.mono _ _
      | exact LeO.none _
      | refine LeO.ite ?_ ?_
      | refine LeO.bind ?_ (fun _ => ?_)
    · intro y0 y1 y2 y3 y4 y5
      unfold schismaref01_Minus.l0
      repeat' first
      | (with_reducible exact ih0 _ _ _ _ _)
      | (with_reducible exact ih1 _ _ _ _ _ _)
      | (with_reducible exact schismaref01_quick.mono _ _)
      | (with_reducible exact schismaref01_trim.mono _ _)
      | (with_reducible exact LeO.refl _)
      | (with_reducible exact LeO.none _)
      | (with_reducible refine LeO.ite ?_ ?_)
      | (with_reducible refine LeO.bind ?_ (fun _ => ?_))
      | exact ih0 _ _ _ _ _
      | exact ih1 _ _ _ _ _ _
      | exact schismaref01_quick.mono _ _
      | exact schismaref01_trim.mono _ _
      | exact LeO.none _
      | refine LeO.ite ?_ ?_
      | refine LeO.bind ?_ (fun _ => ?_)
theorem schismaref01_Minus.mono : ∀ a0 a1 k, LeO (schismaref01_Minus.f k a0 a1) (schismaref01_Minus.f (k + 1) a0 a1) := by
  intro a0 a1 k
  obtain ⟨ih0, ih1⟩ := schismaref01_Minus.mono_l k
  unfold schismaref01_Minus.f
  repeat' first
      | (with_reducible exact ih0 _ _ _ _ _)
      | (with_reducible exact ih1 _ _ _ _ _ _)
      | (with_reducible exact schismaref01_quick.mono _ _)
      | (with_reducible exact schismaref01_trim.mono _ _)
      | (with_reducible exact LeO.refl _)
      | (with_reducible exact LeO.none _)
      | (with_reducible refine LeO.ite ?_ ?_)
      | (with_reducible refine LeO.bind ?_ (fun _ => ?_))
      | exact ih0 _ _ _ _ _
      | exact ih1 _ _ _ _ _ _
      | exact schismaref01_quick.mono _ _
      | exact schismaref01_trim.mono _ _
      | exact LeO.none _
      | refine LeO.ite ?_ ?_
      | refine LeO.bind ?_ (fun _ => ?_)
set_option maxHeartbeats 8000000 in
set_option maxRecDepth 100000 in
theorem schismaref01_Minus.calls (k : Nat) (a0 : ByteArray) (a1 : ByteArray) (r : ByteArray) (w : World) (h : schismaref01_Minus.f k a0 a1 = some r) :
    Calls Tryd.prog 40 #[.string a0, .string a1] w fun e w' => e = .returned (.string r) ∧ Below w.heap.size w w' := by
  have HB := Aside0.mk (Below.refl w.heap.size w)
  have H : ((schismaref01_quick.f k a0).bind fun bt395 => ((schismaref01_quick.f k a1).bind fun bt397 => (if bt395.2 = true then (schismaref01_Minus.j0 k a0 a1 bt395.1 bt397.1 bt397.2) else (schismaref01_Minus.j0 k a0 a1 bt395.1 bt397.1 false)))) = some r := h
  clear h
  replace H := Option.bind_eq_some_iff.mp H
  obtain ⟨⟨t395, t396⟩, A30, H⟩ := H
  replace H : ((schismaref01_quick.f k a1).bind fun bt397 => (if t396 = true then (schismaref01_Minus.j0 k a0 a1 t395 bt397.1 bt397.2) else (schismaref01_Minus.j0 k a0 a1 t395 bt397.1 false))) = some r := H
  have A3 := Aside0.mk A30
  clear A30
  replace H := Option.bind_eq_some_iff.mp H
  obtain ⟨⟨t397, t398⟩, A40, H⟩ := H
  replace H : (if t396 = true then (schismaref01_Minus.j0 k a0 a1 t395 t397 t398) else (schismaref01_Minus.j0 k a0 a1 t395 t397 false)) = some r := H
  have A4 := Aside0.mk A40
  clear A40
  have HC5 := Aside0.mk H
  clear H
  go_enter Tryd.func40, Tryd.ntmps40
  go_upto_region 3 with (first | ((with_reducible refine gate_callee (f := 43) rfl ?_); refine goesL_ (some 16) rfl rfl Tryd.func43 (by kernel_rfl) rfl #[.string a0] rfl mq ?_; (with_reducible refine (schismaref01_quick.calls k a0 t395 t396 _ A3.out).mono ?_); rintro e w' ⟨rfl, ⟨nd, rfl⟩⟩; refine ⟨_, rfl, ?_⟩) | ((with_reducible refine gate_callee (f := 43) rfl ?_); refine goesL_ (some 21) rfl rfl Tryd.func43 (by kernel_rfl) rfl #[.string a1] rfl mq ?_; (with_reducible refine (schismaref01_quick.calls k a1 t397 t398 _ A4.out).mono ?_); rintro e w' ⟨rfl, ⟨nd, rfl⟩⟩; refine ⟨_, rfl, ?_⟩))
  (try simp only [Act.put, List.setIfInBounds_toArray, List.set_cons_zero, List.set_cons_succ])
  go_cut [27] (fun v27 wc => ∃ (kq : Nat) (x27_4 : Bool), v27 = .bool x27_4 ∧ Aside0 (schismaref01_Minus.j0 kq a0 a1 t395 t397 x27_4 = some r) ∧ Aside0 (kq ≤ k) ∧ Aside0 (Below w.heap.size w wc))
  case first =>
    have H := HC5.out
    clear HC5
    by_cases c6 : t396 = true
    · subst c6
      have H1 : (schismaref01_Minus.j0 k a0 a1 t395 t397 t398) = some r := by rw [if_pos rfl] at H; exact H
      clear H
      have H := H1
      clear H1
      have H' := Aside0.mk H
      clear H
      go_wp2
      go_meet
      case rel => exact ⟨_, (t398), (by first | rfl | (simp; done) | (simp [*]; done)), H', ⟨by first | omega | exact Nat.le_refl _⟩, ⟨bq⟩⟩
    · replace c6 := Bool.eq_false_iff.mpr c6
      subst c6
      have H1 : (schismaref01_Minus.j0 k a0 a1 t395 t397 false) = some r := by rw [if_neg (show ¬ (false = true) by decide)] at H; exact H
      clear H
      have H := H1
      clear H1
      have H' := Aside0.mk H
      clear H
      go_wp2
      go_meet
      case rel => exact ⟨_, (false), (by first | rfl | (simp; done) | (simp [*]; done)), H', ⟨by first | omega | exact Nat.le_refl _⟩, ⟨bq⟩⟩
  case rest =>
    clear HC5
    try clear p2
    try clear c4
    try clear c6
    obtain ⟨kq, x27_4, rfl, HA, HJ4, HB⟩ := hcut
    cases kq with
    | zero => exact absurd HA.out (by simp [schismaref01_Minus.j0])
    | succ kj4 =>
      have H := HA.out
      clear HA
      simp only [schismaref01_Minus.j0] at H
      by_cases c7 : x27_4 = true
      · subst c7
        have H1 : ((schismaref01_Of.f (IntKind.u64.wrap (t395 - t397))).bind fun t399 => (some t399)) = some r := by rw [if_pos rfl] at H; exact H
        clear H
        have H := H1
        clear H1
        replace H := Option.bind_eq_some_iff.mp H
        obtain ⟨t399, A80, H⟩ := H
        replace H : (some t399) = some r := H
        have A8 := Aside0.mk A80
        clear A80
        obtain rfl := Option.some.inj H
        go_wp2_with (first | ((with_reducible refine gate_callee (f := 18) rfl ?_); refine goesL_ (some 31) rfl rfl Tryd.func18 (by kernel_rfl) rfl #[.int .u64 (IntKind.u64.wrap (t395 - t397))] rfl mq ?_; (with_reducible refine (schismaref01_Of.calls (IntKind.u64.wrap (t395 - t397)) t399 _ A8.out).mono ?_); rintro e w9 ⟨rfl, hb⟩; refine ⟨_, rfl, ?_⟩; replace HB := Aside0.mk (below_step bq hb); (try clear hb); (try clear hb2); (try clear hk); (try clear hi)))
        go_ret
        exact ⟨eq_, bq⟩
      · replace c7 := Bool.eq_false_iff.mpr c7
        subst c7
        have H1 : (if 0 ≤ (a0.size : Int) then (if ((a0.size : Int) : Int).toNat ≤ 281474976710656 then (schismaref01_Minus.l0 kj4 a0 a1 (a0.size : Int) (List.replicate ((a0.size : Int) : Int).toNat 0) 0 0) else (none)) else (none)) = some r := by rw [if_neg (show ¬ (false = true) by decide)] at H; exact H
        clear H
        have H := H1
        clear H1
        by_cases c10 : 0 ≤ (a0.size : Int)
        · rw [if_pos c10] at H
          have c10b0 := eq_true c10
          have c10b1 : decide (0 ≤ (a0.size : Int)) = true := decide_eq_true c10
          clear c10
          by_cases c11 : ((a0.size : Int) : Int).toNat ≤ 281474976710656
          · rw [if_pos c11] at H
            have c11b0 := eq_true c11
            have c11b1 : decide (((a0.size : Int) : Int).toNat ≤ 281474976710656) = true := decide_eq_true c11
            clear c11
            obtain ⟨y400, hy400⟩ : ∃ y_ : List Int, y_ = (List.replicate ((a0.size : Int) : Int).toNat 0) := ⟨_, rfl⟩
            replace H : (schismaref01_Minus.l0 kj4 a0 a1 (a0.size : Int) y400 0 0) = some r := by first | (rw [hy400]; with_reducible exact H) | (have H2_ := (Option.bind_some _ _).symm.trans H; rw [hy400]; with_reducible exact H2_) | (have H2_ := (Option.bind_some _ _).symm.trans H; with_reducible exact H2_) | with_reducible exact H | (rw [hy400]; exact H) | exact H
            have Ny400 := Aside0.mk hy400
            clear hy400
            have H' := Aside0.mk H
            clear H
            go_wp2_with (first | ((with_reducible refine gate_dst (N := 35) rfl ?_); refine Kd.R_make (Kd.int .u8) _ 5 rfl (N := 35) rfl 23 _ _ rfl (a0.size : Int) rfl rfl Tryd.underlying23 (.int .u8 0) 1 info5 rfl (by decide) (by omega) 0 (ok := fun _ => True) (okp := fun _ => True) rfl (fun _ hk => hk) trivial (of_decide_eq_true (by first | (with_reducible assumption) | assumption)) (Nat.le_trans (Nat.mul_le_mul_right _ (of_decide_eq_true (by first | (with_reducible assumption) | assumption) : (a0.size : Int).toNat ≤ 281474976710656)) (by omega)) (Below.refl _ _) (Nat.le_refl _) ?_; intro v401 w12 ho13 hb hg_ hnew_; clear hg_ hnew_; (first | rw [← Ny400.out] at ho13 | (simp only [Int.reduceToNat] at ho13; rw [← Ny400.out] at ho13)); have n0_ := Aside0.mk (Kd.R_lower ho13 (below_size bq)); have n1_ := Aside0.mk (below_step bq hb); clear HB; have HO402 := n0_; have HB := n1_; clear n0_ n1_; clear hb ho13))
            go_loopg [11, 12] kj4 (fun kq v11 v12 w' => ∃ (x10_2 : List Int) (x11_2 : Int) (x12_2 : Int), v11 = .int .i64 x11_2 ∧ v12 = .int .i64 x12_2 ∧ Aside0 (schismaref01_Minus.l0 kq a0 a1 (a0.size : Int) x10_2 x11_2 x12_2 = some r) ∧ Aside0 (kq ≤ kj4) ∧ Aside0 (Kd.R (Kd.int .u8) 5 w' w.heap.size (fun _ => True) v401 x10_2) ∧ Aside0 (Below w.heap.size w w'))
            case atStart => exact ⟨(y400), (0), (0), (by first | rfl | (simp; done) | (simp [*]; done)), (by first | rfl | (simp; done) | (simp [*]; done)), H', ⟨Nat.le_refl _⟩, ⟨by (with_reducible repeat (first | apply Kd.R_alloc | apply Kd.R_drewN | apply Kd.R_drew)); exact HO402.out⟩, ⟨bq⟩⟩
            case round =>
              clear H'
              try clear c1
              try clear p2
              try clear c4
              try clear c6
              try clear c7
              try clear c10
              try clear c10b0
              try clear c10b1
              try clear c11
              try clear c11b0
              try clear c11b1
              try clear p2
              obtain ⟨x10_2, x11_2, x12_2, rfl, rfl, HA, HK2, HO_10, HB⟩ := hrel
              cases gk with
              | zero => exact absurd HA.out (by simp [schismaref01_Minus.l0])
              | succ k2 =>
                have H := HA.out
                clear HA
                simp only [schismaref01_Minus.l0] at H
                by_cases c14 : x12_2 < (a0.size : Int)
                · rw [if_pos c14] at H
                  have c14b0 : decide (x12_2 < (a0.size : Int)) = true := decide_eq_true c14
                  clear c14
                  replace H := Option.bind_eq_some_iff.mp H
                  obtain ⟨t404, A150, H⟩ := H
                  replace H : ((schismaref01_digit.f a1 x12_2).bind fun t405 => (if (wrap64 ((wrap64 (t404 - t405)) - x11_2)) < 0 then (if 0 ≤ (wrap64 ((wrap64 ((a0.size : Int) - 1)) - x12_2)) then (if (wrap64 ((wrap64 ((a0.size : Int) - 1)) - x12_2)) < (x10_2.length : Int) then (schismaref01_Minus.l0 k2 a0 a1 (a0.size : Int) (x10_2.set ((wrap64 ((wrap64 ((a0.size : Int) - 1)) - x12_2)) : Int).toNat ((wrap64 (48 + (wrap64 ((wrap64 ((wrap64 (t404 - t405)) - x11_2)) + 10)))) % 256)) 1 (wrap64 (x12_2 + 1))) else (none)) else (none)) else (if 0 ≤ (wrap64 ((wrap64 ((a0.size : Int) - 1)) - x12_2)) then (if (wrap64 ((wrap64 ((a0.size : Int) - 1)) - x12_2)) < (x10_2.length : Int) then (schismaref01_Minus.l0 k2 a0 a1 (a0.size : Int) (x10_2.set ((wrap64 ((wrap64 ((a0.size : Int) - 1)) - x12_2)) : Int).toNat ((wrap64 (48 + (wrap64 ((wrap64 (t404 - t405)) - x11_2)))) % 256)) 0 (wrap64 (x12_2 + 1))) else (none)) else (none)))) = some r := H
                  have A15 := Aside0.mk A150
                  clear A150
                  replace H := Option.bind_eq_some_iff.mp H
                  obtain ⟨t405, A160, H⟩ := H
                  replace H : (if (wrap64 ((wrap64 (t404 - t405)) - x11_2)) < 0 then (if 0 ≤ (wrap64 ((wrap64 ((a0.size : Int) - 1)) - x12_2)) then (if (wrap64 ((wrap64 ((a0.size : Int) - 1)) - x12_2)) < (x10_2.length : Int) then (schismaref01_Minus.l0 k2 a0 a1 (a0.size : Int) (x10_2.set ((wrap64 ((wrap64 ((a0.size : Int) - 1)) - x12_2)) : Int).toNat ((wrap64 (48 + (wrap64 ((wrap64 ((wrap64 (t404 - t405)) - x11_2)) + 10)))) % 256)) 1 (wrap64 (x12_2 + 1))) else (none)) else (none)) else (if 0 ≤ (wrap64 ((wrap64 ((a0.size : Int) - 1)) - x12_2)) then (if (wrap64 ((wrap64 ((a0.size : Int) - 1)) - x12_2)) < (x10_2.length : Int) then (schismaref01_Minus.l0 k2 a0 a1 (a0.size : Int) (x10_2.set ((wrap64 ((wrap64 ((a0.size : Int) - 1)) - x12_2)) : Int).toNat ((wrap64 (48 + (wrap64 ((wrap64 (t404 - t405)) - x11_2)))) % 256)) 0 (wrap64 (x12_2 + 1))) else (none)) else (none))) = some r := H
                  have A16 := Aside0.mk A160
                  clear A160
                  by_cases c17 : (wrap64 ((wrap64 (t404 - t405)) - x11_2)) < 0
                  · rw [if_pos c17] at H
                    have c17b0 : decide ((wrap64 ((wrap64 (t404 - t405)) - x11_2)) < 0) = true := decide_eq_true c17
                    clear c17
                    obtain ⟨ji18, hji18⟩ : ∃ j_ : Int, (wrap64 ((wrap64 ((a0.size : Int) - 1)) - x12_2)) = j_ := ⟨_, rfl⟩
                    replace H : (if 0 ≤ (ji18) then (if (ji18) < (x10_2.length : Int) then (schismaref01_Minus.l0 k2 a0 a1 (a0.size : Int) (x10_2.set ((ji18) : Int).toNat ((wrap64 (48 + (wrap64 ((wrap64 ((wrap64 (t404 - t405)) - x11_2)) + 10)))) % 256)) 1 (wrap64 (x12_2 + 1))) else (none)) else (none)) = some r := by first | (rw [hji18] at H; exact H) | (simp only [hji18] at H ⊢; exact H)
                    (try rw [hji18] at A15)
                    (try rw [hji18] at A16)
                    have hji18w : (IntKind.i64.wrap ((wrap64 ((a0.size : Int) - 1)) - x12_2)) = ji18 := (i64_w _).trans hji18
                    by_cases c19 : 0 ≤ (ji18)
                    · rw [if_pos c19] at H
                      have c19b0 : decide (0 ≤ (ji18)) = true := decide_eq_true c19
                      clear c19
                      by_cases c20 : (ji18) < (x10_2.length : Int)
                      · rw [if_pos c20] at H
                        have c20b0 : decide ((ji18) < (x10_2.length : Int)) = true := decide_eq_true c20
                        clear c20
                        obtain ⟨y406, hy406⟩ : ∃ y_ : List Int, y_ = (x10_2.set ((ji18) : Int).toNat ((wrap64 (48 + (wrap64 ((wrap64 ((wrap64 (t404 - t405)) - x11_2)) + 10)))) % 256)) := ⟨_, rfl⟩
                        replace H : (schismaref01_Minus.l0 k2 a0 a1 (a0.size : Int) y406 1 (wrap64 (x12_2 + 1))) = some r := by first | (rw [hy406]; with_reducible exact H) | (have H2_ := (Option.bind_some _ _).symm.trans H; rw [hy406]; with_reducible exact H2_) | (have H2_ := (Option.bind_some _ _).symm.trans H; with_reducible exact H2_) | with_reducible exact H | (rw [hy406]; exact H) | exact H
                        have Ny406 := Aside0.mk hy406
                        clear hy406
                        have H' := Aside0.mk H
                        clear H
                        go_wp2_with (first | ((with_reducible refine gate_callee (f := 50) rfl ?_); refine goesL_ (some 43) rfl rfl Tryd.func50 (by kernel_rfl) rfl #[.string a0, .int .i64 x12_2] rfl mq ?_; (with_reducible refine (schismaref01_digit.calls a0 x12_2 t404 _ A15.out).mono ?_); rintro e w' ⟨rfl, ⟨nd, rfl⟩⟩; refine ⟨_, rfl, ?_⟩; (try (rw [drewN_self wr]; generalize hq_ : World.drewN wr _ = wr; have n0_ : Aside0 (Kd.R (Kd.int .u8) 5 wr w.heap.size (fun _ => True) v401 x10_2) := ⟨by rw [← hq_]; exact (by (with_reducible repeat (first | apply Kd.R_alloc | apply Kd.R_drewN | apply Kd.R_drew)); exact HO_10.out)⟩; have n1_ : Aside0 (Below w.heap.size w wr) := ⟨by rw [← hq_]; exact bq⟩; clear HO_10 HB hq_; have HO_10 := n0_; have HB := n1_; clear n0_ n1_))) | ((with_reducible refine gate_callee (f := 50) rfl ?_); refine goesL_ (some 46) rfl rfl Tryd.func50 (by kernel_rfl) rfl #[.string a1, .int .i64 x12_2] rfl mq ?_; (with_reducible refine (schismaref01_digit.calls a1 x12_2 t405 _ A16.out).mono ?_); rintro e w' ⟨rfl, ⟨nd, rfl⟩⟩; refine ⟨_, rfl, ?_⟩; (try (rw [drewN_self wr]; generalize hq_ : World.drewN wr _ = wr; have n0_ : Aside0 (Kd.R (Kd.int .u8) 5 wr w.heap.size (fun _ => True) v401 x10_2) := ⟨by rw [← hq_]; exact (by (with_reducible repeat (first | apply Kd.R_alloc | apply Kd.R_drewN | apply Kd.R_drew)); exact HO_10.out)⟩; have n1_ : Aside0 (Below w.heap.size w wr) := ⟨by rw [← hq_]; exact bq⟩; clear HO_10 HB hq_; have HO_10 := n0_; have HB := n1_; clear n0_ n1_)); have p21 : 0 ≤ ((ji18) : Int) := of_decide_eq_true (by first | (with_reducible assumption) | assumption); have q21 : ((ji18) : Int) < ((x10_2.length : Int) : Int) := of_decide_eq_true (by first | (with_reducible assumption) | assumption); obtain ⟨go21, co21, eo21, gb21, gl21, cl21, HG21⟩ := Kd.R_form HO_10.out (by omega); (first | cases eo21 | (injection eo21 with ea_ en_ ec_; (first | subst ea_ | (injection ea_ with ea_; subst ea_)); subst ec_; clear en_)); have GB21 := Aside0.mk gb21; have GG21 := Aside0.mk HG21; clear gb21 gl21 HG21; obtain ⟨hx21_0, hf21_0⟩ := Kd.R_celln 0 HO_10.out ((ji18) : Int) p21 q21; replace p21 := eq_true p21; replace q21 := eq_true q21; obtain ⟨hy22_, hz22_⟩ := Kd.R_celln 0 HO_10.out ((ji18) : Int) (of_decide_eq_true (by first | (with_reducible assumption) | assumption)) (of_decide_eq_true (by first | (with_reducible assumption) | assumption)); have HP22 := Kd.R_putg HO_10.out ((ji18) : Int) ((wrap64 (48 + (wrap64 ((wrap64 ((wrap64 (t404 - t405)) - x11_2)) + 10)))) % 256)) | ((with_reducible refine gate_store (t := 5) (p := 62) rfl ?_); refine store_event (t := 5) (p := 62) (v := ?vo_w23) (w1 := (wr.setCell ⟨go21, ((ji18) : Int).toNat, none⟩ (.int .u8 ((wrap64 (48 + (wrap64 ((wrap64 ((wrap64 (t404 - t405)) - x11_2)) + 10)))) % 256)))) ?hg ?ho ?hn ?hr ?_; (case ho => rfl); (case hg => rfl); (case hn => rfl); (case hr => first | (go_simp; done) | (go_simp; rfl)); intro w23 hw; have hg : wr.grownBy w23 (some go21) := (by rw [hw]; exact HP22.2); have hp_ : Kd.R (Kd.int .u8) 5 w23 w.heap.size (fun _ => True) (.slice (some ⟨go21, 0, none⟩) x10_2.length co21) y406 := (by rw [hw, Ny406.out]; exact HP22.1); clear HP22; have n0_ := Aside0.mk (hp_); have n1_ := Aside0.mk ((by rw [hw]; exact below_set (HB.out) GB21.out : Below w.heap.size w w23)); clear HO_10; clear HB; have HO_10 := n0_; have HB := n1_; clear n0_ n1_; clear hg hw hp_))
                        go_roundg k2
                        case measure => have := HJ4.out; have := HK2.out; omega
                        case rel => exact ⟨(y406), (1), (wrap64 (x12_2 + 1)), (by first | rfl | (simp; done) | (simp [*]; done)), (by first | rfl | (simp; done) | (simp [*]; done)), H', ⟨by have := HJ4.out; have := HK2.out; omega⟩, ⟨by (with_reducible repeat (first | apply Kd.R_alloc | apply Kd.R_drewN | apply Kd.R_drew)); exact HO_10.out⟩, ⟨bq⟩⟩
                      · rw [if_neg c20] at H
                        exact absurd H (by simp)
                    · rw [if_neg c19] at H
                      exact absurd H (by simp)
                  · rw [if_neg c17] at H
                    have c17b0 : decide ((wrap64 ((wrap64 (t404 - t405)) - x11_2)) < 0) = false := decide_eq_false c17
                    clear c17
                    obtain ⟨ji24, hji24⟩ : ∃ j_ : Int, (wrap64 ((wrap64 ((a0.size : Int) - 1)) - x12_2)) = j_ := ⟨_, rfl⟩
                    replace H : (if 0 ≤ (ji24) then (if (ji24) < (x10_2.length : Int) then (schismaref01_Minus.l0 k2 a0 a1 (a0.size : Int) (x10_2.set ((ji24) : Int).toNat ((wrap64 (48 + (wrap64 ((wrap64 (t404 - t405)) - x11_2)))) % 256)) 0 (wrap64 (x12_2 + 1))) else (none)) else (none)) = some r := by first | (rw [hji24] at H; exact H) | (simp only [hji24] at H ⊢; exact H)
                    (try rw [hji24] at A15)
                    (try rw [hji24] at A16)
                    have hji24w : (IntKind.i64.wrap ((wrap64 ((a0.size : Int) - 1)) - x12_2)) = ji24 := (i64_w _).trans hji24
                    by_cases c25 : 0 ≤ (ji24)
                    · rw [if_pos c25] at H
                      have c25b0 : decide (0 ≤ (ji24)) = true := decide_eq_true c25
                      clear c25
                      by_cases c26 : (ji24) < (x10_2.length : Int)
                      · rw [if_pos c26] at H
                        have c26b0 : decide ((ji24) < (x10_2.length : Int)) = true := decide_eq_true c26
                        clear c26
                        obtain ⟨y407, hy407⟩ : ∃ y_ : List Int, y_ = (x10_2.set ((ji24) : Int).toNat ((wrap64 (48 + (wrap64 ((wrap64 (t404 - t405)) - x11_2)))) % 256)) := ⟨_, rfl⟩
                        replace H : (schismaref01_Minus.l0 k2 a0 a1 (a0.size : Int) y407 0 (wrap64 (x12_2 + 1))) = some r := by first | (rw [hy407]; with_reducible exact H) | (have H2_ := (Option.bind_some _ _).symm.trans H; rw [hy407]; with_reducible exact H2_) | (have H2_ := (Option.bind_some _ _).symm.trans H; with_reducible exact H2_) | with_reducible exact H | (rw [hy407]; exact H) | exact H
                        have Ny407 := Aside0.mk hy407
                        clear hy407
                        have H' := Aside0.mk H
                        clear H
                        go_wp2_with (first | ((with_reducible refine gate_callee (f := 50) rfl ?_); refine goesL_ (some 43) rfl rfl Tryd.func50 (by kernel_rfl) rfl #[.string a0, .int .i64 x12_2] rfl mq ?_; (with_reducible refine (schismaref01_digit.calls a0 x12_2 t404 _ A15.out).mono ?_); rintro e w' ⟨rfl, ⟨nd, rfl⟩⟩; refine ⟨_, rfl, ?_⟩; (try (rw [drewN_self wr]; generalize hq_ : World.drewN wr _ = wr; have n0_ : Aside0 (Kd.R (Kd.int .u8) 5 wr w.heap.size (fun _ => True) v401 x10_2) := ⟨by rw [← hq_]; exact (by (with_reducible repeat (first | apply Kd.R_alloc | apply Kd.R_drewN | apply Kd.R_drew)); exact HO_10.out)⟩; have n1_ : Aside0 (Below w.heap.size w wr) := ⟨by rw [← hq_]; exact bq⟩; clear HO_10 HB hq_; have HO_10 := n0_; have HB := n1_; clear n0_ n1_))) | ((with_reducible refine gate_callee (f := 50) rfl ?_); refine goesL_ (some 46) rfl rfl Tryd.func50 (by kernel_rfl) rfl #[.string a1, .int .i64 x12_2] rfl mq ?_; (with_reducible refine (schismaref01_digit.calls a1 x12_2 t405 _ A16.out).mono ?_); rintro e w' ⟨rfl, ⟨nd, rfl⟩⟩; refine ⟨_, rfl, ?_⟩; (try (rw [drewN_self wr]; generalize hq_ : World.drewN wr _ = wr; have n0_ : Aside0 (Kd.R (Kd.int .u8) 5 wr w.heap.size (fun _ => True) v401 x10_2) := ⟨by rw [← hq_]; exact (by (with_reducible repeat (first | apply Kd.R_alloc | apply Kd.R_drewN | apply Kd.R_drew)); exact HO_10.out)⟩; have n1_ : Aside0 (Below w.heap.size w wr) := ⟨by rw [← hq_]; exact bq⟩; clear HO_10 HB hq_; have HO_10 := n0_; have HB := n1_; clear n0_ n1_)); have p27 : 0 ≤ ((ji24) : Int) := of_decide_eq_true (by first | (with_reducible assumption) | assumption); have q27 : ((ji24) : Int) < ((x10_2.length : Int) : Int) := of_decide_eq_true (by first | (with_reducible assumption) | assumption); obtain ⟨go27, co27, eo27, gb27, gl27, cl27, HG27⟩ := Kd.R_form HO_10.out (by omega); (first | cases eo27 | (injection eo27 with ea_ en_ ec_; (first | subst ea_ | (injection ea_ with ea_; subst ea_)); subst ec_; clear en_)); have GB27 := Aside0.mk gb27; have GG27 := Aside0.mk HG27; clear gb27 gl27 HG27; obtain ⟨hx27_0, hf27_0⟩ := Kd.R_celln 0 HO_10.out ((ji24) : Int) p27 q27; replace p27 := eq_true p27; replace q27 := eq_true q27; obtain ⟨hy28_, hz28_⟩ := Kd.R_celln 0 HO_10.out ((ji24) : Int) (of_decide_eq_true (by first | (with_reducible assumption) | assumption)) (of_decide_eq_true (by first | (with_reducible assumption) | assumption)); have HP28 := Kd.R_putg HO_10.out ((ji24) : Int) ((wrap64 (48 + (wrap64 ((wrap64 (t404 - t405)) - x11_2)))) % 256)) | ((with_reducible refine gate_store (t := 5) (p := 62) rfl ?_); refine store_event (t := 5) (p := 62) (v := ?vo_w29) (w1 := (wr.setCell ⟨go27, ((ji24) : Int).toNat, none⟩ (.int .u8 ((wrap64 (48 + (wrap64 ((wrap64 (t404 - t405)) - x11_2)))) % 256)))) ?hg ?ho ?hn ?hr ?_; (case ho => rfl); (case hg => rfl); (case hn => rfl); (case hr => first | (go_simp; done) | (go_simp; rfl)); intro w29 hw; have hg : wr.grownBy w29 (some go27) := (by rw [hw]; exact HP28.2); have hp_ : Kd.R (Kd.int .u8) 5 w29 w.heap.size (fun _ => True) (.slice (some ⟨go27, 0, none⟩) x10_2.length co27) y407 := (by rw [hw, Ny407.out]; exact HP28.1); clear HP28; have n0_ := Aside0.mk (hp_); have n1_ := Aside0.mk ((by rw [hw]; exact below_set (HB.out) GB27.out : Below w.heap.size w w29)); clear HO_10; clear HB; have HO_10 := n0_; have HB := n1_; clear n0_ n1_; clear hg hw hp_))
                        go_roundg k2
                        case measure => have := HJ4.out; have := HK2.out; omega
                        case rel => exact ⟨(y407), (0), (wrap64 (x12_2 + 1)), (by first | rfl | (simp; done) | (simp [*]; done)), (by first | rfl | (simp; done) | (simp [*]; done)), H', ⟨by have := HJ4.out; have := HK2.out; omega⟩, ⟨by (with_reducible repeat (first | apply Kd.R_alloc | apply Kd.R_drewN | apply Kd.R_drew)); exact HO_10.out⟩, ⟨bq⟩⟩
                      · rw [if_neg c26] at H
                        exact absurd H (by simp)
                    · rw [if_neg c25] at H
                      exact absurd H (by simp)
                · rw [if_neg c14] at H
                  have c14b0 : decide (x12_2 < (a0.size : Int)) = false := decide_eq_false c14
                  clear c14
                  replace H := Option.bind_eq_some_iff.mp H
                  obtain ⟨t403, A300, H⟩ := H
                  replace H : (some t403) = some r := H
                  have A30 := Aside0.mk A300
                  clear A300
                  obtain rfl := Option.some.inj H
                  obtain ⟨Ao31, co31, eo31⟩ := Kd.R_slice HO_10.out
                  subst eo31
                  go_wp2_with (first | ((with_reducible refine gate_callee (f := 51) rfl ?_); refine goesL_ (some 64) rfl rfl Tryd.func51 (by kernel_rfl) rfl #[.slice Ao31 x10_2.length co31] rfl mq ?_; (with_reducible refine (schismaref01_trim.calls k2 _ _ x10_2 t403 _ ?side1 ?side2 A30.out).mono ?_); (case side1 => repeat (first | exact (Kd.R_reads' HO_10.out).2.2 | (with_reducible refine Kd.C_alloc ?_ _) | (with_reducible refine Kd.C_drewN ?_ _) | (with_reducible refine Kd.C_drew ?_))); (case side2 => exact (Kd.R_reads' HO_10.out).2.1); rintro e w' ⟨rfl, ⟨nd, rfl⟩⟩; refine ⟨_, rfl, ?_⟩))
                  go_ret
                  exact ⟨eq_, bq⟩
          · rw [if_neg c11] at H
            exact absurd H (by simp)
        · rw [if_neg c10] at H
          exact absurd H (by simp)
end Go.Proofs.YtcfddphiflmnlaaDoor.P
