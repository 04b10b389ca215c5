/- Functions of the program, as functions of Lean, and the walks that show that the code answers as they do: written by a program. Conditions: those of each theorem. -/
import Derived.Test.YtcfddphiflmnlaaDoorDecimalCommonF6
namespace Go.Proofs.YtcfddphiflmnlaaDoor.P
open Go.RowKit Go.Proofs.YtcfddphiflmnlaaDoorW.PrintWords Go.Proofs.YtcfddphiflmnlaaDoorW.PrintLast Go.Proofs.YtcfddphiflmnlaaDoorW.PrintMore
attribute [local go_sem] gtr_text max2_int min2_int max_two min_two max_three min_three max_four min_four
set_option linter.unusedVariables false
set_option linter.unusedSimpArgs false
mutual
def schismaref01_DivMod.j0 : Nat → ByteArray → ByteArray → Int → Int → Bool → Option (ByteArray × ByteArray)
  | 0, _, _, _, _, _ => none
  | k + 1, x0, x1, x6, x8, x26 => if x26 = true then (if x8 = 0 then (none) else ((schismaref01_Of.f (IntKind.u64.wrap (Int.tdiv x6 x8))).bind fun t412 => ((schismaref01_Of.f (Int.tmod x6 x8)).bind fun t413 => (some (t412, t413))))) else (if 0 ≤ (x0.size : Int) then (if ((x0.size : Int) : Int).toNat ≤ 281474976710656 then (schismaref01_DivMod.l0 k x0 x1 (⟨#[48]⟩ : ByteArray) (List.replicate ((x0.size : Int) : Int).toNat 0) 0) else (none)) else (none))
def schismaref01_DivMod.l0 : Nat → ByteArray → ByteArray → ByteArray → List Int → Int → Option (ByteArray × ByteArray)
  | 0, _, _, _, _, _ => none
  | k + 1, x0, x1, x5, x10, x11 => if x11 < (x0.size : Int) then (if x5.toList = ([48] : List UInt8) then (if 0 ≤ x11 then (if x11 ≤ (wrap64 (x11 + 1)) then (if (wrap64 (x11 + 1)) ≤ (x0.size : Int) then (schismaref01_DivMod.j2 k x0 x1 (x0.extract (x11 : Int).toNat ((wrap64 (x11 + 1)) : Int).toNat) x10 x11) else (none)) else (none)) else (none)) else (if 0 ≤ x11 then (if x11 ≤ (wrap64 (x11 + 1)) then (if (wrap64 (x11 + 1)) ≤ (x0.size : Int) then (if x5.size + (x0.extract (x11 : Int).toNat ((wrap64 (x11 + 1)) : Int).toNat).size ≤ 9223372036854775807 then (schismaref01_DivMod.j2 k x0 x1 (x5 ++ (x0.extract (x11 : Int).toNat ((wrap64 (x11 + 1)) : Int).toNat)) x10 x11) else (none)) else (none)) else (none)) else (none))) else ((schismaref01_trim.f k x10).bind fun t417 => (some (t417, x5)))
def schismaref01_DivMod.j2 : Nat → ByteArray → ByteArray → ByteArray → List Int → Int → Option (ByteArray × ByteArray)
  | 0, _, _, _, _, _ => none
  | k + 1, x0, x1, x5, x10, x11 => schismaref01_DivMod.l1 k x0 x1 x5 x10 x11 48
def schismaref01_DivMod.l1 : Nat → ByteArray → ByteArray → ByteArray → List Int → Int → Int → Option (ByteArray × ByteArray)
  | 0, _, _, _, _, _, _ => none
  | k + 1, x0, x1, x5, x10, x11, x12 => (schismaref01_Compare.f x5 x1).bind fun t418 => (if t418 ≥ 0 then ((schismaref01_Minus.f k x5 x1).bind fun t419 => (schismaref01_DivMod.l1 k x0 x1 t419 x10 x11 ((x12 + 1) % 256))) else (if 0 ≤ x11 then (if x11 < (x10.length : Int) then (schismaref01_DivMod.l0 k x0 x1 x5 (x10.set (x11 : Int).toNat x12) (wrap64 (x11 + 1))) else (none)) else (none)))
end
def schismaref01_DivMod.f (k : Nat) (a0 : ByteArray) (a1 : ByteArray) : Option (ByteArray × ByteArray) := (schismaref01_quick.f k a0).bind fun bt408 => ((schismaref01_quick.f k a1).bind fun bt410 => (if bt408.2 = true then (schismaref01_DivMod.j0 k a0 a1 bt408.1 bt410.1 bt410.2) else (schismaref01_DivMod.j0 k a0 a1 bt408.1 bt410.1 false)))
theorem schismaref01_DivMod.mono_l : ∀ k, (∀ y0 y1 y2 y3 y4, LeO (schismaref01_DivMod.j0 k y0 y1 y2 y3 y4) (schismaref01_DivMod.j0 (k + 1) y0 y1 y2 y3 y4)) ∧ (∀ y0 y1 y2 y3 y4, LeO (schismaref01_DivMod.l0 k y0 y1 y2 y3 y4) (schismaref01_DivMod.l0 (k + 1) y0 y1 y2 y3 y4)) ∧ (∀ y0 y1 y2 y3 y4, LeO (schismaref01_DivMod.j2 k y0 y1 y2 y3 y4) (schismaref01_DivMod.j2 (k + 1) y0 y1 y2 y3 y4)) ∧ (∀ y0 y1 y2 y3 y4 y5, LeO (schismaref01_DivMod.l1 k y0 y1 y2 y3 y4 y5) (schismaref01_DivMod.l1 (k + 1) y0 y1 y2 y3 y4 y5))
  | 0 => ⟨fun _ _ _ _ _ r h => by simp [schismaref01_DivMod.j0] at h, fun _ _ _ _ _ r h => by simp [schismaref01_DivMod.l0] at h, fun _ _ _ _ _ r h => by simp [schismaref01_DivMod.j2] at h, fun _ _ _ _ _ _ r h => by simp [schismaref01_DivMod.l1] at h⟩
  | k + 1 => by
    obtain ⟨ih0, ih1, ih2, ih3⟩ := schismaref01_DivMod.mono_l k
    refine ⟨?_, ?_, ?_, ?_⟩
    · intro y0 y1 y2 y3 y4
      unfold schismaref01_DivMod.j0
      repeat' first
      | (with_reducible exact ih0 _ _ _ _ _)
      | (with_reducible exact ih1 _ _ _ _ _)
      | (with_reducible exact ih2 _ _ _ _ _)
      | (with_reducible exact ih3 _ _ _ _ _ _)
      | (with_reducible exact schismaref01_Minus.mono _ _ _)
      | (with_reducible exact schismaref01_quick.mono _ _)
      | (with_reducible exact schismaref01_trim.mono _ _)
      | (with_reducible exact LeO.refl _)
      | (with_reducible exact LeO.none _)
      | (with_reducible refine LeO.ite ?_ ?_)
      | (with_reducible refine LeO.bind ?_ (fun _ => ?_))
      | exact ih0 _ _ _ _ _
      | exact ih1 _ _ _ _ _
      | exact ih2 _ _ _ _ _
      | exact ih3 _ _ _ _ _ _
      | exact schismaref01_Minus.mono _ _ _
      | exact schismaref01_quick.mono _ _
      | exact schismaref01_trim.mono _ _
      | exact LeO.none _
      | refine LeO.ite ?_ ?_
      | refine LeO.bind ?_ (fun _ => ?_)
    · intro y0 y1 y2 y3 y4
      unfold schismaref01_DivMod.l0
      repeat' first
      | (with_reducible exact ih0 _ _ _ _ _)
      | (with_reducible exact ih1 _ _ _ _ _)
      | (with_reducible exact ih2 _ _ _ _ _)
      | (with_reducible exact ih3 _ _ _ _ _ _)
      | (with_reducible exact schismaref01_Minus.mono _ _ _)
      | (with_reducible exact schismaref01_quick.mono _ _)
      | (with_reducible exact schismaref01_trim.mono _ _)
      | (with_reducible exact LeO.refl _)
      | (with_reducible exact LeO.none _)
      | (with_reducible refine LeO.ite ?_ ?_)
      | (with_reducible refine LeO.bind ?_ (fun _ => ?_))
      | exact ih0 _ _ _ _ _
      | exact ih1 _ _ _ _ _
      | exact ih2 _ _ _ _ _
      | exact ih3 _ _ _ _ _ _
      | exact schismaref01_Minus.mono _ _ _
      | exact schismaref01_quick.mono _ _
      | exact schismaref01_trim.mono _ _
      | exact LeO.none _
      | refine LeO.ite ?_ ?_
      | refine LeO.bind ?_ (fun _ => ?_)
    · intro y0 y1 y2 y3 y4
      unfold schismaref01_DivMod.j2
      repeat' first
      | (with_reducible exact ih0 _ _ _ _ _)
      | (with_reducible exact ih1 _ _ _ _ _)
      | (with_reducible exact ih2 _ _ _ _ _)
      | (with_reducible exact ih3 _ _ _ _ _ _)
      | (with_reducible exact schismaref01_Minus.mono _ _ _)
      | (with_reducible exact schismaref01_quick.mono _ _)
      | (with_reducible exact schismaref01_trim.mono _ _)
      | (with_reducible exact LeO.refl _)
      | (with_reducible exact LeO.none _)
      | (with_reducible refine LeO.ite ?_ ?_)
      | (with_reducible refine LeO.bind ?_ (fun _ => ?_))
      | exact ih0 _ _ _ _ _
      | exact ih1 _ _ _ _ _
      | exact ih2 _ _ _ _ _
      | exact ih3 _ _ _ _ _ _
      | exact schismaref01_Minus.mono _ _ _
      | exact schismaref01_quick.mono _ _
      | exact schismaref01_trim.mono _ _
      | exact LeO.none _
      | refine LeO.ite ?_ ?_
      | refine LeO.bind ?_ (fun _ => ?_)
    · intro y0 y1 y2 y3 y4 y5
      unfold schismaref01_DivMod.l1
      repeat' first
      | (with_reducible exact ih0 _ _ _ _ _)
      | (with_reducible exact ih1 _ _ _ _ _)
      | (with_reducible exact ih2 _ _ _ _ _)
      | (with_reducible exact ih3 _ _ _ _ _ _)
      | (with_reducible exact schismaref01_Minus.mono _ _ _)
      | (with_reducible exact schismaref01_quick.mono _ _)
      | (with_reducible exact schismaref01_trim.mono _ _)
      | (with_reducible exact LeO.refl _)
      | (with_reducible exact LeO.none _)
      | (with_reducible refine LeO.ite ?_ ?_)
      | (with_reducible refine LeO.bind ?_ (fun _ => ?_))
      | exact ih0 _ _ _ _ _
      | exact ih1 _ _ _ _ _
      | exact ih2 _ _ _ _ _
      | exact ih3 _ _ _ _ _ _
      | exact schismaref01_Minus.mono _ _ _
      | exact schismaref01_quick.mono _ _
      | exact schismaref01_trim.mono _ _
      | exact LeO.none _
      | refine LeO.ite ?_ ?_
      | refine LeO.bind ?_ (fun _ => ?_)
theorem schismaref01_DivMod.mono : ∀ a0 a1 k, LeO (schismaref01_DivMod.f k a0 a1) (schismaref01_DivMod.f (k + 1) a0 a1) := by
  intro a0 a1 k
  obtain ⟨ih0, ih1, ih2, ih3⟩ := schismaref01_DivMod.mono_l k
  unfold schismaref01_DivMod.f
  repeat' first
      | (with_reducible exact ih0 _ _ _ _ _)
      | (with_reducible exact ih1 _ _ _ _ _)
      | (with_reducible exact ih2 _ _ _ _ _)
      | (with_reducible exact ih3 _ _ _ _ _ _)
      | (with_reducible exact schismaref01_Minus.mono _ _ _)
      | (with_reducible exact schismaref01_quick.mono _ _)
      | (with_reducible exact schismaref01_trim.mono _ _)
      | (with_reducible exact LeO.refl _)
      | (with_reducible exact LeO.none _)
      | (with_reducible refine LeO.ite ?_ ?_)
      | (with_reducible refine LeO.bind ?_ (fun _ => ?_))
      | exact ih0 _ _ _ _ _
      | exact ih1 _ _ _ _ _
      | exact ih2 _ _ _ _ _
      | exact ih3 _ _ _ _ _ _
      | exact schismaref01_Minus.mono _ _ _
      | exact schismaref01_quick.mono _ _
      | exact schismaref01_trim.mono _ _
      | exact LeO.none _
      | refine LeO.ite ?_ ?_
      | refine LeO.bind ?_ (fun _ => ?_)
def schismaref01_DivMod.T4 : Bool × List (List Nat × List Nat) := (true, [([], []), ([], []), ([0, 1], [0, 1]), ([2], [2]), ([], []), ([], []), ([4, 5], [4, 5]), ([6, 3], [6]), ([3, 7, 0, 1, 2, 3], [3]), ([7, 8, 0, 1, 2, 3, 4, 5, 6, 7, 8], [7])])
def schismaref01_DivMod.B4 : List Nat := [0, 0, 3, 7, 0, 0, 48, 127, 255, 511]
theorem schismaref01_DivMod.tab4 : rtab .any (opsOf Tryd.f34 4) = schismaref01_DivMod.T4 := by kernel_rfl
theorem schismaref01_DivMod.bits4 : waitsOk schismaref01_DivMod.T4.2 schismaref01_DivMod.B4 = true := by kernel_rfl
set_option maxHeartbeats 8000000 in
set_option maxRecDepth 100000 in
theorem schismaref01_DivMod.calls (k : Nat) (a0 : ByteArray) (a1 : ByteArray) (r1 : ByteArray) (r2 : ByteArray) (w : World) (h : schismaref01_DivMod.f k a0 a1 = some (r1, r2)) :
    Calls Tryd.prog 34 #[.string a0, .string a1] w fun e w' => e = .returned (.tuple #[.string r1, .string r2]) ∧ Below w.heap.size w w' := by
  have HB := Aside0.mk (Below.refl w.heap.size w)
  have H : ((schismaref01_quick.f k a0).bind fun bt408 => ((schismaref01_quick.f k a1).bind fun bt410 => (if bt408.2 = true then (schismaref01_DivMod.j0 k a0 a1 bt408.1 bt410.1 bt410.2) else (schismaref01_DivMod.j0 k a0 a1 bt408.1 bt410.1 false)))) = some (r1, r2) := h
  clear h
  replace H := Option.bind_eq_some_iff.mp H
  obtain ⟨⟨t408, t409⟩, A30, H⟩ := H
  replace H : ((schismaref01_quick.f k a1).bind fun bt410 => (if t409 = true then (schismaref01_DivMod.j0 k a0 a1 t408 bt410.1 bt410.2) else (schismaref01_DivMod.j0 k a0 a1 t408 bt410.1 false))) = some (r1, r2) := H
  have A3 := Aside0.mk A30
  clear A30
  replace H := Option.bind_eq_some_iff.mp H
  obtain ⟨⟨t410, t411⟩, A40, H⟩ := H
  replace H : (if t409 = true then (schismaref01_DivMod.j0 k a0 a1 t408 t410 t411) else (schismaref01_DivMod.j0 k a0 a1 t408 t410 false)) = some (r1, r2) := H
  have A4 := Aside0.mk A40
  clear A40
  have HC5 := Aside0.mk H
  clear H
  go_enter Tryd.func34, Tryd.ntmps34
  go_upto_region 3 with (first | ((with_reducible refine gate_callee (f := 43) rfl ?_); refine goesL_ (some 15) rfl rfl Tryd.func43 (by kernel_rfl) rfl #[.string a0] rfl mq ?_; (with_reducible refine (schismaref01_quick.calls k a0 t408 t409 _ A3.out).mono ?_); rintro e w' ⟨rfl, ⟨nd, rfl⟩⟩; refine ⟨_, rfl, ?_⟩) | ((with_reducible refine gate_callee (f := 43) rfl ?_); refine goesL_ (some 20) rfl rfl Tryd.func43 (by kernel_rfl) rfl #[.string a1] rfl mq ?_; (with_reducible refine (schismaref01_quick.calls k a1 t410 t411 _ A4.out).mono ?_); rintro e w' ⟨rfl, ⟨nd, rfl⟩⟩; refine ⟨_, rfl, ?_⟩))
  (try simp only [Act.put, List.setIfInBounds_toArray, List.set_cons_zero, List.set_cons_succ])
  go_cut [26] (fun v26 wc => ∃ (kq : Nat) (x26_4 : Bool), v26 = .bool x26_4 ∧ Aside0 (schismaref01_DivMod.j0 kq a0 a1 t408 t410 x26_4 = some (r1, r2)) ∧ Aside0 (kq ≤ k) ∧ Aside0 (Below w.heap.size w wc))
  case first =>
    have H := HC5.out
    clear HC5
    by_cases c6 : t409 = true
    · subst c6
      have H1 : (schismaref01_DivMod.j0 k a0 a1 t408 t410 t411) = some (r1, r2) := by rw [if_pos rfl] at H; exact H
      clear H
      have H := H1
      clear H1
      have H' := Aside0.mk H
      clear H
      go_wp2
      go_meet
      case rel => exact ⟨_, (t411), (by first | rfl | (simp; done) | (simp [*]; done)), H', ⟨by first | omega | exact Nat.le_refl _⟩, ⟨bq⟩⟩
    · replace c6 := Bool.eq_false_iff.mpr c6
      subst c6
      have H1 : (schismaref01_DivMod.j0 k a0 a1 t408 t410 false) = some (r1, r2) := by rw [if_neg (show ¬ (false = true) by decide)] at H; exact H
      clear H
      have H := H1
      clear H1
      have H' := Aside0.mk H
      clear H
      go_wp2
      go_meet
      case rel => exact ⟨_, (false), (by first | rfl | (simp; done) | (simp [*]; done)), H', ⟨by first | omega | exact Nat.le_refl _⟩, ⟨bq⟩⟩
  case rest =>
    clear HC5
    try clear p2
    try clear c3
    try clear c4
    try clear c6
    obtain ⟨kq, x26_4, rfl, HA, HJ4, HB⟩ := hcut
    cases kq with
    | zero => exact absurd HA.out (by simp [schismaref01_DivMod.j0])
    | succ kj4 =>
      have H := HA.out
      clear HA
      simp only [schismaref01_DivMod.j0] at H
      by_cases c7 : x26_4 = true
      · subst c7
        have H1 : (if t410 = 0 then (none) else ((schismaref01_Of.f (IntKind.u64.wrap (Int.tdiv t408 t410))).bind fun t412 => ((schismaref01_Of.f (Int.tmod t408 t410)).bind fun t413 => (some (t412, t413))))) = some (r1, r2) := by rw [if_pos rfl] at H; exact H
        clear H
        have H := H1
        clear H1
        by_cases c8 : t410 = 0
        · rw [if_pos c8] at H
          exact absurd H (by simp)
        · rw [if_neg c8] at H
          have c8b0 : (t410 == 0) = false := beq_eq_false_iff_ne.mpr c8
          have c8b1 : (t410 != 0) = true := bne_iff_ne.mpr c8
          replace H := Option.bind_eq_some_iff.mp H
          obtain ⟨t412, A90, H⟩ := H
          replace H : ((schismaref01_Of.f (Int.tmod t408 t410)).bind fun t413 => (some (t412, t413))) = some (r1, r2) := H
          have A9 := Aside0.mk A90
          clear A90
          replace H := Option.bind_eq_some_iff.mp H
          obtain ⟨t413, A100, H⟩ := H
          replace H : (some (t412, t413)) = some (r1, r2) := H
          have A10 := Aside0.mk A100
          clear A100
          simp only [Option.some.injEq, Prod.mk.injEq] at H
          obtain ⟨rfl, rfl⟩ := H
          try go_wp2
          have n0_ := Aside0.mk (below_drew1 HB.out)
          clear HB
          have HB := n0_
          clear n0_
          refine start_ (n := 10) (S := fun w' => True) (ds := []) #[false, false, false, false, false, false, false, false, false, false] (by kernel_rfl) rfl rfl trivial (fun hHeld => ?_); refine with_tabW schismaref01_DivMod.tab4 schismaref01_DivMod.bits4 (fun HT_ HW_ => ?_)
          generalize wc.drew = w11 at HB hHeld ⊢
          refine pure_ (i := 0) (N := some 27) (v := ?_) (a' := ?_) #[true, false, false, false, false, false, false, false, false, false] rfl rfl (any_of HT_.out (by kernel_rfl)) (fun _ _ _ h => h) (Or.inl ⟨by rfl, ?_⟩) ?_ ?_
          rotate_left
          · intro w'
            go_simp
            with_reducible rfl
          rotate_left
          · simp only [Act.put, List.setIfInBounds_toArray, List.set_cons_zero, List.set_cons_succ, i64_w, i32_w]
            rfl
          refine pure_ (i := 1) (N := some 28) (v := ?_) (a' := ?_) #[true, true, false, false, false, false, false, false, false, false] rfl rfl (any_of HT_.out (by kernel_rfl)) (fun _ _ _ h => h) (Or.inl ⟨by rfl, ?_⟩) ?_ ?_
          rotate_left
          · intro w'
            go_simp
            with_reducible rfl
          rotate_left
          · simp only [Act.put, List.setIfInBounds_toArray, List.set_cons_zero, List.set_cons_succ, i64_w, i32_w]
            rfl
          refine pure_ (i := 2) (N := some 29) (v := ?_) (a' := ?_) #[true, true, true, false, false, false, false, false, false, false] rfl rfl (any_of HT_.out (by kernel_rfl)) (fun _ _ _ h => h) (Or.inl ⟨by rfl, ?_⟩) ?_ ?_
          rotate_left
          · intro w'
            go_simp
            with_reducible rfl
          rotate_left
          · simp only [Act.put, List.setIfInBounds_toArray, List.set_cons_zero, List.set_cons_succ, i64_w, i32_w]
            rfl
          refine pure_ (i := 4) (N := some 31) (v := ?_) (a' := ?_) #[true, true, true, false, true, false, false, false, false, false] rfl rfl (any_of HT_.out (by kernel_rfl)) (fun _ _ _ h => h) (Or.inl ⟨by rfl, ?_⟩) ?_ ?_
          rotate_left
          · intro w'
            go_simp
            with_reducible rfl
          rotate_left
          · simp only [Act.put, List.setIfInBounds_toArray, List.set_cons_zero, List.set_cons_succ, i64_w, i32_w]
            rfl
          refine pure_ (i := 5) (N := some 32) (v := ?_) (a' := ?_) #[true, true, true, false, true, true, false, false, false, false] rfl rfl (any_of HT_.out (by kernel_rfl)) (fun _ _ _ h => h) (Or.inl ⟨by rfl, ?_⟩) ?_ ?_
          rotate_left
          · intro w'
            go_simp
            with_reducible rfl
          rotate_left
          · simp only [Act.put, List.setIfInBounds_toArray, List.set_cons_zero, List.set_cons_succ, i64_w, i32_w]
            rfl
          refine pure_ (i := 6) (N := some 33) (v := ?_) (a' := ?_) #[true, true, true, false, true, true, true, false, false, false] rfl rfl (any_of HT_.out (by kernel_rfl)) (fun _ _ _ h => h) (Or.inl ⟨by rfl, ?_⟩) ?_ ?_
          rotate_left
          · intro w'
            go_simp
            with_reducible rfl
          rotate_left
          · simp only [Act.put, List.setIfInBounds_toArray, List.set_cons_zero, List.set_cons_succ, i64_w, i32_w]
            rfl
          refine one_ (i := 3) (N := some 30) #[true, true, true, true, true, true, true, false, false, false] rfl rfl (one_of HT_.out (by kernel_rfl)) (by decide) (fun K hK => ?_)
          refine goes_ Tryd.func18 (by kernel_rfl) rfl #[.int .u64 (IntKind.u64.wrap (Int.tdiv t408 t410))] (by rfl) rfl rfl mq ?_
          with_reducible refine (schismaref01_Of.calls (IntKind.u64.wrap (Int.tdiv t408 t410)) t412 _ A9.out).mono ?_
          rintro e w12 ⟨rfl, hb⟩
          refine ⟨_, rfl, ?_⟩
          have n0_ := Aside0.mk (below_step bq hb)
          clear HB
          have HB := n0_
          clear n0_
          (try clear hb)
          (try clear hb2)
          (try clear hk)
          (try clear hi)
          refine hK.out _ _ trivial (fun hHeld => ?_)
          clear hK K
          refine norm_ (a' := ?_) ?_ ?_
          rotate_left
          · show Act.put _ (some 30) _ = _
            simp only [Act.put, List.setIfInBounds_toArray, List.set_cons_zero, List.set_cons_succ, i64_w, i32_w]
            rfl
          refine one_ (i := 7) (N := some 34) #[true, true, true, true, true, true, true, true, false, false] rfl rfl (one_of HT_.out (by kernel_rfl)) (by decide) (fun K hK => ?_)
          refine goes_ Tryd.func18 (by kernel_rfl) rfl #[.int .u64 (Int.tmod t408 t410)] (by rfl) rfl rfl mq ?_
          with_reducible refine (schismaref01_Of.calls (Int.tmod t408 t410) t413 _ A10.out).mono ?_
          rintro e w13 ⟨rfl, hb⟩
          refine ⟨_, rfl, ?_⟩
          have n0_ := Aside0.mk (below_step bq hb)
          clear HB
          have HB := n0_
          clear n0_
          (try clear hb)
          (try clear hb2)
          (try clear hk)
          (try clear hi)
          refine hK.out _ _ trivial (fun hHeld => ?_)
          clear hK K
          refine norm_ (a' := ?_) ?_ ?_
          rotate_left
          · show Act.put _ (some 34) _ = _
            simp only [Act.put, List.setIfInBounds_toArray, List.set_cons_zero, List.set_cons_succ, i64_w, i32_w]
            rfl
          refine pure_ (i := 8) (N := some 4) (v := ?_) (a' := ?_) #[true, true, true, true, true, true, true, true, true, false] rfl rfl (any_of HT_.out (by kernel_rfl)) (fun _ _ _ h => h) (Or.inl ⟨by rfl, ?_⟩) ?_ ?_
          rotate_left
          · intro w'
            go_simp
            with_reducible rfl
          rotate_left
          · simp only [Act.put, List.setIfInBounds_toArray, List.set_cons_zero, List.set_cons_succ, i64_w, i32_w]
            rfl
          refine pure_ (i := 9) (N := some 5) (v := ?_) (a' := ?_) #[true, true, true, true, true, true, true, true, true, true] rfl rfl (any_of HT_.out (by kernel_rfl)) (fun _ _ _ h => h) (Or.inl ⟨by rfl, ?_⟩) ?_ ?_
          rotate_left
          · intro w'
            go_simp
            with_reducible rfl
          rotate_left
          · simp only [Act.put, List.setIfInBounds_toArray, List.set_cons_zero, List.set_cons_succ, i64_w, i32_w]
            rfl
          refine done_ (done_of HT_.out (by kernel_rfl)) ?_
          try go_wp2
          go_ret2
          exact ⟨eq_, bq⟩
      · replace c7 := Bool.eq_false_iff.mpr c7
        subst c7
        have H1 : (if 0 ≤ (a0.size : Int) then (if ((a0.size : Int) : Int).toNat ≤ 281474976710656 then (schismaref01_DivMod.l0 kj4 a0 a1 (⟨#[48]⟩ : ByteArray) (List.replicate ((a0.size : Int) : Int).toNat 0) 0) else (none)) else (none)) = some (r1, r2) := by rw [if_neg (show ¬ (false = true) by decide)] at H; exact H
        clear H
        have H := H1
        clear H1
        by_cases c14 : 0 ≤ (a0.size : Int)
        · rw [if_pos c14] at H
          have c14b0 := eq_true c14
          have c14b1 : decide (0 ≤ (a0.size : Int)) = true := decide_eq_true c14
          clear c14
          by_cases c15 : ((a0.size : Int) : Int).toNat ≤ 281474976710656
          · rw [if_pos c15] at H
            have c15b0 := eq_true c15
            have c15b1 : decide (((a0.size : Int) : Int).toNat ≤ 281474976710656) = true := decide_eq_true c15
            clear c15
            obtain ⟨y414, hy414⟩ : ∃ y_ : List Int, y_ = (List.replicate ((a0.size : Int) : Int).toNat 0) := ⟨_, rfl⟩
            replace H : (schismaref01_DivMod.l0 kj4 a0 a1 (⟨#[48]⟩ : ByteArray) y414 0) = some (r1, r2) := by first | (rw [hy414]; with_reducible exact H) | (have H2_ := (Option.bind_some _ _).symm.trans H; rw [hy414]; with_reducible exact H2_) | (have H2_ := (Option.bind_some _ _).symm.trans H; with_reducible exact H2_) | with_reducible exact H | (rw [hy414]; exact H) | exact H
            have Ny414 := Aside0.mk hy414
            clear hy414
            have H' := Aside0.mk H
            clear H
            go_wp2_with (first | ((with_reducible refine gate_dst (N := 37) rfl ?_); refine Kd.R_make (Kd.int .u8) _ 5 rfl (N := 37) rfl 23 _ _ rfl (a0.size : Int) rfl rfl Tryd.underlying23 (.int .u8 0) 1 info5 rfl (by decide) (by omega) 0 (ok := fun _ => True) (okp := fun _ => True) rfl (fun _ hk => hk) trivial (of_decide_eq_true (by first | (with_reducible assumption) | assumption)) (Nat.le_trans (Nat.mul_le_mul_right _ (of_decide_eq_true (by first | (with_reducible assumption) | assumption) : (a0.size : Int).toNat ≤ 281474976710656)) (by omega)) (Below.refl _ _) (Nat.le_refl _) ?_; intro v415 w16 ho17 hb hg_ hnew_; clear hg_ hnew_; (first | rw [← Ny414.out] at ho17 | (simp only [Int.reduceToNat] at ho17; rw [← Ny414.out] at ho17)); have n0_ := Aside0.mk (Kd.R_lower ho17 (below_size bq)); have n1_ := Aside0.mk (below_step bq hb); clear HB; have HO416 := n0_; have HB := n1_; clear n0_ n1_; clear hb ho17))
            go_loopg [5, 11] kj4 (fun kq v5 v11 w' => ∃ (x5_2 : ByteArray) (x10_2 : List Int) (x11_2 : Int), v5 = .string x5_2 ∧ v11 = .int .i64 x11_2 ∧ Aside0 (schismaref01_DivMod.l0 kq a0 a1 x5_2 x10_2 x11_2 = some (r1, r2)) ∧ Aside0 (kq ≤ kj4) ∧ Aside0 (Kd.R (Kd.int .u8) 5 w' w.heap.size (fun _ => True) v415 x10_2) ∧ Aside0 (Below w.heap.size w w'))
            case atStart => exact ⟨((⟨#[48]⟩ : ByteArray)), (y414), (0), (by first | rfl | (simp; done) | (simp [*]; done)), (by first | rfl | (simp; done) | (simp [*]; done)), H', ⟨Nat.le_refl _⟩, ⟨by (with_reducible repeat (first | apply Kd.R_alloc | apply Kd.R_drewN | apply Kd.R_drew)); exact HO416.out⟩, ⟨bq⟩⟩
            case round =>
              clear H'
              try clear c1
              try clear p2
              try clear c3
              try clear c4
              try clear c6
              try clear c7
              try clear c8
              try clear c8b0
              try clear c8b1
              try clear c14
              try clear c14b0
              try clear c14b1
              try clear c15
              try clear c15b0
              try clear c15b1
              try clear p2
              obtain ⟨x5_2, x10_2, x11_2, rfl, rfl, HA, HK2, HO_10, HB⟩ := hrel
              cases gk with
              | zero => exact absurd HA.out (by simp [schismaref01_DivMod.l0])
              | succ k2 =>
                have H := HA.out
                clear HA
                simp only [schismaref01_DivMod.l0] at H
                by_cases c18 : x11_2 < (a0.size : Int)
                · rw [if_pos c18] at H
                  have c18b0 : decide (x11_2 < (a0.size : Int)) = true := decide_eq_true c18
                  clear c18
                  have HC19 := Aside0.mk H
                  clear H
                  go_upto_if 45 with (fail)
                  go_cut [5] (fun v5 wc => ∃ (kq : Nat) (x5_18 : ByteArray), v5 = .string x5_18 ∧ Aside0 (schismaref01_DivMod.j2 kq a0 a1 x5_18 x10_2 x11_2 = some (r1, r2)) ∧ Aside0 (kq ≤ k2) ∧ Aside0 (Kd.R (Kd.int .u8) 5 wc w.heap.size (fun _ => True) v415 x10_2) ∧ Aside0 (Below w.heap.size w wc))
                  case first =>
                    have H := HC19.out
                    clear HC19
                    by_cases c20 : x5_2.toList = ([48] : List UInt8)
                    · rw [if_pos c20] at H
                      have c20b0 : (x5_2.toList == ([48] : List UInt8)) = true := beq_iff_eq.mpr c20
                      have c20b1 : (x5_2.toList != ([48] : List UInt8)) = false := bne_eq_false_iff_eq.mpr c20
                      clear c20
                      (first | rw [c20b0] | (simp only [i64_w, i32_w]; rw [c20b0]) | skip)
                      by_cases c21 : 0 ≤ x11_2
                      · rw [if_pos c21] at H
                        have c21b0 := eq_true c21
                        have c21b1 : decide (0 ≤ x11_2) = true := decide_eq_true c21
                        clear c21
                        by_cases c22 : x11_2 ≤ (wrap64 (x11_2 + 1))
                        · rw [if_pos c22] at H
                          have c22b0 := eq_true c22
                          have c22b1 : decide (x11_2 ≤ (wrap64 (x11_2 + 1))) = true := decide_eq_true c22
                          by_cases c23 : (wrap64 (x11_2 + 1)) ≤ (a0.size : Int)
                          · rw [if_pos c23] at H
                            have c23b0 := eq_true c23
                            have c23b1 : decide ((wrap64 (x11_2 + 1)) ≤ (a0.size : Int)) = true := decide_eq_true c23
                            have H' := Aside0.mk H
                            clear H
                            go_wp2
                            go_meet
                            case rel => exact ⟨_, (a0.extract (x11_2 : Int).toNat ((wrap64 (x11_2 + 1)) : Int).toNat), (by first | rfl | (simp; done) | (simp [*]; done)), H', ⟨by have := HJ4.out; have := HK2.out; first | omega | exact Nat.le_refl _⟩, ⟨by (with_reducible repeat (first | apply Kd.R_alloc | apply Kd.R_drewN | apply Kd.R_drew)); exact HO_10.out⟩, ⟨bq⟩⟩
                          · rw [if_neg c23] at H
                            exact absurd H (by simp)
                        · rw [if_neg c22] at H
                          exact absurd H (by simp)
                      · rw [if_neg c21] at H
                        exact absurd H (by simp)
                    · rw [if_neg c20] at H
                      have c20b0 : (x5_2.toList == ([48] : List UInt8)) = false := beq_eq_false_iff_ne.mpr c20
                      have c20b1 : (x5_2.toList != ([48] : List UInt8)) = true := bne_iff_ne.mpr c20
                      (first | rw [c20b0] | (simp only [i64_w, i32_w]; rw [c20b0]) | skip)
                      by_cases c24 : 0 ≤ x11_2
                      · rw [if_pos c24] at H
                        have c24b0 := eq_true c24
                        have c24b1 : decide (0 ≤ x11_2) = true := decide_eq_true c24
                        clear c24
                        by_cases c25 : x11_2 ≤ (wrap64 (x11_2 + 1))
                        · rw [if_pos c25] at H
                          have c25b0 := eq_true c25
                          have c25b1 : decide (x11_2 ≤ (wrap64 (x11_2 + 1))) = true := decide_eq_true c25
                          by_cases c26 : (wrap64 (x11_2 + 1)) ≤ (a0.size : Int)
                          · rw [if_pos c26] at H
                            have c26b0 := eq_true c26
                            have c26b1 : decide ((wrap64 (x11_2 + 1)) ≤ (a0.size : Int)) = true := decide_eq_true c26
                            by_cases c27 : x5_2.size + (a0.extract (x11_2 : Int).toNat ((wrap64 (x11_2 + 1)) : Int).toNat).size ≤ 9223372036854775807
                            · rw [if_pos c27] at H
                              have c27b0 := eq_true c27
                              have c27b1 : decide (x5_2.size + (a0.extract (x11_2 : Int).toNat ((wrap64 (x11_2 + 1)) : Int).toNat).size ≤ 9223372036854775807) = true := decide_eq_true c27
                              try have c27b2 : (9223372036854775807 < x5_2.size + (a0.extract (x11_2 : Int).toNat ((wrap64 (x11_2 + 1)) : Int).toNat).size) = False := eq_false (Nat.not_lt.2 c27)
                              have H' := Aside0.mk H
                              clear H
                              go_wp2
                              go_meet
                              case rel => exact ⟨_, (x5_2 ++ (a0.extract (x11_2 : Int).toNat ((wrap64 (x11_2 + 1)) : Int).toNat)), (by first | rfl | (simp; done) | (simp [*]; done)), H', ⟨by have := HJ4.out; have := HK2.out; first | omega | exact Nat.le_refl _⟩, ⟨by (with_reducible repeat (first | apply Kd.R_alloc | apply Kd.R_drewN | apply Kd.R_drew)); exact HO_10.out⟩, ⟨bq⟩⟩
                            · rw [if_neg c27] at H
                              exact absurd H (by simp)
                          · rw [if_neg c26] at H
                            exact absurd H (by simp)
                        · rw [if_neg c25] at H
                          exact absurd H (by simp)
                      · rw [if_neg c24] at H
                        exact absurd H (by simp)
                  case rest =>
                    clear HC19
                    try clear c1
                    try clear c2
                    try clear p2
                    try clear c3
                    try clear c4
                    try clear c6
                    try clear p6
                    try clear c7
                    try clear c8
                    try clear c8b0
                    try clear c8b1
                    try clear c14
                    try clear c14b0
                    try clear c14b1
                    try clear c15
                    try clear c15b0
                    try clear c15b1
                    try clear c18
                    try clear c18b0
                    try clear c20
                    try clear c20b0
                    try clear c20b1
                    try clear c21
                    try clear c21b0
                    try clear c21b1
                    try clear c22
                    try clear c22b0
                    try clear c22b1
                    try clear c23
                    try clear c23b0
                    try clear c23b1
                    try clear c24
                    try clear c24b0
                    try clear c24b1
                    try clear c25
                    try clear c25b0
                    try clear c25b1
                    try clear c26
                    try clear c26b0
                    try clear c26b1
                    try clear c27
                    try clear c27b0
                    try clear c27b1
                    try clear c27b2
                    try clear p2
                    obtain ⟨kq, x5_18, rfl, HA, HJ18, HO_10, HB⟩ := hcut
                    cases kq with
                    | zero => exact absurd HA.out (by simp [schismaref01_DivMod.j2])
                    | succ kj18 =>
                      have H := HA.out
                      clear HA
                      simp only [schismaref01_DivMod.j2] at H
                      have H' := Aside0.mk H
                      clear H
                      go_wp2
                      go_loopg [5, 12] kj18 (fun kq v5 v12 w' => ∃ (x5_4 : ByteArray) (x12_4 : Int), v5 = .string x5_4 ∧ v12 = .int .u8 x12_4 ∧ Aside0 (schismaref01_DivMod.l1 kq a0 a1 x5_4 x10_2 x11_2 x12_4 = some (r1, r2)) ∧ Aside0 (kq ≤ kj18) ∧ Aside0 (Kd.R (Kd.int .u8) 5 w' w.heap.size (fun _ => True) v415 x10_2) ∧ Aside0 (Below w.heap.size w w'))
                      case atStart => exact ⟨(x5_18), (48), (by first | rfl | (simp; done) | (simp [*]; done)), (by first | rfl | (simp; done) | (simp [*]; done)), H', ⟨Nat.le_refl _⟩, ⟨by (with_reducible repeat (first | apply Kd.R_alloc | apply Kd.R_drewN | apply Kd.R_drew)); exact HO_10.out⟩, ⟨bq⟩⟩
                      case round =>
                        clear H'
                        try clear c1
                        try clear c2
                        try clear p2
                        try clear c3
                        try clear c4
                        try clear c6
                        try clear p6
                        try clear c7
                        try clear c8
                        try clear c8b0
                        try clear c8b1
                        try clear c14
                        try clear c14b0
                        try clear c14b1
                        try clear c15
                        try clear c15b0
                        try clear c15b1
                        try clear c18
                        try clear c18b0
                        try clear c20
                        try clear c20b0
                        try clear c20b1
                        try clear c21
                        try clear c21b0
                        try clear c21b1
                        try clear c22
                        try clear c22b0
                        try clear c22b1
                        try clear c23
                        try clear c23b0
                        try clear c23b1
                        try clear c24
                        try clear c24b0
                        try clear c24b1
                        try clear c25
                        try clear c25b0
                        try clear c25b1
                        try clear c26
                        try clear c26b0
                        try clear c26b1
                        try clear c27
                        try clear c27b0
                        try clear c27b1
                        try clear c27b2
                        try clear p2
                        try clear p6
                        obtain ⟨x5_4, x12_4, rfl, rfl, HA, HK4, HO_10, HB⟩ := hrel
                        cases gk with
                        | zero => exact absurd HA.out (by simp [schismaref01_DivMod.l1])
                        | succ k4 =>
                          have H := HA.out
                          clear HA
                          simp only [schismaref01_DivMod.l1] at H
                          replace H := Option.bind_eq_some_iff.mp H
                          obtain ⟨t418, A280, H⟩ := H
                          replace H : (if t418 ≥ 0 then ((schismaref01_Minus.f k4 x5_4 a1).bind fun t419 => (schismaref01_DivMod.l1 k4 a0 a1 t419 x10_2 x11_2 ((x12_4 + 1) % 256))) else (if 0 ≤ x11_2 then (if x11_2 < (x10_2.length : Int) then (schismaref01_DivMod.l0 k4 a0 a1 x5_4 (x10_2.set (x11_2 : Int).toNat x12_4) (wrap64 (x11_2 + 1))) else (none)) else (none))) = some (r1, r2) := H
                          have A28 := Aside0.mk A280
                          clear A280
                          by_cases c29 : t418 ≥ 0
                          · rw [if_pos c29] at H
                            have c29b0 : decide (0 ≤ t418) = true := decide_eq_true c29
                            clear c29
                            replace H := Option.bind_eq_some_iff.mp H
                            obtain ⟨t419, A300, H⟩ := H
                            replace H : (schismaref01_DivMod.l1 k4 a0 a1 t419 x10_2 x11_2 ((x12_4 + 1) % 256)) = some (r1, r2) := H
                            have A30 := Aside0.mk A300
                            clear A300
                            have H' := Aside0.mk H
                            clear H
                            go_wp2_with (first | ((with_reducible refine gate_callee (f := 22) rfl ?_); refine goesL_ (some 60) rfl rfl Tryd.func22 (by kernel_rfl) rfl #[.string x5_4, .string a1] rfl mq ?_; (with_reducible refine (schismaref01_Compare.calls x5_4 a1 t418 _ A28.out).mono ?_); rintro e w' ⟨rfl, ⟨nd, rfl⟩⟩; refine ⟨_, rfl, ?_⟩) | ((with_reducible refine gate_callee (f := 40) rfl ?_); refine goesL_ (some 64) rfl rfl Tryd.func40 (by kernel_rfl) rfl #[.string x5_4, .string a1] rfl mq ?_; (with_reducible refine (schismaref01_Minus.calls k4 x5_4 a1 t419 _ A30.out).mono ?_); rintro e w31 ⟨rfl, hb⟩; refine ⟨_, rfl, ?_⟩; have n0_ := Aside0.mk (Kd.R_below (by (with_reducible repeat (first | apply Kd.R_alloc | apply Kd.R_drewN | apply Kd.R_drew)); exact HO_10.out) hb); have n1_ := Aside0.mk (below_step bq hb); clear HO_10; clear HB; have HO_10 := n0_; have HB := n1_; clear n0_ n1_; (try clear hb); (try clear hb2); (try clear hk); (try clear hi)))
                            go_roundg k4
                            case measure => have := HJ4.out; have := HK2.out; have := HJ18.out; have := HK4.out; omega
                            case rel => exact ⟨(t419), ((x12_4 + 1) % 256), (by first | rfl | (simp; done) | (simp [*]; done)), (by first | rfl | (simp; done) | (simp [*]; done)), H', ⟨by have := HJ4.out; have := HK2.out; have := HJ18.out; have := HK4.out; omega⟩, ⟨by (with_reducible repeat (first | apply Kd.R_alloc | apply Kd.R_drewN | apply Kd.R_drew)); exact HO_10.out⟩, ⟨bq⟩⟩
                          · rw [if_neg c29] at H
                            have c29b0 : decide (0 ≤ t418) = false := decide_eq_false c29
                            clear c29
                            by_cases c32 : 0 ≤ x11_2
                            · rw [if_pos c32] at H
                              have c32b0 : decide (0 ≤ x11_2) = true := decide_eq_true c32
                              clear c32
                              by_cases c33 : x11_2 < (x10_2.length : Int)
                              · rw [if_pos c33] at H
                                have c33b0 : decide (x11_2 < (x10_2.length : Int)) = true := decide_eq_true c33
                                clear c33
                                obtain ⟨y420, hy420⟩ : ∃ y_ : List Int, y_ = (x10_2.set (x11_2 : Int).toNat x12_4) := ⟨_, rfl⟩
                                replace H : (schismaref01_DivMod.l0 k4 a0 a1 x5_4 y420 (wrap64 (x11_2 + 1))) = some (r1, r2) := by first | (rw [hy420]; with_reducible exact H) | (have H2_ := (Option.bind_some _ _).symm.trans H; rw [hy420]; with_reducible exact H2_) | (have H2_ := (Option.bind_some _ _).symm.trans H; with_reducible exact H2_) | with_reducible exact H | (rw [hy420]; exact H) | exact H
                                have Ny420 := Aside0.mk hy420
                                clear hy420
                                have H' := Aside0.mk H
                                clear H
                                go_wp2_with (first | ((with_reducible refine gate_callee (f := 22) rfl ?_); refine goesL_ (some 60) rfl rfl Tryd.func22 (by kernel_rfl) rfl #[.string x5_4, .string a1] rfl mq ?_; (with_reducible refine (schismaref01_Compare.calls x5_4 a1 t418 _ A28.out).mono ?_); rintro e w' ⟨rfl, ⟨nd, rfl⟩⟩; refine ⟨_, rfl, ?_⟩; (try (rw [drewN_self wr]; generalize hq_ : World.drewN wr _ = wr; have n0_ : Aside0 (Kd.R (Kd.int .u8) 5 wr w.heap.size (fun _ => True) v415 x10_2) := ⟨by rw [← hq_]; exact (by (with_reducible repeat (first | apply Kd.R_alloc | apply Kd.R_drewN | apply Kd.R_drew)); exact HO_10.out)⟩; have n1_ : Aside0 (Below w.heap.size w wr) := ⟨by rw [← hq_]; exact bq⟩; clear HO_10 HB hq_; have HO_10 := n0_; have HB := n1_; clear n0_ n1_)); have p34 : 0 ≤ (x11_2 : Int) := of_decide_eq_true (by first | (with_reducible assumption) | assumption); have q34 : (x11_2 : Int) < ((x10_2.length : Int) : Int) := of_decide_eq_true (by first | (with_reducible assumption) | assumption); obtain ⟨go34, co34, eo34, gb34, gl34, cl34, HG34⟩ := Kd.R_form HO_10.out (by omega); (first | cases eo34 | (injection eo34 with ea_ en_ ec_; (first | subst ea_ | (injection ea_ with ea_; subst ea_)); subst ec_; clear en_)); have GB34 := Aside0.mk gb34; have GG34 := Aside0.mk HG34; clear gb34 gl34 HG34; obtain ⟨hx34_0, hf34_0⟩ := Kd.R_celln 0 HO_10.out (x11_2 : Int) p34 q34; replace p34 := eq_true p34; replace q34 := eq_true q34; obtain ⟨hy35_, hz35_⟩ := Kd.R_celln 0 HO_10.out (x11_2 : Int) (of_decide_eq_true (by first | (with_reducible assumption) | assumption)) (of_decide_eq_true (by first | (with_reducible assumption) | assumption)); have HP35 := Kd.R_putg HO_10.out (x11_2 : Int) x12_4) | ((with_reducible refine gate_store (t := 5) (p := 70) rfl ?_); refine store_event (t := 5) (p := 70) (v := ?vo_w36) (w1 := (wr.setCell ⟨go34, (x11_2 : Int).toNat, none⟩ (.int .u8 x12_4))) ?hg ?ho ?hn ?hr ?_; (case ho => rfl); (case hg => rfl); (case hn => rfl); (case hr => first | (go_simp; done) | (go_simp; rfl)); intro w36 hw; have hg : wr.grownBy w36 (some go34) := (by rw [hw]; exact HP35.2); have hp_ : Kd.R (Kd.int .u8) 5 w36 w.heap.size (fun _ => True) (.slice (some ⟨go34, 0, none⟩) x10_2.length co34) y420 := (by rw [hw, Ny420.out]; exact HP35.1); clear HP35; have n0_ := Aside0.mk (hp_); have n1_ := Aside0.mk ((by rw [hw]; exact below_set (HB.out) GB34.out : Below w.heap.size w w36)); clear HO_10; clear HB; have HO_10 := n0_; have HB := n1_; clear n0_ n1_; clear hg hw hp_))
                                go_roundg k4
                                case measure => have := HJ4.out; have := HK2.out; have := HJ18.out; have := HK4.out; omega
                                case rel => exact ⟨(x5_4), (y420), (wrap64 (x11_2 + 1)), (by first | rfl | (simp; done) | (simp [*]; done)), (by first | rfl | (simp; done) | (simp [*]; done)), H', ⟨by have := HJ4.out; have := HK2.out; have := HJ18.out; have := HK4.out; omega⟩, ⟨by (with_reducible repeat (first | apply Kd.R_alloc | apply Kd.R_drewN | apply Kd.R_drew)); exact HO_10.out⟩, ⟨bq⟩⟩
                              · rw [if_neg c33] at H
                                exact absurd H (by simp)
                            · rw [if_neg c32] at H
                              exact absurd H (by simp)
                · rw [if_neg c18] at H
                  have c18b0 : decide (x11_2 < (a0.size : Int)) = false := decide_eq_false c18
                  clear c18
                  replace H := Option.bind_eq_some_iff.mp H
                  obtain ⟨t417, A370, H⟩ := H
                  replace H : (some (t417, x5_2)) = some (r1, r2) := H
                  have A37 := Aside0.mk A370
                  clear A370
                  simp only [Option.some.injEq, Prod.mk.injEq] at H
                  obtain ⟨rfl, rfl⟩ := H
                  obtain ⟨Ao38, co38, eo38⟩ := Kd.R_slice HO_10.out
                  subst eo38
                  go_wp2_with (first | ((with_reducible refine gate_callee (f := 51) rfl ?_); refine goesL_ (some 72) rfl rfl Tryd.func51 (by kernel_rfl) rfl #[.slice Ao38 x10_2.length co38] rfl mq ?_; (with_reducible refine (schismaref01_trim.calls k2 _ _ x10_2 t417 _ ?side1 ?side2 A37.out).mono ?_); (case side1 => repeat (first | exact (Kd.R_reads' HO_10.out).2.2 | (with_reducible refine Kd.C_alloc ?_ _) | (with_reducible refine Kd.C_drewN ?_ _) | (with_reducible refine Kd.C_drew ?_))); (case side2 => exact (Kd.R_reads' HO_10.out).2.1); rintro e w' ⟨rfl, ⟨nd, rfl⟩⟩; refine ⟨_, rfl, ?_⟩))
                  go_ret2
                  exact ⟨eq_, bq⟩
          · rw [if_neg c15] at H
            exact absurd H (by simp)
        · rw [if_neg c14] at H
          exact absurd H (by simp)
mutual
def schismaref01_Gcd.l0 : Nat → ByteArray → ByteArray → Option (ByteArray)
  | 0, _, _ => none
  | k + 1, x0, x1 => if x1.toList = ([48] : List UInt8) then (some x0) else ((schismaref01_quick.f k x0).bind fun bt436 => ((schismaref01_quick.f k x1).bind fun bt438 => (if bt436.2 = true then (schismaref01_Gcd.j1 k x0 x1 bt436.1 bt438.1 bt438.2) else (schismaref01_Gcd.j1 k x0 x1 bt436.1 bt438.1 false))))
def schismaref01_Gcd.j1 : Nat → ByteArray → ByteArray → Int → Int → Bool → Option (ByteArray)
  | 0, _, _, _, _, _ => none
  | k + 1, x0, x1, x5, x7, x26 => if x26 = true then (schismaref01_Gcd.l1 k x5 x7) else ((schismaref01_DivMod.f k x0 x1).bind fun bt441 => (schismaref01_Gcd.l0 k x1 bt441.2))
def schismaref01_Gcd.l1 : Nat → Int → Int → Option (ByteArray)
  | 0, _, _ => none
  | k + 1, x5, x7 => if x7 > 0 then (if x7 = 0 then (none) else (schismaref01_Gcd.l1 k x7 (Int.tmod x5 x7))) else ((schismaref01_Of.f x5).bind fun t440 => (some t440))
end
def schismaref01_Gcd.f (k : Nat) (a0 : ByteArray) (a1 : ByteArray) : Option (ByteArray) := schismaref01_Gcd.l0 k a0 a1
theorem schismaref01_Gcd.mono_l : ∀ k, (∀ y0 y1, LeO (schismaref01_Gcd.l0 k y0 y1) (schismaref01_Gcd.l0 (k + 1) y0 y1)) ∧ (∀ y0 y1 y2 y3 y4, LeO (schismaref01_Gcd.j1 k y0 y1 y2 y3 y4) (schismaref01_Gcd.j1 (k + 1) y0 y1 y2 y3 y4)) ∧ (∀ y0 y1, LeO (schismaref01_Gcd.l1 k y0 y1) (schismaref01_Gcd.l1 (k + 1) y0 y1))
  | 0 => ⟨fun _ _ r h => by simp [schismaref01_Gcd.l0] at h, fun _ _ _ _ _ r h => by simp [schismaref01_Gcd.j1] at h, fun _ _ r h => by simp [schismaref01_Gcd.l1] at h⟩
  | k + 1 => by
    obtain ⟨ih0, ih1, ih2⟩ := schismaref01_Gcd.mono_l k
    refine ⟨?_, ?_, ?_⟩
    · intro y0 y1
      unfold schismaref01_Gcd.l0
      repeat' first
      | (with_reducible exact ih0 _ _)
      | (with_reducible exact ih1 _ _ _ _ _)
      | (with_reducible exact ih2 _ _)
      | (with_reducible exact schismaref01_DivMod.mono _ _ _)
      | (with_reducible exact schismaref01_quick.mono _ _)
      | (with_reducible exact LeO.refl _)
      | (with_reducible exact LeO.none _)
      | (with_reducible refine LeO.ite ?_ ?_)
      | (with_reducible refine LeO.bind ?_ (fun _ => ?_))
      | exact ih0 _ _
      | exact ih1 _ _ _ _ _
      | exact ih2 _ _
      | exact schismaref01_DivMod.mono _ _ _
      | exact schismaref01_quick.mono _ _
      | exact LeO.none _
      | refine LeO.ite ?_ ?_
      | refine LeO.bind ?_ (fun _ => ?_)
    · intro y0 y1 y2 y3 y4
      unfold schismaref01_Gcd.j1
      repeat' first
      | (with_reducible exact ih0 _ _)
      | (with_reducible exact ih1 _ _ _ _ _)
      | (with_reducible exact ih2 _ _)
      | (with_reducible exact schismaref01_DivMod.mono _ _ _)
      | (with_reducible exact schismaref01_quick.mono _ _)
      | (with_reducible exact LeO.refl _)
      | (with_reducible exact LeO.none _)
      | (with_reducible refine LeO.ite ?_ ?_)
      | (with_reducible refine LeO.bind ?_ (fun _ => ?_))
      | exact ih0 _ _
      | exact ih1 _ _ _ _ _
      | exact ih2 _ _
      | exact schismaref01_DivMod.mono _ _ _
      | exact schismaref01_quick.mono _ _
      | exact LeO.none _
      | refine LeO.ite ?_ ?_
      | refine LeO.bind ?_ (fun _ => ?_)
    · intro y0 y1
      unfold schismaref01_Gcd.l1
      repeat' first
      | (with_reducible exact ih0 _ _)
      | (with_reducible exact ih1 _ _ _ _ _)
      | (with_reducible exact ih2 _ _)
      | (with_reducible exact schismaref01_DivMod.mono _ _ _)
      | (with_reducible exact schismaref01_quick.mono _ _)
      | (with_reducible exact LeO.refl _)
      | (with_reducible exact LeO.none _)
      | (with_reducible refine LeO.ite ?_ ?_)
      | (with_reducible refine LeO.bind ?_ (fun _ => ?_))
      | exact ih0 _ _
      | exact ih1 _ _ _ _ _
      | exact ih2 _ _
      | exact schismaref01_DivMod.mono _ _ _
      | exact schismaref01_quick.mono _ _
      | exact LeO.none _
      | refine LeO.ite ?_ ?_
      | refine LeO.bind ?_ (fun _ => ?_)
theorem schismaref01_Gcd.mono : ∀ a0 a1 k, LeO (schismaref01_Gcd.f k a0 a1) (schismaref01_Gcd.f (k + 1) a0 a1) := by
  intro a0 a1 k
  obtain ⟨ih0, ih1, ih2⟩ := schismaref01_Gcd.mono_l k
  unfold schismaref01_Gcd.f
  repeat' first
      | (with_reducible exact ih0 _ _)
      | (with_reducible exact ih1 _ _ _ _ _)
      | (with_reducible exact ih2 _ _)
      | (with_reducible exact schismaref01_DivMod.mono _ _ _)
      | (with_reducible exact schismaref01_quick.mono _ _)
      | (with_reducible exact LeO.refl _)
      | (with_reducible exact LeO.none _)
      | (with_reducible refine LeO.ite ?_ ?_)
      | (with_reducible refine LeO.bind ?_ (fun _ => ?_))
      | exact ih0 _ _
      | exact ih1 _ _ _ _ _
      | exact ih2 _ _
      | exact schismaref01_DivMod.mono _ _ _
      | exact schismaref01_quick.mono _ _
      | exact LeO.none _
      | refine LeO.ite ?_ ?_
      | refine LeO.bind ?_ (fun _ => ?_)
set_option maxHeartbeats 8000000 in
set_option maxRecDepth 100000 in
theorem schismaref01_Gcd.calls (k : Nat) (a0 : ByteArray) (a1 : ByteArray) (r : ByteArray) (w : World) (h : schismaref01_Gcd.f k a0 a1 = some r) :
    Calls Tryd.prog 33 #[.string a0, .string a1] w fun e w' => e = .returned (.string r) ∧ Below w.heap.size w w' := by
  have HB := Aside0.mk (Below.refl w.heap.size w)
  have H : (schismaref01_Gcd.l0 k a0 a1) = some r := h
  clear h
  have H' := Aside0.mk H
  clear H
  go_enter Tryd.func33, Tryd.ntmps33
  go_wp2
  repeat (go_quiet (fail); try go_wp2)
  go_loopg [0, 1] k (fun kq v0 v1 w' => ∃ (x0_1 : ByteArray) (x1_1 : ByteArray), v0 = .string x0_1 ∧ v1 = .string x1_1 ∧ Aside0 (schismaref01_Gcd.l0 kq x0_1 x1_1 = some r) ∧ Aside0 (kq ≤ k) ∧ Aside0 (Below w.heap.size w w'))
  case atStart => exact ⟨(a0), (a1), (by first | rfl | (simp; done) | (simp [*]; done)), (by first | rfl | (simp; done) | (simp [*]; done)), H', ⟨Nat.le_refl _⟩, ⟨bq⟩⟩
  case round =>
    clear H'
    try clear p2
    obtain ⟨x0_1, x1_1, rfl, rfl, HA, HK1, HB⟩ := hrel
    cases gk with
    | zero => exact absurd HA.out (by simp [schismaref01_Gcd.l0])
    | succ k1 =>
      have H := HA.out
      clear HA
      simp only [schismaref01_Gcd.l0] at H
      by_cases c3 : x1_1.toList = ([48] : List UInt8)
      · rw [if_pos c3] at H
        have c3b0 : (x1_1.toList == ([48] : List UInt8)) = true := beq_iff_eq.mpr c3
        have c3b1 : (x1_1.toList != ([48] : List UInt8)) = false := bne_eq_false_iff_eq.mpr c3
        clear c3
        obtain rfl := Option.some.inj H
        go_wp2
        repeat (go_quiet (fail); try go_wp2)
        go_ret
        exact ⟨eq_, bq⟩
      · rw [if_neg c3] at H
        have c3b0 : (x1_1.toList == ([48] : List UInt8)) = false := beq_eq_false_iff_ne.mpr c3
        have c3b1 : (x1_1.toList != ([48] : List UInt8)) = true := bne_iff_ne.mpr c3
        replace H := Option.bind_eq_some_iff.mp H
        obtain ⟨⟨t436, t437⟩, A40, H⟩ := H
        replace H : ((schismaref01_quick.f k1 x1_1).bind fun bt438 => (if t437 = true then (schismaref01_Gcd.j1 k1 x0_1 x1_1 t436 bt438.1 bt438.2) else (schismaref01_Gcd.j1 k1 x0_1 x1_1 t436 bt438.1 false))) = some r := H
        have A4 := Aside0.mk A40
        clear A40
        replace H := Option.bind_eq_some_iff.mp H
        obtain ⟨⟨t438, t439⟩, A50, H⟩ := H
        replace H : (if t437 = true then (schismaref01_Gcd.j1 k1 x0_1 x1_1 t436 t438 t439) else (schismaref01_Gcd.j1 k1 x0_1 x1_1 t436 t438 false)) = some r := H
        have A5 := Aside0.mk A50
        clear A50
        have HC6 := Aside0.mk H
        clear H
        go_upto_region 4 with (first | (go_at_call 43; (with_reducible refine (schismaref01_quick.calls k1 x0_1 t436 t437 _ A4.out).mono ?_); rintro e w' ⟨rfl, ⟨nd, rfl⟩⟩; (try first | exact ⟨rfl, _, World.drewN_drewN _ _ _⟩ | exact ⟨rfl, _, Eq.trans (World.drewN_drewN _ _ _) (congrArg (World.drewN _) (Nat.add_assoc _ _ _))⟩)) | (go_at_call 43; (with_reducible refine (schismaref01_quick.calls k1 x1_1 t438 t439 _ A5.out).mono ?_); rintro e w' ⟨rfl, ⟨nd, rfl⟩⟩; (try first | exact ⟨rfl, _, World.drewN_drewN _ _ _⟩ | exact ⟨rfl, _, Eq.trans (World.drewN_drewN _ _ _) (congrArg (World.drewN _) (Nat.add_assoc _ _ _))⟩)))
        repeat (go_quiet (first | (go_at_call 43; (with_reducible refine (schismaref01_quick.calls k1 x0_1 t436 t437 _ A4.out).mono ?_); rintro e w' ⟨rfl, ⟨nd, rfl⟩⟩; (try first | exact ⟨rfl, _, World.drewN_drewN _ _ _⟩ | exact ⟨rfl, _, Eq.trans (World.drewN_drewN _ _ _) (congrArg (World.drewN _) (Nat.add_assoc _ _ _))⟩)) | (go_at_call 43; (with_reducible refine (schismaref01_quick.calls k1 x1_1 t438 t439 _ A5.out).mono ?_); rintro e w' ⟨rfl, ⟨nd, rfl⟩⟩; (try first | exact ⟨rfl, _, World.drewN_drewN _ _ _⟩ | exact ⟨rfl, _, Eq.trans (World.drewN_drewN _ _ _) (congrArg (World.drewN _) (Nat.add_assoc _ _ _))⟩))); go_upto_region 4 with (first | (go_at_call 43; (with_reducible refine (schismaref01_quick.calls k1 x0_1 t436 t437 _ A4.out).mono ?_); rintro e w' ⟨rfl, ⟨nd, rfl⟩⟩; (try first | exact ⟨rfl, _, World.drewN_drewN _ _ _⟩ | exact ⟨rfl, _, Eq.trans (World.drewN_drewN _ _ _) (congrArg (World.drewN _) (Nat.add_assoc _ _ _))⟩)) | (go_at_call 43; (with_reducible refine (schismaref01_quick.calls k1 x1_1 t438 t439 _ A5.out).mono ?_); rintro e w' ⟨rfl, ⟨nd, rfl⟩⟩; (try first | exact ⟨rfl, _, World.drewN_drewN _ _ _⟩ | exact ⟨rfl, _, Eq.trans (World.drewN_drewN _ _ _) (congrArg (World.drewN _) (Nat.add_assoc _ _ _))⟩))))
        (try simp only [Act.put, List.setIfInBounds_toArray, List.set_cons_zero, List.set_cons_succ])
        go_cut [26] (fun v26 wc => ∃ (kq : Nat) (x26_5 : Bool), v26 = .bool x26_5 ∧ Aside0 (schismaref01_Gcd.j1 kq x0_1 x1_1 t436 t438 x26_5 = some r) ∧ Aside0 (kq ≤ k1) ∧ Aside0 (Below w.heap.size w wc))
        case first =>
          have H := HC6.out
          clear HC6
          by_cases c7 : t437 = true
          · subst c7
            have H1 : (schismaref01_Gcd.j1 k1 x0_1 x1_1 t436 t438 t439) = some r := by rw [if_pos rfl] at H; exact H
            clear H
            have H := H1
            clear H1
            have H' := Aside0.mk H
            clear H
            go_wp2
            repeat (go_quiet (fail); try go_wp2)
            go_meet
            case rel => exact ⟨_, (t439), (by first | rfl | (simp; done) | (simp [*]; done)), H', ⟨by have := HK1.out; first | omega | exact Nat.le_refl _⟩, ⟨bq⟩⟩
          · replace c7 := Bool.eq_false_iff.mpr c7
            subst c7
            have H1 : (schismaref01_Gcd.j1 k1 x0_1 x1_1 t436 t438 false) = some r := by rw [if_neg (show ¬ (false = true) by decide)] at H; exact H
            clear H
            have H := H1
            clear H1
            have H' := Aside0.mk H
            clear H
            go_wp2
            repeat (go_quiet (fail); try go_wp2)
            go_meet
            case rel => exact ⟨_, (false), (by first | rfl | (simp; done) | (simp [*]; done)), H', ⟨by have := HK1.out; first | omega | exact Nat.le_refl _⟩, ⟨bq⟩⟩
        case rest =>
          clear HC6
          try clear p2
          try clear c3
          try clear c3b0
          try clear c3b1
          try clear c7
          try clear p2
          obtain ⟨kq, x26_5, rfl, HA, HJ5, HB⟩ := hcut
          cases kq with
          | zero => exact absurd HA.out (by simp [schismaref01_Gcd.j1])
          | succ kj5 =>
            have H := HA.out
            clear HA
            simp only [schismaref01_Gcd.j1] at H
            by_cases c8 : x26_5 = true
            · subst c8
              have H1 : (schismaref01_Gcd.l1 kj5 t436 t438) = some r := by rw [if_pos rfl] at H; exact H
              clear H
              have H := H1
              clear H1
              have H' := Aside0.mk H
              clear H
              go_wp2
              repeat (go_quiet (fail); try go_wp2)
              go_loopg [5, 7] kj5 (fun kq v5 v7 w' => ∃ (x5_3 : Int) (x7_3 : Int), v5 = .int .u64 x5_3 ∧ v7 = .int .u64 x7_3 ∧ Aside0 (schismaref01_Gcd.l1 kq x5_3 x7_3 = some r) ∧ Aside0 (kq ≤ kj5) ∧ Aside0 (Below w.heap.size w w'))
              case atStart => exact ⟨(t436), (t438), (by first | rfl | (simp; done) | (simp [*]; done)), (by first | rfl | (simp; done) | (simp [*]; done)), H', ⟨Nat.le_refl _⟩, ⟨bq⟩⟩
              case round =>
                clear H'
                try clear p2
                try clear c3
                try clear c3b0
                try clear c3b1
                try clear c7
                try clear c8
                try clear p2
                obtain ⟨x5_3, x7_3, rfl, rfl, HA, HK3, HB⟩ := hrel
                cases gk with
                | zero => exact absurd HA.out (by simp [schismaref01_Gcd.l1])
                | succ k3 =>
                  have H := HA.out
                  clear HA
                  simp only [schismaref01_Gcd.l1] at H
                  by_cases c9 : x7_3 > 0
                  · rw [if_pos c9] at H
                    have c9b0 : decide (0 < x7_3) = true := decide_eq_true c9
                    clear c9
                    by_cases c10 : x7_3 = 0
                    · rw [if_pos c10] at H
                      exact absurd H (by simp)
                    · rw [if_neg c10] at H
                      have c10b0 : (x7_3 == 0) = false := beq_eq_false_iff_ne.mpr c10
                      have c10b1 : (x7_3 != 0) = true := bne_iff_ne.mpr c10
                      have H' := Aside0.mk H
                      clear H
                      go_wp2
                      repeat (go_quiet (fail); try go_wp2)
                      go_roundg k3
                      case measure => have := HK1.out; have := HJ5.out; have := HK3.out; omega
                      case rel => exact ⟨(x7_3), (Int.tmod x5_3 x7_3), (by first | rfl | (simp; done) | (simp [*]; done)), (by first | rfl | (simp; done) | (simp [*]; done)), H', ⟨by have := HK1.out; have := HJ5.out; have := HK3.out; omega⟩, ⟨bq⟩⟩
                  · rw [if_neg c9] at H
                    have c9b0 : decide (0 < x7_3) = false := decide_eq_false c9
                    clear c9
                    replace H := Option.bind_eq_some_iff.mp H
                    obtain ⟨t440, A110, H⟩ := H
                    replace H : (some t440) = some r := H
                    have A11 := Aside0.mk A110
                    clear A110
                    obtain rfl := Option.some.inj H
                    go_wp2_with (first | (go_at_call 18; (with_reducible refine (schismaref01_Of.calls x5_3 t440 _ A11.out).mono ?_); rintro e w12 ⟨rfl, hb⟩; replace HB := Aside0.mk (below_step bq hb); (try clear hb); (try clear hb2); (try clear hk); (try clear hi)))
                    repeat (go_quiet (first | (go_at_call 18; (with_reducible refine (schismaref01_Of.calls x5_3 t440 _ A11.out).mono ?_); rintro e w12 ⟨rfl, hb⟩; replace HB := Aside0.mk (below_step bq hb); (try clear hb); (try clear hb2); (try clear hk); (try clear hi))); try go_wp2_with (first | (go_at_call 18; (with_reducible refine (schismaref01_Of.calls x5_3 t440 _ A11.out).mono ?_); rintro e w12 ⟨rfl, hb⟩; replace HB := Aside0.mk (below_step bq hb); (try clear hb); (try clear hb2); (try clear hk); (try clear hi))))
                    go_ret
                    exact ⟨eq_, bq⟩
            · replace c8 := Bool.eq_false_iff.mpr c8
              subst c8
              have H1 : ((schismaref01_DivMod.f kj5 x0_1 x1_1).bind fun bt441 => (schismaref01_Gcd.l0 kj5 x1_1 bt441.2)) = some r := by rw [if_neg (show ¬ (false = true) by decide)] at H; exact H
              clear H
              have H := H1
              clear H1
              replace H := Option.bind_eq_some_iff.mp H
              obtain ⟨⟨t441, t442⟩, A130, H⟩ := H
              replace H : (schismaref01_Gcd.l0 kj5 x1_1 t442) = some r := H
              have A13 := Aside0.mk A130
              clear A130
              have H' := Aside0.mk H
              clear H
              go_wp2_with (first | (go_at_call 34; (with_reducible refine (schismaref01_DivMod.calls kj5 x0_1 x1_1 t441 t442 _ A13.out).mono ?_); rintro e w14 ⟨rfl, hb⟩; replace HB := Aside0.mk (below_step bq hb); (try clear hb); (try clear hb2); (try clear hk); (try clear hi)))
              repeat (go_quiet (first | (go_at_call 34; (with_reducible refine (schismaref01_DivMod.calls kj5 x0_1 x1_1 t441 t442 _ A13.out).mono ?_); rintro e w14 ⟨rfl, hb⟩; replace HB := Aside0.mk (below_step bq hb); (try clear hb); (try clear hb2); (try clear hk); (try clear hi))); try go_wp2_with (first | (go_at_call 34; (with_reducible refine (schismaref01_DivMod.calls kj5 x0_1 x1_1 t441 t442 _ A13.out).mono ?_); rintro e w14 ⟨rfl, hb⟩; replace HB := Aside0.mk (below_step bq hb); (try clear hb); (try clear hb2); (try clear hk); (try clear hi))))
              go_roundg kj5
              case measure => have := HK1.out; have := HJ5.out; omega
              case rel => exact ⟨(x1_1), (t442), (by first | rfl | (simp; done) | (simp [*]; done)), (by first | rfl | (simp; done) | (simp [*]; done)), H', ⟨by have := HK1.out; have := HJ5.out; omega⟩, ⟨bq⟩⟩
def decimal_Gcd.l0 : Nat → ByteArray → ByteArray → Option (ByteArray)
  | 0, _, _ => none
  | k + 1, x0, x1 => if x1.toList = ([48] : List UInt8) then (some x0) else ((decimal_DivMod.f k x0 x1).bind fun bt443 => (if bt443.2.2 = 0 then (decimal_Gcd.l0 k x1 bt443.2.1) else (some (⟨#[]⟩ : ByteArray))))
def decimal_Gcd.f (k : Nat) (a0 : ByteArray) (a1 : ByteArray) : Option (ByteArray) := decimal_Gcd.l0 k a0 a1
theorem decimal_Gcd.mono_l : ∀ k, (∀ y0 y1, LeO (decimal_Gcd.l0 k y0 y1) (decimal_Gcd.l0 (k + 1) y0 y1))
  | 0 => fun _ _ r h => by simp [decimal_Gcd.l0] at h
  | k + 1 => by
    have ih0 := decimal_Gcd.mono_l k
    · intro y0 y1
      unfold decimal_Gcd.l0
      repeat' first
      | (with_reducible exact ih0 _ _)
      | (with_reducible exact decimal_DivMod.mono _ _ _)
      | (with_reducible exact LeO.refl _)
      | (with_reducible exact LeO.none _)
      | (with_reducible refine LeO.ite ?_ ?_)
      | (with_reducible refine LeO.bind ?_ (fun _ => ?_))
      | exact ih0 _ _
      | exact decimal_DivMod.mono _ _ _
      | exact LeO.none _
      | refine LeO.ite ?_ ?_
      | refine LeO.bind ?_ (fun _ => ?_)
theorem decimal_Gcd.mono : ∀ a0 a1 k, LeO (decimal_Gcd.f k a0 a1) (decimal_Gcd.f (k + 1) a0 a1) := by
  intro a0 a1 k
  have ih0 := decimal_Gcd.mono_l k
  unfold decimal_Gcd.f
  repeat' first
      | (with_reducible exact ih0 _ _)
      | (with_reducible exact decimal_DivMod.mono _ _ _)
      | (with_reducible exact LeO.refl _)
      | (with_reducible exact LeO.none _)
      | (with_reducible refine LeO.ite ?_ ?_)
      | (with_reducible refine LeO.bind ?_ (fun _ => ?_))
      | exact ih0 _ _
      | exact decimal_DivMod.mono _ _ _
      | exact LeO.none _
      | refine LeO.ite ?_ ?_
      | refine LeO.bind ?_ (fun _ => ?_)
set_option maxHeartbeats 8000000 in
set_option maxRecDepth 100000 in
theorem decimal_Gcd.calls (k : Nat) (a0 : ByteArray) (a1 : ByteArray) (r : ByteArray) (w : World) (hT : Tab w) (h : decimal_Gcd.f k a0 a1 = some r) :
    Calls Tryd.prog 35 #[.string a0, .string a1] w fun e w' => e = .returned (.string r) ∧ Below w.heap.size w w' := by
  have HT := Aside0.mk hT
  clear hT
  have HB := Aside0.mk (Below.refl w.heap.size w)
  have H : (decimal_Gcd.l0 k a0 a1) = some r := h
  clear h
  have H' := Aside0.mk H
  clear H
  go_enter Tryd.func35, Tryd.ntmps35
  go_wp2
  go_loopg [0, 1] k (fun kq v0 v1 w' => ∃ (x0_1 : ByteArray) (x1_1 : ByteArray), v0 = .string x0_1 ∧ v1 = .string x1_1 ∧ Aside0 (decimal_Gcd.l0 kq x0_1 x1_1 = some r) ∧ Aside0 (kq ≤ k) ∧ Aside0 (Below w.heap.size w w'))
  case atStart => exact ⟨(a0), (a1), (by first | rfl | (simp; done) | (simp [*]; done)), (by first | rfl | (simp; done) | (simp [*]; done)), H', ⟨Nat.le_refl _⟩, ⟨bq⟩⟩
  case round =>
    clear H'
    try clear p2
    obtain ⟨x0_1, x1_1, rfl, rfl, HA, HK1, HB⟩ := hrel
    cases gk with
    | zero => exact absurd HA.out (by simp [decimal_Gcd.l0])
    | succ k1 =>
      have H := HA.out
      clear HA
      simp only [decimal_Gcd.l0] at H
      by_cases c3 : x1_1.toList = ([48] : List UInt8)
      · rw [if_pos c3] at H
        have c3b0 : (x1_1.toList == ([48] : List UInt8)) = true := beq_iff_eq.mpr c3
        have c3b1 : (x1_1.toList != ([48] : List UInt8)) = false := bne_eq_false_iff_eq.mpr c3
        clear c3
        obtain rfl := Option.some.inj H
        go_wp2
        go_ret
        exact ⟨eq_, bq⟩
      · rw [if_neg c3] at H
        have c3b0 : (x1_1.toList == ([48] : List UInt8)) = false := beq_eq_false_iff_ne.mpr c3
        have c3b1 : (x1_1.toList != ([48] : List UInt8)) = true := bne_iff_ne.mpr c3
        replace H := Option.bind_eq_some_iff.mp H
        obtain ⟨⟨t443, t444, t445⟩, A40, H⟩ := H
        replace H : (if t445 = 0 then (decimal_Gcd.l0 k1 x1_1 t444) else (some (⟨#[]⟩ : ByteArray))) = some r := H
        have A4 := Aside0.mk A40
        clear A40
        by_cases c5 : t445 = 0
        · rw [if_pos c5] at H
          have c5b0 : (t445 == 0) = true := beq_iff_eq.mpr c5
          have c5b1 : (t445 != 0) = false := bne_eq_false_iff_eq.mpr c5
          clear c5
          have H' := Aside0.mk H
          clear H
          go_wp2_with (first | ((with_reducible refine gate_callee (f := 20) rfl ?_); refine goesL_ (some 13) rfl rfl Tryd.func20 (by kernel_rfl) rfl #[.string x0_1, .string x1_1] rfl mq ?_; (with_reducible refine (decimal_DivMod.calls (hT := HT.out.below bq) k1 x0_1 x1_1 t443 t444 t445 _ A4.out).mono ?_); rintro e w6 ⟨rfl, hb⟩; refine ⟨_, rfl, ?_⟩; replace HB := Aside0.mk (below_step bq hb); (try clear hb); (try clear hb2); (try clear hk); (try clear hi)))
          go_roundg k1
          case measure => have := HK1.out; omega
          case rel => exact ⟨(x1_1), (t444), (by first | rfl | (simp; done) | (simp [*]; done)), (by first | rfl | (simp; done) | (simp [*]; done)), H', ⟨by have := HK1.out; omega⟩, ⟨bq⟩⟩
        · rw [if_neg c5] at H
          have c5b0 : (t445 == 0) = false := beq_eq_false_iff_ne.mpr c5
          have c5b1 : (t445 != 0) = true := bne_iff_ne.mpr c5
          obtain rfl := Option.some.inj H
          go_wp2_with (first | ((with_reducible refine gate_callee (f := 20) rfl ?_); refine goesL_ (some 13) rfl rfl Tryd.func20 (by kernel_rfl) rfl #[.string x0_1, .string x1_1] rfl mq ?_; (with_reducible refine (decimal_DivMod.calls (hT := HT.out.below bq) k1 x0_1 x1_1 t443 t444 t445 _ A4.out).mono ?_); rintro e w7 ⟨rfl, hb⟩; refine ⟨_, rfl, ?_⟩; replace HB := Aside0.mk (below_step bq hb); (try clear hb); (try clear hb2); (try clear hk); (try clear hi)))
          go_ret
          exact ⟨eq_, bq⟩
def decimal_Mul.f (k : Nat) (a0 : ByteArray) (a1 : ByteArray) : Option (ByteArray) := if (wrap64 ((a0.size : Int) + (a1.size : Int))) ≤ 18 then ((decimal_both.f k a0 a1).bind fun bt446 => ((decimal_Of.f (IntKind.u64.wrap (bt446.1 * bt446.2.1))).bind fun t449 => (some t449))) else ((decimal_cut.f k a0).bind fun t450 => ((decimal_cut.f k a1).bind fun t453 => ((decimal_pieces_times.f k t450 t453).bind fun t456 => ((decimal_pieces_text.f k t456).bind fun t459 => (some t459)))))
theorem decimal_Mul.mono : ∀ a0 a1 k, LeO (decimal_Mul.f k a0 a1) (decimal_Mul.f (k + 1) a0 a1) := by
  intro a0 a1 k
  unfold decimal_Mul.f
  repeat' first
      | (with_reducible exact decimal_both.mono _ _ _)
      | (with_reducible exact decimal_cut.mono _ _)
      | (with_reducible exact decimal_pieces_text.mono _ _)
      | (with_reducible exact decimal_pieces_times.mono _ _ _)
      | (with_reducible exact LeO.refl _)
      | (with_reducible exact LeO.none _)
      | (with_reducible refine LeO.ite ?_ ?_)
      | (with_reducible refine LeO.bind ?_ (fun _ => ?_))
      | exact decimal_both.mono _ _ _
      | exact decimal_cut.mono _ _
      | exact decimal_pieces_text.mono _ _
      | exact decimal_pieces_times.mono _ _ _
      | exact LeO.none _
      | refine LeO.ite ?_ ?_
      | refine LeO.bind ?_ (fun _ => ?_)
set_option maxHeartbeats 8000000 in
set_option maxRecDepth 100000 in
theorem decimal_Mul.calls (k : Nat) (a0 : ByteArray) (a1 : ByteArray) (r : ByteArray) (w : World) (hT : Tab w) (h : decimal_Mul.f k a0 a1 = some r) :
    Calls Tryd.prog 37 #[.string a0, .string a1] w fun e w' => e = .returned (.string r) ∧ Below w.heap.size w w' := by
  have HT := Aside0.mk hT
  clear hT
  have HB := Aside0.mk (Below.refl w.heap.size w)
  have H : (if (wrap64 ((a0.size : Int) + (a1.size : Int))) ≤ 18 then ((decimal_both.f k a0 a1).bind fun bt446 => ((decimal_Of.f (IntKind.u64.wrap (bt446.1 * bt446.2.1))).bind fun t449 => (some t449))) else ((decimal_cut.f k a0).bind fun t450 => ((decimal_cut.f k a1).bind fun t453 => ((decimal_pieces_times.f k t450 t453).bind fun t456 => ((decimal_pieces_text.f k t456).bind fun t459 => (some t459)))))) = some r := h
  clear h
  by_cases c3 : (wrap64 ((a0.size : Int) + (a1.size : Int))) ≤ 18
  · rw [if_pos c3] at H
    have c3b0 : decide ((wrap64 ((a0.size : Int) + (a1.size : Int))) ≤ 18) = true := decide_eq_true c3
    clear c3
    replace H := Option.bind_eq_some_iff.mp H
    obtain ⟨⟨t446, t447, t448⟩, A40, H⟩ := H
    replace H : ((decimal_Of.f (IntKind.u64.wrap (t446 * t447))).bind fun t449 => (some t449)) = some r := H
    have A4 := Aside0.mk A40
    clear A40
    replace H := Option.bind_eq_some_iff.mp H
    obtain ⟨t449, A50, H⟩ := H
    replace H : (some t449) = some r := H
    have A5 := Aside0.mk A50
    clear A50
    obtain rfl := Option.some.inj H
    go_enter Tryd.func37, Tryd.ntmps37
    go_wp2_with (first | ((with_reducible refine gate_callee (f := 44) rfl ?_); refine goesL_ (some 17) rfl rfl Tryd.func44 (by kernel_rfl) rfl #[.string a0, .string a1] rfl mq ?_; (with_reducible refine (decimal_both.calls (hT := HT.out.below bq) k a0 a1 t446 t447 t448 _ A4.out).mono ?_); rintro e w6 ⟨rfl, hb⟩; refine ⟨_, rfl, ?_⟩; replace HB := Aside0.mk (below_step bq hb); (try clear hb); (try clear hb2); (try clear hk); (try clear hi)) | ((with_reducible refine gate_callee (f := 14) rfl ?_); refine goesL_ (some 24) rfl rfl Tryd.func14 (by kernel_rfl) rfl #[.int .u64 (IntKind.u64.wrap (t446 * t447))] rfl mq ?_; (with_reducible refine (decimal_Of.calls (hT := HT.out.below bq) (IntKind.u64.wrap (t446 * t447)) t449 _ A5.out).mono ?_); rintro e w7 ⟨rfl, hb⟩; refine ⟨_, rfl, ?_⟩; replace HB := Aside0.mk (below_step bq hb); (try clear hb); (try clear hb2); (try clear hk); (try clear hi)))
    go_ret
    exact ⟨eq_, bq⟩
  · rw [if_neg c3] at H
    have c3b0 : decide ((wrap64 ((a0.size : Int) + (a1.size : Int))) ≤ 18) = false := decide_eq_false c3
    clear c3
    replace H := Option.bind_eq_some_iff.mp H
    obtain ⟨t450, A80, H⟩ := H
    replace H : ((decimal_cut.f k a1).bind fun t453 => ((decimal_pieces_times.f k t450 t453).bind fun t456 => ((decimal_pieces_text.f k t456).bind fun t459 => (some t459)))) = some r := H
    have A8 := Aside0.mk A80
    clear A80
    replace H := Option.bind_eq_some_iff.mp H
    obtain ⟨t453, A90, H⟩ := H
    replace H : ((decimal_pieces_times.f k t450 t453).bind fun t456 => ((decimal_pieces_text.f k t456).bind fun t459 => (some t459))) = some r := H
    have A9 := Aside0.mk A90
    clear A90
    replace H := Option.bind_eq_some_iff.mp H
    obtain ⟨t456, A100, H⟩ := H
    replace H : ((decimal_pieces_text.f k t456).bind fun t459 => (some t459)) = some r := H
    have A10 := Aside0.mk A100
    clear A100
    replace H := Option.bind_eq_some_iff.mp H
    obtain ⟨t459, A110, H⟩ := H
    replace H : (some t459) = some r := H
    have A11 := Aside0.mk A110
    clear A110
    obtain rfl := Option.some.inj H
    go_enter Tryd.func37, Tryd.ntmps37
    go_wp2_with (first | ((with_reducible refine gate_callee (f := 45) rfl ?_); refine goesL_ (some 26) rfl rfl Tryd.func45 (by kernel_rfl) rfl #[.string a0] rfl mq ?_; (with_reducible refine (decimal_cut.calls k a0 t450 _ A8.out).mono ?_); rintro e w12 ⟨v451, rfl, ho0, hb⟩; refine ⟨_, rfl, ?_⟩; have n0_ := Aside0.mk (Kd.R_lower ho0 (below_size bq)); have n1_ := Aside0.mk (below_step bq hb); clear HB; have HO452 := n0_; have HB := n1_; clear n0_ n1_; (try clear hb); (try clear hb2); (try clear hk); (try clear hi); (try clear ho0)) | ((with_reducible refine gate_callee (f := 45) rfl ?_); refine goesL_ (some 28) rfl rfl Tryd.func45 (by kernel_rfl) rfl #[.string a1] rfl mq ?_; (with_reducible refine (decimal_cut.calls k a1 t453 _ A9.out).mono ?_); rintro e w13 ⟨v454, rfl, ho0, hb⟩; refine ⟨_, rfl, ?_⟩; have n0_ := Aside0.mk (Kd.R_elder' (by (with_reducible repeat (first | apply Kd.R_alloc | apply Kd.R_drewN | apply Kd.R_drew)); exact HO452.out) (Kd.R_base ho0) hb); have n1_ := Aside0.mk (Kd.R_lower (Kd.R_new' ho0 (Kd.R_lt (by (with_reducible repeat (first | apply Kd.R_alloc | apply Kd.R_drewN | apply Kd.R_drew)); exact HO452.out))) (below_size bq)); have n2_ := Aside0.mk (below_step bq hb); clear HO452; clear HB; have HO452 := n0_; have HO455 := n1_; have HB := n2_; clear n0_ n1_ n2_; (try clear hb); (try clear hb2); (try clear hk); (try clear hi); (try clear ho0); obtain ⟨Ao14, co14, eo14⟩ := Kd.R_slice HO452.out; subst eo14; obtain ⟨Ao15, co15, eo15⟩ := Kd.R_slice HO455.out; subst eo15) | ((with_reducible refine gate_callee (f := 54) rfl ?_); refine goesL_ (some 29) rfl rfl Tryd.func54 (by kernel_rfl) rfl #[.slice Ao14 t450.length co14, .slice Ao15 t453.length co15] rfl mq ?_; (with_reducible refine (decimal_pieces_times.calls k _ _ t450 _ _ t453 t456 _ ?side1 ?side2 ?side3 ?side4 A10.out).mono ?_); (case side1 => repeat (first | exact (Kd.R_reads' HO452.out).2.2 | (with_reducible refine Kd.C_alloc ?_ _) | (with_reducible refine Kd.C_drewN ?_ _) | (with_reducible refine Kd.C_drew ?_))); (case side2 => exact (Kd.R_reads' HO452.out).2.1); (case side3 => repeat (first | exact (Kd.R_reads' HO455.out).2.2 | (with_reducible refine Kd.C_alloc ?_ _) | (with_reducible refine Kd.C_drewN ?_ _) | (with_reducible refine Kd.C_drew ?_))); (case side4 => exact (Kd.R_reads' HO455.out).2.1); rintro e w16 ⟨v457, rfl, ho0, hb⟩; refine ⟨_, rfl, ?_⟩; have n0_ := Aside0.mk (Kd.R_elder' (by (with_reducible repeat (first | apply Kd.R_alloc | apply Kd.R_drewN | apply Kd.R_drew)); exact HO452.out) (Kd.R_base ho0) hb); have n1_ := Aside0.mk (Kd.R_elder' (by (with_reducible repeat (first | apply Kd.R_alloc | apply Kd.R_drewN | apply Kd.R_drew)); exact HO455.out) (Kd.R_base ho0) hb); have n2_ := Aside0.mk (Kd.R_lower (Kd.R_new' (Kd.R_new' ho0 (Kd.R_lt (by (with_reducible repeat (first | apply Kd.R_alloc | apply Kd.R_drewN | apply Kd.R_drew)); exact HO452.out))) (Kd.R_lt (by (with_reducible repeat (first | apply Kd.R_alloc | apply Kd.R_drewN | apply Kd.R_drew)); exact HO455.out))) (below_size bq)); have n3_ := Aside0.mk (below_step bq hb); clear HO452; clear HO455; clear HB; have HO452 := n0_; have HO455 := n1_; have HO458 := n2_; have HB := n3_; clear n0_ n1_ n2_ n3_; (try clear hb); (try clear hb2); (try clear hk); (try clear hi); (try clear ho0); obtain ⟨Ao17, co17, eo17⟩ := Kd.R_slice HO458.out; subst eo17) | ((with_reducible refine gate_callee (f := 48) rfl ?_); refine goesL_ (some 30) rfl rfl Tryd.func48 (by kernel_rfl) rfl #[.slice Ao17 t456.length co17] rfl mq ?_; (with_reducible refine (decimal_pieces_text.calls k _ _ t456 t459 _ ?side1 ?side2 A11.out).mono ?_); (case side1 => repeat (first | exact (Kd.R_reads' HO458.out).2.2 | (with_reducible refine Kd.C_alloc ?_ _) | (with_reducible refine Kd.C_drewN ?_ _) | (with_reducible refine Kd.C_drew ?_))); (case side2 => exact (Kd.R_reads' HO458.out).2.1); rintro e w18 ⟨rfl, hb⟩; refine ⟨_, rfl, ?_⟩; have n0_ := Aside0.mk (Kd.R_below (by (with_reducible repeat (first | apply Kd.R_alloc | apply Kd.R_drewN | apply Kd.R_drew)); exact HO452.out) hb); have n1_ := Aside0.mk (Kd.R_below (by (with_reducible repeat (first | apply Kd.R_alloc | apply Kd.R_drewN | apply Kd.R_drew)); exact HO455.out) hb); have n2_ := Aside0.mk (Kd.R_below (by (with_reducible repeat (first | apply Kd.R_alloc | apply Kd.R_drewN | apply Kd.R_drew)); exact HO458.out) hb); have n3_ := Aside0.mk (below_step bq hb); clear HO452; clear HO455; clear HO458; clear HB; have HO452 := n0_; have HO455 := n1_; have HO458 := n2_; have HB := n3_; clear n0_ n1_ n2_ n3_; (try clear hb); (try clear hb2); (try clear hk); (try clear hi)))
    go_ret
    exact ⟨eq_, bq⟩
def decimal_Lcm.j0 : Nat → ByteArray → ByteArray → Bool → Option (ByteArray)
  | 0, _, _, _ => none
  | k + 1, x0, x1, x13 => if x13 = true then (some (⟨#[48]⟩ : ByteArray)) else ((decimal_Gcd.f k x0 x1).bind fun t460 => ((decimal_DivMod.f k x0 t460).bind fun bt461 => (if bt461.2.2 = 0 then ((decimal_Mul.f k bt461.1 x1).bind fun t464 => (some t464)) else (some (⟨#[]⟩ : ByteArray)))))
def decimal_Lcm.f (k : Nat) (a0 : ByteArray) (a1 : ByteArray) : Option (ByteArray) := if a0.toList = ([48] : List UInt8) then (decimal_Lcm.j0 k a0 a1 true) else (decimal_Lcm.j0 k a0 a1 (a1.toList == ([48] : List UInt8)))
theorem decimal_Lcm.mono_l : ∀ k, (∀ y0 y1 y2, LeO (decimal_Lcm.j0 k y0 y1 y2) (decimal_Lcm.j0 (k + 1) y0 y1 y2))
  | 0 => fun _ _ _ r h => by simp [decimal_Lcm.j0] at h
  | k + 1 => by
    have ih0 := decimal_Lcm.mono_l k
    · intro y0 y1 y2
      unfold decimal_Lcm.j0
      repeat' first
      | (with_reducible exact ih0 _ _ _)
      | (with_reducible exact decimal_DivMod.mono _ _ _)
      | (with_reducible exact decimal_Gcd.mono _ _ _)
      | (with_reducible exact decimal_Mul.mono _ _ _)
      | (with_reducible exact LeO.refl _)
      | (with_reducible exact LeO.none _)
      | (with_reducible refine LeO.ite ?_ ?_)
      | (with_reducible refine LeO.bind ?_ (fun _ => ?_))
      | exact ih0 _ _ _
      | exact decimal_DivMod.mono _ _ _
      | exact decimal_Gcd.mono _ _ _
      | exact decimal_Mul.mono _ _ _
      | exact LeO.none _
      | refine LeO.ite ?_ ?_
      | refine LeO.bind ?_ (fun _ => ?_)
theorem decimal_Lcm.mono : ∀ a0 a1 k, LeO (decimal_Lcm.f k a0 a1) (decimal_Lcm.f (k + 1) a0 a1) := by
  intro a0 a1 k
  have ih0 := decimal_Lcm.mono_l k
  unfold decimal_Lcm.f
  repeat' first
      | (with_reducible exact ih0 _ _ _)
      | (with_reducible exact decimal_DivMod.mono _ _ _)
      | (with_reducible exact decimal_Gcd.mono _ _ _)
      | (with_reducible exact decimal_Mul.mono _ _ _)
      | (with_reducible exact LeO.refl _)
      | (with_reducible exact LeO.none _)
      | (with_reducible refine LeO.ite ?_ ?_)
      | (with_reducible refine LeO.bind ?_ (fun _ => ?_))
      | exact ih0 _ _ _
      | exact decimal_DivMod.mono _ _ _
      | exact decimal_Gcd.mono _ _ _
      | exact decimal_Mul.mono _ _ _
      | exact LeO.none _
      | refine LeO.ite ?_ ?_
      | refine LeO.bind ?_ (fun _ => ?_)
set_option maxHeartbeats 8000000 in
set_option maxRecDepth 100000 in
theorem decimal_Lcm.calls (k : Nat) (a0 : ByteArray) (a1 : ByteArray) (r : ByteArray) (w : World) (hT : Tab w) (h : decimal_Lcm.f k a0 a1 = some r) :
    Calls Tryd.prog 36 #[.string a0, .string a1] w fun e w' => e = .returned (.string r) ∧ Below w.heap.size w w' := by
  have HT := Aside0.mk hT
  clear hT
  have HB := Aside0.mk (Below.refl w.heap.size w)
  have H : (if a0.toList = ([48] : List UInt8) then (decimal_Lcm.j0 k a0 a1 true) else (decimal_Lcm.j0 k a0 a1 (a1.toList == ([48] : List UInt8)))) = some r := h
  clear h
  have HC3 := Aside0.mk H
  clear H
  go_enter Tryd.func36, Tryd.ntmps36
  go_upto_region 1 with (fail)
  go_cut [13] (fun v13 wc => ∃ (kq : Nat) (x13_2 : Bool), v13 = .bool x13_2 ∧ Aside0 (decimal_Lcm.j0 kq a0 a1 x13_2 = some r) ∧ Aside0 (kq ≤ k) ∧ Aside0 (Below w.heap.size w wc))
  case first =>
    have H := HC3.out
    clear HC3
    by_cases c4 : a0.toList = ([48] : List UInt8)
    · rw [if_pos c4] at H
      have c4b0 : (a0.toList == ([48] : List UInt8)) = true := beq_iff_eq.mpr c4
      have c4b1 : (a0.toList != ([48] : List UInt8)) = false := bne_eq_false_iff_eq.mpr c4
      clear c4
      (first | rw [c4b0] | (simp only [i64_w, i32_w]; rw [c4b0]) | skip)
      have H' := Aside0.mk H
      clear H
      go_wp2
      go_meet
      case rel => exact ⟨_, (true), (by first | rfl | (simp; done) | (simp [*]; done)), H', ⟨by first | omega | exact Nat.le_refl _⟩, ⟨bq⟩⟩
    · rw [if_neg c4] at H
      have c4b0 : (a0.toList == ([48] : List UInt8)) = false := beq_eq_false_iff_ne.mpr c4
      have c4b1 : (a0.toList != ([48] : List UInt8)) = true := bne_iff_ne.mpr c4
      (first | rw [c4b0] | (simp only [i64_w, i32_w]; rw [c4b0]) | skip)
      have H' := Aside0.mk H
      clear H
      go_wp2
      go_meet
      case rel => exact ⟨_, ((a1.toList == ([48] : List UInt8))), (by first | rfl | (simp; done) | (simp [*]; done)), H', ⟨by first | omega | exact Nat.le_refl _⟩, ⟨bq⟩⟩
  case rest =>
    clear HC3
    try clear p2
    try clear c3
    try clear c4
    try clear c4b0
    try clear c4b1
    obtain ⟨kq, x13_2, rfl, HA, HJ2, HB⟩ := hcut
    cases kq with
    | zero => exact absurd HA.out (by simp [decimal_Lcm.j0])
    | succ kj2 =>
      have H := HA.out
      clear HA
      simp only [decimal_Lcm.j0] at H
      by_cases c5 : x13_2 = true
      · subst c5
        have H1 : (some (⟨#[48]⟩ : ByteArray)) = some r := by rw [if_pos rfl] at H; exact H
        clear H
        have H := H1
        clear H1
        obtain rfl := Option.some.inj H
        go_wp2
        go_ret
        exact ⟨eq_, bq⟩
      · replace c5 := Bool.eq_false_iff.mpr c5
        subst c5
        have H1 : ((decimal_Gcd.f kj2 a0 a1).bind fun t460 => ((decimal_DivMod.f kj2 a0 t460).bind fun bt461 => (if bt461.2.2 = 0 then ((decimal_Mul.f kj2 bt461.1 a1).bind fun t464 => (some t464)) else (some (⟨#[]⟩ : ByteArray))))) = some r := by rw [if_neg (show ¬ (false = true) by decide)] at H; exact H
        clear H
        have H := H1
        clear H1
        replace H := Option.bind_eq_some_iff.mp H
        obtain ⟨t460, A60, H⟩ := H
        replace H : ((decimal_DivMod.f kj2 a0 t460).bind fun bt461 => (if bt461.2.2 = 0 then ((decimal_Mul.f kj2 bt461.1 a1).bind fun t464 => (some t464)) else (some (⟨#[]⟩ : ByteArray)))) = some r := H
        have A6 := Aside0.mk A60
        clear A60
        replace H := Option.bind_eq_some_iff.mp H
        obtain ⟨⟨t461, t462, t463⟩, A70, H⟩ := H
        replace H : (if t463 = 0 then ((decimal_Mul.f kj2 t461 a1).bind fun t464 => (some t464)) else (some (⟨#[]⟩ : ByteArray))) = some r := H
        have A7 := Aside0.mk A70
        clear A70
        by_cases c8 : t463 = 0
        · rw [if_pos c8] at H
          have c8b0 : (t463 == 0) = true := beq_iff_eq.mpr c8
          have c8b1 : (t463 != 0) = false := bne_eq_false_iff_eq.mpr c8
          clear c8
          replace H := Option.bind_eq_some_iff.mp H
          obtain ⟨t464, A90, H⟩ := H
          replace H : (some t464) = some r := H
          have A9 := Aside0.mk A90
          clear A90
          obtain rfl := Option.some.inj H
          go_wp2_with (first | ((with_reducible refine gate_callee (f := 35) rfl ?_); refine goesL_ (some 18) rfl rfl Tryd.func35 (by kernel_rfl) rfl #[.string a0, .string a1] rfl mq ?_; (with_reducible refine (decimal_Gcd.calls (hT := HT.out.below bq) kj2 a0 a1 t460 _ A6.out).mono ?_); rintro e w10 ⟨rfl, hb⟩; refine ⟨_, rfl, ?_⟩; replace HB := Aside0.mk (below_step bq hb); (try clear hb); (try clear hb2); (try clear hk); (try clear hi)) | ((with_reducible refine gate_callee (f := 20) rfl ?_); refine goesL_ (some 19) rfl rfl Tryd.func20 (by kernel_rfl) rfl #[.string a0, .string t460] rfl mq ?_; (with_reducible refine (decimal_DivMod.calls (hT := HT.out.below bq) kj2 a0 t460 t461 t462 t463 _ A7.out).mono ?_); rintro e w11 ⟨rfl, hb⟩; refine ⟨_, rfl, ?_⟩; replace HB := Aside0.mk (below_step bq hb); (try clear hb); (try clear hb2); (try clear hk); (try clear hi)) | ((with_reducible refine gate_callee (f := 37) rfl ?_); refine goesL_ (some 27) rfl rfl Tryd.func37 (by kernel_rfl) rfl #[.string t461, .string a1] rfl mq ?_; (with_reducible refine (decimal_Mul.calls (hT := HT.out.below bq) kj2 t461 a1 t464 _ A9.out).mono ?_); rintro e w12 ⟨rfl, hb⟩; refine ⟨_, rfl, ?_⟩; replace HB := Aside0.mk (below_step bq hb); (try clear hb); (try clear hb2); (try clear hk); (try clear hi)))
          go_ret
          exact ⟨eq_, bq⟩
        · rw [if_neg c8] at H
          have c8b0 : (t463 == 0) = false := beq_eq_false_iff_ne.mpr c8
          have c8b1 : (t463 != 0) = true := bne_iff_ne.mpr c8
          obtain rfl := Option.some.inj H
          go_wp2_with (first | ((with_reducible refine gate_callee (f := 35) rfl ?_); refine goesL_ (some 18) rfl rfl Tryd.func35 (by kernel_rfl) rfl #[.string a0, .string a1] rfl mq ?_; (with_reducible refine (decimal_Gcd.calls (hT := HT.out.below bq) kj2 a0 a1 t460 _ A6.out).mono ?_); rintro e w13 ⟨rfl, hb⟩; refine ⟨_, rfl, ?_⟩; replace HB := Aside0.mk (below_step bq hb); (try clear hb); (try clear hb2); (try clear hk); (try clear hi)) | ((with_reducible refine gate_callee (f := 20) rfl ?_); refine goesL_ (some 19) rfl rfl Tryd.func20 (by kernel_rfl) rfl #[.string a0, .string t460] rfl mq ?_; (with_reducible refine (decimal_DivMod.calls (hT := HT.out.below bq) kj2 a0 t460 t461 t462 t463 _ A7.out).mono ?_); rintro e w14 ⟨rfl, hb⟩; refine ⟨_, rfl, ?_⟩; replace HB := Aside0.mk (below_step bq hb); (try clear hb); (try clear hb2); (try clear hk); (try clear hi)))
          go_ret
          exact ⟨eq_, bq⟩
mutual
def schismalaw01_DecimalCommon.j0 : Nat → List Int → List Int → Bool → Option (Bool)
  | 0, _, _, _ => none
  | k + 1, x0, x1, x20 => if x20 = true then ((schismalaw01_known.f k).bind fun t466 => (some t466)) else ((schismalaw01_Make.f k x0).bind fun t467 => ((schismalaw01_Make.f k x1).bind fun t468 => ((schismaref01_Gcd.f k t467 t468).bind fun t469 => (if t467.toList = ([48] : List UInt8) then (schismalaw01_DecimalCommon.j1 k t467 t468 t469 (⟨#[48]⟩ : ByteArray) false) else (schismalaw01_DecimalCommon.j1 k t467 t468 t469 (⟨#[48]⟩ : ByteArray) (t468.toList != ([48] : List UInt8)))))))
def schismalaw01_DecimalCommon.j1 : Nat → ByteArray → ByteArray → ByteArray → ByteArray → Bool → Option (Bool)
  | 0, _, _, _, _, _ => none
  | k + 1, x5, x6, x7, x8, x34 => if x34 = true then ((schismaref01_Mul.f k x5 x6).bind fun t470 => ((schismaref01_DivMod.f k t470 x7).bind fun bt471 => ((decimal_Gcd.f k x5 x6).bind fun t473 => (if t473.toList = x7.toList then ((decimal_Lcm.f k x5 x6).bind fun t474 => (some (t474.toList == bt471.1.toList))) else (some false))))) else ((decimal_Gcd.f k x5 x6).bind fun t475 => (if t475.toList = x7.toList then ((decimal_Lcm.f k x5 x6).bind fun t476 => (some (t476.toList == x8.toList))) else (some false)))
end
def schismalaw01_DecimalCommon.f (k : Nat) (l0 : List Int) (l1 : List Int) : Option (Bool) := (schismalaw01_known.f k).bind fun t465 => (if t465 = true then (if (l0.length : Int) > 40 then (schismalaw01_DecimalCommon.j0 k l0 l1 true) else (schismalaw01_DecimalCommon.j0 k l0 l1 (decide ((l1.length : Int) > 40)))) else (schismalaw01_DecimalCommon.j0 k l0 l1 true))
theorem schismalaw01_DecimalCommon.mono_l : ∀ k, (∀ y0 y1 y2, LeO (schismalaw01_DecimalCommon.j0 k y0 y1 y2) (schismalaw01_DecimalCommon.j0 (k + 1) y0 y1 y2)) ∧ (∀ y0 y1 y2 y3 y4, LeO (schismalaw01_DecimalCommon.j1 k y0 y1 y2 y3 y4) (schismalaw01_DecimalCommon.j1 (k + 1) y0 y1 y2 y3 y4))
  | 0 => ⟨fun _ _ _ r h => by simp [schismalaw01_DecimalCommon.j0] at h, fun _ _ _ _ _ r h => by simp [schismalaw01_DecimalCommon.j1] at h⟩
  | k + 1 => by
    obtain ⟨ih0, ih1⟩ := schismalaw01_DecimalCommon.mono_l k
    refine ⟨?_, ?_⟩
    · intro y0 y1 y2
      unfold schismalaw01_DecimalCommon.j0
      repeat' first
      | (with_reducible exact ih0 _ _ _)
      | (with_reducible exact ih1 _ _ _ _ _)
      | (with_reducible exact decimal_Gcd.mono _ _ _)
      | (with_reducible exact decimal_Lcm.mono _ _ _)
      | (with_reducible exact schismalaw01_Make.mono _ _)
      | (with_reducible exact schismalaw01_known.mono _)
      | (with_reducible exact schismaref01_DivMod.mono _ _ _)
      | (with_reducible exact schismaref01_Gcd.mono _ _ _)
      | (with_reducible exact schismaref01_Mul.mono _ _ _)
      | (with_reducible exact LeO.refl _)
      | (with_reducible exact LeO.none _)
      | (with_reducible refine LeO.ite ?_ ?_)
      | (with_reducible refine LeO.bind ?_ (fun _ => ?_))
      | exact ih0 _ _ _
      | exact ih1 _ _ _ _ _
      | exact decimal_Gcd.mono _ _ _
      | exact decimal_Lcm.mono _ _ _
      | exact schismalaw01_Make.mono _ _
      | exact schismalaw01_known.mono _
      | exact schismaref01_DivMod.mono _ _ _
      | exact schismaref01_Gcd.mono _ _ _
      | exact schismaref01_Mul.mono _ _ _
      | exact LeO.none _
      | refine LeO.ite ?_ ?_
      | refine LeO.bind ?_ (fun _ => ?_)
    · intro y0 y1 y2 y3 y4
      unfold schismalaw01_DecimalCommon.j1
      repeat' first
      | (with_reducible exact ih0 _ _ _)
      | (with_reducible exact ih1 _ _ _ _ _)
      | (with_reducible exact decimal_Gcd.mono _ _ _)
      | (with_reducible exact decimal_Lcm.mono _ _ _)
      | (with_reducible exact schismalaw01_Make.mono _ _)
      | (with_reducible exact schismalaw01_known.mono _)
      | (with_reducible exact schismaref01_DivMod.mono _ _ _)
      | (with_reducible exact schismaref01_Gcd.mono _ _ _)
      | (with_reducible exact schismaref01_Mul.mono _ _ _)
      | (with_reducible exact LeO.refl _)
      | (with_reducible exact LeO.none _)
      | (with_reducible refine LeO.ite ?_ ?_)
      | (with_reducible refine LeO.bind ?_ (fun _ => ?_))
      | exact ih0 _ _ _
      | exact ih1 _ _ _ _ _
      | exact decimal_Gcd.mono _ _ _
      | exact decimal_Lcm.mono _ _ _
      | exact schismalaw01_Make.mono _ _
      | exact schismalaw01_known.mono _
      | exact schismaref01_DivMod.mono _ _ _
      | exact schismaref01_Gcd.mono _ _ _
      | exact schismaref01_Mul.mono _ _ _
      | exact LeO.none _
      | refine LeO.ite ?_ ?_
      | refine LeO.bind ?_ (fun _ => ?_)
theorem schismalaw01_DecimalCommon.mono : ∀ a0 a1 k, LeO (schismalaw01_DecimalCommon.f k a0 a1) (schismalaw01_DecimalCommon.f (k + 1) a0 a1) := by
  intro a0 a1 k
  obtain ⟨ih0, ih1⟩ := schismalaw01_DecimalCommon.mono_l k
  unfold schismalaw01_DecimalCommon.f
  repeat' first
      | (with_reducible exact ih0 _ _ _)
      | (with_reducible exact ih1 _ _ _ _ _)
      | (with_reducible exact decimal_Gcd.mono _ _ _)
      | (with_reducible exact decimal_Lcm.mono _ _ _)
      | (with_reducible exact schismalaw01_Make.mono _ _)
      | (with_reducible exact schismalaw01_known.mono _)
      | (with_reducible exact schismaref01_DivMod.mono _ _ _)
      | (with_reducible exact schismaref01_Gcd.mono _ _ _)
      | (with_reducible exact schismaref01_Mul.mono _ _ _)
      | (with_reducible exact LeO.refl _)
      | (with_reducible exact LeO.none _)
      | (with_reducible refine LeO.ite ?_ ?_)
      | (with_reducible refine LeO.bind ?_ (fun _ => ?_))
      | exact ih0 _ _ _
      | exact ih1 _ _ _ _ _
      | exact decimal_Gcd.mono _ _ _
      | exact decimal_Lcm.mono _ _ _
      | exact schismalaw01_Make.mono _ _
      | exact schismalaw01_known.mono _
      | exact schismaref01_DivMod.mono _ _ _
      | exact schismaref01_Gcd.mono _ _ _
      | exact schismaref01_Mul.mono _ _ _
      | exact LeO.none _
      | refine LeO.ite ?_ ?_
      | refine LeO.bind ?_ (fun _ => ?_)
set_option maxHeartbeats 8000000 in
set_option maxRecDepth 100000 in
theorem schismalaw01_DecimalCommon.calls (k : Nat) (A0 : Option Addr) (c0 : Nat) (l0 : List Int) (A1 : Option Addr) (c1 : Nat) (l1 : List Int) (r : Bool) (w : World) (hr0 : Kd.C (Kd.int .u8) w A0 l0.length l0) (hc0 : l0.length ≤ c0) (hr1 : Kd.C (Kd.int .u8) w A1 l1.length l1) (hc1 : l1.length ≤ c1) (hT : Tab w) (h : schismalaw01_DecimalCommon.f k l0 l1 = some r) :
    Calls Tryd.prog 9 #[.slice A0 l0.length c0, .slice A1 l1.length c1] w fun e w' => e = .returned (.bool r) ∧ Below w.heap.size w w' := by
  have HT := Aside0.mk hT
  clear hT
  have HR0 := Aside0.mk hr0
  have HC0 := Aside0.mk hc0
  clear hr0 hc0
  have HR1 := Aside0.mk hr1
  have HC1 := Aside0.mk hc1
  clear hr1 hc1
  have HB := Aside0.mk (Below.refl w.heap.size w)
  have H : ((schismalaw01_known.f k).bind fun t465 => (if t465 = true then (if (l0.length : Int) > 40 then (schismalaw01_DecimalCommon.j0 k l0 l1 true) else (schismalaw01_DecimalCommon.j0 k l0 l1 (decide ((l1.length : Int) > 40)))) else (schismalaw01_DecimalCommon.j0 k l0 l1 true))) = some r := h
  clear h
  have HC3 := Aside0.mk H
  clear H
  go_enter Tryd.func9, Tryd.ntmps9
  go_upto_region 1 with (fail)
  go_cut [20] (fun v20 wc => ∃ (kq : Nat) (x20_2 : Bool), v20 = .bool x20_2 ∧ Aside0 (schismalaw01_DecimalCommon.j0 kq l0 l1 x20_2 = some r) ∧ Aside0 (kq ≤ k) ∧ Aside0 (Below w.heap.size w wc))
  case first =>
    have H := HC3.out
    clear HC3
    replace H := Option.bind_eq_some_iff.mp H
    obtain ⟨t465, A40, H⟩ := H
    replace H : (if t465 = true then (if (l0.length : Int) > 40 then (schismalaw01_DecimalCommon.j0 k l0 l1 true) else (schismalaw01_DecimalCommon.j0 k l0 l1 (decide ((l1.length : Int) > 40)))) else (schismalaw01_DecimalCommon.j0 k l0 l1 true)) = some r := H
    have A4 := Aside0.mk A40
    clear A40
    by_cases c5 : t465 = true
    · subst c5
      have H1 : (if (l0.length : Int) > 40 then (schismalaw01_DecimalCommon.j0 k l0 l1 true) else (schismalaw01_DecimalCommon.j0 k l0 l1 (decide ((l1.length : Int) > 40)))) = some r := by rw [if_pos rfl] at H; exact H
      clear H
      have H := H1
      clear H1
      by_cases c6 : (l0.length : Int) > 40
      · rw [if_pos c6] at H
        have c6b0 : decide (40 < (l0.length : Int)) = true := decide_eq_true c6
        have c6b1 : decide (40 < l0.length) = true := decide_eq_true (by omega)
        clear c6
        (first | rw [c6b0] | (simp only [i64_w, i32_w]; rw [c6b0]) | skip)
        have H' := Aside0.mk H
        clear H
        go_wp2_with (first | ((with_reducible refine gate_callee (f := 13) rfl ?_); refine goesL_ (some 9) rfl rfl Tryd.func13 (by kernel_rfl) rfl #[] rfl mq ?_; (with_reducible refine (schismalaw01_known.calls (hT := HT.out.below bq) k  true _ A4.out).mono ?_); rintro e w7 ⟨rfl, hb⟩; refine ⟨_, rfl, ?_⟩; replace HB := Aside0.mk (below_step bq hb); (try clear hb); (try clear hb2); (try clear hk); (try clear hi)))
        go_meet
        case rel => exact ⟨_, (true), (by first | rfl | (simp; done) | (simp [*]; done)), H', ⟨by first | omega | exact Nat.le_refl _⟩, ⟨bq⟩⟩
      · rw [if_neg c6] at H
        have c6b0 : decide (40 < (l0.length : Int)) = false := decide_eq_false c6
        have c6b1 : decide (40 < l0.length) = false := decide_eq_false (by omega)
        clear c6
        (first | rw [c6b0] | (simp only [i64_w, i32_w]; rw [c6b0]) | skip)
        have H' := Aside0.mk H
        clear H
        go_wp2_with (first | ((with_reducible refine gate_callee (f := 13) rfl ?_); refine goesL_ (some 9) rfl rfl Tryd.func13 (by kernel_rfl) rfl #[] rfl mq ?_; (with_reducible refine (schismalaw01_known.calls (hT := HT.out.below bq) k  true _ A4.out).mono ?_); rintro e w8 ⟨rfl, hb⟩; refine ⟨_, rfl, ?_⟩; replace HB := Aside0.mk (below_step bq hb); (try clear hb); (try clear hb2); (try clear hk); (try clear hi)))
        go_meet
        case rel => exact ⟨_, (decide ((l1.length : Int) > 40)), (by first | rfl | (simp; done) | (simp [*]; done)), H', ⟨by first | omega | exact Nat.le_refl _⟩, ⟨bq⟩⟩
    · replace c5 := Bool.eq_false_iff.mpr c5
      subst c5
      have H1 : (schismalaw01_DecimalCommon.j0 k l0 l1 true) = some r := by rw [if_neg (show ¬ (false = true) by decide)] at H; exact H
      clear H
      have H := H1
      clear H1
      have H' := Aside0.mk H
      clear H
      go_wp2_with (first | ((with_reducible refine gate_callee (f := 13) rfl ?_); refine goesL_ (some 9) rfl rfl Tryd.func13 (by kernel_rfl) rfl #[] rfl mq ?_; (with_reducible refine (schismalaw01_known.calls (hT := HT.out.below bq) k  false _ A4.out).mono ?_); rintro e w9 ⟨rfl, hb⟩; refine ⟨_, rfl, ?_⟩; replace HB := Aside0.mk (below_step bq hb); (try clear hb); (try clear hb2); (try clear hk); (try clear hi)))
      go_meet
      case rel => exact ⟨_, (true), (by first | rfl | (simp; done) | (simp [*]; done)), H', ⟨by first | omega | exact Nat.le_refl _⟩, ⟨bq⟩⟩
  case rest =>
    clear HC3
    try clear c1
    try clear p2
    try clear c5
    try clear c6
    try clear c6b0
    try clear c6b1
    try clear c9
    obtain ⟨kq, x20_2, rfl, HA, HJ2, HB⟩ := hcut
    cases kq with
    | zero => exact absurd HA.out (by simp [schismalaw01_DecimalCommon.j0])
    | succ kj2 =>
      have H := HA.out
      clear HA
      simp only [schismalaw01_DecimalCommon.j0] at H
      by_cases c10 : x20_2 = true
      · subst c10
        have H1 : ((schismalaw01_known.f kj2).bind fun t466 => (some t466)) = some r := by rw [if_pos rfl] at H; exact H
        clear H
        have H := H1
        clear H1
        replace H := Option.bind_eq_some_iff.mp H
        obtain ⟨t466, A110, H⟩ := H
        replace H : (some t466) = some r := H
        have A11 := Aside0.mk A110
        clear A110
        obtain rfl := Option.some.inj H
        go_wp2_with (first | ((with_reducible refine gate_callee (f := 13) rfl ?_); refine goesL_ (some 21) rfl rfl Tryd.func13 (by kernel_rfl) rfl #[] rfl mq ?_; (with_reducible refine (schismalaw01_known.calls (hT := HT.out.below bq) kj2  t466 _ A11.out).mono ?_); rintro e w12 ⟨rfl, hb⟩; refine ⟨_, rfl, ?_⟩; replace HB := Aside0.mk (below_step bq hb); (try clear hb); (try clear hb2); (try clear hk); (try clear hi)))
        go_ret
        exact ⟨eq_, bq⟩
      · replace c10 := Bool.eq_false_iff.mpr c10
        subst c10
        have H1 : ((schismalaw01_Make.f kj2 l0).bind fun t467 => ((schismalaw01_Make.f kj2 l1).bind fun t468 => ((schismaref01_Gcd.f kj2 t467 t468).bind fun t469 => (if t467.toList = ([48] : List UInt8) then (schismalaw01_DecimalCommon.j1 kj2 t467 t468 t469 (⟨#[48]⟩ : ByteArray) false) else (schismalaw01_DecimalCommon.j1 kj2 t467 t468 t469 (⟨#[48]⟩ : ByteArray) (t468.toList != ([48] : List UInt8))))))) = some r := by rw [if_neg (show ¬ (false = true) by decide)] at H; exact H
        clear H
        have H := H1
        clear H1
        replace H := Option.bind_eq_some_iff.mp H
        obtain ⟨t467, A130, H⟩ := H
        replace H : ((schismalaw01_Make.f kj2 l1).bind fun t468 => ((schismaref01_Gcd.f kj2 t467 t468).bind fun t469 => (if t467.toList = ([48] : List UInt8) then (schismalaw01_DecimalCommon.j1 kj2 t467 t468 t469 (⟨#[48]⟩ : ByteArray) false) else (schismalaw01_DecimalCommon.j1 kj2 t467 t468 t469 (⟨#[48]⟩ : ByteArray) (t468.toList != ([48] : List UInt8)))))) = some r := H
        have A13 := Aside0.mk A130
        clear A130
        replace H := Option.bind_eq_some_iff.mp H
        obtain ⟨t468, A140, H⟩ := H
        replace H : ((schismaref01_Gcd.f kj2 t467 t468).bind fun t469 => (if t467.toList = ([48] : List UInt8) then (schismalaw01_DecimalCommon.j1 kj2 t467 t468 t469 (⟨#[48]⟩ : ByteArray) false) else (schismalaw01_DecimalCommon.j1 kj2 t467 t468 t469 (⟨#[48]⟩ : ByteArray) (t468.toList != ([48] : List UInt8))))) = some r := H
        have A14 := Aside0.mk A140
        clear A140
        replace H := Option.bind_eq_some_iff.mp H
        obtain ⟨t469, A150, H⟩ := H
        replace H : (if t467.toList = ([48] : List UInt8) then (schismalaw01_DecimalCommon.j1 kj2 t467 t468 t469 (⟨#[48]⟩ : ByteArray) false) else (schismalaw01_DecimalCommon.j1 kj2 t467 t468 t469 (⟨#[48]⟩ : ByteArray) (t468.toList != ([48] : List UInt8)))) = some r := H
        have A15 := Aside0.mk A150
        clear A150
        have HC16 := Aside0.mk H
        clear H
        go_upto_region 5 with (first | ((with_reducible refine gate_callee (f := 16) rfl ?_); refine goesL_ (some 23) rfl rfl Tryd.func16 (by kernel_rfl) rfl #[.slice A0 l0.length c0] rfl mq ?_; (with_reducible refine (schismalaw01_Make.calls kj2 _ _ l0 t467 _ ?side1 ?side2 A13.out).mono ?_); (case side1 => repeat (first | exact (Kd.C_below HR0.out HB.out) | (with_reducible refine Kd.C_alloc ?_ _) | (with_reducible refine Kd.C_drewN ?_ _) | (with_reducible refine Kd.C_drew ?_))); (case side2 => exact HC0.out); rintro e w17 ⟨rfl, hb⟩; refine ⟨_, rfl, ?_⟩; replace HB := Aside0.mk (below_step bq hb); (try clear hb); (try clear hb2); (try clear hk); (try clear hi)) | ((with_reducible refine gate_callee (f := 16) rfl ?_); refine goesL_ (some 25) rfl rfl Tryd.func16 (by kernel_rfl) rfl #[.slice A1 l1.length c1] rfl mq ?_; (with_reducible refine (schismalaw01_Make.calls kj2 _ _ l1 t468 _ ?side1 ?side2 A14.out).mono ?_); (case side1 => repeat (first | exact (Kd.C_below HR1.out HB.out) | (with_reducible refine Kd.C_alloc ?_ _) | (with_reducible refine Kd.C_drewN ?_ _) | (with_reducible refine Kd.C_drew ?_))); (case side2 => exact HC1.out); rintro e w18 ⟨rfl, hb⟩; refine ⟨_, rfl, ?_⟩; replace HB := Aside0.mk (below_step bq hb); (try clear hb); (try clear hb2); (try clear hk); (try clear hi)) | ((with_reducible refine gate_callee (f := 33) rfl ?_); refine goesL_ (some 28) rfl rfl Tryd.func33 (by kernel_rfl) rfl #[.string t467, .string t468] rfl mq ?_; (with_reducible refine (schismaref01_Gcd.calls kj2 t467 t468 t469 _ A15.out).mono ?_); rintro e w19 ⟨rfl, hb⟩; refine ⟨_, rfl, ?_⟩; replace HB := Aside0.mk (below_step bq hb); (try clear hb); (try clear hb2); (try clear hk); (try clear hi)))
        (try simp only [Act.put, List.setIfInBounds_toArray, List.set_cons_zero, List.set_cons_succ])
        go_cut [34] (fun v34 wc => ∃ (kq : Nat) (x34_15 : Bool), v34 = .bool x34_15 ∧ Aside0 (schismalaw01_DecimalCommon.j1 kq t467 t468 t469 (⟨#[48]⟩ : ByteArray) x34_15 = some r) ∧ Aside0 (kq ≤ kj2) ∧ Aside0 (Below w.heap.size w wc))
        case first =>
          have H := HC16.out
          clear HC16
          by_cases c20 : t467.toList = ([48] : List UInt8)
          · rw [if_pos c20] at H
            have c20b0 : (t467.toList == ([48] : List UInt8)) = true := beq_iff_eq.mpr c20
            have c20b1 : (t467.toList != ([48] : List UInt8)) = false := bne_eq_false_iff_eq.mpr c20
            clear c20
            (first | rw [c20b0] | (simp only [i64_w, i32_w]; rw [c20b0]) | skip)
            have H' := Aside0.mk H
            clear H
            go_wp2
            go_meet
            case rel => exact ⟨_, (false), (by first | rfl | (simp; done) | (simp [*]; done)), H', ⟨by have := HJ2.out; first | omega | exact Nat.le_refl _⟩, ⟨bq⟩⟩
          · rw [if_neg c20] at H
            have c20b0 : (t467.toList == ([48] : List UInt8)) = false := beq_eq_false_iff_ne.mpr c20
            have c20b1 : (t467.toList != ([48] : List UInt8)) = true := bne_iff_ne.mpr c20
            (first | rw [c20b0] | (simp only [i64_w, i32_w]; rw [c20b0]) | skip)
            have H' := Aside0.mk H
            clear H
            go_wp2
            go_meet
            case rel => exact ⟨_, ((t468.toList != ([48] : List UInt8))), (by first | rfl | (simp; done) | (simp [*]; done)), H', ⟨by have := HJ2.out; first | omega | exact Nat.le_refl _⟩, ⟨bq⟩⟩
        case rest =>
          clear HC16
          try clear c1
          try clear c2
          try clear p2
          try clear c3
          try clear c5
          try clear c6
          try clear c6b0
          try clear c6b1
          try clear c9
          try clear c10
          try clear c13
          try clear c16
          try clear c20
          try clear c20b0
          try clear c20b1
          try clear p2
          obtain ⟨kq, x34_15, rfl, HA, HJ15, HB⟩ := hcut
          cases kq with
          | zero => exact absurd HA.out (by simp [schismalaw01_DecimalCommon.j1])
          | succ kj15 =>
            have H := HA.out
            clear HA
            simp only [schismalaw01_DecimalCommon.j1] at H
            by_cases c21 : x34_15 = true
            · subst c21
              have H1 : ((schismaref01_Mul.f kj15 t467 t468).bind fun t470 => ((schismaref01_DivMod.f kj15 t470 t469).bind fun bt471 => ((decimal_Gcd.f kj15 t467 t468).bind fun t473 => (if t473.toList = t469.toList then ((decimal_Lcm.f kj15 t467 t468).bind fun t474 => (some (t474.toList == bt471.1.toList))) else (some false))))) = some r := by rw [if_pos rfl] at H; exact H
              clear H
              have H := H1
              clear H1
              replace H := Option.bind_eq_some_iff.mp H
              obtain ⟨t470, A220, H⟩ := H
              replace H : ((schismaref01_DivMod.f kj15 t470 t469).bind fun bt471 => ((decimal_Gcd.f kj15 t467 t468).bind fun t473 => (if t473.toList = t469.toList then ((decimal_Lcm.f kj15 t467 t468).bind fun t474 => (some (t474.toList == bt471.1.toList))) else (some false)))) = some r := H
              have A22 := Aside0.mk A220
              clear A220
              replace H := Option.bind_eq_some_iff.mp H
              obtain ⟨⟨t471, t472⟩, A230, H⟩ := H
              replace H : ((decimal_Gcd.f kj15 t467 t468).bind fun t473 => (if t473.toList = t469.toList then ((decimal_Lcm.f kj15 t467 t468).bind fun t474 => (some (t474.toList == t471.toList))) else (some false))) = some r := H
              have A23 := Aside0.mk A230
              clear A230
              replace H := Option.bind_eq_some_iff.mp H
              obtain ⟨t473, A240, H⟩ := H
              replace H : (if t473.toList = t469.toList then ((decimal_Lcm.f kj15 t467 t468).bind fun t474 => (some (t474.toList == t471.toList))) else (some false)) = some r := H
              have A24 := Aside0.mk A240
              clear A240
              by_cases c25 : t473.toList = t469.toList
              · rw [if_pos c25] at H
                have c25b0 : (t473.toList == t469.toList) = true := beq_iff_eq.mpr c25
                have c25b1 : (t473.toList != t469.toList) = false := bne_eq_false_iff_eq.mpr c25
                clear c25
                replace H := Option.bind_eq_some_iff.mp H
                obtain ⟨t474, A260, H⟩ := H
                replace H : (some (t474.toList == t471.toList)) = some r := H
                have A26 := Aside0.mk A260
                clear A260
                obtain rfl := Option.some.inj H
                go_wp2_with (first | ((with_reducible refine gate_callee (f := 24) rfl ?_); refine goesL_ (some 38) rfl rfl Tryd.func24 (by kernel_rfl) rfl #[.string t467, .string t468] rfl mq ?_; (with_reducible refine (schismaref01_Mul.calls kj15 t467 t468 t470 _ A22.out).mono ?_); rintro e w27 ⟨rfl, hb⟩; refine ⟨_, rfl, ?_⟩; replace HB := Aside0.mk (below_step bq hb); (try clear hb); (try clear hb2); (try clear hk); (try clear hi)) | ((with_reducible refine gate_callee (f := 34) rfl ?_); refine goesL_ (some 40) rfl rfl Tryd.func34 (by kernel_rfl) rfl #[.string t470, .string t469] rfl mq ?_; (with_reducible refine (schismaref01_DivMod.calls kj15 t470 t469 t471 t472 _ A23.out).mono ?_); rintro e w28 ⟨rfl, hb⟩; refine ⟨_, rfl, ?_⟩; replace HB := Aside0.mk (below_step bq hb); (try clear hb); (try clear hb2); (try clear hk); (try clear hi)) | ((with_reducible refine gate_callee (f := 35) rfl ?_); refine goesL_ (some 45) rfl rfl Tryd.func35 (by kernel_rfl) rfl #[.string t467, .string t468] rfl mq ?_; (with_reducible refine (decimal_Gcd.calls (hT := HT.out.below bq) kj15 t467 t468 t473 _ A24.out).mono ?_); rintro e w29 ⟨rfl, hb⟩; refine ⟨_, rfl, ?_⟩; replace HB := Aside0.mk (below_step bq hb); (try clear hb); (try clear hb2); (try clear hk); (try clear hi)) | (go_at_call 36; (with_reducible refine (decimal_Lcm.calls (hT := HT.out.below bq) kj15 t467 t468 t474 _ A26.out).mono ?_); rintro e w30 ⟨rfl, hb⟩; replace HB := Aside0.mk (below_step bq hb); (try clear hb); (try clear hb2); (try clear hk); (try clear hi)))
                go_ret
                exact ⟨eq_, bq⟩
              · rw [if_neg c25] at H
                have c25b0 : (t473.toList == t469.toList) = false := beq_eq_false_iff_ne.mpr c25
                have c25b1 : (t473.toList != t469.toList) = true := bne_iff_ne.mpr c25
                obtain rfl := Option.some.inj H
                go_wp2_with (first | ((with_reducible refine gate_callee (f := 24) rfl ?_); refine goesL_ (some 38) rfl rfl Tryd.func24 (by kernel_rfl) rfl #[.string t467, .string t468] rfl mq ?_; (with_reducible refine (schismaref01_Mul.calls kj15 t467 t468 t470 _ A22.out).mono ?_); rintro e w31 ⟨rfl, hb⟩; refine ⟨_, rfl, ?_⟩; replace HB := Aside0.mk (below_step bq hb); (try clear hb); (try clear hb2); (try clear hk); (try clear hi)) | ((with_reducible refine gate_callee (f := 34) rfl ?_); refine goesL_ (some 40) rfl rfl Tryd.func34 (by kernel_rfl) rfl #[.string t470, .string t469] rfl mq ?_; (with_reducible refine (schismaref01_DivMod.calls kj15 t470 t469 t471 t472 _ A23.out).mono ?_); rintro e w32 ⟨rfl, hb⟩; refine ⟨_, rfl, ?_⟩; replace HB := Aside0.mk (below_step bq hb); (try clear hb); (try clear hb2); (try clear hk); (try clear hi)) | ((with_reducible refine gate_callee (f := 35) rfl ?_); refine goesL_ (some 45) rfl rfl Tryd.func35 (by kernel_rfl) rfl #[.string t467, .string t468] rfl mq ?_; (with_reducible refine (decimal_Gcd.calls (hT := HT.out.below bq) kj15 t467 t468 t473 _ A24.out).mono ?_); rintro e w33 ⟨rfl, hb⟩; refine ⟨_, rfl, ?_⟩; replace HB := Aside0.mk (below_step bq hb); (try clear hb); (try clear hb2); (try clear hk); (try clear hi)))
                go_ret
                exact ⟨eq_, bq⟩
            · replace c21 := Bool.eq_false_iff.mpr c21
              subst c21
              have H1 : ((decimal_Gcd.f kj15 t467 t468).bind fun t475 => (if t475.toList = t469.toList then ((decimal_Lcm.f kj15 t467 t468).bind fun t476 => (some (t476.toList == (⟨#[48]⟩ : ByteArray).toList))) else (some false))) = some r := by rw [if_neg (show ¬ (false = true) by decide)] at H; exact H
              clear H
              have H := H1
              clear H1
              replace H := Option.bind_eq_some_iff.mp H
              obtain ⟨t475, A340, H⟩ := H
              replace H : (if t475.toList = t469.toList then ((decimal_Lcm.f kj15 t467 t468).bind fun t476 => (some (t476.toList == (⟨#[48]⟩ : ByteArray).toList))) else (some false)) = some r := H
              have A34 := Aside0.mk A340
              clear A340
              by_cases c35 : t475.toList = t469.toList
              · rw [if_pos c35] at H
                have c35b0 : (t475.toList == t469.toList) = true := beq_iff_eq.mpr c35
                have c35b1 : (t475.toList != t469.toList) = false := bne_eq_false_iff_eq.mpr c35
                clear c35
                replace H := Option.bind_eq_some_iff.mp H
                obtain ⟨t476, A360, H⟩ := H
                replace H : (some (t476.toList == (⟨#[48]⟩ : ByteArray).toList)) = some r := H
                have A36 := Aside0.mk A360
                clear A360
                obtain rfl := Option.some.inj H
                go_wp2_with (first | ((with_reducible refine gate_callee (f := 35) rfl ?_); refine goesL_ (some 45) rfl rfl Tryd.func35 (by kernel_rfl) rfl #[.string t467, .string t468] rfl mq ?_; (with_reducible refine (decimal_Gcd.calls (hT := HT.out.below bq) kj15 t467 t468 t475 _ A34.out).mono ?_); rintro e w37 ⟨rfl, hb⟩; refine ⟨_, rfl, ?_⟩; replace HB := Aside0.mk (below_step bq hb); (try clear hb); (try clear hb2); (try clear hk); (try clear hi)) | (go_at_call 36; (with_reducible refine (decimal_Lcm.calls (hT := HT.out.below bq) kj15 t467 t468 t476 _ A36.out).mono ?_); rintro e w38 ⟨rfl, hb⟩; replace HB := Aside0.mk (below_step bq hb); (try clear hb); (try clear hb2); (try clear hk); (try clear hi)))
                go_ret
                exact ⟨eq_, bq⟩
              · rw [if_neg c35] at H
                have c35b0 : (t475.toList == t469.toList) = false := beq_eq_false_iff_ne.mpr c35
                have c35b1 : (t475.toList != t469.toList) = true := bne_iff_ne.mpr c35
                obtain rfl := Option.some.inj H
                go_wp2_with (first | ((with_reducible refine gate_callee (f := 35) rfl ?_); refine goesL_ (some 45) rfl rfl Tryd.func35 (by kernel_rfl) rfl #[.string t467, .string t468] rfl mq ?_; (with_reducible refine (decimal_Gcd.calls (hT := HT.out.below bq) kj15 t467 t468 t475 _ A34.out).mono ?_); rintro e w39 ⟨rfl, hb⟩; refine ⟨_, rfl, ?_⟩; replace HB := Aside0.mk (below_step bq hb); (try clear hb); (try clear hb2); (try clear hk); (try clear hi)))
                go_ret
                exact ⟨eq_, bq⟩
def schismalaw01_DecimalCommon.Pure : Prop := ∀ (l0 : List Int) (l1 : List Int), l0.length ≤ maxLen → l0.length * 1 ≤ 140737488351232 → (∀ x ∈ l0, (Lit.int .u8 x).wf = true) → l1.length ≤ maxLen → l1.length * 1 ≤ 140737488351232 → (∀ x ∈ l1, (Lit.int .u8 x).wf = true) → ∃ k, schismalaw01_DecimalCommon.f k l0 l1 = some true
theorem schismalaw01_DecimalCommon.walk (P : schismalaw01_DecimalCommon.Pure) (a0 : Option Addr) (len0 cap0 : Nat) (z0 : List Int) (a1 : Option Addr) (len1 cap1 : Nat) (z1 : List Int) (w : World) (w0 : (a0 = none ∧ len0 = 0 ∧ cap0 = 0 ∧ z0 = []) ∨ ∃ x, a0 = some x ∧ len0 ≤ cap0 ∧ cap0 ≤ maxLen ∧ z0.length = cap0 ∧ (∀ i, i < z0.length → w.cell? (x.add i) = some (.int .u8 (z0.getD i 0))) ∧ ∀ n ∈ z0, (Lit.int .u8 n).wf = true) (y0 : len0 * 1 ≤ 140737488351232) (w1 : (a1 = none ∧ len1 = 0 ∧ cap1 = 0 ∧ z1 = []) ∨ ∃ x, a1 = some x ∧ len1 ≤ cap1 ∧ cap1 ≤ maxLen ∧ z1.length = cap1 ∧ (∀ i, i < z1.length → w.cell? (x.add i) = some (.int .u8 (z1.getD i 0))) ∧ ∀ n ∈ z1, (Lit.int .u8 n).wf = true) (y1 : len1 * 1 ≤ 140737488351232) (hT : Tab w) :
    Calls Tryd.prog 9 #[.slice a0 len0 cap0, .slice a1 len1 cap1] w fun e w' => e = .returned (.bool true) ∧ Below w.heap.size w w' := by
  obtain ⟨l0, rfl, hr0, hm0, hw0, hc0⟩ := ReadsInt.ofRowC w0
  obtain ⟨l1, rfl, hr1, hm1, hw1, hc1⟩ := ReadsInt.ofRowC w1
  obtain ⟨k, h⟩ := P l0 l1 hm0 y0 hw0 hm1 y1 hw1
  refine (schismalaw01_DecimalCommon.calls (hT := hT) k _ _ l0 _ _ l1 true w (Kd.C_of_reads (d := (0 : Int)) (h1 := fun _ => rfl) hr0) hc0 (Kd.C_of_reads (d := (0 : Int)) (h1 := fun _ => rfl) hr1) hc1 h).mono ?_
  rintro e w' ⟨rfl, hd⟩
  exact ⟨rfl, hd⟩
end Go.Proofs.YtcfddphiflmnlaaDoor.P
