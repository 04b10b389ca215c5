/- Functions of the program, as functions of Lean, and the walks that show that the code answers as they do: written by a program. Conditions: those of each theorem. -/
import Derived.Test.YtcfddphiflmnlaaDoorDecimalComparesF5
namespace Go.Proofs.YtcfddphiflmnlaaDoor.P
open Go.RowKit Go.Proofs.YtcfddphiflmnlaaDoorW.PrintWords Go.Proofs.YtcfddphiflmnlaaDoorW.PrintLast Go.Proofs.YtcfddphiflmnlaaDoorW.PrintMore
attribute [local go_sem] gtr_text max2_int min2_int max_two min_two max_three min_three max_four min_four
set_option linter.unusedVariables false
set_option linter.unusedSimpArgs false
mutual
def schismaref01_DivMod.j0 : Nat → ByteArray → ByteArray → Int → Int → Bool → Option (ByteArray × ByteArray)
  | 0, _, _, _, _, _ => none
  | k + 1, x0, x1, x6, x8, x26 => if x26 = true then (if x8 = 0 then (none) else ((schismaref01_Of.f (IntKind.u64.wrap (Int.tdiv x6 x8))).bind fun t412 => ((schismaref01_Of.f (Int.tmod x6 x8)).bind fun t413 => (some (t412, t413))))) else (if 0 ≤ (x0.size : Int) then (if ((x0.size : Int) : Int).toNat ≤ 281474976710656 then (schismaref01_DivMod.l0 k x0 x1 (⟨#[48]⟩ : ByteArray) (List.replicate ((x0.size : Int) : Int).toNat 0) 0) else (none)) else (none))
def schismaref01_DivMod.l0 : Nat → ByteArray → ByteArray → ByteArray → List Int → Int → Option (ByteArray × ByteArray)
  | 0, _, _, _, _, _ => none
  | k + 1, x0, x1, x5, x10, x11 => if x11 < (x0.size : Int) then (if x5.toList = ([48] : List UInt8) then (if 0 ≤ x11 then (if x11 ≤ (wrap64 (x11 + 1)) then (if (wrap64 (x11 + 1)) ≤ (x0.size : Int) then (schismaref01_DivMod.j2 k x0 x1 (x0.extract (x11 : Int).toNat ((wrap64 (x11 + 1)) : Int).toNat) x10 x11) else (none)) else (none)) else (none)) else (if 0 ≤ x11 then (if x11 ≤ (wrap64 (x11 + 1)) then (if (wrap64 (x11 + 1)) ≤ (x0.size : Int) then (if x5.size + (x0.extract (x11 : Int).toNat ((wrap64 (x11 + 1)) : Int).toNat).size ≤ 9223372036854775807 then (schismaref01_DivMod.j2 k x0 x1 (x5 ++ (x0.extract (x11 : Int).toNat ((wrap64 (x11 + 1)) : Int).toNat)) x10 x11) else (none)) else (none)) else (none)) else (none))) else ((schismaref01_trim.f k x10).bind fun t417 => (some (t417, x5)))
def schismaref01_DivMod.j2 : Nat → ByteArray → ByteArray → ByteArray → List Int → Int → Option (ByteArray × ByteArray)
  | 0, _, _, _, _, _ => none
  | k + 1, x0, x1, x5, x10, x11 => schismaref01_DivMod.l1 k x0 x1 x5 x10 x11 48
def schismaref01_DivMod.l1 : Nat → ByteArray → ByteArray → ByteArray → List Int → Int → Int → Option (ByteArray × ByteArray)
  | 0, _, _, _, _, _, _ => none
  | k + 1, x0, x1, x5, x10, x11, x12 => (schismaref01_Compare.f x5 x1).bind fun t418 => (if t418 ≥ 0 then ((schismaref01_Minus.f k x5 x1).bind fun t419 => (schismaref01_DivMod.l1 k x0 x1 t419 x10 x11 ((x12 + 1) % 256))) else (if 0 ≤ x11 then (if x11 < (x10.length : Int) then (schismaref01_DivMod.l0 k x0 x1 x5 (x10.set (x11 : Int).toNat x12) (wrap64 (x11 + 1))) else (none)) else (none)))
end
def schismaref01_DivMod.f (k : Nat) (a0 : ByteArray) (a1 : ByteArray) : Option (ByteArray × ByteArray) := (schismaref01_quick.f k a0).bind fun bt408 => ((schismaref01_quick.f k a1).bind fun bt410 => (if bt408.2 = true then (schismaref01_DivMod.j0 k a0 a1 bt408.1 bt410.1 bt410.2) else (schismaref01_DivMod.j0 k a0 a1 bt408.1 bt410.1 false)))
theorem schismaref01_DivMod.mono_l : ∀ k, (∀ y0 y1 y2 y3 y4, LeO (schismaref01_DivMod.j0 k y0 y1 y2 y3 y4) (schismaref01_DivMod.j0 (k + 1) y0 y1 y2 y3 y4)) ∧ (∀ y0 y1 y2 y3 y4, LeO (schismaref01_DivMod.l0 k y0 y1 y2 y3 y4) (schismaref01_DivMod.l0 (k + 1) y0 y1 y2 y3 y4)) ∧ (∀ y0 y1 y2 y3 y4, LeO (schismaref01_DivMod.j2 k y0 y1 y2 y3 y4) (schismaref01_DivMod.j2 (k + 1) y0 y1 y2 y3 y4)) ∧ (∀ y0 y1 y2 y3 y4 y5, LeO (schismaref01_DivMod.l1 k y0 y1 y2 y3 y4 y5) (schismaref01_DivMod.l1 (k + 1) y0 y1 y2 y3 y4 y5))
  | 0 => ⟨fun _ _ _ _ _ r h => by simp [schismaref01_DivMod.j0] at h, fun _ _ _ _ _ r h => by simp [schismaref01_DivMod.l0] at h, fun _ _ _ _ _ r h => by simp [schismaref01_DivMod.j2] at h, fun _ _ _ _ _ _ r h => by simp [schismaref01_DivMod.l1] at h⟩
  | k + 1 => by
    obtain ⟨ih0, ih1, ih2, ih3⟩ := schismaref01_DivMod.mono_l k
    refine ⟨?_, ?_, ?_, ?_⟩
    · intro y0 y1 y2 y3 y4
      unfold schismaref01_DivMod.j0
      repeat' first
      | (with_reducible exact ih0 _ _ _ _ _)
      | (with_reducible exact ih1 _ _ _ _ _)
      | (with_reducible exact ih2 _ _ _ _ _)
      | (with_reducible exact ih3 _ _ _ _ _ _)
      | (with_reducible exact schismaref01_Minus.mono _ _ _)
      | (with_reducible exact schismaref01_quick.mono _ _)
      | (with_reducible exact schismaref01_trim.mono _ _)
      | (with_reducible exact LeO.refl _)
      | (with_reducible exact LeO.none _)
      | (with_reducible refine LeO.ite ?_ ?_)
      | (with_reducible refine LeO.bind ?_ (fun _ => ?_))
      | exact ih0 _ _ _ _ _
      | exact ih1 _ _ _ _ _
      | exact ih2 _ _ _ _ _
      | exact ih3 _ _ _ _ _ _
      | exact schismaref01_Minus.mono _ _ _
      | exact schismaref01_quick.mono _ _
      | exact schismaref01_trim.mono _ _
      | exact LeO.none _
      | refine LeO.ite ?_ ?_
      | refine LeO.bind ?_ (fun _ => ?_)
    · intro y0 y1 y2 y3 y4
      unfold schismaref01_DivMod.l0
      repeat' first
      | (with_reducible exact ih0 _ _ _ _ _)
      | (with_reducible exact ih1 _ _ _ _ _)
      | (with_reducible exact ih2 _ _ _ _ _)
      | (with_reducible exact ih3 _ _ _ _ _ _)
      | (with_reducible exact schismaref01_Minus.mono _ _ _)
      | (with_reducible exact schismaref01_quick.mono _ _)
      | (with_reducible exact schismaref01_trim.mono _ _)
      | (with_reducible exact LeO.refl _)
      | (with_reducible exact LeO.none _)
      | (with_reducible refine LeO.ite ?_ ?_)
      | (with_reducible refine LeO.bind ?_ (fun _ => ?_))
      | exact ih0 _ _ _ _ _
      | exact ih1 _ _ _ _ _
      | exact ih2 _ _ _ _ _
      | exact ih3 _ _ _ _ _ _
      | exact schismaref01_Minus.mono _ _ _
      | exact schismaref01_quick.mono _ _
      | exact schismaref01_trim.mono _ _
      | exact LeO.none _
      | refine LeO.ite ?_ ?_
      | refine LeO.bind ?_ (fun _ => ?_)
    · intro y0 y1 y2 y3 y4
      unfold schismaref01_DivMod.j2
      repeat' first
      | (with_reducible exact ih0 _ _ _ _ _)
      | (with_reducible exact ih1 _ _ _ _ _)
      | (with_reducible exact ih2 _ _ _ _ _)
      | (with_reducible exact ih3 _ _ _ _ _ _)
      | (with_reducible exact schismaref01_Minus.mono _ _ _)
      | (with_reducible exact schismaref01_quick.mono _ _)
      | (with_reducible exact schismaref01_trim.mono _ _)
      | (with_reducible exact LeO.refl _)
      | (with_reducible exact LeO.none _)
      | (with_reducible refine LeO.ite ?_ ?_)
      | (with_reducible refine LeO.bind ?_ (fun _ => ?_))
      | exact ih0 _ _ _ _ _
      | exact ih1 _ _ _ _ _
      | exact ih2 _ _ _ _ _
      | exact ih3 _ _ _ _ _ _
      | exact schismaref01_Minus.mono _ _ _
      | exact schismaref01_quick.mono _ _
      | exact schismaref01_trim.mono _ _
      | exact LeO.none _
      | refine LeO.ite ?_ ?_
      | refine LeO.bind ?_ (fun _ => ?_)
    · intro y0 y1 y2 y3 y4 y5
      unfold schismaref01_DivMod.l1
      repeat' first
      | (with_reducible exact ih0 _ _ _ _ _)
      | (with_reducible exact ih1 _ _ _ _ _)
      | (with_reducible exact ih2 _ _ _ _ _)
      | (with_reducible exact ih3 _ _ _ _ _ _)
      | (with_reducible exact schismaref01_Minus.mono _ _ _)
      | (with_reducible exact schismaref01_quick.mono _ _)
      | (with_reducible exact schismaref01_trim.mono _ _)
      | (with_reducible exact LeO.refl _)
      | (with_reducible exact LeO.none _)
      | (with_reducible refine LeO.ite ?_ ?_)
      | (with_reducible refine LeO.bind ?_ (fun _ => ?_))
      | exact ih0 _ _ _ _ _
      | exact ih1 _ _ _ _ _
      | exact ih2 _ _ _ _ _
      | exact ih3 _ _ _ _ _ _
      | exact schismaref01_Minus.mono _ _ _
      | exact schismaref01_quick.mono _ _
      | exact schismaref01_trim.mono _ _
      | exact LeO.none _
      | refine LeO.ite ?_ ?_
      | refine LeO.bind ?_ (fun _ => ?_)
theorem schismaref01_DivMod.mono : ∀ a0 a1 k, LeO (schismaref01_DivMod.f k a0 a1) (schismaref01_DivMod.f (k + 1) a0 a1) := by
  intro a0 a1 k
  obtain ⟨ih0, ih1, ih2, ih3⟩ := schismaref01_DivMod.mono_l k
  unfold schismaref01_DivMod.f
  repeat' first
      | (with_reducible exact ih0 _ _ _ _ _)
      | (with_reducible exact ih1 _ _ _ _ _)
      | (with_reducible exact ih2 _ _ _ _ _)
      | (with_reducible exact ih3 _ _ _ _ _ _)
      | (with_reducible exact schismaref01_Minus.mono _ _ _)
      | (with_reducible exact schismaref01_quick.mono _ _)
      | (with_reducible exact schismaref01_trim.mono _ _)
      | (with_reducible exact LeO.refl _)
      | (with_reducible exact LeO.none _)
      | (with_reducible refine LeO.ite ?_ ?_)
      | (with_reducible refine LeO.bind ?_ (fun _ => ?_))
      | exact ih0 _ _ _ _ _
      | exact ih1 _ _ _ _ _
      | exact ih2 _ _ _ _ _
      | exact ih3 _ _ _ _ _ _
      | exact schismaref01_Minus.mono _ _ _
      | exact schismaref01_quick.mono _ _
      | exact schismaref01_trim.mono _ _
      | exact LeO.none _
      | refine LeO.ite ?_ ?_
      | refine LeO.bind ?_ (fun _ => ?_)
def schismaref01_DivMod.T4 : Bool × List (List Nat × List Nat) := (true, [([], []), ([], []), ([0, 1], [0, 1]), ([2], [2]), ([], []), ([], []), ([4, 5], [4, 5]), ([6, 3], [6]), ([3, 7, 0, 1, 2, 3], [3]), ([7, 8, 0, 1, 2, 3, 4, 5, 6, 7, 8], [7])])
def schismaref01_DivMod.B4 : List Nat := [0, 0, 3, 7, 0, 0, 48, 127, 255, 511]
theorem schismaref01_DivMod.tab4 : rtab .any (opsOf Tryd.f34 4) = schismaref01_DivMod.T4 := by kernel_rfl
theorem schismaref01_DivMod.bits4 : waitsOk schismaref01_DivMod.T4.2 schismaref01_DivMod.B4 = true := by kernel_rfl
set_option maxHeartbeats 8000000 in
set_option maxRecDepth 100000 in
theorem schismaref01_DivMod.calls (k : Nat) (a0 : ByteArray) (a1 : ByteArray) (r1 : ByteArray) (r2 : ByteArray) (w : World) (h : schismaref01_DivMod.f k a0 a1 = some (r1, r2)) :
    Calls Tryd.prog 34 #[.string a0, .string a1] w fun e w' => e = .returned (.tuple #[.string r1, .string r2]) ∧ Below w.heap.size w w' := by
  have HB := Aside0.mk (Below.refl w.heap.size w)
  have H : ((schismaref01_quick.f k a0).bind fun bt408 => ((schismaref01_quick.f k a1).bind fun bt410 => (if bt408.2 = true then (schismaref01_DivMod.j0 k a0 a1 bt408.1 bt410.1 bt410.2) else (schismaref01_DivMod.j0 k a0 a1 bt408.1 bt410.1 false)))) = some (r1, r2) := h
  clear h
  replace H := Option.bind_eq_some_iff.mp H
  obtain ⟨⟨t408, t409⟩, A30, H⟩ := H
  replace H : ((schismaref01_quick.f k a1).bind fun bt410 => (if t409 = true then (schismaref01_DivMod.j0 k a0 a1 t408 bt410.1 bt410.2) else (schismaref01_DivMod.j0 k a0 a1 t408 bt410.1 false))) = some (r1, r2) := H
  have A3 := Aside0.mk A30
  clear A30
  replace H := Option.bind_eq_some_iff.mp H
  obtain ⟨⟨t410, t411⟩, A40, H⟩ := H
  replace H : (if t409 = true then (schismaref01_DivMod.j0 k a0 a1 t408 t410 t411) else (schismaref01_DivMod.j0 k a0 a1 t408 t410 false)) = some (r1, r2) := H
  have A4 := Aside0.mk A40
  clear A40
  have HC5 := Aside0.mk H
  clear H
  go_enter Tryd.func34, Tryd.ntmps34
  go_upto_region 3 with (first | ((with_reducible refine gate_callee (f := 43) rfl ?_); refine goesL_ (some 15) rfl rfl Tryd.func43 (by kernel_rfl) rfl #[.string a0] rfl mq ?_; (with_reducible refine (schismaref01_quick.calls k a0 t408 t409 _ A3.out).mono ?_); rintro e w' ⟨rfl, ⟨nd, rfl⟩⟩; refine ⟨_, rfl, ?_⟩) | ((with_reducible refine gate_callee (f := 43) rfl ?_); refine goesL_ (some 20) rfl rfl Tryd.func43 (by kernel_rfl) rfl #[.string a1] rfl mq ?_; (with_reducible refine (schismaref01_quick.calls k a1 t410 t411 _ A4.out).mono ?_); rintro e w' ⟨rfl, ⟨nd, rfl⟩⟩; refine ⟨_, rfl, ?_⟩))
  (try simp only [Act.put, List.setIfInBounds_toArray, List.set_cons_zero, List.set_cons_succ])
  go_cut [26] (fun v26 wc => ∃ (kq : Nat) (x26_4 : Bool), v26 = .bool x26_4 ∧ Aside0 (schismaref01_DivMod.j0 kq a0 a1 t408 t410 x26_4 = some (r1, r2)) ∧ Aside0 (kq ≤ k) ∧ Aside0 (Below w.heap.size w wc))
  case first =>
    have H := HC5.out
    clear HC5
    by_cases c6 : t409 = true
    · subst c6
      have H1 : (schismaref01_DivMod.j0 k a0 a1 t408 t410 t411) = some (r1, r2) := by rw [if_pos rfl] at H; exact H
      clear H
      have H := H1
      clear H1
      have H' := Aside0.mk H
      clear H
      go_wp2
      go_meet
      case rel => exact ⟨_, (t411), (by first | rfl | (simp; done) | (simp [*]; done)), H', ⟨by first | omega | exact Nat.le_refl _⟩, ⟨bq⟩⟩
    · replace c6 := Bool.eq_false_iff.mpr c6
      subst c6
      have H1 : (schismaref01_DivMod.j0 k a0 a1 t408 t410 false) = some (r1, r2) := by rw [if_neg (show ¬ (false = true) by decide)] at H; exact H
      clear H
      have H := H1
      clear H1
      have H' := Aside0.mk H
      clear H
      go_wp2
      go_meet
      case rel => exact ⟨_, (false), (by first | rfl | (simp; done) | (simp [*]; done)), H', ⟨by first | omega | exact Nat.le_refl _⟩, ⟨bq⟩⟩
  case rest =>
    clear HC5
    try clear p2
    try clear c3
    try clear c4
    try clear c6
    obtain ⟨kq, x26_4, rfl, HA, HJ4, HB⟩ := hcut
    cases kq with
    | zero => exact absurd HA.out (by simp [schismaref01_DivMod.j0])
    | succ kj4 =>
      have H := HA.out
      clear HA
      simp only [schismaref01_DivMod.j0] at H
      by_cases c7 : x26_4 = true
      · subst c7
        have H1 : (if t410 = 0 then (none) else ((schismaref01_Of.f (IntKind.u64.wrap (Int.tdiv t408 t410))).bind fun t412 => ((schismaref01_Of.f (Int.tmod t408 t410)).bind fun t413 => (some (t412, t413))))) = some (r1, r2) := by rw [if_pos rfl] at H; exact H
        clear H
        have H := H1
        clear H1
        by_cases c8 : t410 = 0
        · rw [if_pos c8] at H
          exact absurd H (by simp)
        · rw [if_neg c8] at H
          have c8b0 : (t410 == 0) = false := beq_eq_false_iff_ne.mpr c8
          have c8b1 : (t410 != 0) = true := bne_iff_ne.mpr c8
          replace H := Option.bind_eq_some_iff.mp H
          obtain ⟨t412, A90, H⟩ := H
          replace H : ((schismaref01_Of.f (Int.tmod t408 t410)).bind fun t413 => (some (t412, t413))) = some (r1, r2) := H
          have A9 := Aside0.mk A90
          clear A90
          replace H := Option.bind_eq_some_iff.mp H
          obtain ⟨t413, A100, H⟩ := H
          replace H : (some (t412, t413)) = some (r1, r2) := H
          have A10 := Aside0.mk A100
          clear A100
          simp only [Option.some.injEq, Prod.mk.injEq] at H
          obtain ⟨rfl, rfl⟩ := H
          try go_wp2
          have n0_ := Aside0.mk (below_drew1 HB.out)
          clear HB
          have HB := n0_
          clear n0_
          refine start_ (n := 10) (S := fun w' => True) (ds := []) #[false, false, false, false, false, false, false, false, false, false] (by kernel_rfl) rfl rfl trivial (fun hHeld => ?_); refine with_tabW schismaref01_DivMod.tab4 schismaref01_DivMod.bits4 (fun HT_ HW_ => ?_)
          generalize wc.drew = w11 at HB hHeld ⊢
          refine pure_ (i := 0) (N := some 27) (v := ?_) (a' := ?_) #[true, false, false, false, false, false, false, false, false, false] rfl rfl (any_of HT_.out (by kernel_rfl)) (fun _ _ _ h => h) (Or.inl ⟨by rfl, ?_⟩) ?_ ?_
          rotate_left
          · intro w'
            go_simp
            with_reducible rfl
          rotate_left
          · simp only [Act.put, List.setIfInBounds_toArray, List.set_cons_zero, List.set_cons_succ, i64_w, i32_w]
            rfl
          refine pure_ (i := 1) (N := some 28) (v := ?_) (a' := ?_) #[true, true, false, false, false, false, false, false, false, false] rfl rfl (any_of HT_.out (by kernel_rfl)) (fun _ _ _ h => h) (Or.inl ⟨by rfl, ?_⟩) ?_ ?_
          rotate_left
          · intro w'
            go_simp
            with_reducible rfl
          rotate_left
          · simp only [Act.put, List.setIfInBounds_toArray, List.set_cons_zero, List.set_cons_succ, i64_w, i32_w]
            rfl
          refine pure_ (i := 2) (N := some 29) (v := ?_) (a' := ?_) #[true, true, true, false, false, false, false, false, false, false] rfl rfl (any_of HT_.out (by kernel_rfl)) (fun _ _ _ h => h) (Or.inl ⟨by rfl, ?_⟩) ?_ ?_
          rotate_left
          · intro w'
            go_simp
            with_reducible rfl
          rotate_left
          · simp only [Act.put, List.setIfInBounds_toArray, List.set_cons_zero, List.set_cons_succ, i64_w, i32_w]
            rfl
          refine pure_ (i := 4) (N := some 31) (v := ?_) (a' := ?_) #[true, true, true, false, true, false, false, false, false, false] rfl rfl (any_of HT_.out (by kernel_rfl)) (fun _ _ _ h => h) (Or.inl ⟨by rfl, ?_⟩) ?_ ?_
          rotate_left
          · intro w'
            go_simp
            with_reducible rfl
          rotate_left
          · simp only [Act.put, List.setIfInBounds_toArray, List.set_cons_zero, List.set_cons_succ, i64_w, i32_w]
            rfl
          refine pure_ (i := 5) (N := some 32) (v := ?_) (a' := ?_) #[true, true, true, false, true, true, false, false, false, false] rfl rfl (any_of HT_.out (by kernel_rfl)) (fun _ _ _ h => h) (Or.inl ⟨by rfl, ?_⟩) ?_ ?_
          rotate_left
          · intro w'
            go_simp
            with_reducible rfl
          rotate_left
          · simp only [Act.put, List.setIfInBounds_toArray, List.set_cons_zero, List.set_cons_succ, i64_w, i32_w]
            rfl
          refine pure_ (i := 6) (N := some 33) (v := ?_) (a' := ?_) #[true, true, true, false, true, true, true, false, false, false] rfl rfl (any_of HT_.out (by kernel_rfl)) (fun _ _ _ h => h) (Or.inl ⟨by rfl, ?_⟩) ?_ ?_
          rotate_left
          · intro w'
            go_simp
            with_reducible rfl
          rotate_left
          · simp only [Act.put, List.setIfInBounds_toArray, List.set_cons_zero, List.set_cons_succ, i64_w, i32_w]
            rfl
          refine one_ (i := 3) (N := some 30) #[true, true, true, true, true, true, true, false, false, false] rfl rfl (one_of HT_.out (by kernel_rfl)) (by decide) (fun K hK => ?_)
          refine goes_ Tryd.func18 (by kernel_rfl) rfl #[.int .u64 (IntKind.u64.wrap (Int.tdiv t408 t410))] (by rfl) rfl rfl mq ?_
          with_reducible refine (schismaref01_Of.calls (IntKind.u64.wrap (Int.tdiv t408 t410)) t412 _ A9.out).mono ?_
          rintro e w12 ⟨rfl, hb⟩
          refine ⟨_, rfl, ?_⟩
          have n0_ := Aside0.mk (below_step bq hb)
          clear HB
          have HB := n0_
          clear n0_
          (try clear hb)
          (try clear hb2)
          (try clear hk)
          (try clear hi)
          refine hK.out _ _ trivial (fun hHeld => ?_)
          clear hK K
          refine norm_ (a' := ?_) ?_ ?_
          rotate_left
          · show Act.put _ (some 30) _ = _
            simp only [Act.put, List.setIfInBounds_toArray, List.set_cons_zero, List.set_cons_succ, i64_w, i32_w]
            rfl
          refine one_ (i := 7) (N := some 34) #[true, true, true, true, true, true, true, true, false, false] rfl rfl (one_of HT_.out (by kernel_rfl)) (by decide) (fun K hK => ?_)
          refine goes_ Tryd.func18 (by kernel_rfl) rfl #[.int .u64 (Int.tmod t408 t410)] (by rfl) rfl rfl mq ?_
          with_reducible refine (schismaref01_Of.calls (Int.tmod t408 t410) t413 _ A10.out).mono ?_
          rintro e w13 ⟨rfl, hb⟩
          refine ⟨_, rfl, ?_⟩
          have n0_ := Aside0.mk (below_step bq hb)
          clear HB
          have HB := n0_
          clear n0_
          (try clear hb)
          (try clear hb2)
          (try clear hk)
          (try clear hi)
          refine hK.out _ _ trivial (fun hHeld => ?_)
          clear hK K
          refine norm_ (a' := ?_) ?_ ?_
          rotate_left
          · show Act.put _ (some 34) _ = _
            simp only [Act.put, List.setIfInBounds_toArray, List.set_cons_zero, List.set_cons_succ, i64_w, i32_w]
            rfl
          refine pure_ (i := 8) (N := some 4) (v := ?_) (a' := ?_) #[true, true, true, true, true, true, true, true, true, false] rfl rfl (any_of HT_.out (by kernel_rfl)) (fun _ _ _ h => h) (Or.inl ⟨by rfl, ?_⟩) ?_ ?_
          rotate_left
          · intro w'
            go_simp
            with_reducible rfl
          rotate_left
          · simp only [Act.put, List.setIfInBounds_toArray, List.set_cons_zero, List.set_cons_succ, i64_w, i32_w]
            rfl
          refine pure_ (i := 9) (N := some 5) (v := ?_) (a' := ?_) #[true, true, true, true, true, true, true, true, true, true] rfl rfl (any_of HT_.out (by kernel_rfl)) (fun _ _ _ h => h) (Or.inl ⟨by rfl, ?_⟩) ?_ ?_
          rotate_left
          · intro w'
            go_simp
            with_reducible rfl
          rotate_left
          · simp only [Act.put, List.setIfInBounds_toArray, List.set_cons_zero, List.set_cons_succ, i64_w, i32_w]
            rfl
          refine done_ (done_of HT_.out (by kernel_rfl)) ?_
          try go_wp2
          go_ret2
          exact ⟨eq_, bq⟩
      · replace c7 := Bool.eq_false_iff.mpr c7
        subst c7
        have H1 : (if 0 ≤ (a0.size : Int) then (if ((a0.size : Int) : Int).toNat ≤ 281474976710656 then (schismaref01_DivMod.l0 kj4 a0 a1 (⟨#[48]⟩ : ByteArray) (List.replicate ((a0.size : Int) : Int).toNat 0) 0) else (none)) else (none)) = some (r1, r2) := by rw [if_neg (show ¬ (false = true) by decide)] at H; exact H
        clear H
        have H := H1
        clear H1
        by_cases c14 : 0 ≤ (a0.size : Int)
        · rw [if_pos c14] at H
          have c14b0 := eq_true c14
          have c14b1 : decide (0 ≤ (a0.size : Int)) = true := decide_eq_true c14
          clear c14
          by_cases c15 : ((a0.size : Int) : Int).toNat ≤ 281474976710656
          · rw [if_pos c15] at H
            have c15b0 := eq_true c15
            have c15b1 : decide (((a0.size : Int) : Int).toNat ≤ 281474976710656) = true := decide_eq_true c15
            clear c15
            obtain ⟨y414, hy414⟩ : ∃ y_ : List Int, y_ = (List.replicate ((a0.size : Int) : Int).toNat 0) := ⟨_, rfl⟩
            replace H : (schismaref01_DivMod.l0 kj4 a0 a1 (⟨#[48]⟩ : ByteArray) y414 0) = some (r1, r2) := by first | (rw [hy414]; with_reducible exact H) | (have H2_ := (Option.bind_some _ _).symm.trans H; rw [hy414]; with_reducible exact H2_) | (have H2_ := (Option.bind_some _ _).symm.trans H; with_reducible exact H2_) | with_reducible exact H | (rw [hy414]; exact H) | exact H
            have Ny414 := Aside0.mk hy414
            clear hy414
            have H' := Aside0.mk H
            clear H
            go_wp2_with (first | ((with_reducible refine gate_dst (N := 37) rfl ?_); refine Kd.R_make (Kd.int .u8) _ 5 rfl (N := 37) rfl 23 _ _ rfl (a0.size : Int) rfl rfl Tryd.underlying23 (.int .u8 0) 1 info5 rfl (by decide) (by omega) 0 (ok := fun _ => True) (okp := fun _ => True) rfl (fun _ hk => hk) trivial (of_decide_eq_true (by first | (with_reducible assumption) | assumption)) (Nat.le_trans (Nat.mul_le_mul_right _ (of_decide_eq_true (by first | (with_reducible assumption) | assumption) : (a0.size : Int).toNat ≤ 281474976710656)) (by omega)) (Below.refl _ _) (Nat.le_refl _) ?_; intro v415 w16 ho17 hb hg_ hnew_; clear hg_ hnew_; (first | rw [← Ny414.out] at ho17 | (simp only [Int.reduceToNat] at ho17; rw [← Ny414.out] at ho17)); have n0_ := Aside0.mk (Kd.R_lower ho17 (below_size bq)); have n1_ := Aside0.mk (below_step bq hb); clear HB; have HO416 := n0_; have HB := n1_; clear n0_ n1_; clear hb ho17))
            go_loopg [5, 11] kj4 (fun kq v5 v11 w' => ∃ (x5_2 : ByteArray) (x10_2 : List Int) (x11_2 : Int), v5 = .string x5_2 ∧ v11 = .int .i64 x11_2 ∧ Aside0 (schismaref01_DivMod.l0 kq a0 a1 x5_2 x10_2 x11_2 = some (r1, r2)) ∧ Aside0 (kq ≤ kj4) ∧ Aside0 (Kd.R (Kd.int .u8) 5 w' w.heap.size (fun _ => True) v415 x10_2) ∧ Aside0 (Below w.heap.size w w'))
            case atStart => exact ⟨((⟨#[48]⟩ : ByteArray)), (y414), (0), (by first | rfl | (simp; done) | (simp [*]; done)), (by first | rfl | (simp; done) | (simp [*]; done)), H', ⟨Nat.le_refl _⟩, ⟨by (with_reducible repeat (first | apply Kd.R_alloc | apply Kd.R_drewN | apply Kd.R_drew)); exact HO416.out⟩, ⟨bq⟩⟩
            case round =>
              clear H'
              try clear c1
              try clear p2
              try clear c3
              try clear c4
              try clear c6
              try clear c7
              try clear c8
              try clear c8b0
              try clear c8b1
              try clear c14
              try clear c14b0
              try clear c14b1
              try clear c15
              try clear c15b0
              try clear c15b1
              try clear p2
              obtain ⟨x5_2, x10_2, x11_2, rfl, rfl, HA, HK2, HO_10, HB⟩ := hrel
              cases gk with
              | zero => exact absurd HA.out (by simp [schismaref01_DivMod.l0])
              | succ k2 =>
                have H := HA.out
                clear HA
                simp only [schismaref01_DivMod.l0] at H
                by_cases c18 : x11_2 < (a0.size : Int)
                · rw [if_pos c18] at H
                  have c18b0 : decide (x11_2 < (a0.size : Int)) = true := decide_eq_true c18
                  clear c18
                  have HC19 := Aside0.mk H
                  clear H
                  go_upto_if 45 with (fail)
                  go_cut [5] (fun v5 wc => ∃ (kq : Nat) (x5_18 : ByteArray), v5 = .string x5_18 ∧ Aside0 (schismaref01_DivMod.j2 kq a0 a1 x5_18 x10_2 x11_2 = some (r1, r2)) ∧ Aside0 (kq ≤ k2) ∧ Aside0 (Kd.R (Kd.int .u8) 5 wc w.heap.size (fun _ => True) v415 x10_2) ∧ Aside0 (Below w.heap.size w wc))
                  case first =>
                    have H := HC19.out
                    clear HC19
                    by_cases c20 : x5_2.toList = ([48] : List UInt8)
                    · rw [if_pos c20] at H
                      have c20b0 : (x5_2.toList == ([48] : List UInt8)) = true := beq_iff_eq.mpr c20
                      have c20b1 : (x5_2.toList != ([48] : List UInt8)) = false := bne_eq_false_iff_eq.mpr c20
                      clear c20
                      (first | rw [c20b0] | (simp only [i64_w, i32_w]; rw [c20b0]) | skip)
                      by_cases c21 : 0 ≤ x11_2
                      · rw [if_pos c21] at H
                        have c21b0 := eq_true c21
                        have c21b1 : decide (0 ≤ x11_2) = true := decide_eq_true c21
                        clear c21
                        by_cases c22 : x11_2 ≤ (wrap64 (x11_2 + 1))
                        · rw [if_pos c22] at H
                          have c22b0 := eq_true c22
                          have c22b1 : decide (x11_2 ≤ (wrap64 (x11_2 + 1))) = true := decide_eq_true c22
                          by_cases c23 : (wrap64 (x11_2 + 1)) ≤ (a0.size : Int)
                          · rw [if_pos c23] at H
                            have c23b0 := eq_true c23
                            have c23b1 : decide ((wrap64 (x11_2 + 1)) ≤ (a0.size : Int)) = true := decide_eq_true c23
                            have H' := Aside0.mk H
                            clear H
                            go_wp2
                            go_meet
                            case rel => exact ⟨_, (a0.extract (x11_2 : Int).toNat ((wrap64 (x11_2 + 1)) : Int).toNat), (by first | rfl | (simp; done) | (simp [*]; done)), H', ⟨by have := HJ4.out; have := HK2.out; first | omega | exact Nat.le_refl _⟩, ⟨by (with_reducible repeat (first | apply Kd.R_alloc | apply Kd.R_drewN | apply Kd.R_drew)); exact HO_10.out⟩, ⟨bq⟩⟩
                          · rw [if_neg c23] at H
                            exact absurd H (by simp)
                        · rw [if_neg c22] at H
                          exact absurd H (by simp)
                      · rw [if_neg c21] at H
                        exact absurd H (by simp)
                    · rw [if_neg c20] at H
                      have c20b0 : (x5_2.toList == ([48] : List UInt8)) = false := beq_eq_false_iff_ne.mpr c20
                      have c20b1 : (x5_2.toList != ([48] : List UInt8)) = true := bne_iff_ne.mpr c20
                      (first | rw [c20b0] | (simp only [i64_w, i32_w]; rw [c20b0]) | skip)
                      by_cases c24 : 0 ≤ x11_2
                      · rw [if_pos c24] at H
                        have c24b0 := eq_true c24
                        have c24b1 : decide (0 ≤ x11_2) = true := decide_eq_true c24
                        clear c24
                        by_cases c25 : x11_2 ≤ (wrap64 (x11_2 + 1))
                        · rw [if_pos c25] at H
                          have c25b0 := eq_true c25
                          have c25b1 : decide (x11_2 ≤ (wrap64 (x11_2 + 1))) = true := decide_eq_true c25
                          by_cases c26 : (wrap64 (x11_2 + 1)) ≤ (a0.size : Int)
                          · rw [if_pos c26] at H
                            have c26b0 := eq_true c26
                            have c26b1 : decide ((wrap64 (x11_2 + 1)) ≤ (a0.size : Int)) = true := decide_eq_true c26
                            by_cases c27 : x5_2.size + (a0.extract (x11_2 : Int).toNat ((wrap64 (x11_2 + 1)) : Int).toNat).size ≤ 9223372036854775807
                            · rw [if_pos c27] at H
                              have c27b0 := eq_true c27
                              have c27b1 : decide (x5_2.size + (a0.extract (x11_2 : Int).toNat ((wrap64 (x11_2 + 1)) : Int).toNat).size ≤ 9223372036854775807) = true := decide_eq_true c27
                              try have c27b2 : (9223372036854775807 < x5_2.size + (a0.extract (x11_2 : Int).toNat ((wrap64 (x11_2 + 1)) : Int).toNat).size) = False := eq_false (Nat.not_lt.2 c27)
                              have H' := Aside0.mk H
                              clear H
                              go_wp2
                              go_meet
                              case rel => exact ⟨_, (x5_2 ++ (a0.extract (x11_2 : Int).toNat ((wrap64 (x11_2 + 1)) : Int).toNat)), (by first | rfl | (simp; done) | (simp [*]; done)), H', ⟨by have := HJ4.out; have := HK2.out; first | omega | exact Nat.le_refl _⟩, ⟨by (with_reducible repeat (first | apply Kd.R_alloc | apply Kd.R_drewN | apply Kd.R_drew)); exact HO_10.out⟩, ⟨bq⟩⟩
                            · rw [if_neg c27] at H
                              exact absurd H (by simp)
                          · rw [if_neg c26] at H
                            exact absurd H (by simp)
                        · rw [if_neg c25] at H
                          exact absurd H (by simp)
                      · rw [if_neg c24] at H
                        exact absurd H (by simp)
                  case rest =>
                    clear HC19
                    try clear c1
                    try clear c2
                    try clear p2
                    try clear c3
                    try clear c4
                    try clear c6
                    try clear p6
                    try clear c7
                    try clear c8
                    try clear c8b0
                    try clear c8b1
                    try clear c14
                    try clear c14b0
                    try clear c14b1
                    try clear c15
                    try clear c15b0
                    try clear c15b1
                    try clear c18
                    try clear c18b0
                    try clear c20
                    try clear c20b0
                    try clear c20b1
                    try clear c21
                    try clear c21b0
                    try clear c21b1
                    try clear c22
                    try clear c22b0
                    try clear c22b1
                    try clear c23
                    try clear c23b0
                    try clear c23b1
                    try clear c24
                    try clear c24b0
                    try clear c24b1
                    try clear c25
                    try clear c25b0
                    try clear c25b1
                    try clear c26
                    try clear c26b0
                    try clear c26b1
                    try clear c27
                    try clear c27b0
                    try clear c27b1
                    try clear c27b2
                    try clear p2
                    obtain ⟨kq, x5_18, rfl, HA, HJ18, HO_10, HB⟩ := hcut
                    cases kq with
                    | zero => exact absurd HA.out (by simp [schismaref01_DivMod.j2])
                    | succ kj18 =>
                      have H := HA.out
                      clear HA
                      simp only [schismaref01_DivMod.j2] at H
                      have H' := Aside0.mk H
                      clear H
                      go_wp2
                      go_loopg [5, 12] kj18 (fun kq v5 v12 w' => ∃ (x5_4 : ByteArray) (x12_4 : Int), v5 = .string x5_4 ∧ v12 = .int .u8 x12_4 ∧ Aside0 (schismaref01_DivMod.l1 kq a0 a1 x5_4 x10_2 x11_2 x12_4 = some (r1, r2)) ∧ Aside0 (kq ≤ kj18) ∧ Aside0 (Kd.R (Kd.int .u8) 5 w' w.heap.size (fun _ => True) v415 x10_2) ∧ Aside0 (Below w.heap.size w w'))
                      case atStart => exact ⟨(x5_18), (48), (by first | rfl | (simp; done) | (simp [*]; done)), (by first | rfl | (simp; done) | (simp [*]; done)), H', ⟨Nat.le_refl _⟩, ⟨by (with_reducible repeat (first | apply Kd.R_alloc | apply Kd.R_drewN | apply Kd.R_drew)); exact HO_10.out⟩, ⟨bq⟩⟩
                      case round =>
                        clear H'
                        try clear c1
                        try clear c2
                        try clear p2
                        try clear c3
                        try clear c4
                        try clear c6
                        try clear p6
                        try clear c7
                        try clear c8
                        try clear c8b0
                        try clear c8b1
                        try clear c14
                        try clear c14b0
                        try clear c14b1
                        try clear c15
                        try clear c15b0
                        try clear c15b1
                        try clear c18
                        try clear c18b0
                        try clear c20
                        try clear c20b0
                        try clear c20b1
                        try clear c21
                        try clear c21b0
                        try clear c21b1
                        try clear c22
                        try clear c22b0
                        try clear c22b1
                        try clear c23
                        try clear c23b0
                        try clear c23b1
                        try clear c24
                        try clear c24b0
                        try clear c24b1
                        try clear c25
                        try clear c25b0
                        try clear c25b1
                        try clear c26
                        try clear c26b0
                        try clear c26b1
                        try clear c27
                        try clear c27b0
                        try clear c27b1
                        try clear c27b2
                        try clear p2
                        try clear p6
                        obtain ⟨x5_4, x12_4, rfl, rfl, HA, HK4, HO_10, HB⟩ := hrel
                        cases gk with
                        | zero => exact absurd HA.out (by simp [schismaref01_DivMod.l1])
                        | succ k4 =>
                          have H := HA.out
                          clear HA
                          simp only [schismaref01_DivMod.l1] at H
                          replace H := Option.bind_eq_some_iff.mp H
                          obtain ⟨t418, A280, H⟩ := H
                          replace H : (if t418 ≥ 0 then ((schismaref01_Minus.f k4 x5_4 a1).bind fun t419 => (schismaref01_DivMod.l1 k4 a0 a1 t419 x10_2 x11_2 ((x12_4 + 1) % 256))) else (if 0 ≤ x11_2 then (if x11_2 < (x10_2.length : Int) then (schismaref01_DivMod.l0 k4 a0 a1 x5_4 (x10_2.set (x11_2 : Int).toNat x12_4) (wrap64 (x11_2 + 1))) else (none)) else (none))) = some (r1, r2) := H
                          have A28 := Aside0.mk A280
                          clear A280
                          by_cases c29 : t418 ≥ 0
                          · rw [if_pos c29] at H
                            have c29b0 : decide (0 ≤ t418) = true := decide_eq_true c29
                            clear c29
                            replace H := Option.bind_eq_some_iff.mp H
                            obtain ⟨t419, A300, H⟩ := H
                            replace H : (schismaref01_DivMod.l1 k4 a0 a1 t419 x10_2 x11_2 ((x12_4 + 1) % 256)) = some (r1, r2) := H
                            have A30 := Aside0.mk A300
                            clear A300
                            have H' := Aside0.mk H
                            clear H
                            go_wp2_with (first | ((with_reducible refine gate_callee (f := 22) rfl ?_); refine goesL_ (some 60) rfl rfl Tryd.func22 (by kernel_rfl) rfl #[.string x5_4, .string a1] rfl mq ?_; (with_reducible refine (schismaref01_Compare.calls x5_4 a1 t418 _ A28.out).mono ?_); rintro e w' ⟨rfl, ⟨nd, rfl⟩⟩; refine ⟨_, rfl, ?_⟩) | ((with_reducible refine gate_callee (f := 40) rfl ?_); refine goesL_ (some 64) rfl rfl Tryd.func40 (by kernel_rfl) rfl #[.string x5_4, .string a1] rfl mq ?_; (with_reducible refine (schismaref01_Minus.calls k4 x5_4 a1 t419 _ A30.out).mono ?_); rintro e w31 ⟨rfl, hb⟩; refine ⟨_, rfl, ?_⟩; have n0_ := Aside0.mk (Kd.R_below (by (with_reducible repeat (first | apply Kd.R_alloc | apply Kd.R_drewN | apply Kd.R_drew)); exact HO_10.out) hb); have n1_ := Aside0.mk (below_step bq hb); clear HO_10; clear HB; have HO_10 := n0_; have HB := n1_; clear n0_ n1_; (try clear hb); (try clear hb2); (try clear hk); (try clear hi)))
                            go_roundg k4
                            case measure => have := HJ4.out; have := HK2.out; have := HJ18.out; have := HK4.out; omega
                            case rel => exact ⟨(t419), ((x12_4 + 1) % 256), (by first | rfl | (simp; done) | (simp [*]; done)), (by first | rfl | (simp; done) | (simp [*]; done)), H', ⟨by have := HJ4.out; have := HK2.out; have := HJ18.out; have := HK4.out; omega⟩, ⟨by (with_reducible repeat (first | apply Kd.R_alloc | apply Kd.R_drewN | apply Kd.R_drew)); exact HO_10.out⟩, ⟨bq⟩⟩
                          · rw [if_neg c29] at H
                            have c29b0 : decide (0 ≤ t418) = false := decide_eq_false c29
                            clear c29
                            by_cases c32 : 0 ≤ x11_2
                            · rw [if_pos c32] at H
                              have c32b0 : decide (0 ≤ x11_2) = true := decide_eq_true c32
                              clear c32
                              by_cases c33 : x11_2 < (x10_2.length : Int)
                              · rw [if_pos c33] at H
                                have c33b0 : decide (x11_2 < (x10_2.length : Int)) = true := decide_eq_true c33
                                clear c33
                                obtain ⟨y420, hy420⟩ : ∃ y_ : List Int, y_ = (x10_2.set (x11_2 : Int).toNat x12_4) := ⟨_, rfl⟩
                                replace H : (schismaref01_DivMod.l0 k4 a0 a1 x5_4 y420 (wrap64 (x11_2 + 1))) = some (r1, r2) := by first | (rw [hy420]; with_reducible exact H) | (have H2_ := (Option.bind_some _ _).symm.trans H; rw [hy420]; with_reducible exact H2_) | (have H2_ := (Option.bind_some _ _).symm.trans H; with_reducible exact H2_) | with_reducible exact H | (rw [hy420]; exact H) | exact H
                                have Ny420 := Aside0.mk hy420
                                clear hy420
                                have H' := Aside0.mk H
                                clear H
                                go_wp2_with (first | ((with_reducible refine gate_callee (f := 22) rfl ?_); refine goesL_ (some 60) rfl rfl Tryd.func22 (by kernel_rfl) rfl #[.string x5_4, .string a1] rfl mq ?_; (with_reducible refine (schismaref01_Compare.calls x5_4 a1 t418 _ A28.out).mono ?_); rintro e w' ⟨rfl, ⟨nd, rfl⟩⟩; refine ⟨_, rfl, ?_⟩; (try (rw [drewN_self wr]; generalize hq_ : World.drewN wr _ = wr; have n0_ : Aside0 (Kd.R (Kd.int .u8) 5 wr w.heap.size (fun _ => True) v415 x10_2) := ⟨by rw [← hq_]; exact (by (with_reducible repeat (first | apply Kd.R_alloc | apply Kd.R_drewN | apply Kd.R_drew)); exact HO_10.out)⟩; have n1_ : Aside0 (Below w.heap.size w wr) := ⟨by rw [← hq_]; exact bq⟩; clear HO_10 HB hq_; have HO_10 := n0_; have HB := n1_; clear n0_ n1_)); have p34 : 0 ≤ (x11_2 : Int) := of_decide_eq_true (by first | (with_reducible assumption) | assumption); have q34 : (x11_2 : Int) < ((x10_2.length : Int) : Int) := of_decide_eq_true (by first | (with_reducible assumption) | assumption); obtain ⟨go34, co34, eo34, gb34, gl34, cl34, HG34⟩ := Kd.R_form HO_10.out (by omega); (first | cases eo34 | (injection eo34 with ea_ en_ ec_; (first | subst ea_ | (injection ea_ with ea_; subst ea_)); subst ec_; clear en_)); have GB34 := Aside0.mk gb34; have GG34 := Aside0.mk HG34; clear gb34 gl34 HG34; obtain ⟨hx34_0, hf34_0⟩ := Kd.R_celln 0 HO_10.out (x11_2 : Int) p34 q34; replace p34 := eq_true p34; replace q34 := eq_true q34; obtain ⟨hy35_, hz35_⟩ := Kd.R_celln 0 HO_10.out (x11_2 : Int) (of_decide_eq_true (by first | (with_reducible assumption) | assumption)) (of_decide_eq_true (by first | (with_reducible assumption) | assumption)); have HP35 := Kd.R_putg HO_10.out (x11_2 : Int) x12_4) | ((with_reducible refine gate_store (t := 5) (p := 70) rfl ?_); refine store_event (t := 5) (p := 70) (v := ?vo_w36) (w1 := (wr.setCell ⟨go34, (x11_2 : Int).toNat, none⟩ (.int .u8 x12_4))) ?hg ?ho ?hn ?hr ?_; (case ho => rfl); (case hg => rfl); (case hn => rfl); (case hr => first | (go_simp; done) | (go_simp; rfl)); intro w36 hw; have hg : wr.grownBy w36 (some go34) := (by rw [hw]; exact HP35.2); have hp_ : Kd.R (Kd.int .u8) 5 w36 w.heap.size (fun _ => True) (.slice (some ⟨go34, 0, none⟩) x10_2.length co34) y420 := (by rw [hw, Ny420.out]; exact HP35.1); clear HP35; have n0_ := Aside0.mk (hp_); have n1_ := Aside0.mk ((by rw [hw]; exact below_set (HB.out) GB34.out : Below w.heap.size w w36)); clear HO_10; clear HB; have HO_10 := n0_; have HB := n1_; clear n0_ n1_; clear hg hw hp_))
                                go_roundg k4
                                case measure => have := HJ4.out; have := HK2.out; have := HJ18.out; have := HK4.out; omega
                                case rel => exact ⟨(x5_4), (y420), (wrap64 (x11_2 + 1)), (by first | rfl | (simp; done) | (simp [*]; done)), (by first | rfl | (simp; done) | (simp [*]; done)), H', ⟨by have := HJ4.out; have := HK2.out; have := HJ18.out; have := HK4.out; omega⟩, ⟨by (with_reducible repeat (first | apply Kd.R_alloc | apply Kd.R_drewN | apply Kd.R_drew)); exact HO_10.out⟩, ⟨bq⟩⟩
                              · rw [if_neg c33] at H
                                exact absurd H (by simp)
                            · rw [if_neg c32] at H
                              exact absurd H (by simp)
                · rw [if_neg c18] at H
                  have c18b0 : decide (x11_2 < (a0.size : Int)) = false := decide_eq_false c18
                  clear c18
                  replace H := Option.bind_eq_some_iff.mp H
                  obtain ⟨t417, A370, H⟩ := H
                  replace H : (some (t417, x5_2)) = some (r1, r2) := H
                  have A37 := Aside0.mk A370
                  clear A370
                  simp only [Option.some.injEq, Prod.mk.injEq] at H
                  obtain ⟨rfl, rfl⟩ := H
                  obtain ⟨Ao38, co38, eo38⟩ := Kd.R_slice HO_10.out
                  subst eo38
                  go_wp2_with (first | ((with_reducible refine gate_callee (f := 51) rfl ?_); refine goesL_ (some 72) rfl rfl Tryd.func51 (by kernel_rfl) rfl #[.slice Ao38 x10_2.length co38] rfl mq ?_; (with_reducible refine (schismaref01_trim.calls k2 _ _ x10_2 t417 _ ?side1 ?side2 A37.out).mono ?_); (case side1 => repeat (first | exact (Kd.R_reads' HO_10.out).2.2 | (with_reducible refine Kd.C_alloc ?_ _) | (with_reducible refine Kd.C_drewN ?_ _) | (with_reducible refine Kd.C_drew ?_))); (case side2 => exact (Kd.R_reads' HO_10.out).2.1); rintro e w' ⟨rfl, ⟨nd, rfl⟩⟩; refine ⟨_, rfl, ?_⟩))
                  go_ret2
                  exact ⟨eq_, bq⟩
          · rw [if_neg c15] at H
            exact absurd H (by simp)
        · rw [if_neg c14] at H
          exact absurd H (by simp)
mutual
def schismaref01_Bits.l0 : Nat → ByteArray → Int → Option (Int)
  | 0, _, _ => none
  | k + 1, x0, x3 => if x0.toList = ([48] : List UInt8) then (some x3) else ((schismaref01_quick.f k x0).bind fun bt421 => (if bt421.2 = true then (schismaref01_Bits.l1 k x3 bt421.1) else ((schismaref01_DivMod.f k x0 (⟨#[49, 48, 55, 51, 55, 52, 49, 56, 50, 52]⟩ : ByteArray)).bind fun bt423 => (schismaref01_Bits.l0 k bt423.1 (wrap64 (x3 + 30))))))
def schismaref01_Bits.l1 : Nat → Int → Int → Option (Int)
  | 0, _, _ => none
  | k + 1, x3, x4 => if x4 > 0 then (schismaref01_Bits.l1 k (wrap64 (x3 + 1)) (IntKind.u64.wrap (Int.tdiv x4 2))) else (some x3)
end
def schismaref01_Bits.f (k : Nat) (a0 : ByteArray) : Option (Int) := schismaref01_Bits.l0 k a0 0
theorem schismaref01_Bits.mono_l : ∀ k, (∀ y0 y1, LeO (schismaref01_Bits.l0 k y0 y1) (schismaref01_Bits.l0 (k + 1) y0 y1)) ∧ (∀ y0 y1, LeO (schismaref01_Bits.l1 k y0 y1) (schismaref01_Bits.l1 (k + 1) y0 y1))
  | 0 => ⟨fun _ _ r h => by simp [schismaref01_Bits.l0] at h, fun _ _ r h => by simp [schismaref01_Bits.l1] at h⟩
  | k + 1 => by
    obtain ⟨ih0, ih1⟩ := schismaref01_Bits.mono_l k
    refine ⟨?_, ?_⟩
    · intro y0 y1
      unfold schismaref01_Bits.l0
      repeat' first
      | (with_reducible exact ih0 _ _)
      | (with_reducible exact ih1 _ _)
      | (with_reducible exact schismaref01_DivMod.mono _ _ _)
      | (with_reducible exact schismaref01_quick.mono _ _)
      | (with_reducible exact LeO.refl _)
      | (with_reducible exact LeO.none _)
      | (with_reducible refine LeO.ite ?_ ?_)
      | (with_reducible refine LeO.bind ?_ (fun _ => ?_))
      | exact ih0 _ _
      | exact ih1 _ _
      | exact schismaref01_DivMod.mono _ _ _
      | exact schismaref01_quick.mono _ _
      | exact LeO.none _
      | refine LeO.ite ?_ ?_
      | refine LeO.bind ?_ (fun _ => ?_)
    · intro y0 y1
      unfold schismaref01_Bits.l1
      repeat' first
      | (with_reducible exact ih0 _ _)
      | (with_reducible exact ih1 _ _)
      | (with_reducible exact schismaref01_DivMod.mono _ _ _)
      | (with_reducible exact schismaref01_quick.mono _ _)
      | (with_reducible exact LeO.refl _)
      | (with_reducible exact LeO.none _)
      | (with_reducible refine LeO.ite ?_ ?_)
      | (with_reducible refine LeO.bind ?_ (fun _ => ?_))
      | exact ih0 _ _
      | exact ih1 _ _
      | exact schismaref01_DivMod.mono _ _ _
      | exact schismaref01_quick.mono _ _
      | exact LeO.none _
      | refine LeO.ite ?_ ?_
      | refine LeO.bind ?_ (fun _ => ?_)
theorem schismaref01_Bits.mono : ∀ a0 k, LeO (schismaref01_Bits.f k a0) (schismaref01_Bits.f (k + 1) a0) := by
  intro a0 k
  obtain ⟨ih0, ih1⟩ := schismaref01_Bits.mono_l k
  unfold schismaref01_Bits.f
  repeat' first
      | (with_reducible exact ih0 _ _)
      | (with_reducible exact ih1 _ _)
      | (with_reducible exact schismaref01_DivMod.mono _ _ _)
      | (with_reducible exact schismaref01_quick.mono _ _)
      | (with_reducible exact LeO.refl _)
      | (with_reducible exact LeO.none _)
      | (with_reducible refine LeO.ite ?_ ?_)
      | (with_reducible refine LeO.bind ?_ (fun _ => ?_))
      | exact ih0 _ _
      | exact ih1 _ _
      | exact schismaref01_DivMod.mono _ _ _
      | exact schismaref01_quick.mono _ _
      | exact LeO.none _
      | refine LeO.ite ?_ ?_
      | refine LeO.bind ?_ (fun _ => ?_)
set_option maxHeartbeats 8000000 in
set_option maxRecDepth 100000 in
theorem schismaref01_Bits.calls (k : Nat) (a0 : ByteArray) (r : Int) (w : World) (h : schismaref01_Bits.f k a0 = some r) :
    Calls Tryd.prog 32 #[.string a0] w fun e w' => e = .returned (.int .i64 r) ∧ Below w.heap.size w w' := by
  have HB := Aside0.mk (Below.refl w.heap.size w)
  have H : (schismaref01_Bits.l0 k a0 0) = some r := h
  clear h
  have H' := Aside0.mk H
  clear H
  go_enter Tryd.func32, Tryd.ntmps32
  go_wp2
  go_loopg [0, 3] k (fun kq v0 v3 w' => ∃ (x0_1 : ByteArray) (x3_1 : Int), v0 = .string x0_1 ∧ v3 = .int .i64 x3_1 ∧ Aside0 (schismaref01_Bits.l0 kq x0_1 x3_1 = some r) ∧ Aside0 (kq ≤ k) ∧ Aside0 (Below w.heap.size w w'))
  case atStart => exact ⟨(a0), (0), (by first | rfl | (simp; done) | (simp [*]; done)), (by first | rfl | (simp; done) | (simp [*]; done)), H', ⟨Nat.le_refl _⟩, ⟨bq⟩⟩
  case round =>
    clear H'
    obtain ⟨x0_1, x3_1, rfl, rfl, HA, HK1, HB⟩ := hrel
    cases gk with
    | zero => exact absurd HA.out (by simp [schismaref01_Bits.l0])
    | succ k1 =>
      have H := HA.out
      clear HA
      simp only [schismaref01_Bits.l0] at H
      by_cases c2 : x0_1.toList = ([48] : List UInt8)
      · rw [if_pos c2] at H
        have c2b0 : (x0_1.toList == ([48] : List UInt8)) = true := beq_iff_eq.mpr c2
        have c2b1 : (x0_1.toList != ([48] : List UInt8)) = false := bne_eq_false_iff_eq.mpr c2
        clear c2
        obtain rfl := Option.some.inj H
        go_wp2
        go_ret
        exact ⟨eq_, bq⟩
      · rw [if_neg c2] at H
        have c2b0 : (x0_1.toList == ([48] : List UInt8)) = false := beq_eq_false_iff_ne.mpr c2
        have c2b1 : (x0_1.toList != ([48] : List UInt8)) = true := bne_iff_ne.mpr c2
        replace H := Option.bind_eq_some_iff.mp H
        obtain ⟨⟨t421, t422⟩, A30, H⟩ := H
        replace H : (if t422 = true then (schismaref01_Bits.l1 k1 x3_1 t421) else ((schismaref01_DivMod.f k1 x0_1 (⟨#[49, 48, 55, 51, 55, 52, 49, 56, 50, 52]⟩ : ByteArray)).bind fun bt423 => (schismaref01_Bits.l0 k1 bt423.1 (wrap64 (x3_1 + 30))))) = some r := H
        have A3 := Aside0.mk A30
        clear A30
        by_cases c4 : t422 = true
        · subst c4
          have H1 : (schismaref01_Bits.l1 k1 x3_1 t421) = some r := by rw [if_pos rfl] at H; exact H
          clear H
          have H := H1
          clear H1
          have H' := Aside0.mk H
          clear H
          go_wp2_with (first | ((with_reducible refine gate_callee (f := 43) rfl ?_); refine goesL_ (some 10) rfl rfl Tryd.func43 (by kernel_rfl) rfl #[.string x0_1] rfl mq ?_; (with_reducible refine (schismaref01_quick.calls k1 x0_1 t421 true _ A3.out).mono ?_); rintro e w' ⟨rfl, ⟨nd, rfl⟩⟩; refine ⟨_, rfl, ?_⟩))
          go_loopg [3, 4] k1 (fun kq v3 v4 w' => ∃ (x3_2 : Int) (x4_2 : Int), v3 = .int .i64 x3_2 ∧ v4 = .int .u64 x4_2 ∧ Aside0 (schismaref01_Bits.l1 kq x3_2 x4_2 = some r) ∧ Aside0 (kq ≤ k1) ∧ Aside0 (Below w.heap.size w w'))
          case atStart => exact ⟨(x3_1), (t421), (by first | rfl | (simp; done) | (simp [*]; done)), (by first | rfl | (simp; done) | (simp [*]; done)), H', ⟨Nat.le_refl _⟩, ⟨bq⟩⟩
          case round =>
            clear H'
            try clear c2
            try clear c2b0
            try clear c2b1
            try clear p2
            try clear c3
            try clear c4
            obtain ⟨x3_2, x4_2, rfl, rfl, HA, HK2, HB⟩ := hrel
            cases gk with
            | zero => exact absurd HA.out (by simp [schismaref01_Bits.l1])
            | succ k2 =>
              have H := HA.out
              clear HA
              simp only [schismaref01_Bits.l1] at H
              by_cases c5 : x4_2 > 0
              · rw [if_pos c5] at H
                have c5b0 : decide (0 < x4_2) = true := decide_eq_true c5
                clear c5
                have H' := Aside0.mk H
                clear H
                go_wp2
                go_roundg k2
                case measure => have := HK1.out; have := HK2.out; omega
                case rel => exact ⟨(wrap64 (x3_2 + 1)), (IntKind.u64.wrap (Int.tdiv x4_2 2)), (by first | rfl | (simp; done) | (simp [*]; done)), (by first | rfl | (simp; done) | (simp [*]; done)), H', ⟨by have := HK1.out; have := HK2.out; omega⟩, ⟨bq⟩⟩
              · rw [if_neg c5] at H
                have c5b0 : decide (0 < x4_2) = false := decide_eq_false c5
                clear c5
                obtain rfl := Option.some.inj H
                go_wp2
                go_ret
                exact ⟨eq_, bq⟩
        · replace c4 := Bool.eq_false_iff.mpr c4
          subst c4
          have H1 : ((schismaref01_DivMod.f k1 x0_1 (⟨#[49, 48, 55, 51, 55, 52, 49, 56, 50, 52]⟩ : ByteArray)).bind fun bt423 => (schismaref01_Bits.l0 k1 bt423.1 (wrap64 (x3_1 + 30)))) = some r := by rw [if_neg (show ¬ (false = true) by decide)] at H; exact H
          clear H
          have H := H1
          clear H1
          replace H := Option.bind_eq_some_iff.mp H
          obtain ⟨⟨t423, t424⟩, A60, H⟩ := H
          replace H : (schismaref01_Bits.l0 k1 t423 (wrap64 (x3_1 + 30))) = some r := H
          have A6 := Aside0.mk A60
          clear A60
          have H' := Aside0.mk H
          clear H
          go_wp2_with (first | ((with_reducible refine gate_callee (f := 43) rfl ?_); refine goesL_ (some 10) rfl rfl Tryd.func43 (by kernel_rfl) rfl #[.string x0_1] rfl mq ?_; (with_reducible refine (schismaref01_quick.calls k1 x0_1 t421 false _ A3.out).mono ?_); rintro e w' ⟨rfl, ⟨nd, rfl⟩⟩; refine ⟨_, rfl, ?_⟩) | ((with_reducible refine gate_callee (f := 34) rfl ?_); refine goesL_ (some 23) rfl rfl Tryd.func34 (by kernel_rfl) rfl #[.string x0_1, .string (⟨#[49, 48, 55, 51, 55, 52, 49, 56, 50, 52]⟩ : ByteArray)] rfl mq ?_; (with_reducible refine (schismaref01_DivMod.calls k1 x0_1 (⟨#[49, 48, 55, 51, 55, 52, 49, 56, 50, 52]⟩ : ByteArray) t423 t424 _ A6.out).mono ?_); rintro e w7 ⟨rfl, hb⟩; refine ⟨_, rfl, ?_⟩; replace HB := Aside0.mk (below_step bq hb); (try clear hb); (try clear hb2); (try clear hk); (try clear hi)))
          go_roundg k1
          case measure => have := HK1.out; omega
          case rel => exact ⟨(t423), (wrap64 (x3_1 + 30)), (by first | rfl | (simp; done) | (simp [*]; done)), (by first | rfl | (simp; done) | (simp [*]; done)), H', ⟨by have := HK1.out; omega⟩, ⟨bq⟩⟩
def schismalaw01_DecimalCompares.j0 : Nat → List Int → List Int → Bool → Option (Bool)
  | 0, _, _, _ => none
  | k + 1, x0, x1, x14 => if x14 = true then ((schismalaw01_known.f k).bind fun t427 => (some t427)) else ((schismalaw01_Make.f k x0).bind fun t428 => ((schismalaw01_Make.f k x1).bind fun t429 => ((decimal_Compare.f t428 t429).bind fun t430 => ((schismaref01_Compare.f t428 t429).bind fun t431 => (if t430 = t431 then ((decimal_Compare.f t428 t428).bind fun t432 => (if t432 = 0 then ((decimal_Digits.f t428).bind fun t433 => (if t433 = (t428.size : Int) then ((decimal_Bits.f k t428).bind fun t434 => ((schismaref01_Bits.f k t428).bind fun t435 => (some (t434 == t435)))) else (some false))) else (some false))) else (some false))))))
def schismalaw01_DecimalCompares.f (k : Nat) (l0 : List Int) (l1 : List Int) : Option (Bool) := (schismalaw01_known.f k).bind fun t425 => (if t425 = true then ((schismalaw01_few.f l0 l1 ([] : List Int)).bind fun t426 => (schismalaw01_DecimalCompares.j0 k l0 l1 (!t426))) else (schismalaw01_DecimalCompares.j0 k l0 l1 true))
theorem schismalaw01_DecimalCompares.mono_l : ∀ k, (∀ y0 y1 y2, LeO (schismalaw01_DecimalCompares.j0 k y0 y1 y2) (schismalaw01_DecimalCompares.j0 (k + 1) y0 y1 y2))
  | 0 => fun _ _ _ r h => by simp [schismalaw01_DecimalCompares.j0] at h
  | k + 1 => by
    have ih0 := schismalaw01_DecimalCompares.mono_l k
    · intro y0 y1 y2
      unfold schismalaw01_DecimalCompares.j0
      repeat' first
      | (with_reducible exact ih0 _ _ _)
      | (with_reducible exact decimal_Bits.mono _ _)
      | (with_reducible exact schismalaw01_Make.mono _ _)
      | (with_reducible exact schismalaw01_known.mono _)
      | (with_reducible exact schismaref01_Bits.mono _ _)
      | (with_reducible exact LeO.refl _)
      | (with_reducible exact LeO.none _)
      | (with_reducible refine LeO.ite ?_ ?_)
      | (with_reducible refine LeO.bind ?_ (fun _ => ?_))
      | exact ih0 _ _ _
      | exact decimal_Bits.mono _ _
      | exact schismalaw01_Make.mono _ _
      | exact schismalaw01_known.mono _
      | exact schismaref01_Bits.mono _ _
      | exact LeO.none _
      | refine LeO.ite ?_ ?_
      | refine LeO.bind ?_ (fun _ => ?_)
theorem schismalaw01_DecimalCompares.mono : ∀ a0 a1 k, LeO (schismalaw01_DecimalCompares.f k a0 a1) (schismalaw01_DecimalCompares.f (k + 1) a0 a1) := by
  intro a0 a1 k
  have ih0 := schismalaw01_DecimalCompares.mono_l k
  unfold schismalaw01_DecimalCompares.f
  repeat' first
      | (with_reducible exact ih0 _ _ _)
      | (with_reducible exact decimal_Bits.mono _ _)
      | (with_reducible exact schismalaw01_Make.mono _ _)
      | (with_reducible exact schismalaw01_known.mono _)
      | (with_reducible exact schismaref01_Bits.mono _ _)
      | (with_reducible exact LeO.refl _)
      | (with_reducible exact LeO.none _)
      | (with_reducible refine LeO.ite ?_ ?_)
      | (with_reducible refine LeO.bind ?_ (fun _ => ?_))
      | exact ih0 _ _ _
      | exact decimal_Bits.mono _ _
      | exact schismalaw01_Make.mono _ _
      | exact schismalaw01_known.mono _
      | exact schismaref01_Bits.mono _ _
      | exact LeO.none _
      | refine LeO.ite ?_ ?_
      | refine LeO.bind ?_ (fun _ => ?_)
set_option maxHeartbeats 8000000 in
set_option maxRecDepth 100000 in
theorem schismalaw01_DecimalCompares.calls (k : Nat) (A0 : Option Addr) (c0 : Nat) (l0 : List Int) (A1 : Option Addr) (c1 : Nat) (l1 : List Int) (r : Bool) (w : World) (hr0 : Kd.C (Kd.int .u8) w A0 l0.length l0) (hc0 : l0.length ≤ c0) (hr1 : Kd.C (Kd.int .u8) w A1 l1.length l1) (hc1 : l1.length ≤ c1) (hT : Tab w) (h : schismalaw01_DecimalCompares.f k l0 l1 = some r) :
    Calls Tryd.prog 8 #[.slice A0 l0.length c0, .slice A1 l1.length c1] w fun e w' => e = .returned (.bool r) ∧ Below w.heap.size w w' := by
  have HT := Aside0.mk hT
  clear hT
  have HR0 := Aside0.mk hr0
  have HC0 := Aside0.mk hc0
  clear hr0 hc0
  have HR1 := Aside0.mk hr1
  have HC1 := Aside0.mk hc1
  clear hr1 hc1
  have HB := Aside0.mk (Below.refl w.heap.size w)
  have H : ((schismalaw01_known.f k).bind fun t425 => (if t425 = true then ((schismalaw01_few.f l0 l1 ([] : List Int)).bind fun t426 => (schismalaw01_DecimalCompares.j0 k l0 l1 (!t426))) else (schismalaw01_DecimalCompares.j0 k l0 l1 true))) = some r := h
  clear h
  have HC3 := Aside0.mk H
  clear H
  go_enter Tryd.func8, Tryd.ntmps8
  go_upto_region 1 with (fail)
  go_cut [14] (fun v14 wc => ∃ (kq : Nat) (x14_2 : Bool), v14 = .bool x14_2 ∧ Aside0 (schismalaw01_DecimalCompares.j0 kq l0 l1 x14_2 = some r) ∧ Aside0 (kq ≤ k) ∧ Aside0 (Below w.heap.size w wc))
  case first =>
    have H := HC3.out
    clear HC3
    replace H := Option.bind_eq_some_iff.mp H
    obtain ⟨t425, A40, H⟩ := H
    replace H : (if t425 = true then ((schismalaw01_few.f l0 l1 ([] : List Int)).bind fun t426 => (schismalaw01_DecimalCompares.j0 k l0 l1 (!t426))) else (schismalaw01_DecimalCompares.j0 k l0 l1 true)) = some r := H
    have A4 := Aside0.mk A40
    clear A40
    by_cases c5 : t425 = true
    · subst c5
      have H1 : ((schismalaw01_few.f l0 l1 ([] : List Int)).bind fun t426 => (schismalaw01_DecimalCompares.j0 k l0 l1 (!t426))) = some r := by rw [if_pos rfl] at H; exact H
      clear H
      have H := H1
      clear H1
      replace H := Option.bind_eq_some_iff.mp H
      obtain ⟨t426, A60, H⟩ := H
      replace H : (schismalaw01_DecimalCompares.j0 k l0 l1 (!t426)) = some r := H
      have A6 := Aside0.mk A60
      clear A60
      have H' := Aside0.mk H
      clear H
      go_wp2_with (first | ((with_reducible refine gate_callee (f := 13) rfl ?_); refine goesL_ (some 7) rfl rfl Tryd.func13 (by kernel_rfl) rfl #[] rfl mq ?_; (with_reducible refine (schismalaw01_known.calls (hT := HT.out.below bq) k  true _ A4.out).mono ?_); rintro e w7 ⟨rfl, hb⟩; refine ⟨_, rfl, ?_⟩; replace HB := Aside0.mk (below_step bq hb); (try clear hb); (try clear hb2); (try clear hk); (try clear hi)) | (go_at_call 19; (refine (schismalaw01_few.calls _ _ l0 _ _ l1 _ _ ([] : List Int) t426 _ ?side1 ?side2 ?side3 ?side4 ?side5 ?side6 A6.out).mono ?_); (case side1 => repeat (first | exact (Kd.C_below HR0.out HB.out) | (with_reducible refine Kd.C_alloc ?_ _) | (with_reducible refine Kd.C_drewN ?_ _) | (with_reducible refine Kd.C_drew ?_))); (case side2 => exact HC0.out); (case side3 => repeat (first | exact (Kd.C_below HR1.out HB.out) | (with_reducible refine Kd.C_alloc ?_ _) | (with_reducible refine Kd.C_drewN ?_ _) | (with_reducible refine Kd.C_drew ?_))); (case side4 => exact HC1.out); (case side5 => exact Kd.C_nil _ _); (case side6 => exact Nat.le_refl _); rintro e w' ⟨rfl, ⟨nd, rfl⟩⟩))
      go_meet
      case rel => exact ⟨_, (!t426), (by first | rfl | (simp; done) | (simp [*]; done)), H', ⟨by first | omega | exact Nat.le_refl _⟩, ⟨bq⟩⟩
    · replace c5 := Bool.eq_false_iff.mpr c5
      subst c5
      have H1 : (schismalaw01_DecimalCompares.j0 k l0 l1 true) = some r := by rw [if_neg (show ¬ (false = true) by decide)] at H; exact H
      clear H
      have H := H1
      clear H1
      have H' := Aside0.mk H
      clear H
      go_wp2_with (first | ((with_reducible refine gate_callee (f := 13) rfl ?_); refine goesL_ (some 7) rfl rfl Tryd.func13 (by kernel_rfl) rfl #[] rfl mq ?_; (with_reducible refine (schismalaw01_known.calls (hT := HT.out.below bq) k  false _ A4.out).mono ?_); rintro e w8 ⟨rfl, hb⟩; refine ⟨_, rfl, ?_⟩; replace HB := Aside0.mk (below_step bq hb); (try clear hb); (try clear hb2); (try clear hk); (try clear hi)))
      go_meet
      case rel => exact ⟨_, (true), (by first | rfl | (simp; done) | (simp [*]; done)), H', ⟨by first | omega | exact Nat.le_refl _⟩, ⟨bq⟩⟩
  case rest =>
    clear HC3
    try clear c1
    try clear p2
    try clear c5
    try clear c8
    obtain ⟨kq, x14_2, rfl, HA, HJ2, HB⟩ := hcut
    cases kq with
    | zero => exact absurd HA.out (by simp [schismalaw01_DecimalCompares.j0])
    | succ kj2 =>
      have H := HA.out
      clear HA
      simp only [schismalaw01_DecimalCompares.j0] at H
      by_cases c9 : x14_2 = true
      · subst c9
        have H1 : ((schismalaw01_known.f kj2).bind fun t427 => (some t427)) = some r := by rw [if_pos rfl] at H; exact H
        clear H
        have H := H1
        clear H1
        replace H := Option.bind_eq_some_iff.mp H
        obtain ⟨t427, A100, H⟩ := H
        replace H : (some t427) = some r := H
        have A10 := Aside0.mk A100
        clear A100
        obtain rfl := Option.some.inj H
        go_wp2_with (first | ((with_reducible refine gate_callee (f := 13) rfl ?_); refine goesL_ (some 15) rfl rfl Tryd.func13 (by kernel_rfl) rfl #[] rfl mq ?_; (with_reducible refine (schismalaw01_known.calls (hT := HT.out.below bq) kj2  t427 _ A10.out).mono ?_); rintro e w11 ⟨rfl, hb⟩; refine ⟨_, rfl, ?_⟩; replace HB := Aside0.mk (below_step bq hb); (try clear hb); (try clear hb2); (try clear hk); (try clear hi)))
        go_ret
        exact ⟨eq_, bq⟩
      · replace c9 := Bool.eq_false_iff.mpr c9
        subst c9
        have H1 : ((schismalaw01_Make.f kj2 l0).bind fun t428 => ((schismalaw01_Make.f kj2 l1).bind fun t429 => ((decimal_Compare.f t428 t429).bind fun t430 => ((schismaref01_Compare.f t428 t429).bind fun t431 => (if t430 = t431 then ((decimal_Compare.f t428 t428).bind fun t432 => (if t432 = 0 then ((decimal_Digits.f t428).bind fun t433 => (if t433 = (t428.size : Int) then ((decimal_Bits.f kj2 t428).bind fun t434 => ((schismaref01_Bits.f kj2 t428).bind fun t435 => (some (t434 == t435)))) else (some false))) else (some false))) else (some false)))))) = some r := by rw [if_neg (show ¬ (false = true) by decide)] at H; exact H
        clear H
        have H := H1
        clear H1
        replace H := Option.bind_eq_some_iff.mp H
        obtain ⟨t428, A120, H⟩ := H
        replace H : ((schismalaw01_Make.f kj2 l1).bind fun t429 => ((decimal_Compare.f t428 t429).bind fun t430 => ((schismaref01_Compare.f t428 t429).bind fun t431 => (if t430 = t431 then ((decimal_Compare.f t428 t428).bind fun t432 => (if t432 = 0 then ((decimal_Digits.f t428).bind fun t433 => (if t433 = (t428.size : Int) then ((decimal_Bits.f kj2 t428).bind fun t434 => ((schismaref01_Bits.f kj2 t428).bind fun t435 => (some (t434 == t435)))) else (some false))) else (some false))) else (some false))))) = some r := H
        have A12 := Aside0.mk A120
        clear A120
        replace H := Option.bind_eq_some_iff.mp H
        obtain ⟨t429, A130, H⟩ := H
        replace H : ((decimal_Compare.f t428 t429).bind fun t430 => ((schismaref01_Compare.f t428 t429).bind fun t431 => (if t430 = t431 then ((decimal_Compare.f t428 t428).bind fun t432 => (if t432 = 0 then ((decimal_Digits.f t428).bind fun t433 => (if t433 = (t428.size : Int) then ((decimal_Bits.f kj2 t428).bind fun t434 => ((schismaref01_Bits.f kj2 t428).bind fun t435 => (some (t434 == t435)))) else (some false))) else (some false))) else (some false)))) = some r := H
        have A13 := Aside0.mk A130
        clear A130
        replace H := Option.bind_eq_some_iff.mp H
        obtain ⟨t430, A140, H⟩ := H
        replace H : ((schismaref01_Compare.f t428 t429).bind fun t431 => (if t430 = t431 then ((decimal_Compare.f t428 t428).bind fun t432 => (if t432 = 0 then ((decimal_Digits.f t428).bind fun t433 => (if t433 = (t428.size : Int) then ((decimal_Bits.f kj2 t428).bind fun t434 => ((schismaref01_Bits.f kj2 t428).bind fun t435 => (some (t434 == t435)))) else (some false))) else (some false))) else (some false))) = some r := H
        have A14 := Aside0.mk A140
        clear A140
        replace H := Option.bind_eq_some_iff.mp H
        obtain ⟨t431, A150, H⟩ := H
        replace H : (if t430 = t431 then ((decimal_Compare.f t428 t428).bind fun t432 => (if t432 = 0 then ((decimal_Digits.f t428).bind fun t433 => (if t433 = (t428.size : Int) then ((decimal_Bits.f kj2 t428).bind fun t434 => ((schismaref01_Bits.f kj2 t428).bind fun t435 => (some (t434 == t435)))) else (some false))) else (some false))) else (some false)) = some r := H
        have A15 := Aside0.mk A150
        clear A150
        by_cases c16 : t430 = t431
        · rw [if_pos c16] at H
          have c16b0 : (t430 == t431) = true := beq_iff_eq.mpr c16
          have c16b1 : (t430 != t431) = false := bne_eq_false_iff_eq.mpr c16
          clear c16
          replace H := Option.bind_eq_some_iff.mp H
          obtain ⟨t432, A170, H⟩ := H
          replace H : (if t432 = 0 then ((decimal_Digits.f t428).bind fun t433 => (if t433 = (t428.size : Int) then ((decimal_Bits.f kj2 t428).bind fun t434 => ((schismaref01_Bits.f kj2 t428).bind fun t435 => (some (t434 == t435)))) else (some false))) else (some false)) = some r := H
          have A17 := Aside0.mk A170
          clear A170
          by_cases c18 : t432 = 0
          · rw [if_pos c18] at H
            have c18b0 : (t432 == 0) = true := beq_iff_eq.mpr c18
            have c18b1 : (t432 != 0) = false := bne_eq_false_iff_eq.mpr c18
            clear c18
            replace H := Option.bind_eq_some_iff.mp H
            obtain ⟨t433, A190, H⟩ := H
            replace H : (if t433 = (t428.size : Int) then ((decimal_Bits.f kj2 t428).bind fun t434 => ((schismaref01_Bits.f kj2 t428).bind fun t435 => (some (t434 == t435)))) else (some false)) = some r := H
            have A19 := Aside0.mk A190
            clear A190
            by_cases c20 : t433 = (t428.size : Int)
            · rw [if_pos c20] at H
              have c20b0 : (t433 == (t428.size : Int)) = true := beq_iff_eq.mpr c20
              have c20b1 : (t433 != (t428.size : Int)) = false := bne_eq_false_iff_eq.mpr c20
              clear c20
              replace H := Option.bind_eq_some_iff.mp H
              obtain ⟨t434, A210, H⟩ := H
              replace H : ((schismaref01_Bits.f kj2 t428).bind fun t435 => (some (t434 == t435))) = some r := H
              have A21 := Aside0.mk A210
              clear A210
              replace H := Option.bind_eq_some_iff.mp H
              obtain ⟨t435, A220, H⟩ := H
              replace H : (some (t434 == t435)) = some r := H
              have A22 := Aside0.mk A220
              clear A220
              obtain rfl := Option.some.inj H
              go_wp2_with (first | ((with_reducible refine gate_callee (f := 16) rfl ?_); refine goesL_ (some 17) rfl rfl Tryd.func16 (by kernel_rfl) rfl #[.slice A0 l0.length c0] rfl mq ?_; (with_reducible refine (schismalaw01_Make.calls kj2 _ _ l0 t428 _ ?side1 ?side2 A12.out).mono ?_); (case side1 => repeat (first | exact (Kd.C_below HR0.out HB.out) | (with_reducible refine Kd.C_alloc ?_ _) | (with_reducible refine Kd.C_drewN ?_ _) | (with_reducible refine Kd.C_drew ?_))); (case side2 => exact HC0.out); rintro e w23 ⟨rfl, hb⟩; refine ⟨_, rfl, ?_⟩; replace HB := Aside0.mk (below_step bq hb); (try clear hb); (try clear hb2); (try clear hk); (try clear hi)) | ((with_reducible refine gate_callee (f := 16) rfl ?_); refine goesL_ (some 19) rfl rfl Tryd.func16 (by kernel_rfl) rfl #[.slice A1 l1.length c1] rfl mq ?_; (with_reducible refine (schismalaw01_Make.calls kj2 _ _ l1 t429 _ ?side1 ?side2 A13.out).mono ?_); (case side1 => repeat (first | exact (Kd.C_below HR1.out HB.out) | (with_reducible refine Kd.C_alloc ?_ _) | (with_reducible refine Kd.C_drewN ?_ _) | (with_reducible refine Kd.C_drew ?_))); (case side2 => exact HC1.out); rintro e w24 ⟨rfl, hb⟩; refine ⟨_, rfl, ?_⟩; replace HB := Aside0.mk (below_step bq hb); (try clear hb); (try clear hb2); (try clear hk); (try clear hi)) | ((with_reducible refine gate_callee (f := 30) rfl ?_); refine goesL_ (some 22) rfl rfl Tryd.func30 (by kernel_rfl) rfl #[.string t428, .string t429] rfl mq ?_; (with_reducible refine (decimal_Compare.calls t428 t429 t430 _ A14.out).mono ?_); rintro e w25 ⟨rfl, hb⟩; refine ⟨_, rfl, ?_⟩; replace HB := Aside0.mk (below_step bq hb); (try clear hb); (try clear hb2); (try clear hk); (try clear hi)) | ((with_reducible refine gate_callee (f := 22) rfl ?_); refine goesL_ (some 25) rfl rfl Tryd.func22 (by kernel_rfl) rfl #[.string t428, .string t429] rfl mq ?_; (with_reducible refine (schismaref01_Compare.calls t428 t429 t431 _ A15.out).mono ?_); rintro e w' ⟨rfl, ⟨nd, rfl⟩⟩; refine ⟨_, rfl, ?_⟩) | (go_at_call 30; (with_reducible refine (decimal_Compare.calls t428 t428 t432 _ A17.out).mono ?_); rintro e w26 ⟨rfl, hb⟩; replace HB := Aside0.mk (below_step bq hb); (try clear hb); (try clear hb2); (try clear hk); (try clear hi)) | (go_at_call 29; (with_reducible refine (decimal_Digits.calls t428 t433 _ A19.out).mono ?_); rintro e w' ⟨rfl, ⟨nd, rfl⟩⟩) | (go_at_call 31; (with_reducible refine (decimal_Bits.calls (hT := HT.out.below bq) kj2 t428 t434 _ A21.out).mono ?_); rintro e w27 ⟨rfl, hb⟩; replace HB := Aside0.mk (below_step bq hb); (try clear hb); (try clear hb2); (try clear hk); (try clear hi)) | (go_at_call 32; (with_reducible refine (schismaref01_Bits.calls kj2 t428 t435 _ A22.out).mono ?_); rintro e w28 ⟨rfl, hb⟩; replace HB := Aside0.mk (below_step bq hb); (try clear hb); (try clear hb2); (try clear hk); (try clear hi)))
              go_ret
              exact ⟨eq_, bq⟩
            · rw [if_neg c20] at H
              have c20b0 : (t433 == (t428.size : Int)) = false := beq_eq_false_iff_ne.mpr c20
              have c20b1 : (t433 != (t428.size : Int)) = true := bne_iff_ne.mpr c20
              obtain rfl := Option.some.inj H
              go_wp2_with (first | ((with_reducible refine gate_callee (f := 16) rfl ?_); refine goesL_ (some 17) rfl rfl Tryd.func16 (by kernel_rfl) rfl #[.slice A0 l0.length c0] rfl mq ?_; (with_reducible refine (schismalaw01_Make.calls kj2 _ _ l0 t428 _ ?side1 ?side2 A12.out).mono ?_); (case side1 => repeat (first | exact (Kd.C_below HR0.out HB.out) | (with_reducible refine Kd.C_alloc ?_ _) | (with_reducible refine Kd.C_drewN ?_ _) | (with_reducible refine Kd.C_drew ?_))); (case side2 => exact HC0.out); rintro e w29 ⟨rfl, hb⟩; refine ⟨_, rfl, ?_⟩; replace HB := Aside0.mk (below_step bq hb); (try clear hb); (try clear hb2); (try clear hk); (try clear hi)) | ((with_reducible refine gate_callee (f := 16) rfl ?_); refine goesL_ (some 19) rfl rfl Tryd.func16 (by kernel_rfl) rfl #[.slice A1 l1.length c1] rfl mq ?_; (with_reducible refine (schismalaw01_Make.calls kj2 _ _ l1 t429 _ ?side1 ?side2 A13.out).mono ?_); (case side1 => repeat (first | exact (Kd.C_below HR1.out HB.out) | (with_reducible refine Kd.C_alloc ?_ _) | (with_reducible refine Kd.C_drewN ?_ _) | (with_reducible refine Kd.C_drew ?_))); (case side2 => exact HC1.out); rintro e w30 ⟨rfl, hb⟩; refine ⟨_, rfl, ?_⟩; replace HB := Aside0.mk (below_step bq hb); (try clear hb); (try clear hb2); (try clear hk); (try clear hi)) | ((with_reducible refine gate_callee (f := 30) rfl ?_); refine goesL_ (some 22) rfl rfl Tryd.func30 (by kernel_rfl) rfl #[.string t428, .string t429] rfl mq ?_; (with_reducible refine (decimal_Compare.calls t428 t429 t430 _ A14.out).mono ?_); rintro e w31 ⟨rfl, hb⟩; refine ⟨_, rfl, ?_⟩; replace HB := Aside0.mk (below_step bq hb); (try clear hb); (try clear hb2); (try clear hk); (try clear hi)) | ((with_reducible refine gate_callee (f := 22) rfl ?_); refine goesL_ (some 25) rfl rfl Tryd.func22 (by kernel_rfl) rfl #[.string t428, .string t429] rfl mq ?_; (with_reducible refine (schismaref01_Compare.calls t428 t429 t431 _ A15.out).mono ?_); rintro e w' ⟨rfl, ⟨nd, rfl⟩⟩; refine ⟨_, rfl, ?_⟩) | (go_at_call 30; (with_reducible refine (decimal_Compare.calls t428 t428 t432 _ A17.out).mono ?_); rintro e w32 ⟨rfl, hb⟩; replace HB := Aside0.mk (below_step bq hb); (try clear hb); (try clear hb2); (try clear hk); (try clear hi)) | (go_at_call 29; (with_reducible refine (decimal_Digits.calls t428 t433 _ A19.out).mono ?_); rintro e w' ⟨rfl, ⟨nd, rfl⟩⟩))
              go_ret
              exact ⟨eq_, bq⟩
          · rw [if_neg c18] at H
            have c18b0 : (t432 == 0) = false := beq_eq_false_iff_ne.mpr c18
            have c18b1 : (t432 != 0) = true := bne_iff_ne.mpr c18
            obtain rfl := Option.some.inj H
            go_wp2_with (first | ((with_reducible refine gate_callee (f := 16) rfl ?_); refine goesL_ (some 17) rfl rfl Tryd.func16 (by kernel_rfl) rfl #[.slice A0 l0.length c0] rfl mq ?_; (with_reducible refine (schismalaw01_Make.calls kj2 _ _ l0 t428 _ ?side1 ?side2 A12.out).mono ?_); (case side1 => repeat (first | exact (Kd.C_below HR0.out HB.out) | (with_reducible refine Kd.C_alloc ?_ _) | (with_reducible refine Kd.C_drewN ?_ _) | (with_reducible refine Kd.C_drew ?_))); (case side2 => exact HC0.out); rintro e w33 ⟨rfl, hb⟩; refine ⟨_, rfl, ?_⟩; replace HB := Aside0.mk (below_step bq hb); (try clear hb); (try clear hb2); (try clear hk); (try clear hi)) | ((with_reducible refine gate_callee (f := 16) rfl ?_); refine goesL_ (some 19) rfl rfl Tryd.func16 (by kernel_rfl) rfl #[.slice A1 l1.length c1] rfl mq ?_; (with_reducible refine (schismalaw01_Make.calls kj2 _ _ l1 t429 _ ?side1 ?side2 A13.out).mono ?_); (case side1 => repeat (first | exact (Kd.C_below HR1.out HB.out) | (with_reducible refine Kd.C_alloc ?_ _) | (with_reducible refine Kd.C_drewN ?_ _) | (with_reducible refine Kd.C_drew ?_))); (case side2 => exact HC1.out); rintro e w34 ⟨rfl, hb⟩; refine ⟨_, rfl, ?_⟩; replace HB := Aside0.mk (below_step bq hb); (try clear hb); (try clear hb2); (try clear hk); (try clear hi)) | ((with_reducible refine gate_callee (f := 30) rfl ?_); refine goesL_ (some 22) rfl rfl Tryd.func30 (by kernel_rfl) rfl #[.string t428, .string t429] rfl mq ?_; (with_reducible refine (decimal_Compare.calls t428 t429 t430 _ A14.out).mono ?_); rintro e w35 ⟨rfl, hb⟩; refine ⟨_, rfl, ?_⟩; replace HB := Aside0.mk (below_step bq hb); (try clear hb); (try clear hb2); (try clear hk); (try clear hi)) | ((with_reducible refine gate_callee (f := 22) rfl ?_); refine goesL_ (some 25) rfl rfl Tryd.func22 (by kernel_rfl) rfl #[.string t428, .string t429] rfl mq ?_; (with_reducible refine (schismaref01_Compare.calls t428 t429 t431 _ A15.out).mono ?_); rintro e w' ⟨rfl, ⟨nd, rfl⟩⟩; refine ⟨_, rfl, ?_⟩) | (go_at_call 30; (with_reducible refine (decimal_Compare.calls t428 t428 t432 _ A17.out).mono ?_); rintro e w36 ⟨rfl, hb⟩; replace HB := Aside0.mk (below_step bq hb); (try clear hb); (try clear hb2); (try clear hk); (try clear hi)))
            go_ret
            exact ⟨eq_, bq⟩
        · rw [if_neg c16] at H
          have c16b0 : (t430 == t431) = false := beq_eq_false_iff_ne.mpr c16
          have c16b1 : (t430 != t431) = true := bne_iff_ne.mpr c16
          obtain rfl := Option.some.inj H
          go_wp2_with (first | ((with_reducible refine gate_callee (f := 16) rfl ?_); refine goesL_ (some 17) rfl rfl Tryd.func16 (by kernel_rfl) rfl #[.slice A0 l0.length c0] rfl mq ?_; (with_reducible refine (schismalaw01_Make.calls kj2 _ _ l0 t428 _ ?side1 ?side2 A12.out).mono ?_); (case side1 => repeat (first | exact (Kd.C_below HR0.out HB.out) | (with_reducible refine Kd.C_alloc ?_ _) | (with_reducible refine Kd.C_drewN ?_ _) | (with_reducible refine Kd.C_drew ?_))); (case side2 => exact HC0.out); rintro e w37 ⟨rfl, hb⟩; refine ⟨_, rfl, ?_⟩; replace HB := Aside0.mk (below_step bq hb); (try clear hb); (try clear hb2); (try clear hk); (try clear hi)) | ((with_reducible refine gate_callee (f := 16) rfl ?_); refine goesL_ (some 19) rfl rfl Tryd.func16 (by kernel_rfl) rfl #[.slice A1 l1.length c1] rfl mq ?_; (with_reducible refine (schismalaw01_Make.calls kj2 _ _ l1 t429 _ ?side1 ?side2 A13.out).mono ?_); (case side1 => repeat (first | exact (Kd.C_below HR1.out HB.out) | (with_reducible refine Kd.C_alloc ?_ _) | (with_reducible refine Kd.C_drewN ?_ _) | (with_reducible refine Kd.C_drew ?_))); (case side2 => exact HC1.out); rintro e w38 ⟨rfl, hb⟩; refine ⟨_, rfl, ?_⟩; replace HB := Aside0.mk (below_step bq hb); (try clear hb); (try clear hb2); (try clear hk); (try clear hi)) | ((with_reducible refine gate_callee (f := 30) rfl ?_); refine goesL_ (some 22) rfl rfl Tryd.func30 (by kernel_rfl) rfl #[.string t428, .string t429] rfl mq ?_; (with_reducible refine (decimal_Compare.calls t428 t429 t430 _ A14.out).mono ?_); rintro e w39 ⟨rfl, hb⟩; refine ⟨_, rfl, ?_⟩; replace HB := Aside0.mk (below_step bq hb); (try clear hb); (try clear hb2); (try clear hk); (try clear hi)) | ((with_reducible refine gate_callee (f := 22) rfl ?_); refine goesL_ (some 25) rfl rfl Tryd.func22 (by kernel_rfl) rfl #[.string t428, .string t429] rfl mq ?_; (with_reducible refine (schismaref01_Compare.calls t428 t429 t431 _ A15.out).mono ?_); rintro e w' ⟨rfl, ⟨nd, rfl⟩⟩; refine ⟨_, rfl, ?_⟩))
          go_ret
          exact ⟨eq_, bq⟩
def schismalaw01_DecimalCompares.Pure : Prop := ∀ (l0 : List Int) (l1 : List Int), l0.length ≤ maxLen → l0.length * 1 ≤ 140737488351232 → (∀ x ∈ l0, (Lit.int .u8 x).wf = true) → l1.length ≤ maxLen → l1.length * 1 ≤ 140737488351232 → (∀ x ∈ l1, (Lit.int .u8 x).wf = true) → ∃ k, schismalaw01_DecimalCompares.f k l0 l1 = some true
theorem schismalaw01_DecimalCompares.walk (P : schismalaw01_DecimalCompares.Pure) (a0 : Option Addr) (len0 cap0 : Nat) (z0 : List Int) (a1 : Option Addr) (len1 cap1 : Nat) (z1 : List Int) (w : World) (w0 : (a0 = none ∧ len0 = 0 ∧ cap0 = 0 ∧ z0 = []) ∨ ∃ x, a0 = some x ∧ len0 ≤ cap0 ∧ cap0 ≤ maxLen ∧ z0.length = cap0 ∧ (∀ i, i < z0.length → w.cell? (x.add i) = some (.int .u8 (z0.getD i 0))) ∧ ∀ n ∈ z0, (Lit.int .u8 n).wf = true) (y0 : len0 * 1 ≤ 140737488351232) (w1 : (a1 = none ∧ len1 = 0 ∧ cap1 = 0 ∧ z1 = []) ∨ ∃ x, a1 = some x ∧ len1 ≤ cap1 ∧ cap1 ≤ maxLen ∧ z1.length = cap1 ∧ (∀ i, i < z1.length → w.cell? (x.add i) = some (.int .u8 (z1.getD i 0))) ∧ ∀ n ∈ z1, (Lit.int .u8 n).wf = true) (y1 : len1 * 1 ≤ 140737488351232) (hT : Tab w) :
    Calls Tryd.prog 8 #[.slice a0 len0 cap0, .slice a1 len1 cap1] w fun e w' => e = .returned (.bool true) ∧ Below w.heap.size w w' := by
  obtain ⟨l0, rfl, hr0, hm0, hw0, hc0⟩ := ReadsInt.ofRowC w0
  obtain ⟨l1, rfl, hr1, hm1, hw1, hc1⟩ := ReadsInt.ofRowC w1
  obtain ⟨k, h⟩ := P l0 l1 hm0 y0 hw0 hm1 y1 hw1
  refine (schismalaw01_DecimalCompares.calls (hT := hT) k _ _ l0 _ _ l1 true w (Kd.C_of_reads (d := (0 : Int)) (h1 := fun _ => rfl) hr0) hc0 (Kd.C_of_reads (d := (0 : Int)) (h1 := fun _ => rfl) hr1) hc1 h).mono ?_
  rintro e w' ⟨rfl, hd⟩
  exact ⟨rfl, hd⟩
end Go.Proofs.YtcfddphiflmnlaaDoor.P
