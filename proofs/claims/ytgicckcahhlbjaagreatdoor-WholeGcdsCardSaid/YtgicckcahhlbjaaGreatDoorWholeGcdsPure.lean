/- The printed functions as operations on numbers, and the law's answer: true at every input. Conditions: those of each theorem; the law's own has the row's bounds alone. -/
import Derived.Lib.ItoaLen
import Derived.Lib.ItoaMem
import Derived.Lib.ItoaNum
import Derived.Lib.ParseIntBCases
import Derived.Test.YtgicckcahhlbjaaGreatDoorWholeGcdsSaid
import Derived.Test.YtgicckcahhlbjaaGreatDoorWholeGcdsWPlus
import Derived.Test.YtgicckcahhlbjaaGreatDoorWholeGcdsPure1

namespace Go.Proofs.YtgicckcahhlbjaaGreatDoor.P
open Go.RowKit Go.Proofs.YtgicckcahhlbjaaGreatDoorW.PrintWords
abbrev Mz (v : Int) : Prop := Md v.natAbs
theorem Mz.small {v : Int} (h : Mz v) : Lib.nDigits v.natAbs < 4611686018427387904 := by have := h.out; omega
theorem Z_size_ge (v : Int) : Lib.nDigits v.natAbs ≤ (Z v).size := by
  rw [size_list, Z_list]
  by_cases h : v < 0
  · obtain ⟨u, rfl⟩ : ∃ u : Nat, v = -(u : Int) := ⟨v.natAbs, by omega⟩
    have e : (-(u : Int)).natAbs = u := by omega
    rw [itoa_m u (by omega), e, List.length_cons, Lib.decDigits_length]
    exact Nat.le_succ _
  · obtain ⟨u, rfl⟩ : ∃ u : Nat, v = (u : Int) := ⟨v.toNat, by omega⟩
    have e : (u : Int).natAbs = u := by omega
    rw [itoa_n, e, Lib.decDigits_length]
    exact Nat.le_refl _
theorem atoi_itoa (v : Int) (h0 : -9223372036854775808 ≤ v) (h1 : v ≤ 9223372036854775807) : Lib.atoiAll (Lib.itoa v) = .ok v := by
  by_cases hn : v < 0
  · obtain ⟨u, rfl⟩ : ∃ u : Nat, v = -(u : Int) := ⟨v.natAbs, by omega⟩
    have h45 : (45 : UInt8).toNat = 45 := rfl
    have hp := parse_dec u (by omega)
    rw [Lib.parseUintB_64] at hp
    rw [itoa_m u (by omega), Lib.atoiAll]
    simp only [h45, or_true, if_true, hp, not_true, false_and, if_false, true_and]
    rw [if_neg (by omega)]
  · obtain ⟨u, rfl⟩ : ∃ u : Nat, v = (u : Int) := ⟨v.toNat, by omega⟩
    obtain ⟨c, r, e, c1, c2⟩ := dec_first u
    have hp := parse_dec u (by omega)
    rw [Lib.parseUintB_64] at hp
    rw [itoa_n, e] at *
    rw [Lib.atoiAll]
    have n2 : ¬ c.toNat = 45 := by omega
    have n3 : ¬ c.toNat = 43 := by omega
    simp only [n2, n3, or_self, not_false_iff, true_and, false_and, if_false]
    rw [hp]
    show (if 9223372036854775808 ≤ u then Lib.NumEnd.range else Lib.NumEnd.ok (u : Int)) = _
    rw [if_neg (by omega)]
theorem little_f (v : Int) (n : Nat) (hn : n ≤ 18) (hs : Mz v) : whole_little.f (Z v) (n : Int) = some (if (Z v).size ≤ n then (v, true) else (0, false)) := by
  have hl := Z_len v
  have hg := Z_size_ge v
  have hM := hs.out
  unfold whole_little.f
  by_cases h : (Z v).size ≤ n
  · have h1 : v.natAbs < 10 ^ 18 := nDig_lt (by omega)
    have h2 : (10 : Nat) ^ 18 = 1000000000000000000 := by decide
    rw [if_neg (by omega), if_pos (by omega), if_pos h, Z_list, atoi_itoa v (by omega) (by omega)]
  · rw [if_pos (by omega), if_neg h]
theorem little_abs {v : Int} {n : Nat} (h : (Z v).size ≤ n) : v.natAbs < 10 ^ n := nDig_lt (Nat.le_trans (Z_size_ge v) h)
theorem add_same {x y : Int} (h : decide (x < 0) = decide (y < 0)) : sgd (decide (x < 0)) (x.natAbs + y.natAbs) = x + y := by
  unfold sgd
  rw [decide_eq_decide] at h
  by_cases hx : x < 0
  · rw [decide_eq_true hx, if_pos rfl]
    have := h.1 hx
    omega
  · rw [decide_eq_false hx, if_neg (by decide)]
    have : ¬ y < 0 := fun e => hx (h.2 e)
    omega
theorem add_less {x y : Int} (h : ¬ decide (x < 0) = decide (y < 0)) (hl : x.natAbs < y.natAbs) : sgd (decide (y < 0)) (y.natAbs - x.natAbs) = x + y := by
  unfold sgd
  rw [decide_eq_decide] at h
  by_cases hy : y < 0
  · rw [decide_eq_true hy, if_pos rfl]
    have : ¬ x < 0 := fun e => h ⟨fun _ => hy, fun _ => e⟩
    omega
  · rw [decide_eq_false hy, if_neg (by decide)]
    have : x < 0 := Decidable.byContradiction fun e => h ⟨fun h2 => absurd h2 e, fun h2 => absurd h2 hy⟩
    omega
theorem add_more {x y : Int} (h : ¬ decide (x < 0) = decide (y < 0)) (hl : ¬ x.natAbs < y.natAbs) : sgd (decide (x < 0)) (x.natAbs - y.natAbs) = x + y := by
  have := add_less (x := y) (y := x)
  unfold sgd
  rw [decide_eq_decide] at h
  by_cases hx : x < 0
  · rw [decide_eq_true hx, if_pos rfl]
    have : ¬ y < 0 := fun e => h ⟨fun _ => e, fun _ => hx⟩
    omega
  · rw [decide_eq_false hx, if_neg (by decide)]
    have : y < 0 := Decidable.byContradiction fun e => h ⟨fun h2 => absurd h2 hx, fun h2 => absurd h2 e⟩
    omega
theorem zadd_j0 (x y : Int) (hx : Mz x) (hy : Mz y) : Ev (fun k => z_Add.j0 k (Z x) (Z y)) (Z (x + y)) := by
  have hMx := hx.out
  have hMy := hy.out
  have hcmp := compareS_f x.natAbs y.natAbs hx.small hy.small
  refine Ev.step (f := fun k => if (decide (x < 0) == decide (y < 0)) = true then ((d_Add.f k (S x.natAbs) (S y.natAbs)).bind fun t348 => ((z_join.f (decide (x < 0)) t348).bind fun t349 => (some t349))) else (if cmp x.natAbs y.natAbs < 0 then ((d_Sub.f k (S y.natAbs) (S x.natAbs)).bind fun bt351 => ((z_join.f (decide (y < 0)) bt351.1).bind fun t353 => (some t353))) else ((d_Sub.f k (S x.natAbs) (S y.natAbs)).bind fun bt354 => ((z_join.f (decide (x < 0)) bt354.1).bind fun t356 => (some t356))))) (fun k => ?_) ?_
  · rw [z_Add.j0, split_Z, split_Z]
    simp only [Option.bind_some, hcmp]
  · have hc : cmp x.natAbs y.natAbs < 0 ↔ x.natAbs < y.natAbs := by
      unfold cmp
      by_cases q1 : x.natAbs < y.natAbs
      · simp [q1]
      · by_cases q2 : y.natAbs < x.natAbs
        · simp [q1, q2]
        · simp [q1, q2]
    by_cases h : decide (x < 0) = decide (y < 0)
    · refine Ev.pos (by rw [h]; simp) (Ev.bind (add_f x.natAbs y.natAbs hx hy) ?_)
      rw [join_Z _ _ (by have := nDig_add x.natAbs y.natAbs; omega), Option.bind_some, add_same h]
      exact Ev.now _
    · refine Ev.neg (by intro e; exact h (by simpa using e)) ?_
      by_cases hl : x.natAbs < y.natAbs
      · refine Ev.pos (hc.2 hl) (Ev.bind (sub_f y.natAbs x.natAbs (by omega) hy) ?_)
        have := nDig_mono (Nat.sub_le y.natAbs x.natAbs)
        show Ev (fun k => (z_join.f (decide (y < 0)) (S (y.natAbs - x.natAbs))).bind fun t353 => (some t353)) _
        rw [join_Z _ _ (by omega), Option.bind_some, add_less h hl]
        exact Ev.now _
      · refine Ev.neg (fun e => hl (hc.1 e)) (Ev.bind (sub_f x.natAbs y.natAbs (by omega) hx) ?_)
        have := nDig_mono (Nat.sub_le x.natAbs y.natAbs)
        show Ev (fun k => (z_join.f (decide (x < 0)) (S (x.natAbs - y.natAbs))).bind fun t356 => (some t356)) _
        rw [join_Z _ _ (by omega), Option.bind_some, add_more h hl]
        exact Ev.now _
theorem zadd_f (x y : Int) (hx : Mz x) (hy : Mz y) : Ev (fun k => z_Add.f k (Z x) (Z y)) (Z (x + y)) := by
  have key := zadd_j0 x y hx hy
  have e1 := little_f x 18 (by decide) hx
  have e2 := little_f y 18 (by decide) hy
  have h18 : (10 : Nat) ^ 18 = 1000000000000000000 := by decide
  unfold z_Add.f
  rw [show ((18 : Nat) : Int) = 18 from rfl] at e1 e2
  rw [e1]
  by_cases h1 : (Z x).size ≤ 18
  · rw [if_pos h1]
    refine Ev.bind (Ev.now (x, true)) (Ev.pos rfl ?_)
    rw [e2]
    by_cases h2 : (Z y).size ≤ 18
    · rw [if_pos h2]
      have a1 := little_abs h1
      have a2 := little_abs h2
      refine Ev.bind (Ev.now (y, true)) (Ev.pos rfl ?_)
      show Ev (fun k => (z_Of.f (wrap64 (x + y))).bind fun t343 => (some t343)) _
      rw [w64 (by omega) (by omega), wof_f (x + y) (by omega) (by omega)]
      exact Ev.now _
    · rw [if_neg h2]
      exact Ev.bind (Ev.now ((0 : Int), false)) (Ev.neg (by decide) key)
  · rw [if_neg h1]
    exact Ev.bind (Ev.now ((0 : Int), false)) (Ev.neg (by decide) key)
theorem Mz.neg {v : Int} (h : Mz v) : Mz (-v) := by unfold Mz; rw [Int.natAbs_neg]; exact h
theorem zsub_f (x y : Int) (hx : Mz x) (hy : Mz y) : Ev (fun k => z_Sub.f k (Z x) (Z y)) (Z (x - y)) := by
  unfold z_Sub.f
  rw [wneg_f y hy.small]
  have := zadd_f x (-y) hx hy.neg
  rw [← Int.sub_eq_add_neg] at this
  exact Ev.bind (Ev.now (Z (-y))) (Ev.bind this (Ev.now _))
theorem bsome {α β : Type} (a : α) (f : α → Option β) : (some a).bind f = f a := by rw [Option.bind_some]
theorem mul_sgd (x y : Int) : sgd (decide (x < 0) != decide (y < 0)) (x.natAbs * y.natAbs) = x * y := by
  unfold sgd
  by_cases hx : x < 0
  · obtain ⟨u, rfl⟩ : ∃ u : Nat, x = -(u : Int) := ⟨x.natAbs, by omega⟩
    rw [decide_eq_true hx, Int.natAbs_neg, Int.natAbs_natCast]
    by_cases hy : y < 0
    · obtain ⟨v, rfl⟩ : ∃ v : Nat, y = -(v : Int) := ⟨y.natAbs, by omega⟩
      rw [decide_eq_true hy, if_neg (by decide), Int.natAbs_neg, Int.natAbs_natCast, Int.neg_mul_neg, Int.natCast_mul]
    · obtain ⟨v, rfl⟩ : ∃ v : Nat, y = (v : Int) := ⟨y.toNat, by omega⟩
      rw [decide_eq_false hy, if_pos (by decide), Int.natAbs_natCast, Int.natCast_mul, Int.neg_mul]
  · obtain ⟨u, rfl⟩ : ∃ u : Nat, x = (u : Int) := ⟨x.toNat, by omega⟩
    rw [decide_eq_false hx, Int.natAbs_natCast]
    by_cases hy : y < 0
    · obtain ⟨v, rfl⟩ : ∃ v : Nat, y = -(v : Int) := ⟨y.natAbs, by omega⟩
      rw [decide_eq_true hy, if_pos (by decide), Int.natAbs_neg, Int.natAbs_natCast, Int.natCast_mul, Int.mul_neg]
    · obtain ⟨v, rfl⟩ : ∃ v : Nat, y = (v : Int) := ⟨y.toNat, by omega⟩
      rw [decide_eq_false hy, if_neg (by decide), Int.natAbs_natCast, Int.natCast_mul]
theorem zmul_j0 (x y : Int) (hx : Mz x) (hy : Mz y) : Ev (fun k => z_Mul.j0 k (Z x) (Z y)) (Z (x * y)) := by
  have hMx := hx.out
  have hMy := hy.out
  refine Ev.step (f := fun k => (d_Mul.f k (S x.natAbs) (S y.natAbs)).bind fun t382 => ((z_join.f (decide (x < 0) != decide (y < 0)) t382).bind fun t383 => (some t383))) (fun k => ?_) (Ev.bind (mul_f x.natAbs y.natAbs hx hy) ?_)
  · rw [z_Mul.j0, split_Z, bsome, split_Z, bsome]
  · rw [join_Z _ _ (by have := nDig_mul x.natAbs y.natAbs; omega), Option.bind_some, mul_sgd]
    exact Ev.now _
theorem of_wrap (p : Int) (h0 : -1000000000000000000 ≤ p) (h1 : p ≤ 1000000000000000000) : z_Of.f (wrap64 p) = some (Z p) := by
  rw [w64 (by omega) (by omega), wof_f p (by omega) (by omega)]
theorem of_prod (x y : Int) (hx : x.natAbs ≤ 1000000000) (hy : y.natAbs ≤ 1000000000) : z_Of.f (wrap64 (x * y)) = some (Z (x * y)) := by
  have hp : (x * y).natAbs ≤ 1000000000 * 1000000000 := by
    rw [Int.natAbs_mul]
    exact Nat.mul_le_mul hx hy
  generalize x * y = p at hp
  exact of_wrap p (by omega) (by omega)
theorem zmul_f (x y : Int) (hx : Mz x) (hy : Mz y) : Ev (fun k => z_Mul.f k (Z x) (Z y)) (Z (x * y)) := by
  have key := zmul_j0 x y hx hy
  have e1 := little_f x 9 (by decide) hx
  have e2 := little_f y 9 (by decide) hy
  have h9 : (10 : Nat) ^ 9 = 1000000000 := by decide
  unfold z_Mul.f
  rw [show ((9 : Nat) : Int) = 9 from rfl] at e1 e2
  rw [e1]
  by_cases h1 : (Z x).size ≤ 9
  · rw [if_pos h1]
    refine Ev.bind (Ev.now (x, true)) (Ev.pos rfl ?_)
    rw [e2]
    by_cases h2 : (Z y).size ≤ 9
    · rw [if_pos h2]
      have a1 := little_abs h1
      have a2 := little_abs h2
      have hp := of_prod x y (by omega) (by omega)
      refine Ev.bind (Ev.now (y, true)) (Ev.pos rfl ?_)
      show Ev (fun k => (z_Of.f (wrap64 (x * y))).bind fun t377 => (some t377)) _
      rw [hp]
      exact Ev.now _
    · rw [if_neg h2]
      exact Ev.bind (Ev.now ((0 : Int), false)) (Ev.neg (by decide) key)
  · rw [if_neg h1]
    exact Ev.bind (Ev.now ((0 : Int), false)) (Ev.neg (by decide) key)
end Go.Proofs.YtgicckcahhlbjaaGreatDoor.P

namespace Go.Proofs.YtgicckcahhlbjaaGreatDoor.P
open Go.RowKit Go.Proofs.YtgicckcahhlbjaaGreatDoorW.PrintWords
theorem guess_le {g r b1 b2 H a2 M t s b V : Nat} (hb : b = (b1 * 1000000000 + b2) * M + t) (hV : V = (H * 1000000000 + a2) * M + s) (hs : s < M) (hH : g * b1 + r = H) (h : g * b ≤ V) : g * b2 ≤ r * 1000000000 + a2 := by
  have h1 : g * ((b1 * 1000000000 + b2) * M) ≤ g * b := Nat.mul_le_mul_left _ (by omega)
  have h2 : g * (b1 * 1000000000 + b2) * M < (H * 1000000000 + a2 + 1) * M := by
    rw [Nat.mul_assoc, Nat.succ_mul]
    omega
  have h3 := Nat.lt_of_mul_lt_mul_right h2
  rw [Nat.mul_add, ← Nat.mul_assoc, ← hH] at h3
  generalize g * b1 = u at h3
  generalize g * b2 = v at h3 ⊢
  omega
theorem guess_dec {g r b1 b2 H a2 M t s b V q : Nat} (hb : b = (b1 * 1000000000 + b2) * M + t) (hV : V = (H * 1000000000 + a2) * M + s) (hs : s < M) (hH : g * b1 + r = H) (hq : q * b ≤ V) (hqB : q < 1000000000) (hg : q ≤ g) (h : 1000000000 ≤ g ∨ r * 1000000000 + a2 < g * b2) : q + 1 ≤ g := by
  rcases h with h | h
  · omega
  · rcases Nat.lt_or_ge q g with h1 | h1
    · exact h1
    · obtain rfl : q = g := by omega
      have := guess_le hb hV hs hH hq
      omega
theorem guess_end {g r b1 b2 H a2 M t s b V : Nat} (hb : b = (b1 * 1000000000 + b2) * M + t) (hV : V = (H * 1000000000 + a2) * M + s) (ht : t < M) (hH : g * b1 + r = H) (hg : g < 1000000000) (hb1 : 0 < b1) (hb2 : b2 < 1000000000) (h : ¬ (r < 1000000000 ∧ r * 1000000000 + a2 < g * b2)) : (g - 1) * b ≤ V := by
  have h0 : g * b2 ≤ r * 1000000000 + a2 := by
    rcases Nat.lt_or_ge r 1000000000 with h1 | h1
    · exact Nat.le_of_not_lt fun h2 => h ⟨h1, h2⟩
    · have : g * b2 ≤ 1000000000 * 1000000000 := Nat.mul_le_mul (by omega) (by omega)
      omega
  rcases Nat.eq_zero_or_pos g with h1 | h1
  · subst h1; simp
  have h3 : g * (b1 * 1000000000 + b2) ≤ H * 1000000000 + a2 := by
    rw [Nat.mul_add, ← Nat.mul_assoc, ← hH]
    generalize g * b1 = u
    generalize g * b2 = v at h0 ⊢
    omega
  have h4 : g * (b1 * 1000000000 + b2) * M ≤ (H * 1000000000 + a2) * M := Nat.mul_le_mul_right _ h3
  have h5 : g * t ≤ 1000000000 * M := Nat.mul_le_mul (by omega) (by omega)
  have h6 : 1000000000 * M ≤ (b1 * 1000000000 + b2) * M := Nat.mul_le_mul_right _ (by omega)
  have h7 : g * b = g * (b1 * 1000000000 + b2) * M + g * t := by rw [hb, Nat.mul_add, Nat.mul_assoc]
  have h8 : g * b = (g - 1) * b + b := by rw [← Nat.succ_mul]; congr 1; omega
  omega
theorem window_end {V b g q sv av d bor P : Nat} (hb : 0 < b) (hq : q = V / b) (hg : q ≤ g) (hg1 : (g - 1) * b ≤ V) (hP : b ≤ P) (hVP : V < P) (hsv : sv + g * b = V + P * bor) (hbor : bor ≤ 1) (hsP : sv < P) (hav : av + P * d = sv + b) (hd : d ≤ 1) (haP : av < P) :
    (0 < bor → g - 1 = q ∧ av = V % b) ∧ (bor = 0 → g = q ∧ sv = V % b) := by
  have hm := Nat.div_add_mod V b
  have hml := Nat.mod_lt V hb
  rw [← hq, Nat.mul_comm] at hm
  have hqg : g - 1 ≤ q := by rw [hq, Nat.le_div_iff_mul_le hb]; exact hg1
  constructor
  · intro h
    have hb1 : bor = 1 := by omega
    rw [hb1, Nat.mul_one] at hsv
    rcases Nat.lt_or_ge q g with h1 | h1
    · have h2 : g = q + 1 := by omega
      subst h2
      rw [Nat.succ_mul] at hsv
      refine ⟨by omega, ?_⟩
      have hd1 : d = 1 := by
        rcases Nat.eq_zero_or_pos d with h3 | h3
        · subst h3
          rw [Nat.mul_zero] at hav
          omega
        · omega
      rw [hd1, Nat.mul_one] at hav
      omega
    · have h2 : g = q := by omega
      rw [h2] at hsv
      omega
  · intro h
    rw [h, Nat.mul_zero, Nat.add_zero] at hsv
    rcases Nat.lt_or_ge q g with h1 | h1
    · have h2 : g = q + 1 := by omega
      rw [h2, Nat.succ_mul] at hsv
      omega
    · have h2 : g = q := by omega
      rw [h2] at hsv ⊢
      exact ⟨rfl, by omega⟩
end Go.Proofs.YtgicckcahhlbjaaGreatDoor.P

namespace Go.Proofs.YtgicckcahhlbjaaGreatDoor.P
open Go.RowKit Go.Proofs.YtgicckcahhlbjaaGreatDoorW.PrintWords
theorem three_of {l : List Nat} {m : Nat} (h : l.length = m + 3) : ∃ V w2 w1 w0, l = V ++ [w2, w1, w0] ∧ V.length = m := by
  obtain ⟨l1, w0, rfl, h1⟩ := concat_of_len (n := m + 2) h
  obtain ⟨l2, w1, rfl, h2⟩ := concat_of_len (n := m + 1) h1
  obtain ⟨V, w2, rfl, h3⟩ := concat_of_len (n := m) h2
  exact ⟨V, w2, w1, w0, by simp, h3⟩
theorem two_of {l : List Nat} {m : Nat} (h : l.length = m + 2) : ∃ V w1 w0, l = V ++ [w1, w0] ∧ V.length = m := by
  obtain ⟨l1, w0, rfl, h1⟩ := concat_of_len (n := m + 1) h
  obtain ⟨V, w1, rfl, h2⟩ := concat_of_len (n := m) h1
  exact ⟨V, w1, w0, by simp, h2⟩
theorem dv_w {i n : Nat} (hn : 2 ≤ n) (hs : Sm (i + n)) : wrap64 ((i : Int) + (n : Int)) = ((i + n : Nat) : Int) ∧ wrap64 (wrap64 ((i : Int) + (n : Int)) - 1) = ((i + n - 1 : Nat) : Int) ∧ wrap64 (wrap64 ((i : Int) + (n : Int)) - 2) = ((i + n - 2 : Nat) : Int) ∧ wrap64 ((n : Int) - 1) = ((n - 1 : Nat) : Int) ∧ wrap64 ((n : Int) - 2) = ((n - 2 : Nat) : Int) := by
  have := hs.out
  rw [w64 (n := (i : Int) + (n : Int)) (by omega) (by omega), w64 (n := (i : Int) + (n : Int) - 1) (by omega) (by omega), w64 (n := (i : Int) + (n : Int) - 2) (by omega) (by omega), w64 (n := (n : Int) - 1) (by omega) (by omega), w64 (n := (n : Int) - 2) (by omega) (by omega)]
  omega
theorem g_arith {g b2 r w2 : Nat} (hg : g < 1000000000) (hb : b2 < 1000000000) (hr : r < 1000000000) (hw : w2 < 1000000000) : IntKind.u64.wrap ((g : Int) * (b2 : Int)) = ((g * b2 : Nat) : Int) ∧ IntKind.u64.wrap (IntKind.u64.wrap ((r : Int) * 1000000000) + (w2 : Int)) = ((r * 1000000000 + w2 : Nat) : Int) := by
  have h : g * b2 ≤ 1000000000 * 1000000000 := Nat.mul_le_mul (by omega) (by omega)
  refine ⟨umul (by omega), ?_⟩
  rw [show (1000000000 : Int) = ((1000000000 : Nat) : Int) from rfl, umul (by omega), uadd (by omega)]
theorem g_dec {g r b1 : Nat} (hg : 1 ≤ g) (hg2 : g < 18446744073709551616) (hr : r + b1 < 18446744073709551616) : IntKind.u64.wrap ((g : Int) - 1) = ((g - 1 : Nat) : Int) ∧ IntKind.u64.wrap ((r : Int) + (b1 : Int)) = ((r + b1 : Nat) : Int) := by
  refine ⟨?_, uadd hr⟩
  rw [u64w (by omega) (by omega)]
  omega
theorem divide_l2 (f : Int) (a Bd out : List Int) (i n b1 b2 w2 H M t s b V q : Nat) (hn : 2 ≤ n) (hs : Sm (i + n)) (hla : i + n < a.length) (hlb : Bd.length = n) (e1 : rd Bd ((n - 1 : Nat) : Int) = b1) (e2 : rd Bd ((n - 2 : Nat) : Int) = b2) (e3 : rd a ((i + n - 2 : Nat) : Int) = w2)
    (hb1 : 0 < b1) (hb1u : b1 < 1000000000) (hb2 : b2 < 1000000000) (hw2 : w2 < 1000000000) (hH : H < 1000000000000000000) (hb : b = (b1 * 1000000000 + b2) * M + t) (ht : t < M) (hV : V = (H * 1000000000 + w2) * M + s) (hsM : s < M) (hqb : q * b ≤ V) (hqB : q < 1000000000) {r0 : List Int × List Int}
    (h : ∀ g, g < 1000000000 → q ≤ g → (g - 1) * b ≤ V → Ev (fun k => p_divide.j3 k f a Bd (n : Int) out (i : Int) (g : Int)) r0) :
    ∀ (g r : Nat), g * b1 + r = H → q ≤ g → Ev (fun k => p_divide.l2 k f a Bd (n : Int) out (i : Int) (g : Int) (r : Int)) r0 := by
  intro g
  obtain ⟨x1, x2, x3, x4, x5⟩ := dv_w hn hs
  have x1' := x1
  rw [x1] at x2 x3
  induction g with
  | zero =>
    intro r hg hq
    have hj := h 0 (by decide) hq (by simp)
    refine Ev.step (fun k => ?_) hj
    have z : ¬ ((0 : Nat) : Int) ≥ 1000000000 := by decide
    rw [p_divide.l2, if_neg z]
    by_cases hr : r < 1000000000
    · obtain ⟨y1, y2⟩ := g_arith (g := 0) (by decide) hb2 hr hw2
      rw [x5, x1, x3, e2, e3, y1, y2]
      clear x1 x2 x3 x4 x5 x1' y1 y2
      rw [if_pos (show (r : Int) < 1000000000 by omega), if_pos (by omega), if_pos (by omega), if_pos (by omega), if_pos (by omega), if_neg (by omega)]
    · clear x1 x2 x3 x4 x5 x1'
      rw [if_neg (show ¬ (r : Int) < 1000000000 by omega)]
  | succ g ih =>
    intro r hg hq
    have hgu : g + 1 < 18446744073709551616 := by
      have : (g + 1) * 1 ≤ (g + 1) * b1 := Nat.mul_le_mul_left _ hb1
      clear x1 x2 x3 x4 x5 x1' ih
      omega
    have hru : r + b1 < 18446744073709551616 := by clear x1 x2 x3 x4 x5 x1' ih; omega
    have hg2 : g * b1 + (r + b1) = H := by rw [Nat.succ_mul] at hg; clear x1 x2 x3 x4 x5 x1' ih; omega
    obtain ⟨z1, z2⟩ := g_dec (g := g + 1) (r := r) (b1 := b1) (by clear x1 x2 x3 x4 x5 x1' ih; omega) hgu hru
    rw [show g + 1 - 1 = g from rfl] at z1
    by_cases hB : g + 1 ≥ 1000000000
    · have hq2 : q ≤ g := by clear x1 x2 x3 x4 x5 x1' ih z1 z2; omega
      refine Ev.step (fun k => ?_) (ih (r + b1) hg2 hq2)
      rw [p_divide.l2, if_pos (show ((g + 1 : Nat) : Int) ≥ 1000000000 by clear x1 x2 x3 x4 x5 x1' ih z1 z2; omega), x4, e1, z1, z2]
      clear x1 x2 x3 x4 x5 x1' ih z1 z2
      rw [if_pos (by omega), if_pos (by omega)]
    · have z : ¬ ((g + 1 : Nat) : Int) ≥ 1000000000 := by clear x1 x2 x3 x4 x5 x1' ih z1 z2; omega
      by_cases hr : r < 1000000000
      · obtain ⟨y1, y2⟩ := g_arith (g := g + 1) (r := r) (b2 := b2) (w2 := w2) (by clear x1 x2 x3 x4 x5 x1' ih z1 z2; omega) hb2 hr hw2
        by_cases hc : r * 1000000000 + w2 < (g + 1) * b2
        · have hq2 := guess_dec hb hV hsM hg hqb hqB hq (Or.inr hc)
          refine Ev.step (fun k => ?_) (ih (r + b1) hg2 (Nat.le_of_succ_le_succ hq2))
          rw [p_divide.l2, if_neg z, x5, x1, x3, e2, e3, y1, y2, x4, e1, z1, z2]
          clear x1 x2 x3 x4 x5 x1' ih z1 z2 y1 y2
          rw [if_pos (show (r : Int) < 1000000000 by omega), if_pos (by omega), if_pos (by omega), if_pos (by omega), if_pos (by omega), if_pos (Int.ofNat_lt.2 hc), if_pos (by omega), if_pos (by omega)]
        · have hend := guess_end hb hV ht hg (by clear x1 x2 x3 x4 x5 x1' ih z1 z2 y1 y2; omega) hb1 hb2 (fun h2 => hc h2.2)
          refine Ev.step (fun k => ?_) (h (g + 1) (by clear x1 x2 x3 x4 x5 x1' ih z1 z2 y1 y2; omega) hq hend)
          rw [p_divide.l2, if_neg z, x5, x1, x3, e2, e3, y1, y2]
          clear x1 x2 x3 x4 x5 x1' ih z1 z2 y1 y2
          rw [if_pos (show (r : Int) < 1000000000 by omega), if_pos (by omega), if_pos (by omega), if_pos (by omega), if_pos (by omega), if_neg (fun h2 => hc (Int.ofNat_lt.1 h2))]
      · have hend := guess_end hb hV ht hg (by clear x1 x2 x3 x4 x5 x1' ih z1 z2; omega) hb1 hb2 (fun h2 => hr h2.1)
        refine Ev.step (fun k => ?_) (h (g + 1) (by clear x1 x2 x3 x4 x5 x1' ih z1 z2; omega) hq hend)
        rw [p_divide.l2, if_neg z, if_neg (show ¬ (r : Int) < 1000000000 by clear x1 x2 x3 x4 x5 x1' ih z1 z2; omega)]
theorem divide_j3 (f : Int) (L W R Bd O : List Nat) (g : Nat) (hg : g < 1000000000) (hW : Ok W) (hBd : Ok Bd) (hlen : W.length = Bd.length + 1) (hs : Sm (L.length + Bd.length)) (q : Nat) (hb : 0 < val Bd) (hq : q = val W / val Bd) (hqg : q ≤ g) (hg1 : (g - 1) * val Bd ≤ val W) {r0 : List Int × List Int}
    (h : ∀ W', W'.length = W.length → Ok W' → val W' = val W % val Bd → Ev (fun k => p_divide.l1 k f (C (L ++ W' ++ R)) (C Bd) (Bd.length : Int) (C (List.replicate L.length 0 ++ q :: O)) ((L.length : Int) - 1)) r0) :
    Ev (fun k => p_divide.j3 k f (C (L ++ W ++ R)) (C Bd) (Bd.length : Int) (C (List.replicate L.length 0 ++ 0 :: O)) (L.length : Int) (g : Int)) r0 := by
  obtain ⟨s1, s2, s3, s4⟩ := subrow_spec g hg Bd W 0 0 hlen hW hBd (by decide) (by decide)
  have ht := take_f L W R Bd g hg hlen hW hBd hs
  generalize subrow g 0 0 W Bd = sr at s1 s2 s3 s4 ht
  obtain ⟨sub, bor⟩ := sr
  simp only [Nat.add_zero] at s1 s2 s3 s4 ht
  obtain ⟨a1, a2, d, a3, a4⟩ := addrow_spec Bd sub 0 (by rw [s1, hlen]) s2 hBd (by decide)
  rw [s1, Nat.add_zero] at a4
  have hP : val Bd ≤ 1000000000 ^ W.length := by
    have h1 := val_lt hBd
    have h2 : 1000000000 ^ Bd.length ≤ 1000000000 ^ W.length := Nat.pow_le_pow_right (by decide) (by omega)
    omega
  have k1 := val_lt s2
  rw [s1] at k1
  have k2 := val_lt a2
  rw [a1, s1] at k2
  obtain ⟨w1, w2⟩ := window_end hb hq hqg hg1 hP (val_lt hW) s4 s3 k1 a4 a3 k2
  have hlo : (C (List.replicate L.length 0 ++ 0 :: O)).length = L.length + (O.length + 1) := by rw [C_length]; simp
  have e4 : ∀ y : Nat, (C (List.replicate L.length 0 ++ 0 :: O)).set (L.length : Int).toNat (y : Int) = C (List.replicate L.length 0 ++ y :: O) := fun y => set_at (List.replicate L.length 0) O 0 y L.length (by simp)
  have e5 : wrap64 ((L.length : Int) - 1) = (L.length : Int) - 1 := wpred (hs.le (by omega))
  rcases Nat.eq_zero_or_pos bor with hb0 | hb0
  · obtain ⟨v1, v2⟩ := w2 hb0
    have key := h sub s1 s2 v2
    rw [← v1] at key
    refine Ev.step (f := fun k => (p_take.f k (C (L ++ W ++ R)) (C Bd) (g : Int) (L.length : Int)).bind fun bt214 => (if bt214.1 = true then ((p_back.f k bt214.2 (C Bd) (L.length : Int)).bind fun t216 => (if 0 ≤ (L.length : Int) then (if (L.length : Int) < ((C (List.replicate L.length 0 ++ 0 :: O)).length : Int) then (p_divide.l1 k f t216 (C Bd) (Bd.length : Int) ((C (List.replicate L.length 0 ++ 0 :: O)).set (L.length : Int).toNat (IntKind.u64.wrap ((g : Int) - 1))) (wrap64 ((L.length : Int) - 1))) else (none)) else (none))) else (if 0 ≤ (L.length : Int) then (if (L.length : Int) < ((C (List.replicate L.length 0 ++ 0 :: O)).length : Int) then (p_divide.l1 k f bt214.2 (C Bd) (Bd.length : Int) ((C (List.replicate L.length 0 ++ 0 :: O)).set (L.length : Int).toNat (g : Int)) (wrap64 ((L.length : Int) - 1))) else (none)) else (none)))) (fun k => by rw [p_divide.j3]) (Ev.bind ht ?_)
    rw [hb0, e4 g, e5]
    clear e5
    exact Ev.neg (by simp) (Ev.pos (by omega) (Ev.pos (by omega) key))
  · obtain ⟨v1, v2⟩ := w1 hb0
    have hback := back_f L sub R Bd (by rw [s1, hlen]) s2 hBd hs
    have key := h (addrow 0 sub Bd) (by rw [a1, s1]) a2 v2
    rw [← v1] at key
    have hg0 : 1 ≤ g := by
      rcases Nat.eq_zero_or_pos g with h0 | h0
      · subst h0
        rw [Nat.zero_mul, Nat.add_zero] at s4
        have : bor = 1 := by clear e5; omega
        subst this
        clear e5
        omega
      · exact h0
    have e6 : IntKind.u64.wrap ((g : Int) - 1) = ((g - 1 : Nat) : Int) := (g_dec (r := 0) (b1 := 0) hg0 (by clear e5; omega) (by decide)).1
    refine Ev.step (f := fun k => (p_take.f k (C (L ++ W ++ R)) (C Bd) (g : Int) (L.length : Int)).bind fun bt214 => (if bt214.1 = true then ((p_back.f k bt214.2 (C Bd) (L.length : Int)).bind fun t216 => (if 0 ≤ (L.length : Int) then (if (L.length : Int) < ((C (List.replicate L.length 0 ++ 0 :: O)).length : Int) then (p_divide.l1 k f t216 (C Bd) (Bd.length : Int) ((C (List.replicate L.length 0 ++ 0 :: O)).set (L.length : Int).toNat (IntKind.u64.wrap ((g : Int) - 1))) (wrap64 ((L.length : Int) - 1))) else (none)) else (none))) else (if 0 ≤ (L.length : Int) then (if (L.length : Int) < ((C (List.replicate L.length 0 ++ 0 :: O)).length : Int) then (p_divide.l1 k f bt214.2 (C Bd) (Bd.length : Int) ((C (List.replicate L.length 0 ++ 0 :: O)).set (L.length : Int).toNat (g : Int)) (wrap64 ((L.length : Int) - 1))) else (none)) else (none)))) (fun k => by rw [p_divide.j3]) (Ev.bind ht ?_)
    rw [e6, e4 (g - 1), e5]
    clear e5 e6
    exact Ev.pos (decide_eq_true hb0) (Ev.bind hback (Ev.pos (by omega) (Ev.pos (by omega) key)))
theorem val_three (V : List Nat) (w2 w1 w0 : Nat) : val (V ++ [w2, w1, w0]) = ((w0 * 1000000000 + w1) * 1000000000 + w2) * 1000000000 ^ V.length + val V := by
  rw [val_append, Nat.add_comm, Nat.mul_comm]
  congr 2
  simp only [val]
  omega
theorem val_two (V : List Nat) (w1 w0 : Nat) : val (V ++ [w1, w0]) = (w0 * 1000000000 + w1) * 1000000000 ^ V.length + val V := by
  rw [val_append, Nat.add_comm, Nat.mul_comm]
  congr 2
  simp only [val]
  omega
theorem next9 {h w2 : Nat} (hw : w2 < 1000000000) : h * 1000000000 + w2 + 1 ≤ (h + 1) * 1000000000 := by omega
theorem high_arith {w0 w1 b1 : Nat} (h0 : w0 < 1000000000) (h1 : w1 < 1000000000) (_hb : 0 < b1) : IntKind.u64.wrap (IntKind.u64.wrap ((w0 : Int) * 1000000000) + (w1 : Int)) = ((w0 * 1000000000 + w1 : Nat) : Int) ∧ IntKind.u64.wrap (Int.tdiv ((w0 * 1000000000 + w1 : Nat) : Int) (b1 : Int)) = (((w0 * 1000000000 + w1) / b1 : Nat) : Int) := by
  constructor
  · rw [show (1000000000 : Int) = ((1000000000 : Nat) : Int) from rfl, umul (by omega), uadd (by omega)]
  · rw [tdivn, u64n _ (Nat.lt_of_le_of_lt (Nat.div_le_self _ _) (by omega))]
theorem divide_l1 (f : Nat) (hf0 : f ≠ 0) (hf : f ≤ 1000000000) (Bd U : List Nat) (b2 b1 : Nat) (hU : Bd = U ++ [b2, b1]) (hBd : Ok Bd) (hb1 : 0 < b1) (hBl : Bd.length ≤ 4000000) : ∀ (i : Nat) (L T O : List Nat) (x : Int), L.length = i → x = (i : Int) - 1 → Bd.length ≤ T.length → Ok L → Ok T → Ok O → val T < val Bd → 2 * L.length + T.length + O.length ≤ 8000000 →
    Ev (fun k => p_divide.l1 k (f : Int) (C (L ++ T)) (C Bd) (Bd.length : Int) (C (List.replicate i 0 ++ O)) x) (C (pcs ((val L + 1000000000 ^ i * (val T + val Bd * val O)) / val Bd)), C (pcs (((val L + 1000000000 ^ i * (val T + val Bd * val O)) % val Bd) / f)))
  | 0, L, T, O, x, hL, hx, _, _, hT, hO, hlt, hs => by
    obtain rfl := List.length_eq_zero_iff.1 hL
    have t1 := trim_f T hT (by omega)
    have t2 := small_f (pcs (val T)) f (ok_pcs _) hf0 hf (by
      have := pcs_len_le (val_lt hT)
      omega)
    rw [val_pcs] at t2
    have t3 := trim_f O hO (by omega)
    have e1 : val ([] : List Nat) + 1000000000 ^ 0 * (val T + val Bd * val O) = val T + val Bd * val O := by rw [Nat.pow_zero, Nat.one_mul]; exact Nat.zero_add _
    have e2 : (val T + val Bd * val O) / val Bd = val O := by rw [Nat.add_mul_div_left _ _ (by omega), Nat.div_eq_of_lt hlt, Nat.zero_add]
    have e3 : (val T + val Bd * val O) % val Bd = val T := by rw [Nat.add_mul_mod_self_left, Nat.mod_eq_of_lt hlt]
    rw [e1, e2, e3, List.replicate_zero, List.nil_append, List.nil_append]
    refine Ev.step (f := fun k => (p_trim.f k (C T)).bind fun t196 => ((p_small.f k t196 (f : Int)).bind fun bt199 => ((p_trim.f k (C O)).bind fun t203 => (some (t203, bt199.1))))) (fun k => ?_) (Ev.bind t1 (Ev.bind t2 (Ev.bind t3 (Ev.now _))))
    rw [p_divide.l1, if_neg (by omega)]
  | i + 1, L, T, O, x, hL, hx, hTl, hLo, hT, hO, hlt, hs => by
    obtain ⟨L, y, rfl, hL1⟩ := concat_of_len hL
    obtain rfl : x = (i : Int) := by omega
    obtain ⟨T1, R, rfl, hT1⟩ : ∃ T1 R, T = T1 ++ R ∧ T1.length = Bd.length := ⟨T.take Bd.length, T.drop Bd.length, (List.take_append_drop _ _).symm, by rw [List.length_take]; omega⟩
    have hUl : Bd.length = U.length + 2 := by rw [hU]; simp
    have hy : y < 1000000000 := hLo y (by simp)
    have hW : Ok (y :: T1) := Ok.cons hy hT.left
    have hWl : (y :: T1).length = U.length + 3 := by rw [List.length_cons, hT1, hUl]
    obtain ⟨V, w2, w1, w0, hV, hVl⟩ := three_of hWl
    have hbp : 0 < val Bd := by omega
    have hR : val R = 0 := by
      rcases Nat.eq_zero_or_pos (val R) with h0 | h0
      · exact h0
      · rw [val_append, hT1] at hlt
        have h1 := val_lt hBd
        have h2 : 1000000000 ^ Bd.length * 1 ≤ 1000000000 ^ Bd.length * val R := Nat.mul_le_mul_left _ h0
        omega
    have hvT : val (T1 ++ R) = val T1 := by rw [val_append, hR, Nat.mul_zero, Nat.add_zero]
    rw [hvT] at hlt ⊢
    have hvW : val (y :: T1) = y + 1000000000 * val T1 := rfl
    have hqB : val (y :: T1) / val Bd < 1000000000 := by
      rw [Nat.div_lt_iff_lt_mul hbp, hvW]
      omega
    have hqb : val (y :: T1) / val Bd * val Bd ≤ val (y :: T1) := Nat.div_mul_le_self _ _
    have hA : val (L ++ [y]) + 1000000000 ^ (i + 1) * (val T1 + val Bd * val O) = val L + 1000000000 ^ i * (val (y :: T1) % val Bd + val Bd * val (val (y :: T1) / val Bd :: O)) := by
      have h1 := Nat.mod_add_div (val (y :: T1)) (val Bd)
      rw [val_snoc, hL1, Nat.pow_succ, Nat.mul_assoc, Nat.add_assoc, ← Nat.mul_add]
      congr 2
      rw [show val (val (y :: T1) / val Bd :: O) = val (y :: T1) / val Bd + 1000000000 * val O from rfl, Nat.mul_add (val Bd), ← Nat.add_assoc, h1, hvW, Nat.mul_add, Nat.mul_left_comm (val Bd)]
      omega
    rw [hA]
    have e0 : L ++ [y] ++ (T1 ++ R) = L ++ (y :: T1) ++ R := by simp
    have eO : List.replicate (i + 1) 0 ++ O = List.replicate L.length 0 ++ 0 :: O := by rw [hL1, List.replicate_succ', List.append_assoc]; rfl
    rw [e0, eO]
    have hs1 : (L ++ [y]).length = i + 1 := by simp [hL1]
    have hs2 : (T1 ++ R).length = T1.length + R.length := List.length_append
    have hsm : Sm (i + Bd.length) := ⟨by omega⟩
    have hOV : Ok (V ++ [w2, w1, w0]) := by rw [← hV]; exact hW
    have hw0 : w0 < 1000000000 := hOV w0 (by simp)
    have hw1 : w1 < 1000000000 := hOV w1 (by simp)
    have hw2 : w2 < 1000000000 := hOV w2 (by simp)
    have hb2u : b2 < 1000000000 := hBd b2 (by rw [hU]; simp)
    have hb1u : b1 < 1000000000 := hBd b1 (by rw [hU]; simp)
    have r1 : rd (C Bd) ((Bd.length - 1 : Nat) : Int) = b1 := by
      rw [hU, show U ++ [b2, b1] = (U ++ [b2]) ++ b1 :: [] by simp]
      exact rd_at _ _ _ _ (by simp)
    have r2 : rd (C Bd) ((Bd.length - 2 : Nat) : Int) = b2 := by
      rw [hU]
      exact rd_at _ _ _ _ (by simp)
    have r3 : rd (C (L ++ (y :: T1) ++ R)) ((i + Bd.length - 2 : Nat) : Int) = w2 := by
      rw [hV, show L ++ (V ++ [w2, w1, w0]) ++ R = (L ++ V) ++ w2 :: ([w1, w0] ++ R) by simp]
      exact rd_at _ _ _ _ (by rw [List.length_append, hL1, hVl]; omega)
    have r4 : rd (C (L ++ (y :: T1) ++ R)) ((i + Bd.length - 1 : Nat) : Int) = w1 := by
      rw [hV, show L ++ (V ++ [w2, w1, w0]) ++ R = (L ++ V ++ [w2]) ++ w1 :: ([w0] ++ R) by simp]
      exact rd_at _ _ _ _ (by rw [List.length_append, List.length_append, hL1, hVl, List.length_singleton]; omega)
    have r5 : rd (C (L ++ (y :: T1) ++ R)) ((i + Bd.length : Nat) : Int) = w0 := by
      rw [hV, show L ++ (V ++ [w2, w1, w0]) ++ R = (L ++ V ++ [w2, w1]) ++ w0 :: R by simp]
      exact rd_at _ _ _ _ (by rw [List.length_append, List.length_append, hL1, hVl]; simp; omega)
    have hla : (C (L ++ (y :: T1) ++ R)).length = i + Bd.length + 1 + R.length := by rw [C_length, List.length_append, List.length_append, List.length_cons, hL1, hT1]; omega
    have hlb : (C Bd).length = Bd.length := C_length _
    have hVv : val (y :: T1) = ((w0 * 1000000000 + w1) * 1000000000 + w2) * 1000000000 ^ U.length + val V := by rw [hV, val_three, hVl]
    have hbv : val Bd = (b1 * 1000000000 + b2) * 1000000000 ^ U.length + val U := by rw [hU, val_two]
    have hVM : val V < 1000000000 ^ U.length := by rw [← hVl]; exact val_lt (hOV.left)
    have hUM : val U < 1000000000 ^ U.length := val_lt (by rw [hU] at hBd; exact hBd.left)
    have hgq : val (y :: T1) / val Bd ≤ (w0 * 1000000000 + w1) / b1 := by
      rcases Nat.lt_or_ge ((w0 * 1000000000 + w1) / b1) (val (y :: T1) / val Bd) with h1 | h1
      · exfalso
        have h2 : ((w0 * 1000000000 + w1) / b1 + 1) * val Bd ≤ val (y :: T1) := Nat.le_trans (Nat.mul_le_mul_right _ h1) hqb
        have h3 : w0 * 1000000000 + w1 + 1 ≤ ((w0 * 1000000000 + w1) / b1 + 1) * b1 := by
          have h4 := Nat.div_add_mod (w0 * 1000000000 + w1) b1
          have h5 := Nat.mod_lt (w0 * 1000000000 + w1) hb1
          have h6 : ((w0 * 1000000000 + w1) / b1 + 1) * b1 = b1 * ((w0 * 1000000000 + w1) / b1) + b1 := by rw [Nat.succ_mul, Nat.mul_comm ((w0 * 1000000000 + w1) / b1) b1]
          rw [h6]
          generalize b1 * ((w0 * 1000000000 + w1) / b1) = u at h4 ⊢
          omega
        have h6 : (w0 * 1000000000 + w1 + 1) * (1000000000 * 1000000000 ^ U.length) ≤ ((w0 * 1000000000 + w1) / b1 + 1) * b1 * (1000000000 * 1000000000 ^ U.length) := Nat.mul_le_mul_right _ h3
        have h7 : ((w0 * 1000000000 + w1) / b1 + 1) * b1 * (1000000000 * 1000000000 ^ U.length) ≤ ((w0 * 1000000000 + w1) / b1 + 1) * val Bd := by
          rw [Nat.mul_assoc, hbv]
          apply Nat.mul_le_mul_left
          rw [Nat.add_mul, Nat.mul_assoc]
          exact Nat.le_trans (Nat.le_add_right _ _) (Nat.le_add_right _ _)
        have h8 : val (y :: T1) < (w0 * 1000000000 + w1 + 1) * (1000000000 * 1000000000 ^ U.length) := by
          rw [hVv, ← Nat.mul_assoc]
          have h9a : (w0 * 1000000000 + w1) * 1000000000 + w2 + 1 ≤ (w0 * 1000000000 + w1 + 1) * 1000000000 := next9 hw2
          have h9 := Nat.mul_le_mul_right (1000000000 ^ U.length) h9a
          rw [Nat.add_mul _ 1, Nat.one_mul] at h9
          omega
        omega
      · exact h1
    obtain ⟨z1, z2⟩ := high_arith hw0 hw1 hb1
    obtain ⟨x1, x2, _, x4, _⟩ := dv_w (i := i) (n := Bd.length) (by rw [hUl]; exact Nat.le_add_left 2 _) hsm
    rw [x1] at x2
    have hj : ∀ g, g < 1000000000 → val (y :: T1) / val Bd ≤ g → (g - 1) * val Bd ≤ val (y :: T1) → Ev (fun k => p_divide.j3 k (f : Int) (C (L ++ (y :: T1) ++ R)) (C Bd) (Bd.length : Int) (C (List.replicate L.length 0 ++ 0 :: O)) (i : Int) (g : Int)) (C (pcs ((val L + 1000000000 ^ i * (val (y :: T1) % val Bd + val Bd * val (val (y :: T1) / val Bd :: O))) / val Bd)), C (pcs (((val L + 1000000000 ^ i * (val (y :: T1) % val Bd + val Bd * val (val (y :: T1) / val Bd :: O))) % val Bd) / f))) := fun g g1 g2 g3 => by
      have key := divide_j3 (f : Int) L (y :: T1) R Bd O g g1 hW hBd (by rw [List.length_cons, hT1]) (by rw [hL1]; exact hsm) _ hbp rfl g2 g3 (r0 := (C (pcs ((val L + 1000000000 ^ i * (val (y :: T1) % val Bd + val Bd * val (val (y :: T1) / val Bd :: O))) / val Bd)), C (pcs (((val L + 1000000000 ^ i * (val (y :: T1) % val Bd + val Bd * val (val (y :: T1) / val Bd :: O))) % val Bd) / f)))) (fun W' c1 c2 c3 => by
        have hvW' : val (W' ++ R) = val (y :: T1) % val Bd := by rw [val_append, hR, Nat.mul_zero, Nat.add_zero, c3]
        have ih := divide_l1 f hf0 hf Bd U b2 b1 hU hBd hb1 hBl i L (W' ++ R) (val (y :: T1) / val Bd :: O) ((i : Int) - 1) hL1 rfl (by rw [List.length_append, c1, List.length_cons, hT1]; clear x1 x2 x4 z1 z2; omega) hLo.left (c2.append hT.right) (Ok.cons hqB hO) (by rw [hvW']; exact Nat.mod_lt _ hbp) (by rw [List.length_append, c1, List.length_cons, List.length_cons, hL1]; clear x1 x2 x4 z1 z2; omega)
        rw [hvW'] at ih
        rw [hL1, List.append_assoc]
        exact ih)
      rw [hL1] at key ⊢
      exact key
    have hHu : w0 * 1000000000 + w1 < 1000000000000000000 := by clear x1 x2 x4 z1 z2; omega
    have hdm : (w0 * 1000000000 + w1) / b1 * b1 + (w0 * 1000000000 + w1) % b1 = w0 * 1000000000 + w1 := by rw [Nat.mul_comm]; exact Nat.div_add_mod _ _
    have key := divide_l2 (f : Int) (C (L ++ (y :: T1) ++ R)) (C Bd) (C (List.replicate L.length 0 ++ 0 :: O)) i Bd.length b1 b2 w2 (w0 * 1000000000 + w1) (1000000000 ^ U.length) (val U) (val V) (val Bd) (val (y :: T1)) (val (y :: T1) / val Bd) (by rw [hUl]; exact Nat.le_add_left 2 _) hsm (by rw [hla]; clear x1 x2 x4 z1 z2; omega) hlb r1 r2 r3 hb1 hb1u hb2u hw2 hHu hbv hUM hVv hVM hqb hqB hj ((w0 * 1000000000 + w1) / b1) ((w0 * 1000000000 + w1) % b1) hdm hgq
    have hb1' : ¬ (b1 : Int) = 0 := by clear x1 x2 x4 z1 z2; omega
    refine Ev.step (fun k => ?_) key
    rw [p_divide.l1]
    simp only [x1, x2, x4, r1, r4, r5, z1, z2, tmodn, if_neg hb1', hla, hlb]
    clear x1 x2 x4 z1 z2 key hj hgq hdm hVv hbv hA hqB hqb hvW hlt hVM hUM
    simp (disch := omega) only [if_pos]
end Go.Proofs.YtgicckcahhlbjaaGreatDoor.P

namespace Go.Proofs.YtgicckcahhlbjaaGreatDoor.P
open Go.RowKit Go.Proofs.YtgicckcahhlbjaaGreatDoorW.PrintWords
theorem one_str : (⟨#[49]⟩ : ByteArray) = S 1 := S_of ((canb_iff _).1 (by decide))
theorem S_is0 (n : Nat) : ((S n).toList = ([48] : List UInt8)) ↔ n = 0 := by
  have e : ([48] : List UInt8) = (S 0).toList := by rw [toList_data, S_list, dec_small (by decide)]; rfl
  rw [e, S_eq_iff]
theorem S_beq0 (n : Nat) : ((S n).toList == ([48] : List UInt8)) = decide (n = 0) := by
  rw [Bool.eq_iff_iff, beq_iff_eq, S_is0, decide_eq_true_iff]
end Go.Proofs.YtgicckcahhlbjaaGreatDoor.P

namespace Go.Proofs.YtgicckcahhlbjaaGreatDoor.P
open Go.RowKit Go.Proofs.YtgicckcahhlbjaaGreatDoorW.PrintWords
theorem divide_l0_end (p : List Int) (f : Nat) (hf0 : f ≠ 0) (hf : f ≤ 1000000000) (b : Nat) (hb2 : 2 ≤ (pcs b).length) (M : List Nat) (h : ¬ M.length + 1 ≤ p.length) (hM : Ok M) (hn : (pcs b).length ≤ M.length) (hs : M.length ≤ 3000000) :
    Ev (fun k => p_divide.l0 k p (f : Int) (C (M ++ [0])) (C (pcs b)) ((pcs b).length : Int)) (C (pcs (val M / b)), C (pcs ((val M % b) / f))) := by
  have hC : (C (M ++ [0])).length = M.length + 1 := by rw [C_length]; simp
  have hv : val (M ++ [0]) = val M := by rw [val_snoc, Nat.mul_zero, Nat.add_zero]
  obtain ⟨i, hi⟩ : ∃ i, i = M.length + 1 - (pcs b).length := ⟨_, rfl⟩
  have hOk : Ok (M ++ [0]) := hM.append (Ok.cons (by decide) Ok.nil)
  have hT : (M ++ [0]).drop i = M.drop i ++ [0] := List.drop_append_of_le_length (by omega)
  have hTl : (M.drop i).length = (pcs b).length - 1 := by rw [List.length_drop]; omega
  have hlt : val ((M ++ [0]).drop i) < val (pcs b) := by
    rw [hT, val_snoc, Nat.mul_zero, Nat.add_zero, val_pcs]
    have h1 := val_lt (hM.drop i)
    rw [hTl] at h1
    exact Nat.lt_of_lt_of_le h1 (pow_le_pcs (by omega))
  obtain ⟨U, b2, b1, hU, hUl⟩ := two_of (l := pcs b) (m := (pcs b).length - 2) (by omega)
  have hb1 : 0 < b1 := Nat.pos_of_ne_zero (pcs_last (n := b) (l := U ++ [b2]) (by rw [hU]; simp))
  have hsplit : val ((M ++ [0]).take i) + 1000000000 ^ i * (val ((M ++ [0]).drop i) + val (pcs b) * val []) = val M := by
    have h1 := val_append ((M ++ [0]).take i) ((M ++ [0]).drop i)
    rw [List.take_append_drop, hv, List.length_take, List.length_append, List.length_singleton, Nat.min_eq_left (by omega)] at h1
    rw [h1, show val ([] : List Nat) = 0 from rfl, Nat.mul_zero, Nat.add_zero]
  have key := divide_l1 f hf0 hf (pcs b) U b2 b1 hU (ok_pcs b) hb1 (by omega) i ((M ++ [0]).take i) ((M ++ [0]).drop i) [] ((i : Int) - 1) (by rw [List.length_take, List.length_append, List.length_singleton]; omega) rfl (by rw [List.length_drop, List.length_append, List.length_singleton]; omega) (hOk.take i) (hOk.drop i) Ok.nil hlt (by rw [List.length_take, List.length_drop, List.length_append, List.length_singleton, List.length_nil]; omega)
  rw [hsplit, List.take_append_drop, val_pcs, List.append_nil, ← C_zeros] at key
  have e1 : wrap64 (((M.length + 1 : Nat) : Int) - ((pcs b).length : Int)) = (i : Int) := by rw [w64 (by omega) (by omega)]; omega
  have e2 : wrap64 ((i : Int) - 1) = (i : Int) - 1 := by clear e1; exact w64 (by omega) (by omega)
  refine Ev.step (fun k => ?_) key
  simp only [p_divide.l0, hC, e1, e2, Int.toNat_natCast]
  clear e1 e2 key
  simp (disch := omega) only [if_pos, if_neg]
theorem divide_l0 (p : List Int) (hp : p.length ≤ 2000000) (f : Nat) (hf0 : f ≠ 0) (hf : f ≤ 1000000000) (b : Nat) (hb2 : 2 ≤ (pcs b).length) : ∀ (d : Nat) (M : List Nat), p.length ≤ M.length + d → Ok M → (pcs b).length ≤ M.length → M.length + d ≤ 3000000 →
    Ev (fun k => p_divide.l0 k p (f : Int) (C (M ++ [0])) (C (pcs b)) ((pcs b).length : Int)) (C (pcs (val M / b)), C (pcs ((val M % b) / f))) := by
  intro d
  induction d with
  | zero =>
    intro M hd hM hn hs
    exact divide_l0_end p f hf0 hf b hb2 M (by omega) hM hn (by omega)
  | succ d ih =>
    intro M hd hM hn hs
    by_cases h : M.length + 1 ≤ p.length
    · have hC : (C (M ++ [0])).length = M.length + 1 := by rw [C_length]; simp
      have ih := ih (M ++ [0]) (by simp; omega) (hM.append (Ok.cons (by decide) Ok.nil)) (by simp; omega) (by simp; omega)
      rw [val_snoc, Nat.mul_zero, Nat.add_zero, C_append (M ++ [0]) [0]] at ih
      refine Ev.step (fun k => ?_) ih
      simp (disch := omega) only [p_divide.l0, if_pos]
      rfl
    · exact divide_l0_end p f hf0 hf b hb2 M h hM hn (by omega)
theorem factor_arith {q1 : Nat} (h0 : q1 ≠ 0) (h1 : q1 < 1000000000) : IntKind.u64.wrap ((q1 : Int) + 1) = ((q1 + 1 : Nat) : Int) ∧ IntKind.u64.wrap (Int.tdiv (1000000000 : Int) ((q1 + 1 : Nat) : Int)) = ((1000000000 / (q1 + 1) : Nat) : Int) ∧ 1000000000 / (q1 + 1) ≠ 0 ∧ 1000000000 / (q1 + 1) < 1000000000 := by
  have h2 : 0 < 1000000000 / (q1 + 1) := Nat.div_pos (by omega) (by omega)
  have h3 : 1000000000 / (q1 + 1) < 1000000000 := Nat.div_lt_self (by decide) (by omega)
  have h4 : Int.tdiv (1000000000 : Int) ((q1 + 1 : Nat) : Int) = ((1000000000 / (q1 + 1) : Nat) : Int) := tdivn 1000000000 (q1 + 1)
  refine ⟨?_, ?_, by omega, h3⟩
  · rw [u64w (by omega) (by omega)]; omega
  · rw [h4, u64n _ (by omega)]
theorem divide_f (p q : Nat) (hq : 2 ≤ (pcs q).length) (hpq : q ≤ p) (hl : (pcs p).length ≤ 1000000) : Ev (fun k => p_divide.f k (C (pcs p)) (C (pcs q))) (C (pcs (p / q)), C (pcs (p % q))) := by
  obtain ⟨U, q2, q1, hU, hUl⟩ := two_of (l := pcs q) (m := (pcs q).length - 2) (by omega)
  have hq1 : q1 ≠ 0 := pcs_last (n := q) (l := U ++ [q2]) (by rw [hU]; simp)
  have hq1u : q1 < 1000000000 := ok_pcs q q1 (by rw [hU]; simp)
  obtain ⟨f1, f2, f3, f4⟩ := factor_arith hq1 hq1u
  have hlq := pcs_len_mono hpq
  have r1 : rd (C (pcs q)) (((pcs q).length - 1 : Nat) : Int) = q1 := by
    rw [hU, show U ++ [q2, q1] = (U ++ [q2]) ++ q1 :: [] by simp]
    exact rd_at _ _ _ _ (by simp)
  generalize 1000000000 / (q1 + 1) = f at f2 f3 f4
  have hC : (C (pcs q)).length = (pcs q).length := C_length _
  have sc1 := scaled_f (pcs p) f (ok_pcs p) f4 (by clear f1 f2; omega)
  have sc2 := scaled_f (pcs q) f (ok_pcs q) f4 (by clear f1 f2; omega)
  rw [val_pcs] at sc1 sc2
  have hpf : (pcs (p * f)).length ≤ (pcs p).length + 1 := by
    have h1 := pcs_len_mul p f
    have h2 : (pcs f).length ≤ 1 := pcs_len_le (by rw [Nat.pow_one]; exact f4)
    clear f1 f2
    omega
  have hqf : q * f ≤ p * f := Nat.mul_le_mul_right _ hpq
  have hn1 := pcs_len_mono hqf
  have hn2 := pcs_len_mono (Nat.le_mul_of_pos_right q (Nat.pos_of_ne_zero f3))
  have hC1 : (C (pcs (p * f))).length = (pcs (p * f)).length := C_length _
  have hC2 : (C (pcs (q * f))).length = (pcs (q * f)).length := C_length _
  have hC3 : (C (pcs p)).length = (pcs p).length := C_length _
  have key := divide_l0 (C (pcs p)) (by rw [hC3]; clear f1 f2; omega) f f3 (Nat.le_of_lt f4) (q * f) (Nat.le_trans hq hn2) ((pcs p).length) (pcs (p * f)) (by rw [hC3]; exact Nat.le_add_left _ _) (ok_pcs _) hn1 (by clear f1 f2; omega)
  have hfp : 0 < f := Nat.pos_of_ne_zero f3
  rw [val_pcs, Nat.mul_div_mul_right p q hfp, Nat.mul_mod_mul_right, Nat.mul_div_cancel _ hfp, C_append] at key
  have e1 : wrap64 (((pcs q).length : Int) - 1) = (((pcs q).length - 1 : Nat) : Int) := by clear f1 f2; rw [w64 (by omega) (by omega)]; omega
  have hne : ¬ ((q1 + 1 : Nat) : Int) = 0 := by clear f1 f2 e1; omega
  unfold p_divide.f
  simp only [hC, e1, r1, f1, f2]
  clear e1 f1 f2 r1
  refine Ev.pos (by omega) (Ev.pos (by omega) (Ev.neg hne (Ev.bind sc1 (Ev.pos (by omega) (Ev.bind sc2 ?_)))))
  rw [hC2]
  exact key
theorem pcs_one {b : Nat} (h : (pcs b).length = 1) : pcs b = [b] ∧ b < 1000000000 ∧ b ≠ 0 := by
  have h1 := lt_pow_pcs b
  rw [h, Nat.pow_one] at h1
  have h0 : b ≠ 0 := fun e => by rw [e, pcs_zero] at h; simp at h
  refine ⟨?_, h1, h0⟩
  rw [pcs_pos h0, Nat.mod_eq_of_lt h1, Nat.div_eq_of_lt h1, pcs_zero]
theorem divmod_f (a b : Nat) (hb0 : b ≠ 0) (ha : Md a) (hb : Md b) : Ev (fun k => d_DivMod.f k (S a) (S b)) (S (a / b), S (a % b), (0 : Int)) := by
  have hMa := ha.out
  have hMb := hb.out
  unfold d_DivMod.f
  refine Ev.neg (fun e => hb0 ((S_is0 b).1 e)) (Ev.bind (both_f a b) ?_)
  by_cases h : Lib.nDigits a ≤ 18 ∧ Lib.nDigits b ≤ 18
  · rw [if_pos h]
    have h1 := nDig_lt h.1
    have h2 := nDig_lt h.2
    have h3 : (10 : Nat) ^ 18 = 1000000000000000000 := by decide
    have h4 : a / b ≤ a := Nat.div_le_self _ _
    have h5 : a % b < b := Nat.mod_lt _ (Nat.pos_of_ne_zero hb0)
    have e1 : IntKind.u64.wrap (Int.tdiv (a : Int) (b : Int)) = ((a / b : Nat) : Int) := by rw [tdivn, u64n _ (by omega)]
    have o1 := of_f (a / b) (by clear e1; omega)
    have o2 := of_f (a % b) (by clear e1; omega)
    refine Ev.pos rfl (Ev.neg (show ¬ (b : Int) = 0 by clear e1; omega) ?_)
    simp only [e1, tmodn, o1, o2, Option.bind_some]
    exact Ev.now _
  · rw [if_neg h]
    have l1 := ha.pcs
    have l2 := hb.pcs
    refine Ev.neg (by simp) (Ev.bind (cut_f a (by omega)) (Ev.bind (cut_f b (by omega)) (Ev.bind (compare_f a b (by omega) (by omega)) ?_)))
    have hcmp : cmp a b < 0 ↔ a < b := by
      unfold cmp
      by_cases q1 : a < b
      · simp [q1]
      · by_cases q2 : b < a
        · simp [q1, q2]
        · simp [q1, q2]
    by_cases hab : a < b
    · refine Ev.pos (hcmp.2 hab) ?_
      rw [Nat.div_eq_of_lt hab, Nat.mod_eq_of_lt hab, zero_str]
      exact Ev.now _
    · refine Ev.neg (fun e => hab (hcmp.1 e)) ?_
      have hC : (C (pcs b)).length = (pcs b).length := C_length _
      have hda : (pcs (a / b)).length ≤ (pcs a).length := pcs_len_mono (Nat.div_le_self _ _)
      have hma : (pcs (a % b)).length ≤ (pcs a).length := pcs_len_mono (Nat.mod_le _ _)
      by_cases hone : (pcs b).length = 1
      · obtain ⟨p1, p2, p3⟩ := pcs_one hone
        have hrd : rd (C (pcs b)) 0 = (b : Int) := by rw [p1]; rfl
        have sm := small_f (pcs a) b (ok_pcs a) p3 (Nat.le_of_lt p2) (by omega)
        rw [val_pcs] at sm
        have h5 : a % b < b := Nat.mod_lt _ (Nat.pos_of_ne_zero hb0)
        have o2 := of_f (a % b) (by omega)
        refine Ev.pos (by omega) (Ev.pos (by omega) ?_)
        rw [hrd]
        refine Ev.bind sm (Ev.bind (text_f _ (by omega)) ?_)
        rw [o2]
        exact Ev.now _
      · have h2 : 2 ≤ (pcs b).length := by
          rcases Nat.lt_or_ge (pcs b).length 2 with h6 | h6
          · exact absurd (pcs_nil_iff.1 (List.length_eq_zero_iff.1 (by omega))) hb0
          · exact h6
        refine Ev.neg (by omega) (Ev.bind (divide_f a b h2 (by omega) l1) (Ev.bind (text_f _ (by omega)) (Ev.bind (text_f _ (by omega)) (Ev.now _))))
end Go.Proofs.YtgicckcahhlbjaaGreatDoor.P

namespace Go.Proofs.YtgicckcahhlbjaaGreatDoor.P
open Go.RowKit Go.Proofs.YtgicckcahhlbjaaGreatDoorW.PrintWords
theorem gcd_next (a b : Nat) : Nat.gcd b (a % b) = Nat.gcd a b := by rw [Nat.gcd_comm a b, Nat.gcd_rec b a, Nat.gcd_comm]
theorem gcd_l0 : ∀ (m a b : Nat), b ≤ m → Md a → Md b → Ev (fun k => d_Gcd.l0 k (S a) (S b)) (S (Nat.gcd a b))
  | 0, a, b, hm, _, _ => by
    obtain rfl : b = 0 := by omega
    rw [Nat.gcd_zero_right]
    refine Ev.step (f := fun _ => some (S a)) (fun k => ?_) (Ev.now _)
    rw [d_Gcd.l0, if_pos ((S_is0 0).2 rfl)]
  | m + 1, a, b, hm, ha, hb => by
    by_cases h0 : b = 0
    · exact gcd_l0 0 a b (by omega) ha hb
    · have h1 : a % b < b := Nat.mod_lt _ (Nat.pos_of_ne_zero h0)
      have ih := gcd_l0 m b (a % b) (by omega) hb ⟨Nat.le_trans (nDig_mono (Nat.mod_le _ _)) ha.out⟩
      rw [gcd_next] at ih
      refine Ev.step (f := fun k => (d_DivMod.f k (S a) (S b)).bind fun bt443 => (if bt443.2.2 = 0 then (d_Gcd.l0 k (S b) bt443.2.1) else (some (⟨#[]⟩ : ByteArray)))) (fun k => ?_) (Ev.bind (divmod_f a b h0 ha hb) (Ev.pos rfl ih))
      rw [d_Gcd.l0, if_neg (fun e => h0 ((S_is0 b).1 e))]
theorem gcd_f (a b : Nat) (ha : Md a) (hb : Md b) : Ev (fun k => d_Gcd.f k (S a) (S b)) (S (Nat.gcd a b)) := gcd_l0 b a b (Nat.le_refl _) ha hb
theorem lcm_zero (a b : Nat) (h : a = 0 ∨ b = 0) : Ev (fun k => d_Lcm.f k (S a) (S b)) (S 0) := by
  have z : Ev (fun k => d_Lcm.j0 k (S a) (S b) true) (S 0) := by
    refine Ev.step (f := fun _ => some (S 0)) (fun k => ?_) (Ev.now _)
    rw [d_Lcm.j0, if_pos rfl, zero_str]
  unfold d_Lcm.f
  by_cases h1 : a = 0
  · exact Ev.pos ((S_is0 a).2 h1) z
  · refine Ev.neg (fun e => h1 ((S_is0 a).1 e)) ?_
    rw [S_beq0, decide_eq_true (h.resolve_left h1)]
    exact z
theorem lcm_f (a b : Nat) (h1 : a ≠ 0) (h2 : b ≠ 0) (ha : Md a) (hb : Md b) : Ev (fun k => d_Lcm.f k (S a) (S b)) (S (a / Nat.gcd a b * b)) := by
  have hg0 : Nat.gcd a b ≠ 0 := fun e => h1 (Nat.eq_zero_of_gcd_eq_zero_left e)
  have hg : Md (Nat.gcd a b) := ⟨Nat.le_trans (nDig_mono (Nat.gcd_le_left b (Nat.pos_of_ne_zero h1))) ha.out⟩
  have hq : Md (a / Nat.gcd a b) := ⟨Nat.le_trans (nDig_mono (Nat.div_le_self _ _)) ha.out⟩
  unfold d_Lcm.f
  refine Ev.neg (fun e => h1 ((S_is0 a).1 e)) ?_
  rw [S_beq0, decide_eq_false h2]
  refine Ev.step (f := fun k => (d_Gcd.f k (S a) (S b)).bind fun t460 => ((d_DivMod.f k (S a) t460).bind fun bt461 => (if bt461.2.2 = 0 then ((d_Mul.f k bt461.1 (S b)).bind fun t464 => (some t464)) else (some (⟨#[]⟩ : ByteArray))))) (fun k => ?_) (Ev.bind (gcd_f a b ha hb) (Ev.bind (divmod_f a (Nat.gcd a b) hg0 ha hg) (Ev.pos rfl (Ev.bind (mul_f _ b hq hb) (Ev.now _)))))
  rw [d_Lcm.j0, if_neg (by decide)]
end Go.Proofs.YtgicckcahhlbjaaGreatDoor.P

namespace Go.Proofs.YtgicckcahhlbjaaGreatDoor.P
open Go.RowKit Go.Proofs.YtgicckcahhlbjaaGreatDoorW.PrintWords
def dq (n m : Bool) (X Y : Nat) : Int := if n = m then ((X / Y : Nat) : Int) else if X % Y = 0 then -((X / Y : Nat) : Int) else -((X / Y + 1 : Nat) : Int)
def dr (n m : Bool) (X Y : Nat) : Int := if n = m then sgd m (X % Y) else if X % Y = 0 then 0 else sgd m (Y - X % Y)
theorem sgd_self (x : Int) : sgd (decide (x < 0)) x.natAbs = x := by
  unfold sgd
  by_cases h : x < 0
  · rw [decide_eq_true h, if_pos rfl]; omega
  · rw [decide_eq_false h, if_neg (by decide)]; omega
theorem dm_nat (n m : Bool) (X Y : Nat) (hY : 0 < Y) : dr n m X Y + sgd m Y * dq n m X Y = sgd n X ∧ (m = false → 0 ≤ dr n m X Y ∧ dr n m X Y < Y) ∧ (m = true → -(Y : Int) < dr n m X Y ∧ dr n m X Y ≤ 0) := by
  have h1 := Nat.div_add_mod X Y
  have h2 := Nat.mod_lt X hY
  have hp : (Y : Int) * ((X / Y : Nat) : Int) = ((Y * (X / Y) : Nat) : Int) := (Int.natCast_mul Y (X / Y)).symm
  have hp1 : (Y : Int) * ((X / Y + 1 : Nat) : Int) = ((Y * (X / Y) : Nat) : Int) + Y := by
    rw [Int.natCast_add, Int.mul_add, hp]; simp
  rcases n with _ | _ <;> rcases m with _ | _
  · refine ⟨?_, fun _ => ?_, fun h => by cases h⟩
    · simp only [dr, dq, sgd, if_true, Bool.false_eq_true, if_false, hp]; omega
    · simp only [dr, sgd, if_true, Bool.false_eq_true, if_false]; omega
  · by_cases h0 : X % Y = 0
    · refine ⟨?_, (fun h => by cases h), fun _ => ?_⟩
      · simp only [dr, dq, sgd, h0, if_true, Bool.false_eq_true, if_false, Int.neg_mul_neg, hp]; omega
      · simp only [dr, h0, if_true, Bool.false_eq_true, if_false]; omega
    · refine ⟨?_, (fun h => by cases h), fun _ => ?_⟩
      · simp only [dr, dq, sgd, h0, if_true, Bool.false_eq_true, if_false, Int.neg_mul_neg, hp1]; omega
      · simp only [dr, sgd, h0, if_true, Bool.false_eq_true, if_false]; omega
  · by_cases h0 : X % Y = 0
    · refine ⟨?_, fun _ => ?_, fun h => by cases h⟩
      · simp only [dr, dq, sgd, h0, if_true, Bool.true_eq_false, Bool.false_eq_true, if_false, Int.mul_neg, hp]; omega
      · simp only [dr, h0, if_true, Bool.true_eq_false, if_false]; omega
    · refine ⟨?_, fun _ => ?_, fun h => by cases h⟩
      · simp only [dr, dq, sgd, h0, if_true, Bool.true_eq_false, Bool.false_eq_true, if_false, Int.mul_neg, hp1]; omega
      · simp only [dr, sgd, h0, Bool.true_eq_false, Bool.false_eq_true, if_false]; omega
  · refine ⟨?_, (fun h => by cases h), fun _ => ?_⟩
    · simp only [dr, dq, sgd, if_true, Int.neg_mul, hp]; omega
    · simp only [dr, sgd, if_true]; omega
theorem dm_int (x y : Int) (hy : y ≠ 0) : x.fdiv y = dq (decide (x < 0)) (decide (y < 0)) x.natAbs y.natAbs ∧ x.fmod y = dr (decide (x < 0)) (decide (y < 0)) x.natAbs y.natAbs := by
  obtain ⟨h1, h2, h3⟩ := dm_nat (decide (x < 0)) (decide (y < 0)) x.natAbs y.natAbs (by omega)
  rw [sgd_self, sgd_self] at h1
  by_cases hn : y < 0
  · obtain ⟨a, b⟩ := h3 (decide_eq_true hn)
    exact (Int.fdiv_fmod_unique' hn).2 ⟨h1, by omega, b⟩
  · obtain ⟨a, b⟩ := h2 (decide_eq_false hn)
    exact (Int.fdiv_fmod_unique (by omega)).2 ⟨h1, a, by omega⟩
theorem tdm (x y : Int) : x.tdiv y = sgd (decide (x < 0) != decide (y < 0)) (x.natAbs / y.natAbs) ∧ x.tmod y = sgd (decide (x < 0)) (x.natAbs % y.natAbs) := by
  unfold sgd
  by_cases hx : x < 0
  · obtain ⟨u, rfl⟩ : ∃ u : Nat, x = -(u : Int) := ⟨x.natAbs, by omega⟩
    rw [decide_eq_true hx, Int.natAbs_neg, Int.natAbs_natCast]
    by_cases hy : y < 0
    · obtain ⟨v, rfl⟩ : ∃ v : Nat, y = -(v : Int) := ⟨y.natAbs, by omega⟩
      rw [decide_eq_true hy, Int.natAbs_neg, Int.natAbs_natCast, Int.neg_tdiv, Int.tdiv_neg, Int.neg_tmod, Int.tmod_neg, tdivn, tmodn, Int.neg_neg]
      exact ⟨rfl, rfl⟩
    · obtain ⟨v, rfl⟩ : ∃ v : Nat, y = (v : Int) := ⟨y.toNat, by omega⟩
      rw [decide_eq_false hy, Int.natAbs_natCast, Int.neg_tdiv, Int.neg_tmod, tdivn, tmodn]
      exact ⟨rfl, rfl⟩
  · obtain ⟨u, rfl⟩ : ∃ u : Nat, x = (u : Int) := ⟨x.toNat, by omega⟩
    rw [decide_eq_false hx, Int.natAbs_natCast]
    by_cases hy : y < 0
    · obtain ⟨v, rfl⟩ : ∃ v : Nat, y = -(v : Int) := ⟨y.natAbs, by omega⟩
      rw [decide_eq_true hy, Int.natAbs_neg, Int.natAbs_natCast, Int.tdiv_neg, Int.tmod_neg, tdivn, tmodn]
      exact ⟨rfl, rfl⟩
    · obtain ⟨v, rfl⟩ : ∃ v : Nat, y = (v : Int) := ⟨y.toNat, by omega⟩
      rw [decide_eq_false hy, Int.natAbs_natCast, tdivn, tmodn]
      exact ⟨rfl, rfl⟩
theorem one_S : (⟨#[49]⟩ : ByteArray) = S 1 := one_str
theorem zdm_j2 (n m : Bool) (X Y : Nat) (hX : Md X) (hY : Md Y) (hYp : 0 < Y) (c : Bool) (hc : c = (if n = m then false else decide (X % Y ≠ 0))) :
    Ev (fun k => z_DivMod.j2 k n m (S Y) (S (X / Y)) (S (X % Y)) c) (Z (dq n m X Y), Z (dr n m X Y), (0 : Int)) := by
  have hMX := hX.out
  have hMY := hY.out
  have n1 := nDig_mono (Nat.div_le_self X Y)
  have n2 := nDig_mono (Nat.mod_le X Y)
  have hlt := Nat.mod_lt X hYp
  have n3 := nDig_mono (Nat.sub_le Y (X % Y))
  have hne : (n != m) = decide (¬ n = m) := by rcases n with _ | _ <;> rcases m with _ | _ <;> rfl
  by_cases hct : c = true
  · have hnm : ¬ n = m := fun e => by rw [if_pos e] at hc; rw [hc] at hct; cases hct
    rw [if_neg hnm] at hc
    have hR : X % Y ≠ 0 := by rw [hc] at hct; simpa using hct
    have q1 : dq n m X Y = sgd true (X / Y + 1) := by unfold dq sgd; rw [if_neg hnm, if_neg hR, if_pos rfl]
    have q2 : dr n m X Y = sgd m (Y - X % Y) := by unfold dr; rw [if_neg hnm, if_neg hR]
    have d1 : Lib.nDigits 1 = 1 := Lib.nDigits_small (by decide)
    have ad := add_f (X / Y) 1 ⟨by omega⟩ ⟨by omega⟩
    have nd := nDig_add (X / Y) 1
    rw [hct, q1, q2]
    refine Ev.step (f := fun k => (d_Add.f k (S (X / Y)) (S 1)).bind fun t327 => ((d_Sub.f k (S Y) (S (X % Y))).bind fun bt328 => ((z_join.f (n != m) t327).bind fun t330 => ((z_join.f m bt328.1).bind fun t331 => (some (t330, t331, 0)))))) (fun k => ?_) (Ev.bind ad (Ev.bind (sub_f Y (X % Y) (by omega) hY) ?_))
    · rw [z_DivMod.j2, if_pos rfl, one_S]
    · have hb : (n != m) = true := by rw [hne]; exact decide_eq_true hnm
      rw [hb, join_Z true _ (by omega), bsome]
      show Ev (fun k => (z_join.f m (S (Y - X % Y))).bind fun t331 => (some (Z (sgd true (X / Y + 1)), t331, 0))) _
      rw [join_Z m _ (by omega), bsome]
      exact Ev.now _
  · have hcf : c = false := by simpa using hct
    have q1 : dq n m X Y = sgd (n != m) (X / Y) := by
      unfold dq sgd
      rw [hne]
      by_cases hnm : n = m
      · rw [if_pos hnm, decide_eq_false (fun h => h hnm), if_neg (by decide)]
      · rw [if_neg hnm, decide_eq_true hnm, if_pos rfl]
        rw [hcf, if_neg hnm] at hc
        have hR : X % Y = 0 := by
          have := hc.symm
          simpa using this
        rw [if_pos hR]
    have q2 : dr n m X Y = sgd m (X % Y) := by
      unfold dr
      by_cases hnm : n = m
      · rw [if_pos hnm]
      · rw [if_neg hnm]
        rw [hcf, if_neg hnm] at hc
        have hR : X % Y = 0 := by
          have := hc.symm
          simpa using this
        rw [if_pos hR, hR]
        unfold sgd
        by_cases hm : m = true
        · rw [if_pos hm]; rfl
        · rw [if_neg hm]; rfl
    rw [hcf, q1, q2]
    refine Ev.step (f := fun k => (z_join.f (n != m) (S (X / Y))).bind fun t332 => ((z_join.f m (S (X % Y))).bind fun t333 => (some (t332, t333, 0)))) (fun k => ?_) ?_
    · rw [z_DivMod.j2, if_neg (by decide)]
    · rw [join_Z _ _ (by omega), bsome, join_Z _ _ (by omega), bsome]
      exact Ev.now _
theorem zdm_j1 (x y : Int) (hx : Mz x) (hy : Mz y) (hy0 : y ≠ 0) : Ev (fun k => z_DivMod.j1 k (Z x) (Z y)) (Z (x.fdiv y), Z (x.fmod y), (0 : Int)) := by
  obtain ⟨d1, d2⟩ := dm_int x y hy0
  have hYp : 0 < y.natAbs := by omega
  have hj := fun c hc => zdm_j2 (decide (x < 0)) (decide (y < 0)) x.natAbs y.natAbs hx hy hYp c hc
  rw [d1, d2]
  refine Ev.step (f := fun k => (d_DivMod.f k (S x.natAbs) (S y.natAbs)).bind fun bt324 => (if bt324.2.2 = 0 then (if (decide (x < 0) != decide (y < 0)) = true then (z_DivMod.j2 k (decide (x < 0)) (decide (y < 0)) (S y.natAbs) bt324.1 bt324.2.1 (bt324.2.1.toList != ([48] : List UInt8))) else (z_DivMod.j2 k (decide (x < 0)) (decide (y < 0)) (S y.natAbs) bt324.1 bt324.2.1 false)) else (some ((⟨#[]⟩ : ByteArray), (⟨#[]⟩ : ByteArray), bt324.2.2)))) (fun k => ?_) (Ev.bind (divmod_f x.natAbs y.natAbs (by omega) hx hy) (Ev.pos rfl ?_))
  · rw [z_DivMod.j1, split_Z, bsome, split_Z, bsome]
  · by_cases hnm : decide (x < 0) = decide (y < 0)
    · refine Ev.neg (by rw [hnm]; simp) ?_
      exact hj false (by rw [if_pos hnm])
    · refine Ev.pos (by simpa using hnm) ?_
      refine hj _ ?_
      rw [if_neg hnm]
      show ((S (x.natAbs % y.natAbs)).toList != ([48] : List UInt8)) = _
      rw [bne, S_beq0]
      by_cases h0 : x.natAbs % y.natAbs = 0
      · rw [decide_eq_true h0, decide_eq_false (fun h => h h0)]; rfl
      · rw [decide_eq_false h0, decide_eq_true h0]; rfl
theorem zdm_j0 (x y : Int) (hx : x.natAbs < 1000000000000000000) (hy : y.natAbs < 1000000000000000000) (hy0 : y ≠ 0) (c : Bool) (hc : c = (if decide (x < 0) = decide (y < 0) then false else decide (x.natAbs % y.natAbs ≠ 0))) :
    Ev (fun k => z_DivMod.j0 k y (x.tdiv y) (x.tmod y) c) (Z (x.fdiv y), Z (x.fmod y), (0 : Int)) := by
  obtain ⟨d1, d2⟩ := dm_int x y hy0
  obtain ⟨t1, t2⟩ := tdm x y
  have hYp : 0 < y.natAbs := by omega
  have hQ : x.natAbs / y.natAbs ≤ x.natAbs := Nat.div_le_self _ _
  have hR := Nat.mod_lt x.natAbs hYp
  have hys := sgd_self y
  have hne : (decide (x < 0) != decide (y < 0)) = decide (¬ decide (x < 0) = decide (y < 0)) := by
    rcases decide (x < 0) with _ | _ <;> rcases decide (y < 0) with _ | _ <;> rfl
  rw [d1, d2, t1, t2, hne]
  clear d1 d2 t1 t2 hne
  unfold dq dr
  generalize decide (x < 0) = n at *
  generalize decide (y < 0) = m at *
  generalize x.natAbs / y.natAbs = Q at *
  generalize x.natAbs % y.natAbs = R at *
  generalize x.natAbs = X at *
  generalize y.natAbs = Y at *
  have two : ∀ (q r : Int) (k : Nat), -9000000000000000000 ≤ q → q ≤ 9000000000000000000 → -9000000000000000000 ≤ r → r ≤ 9000000000000000000 → ((z_Of.f q).bind fun t318 => ((z_Of.f r).bind fun t319 => (some (t318, t319, (0 : Int))))) = some (Z q, Z r, 0) := fun q r k h1 h2 h3 h4 => by
    rw [wof_f q (by omega) (by omega), bsome, wof_f r (by omega) (by omega), bsome]
  by_cases hct : c = true
  · have hnm : ¬ n = m := fun e => by rw [if_pos e] at hc; rw [hc] at hct; cases hct
    rw [if_neg hnm] at hc
    have hR0 : R ≠ 0 := by rw [hc] at hct; simpa using hct
    rw [if_neg hnm, if_neg hnm, if_neg hR0, if_neg hR0, decide_eq_true hnm, hct]
    have q1 : wrap64 (sgd true Q - 1) = -((Q + 1 : Nat) : Int) := by
      unfold sgd
      rw [if_pos rfl, w64 (by omega) (by omega)]
      omega
    have q2 : wrap64 (sgd n R + y) = sgd m (Y - R) := by
      rw [← hys]
      unfold sgd
      rcases n with _ | _ <;> rcases m with _ | _
      · exact absurd rfl hnm
      · simp only [Bool.false_eq_true, if_false, if_true]
        rw [w64 (by omega) (by omega)]
        omega
      · simp only [Bool.false_eq_true, if_false, if_true]
        rw [w64 (by omega) (by omega)]
        omega
      · exact absurd rfl hnm
    have b2 : -9000000000000000000 ≤ sgd m (Y - R) ∧ sgd m (Y - R) ≤ 9000000000000000000 := by
      clear q1 q2
      unfold sgd
      rcases m with _ | _
      · rw [if_neg (by decide)]; omega
      · rw [if_pos rfl]; omega
    refine Ev.step (f := fun _ => some (Z (-((Q + 1 : Nat) : Int)), Z (sgd m (Y - R)), (0 : Int))) (fun k => ?_) (Ev.now _)
    rw [z_DivMod.j0, if_pos rfl, q1, q2]
    clear q1 q2
    exact two _ _ k (by omega) (by omega) b2.1 b2.2
  · have hcf : c = false := by simpa using hct
    rw [hcf] at hc ⊢
    have q1 : (if n = m then (Q : Int) else if R = 0 then -(Q : Int) else -((Q + 1 : Nat) : Int)) = sgd (decide (¬ n = m)) Q := by
      unfold sgd
      by_cases hnm : n = m
      · rw [if_pos hnm, decide_eq_false (fun h => h hnm), if_neg (by decide)]
      · rw [if_neg hnm] at hc ⊢
        have hR0 : R = 0 := by
          have := hc.symm
          simpa using this
        rw [if_pos hR0, decide_eq_true hnm, if_pos rfl]
    have q2 : (if n = m then sgd m R else if R = 0 then 0 else sgd m (Y - R)) = sgd n R := by
      by_cases hnm : n = m
      · rw [if_pos hnm, hnm]
      · rw [if_neg hnm] at hc ⊢
        have hR0 : R = 0 := by
          have := hc.symm
          simpa using this
        rw [if_pos hR0, hR0]
        unfold sgd
        rcases n with _ | _
        · rfl
        · rfl
    rw [q1, q2]
    have b1 : ∀ (b : Bool) (U : Nat), U < 1000000000000000000 → -9000000000000000000 ≤ sgd b U ∧ sgd b U ≤ 9000000000000000000 := fun b U hU => by
      unfold sgd
      rcases b with _ | _
      · rw [if_neg (by decide)]; omega
      · rw [if_pos rfl]; omega
    refine Ev.step (f := fun _ => some (Z (sgd (decide (¬ n = m)) Q), Z (sgd n R), (0 : Int))) (fun k => ?_) (Ev.now _)
    rw [z_DivMod.j0, if_neg (by decide)]
    exact two _ _ k (b1 _ Q (by omega)).1 (b1 _ Q (by omega)).2 (b1 _ R (by omega)).1 (b1 _ R (by omega)).2
theorem zdivmod_f (x y : Int) (hx : Mz x) (hy : Mz y) (hy0 : y ≠ 0) : Ev (fun k => z_DivMod.f k (Z x) (Z y)) (Z (x.fdiv y), Z (x.fmod y), (0 : Int)) := by
  have key := zdm_j1 x y hx hy hy0
  have e1 := little_f x 18 (by decide) hx
  have e2 := little_f y 18 (by decide) hy
  have h18 : (10 : Nat) ^ 18 = 1000000000000000000 := by decide
  rw [show ((18 : Nat) : Int) = 18 from rfl] at e1 e2
  unfold z_DivMod.f
  refine Ev.neg (fun h => hy0 ((Z_is0 y).1 h)) ?_
  rw [e1]
  by_cases h1 : (Z x).size ≤ 18
  · rw [if_pos h1]
    refine Ev.bind (Ev.now (x, true)) (Ev.pos rfl ?_)
    rw [e2]
    by_cases h2 : (Z y).size ≤ 18
    · rw [if_pos h2]
      have a1 := little_abs h1
      have a2 := little_abs h2
      rw [h18] at a1 a2
      have hj := fun c hc => zdm_j0 x y a1 a2 hy0 c hc
      obtain ⟨t1, t2⟩ := tdm x y
      have hYp : 0 < y.natAbs := by omega
      have hw : wrap64 (x.tdiv y) = x.tdiv y := by
        have hQ : x.natAbs / y.natAbs ≤ x.natAbs := Nat.div_le_self _ _
        rw [t1]
        generalize x.natAbs / y.natAbs = Q at hQ
        unfold sgd
        rcases (decide (x < 0) != decide (y < 0)) with _ | _
        · rw [if_neg (by decide), w64 (by omega) (by omega)]
        · rw [if_pos rfl, w64 (by omega) (by omega)]
      refine Ev.bind (Ev.now (y, true)) (Ev.pos rfl (Ev.neg hy0 ?_))
      show Ev (fun k => if Int.tmod x y = 0 then (z_DivMod.j0 k y (wrap64 (Int.tdiv x y)) (Int.tmod x y) false) else (z_DivMod.j0 k y (wrap64 (Int.tdiv x y)) (Int.tmod x y) ((decide ((Int.tmod x y) < 0)) != (decide (y < 0))))) _
      rw [hw]
      have hz : Int.tmod x y = 0 ↔ x.natAbs % y.natAbs = 0 := by
        rw [t2]
        unfold sgd
        rcases decide (x < 0) with _ | _
        · rw [if_neg (by decide)]; omega
        · rw [if_pos rfl]; omega
      by_cases h0 : Int.tmod x y = 0
      · refine Ev.pos h0 (hj false ?_)
        rw [hz.1 h0]
        by_cases hnm : decide (x < 0) = decide (y < 0)
        · rw [if_pos hnm]
        · rw [if_neg hnm]; rfl
      · refine Ev.neg h0 (hj _ ?_)
        have hR0 : x.natAbs % y.natAbs ≠ 0 := fun h => h0 (hz.2 h)
        have hs : decide (Int.tmod x y < 0) = decide (x < 0) := by
          rw [t2]
          unfold sgd
          generalize x.natAbs % y.natAbs = R at hR0
          rcases e : decide (x < 0) with _ | _
          · rw [if_neg (by decide)]; exact decide_eq_false (by omega)
          · rw [if_pos rfl]; exact decide_eq_true (by omega)
        rw [hs, decide_eq_true hR0]
        by_cases hnm : decide (x < 0) = decide (y < 0)
        · rw [if_pos hnm, hnm]; simp
        · rw [if_neg hnm]
          rcases e1 : decide (x < 0) with _ | _ <;> rcases e2 : decide (y < 0) with _ | _
          · rw [e1, e2] at hnm; exact absurd rfl hnm
          · rfl
          · rfl
          · rw [e1, e2] at hnm; exact absurd rfl hnm
    · rw [if_neg h2]
      exact Ev.bind (Ev.now ((0 : Int), false)) (Ev.neg (by decide) key)
  · rw [if_neg h1]
    exact Ev.bind (Ev.now ((0 : Int), false)) (Ev.neg (by decide) key)
theorem zlcm_f (x y : Int) (hx : Mz x) (hy : Mz y) : Ev (fun k => z_Lcm.f k (Z x) (Z y)) (S (if x = 0 ∨ y = 0 then 0 else x.natAbs / Nat.gcd x.natAbs y.natAbs * y.natAbs)) := by
  unfold z_Lcm.f
  rw [wabs_f, wabs_f]
  refine Ev.bind (Ev.now (S x.natAbs)) (Ev.bind (Ev.now (S y.natAbs)) (Ev.bind (a := S (if x = 0 ∨ y = 0 then 0 else x.natAbs / Nat.gcd x.natAbs y.natAbs * y.natAbs)) ?_ (Ev.now _)))
  by_cases h : x = 0 ∨ y = 0
  · rw [if_pos h]
    exact lcm_zero _ _ (by omega)
  · rw [if_neg h]
    exact lcm_f _ _ (by omega) (by omega) hx hy
end Go.Proofs.YtgicckcahhlbjaaGreatDoor.P

namespace Go.Proofs.YtgicckcahhlbjaaGreatDoor.P
open Go.RowKit Go.Proofs.YtgicckcahhlbjaaGreatDoorW.PrintWords
end Go.Proofs.YtgicckcahhlbjaaGreatDoor.P

namespace Go.Proofs.YtgicckcahhlbjaaGreatDoor.P
open Go.RowKit Go.Proofs.YtgicckcahhlbjaaGreatDoorW.PrintWords
theorem zgcd_l0 : ∀ (m x y : Nat), y ≤ m → Ev (fun k => z_gcd.l0 k (x : Int) (y : Int)) ((Nat.gcd x y : Nat) : Int)
  | 0, x, y, hm => by
    obtain rfl : y = 0 := by omega
    rw [Nat.gcd_zero_right]
    refine Ev.step (f := fun _ => some (x : Int)) (fun k => ?_) (Ev.now _)
    rw [z_gcd.l0, if_pos (by rfl)]
  | m + 1, x, y, hm => by
    by_cases h0 : y = 0
    · exact zgcd_l0 0 x y (by omega)
    · have h1 : x % y < y := Nat.mod_lt _ (Nat.pos_of_ne_zero h0)
      have ih := zgcd_l0 m y (x % y) (by omega)
      rw [gcd_next] at ih
      refine Ev.step (fun k => ?_) ih
      rw [z_gcd.l0, if_neg (by omega), tmodn]
theorem Mz.nat {u : Nat} (h : Md u) : Mz (u : Int) := by unfold Mz; rw [Int.natAbs_natCast]; exact h
theorem zgcd_f (x y : Int) (hx : Mz x) (hy : Mz y) : Ev (fun k => z_Gcd.f k (Z x) (Z y)) (S (Nat.gcd x.natAbs y.natAbs)) := by
  have e1 := little_f (x.natAbs : Int) 18 (by decide) (Mz.nat hx)
  have e2 := little_f (y.natAbs : Int) 18 (by decide) (Mz.nat hy)
  have h18 : (10 : Nat) ^ 18 = 1000000000000000000 := by decide
  rw [show ((18 : Nat) : Int) = 18 from rfl, Z_nat] at e1 e2
  have key := gcd_f x.natAbs y.natAbs hx hy
  unfold z_Gcd.f
  rw [wabs_f, wabs_f]
  refine Ev.bind (Ev.now (S x.natAbs)) (Ev.bind (Ev.now (S y.natAbs)) ?_)
  rw [e1]
  by_cases h1 : (S x.natAbs).size ≤ 18
  · rw [if_pos h1]
    refine Ev.bind (Ev.now ((x.natAbs : Int), true)) (Ev.pos rfl ?_)
    rw [e2]
    by_cases h2 : (S y.natAbs).size ≤ 18
    · rw [if_pos h2]
      rw [S_size] at h1 h2
      have a1 := nDig_lt h1
      have a2 := nDig_lt h2
      rw [h18] at a1 a2
      refine Ev.bind (Ev.now ((y.natAbs : Int), true)) (Ev.pos rfl (Ev.bind (zgcd_l0 y.natAbs x.natAbs y.natAbs (Nat.le_refl _)) ?_))
      have hg : Nat.gcd x.natAbs y.natAbs < 1000000000000000000 := by
        rcases Nat.eq_zero_or_pos x.natAbs with h0 | h0
        · rw [h0, Nat.gcd_zero_left]; exact a2
        · exact Nat.lt_of_le_of_lt (Nat.gcd_le_left _ h0) a1
      rw [wof_f _ (by omega) (by omega), bsome, Z_nat]
      exact Ev.now _
    · rw [if_neg h2]
      exact Ev.bind (Ev.now ((0 : Int), false)) (Ev.neg (by decide) (Ev.bind key (Ev.now _)))
  · rw [if_neg h1]
    exact Ev.bind (Ev.now ((0 : Int), false)) (Ev.neg (by decide) (Ev.bind key (Ev.now _)))
theorem Z_beq (v : Int) : ((Z v).toList == (Z v).toList) = true := by simp
theorem sgd_abs2 (b : Bool) (u : Nat) : (sgd b u).natAbs = u := by
  unfold sgd
  by_cases hb : b = true
  · rw [if_pos hb]; omega
  · rw [if_neg hb]; omega
structure Fz (v : Int) (n : Nat) : Prop where
  out : Lib.nDigits v.natAbs ≤ n
theorem Fz.mz {v : Int} {n : Nat} (h : Fz v n) (hn : n ≤ 1000000) : Mz v := ⟨Nat.le_trans h.out hn⟩
theorem Fz.add {a b : Int} {n m : Nat} (ha : Fz a n) (hb : Fz b m) : Fz (a + b) (n + m) := ⟨by
  have h1 := nDig_mono (show (a + b).natAbs ≤ a.natAbs + b.natAbs by omega)
  have h2 := nDig_add a.natAbs b.natAbs
  have h3 := ha.out
  have h4 := hb.out
  omega⟩
theorem Fz.mul {a b : Int} {n m : Nat} (ha : Fz a n) (hb : Fz b m) : Fz (a * b) (n + m) := ⟨by
  rw [Int.natAbs_mul]
  have h2 := nDig_mul a.natAbs b.natAbs
  have h3 := ha.out
  have h4 := hb.out
  omega⟩
end Go.Proofs.YtgicckcahhlbjaaGreatDoor.P

namespace Go.Proofs.YtgicckcahhlbjaaGreatDoor.P
open Go.RowKit Go.Proofs.YtgicckcahhlbjaaGreatDoorW.PrintWords
theorem take_C (m z : List Nat) : (C (m ++ z)).take m.length = C m := by rw [C_take, List.take_left]
theorem r2trim_l0 : ∀ (n : Nat) (m z : List Nat), m.length = n → Ok m → Sm (m ++ z).length → Ev (fun k => r_trim.l0 k (C (m ++ z)) (n : Int)) (C (pcs (val m)))
  | 0, m, z, hl, _, _ => by
    obtain rfl := List.length_eq_zero_iff.1 hl
    refine Ev.step (f := fun _ => some (C (pcs (val [])))) (fun k => ?_) (Ev.now _)
    rw [r_trim.l0, if_neg (by omega), if_pos (by omega), if_pos (by omega), show val ([] : List Nat) = 0 from rfl, pcs_zero]
    rfl
  | n + 1, m, z, hl, h, hs => by
    obtain ⟨m, a, rfl, hm⟩ := concat_of_len hl
    have e0 : m ++ [a] ++ z = m ++ a :: z := by simp
    have hlen : (m ++ [a] ++ z).length = n + 1 + z.length := by rw [e0, List.length_append, List.length_cons, hm]; omega
    have hC : (C (m ++ [a] ++ z)).length = n + 1 + z.length := by rw [C_length, hlen]
    have s1 : Sm (n + 1) := hs.le (by rw [hlen]; omega)
    have e2 : rd (C (m ++ [a] ++ z)) (n : Int) = a := by rw [e0]; exact rd_at m z a n hm
    have e1 := wpred1 s1
    by_cases ha : a = 0
    · have ih := r2trim_l0 n m (a :: z) hm h.left (by rw [← e0]; exact hs)
      rw [val_snoc, ha, Nat.mul_zero, Nat.add_zero]
      rw [← e0, ha] at ih
      refine Ev.step (fun k => ?_) ih
      rw [ha] at e2 hC
      rw [r_trim.l0, e1, e2]
      clear e1 e2
      rw [if_pos (by omega), if_pos (by omega), if_pos (by omega), if_pos (by rfl)]
    · have h3 := pcs_snoc m a h ha
      have e3 : (C (m ++ [a] ++ z)).take (n + 1) = C (m ++ [a]) := by rw [← hl]; exact take_C (m ++ [a]) z
      refine Ev.step (f := fun _ => some (C (pcs (val (m ++ [a]))))) (fun k => ?_) (Ev.now _)
      rw [r_trim.l0, e1, e2, Int.toNat_natCast, e3, h3]
      clear e1 e2
      rw [if_pos (by omega), if_pos (by omega), if_pos (by omega), if_neg (by omega), if_pos (by omega), if_pos (by omega)]
theorem r2trim_f (m : List Nat) (h : Ok m) (hs : Sm m.length) : Ev (fun k => r_trim.f k (C m)) (C (pcs (val m))) := by
  have := r2trim_l0 m.length m [] rfl h (by rw [List.append_nil]; exact hs)
  rw [List.append_nil] at this
  unfold r_trim.f
  rw [C_length]
  exact this
theorem dstepI {n : Nat} {c : UInt8} (hc : 48 ≤ c.toNat ∧ c.toNat ≤ 57) (hn : n < 100000000000000000) : wrap64 (wrap64 (10 * (n : Int)) + ((c.toNat : Int) - 48) % 256) = ((10 * n + (c.toNat - 48) : Nat) : Int) := by
  have h1 : ((c.toNat : Int) - 48) % 256 = ((c.toNat - 48 : Nat) : Int) := by omega
  rw [h1, w64 (n := 10 * (n : Int)) (by omega) (by omega), w64 (by omega) (by omega)]
  omega
theorem r2split_l1 (acc : List Nat) (hacc : acc.length < 17592186044416) (A : List UInt8) (l : List UInt8) (hl : Sm l.length) : ∀ (Q P : List UInt8) (r : List Int), l = A ++ P ++ Q → IsD (P ++ Q) → (P ++ Q).length ≤ 9 →
    Ev (fun k => r_split.l0 k (str A) (C (acc ++ [dv (P ++ Q)]))) r → Ev (fun k => r_split.l1 k (str l) (C acc) (A.length : Int) (dv P : Int) ((A.length + P.length : Nat) : Int)) r
  | [], P, r, hd, _, _, h => by
    rw [List.append_nil] at h hd
    have hsz : (str l).size = A.length + P.length := by rw [str_size, hd, List.length_append]
    have hcut : (str l).extract 0 (A.length : Int).toNat = str A := by
      have h1 := extract_list (str l) 0 A.length
      rw [str_list, hd, List.take_left' (by rfl), List.drop_zero] at h1
      apply ByteArray.ext
      apply Array.toList_inj.1
      rw [Int.toNat_natCast, str_list, hd]
      exact h1
    have hC : (C acc).length = acc.length := C_length _
    have e2 : C acc ++ [(dv P : Int)] = C (acc ++ [dv P]) := by rw [C_append]; rfl
    refine Ev.step (fun k => ?_) h
    rw [r_split.l1, if_neg (by omega), if_pos (by omega), if_pos (by omega), if_pos (by omega), hcut, e2]
  | c :: Q, P, r, hd, hD, hn, h => by
    have hd1 : (str l).data.toList = (A ++ P) ++ c :: Q := by rw [str_list, hd]
    have hsz := size_mid (str l) (A ++ P) Q c hd1
    have hAP : (A ++ P).length = A.length + P.length := List.length_append
    have e0 : P ++ c :: Q = (P ++ [c]) ++ Q := by simp
    have ih := r2split_l1 acc hacc A l hl Q (P ++ [c]) r (by rw [hd]; simp) (by rw [← e0]; exact hD) (by rw [← e0]; exact hn) (by rw [← e0]; exact h)
    rw [dv_snoc, List.length_append, List.length_singleton, ← Nat.add_assoc] at ih
    have hP : IsD P := hD.left
    have hb := dv_lt hP
    have hpow : 10 ^ P.length ≤ 10 ^ 9 := Nat.pow_le_pow_right (by decide) (by rw [List.length_append] at hn; omega)
    have h9 : (10 : Nat) ^ 9 = 1000000000 := by decide
    have hl2 : l.length = A.length + P.length + (Q.length + 1) := by rw [hd]; simp; omega
    have s1 : Sm (A.length + P.length) := hl.le (by omega)
    have e1 := bt_mid (str l) (A ++ P) Q c hd1
    rw [hAP] at e1 hsz
    have e2 := dstepI (hD c (by simp)) (show dv P < 100000000000000000 by omega)
    have e3 := wsucc s1
    refine Ev.step (fun k => ?_) ih
    rw [r_split.l1, e1, e2, e3]
    clear e1 e2 e3
    rw [if_pos (by omega), if_pos (by omega)]
theorem r2split_nil (l : List UInt8) (acc : List Nat) (h0 : l.length = 0) (hacc : Ok acc) (hs : acc.length + l.length ≤ 2000000) :
    Ev (fun k => r_split.l0 k (str l) (C acc)) (C (pcs (val acc + 1000000000 ^ acc.length * dv l))) := by
  obtain rfl := List.length_eq_zero_iff.1 h0
  have ht := r2trim_f acc hacc ⟨by omega⟩
  refine Ev.step (f := fun k => (r_trim.f k (C acc)).bind fun t497 => (some t497)) (fun k => ?_) (Ev.eq (Ev.bind ht (Ev.now _)) (by rw [dv_nil, Nat.mul_zero, Nat.add_zero]))
  rw [r_split.l0, str_size, if_neg (by rw [List.length_nil]; omega)]
theorem r2split_l0 : ∀ (m : Nat) (l : List UInt8) (acc : List Nat), l.length ≤ m → IsD l → Ok acc → acc.length + l.length ≤ 2000000 →
    Ev (fun k => r_split.l0 k (str l) (C acc)) (C (pcs (val acc + 1000000000 ^ acc.length * dv l))) := by
  intro m
  induction m with
  | zero =>
    intro l acc hm hD hacc hs
    exact r2split_nil l acc (by omega) hacc hs
  | succ m ih =>
    intro l acc hm hD hacc hs
    by_cases h0 : l.length = 0
    · exact r2split_nil l acc h0 hacc hs
    · skip
      obtain ⟨st, hst⟩ : ∃ st, st = l.length - 9 := ⟨_, rfl⟩
      obtain ⟨h1, h2⟩ := chunk (l := l) (e := l.length) (Nat.le_refl _) hst
      rw [List.take_length] at h1 h2
      have hDs : IsD (l.drop st) := hD.drop st
      have hdl := dv_lt hDs
      have hpow : 10 ^ (l.drop st).length ≤ 10 ^ 9 := Nat.pow_le_pow_right (by decide) (by omega)
      have h9 : (10 : Nat) ^ 9 = 1000000000 := by decide
      have hA : (l.take st).length = st := by rw [List.length_take]; omega
      have ih := ih (l.take st) (acc ++ [dv (l.drop st)]) (by omega) (hD.take st) (hacc.append (Ok.cons (by omega) Ok.nil)) (by rw [List.length_append, List.length_singleton]; omega)
      have hv : val (acc ++ [dv (l.drop st)]) + 1000000000 ^ (acc ++ [dv (l.drop st)]).length * dv (l.take st) = val acc + 1000000000 ^ acc.length * dv l := by
        rw [val_snoc, h1, List.length_append, List.length_singleton, Nat.pow_succ, Nat.mul_add, Nat.mul_assoc, Nat.add_assoc]
      rw [hv] at ih
      have key := r2split_l1 acc (by omega) (l.take st) l ⟨by omega⟩ (l.drop st) [] _ (by rw [List.append_nil, List.take_append_drop]) hDs (by rw [List.nil_append]; omega) ih
      rw [hA, List.length_nil, Nat.add_zero] at key
      have j1 : ∀ k, r_split.j1 (k + 1) (str l) (C acc) (st : Int) = r_split.l1 k (str l) (C acc) (st : Int) (dv [] : Int) (st : Int) := fun k => by rw [r_split.j1]; rfl
      have key2 := Ev.step (g := fun k => r_split.j1 k (str l) (C acc) (st : Int)) j1 key
      refine Ev.step (fun k => ?_) key2
      have hsz : (str l).size = l.length := str_size l
      by_cases h10 : l.length > 9
      · have e1 : wrap64 (((str l).size : Int) - 9) = (st : Int) := by rw [hsz, w64 (by omega) (by omega)]; omega
        rw [r_split.l0, e1]
        clear e1
        rw [if_pos (by omega), if_pos (by omega)]
      · have hst0 : st = 0 := by omega
        rw [r_split.l0, if_pos (by omega), if_neg (by omega), hst0]
        rfl
theorem r2split_f (n : Nat) (h : Md n) : Ev (fun k => r_split.f k (S n)) (C (pcs n)) := by
  have hM := h.out
  have key := r2split_l0 (Lib.decDigits n).length (Lib.decDigits n) [] (Nat.le_refl _) (isD_dec n) Ok.nil (by rw [List.length_nil, Lib.decDigits_length]; omega)
  rw [dv_dec, List.length_nil, Nat.pow_zero, Nat.one_mul, show val ([] : List Nat) = 0 from rfl, Nat.zero_add] at key
  exact key
end Go.Proofs.YtgicckcahhlbjaaGreatDoor.P

namespace Go.Proofs.YtgicckcahhlbjaaGreatDoor.P
open Go.RowKit Go.Proofs.YtgicckcahhlbjaaGreatDoorW.PrintWords
theorem dgs_pad : ∀ (j a : Nat), a < 10 ^ (j + 1) → (dgs (j + 1) a).reverse = List.replicate (j + 1 - Lib.nDigits a) 48 ++ Lib.decDigits a
  | 0, a, h => by
    have h1 : a < 10 := by simpa using h
    rw [dgs, dgs, Lib.nDigits_small h1, dec_small h1, Nat.mod_eq_of_lt h1]
    rfl
  | j + 1, a, h => by
    have h1 : a / 10 < 10 ^ (j + 1) := by rw [Nat.pow_succ] at h; omega
    rw [dgs, List.reverse_cons, dgs_pad j (a / 10) h1]
    by_cases h10 : a < 10
    · have hz : a / 10 = 0 := by omega
      have e48 : UInt8.ofNat (48 + 0) = 48 := rfl
      rw [hz, Lib.nDigits_small (u := 0) (by decide), dec_small (n := 0) (by decide), Lib.nDigits_small h10, dec_small h10, Nat.mod_eq_of_lt h10, e48]
      rw [show j + 1 + 1 - 1 = j + 1 by omega, show j + 1 - 1 = j by omega, List.replicate_succ']
    · rw [Lib.nDigits_big h10, dec_big (n := a) (by omega), ← List.append_assoc]
      congr 3
      omega
theorem dec_upper {a m : Nat} (ha : a < 1000000000) (hm : m ≠ 0) : Lib.decDigits (a + 1000000000 * m) = Lib.decDigits m ++ (List.replicate (9 - Lib.nDigits a) 48 ++ Lib.decDigits a) := by
  have h := dec_val_cons ha hm
  have h2 := congrArg List.reverse h
  rw [List.reverse_append, dgs_pad 8 a ha] at h2
  unfold rdig at h2
  rw [List.reverse_reverse, List.reverse_reverse] at h2
  exact h2
theorem zero_cons (t : List UInt8) : (⟨#[48]⟩ : ByteArray) ++ str t = str (48 :: t) := by
  apply ByteArray.ext
  apply Array.toList_inj.1
  rw [str_list]
  simp [str]
theorem str_app (a b : List UInt8) : str a ++ str b = str (a ++ b) := by
  apply ByteArray.ext
  apply Array.toList_inj.1
  simp [str]
theorem r2join_l1 (p : List Int) (x3 : List UInt8) (i : Int) (hi : wrap64 (i - 1) = i - 1) (hx : x3.length ≤ 20000000) {r : ByteArray} : ∀ (j : Nat) (t : List UInt8), t.length + j = 9 →
    Ev (fun k => r_join.l0 k p (str (x3 ++ (List.replicate j 48 ++ t))) (i - 1)) r → Ev (fun k => r_join.l1 k p (str x3) i (str t)) r
  | 0, t, hj, h => by
    have h1 : (str t).size = t.length := str_size t
    have h2 : (str x3).size = x3.length := str_size x3
    rw [List.replicate_zero, List.nil_append] at h
    refine Ev.step (fun k => ?_) h
    rw [r_join.l1, hi, str_app]
    clear hi
    rw [if_neg (by omega), if_pos (by omega)]
  | j + 1, t, hj, h => by
    have h1 : (str t).size = t.length := str_size t
    have ih := r2join_l1 p x3 i hi hx j (48 :: t) (by rw [List.length_cons]; omega) (by
      rw [List.replicate_succ', List.append_assoc, List.singleton_append] at h
      exact h)
    refine Ev.step (fun k => ?_) ih
    rw [r_join.l1, zero_cons]
    clear hi
    rw [if_pos (by omega), if_pos (by omega)]
theorem r2join_l0 (p : List Nat) (hp : Ok p) (hs : p.length ≤ 2000000) : ∀ (i : Nat) (L R : List Nat) (x : Int), p = L ++ R → L.length = i → x = (i : Int) - 1 → val R ≠ 0 → Lib.nDigits (val R) ≤ 9 * R.length →
    Ev (fun k => r_join.l0 k (C p) (S (val R)) x) (S (val p))
  | 0, L, R, x, h, hL, hx, _, _ => by
    obtain rfl := List.length_eq_zero_iff.1 hL
    rw [List.nil_append] at h
    rw [h]
    refine Ev.step (f := fun _ => some (S (val R))) (fun k => ?_) (Ev.now _)
    rw [r_join.l0, if_neg (by omega)]
  | i + 1, L, R, x, h, hL, hx, h0, hd => by
    obtain ⟨L, a, rfl, hL1⟩ := concat_of_len hL
    obtain rfl : x = (i : Int) := by omega
    have e0 : L ++ [a] ++ R = L ++ a :: R := by simp
    rw [e0] at h
    have ha : a < 1000000000 := by rw [h] at hp; exact hp.right.head
    have hpl : p.length = i + (R.length + 1) := by rw [h, List.length_append, List.length_cons, hL1]
    have hC : (C p).length = p.length := C_length _
    have e1 : rd (C p) (i : Int) = a := by rw [h]; exact rd_at L R a i hL1
    have hw : wrap64 ((i : Int) - 1) = (i : Int) - 1 := w64 (by omega) (by omega)
    have hna : Lib.nDigits a ≤ 9 := nDig_le (by decide) ha
    have hup := dec_upper ha h0
    have hv : val (a :: R) = a + 1000000000 * val R := rfl
    have hlen : Lib.nDigits (val (a :: R)) ≤ 9 * (a :: R).length := by
      rw [← Lib.decDigits_length, hv, hup, List.length_append, List.length_append, List.length_replicate, Lib.decDigits_length, Lib.decDigits_length, List.length_cons]
      clear hw
      omega
    have ih := r2join_l0 p hp hs i L (a :: R) ((i : Int) - 1) h hL1 rfl (by rw [hv]; clear hw; omega) hlen
    have key := r2join_l1 (C p) (Lib.decDigits (val R)) (i : Int) hw (by rw [Lib.decDigits_length]; clear hw; omega) (r := S (val p)) (9 - Lib.nDigits a) (Lib.decDigits a) (by rw [Lib.decDigits_length]; clear hw; omega) (by
      rw [← hup, ← hv]
      exact ih)
    have hit : strconv_Itoa.f (a : Int) = some (str (Lib.decDigits a)) := by
      rw [itoa_f _ (by clear hw; omega) (by clear hw; omega), Z_nat]
      rfl
    refine Ev.step (fun k => ?_) key
    rw [r_join.l0, e1, hit, bsome]
    clear e1 hw key
    rw [if_pos (by omega), if_pos (by omega), if_pos (by omega)]
    rfl
theorem r2join_f (n : Nat) (hl : (pcs n).length ≤ 2000000) : Ev (fun k => r_join.f k (C (pcs n))) (S n) := by
  have hC : (C (pcs n)).length = (pcs n).length := C_length _
  unfold r_join.f
  by_cases h0 : n = 0
  · subst h0
    have hz : (pcs 0).length = 0 := by rw [pcs_zero]; rfl
    refine Ev.pos (by omega) ?_
    rw [zero_str]
    exact Ev.now _
  · have hne : (pcs n).length ≠ 0 := fun e => h0 (pcs_nil_iff.1 (List.length_eq_zero_iff.1 e))
    obtain ⟨m, a, e, hm⟩ := concat_of_len (l := pcs n) (n := (pcs n).length - 1) (by omega)
    have ha0 := pcs_last e
    have ha : a < 1000000000 := ok_pcs n a (by rw [e]; simp)
    have hv : val [a] = a := by simp [val]
    have key := r2join_l0 (pcs n) (ok_pcs n) hl m.length m [a] ((m.length : Int) - 1) e rfl rfl (by rw [hv]; exact ha0) (by rw [hv]; exact (show Lib.nDigits a ≤ 9 from nDig_le (by decide) ha))
    rw [hv, val_pcs] at key
    have e1 : wrap64 (((C (pcs n)).length : Int) - 1) = (m.length : Int) := by rw [hC, w64 (by omega) (by omega)]; omega
    have e2 : wrap64 (((C (pcs n)).length : Int) - 2) = (m.length : Int) - 1 := by rw [hC, w64 (by omega) (by omega)]; omega
    have e3 : rd (C (pcs n)) (m.length : Int) = a := by rw [e]; exact rd_at m [] a m.length rfl
    have hit : strconv_Itoa.f (a : Int) = some (S a) := by
      rw [itoa_f _ (by clear e1 e2; omega) (by clear e1 e2; omega), Z_nat]
    rw [e1, e2, e3, hit]
    clear e1 e2 e3
    exact Ev.neg (by omega) (Ev.pos (by omega) (Ev.pos (by omega) (Ev.bind (Ev.now (S a)) key)))
theorem sgd_zero2 (n : Bool) : sgd n 0 = ((0 : Nat) : Int) := by
  unfold sgd
  rcases n with _ | _
  · rfl
  · rfl
theorem r2signed_f (n : Bool) (m : List Nat) (h : Ok m) (hs : m.length ≤ 2000000) : Ev (fun k => r_signed.f k n (C m)) (Z (sgd n (val m))) := by
  have ht := r2trim_f m h ⟨by omega⟩
  have hpl : (pcs (val m)).length ≤ 2000000 := Nat.le_trans (pcs_len_le (val_lt h)) hs
  have hj := r2join_f (val m) hpl
  have hC : (C (pcs (val m))).length = (pcs (val m)).length := C_length _
  have plain : Ev (fun k => r_signed.j0 k (C (pcs (val m))) false) (S (val m)) := by
    refine Ev.step (f := fun k => (r_join.f k (C (pcs (val m)))).bind fun t512 => (some t512)) (fun k => ?_) (Ev.bind hj (Ev.now _))
    rw [r_signed.j0, if_neg (by decide)]
  unfold r_signed.f
  refine Ev.bind ht ?_
  by_cases hn : n = true
  · refine Ev.pos hn ?_
    by_cases h0 : val m = 0
    · have hz : (pcs (val m)).length = 0 := by rw [h0, pcs_zero]; rfl
      rw [decide_eq_false (by omega)]
      refine Ev.eq plain ?_
      rw [h0, sgd_zero2, Z_nat]
    · have hz : (pcs (val m)).length ≠ 0 := fun e => h0 (pcs_nil_iff.1 (List.length_eq_zero_iff.1 e))
      rw [decide_eq_true (by omega)]
      have hsz := S_size (val m)
      have hnd : Lib.nDigits (val m) ≤ 18000000 := by
        have h1 : val m < 1000000000 ^ m.length := val_lt h
        have h2 : (1000000000 : Nat) ^ m.length = 10 ^ (9 * m.length) := by rw [Nat.pow_mul]
        rw [h2] at h1
        rcases Nat.eq_zero_or_pos m.length with h3 | h3
        · rw [h3] at h1; exact absurd (by simpa using h1) h0
        · exact Nat.le_trans (nDig_le (by omega) h1) (by omega)
      refine Ev.step (f := fun k => (r_join.f k (C (pcs (val m)))).bind fun t511 => (if 1 + t511.size ≤ 9223372036854775807 then (some ((⟨#[45]⟩ : ByteArray) ++ t511)) else (none))) (fun k => ?_) (Ev.bind hj (Ev.pos (by rw [hsz]; omega) (Ev.eq (Ev.now _) ?_)))
      · rw [r_signed.j0, if_pos rfl]
      · unfold sgd
        rw [if_pos hn, Z_neg _ (by omega)]
        exact minus_str _
  · refine Ev.neg hn (Ev.eq plain ?_)
    unfold sgd
    rw [if_neg hn, Z_nat]
end Go.Proofs.YtgicckcahhlbjaaGreatDoor.P

namespace Go.Proofs.YtgicckcahhlbjaaGreatDoor.P
open Go.RowKit Go.Proofs.YtgicckcahhlbjaaGreatDoorW.PrintWords
theorem mrowI {a w b c : Nat} (ha : a < 1000000000) (hw : w < 1000000000) (hb : b < 1000000000) (hc : c < 1000000000) :
    wrap64 (wrap64 ((w : Int) + (c : Int)) + wrap64 ((a : Int) * (b : Int))) = ((c + (w + a * b) : Nat) : Int) ∧ wrap64 (((c + (w + a * b)) / 1000000000 : Nat) : Int) = (((c + (w + a * b)) / 1000000000 : Nat) : Int) := by
  have h : a * b ≤ 999999999 * 999999999 := Nat.mul_le_mul (by omega) (by omega)
  have e : (a : Int) * (b : Int) = ((a * b : Nat) : Int) := (Int.natCast_mul a b).symm
  rw [e]
  generalize a * b = p at h
  refine ⟨?_, w64 (by omega) (by omega)⟩
  rw [w64 (n := (w : Int) + c) (by omega) (by omega), w64 (n := (p : Int)) (by omega) (by omega), w64 (by omega) (by omega)]
  omega
theorem r2t_in (P1 P2 Q1 Q2 L R : List Nat) (w b i a c : Nat) (hP : P1.length = i) (hL : L.length = i + Q1.length) (ha : a < 1000000000) (hw : w < 1000000000) (hb : b < 1000000000) (hc : c < 1000000000) (hs : Sm (i + Q1.length)) (hs1 : Sm Q1.length) {r : List Int}
    (h : Ev (fun k => r_times.l1 k (C (P1 ++ a :: P2)) (C (Q1 ++ b :: Q2)) (C (L ++ ((c + (w + a * b)) % 1000000000) :: R)) (i : Int) (((c + (w + a * b)) / 1000000000 : Nat) : Int) ((Q1.length + 1 : Nat) : Int)) r) :
    Ev (fun k => r_times.l1 k (C (P1 ++ a :: P2)) (C (Q1 ++ b :: Q2)) (C (L ++ w :: R)) (i : Int) (c : Int) (Q1.length : Int)) r := by
  have hl1 : (C (Q1 ++ b :: Q2)).length = Q1.length + (Q2.length + 1) := by rw [C_length]; simp
  have hl2 : (C (P1 ++ a :: P2)).length = i + (P2.length + 1) := by rw [C_length]; simp [hP]
  have hl0 : (C (L ++ w :: R)).length = i + Q1.length + (R.length + 1) := by rw [C_length]; simp [hL]
  have e7 := rd_at Q1 Q2 b Q1.length rfl
  have e8 := rd_at P1 P2 a i hP
  have e2 := rd_at L R w (i + Q1.length) hL
  have e6 := set_at L R w ((c + (w + a * b)) % 1000000000) _ hL
  obtain ⟨e3, e4⟩ := mrowI ha hw hb hc
  have e1 := wadd hs
  have e5 := wsucc hs1
  have j : ∀ k, r_times.j2 (k + 1) (C (P1 ++ a :: P2)) (C (Q1 ++ b :: Q2)) (C (L ++ w :: R)) (i : Int) (c : Int) (Q1.length : Int) true = r_times.l1 k (C (P1 ++ a :: P2)) (C (Q1 ++ b :: Q2)) (C (L ++ ((c + (w + a * b)) % 1000000000) :: R)) (i : Int) (((c + (w + a * b)) / 1000000000 : Nat) : Int) ((Q1.length + 1 : Nat) : Int) := fun k => by
    rw [r_times.j2, e1, e2, e7, e8, e3, tmod9, tdiv9, e4, e5, e6]
    clear e1 e2 e3 e4 e5 e6 e7 e8 ha hw hb hc hs hs1 h
    rw [if_pos rfl, if_pos (by omega), if_pos (by omega), if_pos (by omega), if_pos (by omega), if_pos (by omega), if_pos (by omega)]
  have key := Ev.step (g := fun k => r_times.j2 k (C (P1 ++ a :: P2)) (C (Q1 ++ b :: Q2)) (C (L ++ w :: R)) (i : Int) (c : Int) (Q1.length : Int) true) j h
  refine Ev.step (fun k => ?_) key
  rw [r_times.l1]
  clear e1 e2 e3 e4 e5 e6 e7 e8 j
  rw [if_pos (by omega)]
theorem r2t_out (P : List Int) (Q L R : List Nat) (i c : Nat) (hL : L.length = i + Q.length) (hc : c < 1000000000) (hs : Sm (i + Q.length)) (hs1 : Sm i) (hsq : Sm Q.length) {r : List Int}
    (h : Ev (fun k => r_times.l0 k P (C Q) (C (L ++ c :: R)) ((i + 1 : Nat) : Int)) r) :
    Ev (fun k => r_times.l1 k P (C Q) (C (L ++ 0 :: R)) (i : Int) (c : Int) (Q.length : Int)) r := by
  have hl1 : (C Q).length = Q.length := C_length _
  have stop : ∀ (x : Int) (list : List Int) (n : Nat), Q.length ≤ n → x = 0 → Ev (fun k => r_times.l0 k P (C Q) list ((i + 1 : Nat) : Int)) r → Ev (fun k => r_times.l1 k P (C Q) list (i : Int) x (n : Int)) r := fun x list n hn hx h2 => by
    have e5 := wsucc hs1
    have j : ∀ k, r_times.j2 (k + 1) P (C Q) list (i : Int) x (n : Int) false = r_times.l0 k P (C Q) list ((i + 1 : Nat) : Int) := fun k => by
      rw [r_times.j2, if_neg (by decide), e5]
    have key := Ev.step (g := fun k => r_times.j2 k P (C Q) list (i : Int) x (n : Int) false) j h2
    refine Ev.step (fun k => ?_) key
    rw [r_times.l1]
    clear e5 j key
    rw [if_neg (by omega), decide_eq_false (by omega)]
  by_cases h0 : c = 0
  · subst h0
    exact stop 0 _ Q.length (Nat.le_refl _) rfl h
  · have hl0 : (C (L ++ 0 :: R)).length = i + Q.length + (R.length + 1) := by rw [C_length]; simp [hL]
    have e2 := rd_at L R 0 (i + Q.length) hL
    have e6 := set_at L R 0 c _ hL
    have e3 : wrap64 (((0 : Nat) : Int) + (c : Int)) = (c : Int) := by rw [w64 (by omega) (by omega)]; omega
    have e4 : Int.tmod (c : Int) 1000000000 = (c : Int) := by rw [tmod9, Nat.mod_eq_of_lt hc]
    have e9 : wrap64 (Int.tdiv (c : Int) 1000000000) = 0 := by rw [tdiv9, Nat.div_eq_of_lt hc]; exact w64 (by decide) (by decide)
    have key1 := stop 0 (C (L ++ c :: R)) (Q.length + 1) (Nat.le_succ _) rfl h
    have e1 := wadd hs
    have e5 := wsucc hsq
    have j : ∀ k, r_times.j2 (k + 1) P (C Q) (C (L ++ 0 :: R)) (i : Int) (c : Int) (Q.length : Int) true = r_times.l1 k P (C Q) (C (L ++ c :: R)) (i : Int) 0 ((Q.length + 1 : Nat) : Int) := fun k => by
      rw [r_times.j2, e1, e2, e3, e4, e9, e5, e6]
      clear e1 e2 e3 e4 e5 e6 e9 key1 stop h hs hs1 hsq
      rw [if_pos rfl, if_pos (by omega), if_pos (by omega), if_neg (by omega)]
    have key := Ev.step (g := fun k => r_times.j2 k P (C Q) (C (L ++ 0 :: R)) (i : Int) (c : Int) (Q.length : Int) true) j key1
    refine Ev.step (fun k => ?_) key
    rw [r_times.l1]
    clear e1 e2 e3 e4 e5 e6 e9 key1 key stop j
    rw [if_neg (by omega), decide_eq_true (by omega)]
theorem r2t_l1 (P1 P2 : List Nat) (a : Nat) (ha : a < 1000000000) {r : List Int} (i : Nat) (hP : P1.length = i) : ∀ (Q2 Q1 L W R : List Nat) (c : Nat), W.length = Q2.length → L.length = i + Q1.length → Ok W → Ok Q2 → c < 1000000000 → Sm (i + (Q1 ++ Q2).length) →
    Ev (fun k => r_times.l0 k (C (P1 ++ a :: P2)) (C (Q1 ++ Q2)) (C (L ++ mrow a c W Q2 ++ R)) ((i + 1 : Nat) : Int)) r →
    Ev (fun k => r_times.l1 k (C (P1 ++ a :: P2)) (C (Q1 ++ Q2)) (C (L ++ W ++ 0 :: R)) (i : Int) (c : Int) (Q1.length : Int)) r
  | [], Q1, L, [], R, c, _, hL, _, _, hc, hs, hr => by
    rw [List.append_nil] at hs hr ⊢
    rw [List.append_nil]
    exact r2t_out _ Q1 L R i c hL hc hs (hs.le (by omega)) (hs.le (by omega)) (by simpa [mrow] using hr)
  | [], _, _, _ :: _, _, _, h, _, _, _, _, _, _ => by simp at h
  | _ :: _, _, _, [], _, _, h, _, _, _, _, _, _ => by simp at h
  | b :: Q2, Q1, L, w :: W, R, c, hWQ, hL, hW, hQ, hc, hs, hr => by
    have e0 : L ++ w :: W ++ 0 :: R = L ++ w :: (W ++ 0 :: R) := by simp
    have hs1 : Sm (i + Q1.length) := hs.le (by simp)
    have ih := r2t_l1 P1 P2 a ha i hP Q2 (Q1 ++ [b]) (L ++ [(c + (w + a * b)) % 1000000000]) W R ((c + (w + a * b)) / 1000000000) (by simpa using hWQ) (by simp [hL]; omega) hW.tail hQ.tail (mrow_arith ha hW.head hQ.head hc).2.2 (hs.le (by simp)) (by simpa [mrow] using hr)
    rw [e0]
    exact r2t_in P1 P2 Q1 Q2 L (W ++ 0 :: R) w b i a c hP hL ha hW.head hQ.head hc hs1 (hs1.le (by omega)) (by simpa using ih)
theorem r2t_l0 (Q : List Nat) (hQ : Ok Q) (hQl : Q.length ≤ 1000000) : ∀ (P2 P1 M : List Nat), Ok P2 → Ok M → M.length = P1.length + Q.length → val M = val P1 * val Q → (P1 ++ P2).length ≤ 1000000 →
    Ev (fun k => r_times.l0 k (C (P1 ++ P2)) (C Q) (C (M ++ List.replicate (P2.length + 1) 0)) (P1.length : Int)) (C (pcs (val (P1 ++ P2) * val Q)))
  | [], P1, M, _, hM, hl, hv, hs => by
    rw [List.append_nil] at hs ⊢
    have hj := r2trim_f (M ++ List.replicate (([] : List Nat).length + 1) 0) (hM.append (Ok.zeros _)) ⟨by simp; omega⟩
    rw [val_append, val_zeros, Nat.mul_zero, Nat.add_zero, hv] at hj
    have hC : (C P1).length = P1.length := C_length _
    refine Ev.step (f := fun k => (r_trim.f k (C (M ++ List.replicate (([] : List Nat).length + 1) 0))).bind fun t516 => (some t516)) (fun k => ?_) (Ev.bind hj (Ev.now _))
    rw [r_times.l0, if_neg (by omega)]
  | a :: P2, P1, M, hP, hM, hl, hv, hs => by
    have ha := hP.head
    have hs2 : P1.length + (P2.length + 1) ≤ 1000000 := by simpa using hs
    obtain ⟨L, W, rfl, hL⟩ : ∃ L W, M = L ++ W ∧ L.length = P1.length := ⟨M.take P1.length, M.drop P1.length, (List.take_append_drop _ _).symm, by rw [List.length_take]; omega⟩
    have hW : W.length = Q.length := by simp [hL] at hl; omega
    obtain ⟨m1, m2, m3⟩ := mrow_spec a ha Q W 0 hW hM.right hQ (by omega)
    have ih := r2t_l0 Q hQ hQl P2 (P1 ++ [a]) (L ++ mrow a 0 W Q) hP.tail (hM.left.append m2) (by simp [m1, hL, hW]; omega) (by
      rw [val_append, hL] at hv
      rw [val_append, m3, val_snoc, Nat.add_zero, Nat.mul_add, ← Nat.add_assoc, hL, hv, Nat.add_mul, Nat.mul_assoc]) (by simpa using hs)
    have hC : (C (P1 ++ a :: P2)).length = P1.length + (P2.length + 1) := by rw [C_length]; simp
    have key := r2t_l1 P1 P2 a ha P1.length rfl Q [] L W (List.replicate (P2.length + 1) 0) 0 hW (by simp [hL]) hM.right hQ (by omega) ⟨by rw [List.nil_append]; omega⟩ (by simpa using ih)
    refine Ev.step (f := fun k => r_times.l1 k (C (P1 ++ a :: P2)) (C Q) (C (L ++ W ++ List.replicate ((a :: P2).length + 1) 0)) (P1.length : Int) 0 0) (fun k => ?_) ?_
    · rw [r_times.l0, if_pos (by omega)]
    · simpa [List.replicate_succ] using key
theorem r2times_f (a b : Nat) (ha : (pcs a).length ≤ 1000000) (hb : (pcs b).length ≤ 1000000) : Ev (fun k => r_times.f k (C (pcs a)) (C (pcs b))) (C (pcs (a * b))) := by
  have key := r2t_l0 (pcs b) (ok_pcs b) hb (pcs a) [] (List.replicate (pcs b).length 0) (ok_pcs a) (Ok.zeros _) (by simp) (by simp [val, val_zeros]) (by simpa using ha)
  rw [List.nil_append, val_pcs, val_pcs] at key
  have s1 : Sm ((pcs a).length + (pcs b).length) := ⟨by omega⟩
  have e2 : List.replicate ((pcs a).length + (pcs b).length + 1) (0 : Int) = C (List.replicate (pcs b).length 0 ++ List.replicate ((pcs a).length + 1) 0) := by
    rw [List.replicate_append_replicate, ← C_zeros, Nat.add_comm (pcs a).length, Nat.add_assoc]
  have e1 := wadd s1
  have e3 := wsucc s1
  unfold r_times.f
  rw [C_length, C_length, e1, e3, Int.toNat_natCast, e2]
  clear e1 e2 e3
  exact Ev.pos (by omega) (Ev.pos (by omega) key)
theorem r2quick_f (v : Int) : Ev (fun k => r_quick.f k (Z v)) (if Lib.nDigits v.natAbs ≤ 18 then (v, true) else (0, false)) := by
  unfold r_quick.f
  rw [digits_Z]
  refine Ev.bind (Ev.now (S v.natAbs)) ?_
  have hsz := S_size v.natAbs
  by_cases h : Lib.nDigits v.natAbs ≤ 18
  · have h1 := nDig_lt h
    have h2 : (10 : Nat) ^ 18 = 1000000000000000000 := by decide
    rw [if_pos h]
    have hs : small64 v = (v, true) := by unfold small64; rw [if_pos (by omega)]
    have key := r2small_f v (by omega)
    rw [hs] at key
    exact Ev.neg (by omega) (Ev.bind key (Ev.now _))
  · rw [if_neg h]
    exact Ev.pos (by omega) (Ev.now _)
theorem side_ne (x y : Int) : ((if x < 0 then -1 else 1 : Int) != (if y < 0 then -1 else 1 : Int)) = (decide (x < 0) != decide (y < 0)) := by
  by_cases hx : x < 0 <;> by_cases hy : y < 0 <;> simp [hx, hy]
theorem r2mul_f (x y : Int) (hx : Mz x) (hy : Mz y) : Ev (fun k => r_Mul.f k (Z x) (Z y)) (Z (x * y)) := by
  have dx := digits_Z x
  have dy := digits_Z y
  have sx := side_f x
  have sy := side_f y
  have q1 := r2quick_f x
  have q2 := r2quick_f y
  have p1 := Lib.nDigits_pos x.natAbs
  have p2 := Lib.nDigits_pos y.natAbs
  have mx : Md x.natAbs := hx
  have my : Md y.natAbs := hy
  have hMx := mx.out
  have hMy := my.out
  have e1 : wrap64 (((S x.natAbs).size : Int) + ((S y.natAbs).size : Int)) = ((Lib.nDigits x.natAbs + Lib.nDigits y.natAbs : Nat) : Int) := by rw [S_size, S_size, wadd ⟨by omega⟩]
  unfold r_Mul.f
  rw [dx, dy]
  refine Ev.bind (Ev.now (S x.natAbs)) (Ev.bind (Ev.now (S y.natAbs)) ?_)
  rw [e1]
  clear e1
  by_cases h : Lib.nDigits x.natAbs + Lib.nDigits y.natAbs ≤ 18
  · rw [if_pos (by omega)] at q1 q2
    refine Ev.pos (by omega) (Ev.bind q1 (Ev.bind q2 ?_))
    have hp : (x * y).natAbs < 10 ^ 18 := by
      rw [Int.natAbs_mul]
      have := nDig_mul x.natAbs y.natAbs
      exact nDig_lt (by omega)
    have h2 : (10 : Nat) ^ 18 = 1000000000000000000 := by decide
    rw [h2] at hp
    show Ev (fun k => (r_Of.f (wrap64 (x * y))).bind fun t530 => (some t530)) _
    generalize x * y = p at hp
    rw [w64 (by omega) (by omega), r2of_f p (by omega) (by omega)]
    exact Ev.now _
  · refine Ev.neg (by omega) ?_
    rw [sx, sy]
    have sp1 := r2split_f x.natAbs mx
    have sp2 := r2split_f y.natAbs my
    have l1 := mx.pcs
    have l2 := my.pcs
    have tm := r2times_f x.natAbs y.natAbs l1 l2
    have hl := pcs_len_mul x.natAbs y.natAbs
    have hl3 := pcs_len_nDig x.natAbs
    have hl4 := pcs_len_nDig y.natAbs
    have sg := r2signed_f (decide (x < 0) != decide (y < 0)) (pcs (x.natAbs * y.natAbs)) (ok_pcs _) (by omega)
    rw [val_pcs, mul_sgd, ← side_ne] at sg
    exact Ev.bind (Ev.now _) (Ev.bind (Ev.now _) (Ev.bind (Ev.now (S x.natAbs)) (Ev.bind sp1 (Ev.bind (Ev.now (S y.natAbs)) (Ev.bind sp2 (Ev.bind tm (Ev.bind sg (Ev.now _))))))))
end Go.Proofs.YtgicckcahhlbjaaGreatDoor.P

namespace Go.Proofs.YtgicckcahhlbjaaGreatDoor.P
open Go.RowKit Go.Proofs.YtgicckcahhlbjaaGreatDoorW.PrintWords
theorem r2order_l0 : ∀ (i : Nat) (p q : List Nat) (x : Int), x = (i : Int) - 1 → p.length = q.length → i ≤ p.length → p.length ≤ 4000000 → Ok p → Ok q → p.drop i = q.drop i →
    Ev (fun k => r_order.l0 k (C p) (C q) x) (cmp (val p) (val q))
  | 0, p, q, x, hx, _, _, _, _, _, he => by
    obtain rfl : p = q := by simpa using he
    refine Ev.step (f := fun _ => some 0) (fun k => ?_) (Ev.eq (Ev.now _) (by simp [cmp]))
    rw [r_order.l0, if_neg (by omega)]
  | i + 1, p, q, x, hx, hl, hi, hs, hp, hq, he => by
    obtain ⟨p1, a, s, rfl, hp1⟩ := split_at (l := p) (i := i) (by omega)
    obtain ⟨q1, b, s', rfl, hq1⟩ := split_at (l := q) (i := i) (by omega)
    have hss : s = s' := by
      rw [show p1 ++ a :: s = (p1 ++ [a]) ++ s by simp, show q1 ++ b :: s' = (q1 ++ [b]) ++ s' by simp, List.drop_left' (by simp [hp1]), List.drop_left' (by simp [hq1])] at he
      exact he
    subst hss
    obtain rfl : x = (i : Int) := by omega
    have e1 : rd (C (p1 ++ a :: s)) (i : Int) = a := rd_at p1 s a i hp1
    have e2 : rd (C (q1 ++ b :: s)) (i : Int) = b := rd_at q1 s b i hq1
    have l1 : (C (p1 ++ a :: s)).length = i + (s.length + 1) := by rw [C_length]; simp [hp1]
    have l2 : (C (q1 ++ b :: s)).length = i + (s.length + 1) := by rw [C_length]; simp [hq1]
    have hs' : i + (s.length + 1) ≤ 4000000 := by simpa [hp1] using hs
    by_cases h1 : a < b
    · refine Ev.step (f := fun _ => some (-1)) (fun k => ?_) (Ev.eq (Ev.now _) ?_)
      · rw [r_order.l0, e1, e2, if_pos (by omega), if_pos (by omega), if_pos (by omega), if_pos (by omega), if_pos (by omega)]
      · rw [cmp, if_pos (lt_mid hp.left (by omega) h1)]
    · by_cases h2 : b < a
      · refine Ev.step (f := fun _ => some 1) (fun k => ?_) (Ev.eq (Ev.now _) ?_)
        · rw [r_order.l0, e1, e2, if_pos (by omega), if_pos (by omega), if_pos (by omega), if_pos (by omega), if_neg (by omega), if_pos (by omega)]
        · have := lt_mid (s := s) hq.left (hq1.trans hp1.symm) h2
          rw [cmp, if_neg (by omega), if_pos this]
      · obtain rfl : a = b := by omega
        have hw : wrap64 ((i : Int) - 1) = (i : Int) - 1 := w64 (by omega) (by omega)
        refine Ev.step (f := fun k => r_order.l0 k (C (p1 ++ a :: s)) (C (q1 ++ a :: s)) ((i : Int) - 1)) (fun k => ?_) (r2order_l0 i _ _ _ rfl hl (by clear hw; omega) hs hp hq (by rw [List.drop_left' hp1, List.drop_left' hq1]))
        rw [r_order.l0, e1, e2, hw]
        clear hw e1 e2
        rw [if_pos (by omega), if_pos (by omega), if_pos (by omega), if_pos (by omega), if_neg (by omega), if_neg (by omega)]
theorem r2order_f (a b : Nat) (ha : (pcs a).length ≤ 4000000) (hb : (pcs b).length ≤ 4000000) : Ev (fun k => r_order.f k (C (pcs a)) (C (pcs b))) (cmp a b) := by
  have c1 : (C (pcs a)).length = (pcs a).length := C_length _
  have c2 : (C (pcs b)).length = (pcs b).length := C_length _
  unfold r_order.f
  by_cases h : (pcs a).length = (pcs b).length
  · have key := r2order_l0 (pcs a).length (pcs a) (pcs b) (wrap64 (((C (pcs a)).length : Int) - 1)) (by rw [C_length, w64] <;> omega) h (Nat.le_refl _) ha (ok_pcs a) (ok_pcs b) (by rw [List.drop_length, h, List.drop_length])
    rw [val_pcs, val_pcs] at key
    exact Ev.pos (by omega) key
  · refine Ev.neg (by omega) ?_
    rcases Nat.lt_or_gt_of_ne h with h1 | h1
    · have := pow_le_pcs h1
      have h2 := lt_pow_pcs a
      refine Ev.pos (by omega) (Ev.eq (Ev.now _) ?_)
      rw [cmp, if_pos (show a < b by omega)]
    · have := pow_le_pcs h1
      have h2 := lt_pow_pcs b
      refine Ev.neg (by omega) (Ev.eq (Ev.now _) ?_)
      rw [cmp, if_neg (show ¬ a < b by omega), if_pos (show b < a by omega)]
theorem val_take_succ (l : List Nat) (i : Nat) : val (l.take (i + 1)) = val (l.take i) + 1000000000 ^ i * l.getD i 0 := by
  rcases Nat.lt_or_ge i l.length with h | h
  · obtain ⟨l1, a, s, rfl, hl⟩ := split_at (l := l) (i := i) h
    have e : l1 ++ a :: s = (l1 ++ [a]) ++ s := by simp
    rw [List.take_left' hl]
    rw [show (l1 ++ a :: s).getD i 0 = a by rw [← hl]; exact getD_mid l1 s a, e, List.take_left' (by simp [hl]), val_snoc, hl]
  · rw [List.take_of_length_le (by omega), List.take_of_length_le h, List.getD_eq_getElem?_getD, List.getElem?_eq_none h]
    rfl
theorem getD_out {l : List Nat} {i : Nat} (h : l.length ≤ i) : l.getD i 0 = 0 := by
  rw [List.getD_eq_getElem?_getD, List.getElem?_eq_none h]; rfl
theorem C_snoc (l : List Nat) (a : Nat) : C l ++ [(a : Int)] = C (l ++ [a]) := by rw [C_append]; rfl
theorem pl3 {c x y : Nat} (hc : c ≤ 1) (hx : x < 1000000000) (hy : y < 1000000000) : wrap64 (wrap64 ((c : Int) + (x : Int)) + (y : Int)) = ((c + x + y : Nat) : Int) := by
  rw [w64 (n := (c : Int) + (x : Int)) (by omega) (by omega), w64 (by omega) (by omega)]; omega
theorem pl2 {c x : Nat} (hc : c ≤ 1) (hx : x < 1000000000) : wrap64 ((c : Int) + (x : Int)) = ((c + x : Nat) : Int) := by
  rw [w64 (by omega) (by omega)]; omega
theorem pl4 {n : Nat} (h : n < 4000000000) : wrap64 ((n / 1000000000 : Nat) : Int) = ((n / 1000000000 : Nat) : Int) := w64 (by omega) (by omega)
theorem r2plus_step (p q acc : List Nat) (i c : Nat) (hp : Ok p) (hq : Ok q) (hc : c ≤ 1) (ha : acc.length = i) (hi : i ≤ 4000000) (hgo : i < p.length ∨ i < q.length ∨ 0 < c) {r : List Int}
    (h : Ev (fun k => r_plus.l0 k (C p) (C q) (C (acc ++ [(c + p.getD i 0 + q.getD i 0) % 1000000000])) (((c + p.getD i 0 + q.getD i 0) / 1000000000 : Nat) : Int) ((i + 1 : Nat) : Int)) r) :
    Ev (fun k => r_plus.l0 k (C p) (C q) (C acc) (c : Int) (i : Int)) r := by
  have c1 : (C p).length = p.length := C_length _
  have c2 : (C q).length = q.length := C_length _
  have c3 : (C acc).length = i := by rw [C_length]; exact ha
  have e1 := rd_C p i
  have e2 := rd_C q i
  have b1 := hp.getD i
  have b2 := hq.getD i
  have o1 : ¬ i < p.length → p.getD i 0 = 0 := fun hn => getD_out (Nat.le_of_not_lt hn)
  have o2 : ¬ i < q.length → q.getD i 0 = 0 := fun hn => getD_out (Nat.le_of_not_lt hn)
  generalize p.getD i 0 = x at *
  generalize q.getD i 0 = y at *
  have hs : Sm i := ⟨by omega⟩
  have hn1 : c + x + y < 4000000000 := by omega
  have hn2 : c + x < 4000000000 := by omega
  have hn3 : c + y < 4000000000 := by omega
  have hn4 : c < 4000000000 := by omega
  have j : ∀ k, r_plus.j1 (k + 1) (C p) (C q) (C acc) (c : Int) (i : Int) true = r_plus.l0 k (C p) (C q) (C (acc ++ [(c + x + y) % 1000000000])) (((c + x + y) / 1000000000 : Nat) : Int) ((i + 1 : Nat) : Int) := fun k => by
    have hlen : (C acc).length < 17592186044416 := by omega
    rw [← C_snoc, r_plus.j1, if_pos rfl]
    by_cases h1 : i < p.length
    · have g1 : (i : Int) < ((C p).length : Int) := by omega
      have g0 : (0 : Int) ≤ (i : Int) := by omega
      rw [if_pos g1, if_pos g0]
      by_cases h2 : i < q.length
      · have g2 : (i : Int) < ((C q).length : Int) := by omega
        rw [if_pos g2, if_pos hlen, e1, e2, pl3 hc b1 b2, tmod9, tdiv9, pl4 hn1, wsucc hs]
      · have g2 : ¬ (i : Int) < ((C q).length : Int) := by omega
        have hy0 : y = 0 := o2 h2
        rw [if_neg g2, if_pos hlen, e1, pl2 hc b1, tmod9, tdiv9, pl4 hn2, wsucc hs, hy0, Nat.add_zero (c + x)]
    · have g1 : ¬ (i : Int) < ((C p).length : Int) := by omega
      have hx0 : x = 0 := o1 h1
      rw [if_neg g1]
      by_cases h2 : i < q.length
      · have g2 : (i : Int) < ((C q).length : Int) := by omega
        have g0 : (0 : Int) ≤ (i : Int) := by omega
        rw [if_pos g2, if_pos g0, if_pos hlen, e2, pl2 hc b2, tmod9, tdiv9, pl4 hn3, wsucc hs, hx0, Nat.add_zero c]
      · have g2 : ¬ (i : Int) < ((C q).length : Int) := by omega
        have hy0 : y = 0 := o2 h2
        rw [if_neg g2, if_pos hlen, tmod9, tdiv9, pl4 hn4, wsucc hs, hx0, hy0, Nat.add_zero c]
  have key := Ev.step (g := fun k => r_plus.j1 k (C p) (C q) (C acc) (c : Int) (i : Int) true) j h
  refine Ev.step (fun k => ?_) key
  rw [r_plus.l0]
  clear e1 e2 h j key
  by_cases h1 : i < p.length
  · rw [if_pos (by omega)]
  · rw [if_neg (by omega)]
    by_cases h2 : i < q.length
    · rw [if_pos (by omega)]
    · rw [if_neg (by omega), decide_eq_true (by omega)]
theorem r2plus_stop (p q acc : List Nat) (i : Nat) (h1 : p.length ≤ i) (h2 : q.length ≤ i) : Ev (fun k => r_plus.l0 k (C p) (C q) (C acc) 0 (i : Int)) (C acc) := by
  have c1 : (C p).length = p.length := C_length _
  have c2 : (C q).length = q.length := C_length _
  have key := Ev.step (g := fun k => r_plus.j1 k (C p) (C q) (C acc) 0 (i : Int) false) (f := fun _ => some (C acc)) (fun k => by rw [r_plus.j1, if_neg (by decide)]) (Ev.now _)
  refine Ev.step (fun k => ?_) key
  rw [r_plus.l0, if_neg (by omega), if_neg (by omega), decide_eq_false (by omega)]
theorem r2plus_l0 (p q : List Nat) (hp : Ok p) (hq : Ok q) (hpl : p.length ≤ 1000000) (hql : q.length ≤ 1000000) (m : Nat) : ∀ (i c : Nat) (acc : List Nat), p.length ≤ i + m → q.length ≤ i + m → Ok acc → acc.length = i → i ≤ 1000000 → c ≤ 1 →
    val (p.take i) + val (q.take i) = val acc + 1000000000 ^ i * c → ∃ out, Ok out ∧ out.length ≤ 1000001 ∧ val out = val p + val q ∧ Ev (fun k => r_plus.l0 k (C p) (C q) (C acc) (c : Int) (i : Int)) (C out) := by
  have digit : ∀ (i c : Nat) (acc : List Nat), c ≤ 1 → val (p.take i) + val (q.take i) = val acc + 1000000000 ^ i * c → acc.length = i →
      val (p.take (i + 1)) + val (q.take (i + 1)) = val (acc ++ [(c + p.getD i 0 + q.getD i 0) % 1000000000]) + 1000000000 ^ (i + 1) * ((c + p.getD i 0 + q.getD i 0) / 1000000000) ∧ (c + p.getD i 0 + q.getD i 0) / 1000000000 ≤ 1 := fun i c acc hc hv ha => by
    have b1 := hp.getD i
    have b2 := hq.getD i
    rw [val_take_succ, val_take_succ, val_snoc, ha]
    generalize p.getD i 0 = x at *
    generalize q.getD i 0 = y at *
    refine ⟨?_, by omega⟩
    have e := Nat.div_add_mod (c + x + y) 1000000000
    have e2 : 1000000000 ^ i * (c + x + y) = 1000000000 ^ i * ((c + x + y) % 1000000000) + 1000000000 ^ (i + 1) * ((c + x + y) / 1000000000) := by
      rw [Nat.pow_succ, Nat.mul_assoc, ← Nat.mul_add]
      congr 1
      omega
    rw [Nat.mul_add, Nat.mul_add] at e2
    omega
  induction m with
  | zero =>
    intro i c acc h1 h2 hacc ha hi hc hv
    by_cases h0 : c = 0
    · subst h0
      refine ⟨acc, hacc, by omega, ?_, r2plus_stop p q acc i h1 h2⟩
      rw [List.take_of_length_le (show p.length ≤ i from h1), List.take_of_length_le (show q.length ≤ i from h2), Nat.mul_zero] at hv
      omega
    · obtain ⟨d1, d2⟩ := digit i c acc hc hv ha
      have hz : (c + p.getD i 0 + q.getD i 0) / 1000000000 = 0 := by
        rw [getD_out (show p.length ≤ i from h1), getD_out (show q.length ≤ i from h2)]; omega
      refine ⟨acc ++ [(c + p.getD i 0 + q.getD i 0) % 1000000000], hacc.append (Ok.cons (Nat.mod_lt _ (by decide)) Ok.nil), by rw [List.length_append, List.length_singleton]; omega, ?_, ?_⟩
      · rw [List.take_of_length_le (by omega), List.take_of_length_le (by omega), hz, Nat.mul_zero] at d1
        omega
      · refine r2plus_step p q acc i c hp hq hc ha (by omega) (Or.inr (Or.inr (by omega))) ?_
        rw [hz]
        exact r2plus_stop p q _ (i + 1) (by omega) (by omega)
  | succ m ih =>
    intro i c acc h1 h2 hacc ha hi hc hv
    by_cases hdone : p.length ≤ i + m ∧ q.length ≤ i + m
    · exact ih i c acc hdone.1 hdone.2 hacc ha hi hc hv
    · obtain ⟨d1, d2⟩ := digit i c acc hc hv ha
      obtain ⟨out, o1, o2, o3, o4⟩ := ih (i + 1) ((c + p.getD i 0 + q.getD i 0) / 1000000000) (acc ++ [(c + p.getD i 0 + q.getD i 0) % 1000000000]) (by omega) (by omega) (hacc.append (Ok.cons (Nat.mod_lt _ (by decide)) Ok.nil)) (by rw [List.length_append, List.length_singleton, ha]) (by omega) d2 d1
      exact ⟨out, o1, o2, o3, r2plus_step p q acc i c hp hq hc ha (by omega) (by omega) o4⟩
theorem r2plus_f (a b : Nat) (ha : (pcs a).length ≤ 1000000) (hb : (pcs b).length ≤ 1000000) : ∃ out, Ok out ∧ out.length ≤ 1000001 ∧ val out = a + b ∧ Ev (fun k => r_plus.f k (C (pcs a)) (C (pcs b))) (C out) := by
  have key := r2plus_l0 (pcs a) (pcs b) (ok_pcs a) (ok_pcs b) ha hb 1000000 0 0 [] (by omega) (by omega) Ok.nil rfl (by omega) (by omega) rfl
  rw [val_pcs, val_pcs] at key
  exact key
theorem mi2 {b x : Nat} (hb : b ≤ 1) (hx : x < 1000000000) : wrap64 ((x : Int) - (b : Int)) = (x : Int) - (b : Int) := w64 (by omega) (by omega)
theorem mi3 {b x y : Nat} (hb : b ≤ 1) (hx : x < 1000000000) (hy : y < 1000000000) : wrap64 ((x : Int) - (b : Int) - (y : Int)) = (x : Int) - (b : Int) - (y : Int) := w64 (by omega) (by omega)
theorem wid {n : Int} (h0 : -4000000000 ≤ n) (h1 : n ≤ 4000000000) : wrap64 n = n := w64 (by omega) (by omega)
theorem r2minus_step (p q acc : List Nat) (i b : Nat) (hp : Ok p) (hq : Ok q) (hb : b ≤ 1) (ha : acc.length = i) (hi : i < p.length) (hs : p.length ≤ 4000000) {r : List Int} (d b' : Nat) (hd : d < 1000000000) (hb' : b' ≤ 1)
    (hdb : p.getD i 0 + 1000000000 * b' = d + b + q.getD i 0)
    (h : Ev (fun k => r_minus.l0 k (C p) (C q) (C (acc ++ [d])) (b' : Int) ((i + 1 : Nat) : Int)) r) :
    Ev (fun k => r_minus.l0 k (C p) (C q) (C acc) (b : Int) (i : Int)) r := by
  have c1 : (C p).length = p.length := C_length _
  have c2 : (C q).length = q.length := C_length _
  have c3 : (C acc).length = i := by rw [C_length]; exact ha
  have e1 := rd_C p i
  have e2 := rd_C q i
  have b1 := hp.getD i
  have b2 := hq.getD i
  have o2 : ¬ i < q.length → q.getD i 0 = 0 := fun hn => getD_out (Nat.le_of_not_lt hn)
  generalize p.getD i 0 = x at *
  generalize q.getD i 0 = y at *
  have hsm : Sm i := ⟨by omega⟩
  have g1 : (i : Int) < ((C p).length : Int) := by omega
  have g0 : (0 : Int) ≤ (i : Int) := by omega
  have hlen : (C acc).length < 17592186044416 := by omega
  refine Ev.step (fun k => ?_) h
  rw [r_minus.l0, if_pos g1, if_pos g0, ← C_snoc]
  by_cases h2 : i < q.length
  · have g2 : (i : Int) < ((C q).length : Int) := by omega
    rw [if_pos g2, e1, e2, mi2 hb b1, mi3 hb b1 b2]
    by_cases hneg : (x : Int) - (b : Int) - (y : Int) < 0
    · have hb1 : b' = 1 := by omega
      have hd2 : (x : Int) - (b : Int) - (y : Int) + 1000000000 = (d : Int) := by omega
      have hw : wrap64 (d : Int) = (d : Int) := wid (by omega) (by omega)
      rw [if_pos hneg, if_pos hlen, hd2, hw, wsucc hsm, hb1]
      rfl
    · have hb1 : b' = 0 := by omega
      have hd2 : (x : Int) - (b : Int) - (y : Int) = (d : Int) := by omega
      rw [if_neg hneg, if_pos hlen, hd2, wsucc hsm, hb1]
      rfl
  · have g2 : ¬ (i : Int) < ((C q).length : Int) := by omega
    have hy0 : y = 0 := o2 h2
    rw [if_neg g2, e1, mi2 hb b1]
    by_cases hneg : (x : Int) - (b : Int) < 0
    · have hb1 : b' = 1 := by omega
      have hd2 : (x : Int) - (b : Int) + 1000000000 = (d : Int) := by omega
      have hw : wrap64 (d : Int) = (d : Int) := wid (by omega) (by omega)
      rw [if_pos hneg, if_pos hlen, hd2, hw, wsucc hsm, hb1]
      rfl
    · have hb1 : b' = 0 := by omega
      have hd2 : (x : Int) - (b : Int) = (d : Int) := by omega
      rw [if_neg hneg, if_pos hlen, hd2, wsucc hsm, hb1]
      rfl
theorem r2minus_l0 (p q : List Nat) (hp : Ok p) (hq : Ok q) (hpl : p.length ≤ 2000000) (hql : q.length ≤ p.length) (hle : val q ≤ val p) (m : Nat) : ∀ (i b : Nat) (acc : List Nat), i + m = p.length → Ok acc → acc.length = i → b ≤ 1 →
    val (p.take i) + 1000000000 ^ i * b = val acc + val (q.take i) → Ev (fun k => r_minus.l0 k (C p) (C q) (C acc) (b : Int) (i : Int)) (C (pcs (val p - val q))) := by
  have c1 : (C p).length = p.length := C_length _
  induction m with
  | zero =>
    intro i b acc h1 hacc ha hb hv
    have h2 := val_lt hacc
    rw [List.take_of_length_le (by omega), List.take_of_length_le (by omega)] at hv
    have hval : val acc = val p - val q := by
      rcases (show b = 0 ∨ b = 1 by omega) with rfl | rfl
      · omega
      · rw [ha] at h2
        omega
    have ht := r2trim_f acc hacc ⟨by omega⟩
    rw [hval] at ht
    refine Ev.step (f := fun k => (r_trim.f k (C acc)).bind fun t574 => (some t574)) (fun k => ?_) (Ev.bind ht (Ev.now _))
    rw [r_minus.l0, if_neg (by omega)]
  | succ m ih =>
    intro i b acc h1 hacc ha hb hv
    have b1 := hp.getD i
    have b2 := hq.getD i
    have hx : ∃ d b', d < 1000000000 ∧ b' ≤ 1 ∧ p.getD i 0 + 1000000000 * b' = d + b + q.getD i 0 := by
      by_cases h : b + q.getD i 0 ≤ p.getD i 0
      · exact ⟨p.getD i 0 - b - q.getD i 0, 0, by omega, by omega, by omega⟩
      · exact ⟨p.getD i 0 + 1000000000 - b - q.getD i 0, 1, by omega, by omega, by omega⟩
    obtain ⟨d, b', hd, hb', hdb⟩ := hx
    refine r2minus_step p q acc i b hp hq hb ha (by omega) (by omega) d b' hd hb' hdb (ih (i + 1) b' (acc ++ [d]) (by omega) (hacc.append (Ok.cons hd Ok.nil)) (by rw [List.length_append, List.length_singleton, ha]) hb' ?_)
    rw [val_take_succ, val_take_succ, val_snoc, ha, Nat.pow_succ, Nat.mul_assoc]
    have e := congrArg (fun t => 1000000000 ^ i * t) hdb
    simp only [Nat.mul_add] at e
    omega
theorem r2minus_f (a b : Nat) (ha : (pcs a).length ≤ 2000000) (hab : b ≤ a) : Ev (fun k => r_minus.f k (C (pcs a)) (C (pcs b))) (C (pcs (a - b))) := by
  have key := r2minus_l0 (pcs a) (pcs b) (ok_pcs a) (ok_pcs b) ha (pcs_len_mono hab) (by rw [val_pcs, val_pcs]; exact hab) (pcs a).length 0 0 [] (by omega) Ok.nil rfl (by omega) rfl
  rw [val_pcs, val_pcs] at key
  exact key
end Go.Proofs.YtgicckcahhlbjaaGreatDoor.P

namespace Go.Proofs.YtgicckcahhlbjaaGreatDoor.P
open Go.RowKit Go.Proofs.YtgicckcahhlbjaaGreatDoorW.PrintWords
theorem r2negz_f (v : Int) (hs : Lib.nDigits v.natAbs < 4611686018427387904) : r_Neg.f (Z v) = some (Z (-v)) := by
  unfold r_Neg.f
  rw [r2sign_f]
  simp only [Option.bind_some]
  obtain ⟨c, t, e, hc⟩ := Z_first v
  have h1 := size_list (Z v)
  rw [e, List.length_cons] at h1
  by_cases hn : v < 0
  · have h2 : sgn v < 0 := by unfold sgn; rw [if_neg (by omega), if_pos hn]; decide
    rw [if_pos h2, if_pos (by omega), cut1]
    obtain ⟨u, rfl⟩ : ∃ u : Nat, v = -(u : Int) := ⟨v.natAbs, by omega⟩
    rw [Z_neg u (by omega), str_list, show (-(-(u : Int))) = (u : Int) by omega, Z_nat]
    rfl
  · have h2 : ¬ sgn v < 0 := by
      unfold sgn
      by_cases h0 : v = 0
      · rw [if_pos h0]; decide
      · rw [if_neg h0, if_neg hn]; decide
    rw [if_neg h2]
    obtain ⟨u, rfl⟩ : ∃ u : Nat, v = (u : Int) := ⟨v.toNat, by omega⟩
    by_cases h0 : u = 0
    · subst h0
      have h3 : sgn ((0 : Nat) : Int) = 0 := rfl
      rw [if_pos h3]
      rfl
    · have h3 : ¬ sgn (u : Int) = 0 := by unfold sgn; rw [if_neg (by omega), if_neg hn]; decide
      have hsz : (Z (u : Int)).size = Lib.nDigits u := by rw [Z_nat, S_size]
      have e2 : (u : Int).natAbs = u := by omega
      rw [e2] at hs
      rw [if_neg h3, if_pos (by omega), Z_neg u (by omega), Z_nat]
      congr 1
theorem side_lt (x : Int) : decide ((if x < 0 then -1 else 1 : Int) < 0) = decide (x < 0) := by
  by_cases h : x < 0
  · rw [if_pos h, decide_eq_true h]; rfl
  · rw [if_neg h, decide_eq_false h]; rfl
theorem side_eq (x y : Int) : ((if x < 0 then -1 else 1 : Int) = (if y < 0 then -1 else 1 : Int)) ↔ decide (x < 0) = decide (y < 0) := by
  by_cases hx : x < 0 <;> by_cases hy : y < 0 <;> simp [hx, hy]
theorem r2add_long (x y : Int) (hx : Mz x) (hy : Mz y) (a b : Int) : Ev (fun k => r_Add.j0 k (Z x) (Z y) a b false) (Z (x + y)) := by
  have dx := digits_Z x
  have dy := digits_Z y
  have sx := side_f x
  have sy := side_f y
  have mx : Md x.natAbs := hx
  have my : Md y.natAbs := hy
  have sp1 := r2split_f x.natAbs mx
  have sp2 := r2split_f y.natAbs my
  have l1 := mx.pcs
  have l2 := my.pcs
  refine Ev.step (f := fun k => (r_digits.f (Z x)).bind fun t596 => ((r_split.f k t596).bind fun t597 => ((r_digits.f (Z y)).bind fun t600 => ((r_split.f k t600).bind fun t601 => ((r_side.f (Z x)).bind fun t604 => ((r_side.f (Z y)).bind fun t605 => (if t604 = t605 then ((r_side.f (Z x)).bind fun t606 => ((r_plus.f k t597 t601).bind fun t607 => ((r_signed.f k (decide (t606 < 0)) t607).bind fun t610 => (some t610)))) else ((r_order.f k t597 t601).bind fun t611 => (if t611 ≥ 0 then ((r_side.f (Z x)).bind fun t612 => ((r_minus.f k t597 t601).bind fun t613 => ((r_signed.f k (decide (t612 < 0)) t613).bind fun t616 => (some t616)))) else ((r_side.f (Z y)).bind fun t617 => ((r_minus.f k t601 t597).bind fun t618 => ((r_signed.f k (decide (t617 < 0)) t618).bind fun t621 => (some t621))))))))))))) (fun k => by rw [r_Add.j0, if_neg (by decide)]) ?_
  rw [dx, dy, sx, sy]
  refine Ev.bind (Ev.now (S x.natAbs)) (Ev.bind sp1 (Ev.bind (Ev.now (S y.natAbs)) (Ev.bind sp2 (Ev.bind (Ev.now _) (Ev.bind (Ev.now _) ?_)))))
  by_cases h : decide (x < 0) = decide (y < 0)
  · obtain ⟨out, o1, o2, o3, o4⟩ := r2plus_f x.natAbs y.natAbs l1 l2
    have sg := r2signed_f (decide (x < 0)) out o1 (by omega)
    rw [o3, add_same h, ← side_lt x] at sg
    exact Ev.pos ((side_eq x y).2 h) (Ev.bind (Ev.now _) (Ev.bind o4 (Ev.bind sg (Ev.now _))))
  · refine Ev.neg (fun e => h ((side_eq x y).1 e)) ?_
    have od := r2order_f x.natAbs y.natAbs (by omega) (by omega)
    by_cases hl : x.natAbs < y.natAbs
    · have mi := r2minus_f y.natAbs x.natAbs (by omega) (by omega)
      have sg := r2signed_f (decide (y < 0)) (pcs (y.natAbs - x.natAbs)) (ok_pcs _) (Nat.le_trans (pcs_len_mono (Nat.sub_le _ _)) (by omega))
      rw [val_pcs, add_less h hl, ← side_lt y] at sg
      have hc : ¬ cmp x.natAbs y.natAbs ≥ 0 := by unfold cmp; rw [if_pos hl]; decide
      exact Ev.bind od (Ev.neg hc (Ev.bind (Ev.now _) (Ev.bind mi (Ev.bind sg (Ev.now _)))))
    · have mi := r2minus_f x.natAbs y.natAbs (by omega) (by omega)
      have sg := r2signed_f (decide (x < 0)) (pcs (x.natAbs - y.natAbs)) (ok_pcs _) (Nat.le_trans (pcs_len_mono (Nat.sub_le _ _)) (by omega))
      rw [val_pcs, add_more h hl, ← side_lt x] at sg
      have hc : cmp x.natAbs y.natAbs ≥ 0 := by
        unfold cmp
        rw [if_neg hl]
        by_cases h3 : y.natAbs < x.natAbs
        · rw [if_pos h3]; decide
        · rw [if_neg h3]; decide
      exact Ev.bind od (Ev.pos hc (Ev.bind (Ev.now _) (Ev.bind mi (Ev.bind sg (Ev.now _)))))
theorem r2add_f (x y : Int) (hx : Mz x) (hy : Mz y) : Ev (fun k => r_Add.f k (Z x) (Z y)) (Z (x + y)) := by
  have q1 := r2quick_f x
  have q2 := r2quick_f y
  have lo := r2add_long x y hx hy
  unfold r_Add.f
  by_cases h1 : Lib.nDigits x.natAbs ≤ 18
  · rw [if_pos h1] at q1
    by_cases h2 : Lib.nDigits y.natAbs ≤ 18
    · rw [if_pos h2] at q2
      have b1 := nDig_lt h1
      have b2 := nDig_lt h2
      have h3 : (10 : Nat) ^ 18 = 1000000000000000000 := by decide
      rw [h3] at b1 b2
      have hof := r2of_f (x + y) (by omega) (by omega)
      have e : wrap64 (x + y) = x + y := w64 (by omega) (by omega)
      refine Ev.bind q1 (Ev.bind q2 (Ev.pos rfl ?_))
      show Ev (fun k => r_Add.j0 k (Z x) (Z y) x y true) _
      refine Ev.step (f := fun _ => some (Z (x + y))) (fun k => ?_) (Ev.now _)
      rw [r_Add.j0, if_pos rfl, e, hof, bsome]
    · rw [if_neg h2] at q2
      exact Ev.bind q1 (Ev.bind q2 (Ev.pos rfl (lo _ _)))
  · rw [if_neg h1] at q1
    exact Ev.bind q1 (Ev.bind q2 (Ev.neg (by decide) (lo _ _)))
theorem r2sub_f (x y : Int) (hx : Mz x) (hy : Mz y) : Ev (fun k => r_Sub.f k (Z x) (Z y)) (Z (x - y)) := by
  have ad := r2add_f x (-y) hx hy.neg
  rw [← Int.sub_eq_add_neg] at ad
  unfold r_Sub.f
  rw [r2negz_f y hy.small]
  exact Ev.bind (Ev.now _) (Ev.bind ad (Ev.now _))
end Go.Proofs.YtgicckcahhlbjaaGreatDoor.P

namespace Go.Proofs.YtgicckcahhlbjaaGreatDoor.P
open Go.RowKit Go.Proofs.YtgicckcahhlbjaaGreatDoorW.PrintWords
theorem pcs_single {n : Nat} (h0 : 0 < n) (h : n < 1000000000) : pcs n = [n] := by
  rw [pcs_pos (by omega), Nat.mod_eq_of_lt h, Nat.div_eq_of_lt h, pcs_zero]
theorem C_one (n : Nat) : C [n] = [(n : Int)] := rfl
theorem quot_of {R B q : Nat} (h1 : B * q ≤ R) (h2 : R < B * (q + 1)) : R / B = q := by
  have hB : 0 < B := Nat.pos_of_ne_zero fun e => by rw [e, Nat.zero_mul] at h2; omega
  have a : q ≤ R / B := by rw [Nat.le_div_iff_mul_le hB, Nat.mul_comm]; exact h1
  have b : R / B < q + 1 := by rw [Nat.div_lt_iff_lt_mul hB, Nat.mul_comm]; exact h2
  omega
theorem mid_w {lo hi : Nat} (h1 : lo ≤ 1000000000) (h2 : hi ≤ 1000000000) : wrap64 (Int.tdiv (wrap64 ((wrap64 ((lo : Int) + (hi : Int))) + 1)) 2) = (((lo + hi + 1) / 2 : Nat) : Int) := by
  have e1 : (lo : Int) + (hi : Int) + 1 = ((lo + hi + 1 : Nat) : Int) := by omega
  have h3 : lo + hi + 1 ≤ 4000000000 := by omega
  rw [w64 (n := (lo : Int) + (hi : Int)) (by omega) (by omega), e1]
  clear e1
  generalize lo + hi + 1 = m at h3
  rw [w64 (n := (m : Int)) (by omega) (by omega), show Int.tdiv (m : Int) 2 = ((m / 2 : Nat) : Int) from tdivn m 2]
  exact w64 (by omega) (by omega)
theorem dec_w {m : Nat} (h0 : 0 < m) (h : m ≤ 1000000000) : wrap64 ((m : Int) - 1) = ((m - 1 : Nat) : Int) := by
  rw [w64 (by omega) (by omega)]; omega
theorem r2div_l1 (x0 x6 : List Int) (B R : Nat) (i : Int) (hBl : (pcs B).length ≤ 1000000) (hRl : (pcs R).length ≤ 4000000) {r : List Int × List Int}
    (h : Ev (fun k => r_divide.l1 k x0 (C (pcs B)) x6 (C (pcs R)) i ((R / B : Nat) : Int) ((R / B : Nat) : Int)) r) (m : Nat) : ∀ (lo hi : Nat), hi ≤ lo + m → lo ≤ hi → hi < 1000000000 → B * lo ≤ R → R < B * (hi + 1) →
    Ev (fun k => r_divide.l1 k x0 (C (pcs B)) x6 (C (pcs R)) i (lo : Int) (hi : Int)) r := by
  induction m with
  | zero =>
    intro lo hi h1 h2 h3 h4 h5
    obtain rfl : hi = lo := by omega
    have hq := quot_of h4 h5
    rwa [hq] at h
  | succ m ih =>
    intro lo hi h1 h2 h3 h4 h5
    by_cases he : hi = lo
    · exact ih lo hi (by omega) h2 h3 h4 h5
    · obtain ⟨mid, hm⟩ : ∃ mid, mid = (lo + hi + 1) / 2 := ⟨_, rfl⟩
      have b1 : lo < mid := by omega
      have b2 : mid ≤ hi := by omega
      have b4 : hi ≤ mid + m := by omega
      have b5 : mid - 1 ≤ lo + m := by omega
      have hmid := mid_w (lo := lo) (hi := hi) (by omega) (by omega)
      rw [← hm] at hmid
      have hpm := pcs_single (n := mid) (by clear hmid; omega) (by clear hmid; omega)
      have hl1 : (pcs mid).length ≤ 1000000 := by rw [hpm, List.length_singleton]; decide
      have tm := r2times_f B mid hBl hl1
      have hlm := pcs_len_mul B mid
      have hl2 : (pcs (B * mid)).length ≤ 4000000 := by clear hmid; omega
      have od := r2order_f (B * mid) R hl2 hRl
      rw [hpm, C_one] at tm
      have hlt : (lo : Int) < (hi : Int) := by clear hmid; omega
      have e3 := dec_w (m := mid) (by clear hmid; omega) (by clear hmid; omega)
      by_cases hc : B * mid ≤ R
      · have key := ih mid hi b4 b2 h3 hc h5
        have hcmp : cmp (B * mid) R ≤ 0 := by
          unfold cmp
          by_cases h6 : B * mid < R
          · rw [if_pos h6]; decide
          · rw [if_neg h6, if_neg (Nat.not_lt.2 hc)]; decide
        refine Ev.step (f := fun k => (r_times.f k (C (pcs B)) [(mid : Int)]).bind fun t670 => ((r_order.f k t670 (C (pcs R))).bind fun t673 => (if t673 ≤ 0 then (r_divide.l1 k x0 (C (pcs B)) x6 (C (pcs R)) i (mid : Int) (hi : Int)) else (r_divide.l1 k x0 (C (pcs B)) x6 (C (pcs R)) i (lo : Int) ((mid - 1 : Nat) : Int))))) (fun k => ?_) (Ev.bind tm (Ev.bind od (Ev.pos hcmp key)))
        rw [r_divide.l1, hmid, e3, if_pos hlt]
      · have e4 : mid - 1 + 1 = mid := by clear hmid e3; omega
        have key := ih lo (mid - 1) b5 (by clear hmid e3; omega) (by clear hmid e3; omega) h4 (by rw [e4]; exact Nat.not_le.1 hc)
        have hcmp : ¬ cmp (B * mid) R ≤ 0 := by
          unfold cmp
          rw [if_neg (Nat.not_lt.2 (Nat.le_of_lt (Nat.not_le.1 hc))), if_pos (Nat.not_le.1 hc)]; decide
        refine Ev.step (f := fun k => (r_times.f k (C (pcs B)) [(mid : Int)]).bind fun t670 => ((r_order.f k t670 (C (pcs R))).bind fun t673 => (if t673 ≤ 0 then (r_divide.l1 k x0 (C (pcs B)) x6 (C (pcs R)) i (mid : Int) (hi : Int)) else (r_divide.l1 k x0 (C (pcs B)) x6 (C (pcs R)) i (lo : Int) ((mid - 1 : Nat) : Int))))) (fun k => ?_) (Ev.bind tm (Ev.bind od (Ev.neg hcmp key)))
        rw [r_divide.l1, hmid, e3, if_pos hlt]
theorem r2div_l0 (P : List Nat) (hPl : P.length ≤ 1000000) (B : Nat) (hB : 0 < B) (hBl : (pcs B).length ≤ 1000000) (hP : Ok P) : ∀ (i : Nat) (P1 P2 Q : List Nat) (R : Nat) (x : Int), P = P1 ++ P2 → P1.length = i → x = (i : Int) - 1 → Ok Q → Q.length = P2.length → val P2 = B * val Q + R → R < B →
    Ev (fun k => r_divide.l0 k (C P) (C (pcs B)) (C (List.replicate i 0 ++ Q)) (C (pcs R)) x) (C (pcs (val P / B)), C (pcs (val P % B))) := by
  intro i
  induction i with
  | zero =>
    intro P1 P2 Q R x h h1 hx hQ hQl hv hR
    obtain rfl := List.length_eq_zero_iff.1 h1
    rw [List.nil_append] at h
    subst h
    have hq : val P / B = val Q := quot_of (by omega) (by rw [hv, Nat.mul_add]; omega)
    have hr : val P % B = R := by
      have := Nat.div_add_mod (val P) B
      rw [hq] at this
      omega
    have ht := r2trim_f Q hQ ⟨by omega⟩
    rw [hq, hr, List.replicate_zero, List.nil_append]
    refine Ev.step (f := fun k => (r_trim.f k (C Q)).bind fun t654 => (some (t654, C (pcs R)))) (fun k => ?_) (Ev.bind ht (Ev.now _))
    rw [r_divide.l0, if_neg (by omega)]
  | succ i ih =>
    intro P1 P2 Q R x h h1 hx hQ hQl hv hR
    obtain ⟨P1, a, rfl, hm⟩ := concat_of_len h1
    have e0 : P1 ++ [a] ++ P2 = P1 ++ a :: P2 := by simp
    rw [e0] at h
    obtain rfl : x = (i : Int) := by omega
    have ha : a < 1000000000 := by rw [h] at hP; exact hP.right.head
    have hlen : P.length = i + (P2.length + 1) := by rw [h, List.length_append, List.length_cons, hm]
    have cP : (C P).length = P.length := C_length _
    have e1 : rd (C P) (i : Int) = a := by rw [h]; exact rd_at P1 P2 a i hm
    obtain ⟨R', hR'⟩ : ∃ R', R' = a + 1000000000 * R := ⟨_, rfl⟩
    have hRl : (pcs R).length ≤ (pcs B).length := pcs_len_mono (by omega)
    have hok : Ok (a :: pcs R) := Ok.cons ha (ok_pcs R)
    have hcl : (a :: pcs R).length ≤ 1000001 := by rw [List.length_cons]; omega
    have hvl : val (a :: pcs R) = R' := by rw [hR']; show a + 1000000000 * val (pcs R) = _; rw [val_pcs]
    have ht := r2trim_f (a :: pcs R) hok ⟨by omega⟩
    rw [hvl] at ht
    have h5 := val_lt hok
    rw [hvl] at h5
    have hR'l : (pcs R').length ≤ 1000001 := Nat.le_trans (pcs_len_le h5) hcl
    clear h5
    have hlt : R' < B * 1000000000 := by omega
    obtain ⟨q, hq⟩ : ∃ q, q = R' / B := ⟨_, rfl⟩
    have hq9 : q < 1000000000 := by rw [hq, Nat.div_lt_iff_lt_mul hB, Nat.mul_comm]; exact hlt
    have hdm := Nat.div_add_mod R' B
    rw [← hq] at hdm
    have hQ' : Ok (q :: Q) := Ok.cons hq9 hQ
    have hv' : val (a :: P2) = B * val (q :: Q) + R' % B := by
      show a + 1000000000 * val P2 = B * (q + 1000000000 * val Q) + R' % B
      rw [hv, Nat.mul_add B, Nat.mul_left_comm B]
      omega
    have key := ih P1 (a :: P2) (q :: Q) (R' % B) ((i : Int) - 1) h hm rfl hQ' (by rw [List.length_cons, List.length_cons, hQl]) hv' (Nat.mod_lt _ hB)
    have cO : (C (List.replicate i 0 ++ 0 :: Q)).length = i + (Q.length + 1) := by rw [C_length, List.length_append, List.length_replicate, List.length_cons]
    have e6 := set_at (List.replicate i 0) Q 0 q i List.length_replicate
    have ew : wrap64 ((i : Int) - 1) = (i : Int) - 1 := w64 (by omega) (by omega)
    have er : List.replicate (i + 1) 0 ++ Q = List.replicate i 0 ++ 0 :: Q := by rw [List.replicate_succ', List.append_assoc]; rfl
    have fin : Ev (fun k => r_divide.l1 k (C P) (C (pcs B)) (C (List.replicate i 0 ++ 0 :: Q)) (C (pcs R')) (i : Int) (q : Int) (q : Int)) (C (pcs (val P / B)), C (pcs (val P % B))) := by
      by_cases hq0 : 0 < q
      · have hp1 := pcs_single hq0 hq9
        have hl1 : (pcs q).length ≤ 1000000 := by rw [hp1, List.length_singleton]; decide
        have tm := r2times_f B q hBl hl1
        have mi := r2minus_f R' (B * q) (by clear ew; omega) (by clear ew; omega)
        have hmod : R' - B * q = R' % B := by clear ew; omega
        rw [hmod] at mi
        rw [hp1, C_one] at tm
        refine Ev.step (f := fun k => (some (C (List.replicate i 0 ++ q :: Q))).bind fun y674 => (if (q : Int) > 0 then ((r_times.f k (C (pcs B)) [(q : Int)]).bind fun t678 => ((r_minus.f k (C (pcs R')) t678).bind fun t681 => (r_divide.l0 k (C P) (C (pcs B)) y674 t681 ((i : Int) - 1)))) else (r_divide.l0 k (C P) (C (pcs B)) y674 (C (pcs R')) ((i : Int) - 1)))) (fun k => ?_) (Ev.bind (Ev.now _) (Ev.pos (by clear ew; omega) (Ev.bind tm (Ev.bind mi key))))
        rw [r_divide.l1, if_neg (Int.lt_irrefl _), ew, e6]
        clear ew
        rw [if_pos (by omega), if_pos (by omega)]
      · have hz : q = 0 := by clear ew; omega
        have hmod : R' = R' % B := by rw [hz, Nat.mul_zero] at hdm; clear ew; omega
        rw [← hmod] at key
        refine Ev.step (f := fun k => (some (C (List.replicate i 0 ++ q :: Q))).bind fun y674 => (if (q : Int) > 0 then ((r_times.f k (C (pcs B)) [(q : Int)]).bind fun t678 => ((r_minus.f k (C (pcs R')) t678).bind fun t681 => (r_divide.l0 k (C P) (C (pcs B)) y674 t681 ((i : Int) - 1)))) else (r_divide.l0 k (C P) (C (pcs B)) y674 (C (pcs R')) ((i : Int) - 1)))) (fun k => ?_) (Ev.bind (Ev.now _) (Ev.neg (by clear ew; omega) key))
        rw [r_divide.l1, if_neg (Int.lt_irrefl _), ew, e6]
        clear ew
        rw [if_pos (by omega), if_pos (by omega)]
    rw [hq] at fin
    have bs := r2div_l1 (C P) (C (List.replicate i 0 ++ 0 :: Q)) B R' (i : Int) hBl (by clear ew; omega) fin 999999999 0 999999999 (by decide) (by decide) (by decide) (by rw [Nat.mul_zero]; exact Nat.zero_le _) hlt
    rw [show ((0 : Nat) : Int) = 0 from rfl, show ((999999999 : Nat) : Int) = 999999999 from rfl] at bs
    rw [er]
    have hc1 : ([(a : Int)] : List Int) ++ C (pcs R) = C (a :: pcs R) := rfl
    have cR : (C (pcs R)).length = (pcs R).length := C_length _
    refine Ev.step (f := fun k => (r_trim.f k (C (a :: pcs R))).bind fun t664 => (r_divide.l1 k (C P) (C (pcs B)) (C (List.replicate i 0 ++ 0 :: Q)) t664 (i : Int) 0 999999999)) (fun k => ?_) (Ev.bind ht bs)
    rw [r_divide.l0, e1, bsome, hc1]
    clear ew
    rw [if_pos (by omega), if_pos (by omega), if_pos (by omega), if_pos (by rw [List.length_singleton]; omega)]
theorem r2divide_f (a b : Nat) (hb : 0 < b) (hal : (pcs a).length ≤ 1000000) (hbl : (pcs b).length ≤ 1000000) : Ev (fun k => r_divide.f k (C (pcs a)) (C (pcs b))) (C (pcs (a / b)), C (pcs (a % b))) := by
  have cA : (C (pcs a)).length = (pcs a).length := C_length _
  have key := r2div_l0 (pcs a) hal b hb hbl (ok_pcs a) (pcs a).length (pcs a) [] [] 0 (wrap64 (((C (pcs a)).length : Int) - 1)) (by rw [List.append_nil]) rfl (by rw [cA, w64 (by omega) (by omega)]) Ok.nil rfl rfl hb
  rw [val_pcs, List.append_nil, pcs_zero, C_nil] at key
  unfold r_divide.f
  rw [Int.toNat_natCast, C_zeros, cA] at *
  exact Ev.pos (by omega) (Ev.pos (by omega) key)
theorem dq_up (n m : Bool) (X Y : Nat) (h : ¬ n = m) (hR : X % Y ≠ 0) (hY : 0 < Y) : dq n m X Y = sgd (n != m) (X / Y) - 1 ∧ dr n m X Y = sgd n (X % Y) + sgd m Y := by
  have h2 := Nat.mod_lt X hY
  unfold dq dr
  rw [if_neg h, if_neg hR, if_neg h, if_neg hR]
  rcases n with _ | _ <;> rcases m with _ | _
  · exact absurd rfl h
  · refine ⟨?_, ?_⟩
    · show -((X / Y + 1 : Nat) : Int) = -((X / Y : Nat) : Int) - 1
      omega
    · show -((Y - X % Y : Nat) : Int) = ((X % Y : Nat) : Int) + -(Y : Int)
      omega
  · refine ⟨?_, ?_⟩
    · show -((X / Y + 1 : Nat) : Int) = -((X / Y : Nat) : Int) - 1
      omega
    · show ((Y - X % Y : Nat) : Int) = -((X % Y : Nat) : Int) + (Y : Int)
      omega
  · exact absurd rfl h
theorem dq_same (n m : Bool) (X Y : Nat) (h : n = m ∨ X % Y = 0) : dq n m X Y = sgd (n != m) (X / Y) ∧ dr n m X Y = sgd n (X % Y) := by
  unfold dq dr
  by_cases hnm : n = m
  · subst hnm
    rw [if_pos rfl, if_pos rfl]
    rcases n with _ | _ <;> exact ⟨rfl, rfl⟩
  · have h0 : X % Y = 0 := h.resolve_left hnm
    rw [if_neg hnm, if_neg hnm, if_pos h0, if_pos h0, h0]
    rcases n with _ | _ <;> rcases m with _ | _
    · exact absurd rfl hnm
    · exact ⟨rfl, rfl⟩
    · exact ⟨rfl, rfl⟩
    · exact absurd rfl hnm
theorem bne_dec (n m : Bool) : (n != m) = decide (¬ n = m) := by rcases n with _ | _ <;> rcases m with _ | _ <;> rfl
theorem r2dm_j2 (q r y : Int) (hq : Mz q) (hr : Mz r) (hy : Mz y) (c : Bool) : Ev (fun k => r_DivMod.j2 k (Z y) (Z q) (Z r) c) (if c = true then (Z (q - 1), Z (r + y)) else (Z q, Z r)) := by
  by_cases hc : c = true
  · rw [if_pos hc, hc]
    have e1 : (⟨#[49]⟩ : ByteArray) = Z 1 := by rw [one_str]; exact (Z_nat 1).symm
    have su := r2sub_f q 1 hq ⟨by show Lib.nDigits 1 ≤ 1000000; rw [Lib.nDigits_small (u := 1) (by decide)]; decide⟩
    have ad := r2add_f r y hr hy
    refine Ev.step (f := fun k => (r_Sub.f k (Z q) (Z 1)).bind fun t713 => ((r_Add.f k (Z r) (Z y)).bind fun t714 => (some (t713, t714)))) (fun k => ?_) (Ev.bind su (Ev.bind ad (Ev.now _)))
    rw [r_DivMod.j2, if_pos rfl, e1]
  · rw [if_neg hc]
    have hf : c = false := by simpa using hc
    rw [hf]
    refine Ev.step (f := fun _ => some (Z q, Z r)) (fun k => ?_) (Ev.now _)
    rw [r_DivMod.j2, if_neg (by decide)]
theorem r2dm_long (x y : Int) (hx : Mz x) (hy : Mz y) (hy0 : y ≠ 0) (u v : Int) : Ev (fun k => r_DivMod.j0 k (Z x) (Z y) u v false) (Z (x.fdiv y), Z (x.fmod y)) := by
  have dx := digits_Z x
  have dy := digits_Z y
  have sx := side_f x
  have sy := side_f y
  have mx : Md x.natAbs := hx
  have my : Md y.natAbs := hy
  have sp1 := r2split_f x.natAbs mx
  have sp2 := r2split_f y.natAbs my
  have l1 := mx.pcs
  have l2 := my.pcs
  have hYp : 0 < y.natAbs := by omega
  have dv := r2divide_f x.natAbs y.natAbs hYp l1 l2
  have hqle : x.natAbs / y.natAbs ≤ x.natAbs := Nat.div_le_self _ _
  have hrle : x.natAbs % y.natAbs ≤ x.natAbs := Nat.mod_le _ _
  have s1 := r2signed_f (decide (x < 0) != decide (y < 0)) (pcs (x.natAbs / y.natAbs)) (ok_pcs _) (Nat.le_trans (pcs_len_mono hqle) (by omega))
  have s2 := r2signed_f (decide (x < 0)) (pcs (x.natAbs % y.natAbs)) (ok_pcs _) (Nat.le_trans (pcs_len_mono hrle) (by omega))
  rw [val_pcs, ← side_ne] at s1
  rw [val_pcs, ← side_lt x] at s2
  have mq : Mz (sgd ((if x < 0 then -1 else 1 : Int) != (if y < 0 then -1 else 1 : Int)) (x.natAbs / y.natAbs)) := by unfold Mz; rw [sgd_abs2]; exact ⟨Nat.le_trans (nDig_mono hqle) mx.out⟩
  have mr : Mz (sgd (decide ((if x < 0 then -1 else 1 : Int) < 0)) (x.natAbs % y.natAbs)) := by unfold Mz; rw [sgd_abs2]; exact ⟨Nat.le_trans (nDig_mono hrle) mx.out⟩
  have j2 := r2dm_j2 _ _ y mq mr hy
  obtain ⟨d1, d2⟩ := dm_int x y hy0
  have hys := sgd_self y
  refine Ev.step (f := fun k => (r_digits.f (Z x)).bind fun t692 => ((r_split.f k t692).bind fun t693 => ((r_digits.f (Z y)).bind fun t696 => ((r_split.f k t696).bind fun t697 => ((r_divide.f k t693 t697).bind fun bt700 => ((r_side.f (Z x)).bind fun t706 => ((r_side.f (Z y)).bind fun t707 => ((r_signed.f k (t706 != t707) bt700.1).bind fun t708 => ((r_side.f (Z x)).bind fun t709 => ((r_signed.f k (decide (t709 < 0)) bt700.2).bind fun t710 => (if t710.toList = ([48] : List UInt8) then (r_DivMod.j2 k (Z y) t708 t710 false) else ((r_side.f (Z x)).bind fun t711 => ((r_side.f (Z y)).bind fun t712 => (r_DivMod.j2 k (Z y) t708 t710 (t711 != t712))))))))))))))) (fun k => by rw [r_DivMod.j0, if_neg (by decide)]) ?_
  rw [dx, dy, sx, sy]
  refine Ev.bind (Ev.now (S x.natAbs)) (Ev.bind sp1 (Ev.bind (Ev.now (S y.natAbs)) (Ev.bind sp2 (Ev.bind dv (Ev.bind (Ev.now _) (Ev.bind (Ev.now _) (Ev.bind s1 (Ev.bind (Ev.now _) (Ev.bind s2 ?_)))))))))
  have hz : ∀ b : Bool, sgd b (x.natAbs % y.natAbs) = 0 ↔ x.natAbs % y.natAbs = 0 := fun b => by
    unfold sgd
    rcases b with _ | _
    · rw [if_neg (by decide)]; omega
    · rw [if_pos rfl]; omega
  by_cases h0 : x.natAbs % y.natAbs = 0
  · refine Ev.pos ((Z_is0 _).2 ((hz _).2 h0)) (Ev.eq (j2 false) ?_)
    obtain ⟨a1, a2⟩ := dq_same (decide (x < 0)) (decide (y < 0)) x.natAbs y.natAbs (Or.inr h0)
    rw [if_neg (by decide), side_ne, side_lt, d1, d2, a1, a2]
  · refine Ev.neg (fun e => h0 ((hz _).1 ((Z_is0 _).1 e))) (Ev.bind (Ev.now _) (Ev.bind (Ev.now _) (Ev.eq (j2 _) ?_)))
    rw [side_ne, side_lt, bne_dec]
    by_cases hnm : decide (x < 0) = decide (y < 0)
    · obtain ⟨a1, a2⟩ := dq_same (decide (x < 0)) (decide (y < 0)) x.natAbs y.natAbs (Or.inl hnm)
      rw [bne_dec] at a1
      rw [if_neg (by rw [decide_eq_false (fun h => h hnm)]; decide), d1, d2, a1, a2]
    · obtain ⟨a1, a2⟩ := dq_up (decide (x < 0)) (decide (y < 0)) x.natAbs y.natAbs hnm h0 hYp
      rw [hys] at a2
      rw [bne_dec] at a1
      rw [if_pos (decide_eq_true hnm), d1, d2, a1, a2]
theorem r2dm_j1 (y q r : Int) (hq : -2000000000000000000 ≤ q ∧ q ≤ 2000000000000000000) (hr : -2000000000000000000 ≤ r ∧ r ≤ 2000000000000000000) (hy : -2000000000000000000 ≤ y ∧ y ≤ 2000000000000000000) (c : Bool) :
    Ev (fun k => r_DivMod.j1 k y q r c) (if c = true then (Z (q - 1), Z (r + y)) else (Z q, Z r)) := by
  have o1 := r2of_f q (by omega) (by omega)
  have o2 := r2of_f r (by omega) (by omega)
  have o3 := r2of_f (q - 1) (by omega) (by omega)
  have o4 := r2of_f (r + y) (by omega) (by omega)
  have e1 : wrap64 (q - 1) = q - 1 := w64 (by omega) (by omega)
  have e2 : wrap64 (r + y) = r + y := w64 (by omega) (by omega)
  by_cases hc : c = true
  · rw [if_pos hc, hc]
    refine Ev.step (f := fun _ => some (Z (q - 1), Z (r + y))) (fun k => ?_) (Ev.now _)
    rw [r_DivMod.j1, if_pos rfl, e1, e2, o3, bsome, o4, bsome]
  · rw [if_neg hc]
    have hf : c = false := by simpa using hc
    rw [hf]
    refine Ev.step (f := fun _ => some (Z q, Z r)) (fun k => ?_) (Ev.now _)
    rw [r_DivMod.j1, if_neg (by decide), o1, bsome, o2, bsome]
theorem r2dm_quick (x y : Int) (hx : x.natAbs < 1000000000000000000) (hy : y.natAbs < 1000000000000000000) (hy0 : y ≠ 0) (s t : ByteArray) : Ev (fun k => r_DivMod.j0 k s t x y true) (Z (x.fdiv y), Z (x.fmod y)) := by
  obtain ⟨d1, d2⟩ := dm_int x y hy0
  obtain ⟨t1, t2⟩ := tdm x y
  have hYp : 0 < y.natAbs := by omega
  have hQ : x.natAbs / y.natAbs ≤ x.natAbs := Nat.div_le_self _ _
  have hR := Nat.mod_lt x.natAbs hYp
  have hys := sgd_self y
  have bnd : ∀ (b : Bool) (U : Nat), U < 1000000000000000000 → -2000000000000000000 ≤ sgd b U ∧ sgd b U ≤ 2000000000000000000 := fun b U hU => by
    unfold sgd
    rcases b with _ | _
    · rw [if_neg (by decide)]; omega
    · rw [if_pos rfl]; omega
  have j1 := r2dm_j1 y (sgd (decide (x < 0) != decide (y < 0)) (x.natAbs / y.natAbs)) (sgd (decide (x < 0)) (x.natAbs % y.natAbs)) (bnd _ _ (by omega)) (bnd _ _ (by omega)) (by omega)
  have hw : wrap64 (x.tdiv y) = sgd (decide (x < 0) != decide (y < 0)) (x.natAbs / y.natAbs) := by
    rw [t1]
    have := bnd (decide (x < 0) != decide (y < 0)) (x.natAbs / y.natAbs) (by omega)
    exact w64 (by omega) (by omega)
  by_cases h0 : x.natAbs % y.natAbs = 0
  · obtain ⟨a1, a2⟩ := dq_same (decide (x < 0)) (decide (y < 0)) x.natAbs y.natAbs (Or.inr h0)
    have hz : Int.tmod x y = 0 := by rw [t2, h0]; unfold sgd; rcases decide (x < 0) with _ | _ <;> rfl
    refine Ev.step (fun k => ?_) (Ev.eq (j1 false) (by rw [if_neg (by decide), d1, d2, a1, a2]))
    rw [r_DivMod.j0, if_pos rfl, if_neg hy0, if_pos hz, hw, t2]
  · have hz : ¬ Int.tmod x y = 0 := by
      rw [t2]
      unfold sgd
      rcases decide (x < 0) with _ | _
      · rw [if_neg (by decide)]; omega
      · rw [if_pos rfl]; omega
    have hs : decide (sgd (decide (x < 0)) (x.natAbs % y.natAbs) < 0) = decide (x < 0) := by
      unfold sgd
      generalize x.natAbs % y.natAbs = R at h0
      rcases e : decide (x < 0) with _ | _
      · rw [if_neg (by decide)]; exact decide_eq_false (by omega)
      · rw [if_pos rfl]; exact decide_eq_true (by omega)
    refine Ev.step (fun k => ?_) (Ev.eq (j1 (decide (x < 0) != decide (y < 0))) ?_)
    · rw [r_DivMod.j0, if_pos rfl, if_neg hy0, if_neg hz, hw, t2, hs]
    · by_cases hnm : decide (x < 0) = decide (y < 0)
      · obtain ⟨a1, a2⟩ := dq_same (decide (x < 0)) (decide (y < 0)) x.natAbs y.natAbs (Or.inl hnm)
        rw [if_neg (by rw [bne_dec, decide_eq_false (fun h => h hnm)]; decide), d1, d2, a1, a2]
      · obtain ⟨a1, a2⟩ := dq_up (decide (x < 0)) (decide (y < 0)) x.natAbs y.natAbs hnm h0 hYp
        rw [hys] at a2
        rw [if_pos (by rw [bne_dec]; exact decide_eq_true hnm), d1, d2, a1, a2]
theorem r2divmod_f (x y : Int) (hx : Mz x) (hy : Mz y) (hy0 : y ≠ 0) : Ev (fun k => r_DivMod.f k (Z x) (Z y)) (Z (x.fdiv y), Z (x.fmod y)) := by
  have q1 := r2quick_f x
  have q2 := r2quick_f y
  have lo := r2dm_long x y hx hy hy0
  unfold r_DivMod.f
  by_cases h1 : Lib.nDigits x.natAbs ≤ 18
  · rw [if_pos h1] at q1
    by_cases h2 : Lib.nDigits y.natAbs ≤ 18
    · rw [if_pos h2] at q2
      have b1 := nDig_lt h1
      have b2 := nDig_lt h2
      have h3 : (10 : Nat) ^ 18 = 1000000000000000000 := by decide
      rw [h3] at b1 b2
      exact Ev.bind q1 (Ev.bind q2 (Ev.pos rfl (r2dm_quick x y b1 b2 hy0 _ _)))
    · rw [if_neg h2] at q2
      exact Ev.bind q1 (Ev.bind q2 (Ev.pos rfl (lo _ _)))
  · rw [if_neg h1] at q1
    exact Ev.bind q1 (Ev.bind q2 (Ev.neg (by decide) (lo _ _)))
end Go.Proofs.YtgicckcahhlbjaaGreatDoor.P

namespace Go.Proofs.YtgicckcahhlbjaaGreatDoor.P
open Go.RowKit Go.Proofs.YtgicckcahhlbjaaGreatDoorW.PrintWords
theorem sgd_zero (n : Bool) : sgd n 0 = 0 := by
  unfold sgd
  by_cases h : n = true
  · rw [if_pos h]; rfl
  · rw [if_neg h]; rfl
theorem sgd_lt {n : Bool} {u : Nat} (h : u ≠ 0) : decide (sgd n u < 0) = n := by
  unfold sgd
  rcases n with _ | _
  · rw [if_neg (by decide)]; exact decide_eq_false (by omega)
  · rw [if_pos rfl]; exact decide_eq_true (by omega)
theorem dm_sgd (n : Bool) (R T : Nat) (hR : R ≠ 0) (hT : T ≠ 0) : (sgd n R).fdiv (sgd n T) = ((R / T : Nat) : Int) ∧ (sgd n R).fmod (sgd n T) = sgd n (R % T) := by
  have hT0 : sgd n T ≠ 0 := by
    intro e
    have := congrArg Int.natAbs e
    rw [sgd_abs2] at this
    exact hT (by simpa using this)
  obtain ⟨h1, h2⟩ := dm_int (sgd n R) (sgd n T) hT0
  rw [sgd_lt hR, sgd_lt hT, sgd_abs2, sgd_abs2] at h1 h2
  unfold dq at h1
  unfold dr at h2
  rw [if_pos rfl] at h1 h2
  exact ⟨h1, h2⟩
theorem bz_next (a b : Int) (n : Bool) (R T : Nat) (u w : Int) (hu : ∃ v, sgd n R = a * u + b * v) (hw : ∃ v, sgd n T = a * w + b * v) : ∃ v, sgd n (R % T) = a * (u - ((R / T : Nat) : Int) * w) + b * v := by
  obtain ⟨v1, h1⟩ := hu
  obtain ⟨v2, h2⟩ := hw
  refine ⟨v1 - ((R / T : Nat) : Int) * v2, ?_⟩
  have h3 : sgd n R = sgd n (R % T) + ((R / T : Nat) : Int) * sgd n T := by
    have h4 := Nat.div_add_mod R T
    have h5 : ((R / T : Nat) : Int) * (T : Int) = ((T * (R / T) : Nat) : Int) := by rw [← Int.natCast_mul, Nat.mul_comm]
    unfold sgd
    rcases n with _ | _
    · simp only [Bool.false_eq_true, if_false, h5]; omega
    · simp only [if_true, Int.mul_neg, h5]; omega
  have h6 : sgd n (R % T) = (a * u + b * v1) - ((R / T : Nat) : Int) * (a * w + b * v2) := by rw [← h1, ← h2, h3]; omega
  rw [h6, Int.mul_add, Int.mul_sub, Int.mul_sub, Int.mul_left_comm _ a w, Int.mul_left_comm _ b v2]
  omega
theorem bz_half {R T m : Nat} (hT : T ≠ 0) (hlt : T < R) (h : R * T < 2 ^ (m + 1)) : T * (R % T) < 2 ^ m := by
  have h1 := Nat.div_add_mod R T
  have h2 := Nat.mod_lt R (Nat.pos_of_ne_zero hT)
  have h3 : 1 ≤ R / T := Nat.div_pos (Nat.le_of_lt hlt) (Nat.pos_of_ne_zero hT)
  have h4 : T * 1 ≤ T * (R / T) := Nat.mul_le_mul_left _ h3
  have h5 : 2 * (R % T) ≤ R := by omega
  have h6 : 2 * (R % T) * T ≤ R * T := Nat.mul_le_mul_right _ h5
  rw [Nat.mul_assoc, Nat.mul_comm (R % T)] at h6
  rw [Nat.pow_succ] at h
  omega
theorem bz_mod (a b g u : Int) (hg : 0 < g) (hb : b ≠ 0) (hga : g ∣ a) (hgb : g ∣ b) (hu : ∃ v, g = a * u + b * v) : a * u.fmod ((b.natAbs : Int).fdiv g) + b * (g - a * u.fmod ((b.natAbs : Int).fdiv g)).fdiv b = g := by
  obtain ⟨v, hv⟩ := hu
  obtain ⟨a', ha⟩ := hga
  obtain ⟨b', hb'⟩ := hgb
  obtain ⟨c, hc⟩ : ∃ c : Int, (b.natAbs : Int) = g * c ∧ (c = b' ∨ c = -b') := by
    rcases Int.natAbs_eq b with h | h
    · exact ⟨b', by rw [← h]; exact hb', Or.inl rfl⟩
    · refine ⟨-b', ?_, Or.inr rfl⟩
      rw [Int.mul_neg, ← hb']; omega
  have hdiv : (b.natAbs : Int).fdiv g = c := by
    rw [hc.1]
    exact Int.mul_fdiv_cancel_left c (by omega)
  rw [hdiv]
  have hx := Int.fmod_add_mul_fdiv u c
  have hdvd : b ∣ g - a * u.fmod c := by
    have h1 : g - a * u.fmod c = b * v + a * (c * u.fdiv c) := by
      have h2 : u.fmod c = u - c * u.fdiv c := by omega
      rw [h2, Int.mul_sub]
      omega
    rw [h1]
    refine Int.dvd_add (Int.dvd_mul_right b v) ?_
    have h3 : a * (c * u.fdiv c) = g * c * (a' * u.fdiv c) := by
      rw [ha]
      simp only [Int.mul_assoc, Int.mul_left_comm, Int.mul_comm]
    rw [h3, ← hc.1]
    have h4 : b ∣ (b.natAbs : Int) := Int.dvd_natAbs_self
    exact Int.dvd_trans h4 (Int.dvd_mul_right _ _)
  obtain ⟨e, he⟩ := hdvd
  rw [he, Int.mul_fdiv_cancel_left e hb]
  omega
end Go.Proofs.YtgicckcahhlbjaaGreatDoor.P

namespace Go.Proofs.YtgicckcahhlbjaaGreatDoor.P
open Go.RowKit Go.Proofs.YtgicckcahhlbjaaGreatDoorW.PrintWords
theorem Fz.le {v : Int} {n m : Nat} (h : Fz v n) (hm : n ≤ m) : Fz v m := ⟨Nat.le_trans h.out hm⟩
theorem Fz.abs_le {a b : Int} {n : Nat} (h : Fz b n) (hab : a.natAbs ≤ b.natAbs) : Fz a n := ⟨Nat.le_trans (nDig_mono hab) h.out⟩
theorem Fz.sub {a b : Int} {n m : Nat} (ha : Fz a n) (hb : Fz b m) : Fz (a - b) (n + m) := by
  have := ha.add (b := -b) (m := m) ⟨by rw [Int.natAbs_neg]; exact hb.out⟩
  rwa [← Int.sub_eq_add_neg] at this
theorem fdiv_le (x y : Int) (hy : y ≠ 0) : (x.fdiv y).natAbs ≤ x.natAbs + 1 := by
  obtain ⟨h1, _⟩ := dm_int x y hy
  have h2 : x.natAbs / y.natAbs ≤ x.natAbs := Nat.div_le_self _ _
  rw [h1]
  unfold dq
  generalize x.natAbs / y.natAbs = Q at h2
  by_cases h3 : decide (x < 0) = decide (y < 0)
  · rw [if_pos h3]; omega
  · rw [if_neg h3]
    by_cases h4 : x.natAbs % y.natAbs = 0
    · rw [if_pos h4]; omega
    · rw [if_neg h4]; omega
theorem fmod_lt (x y : Int) (hy : y ≠ 0) : (x.fmod y).natAbs < y.natAbs ∧ x.fmod y = sgd (decide (y < 0)) (x.fmod y).natAbs ∧ x.fmod y + y * x.fdiv y = x := by
  obtain ⟨h1, h2⟩ := dm_int x y hy
  obtain ⟨a1, a2, a3⟩ := dm_nat (decide (x < 0)) (decide (y < 0)) x.natAbs y.natAbs (by omega)
  rw [sgd_self, sgd_self, ← h1, ← h2] at a1
  rw [← h2] at a2 a3
  refine ⟨?_, ?_, a1⟩
  · by_cases hn : y < 0
    · have := a3 (decide_eq_true hn); omega
    · have := a2 (decide_eq_false hn); omega
  · unfold sgd
    by_cases hn : y < 0
    · have := a3 (decide_eq_true hn)
      rw [decide_eq_true hn, if_pos rfl]; omega
    · have := a2 (decide_eq_false hn)
      rw [decide_eq_false hn, if_neg (by decide)]; omega
theorem dvd_abs (d : Nat) (a : Int) : (d : Int) ∣ a ↔ d ∣ a.natAbs :=
  ⟨fun h => Int.natCast_dvd_natCast.1 (Int.dvd_natAbs.2 h), fun h => Int.dvd_natAbs.1 (Int.natCast_dvd_natCast.2 h)⟩
theorem gcd_fmod (a b : Int) (hb : b ≠ 0) : Nat.gcd b.natAbs (a.fmod b).natAbs = Nat.gcd a.natAbs b.natAbs := by
  obtain ⟨_, _, h3⟩ := fmod_lt a b hb
  have key : ∀ d : Nat, d ∣ b.natAbs → (d ∣ (a.fmod b).natAbs ↔ d ∣ a.natAbs) := fun d hd => by
    have hd2 : (d : Int) ∣ b := (dvd_abs _ _).2 hd
    have hd3 : (d : Int) ∣ b * a.fdiv b := Int.dvd_trans hd2 (Int.dvd_mul_right _ _)
    constructor
    · intro h
      have h4 : (d : Int) ∣ a.fmod b := (dvd_abs _ _).2 h
      have h5 := Int.dvd_add h4 hd3
      rw [h3] at h5
      exact (dvd_abs _ _).1 h5
    · intro h
      have h4 : (d : Int) ∣ a := (dvd_abs _ _).2 h
      have h5 := Int.dvd_sub h4 hd3
      have h6 : a - b * a.fdiv b = a.fmod b := by omega
      rw [h6] at h5
      exact (dvd_abs _ _).1 h5
  apply Nat.dvd_antisymm
  · exact Nat.dvd_gcd ((key _ (Nat.gcd_dvd_left _ _)).1 (Nat.gcd_dvd_right _ _)) (Nat.gcd_dvd_left _ _)
  · exact Nat.dvd_gcd (Nat.gcd_dvd_right _ _) ((key _ (Nat.gcd_dvd_right _ _)).2 (Nat.gcd_dvd_left _ _))
end Go.Proofs.YtgicckcahhlbjaaGreatDoor.P

namespace Go.Proofs.YtgicckcahhlbjaaGreatDoor.P
open Go.RowKit Go.Proofs.YtgicckcahhlbjaaGreatDoorW.PrintWords
theorem fdm_nat (a b : Nat) (hb : b ≠ 0) : ((a : Int).fdiv (b : Int) = ((a / b : Nat) : Int)) ∧ ((a : Int).fmod (b : Int) = ((a % b : Nat) : Int)) := by
  obtain ⟨h1, h2⟩ := dm_int (a : Int) (b : Int) (by omega)
  rw [decide_eq_false (by omega), decide_eq_false (by omega), Int.natAbs_natCast, Int.natAbs_natCast] at h1 h2
  exact ⟨h1, h2⟩
theorem r2gcd_l0 (m : Nat) : ∀ (a b : Nat), b ≤ m → Md a → Md b → Ev (fun k => r_Gcd.l0 k (S a) (S b)) (S (Nat.gcd a b)) := by
  have stop : ∀ a, Ev (fun k => r_Gcd.l0 k (S a) (S 0)) (S (Nat.gcd a 0)) := fun a => by
    rw [Nat.gcd_zero_right]
    refine Ev.step (f := fun _ => some (S a)) (fun k => ?_) (Ev.now _)
    rw [r_Gcd.l0, if_pos ((S_is0 0).2 rfl)]
  induction m with
  | zero =>
    intro a b hm _ _
    obtain rfl : b = 0 := by omega
    exact stop a
  | succ m ih =>
    intro a b hm ha hb
    by_cases h0 : b = 0
    · subst h0
      exact stop a
    · have h1 : a % b < b := Nat.mod_lt _ (Nat.pos_of_ne_zero h0)
      have ih := ih b (a % b) (by omega) hb ⟨Nat.le_trans (nDig_mono (Nat.mod_le _ _)) ha.out⟩
      rw [gcd_next] at ih
      have dm := r2divmod_f (a : Int) (b : Int) (Mz.nat ha) (Mz.nat hb) (by omega)
      rw [(fdm_nat a b h0).1, (fdm_nat a b h0).2, Z_nat, Z_nat, Z_nat, Z_nat] at dm
      refine Ev.step (f := fun k => (r_DivMod.f k (S a) (S b)).bind fun bt756 => (r_Gcd.l0 k (S b) bt756.2)) (fun k => ?_) (Ev.bind dm ih)
      rw [r_Gcd.l0, if_neg (fun e => h0 ((S_is0 b).1 e))]
theorem r2gcd_f (x y : Int) (hx : Mz x) (hy : Mz y) : Ev (fun k => r_Gcd.f k (Z x) (Z y)) (S (Nat.gcd x.natAbs y.natAbs)) := by
  have key := r2gcd_l0 y.natAbs x.natAbs y.natAbs (Nat.le_refl _) hx hy
  unfold r_Gcd.f
  rw [r2abs_f, r2abs_f]
  exact Ev.bind (Ev.now (S x.natAbs)) (Ev.bind (Ev.now (S y.natAbs)) key)
theorem r2lcm_f (x y : Int) (hx : Mz x) (hy : Mz y) : Ev (fun k => r_Lcm.f k (Z x) (Z y)) (S (if x = 0 ∨ y = 0 then 0 else x.natAbs / Nat.gcd x.natAbs y.natAbs * y.natAbs)) := by
  have stop : Ev (fun k => r_Lcm.j0 k (Z x) (Z y) true) (S 0) := by
    refine Ev.step (f := fun _ => some (S 0)) (fun k => ?_) (Ev.now _)
    rw [r_Lcm.j0, if_pos rfl, zero_str]
  have hbe : ((Z y).toList == ([48] : List UInt8)) = decide (y = 0) := by
    rw [Bool.eq_iff_iff, beq_iff_eq, decide_eq_true_iff]
    exact Z_is0 y
  unfold r_Lcm.f
  rw [hbe]
  by_cases h0 : x = 0
  · rw [if_pos (Or.inl h0)]
    exact Ev.pos ((Z_is0 x).2 h0) stop
  · refine Ev.neg (fun e => h0 ((Z_is0 x).1 e)) ?_
    by_cases h1 : y = 0
    · rw [if_pos (Or.inr h1), decide_eq_true h1]
      exact stop
    · rw [if_neg (fun e => e.elim h0 h1), decide_eq_false h1]
      have mx : Md x.natAbs := hx
      have my : Md y.natAbs := hy
      have hgd := r2gcd_f x y hx hy
      have hg0 : Nat.gcd x.natAbs y.natAbs ≠ 0 := fun e => h0 (Int.natAbs_eq_zero.1 (Nat.eq_zero_of_gcd_eq_zero_left e))
      have hg : Md (Nat.gcd x.natAbs y.natAbs) := ⟨Nat.le_trans (nDig_mono (Nat.gcd_le_left _ (by omega))) mx.out⟩
      have hq : Md (x.natAbs / Nat.gcd x.natAbs y.natAbs) := ⟨Nat.le_trans (nDig_mono (Nat.div_le_self _ _)) mx.out⟩
      have dm := r2divmod_f (x.natAbs : Int) ((Nat.gcd x.natAbs y.natAbs : Nat) : Int) (Mz.nat mx) (Mz.nat hg) (by omega)
      rw [(fdm_nat _ _ hg0).1, (fdm_nat _ _ hg0).2] at dm
      have mu := r2mul_f ((x.natAbs / Nat.gcd x.natAbs y.natAbs : Nat) : Int) (y.natAbs : Int) (Mz.nat hq) (Mz.nat my)
      rw [← Int.natCast_mul] at mu
      generalize Nat.gcd x.natAbs y.natAbs = g at *
      rw [Z_nat, Z_nat, Z_nat, Z_nat] at dm
      rw [Z_nat, Z_nat, Z_nat] at mu
      refine Ev.step (f := fun k => (r_Abs.f (Z x)).bind fun t758 => ((r_Gcd.f k (Z x) (Z y)).bind fun t759 => ((r_DivMod.f k t758 t759).bind fun bt760 => ((r_Abs.f (Z y)).bind fun t762 => ((r_Mul.f k bt760.1 t762).bind fun t763 => (some t763)))))) (fun k => by rw [r_Lcm.j0, if_neg (by decide)]) ?_
      rw [r2abs_f, r2abs_f]
      exact Ev.bind (Ev.now (S x.natAbs)) (Ev.bind hgd (Ev.bind dm (Ev.bind (Ev.now (S y.natAbs)) (Ev.bind mu (Ev.now _)))))
theorem bz2_l0 (a b : Int) (n : Bool) : ∀ (m R T D : Nat) (u w : Int), T < R → R * T < 2 ^ m → Lib.nDigits R ≤ 100 → Fz u D → Fz w D → D + 200 * m ≤ 400000 → (∃ v, sgd n R = a * u + b * v) → (∃ v, sgd n T = a * w + b * v) →
    ∃ u' w' : Int, (∃ v, sgd n (Nat.gcd R T) = a * u' + b * v) ∧ Fz u' 400000 ∧ (∀ r0, Ev (fun k => z_Bezout.l0 k (Z a) (Z b) (Z (sgd n (Nat.gcd R T))) (Z 0) (Z u') (Z w')) r0 → Ev (fun k => z_Bezout.l0 k (Z a) (Z b) (Z (sgd n R)) (Z (sgd n T)) (Z u) (Z w)) r0) ∧ (∀ r0, Ev (fun k => r_Bezout.l0 k (Z a) (Z b) (Z (sgd n (Nat.gcd R T))) (Z 0) (Z u') (Z w')) r0 → Ev (fun k => r_Bezout.l0 k (Z a) (Z b) (Z (sgd n R)) (Z (sgd n T)) (Z u) (Z w)) r0)
  | 0, R, T, D, u, w, hlt, hm, _, fu, _, hD, hu, _ => by
    have hT : T = 0 := by
      rcases Nat.eq_zero_or_pos T with h1 | h1
      · exact h1
      · have : 1 * 1 ≤ R * T := Nat.mul_le_mul (by omega) h1
        rw [Nat.pow_zero] at hm
        omega
    subst hT
    rw [Nat.gcd_zero_right, sgd_zero]
    exact ⟨u, w, hu, ⟨by have := fu.out; omega⟩, fun _ h => h, fun _ h => h⟩
  | m + 1, R, T, D, u, w, hlt, hm, hR, fu, fw, hD, hu, hw => by
    by_cases hT : T = 0
    · subst hT
      rw [Nat.gcd_zero_right, sgd_zero]
      exact ⟨u, w, hu, ⟨by have := fu.out; omega⟩, fun _ h => h, fun _ h => h⟩
    · have hR0 : R ≠ 0 := by omega
      obtain ⟨d1, d2⟩ := dm_sgd n R T hR0 hT
      have hdiv := Nat.div_le_self R T
      have fq : Fz ((R / T : Nat) : Int) 100 := ⟨by rw [Int.natAbs_natCast]; exact Nat.le_trans (nDig_mono hdiv) hR⟩
      have fqw := fq.mul fw
      have fnew : Fz (u - ((R / T : Nat) : Int) * w) (D + 200) := ⟨by
        have h1 := nDig_mono (show (u - ((R / T : Nat) : Int) * w).natAbs ≤ u.natAbs + (((R / T : Nat) : Int) * w).natAbs by omega)
        have h2 : u.natAbs + (((R / T : Nat) : Int) * w).natAbs < 10 ^ (D + 200) := by
          have h3 : u.natAbs < 10 ^ (D + 100) := Nat.lt_of_lt_of_le (nDig_lt fu.out) (Nat.pow_le_pow_right (by decide) (by omega))
          have h4 : (((R / T : Nat) : Int) * w).natAbs < 10 ^ (D + 100) := Nat.lt_of_lt_of_le (nDig_lt fqw.out) (Nat.pow_le_pow_right (by decide) (by omega))
          have h5 : 2 * 10 ^ (D + 100) ≤ 10 ^ (D + 200) := by
            rw [show D + 200 = (D + 100) + 100 by omega, Nat.pow_add 10 (D + 100) 100, Nat.mul_comm]
            exact Nat.mul_le_mul_left _ (by decide)
          omega
        exact Nat.le_trans h1 (nDig_le (by omega) h2)⟩
      have mR : Mz (sgd n R) := by unfold Mz; rw [sgd_abs2]; exact ⟨by omega⟩
      have mT : Mz (sgd n T) := by unfold Mz; rw [sgd_abs2]; exact ⟨Nat.le_trans (nDig_mono (Nat.le_of_lt hlt)) (by omega)⟩
      have hT0 : sgd n T ≠ 0 := by
        intro e
        have := congrArg Int.natAbs e
        rw [sgd_abs2] at this
        exact hT (by simpa using this)
      have dm := zdivmod_f (sgd n R) (sgd n T) mR mT hT0
      have dm2 := r2divmod_f (sgd n R) (sgd n T) mR mT hT0
      rw [d1, d2] at dm dm2
      have mu := zmul_f ((R / T : Nat) : Int) w (fq.mz (by decide)) (fw.mz (by omega))
      have su := zsub_f u (((R / T : Nat) : Int) * w) (fu.mz (by omega)) (fqw.mz (by omega))
      have mu2 := r2mul_f ((R / T : Nat) : Int) w (fq.mz (by decide)) (fw.mz (by omega))
      have su2 := r2sub_f u (((R / T : Nat) : Int) * w) (fu.mz (by omega)) (fqw.mz (by omega))
      have hg : Nat.gcd T (R % T) = Nat.gcd R T := gcd_next R T
      obtain ⟨u', w', i1, i2, i3, i4⟩ := bz2_l0 a b n m T (R % T) (D + 200) w (u - ((R / T : Nat) : Int) * w) (Nat.mod_lt _ (Nat.pos_of_ne_zero hT)) (bz_half hT hlt hm) (Nat.le_trans (nDig_mono (Nat.le_of_lt hlt)) hR) ⟨by have := fw.out; omega⟩ fnew (by omega) hw (bz_next a b n R T u w hu hw)
      rw [hg] at i1 i3 i4
      refine ⟨u', w', i1, i2, fun r0 h => ?_, fun r0 h => ?_⟩
      · refine Ev.step (f := fun k => (z_DivMod.f k (Z (sgd n R)) (Z (sgd n T))).bind fun bt387 => ((z_Mul.f k bt387.1 (Z w)).bind fun t390 => ((z_Sub.f k (Z u) t390).bind fun t391 => (z_Bezout.l0 k (Z a) (Z b) (Z (sgd n T)) bt387.2.1 (Z w) t391)))) (fun k => ?_) (Ev.bind dm (Ev.bind mu (Ev.bind su (i3 r0 h))))
        rw [z_Bezout.l0, if_neg (fun e => hT0 ((Z_is0 _).1 e))]
      · refine Ev.step (f := fun k => (r_DivMod.f k (Z (sgd n R)) (Z (sgd n T))).bind fun bt387 => ((r_Mul.f k bt387.1 (Z w)).bind fun t390 => ((r_Sub.f k (Z u) t390).bind fun t391 => (r_Bezout.l0 k (Z a) (Z b) (Z (sgd n T)) bt387.2 (Z w) t391)))) (fun k => ?_) (Ev.bind dm2 (Ev.bind mu2 (Ev.bind su2 (i4 r0 h))))
        rw [r_Bezout.l0, if_neg (fun e => hT0 ((Z_is0 _).1 e))]
theorem bz2_j1 (a b : Int) (g : Nat) (u : Int) (fa : Fz a 40) (fb : Fz b 40) (hg : 0 < g) (hb : b ≠ 0) (hga : (g : Int) ∣ a) (hgb : (g : Int) ∣ b) (hu : ∃ v, (g : Int) = a * u + b * v) (fu : Fz u 400000) :
    ∃ x y : Int, Fz x 40 ∧ Fz y 200 ∧ a * x + b * y = g ∧ Ev (fun k => z_Bezout.j1 k (Z a) (Z b) (Z (g : Int)) (Z u)) (Z (g : Int), Z x, Z y) ∧ Ev (fun k => r_Bezout.j1 k (Z a) (Z b) (Z (g : Int)) (Z u)) (Z (g : Int), Z x, Z y) := by
  have key := bz_mod a b g u (by omega) hb hga hgb hu
  have hgle : g ≤ b.natAbs := Nat.le_of_dvd (by omega) ((dvd_abs _ _).1 hgb)
  have fg : Fz (g : Int) 40 := fb.abs_le (by rw [Int.natAbs_natCast]; exact hgle)
  have fab : Fz (b.natAbs : Int) 40 := fb.abs_le (by rw [Int.natAbs_natCast]; exact Nat.le_refl _)
  have hdiv : (b.natAbs : Int).fdiv (g : Int) = ((b.natAbs / g : Nat) : Int) := by
    have := (dm_sgd false b.natAbs g (by omega) (by omega)).1
    exact this
  have hby : 0 < b.natAbs / g := Nat.div_pos hgle hg
  have hbyle : b.natAbs / g ≤ b.natAbs := Nat.div_le_self _ _
  rw [hdiv] at key
  have fby : Fz ((b.natAbs / g : Nat) : Int) 40 := fb.abs_le (by rw [Int.natAbs_natCast]; exact hbyle)
  have hby0 : ((b.natAbs / g : Nat) : Int) ≠ 0 := by omega
  have hfm := fmod_lt u ((b.natAbs / g : Nat) : Int) hby0
  have d1 := zdivmod_f (b.natAbs : Int) (g : Int) (fab.mz (by decide)) (fg.mz (by decide)) (by omega)
  have e1 := r2divmod_f (b.natAbs : Int) (g : Int) (fab.mz (by decide)) (fg.mz (by decide)) (by omega)
  rw [hdiv] at d1 e1
  have d2 := zdivmod_f u ((b.natAbs / g : Nat) : Int) (fu.mz (by decide)) (fby.mz (by decide)) hby0
  have e2 := r2divmod_f u ((b.natAbs / g : Nat) : Int) (fu.mz (by decide)) (fby.mz (by decide)) hby0
  have fx : Fz (u.fmod ((b.natAbs / g : Nat) : Int)) 40 := fby.abs_le (Nat.le_of_lt hfm.1)
  generalize u.fmod ((b.natAbs / g : Nat) : Int) = x at key d2 e2 fx
  have fax := fa.mul fx
  have fr := fg.sub fax
  have m1 := zmul_f a x (fa.mz (by decide)) (fx.mz (by decide))
  have s1 := zsub_f (g : Int) (a * x) (fg.mz (by decide)) (fax.mz (by decide))
  have m2 := r2mul_f a x (fa.mz (by decide)) (fx.mz (by decide))
  have s2 := r2sub_f (g : Int) (a * x) (fg.mz (by decide)) (fax.mz (by decide))
  have e3 := r2divmod_f ((g : Int) - a * x) b (fr.mz (by decide)) (fb.mz (by decide)) hb
  have d3 := zdivmod_f ((g : Int) - a * x) b (fr.mz (by decide)) (fb.mz (by decide)) hb
  have hfd := fdiv_le ((g : Int) - a * x) b hb
  have fy : Fz (((g : Int) - a * x).fdiv b) 200 := ⟨by
    have h1 := nDig_mono hfd
    have h2 := nDig_add ((g : Int) - a * x).natAbs 1
    have h3 : Lib.nDigits 1 = 1 := Lib.nDigits_small (by decide)
    have h4 := fr.out
    omega⟩
  refine ⟨x, ((g : Int) - a * x).fdiv b, fx, fy, key, ?_, ?_⟩
  · refine Ev.step (f := fun k => (z_DivMod.f k (Z (b.natAbs : Int)) (Z (g : Int))).bind fun bt396 => ((z_DivMod.f k (Z u) bt396.1).bind fun bt399 => ((z_Mul.f k (Z a) bt399.2.1).bind fun t402 => ((z_Sub.f k (Z (g : Int)) t402).bind fun t403 => ((z_DivMod.f k t403 (Z b)).bind fun bt404 => (some (Z (g : Int), bt399.2.1, bt404.1))))))) (fun k => ?_) (Ev.bind d1 (Ev.bind d2 (Ev.bind m1 (Ev.bind s1 (Ev.bind d3 (Ev.now _))))))
    rw [z_Bezout.j1, wabs_f, bsome, ← Z_nat]
  · refine Ev.step (f := fun k => (r_DivMod.f k (Z (b.natAbs : Int)) (Z (g : Int))).bind fun bt396 => ((r_DivMod.f k (Z u) bt396.1).bind fun bt399 => ((r_Mul.f k (Z a) bt399.2).bind fun t402 => ((r_Sub.f k (Z (g : Int)) t402).bind fun t403 => ((r_DivMod.f k t403 (Z b)).bind fun bt404 => (some (Z (g : Int), bt399.2, bt404.1))))))) (fun k => ?_) (Ev.bind e1 (Ev.bind e2 (Ev.bind m2 (Ev.bind s2 (Ev.bind e3 (Ev.now _))))))
    rw [r_Bezout.j1, r2abs_f, bsome, ← Z_nat]
theorem bezout2_f (a b : Int) (fa : Fz a 40) (fb : Fz b 40) :
    ∃ x y : Int, Fz x 40 ∧ Fz y 200 ∧ a * x + b * y = ((Nat.gcd a.natAbs b.natAbs : Nat) : Int) ∧ Ev (fun k => z_Bezout.f k (Z a) (Z b)) (Z ((Nat.gcd a.natAbs b.natAbs : Nat) : Int), Z x, Z y) ∧ Ev (fun k => r_Bezout.f k (Z a) (Z b)) (Z ((Nat.gcd a.natAbs b.natAbs : Nat) : Int), Z x, Z y) := by
  have one : Lib.nDigits 1 = 1 := Lib.nDigits_small (by decide)
  have zero : Lib.nDigits 0 = 1 := Lib.nDigits_small (by decide)
  by_cases hb : b = 0
  · subst hb
    refine ⟨sgn a, 0, ⟨?_⟩, ⟨by rw [show (0 : Int).natAbs = 0 from rfl, zero]; decide⟩, ?_, ?_, ?_⟩
    · have : (sgn a).natAbs ≤ 1 := by
        unfold sgn
        split
        · decide
        · split <;> decide
      have := nDig_mono this
      omega
    · rw [show (0 : Int).natAbs = 0 from rfl, Nat.gcd_zero_right]
      unfold sgn
      by_cases h0 : a = 0
      · subst h0; rfl
      · rw [if_neg h0]
        by_cases hn : a < 0
        · rw [if_pos hn]; omega
        · rw [if_neg hn]; omega
    · rw [show (0 : Int).natAbs = 0 from rfl, Nat.gcd_zero_right]
      have hs : -1 ≤ sgn a ∧ sgn a ≤ 1 := by
        unfold sgn
        split
        · decide
        · split <;> decide
      unfold z_Bezout.f
      refine Ev.pos ((Z_is0 0).2 rfl) ?_
      rw [wabs_f, wsign_f]
      simp only [Option.bind_some, wof_f (sgn a) (by omega) (by omega)]
      rw [zero_str, ← Z_nat, ← Z_nat]
      exact Ev.now _
    · rw [show (0 : Int).natAbs = 0 from rfl, Nat.gcd_zero_right]
      have hs : -1 ≤ sgn a ∧ sgn a ≤ 1 := by
        unfold sgn
        split
        · decide
        · split <;> decide
      unfold r_Bezout.f
      refine Ev.pos ((Z_is0 0).2 rfl) ?_
      rw [r2abs_f, r2sign_f]
      simp only [Option.bind_some, r2of_f (sgn a) (by omega) (by omega)]
      rw [zero_str, ← Z_nat, ← Z_nat]
      exact Ev.now _
  · obtain ⟨f1, f2, f3⟩ := fmod_lt a b hb
    have hgg := gcd_fmod a b hb
    have hgpos : 0 < Nat.gcd a.natAbs b.natAbs := Nat.gcd_pos_of_pos_right _ (by omega)
    have hga : ((Nat.gcd a.natAbs b.natAbs : Nat) : Int) ∣ a := (dvd_abs _ _).2 (Nat.gcd_dvd_left _ _)
    have hgb : ((Nat.gcd a.natAbs b.natAbs : Nat) : Int) ∣ b := (dvd_abs _ _).2 (Nat.gcd_dvd_right _ _)
    obtain ⟨K, hK⟩ : ∃ K, K = 400 := ⟨_, rfl⟩
    have hM : b.natAbs * (a.fmod b).natAbs < 2 ^ K := by
      have h1 : b.natAbs < 10 ^ 40 := nDig_lt fb.out
      have h2 : b.natAbs * (a.fmod b).natAbs ≤ 10 ^ 40 * 10 ^ 40 := Nat.mul_le_mul (Nat.le_of_lt h1) (Nat.le_of_lt (Nat.lt_trans f1 h1))
      have h3 : (10 : Nat) ^ 40 * 10 ^ 40 < 2 ^ 200 * 2 ^ 200 := by decide
      rw [← Nat.pow_add 2 200 200, show 200 + 200 = K from hK.symm] at h3
      exact Nat.lt_of_le_of_lt h2 h3
    obtain ⟨u, w, hu, fu, hcont, hcont2⟩ := bz2_l0 a b (decide (b < 0)) K b.natAbs (a.fmod b).natAbs 1 0 1 f1 hM (Nat.le_trans fb.out (by decide)) ⟨by rw [show (0 : Int).natAbs = 0 from rfl, zero]; decide⟩ ⟨by rw [show (1 : Int).natAbs = 1 from rfl, one]; decide⟩ (by rw [hK]; decide) ⟨1, by rw [sgd_self]; omega⟩ ⟨-a.fdiv b, by rw [← f2, Int.mul_neg]; omega⟩
    rw [hgg] at hu hcont hcont2
    rw [sgd_self, ← f2] at hcont hcont2
    have dm := zdivmod_f a b (fa.mz (by decide)) (fb.mz (by decide)) hb
    have fq : Fz (a.fdiv b) 100 := ⟨by
      have h1 := nDig_mono (fdiv_le a b hb)
      have h2 := nDig_add a.natAbs 1
      have h4 := fa.out
      omega⟩
    have mu := zmul_f (a.fdiv b) 0 (fq.mz (by decide)) ⟨by rw [show (0 : Int).natAbs = 0 from rfl, zero]; decide⟩
    have dm2 := r2divmod_f a b (fa.mz (by decide)) (fb.mz (by decide)) hb
    have mu2 := r2mul_f (a.fdiv b) 0 (fq.mz (by decide)) ⟨by rw [show (0 : Int).natAbs = 0 from rfl, zero]; decide⟩
    rw [Int.mul_zero] at mu mu2
    have su := zsub_f 1 0 ⟨by rw [show (1 : Int).natAbs = 1 from rfl, one]; decide⟩ ⟨by rw [show (0 : Int).natAbs = 0 from rfl, zero]; decide⟩
    have su2 := r2sub_f 1 0 ⟨by rw [show (1 : Int).natAbs = 1 from rfl, one]; decide⟩ ⟨by rw [show (0 : Int).natAbs = 0 from rfl, zero]; decide⟩
    rw [Int.sub_zero] at su su2
    have e1 : (⟨#[49]⟩ : ByteArray) = Z 1 := by rw [one_str]; exact (Z_nat 1).symm
    have e0 : (⟨#[48]⟩ : ByteArray) = Z 0 := by rw [zero_str]; exact (Z_nat 0).symm
    have whole : ∀ r0, Ev (fun k => z_Bezout.l0 k (Z a) (Z b) (Z (sgd (decide (b < 0)) (Nat.gcd a.natAbs b.natAbs))) (Z 0) (Z u) (Z w)) r0 → Ev (fun k => z_Bezout.f k (Z a) (Z b)) r0 := fun r0 h => by
      unfold z_Bezout.f
      refine Ev.neg (fun h => hb ((Z_is0 b).1 h)) ?_
      rw [e1, e0]
      refine Ev.step (f := fun k => (z_DivMod.f k (Z a) (Z b)).bind fun bt387 => ((z_Mul.f k bt387.1 (Z 0)).bind fun t390 => ((z_Sub.f k (Z 1) t390).bind fun t391 => (z_Bezout.l0 k (Z a) (Z b) (Z b) bt387.2.1 (Z 0) t391)))) (fun k => ?_) (Ev.bind dm (Ev.bind mu (Ev.bind su (hcont r0 h))))
      rw [z_Bezout.l0, if_neg (fun e => hb ((Z_is0 b).1 e))]
    have wholr : ∀ r0, Ev (fun k => r_Bezout.l0 k (Z a) (Z b) (Z (sgd (decide (b < 0)) (Nat.gcd a.natAbs b.natAbs))) (Z 0) (Z u) (Z w)) r0 → Ev (fun k => r_Bezout.f k (Z a) (Z b)) r0 := fun r0 h => by
      unfold r_Bezout.f
      refine Ev.neg (fun h => hb ((Z_is0 b).1 h)) ?_
      rw [e1, e0]
      refine Ev.step (f := fun k => (r_DivMod.f k (Z a) (Z b)).bind fun bt387 => ((r_Mul.f k bt387.1 (Z 0)).bind fun t390 => ((r_Sub.f k (Z 1) t390).bind fun t391 => (r_Bezout.l0 k (Z a) (Z b) (Z b) bt387.2 (Z 0) t391)))) (fun k => ?_) (Ev.bind dm2 (Ev.bind mu2 (Ev.bind su2 (hcont2 r0 h))))
      rw [r_Bezout.l0, if_neg (fun e => hb ((Z_is0 b).1 e))]
    clear hcont dm mu su hcont2 dm2 mu2 su2 hM f1 f2 f3 hgg
    have fg : Fz (sgd (decide (b < 0)) (Nat.gcd a.natAbs b.natAbs)) 40 := fb.abs_le (by rw [sgd_abs2]; exact Nat.gcd_le_right _ (by omega))
    generalize Nat.gcd a.natAbs b.natAbs = g at *
    by_cases hn : b < 0
    · rw [decide_eq_true hn] at hu whole wholr fg
      have hu2 : ∃ v, (g : Int) = a * (-u) + b * v := by
        obtain ⟨v, hv⟩ := hu
        refine ⟨-v, ?_⟩
        unfold sgd at hv
        rw [if_pos rfl] at hv
        rw [Int.mul_neg, Int.mul_neg]
        omega
      obtain ⟨x, y, fx, fy, hxy, hj, hj2⟩ := bz2_j1 a b g (-u) fa fb hgpos hb hga hgb hu2 ⟨by rw [Int.natAbs_neg]; exact fu.out⟩
      have s1 : sgn (sgd true g) < 0 := by unfold sgd sgn; rw [if_pos rfl, if_neg (by omega), if_pos (by omega)]; decide
      have n1 := wneg_f (sgd true g) (fg.mz (by decide)).small
      have n2 := wneg_f u (fu.mz (by decide)).small
      have e3 : -(sgd true g) = (g : Int) := by unfold sgd; rw [if_pos rfl]; omega
      have n3 := r2negz_f (sgd true g) (fg.mz (by decide)).small
      have n4 := r2negz_f u (fu.mz (by decide)).small
      rw [e3] at n1 n3
      refine ⟨x, y, fx, fy, hxy, whole _ ?_, wholr _ ?_⟩
      · refine Ev.step (fun k => ?_) hj
        rw [z_Bezout.l0, if_pos ((Z_is0 0).2 rfl), wsign_f, bsome, if_pos s1, n1, bsome, n2, bsome]
      · refine Ev.step (fun k => ?_) hj2
        rw [r_Bezout.l0, if_pos ((Z_is0 0).2 rfl), r2sign_f, bsome, if_pos s1, n3, bsome, n4, bsome]
    · rw [decide_eq_false hn] at hu whole wholr
      obtain ⟨x, y, fx, fy, hxy, hj, hj2⟩ := bz2_j1 a b g u fa fb hgpos hb hga hgb hu fu
      have e4 : sgd false g = (g : Int) := rfl
      have s1 : ¬ sgn (sgd false g) < 0 := by rw [e4]; unfold sgn; rw [if_neg (by omega), if_neg (by omega)]; decide
      refine ⟨x, y, fx, fy, hxy, whole _ ?_, wholr _ ?_⟩
      · refine Ev.step (fun k => ?_) hj
        rw [z_Bezout.l0, if_pos ((Z_is0 0).2 rfl), wsign_f, bsome, if_neg s1]
        rfl
      · refine Ev.step (fun k => ?_) hj2
        rw [r_Bezout.l0, if_pos ((Z_is0 0).2 rfl), r2sign_f, bsome, if_neg s1]
        rfl
end Go.Proofs.YtgicckcahhlbjaaGreatDoor.P

namespace Go.Proofs.YtgicckcahhlbjaaGreatDoor.Pure
open Go.RowKit Go.Proofs.YtgicckcahhlbjaaGreatDoor.P Go.Proofs.YtgicckcahhlbjaaGreatDoorW.PrintWords Go.Proofs.YtgicckcahhlbjaaGreatDoorW.PrintLast
set_option maxRecDepth 100000 in
theorem gknown_ev : Ev (fun k => w_known.f k) true := Ev.of (k := 200) (fun k => w_known.mono k) (by decide +kernel)
theorem WholeGcds : w_WholeGcds.Pure := by
  intro b l _ hl c m _ hm d n _ hn _
  obtain ⟨u, u1, u2⟩ := make2_f b l hl 22 (by decide)
  obtain ⟨v, v1, v2⟩ := make2_f c m hm 22 (by decide)
  obtain ⟨w, w1, w2⟩ := make2_f d n hn 6 (by decide)
  have fx : Fz (sgd b u) 22 := ⟨by rw [sgd_abs2]; exact nDig_le (by decide) u1⟩
  have fy : Fz (sgd c v) 22 := ⟨by rw [sgd_abs2]; exact nDig_le (by decide) v1⟩
  have fz : Fz (sgd d w) 6 := ⟨by rw [sgd_abs2]; exact nDig_le (by decide) w1⟩
  generalize sgd b u = x at *
  generalize sgd c v = y at *
  generalize sgd d w = z at *
  have m1 := r2mul_f x z (fx.mz (by decide)) (fz.mz (by decide))
  have m2 := r2mul_f y z (fy.mz (by decide)) (fz.mz (by decide))
  have fa : Fz (x * z) 40 := (fx.mul fz).le (by decide)
  have fb : Fz (y * z) 40 := (fy.mul fz).le (by decide)
  generalize x * z = p at *
  generalize y * z = q at *
  obtain ⟨s, t, _, _, _, b1, b2⟩ := bezout2_f p q fa fb
  have g1 := zgcd_f p q (fa.mz (by decide)) (fb.mz (by decide))
  have g2 := r2gcd_f p q (fa.mz (by decide)) (fb.mz (by decide))
  have l1 := zlcm_f p q (fa.mz (by decide)) (fb.mz (by decide))
  have l2 := r2lcm_f p q (fa.mz (by decide)) (fb.mz (by decide))
  exact Ev.rounds (Ev.bind gknown_ev (Ev.pos rfl (Ev.bind w2 (Ev.bind u2 (Ev.bind m1 (Ev.bind v2 (Ev.bind m2 (Ev.bind b1 (Ev.bind b2 (Ev.bind g1 (Ev.bind g2 (Ev.pos rfl (Ev.bind l1 (Ev.bind l2 (Ev.pos rfl (Ev.pos rfl (Ev.pos rfl (Ev.eq (Ev.now _) (Z_beq _)))))))))))))))))))
end Go.Proofs.YtgicckcahhlbjaaGreatDoor.Pure
