/- The printed functions as operations on numbers, and the law's answer: true at every input. Conditions: those of each theorem; the law's own has the row's bounds alone. -/
import Derived.Lib.ItoaLen
import Derived.Lib.ItoaMem
import Derived.Lib.ItoaNum
import Derived.Lib.ParseIntBCases
import Derived.Test.YtgicckcahhlbjaaGreatDoorWholeGcdsSaid
import Derived.Test.YtgicckcahhlbjaaGreatDoorWholeGcdsWPlus

namespace Go.Proofs.YtgicckcahhlbjaaGreatDoor.P
open Go.RowKit Go.Proofs.YtgicckcahhlbjaaGreatDoorW.PrintWords
def val : List Nat → Nat
  | [] => 0
  | a :: l => a + 1000000000 * val l
def Ok (l : List Nat) : Prop := ∀ a, a ∈ l → a < 1000000000
def pcs (n : Nat) : List Nat := if h : n = 0 then [] else (n % 1000000000) :: pcs (n / 1000000000)
termination_by n
decreasing_by omega
theorem pcs_zero : pcs 0 = [] := by rw [pcs]; rfl
theorem pcs_pos {n : Nat} (h : n ≠ 0) : pcs n = (n % 1000000000) :: pcs (n / 1000000000) := by rw [pcs, dif_neg h]
theorem Ok.nil : Ok [] := fun _ h => by cases h
theorem Ok.cons {a : Nat} {l : List Nat} (ha : a < 1000000000) (hl : Ok l) : Ok (a :: l) := fun x hx => by
  rcases List.mem_cons.1 hx with rfl | hx
  · exact ha
  · exact hl x hx
theorem Ok.head {a : Nat} {l : List Nat} (h : Ok (a :: l)) : a < 1000000000 := h a List.mem_cons_self
theorem Ok.tail {a : Nat} {l : List Nat} (h : Ok (a :: l)) : Ok l := fun x hx => h x (List.mem_cons_of_mem _ hx)
theorem Ok.append {l m : List Nat} (hl : Ok l) (hm : Ok m) : Ok (l ++ m) := fun x hx => by
  rcases List.mem_append.1 hx with hx | hx
  · exact hl x hx
  · exact hm x hx
theorem Ok.left {l m : List Nat} (h : Ok (l ++ m)) : Ok l := fun x hx => h x (List.mem_append_left _ hx)
theorem Ok.right {l m : List Nat} (h : Ok (l ++ m)) : Ok m := fun x hx => h x (List.mem_append_right _ hx)
theorem Ok.take {l : List Nat} (h : Ok l) (i : Nat) : Ok (l.take i) := fun x hx => h x (List.mem_of_mem_take hx)
theorem Ok.drop {l : List Nat} (h : Ok l) (i : Nat) : Ok (l.drop i) := fun x hx => h x (List.mem_of_mem_drop hx)
theorem Ok.zeros (n : Nat) : Ok (List.replicate n 0) := fun x hx => by rw [(List.mem_replicate.1 hx).2]; omega
theorem Ok.getD {l : List Nat} (h : Ok l) (i : Nat) : l.getD i 0 < 1000000000 := by
  rw [List.getD_eq_getElem?_getD]
  by_cases hi : i < l.length
  · rw [List.getElem?_eq_getElem hi]; exact h _ (List.getElem_mem hi)
  · rw [List.getElem?_eq_none (by omega)]; simp
theorem ok_pcs (n : Nat) : Ok (pcs n) := by
  induction n using Nat.strongRecOn with
  | _ n ih =>
    by_cases h : n = 0
    · subst h; rw [pcs_zero]; exact Ok.nil
    · rw [pcs_pos h]; exact Ok.cons (by omega) (ih _ (by omega))
theorem val_pcs (n : Nat) : val (pcs n) = n := by
  induction n using Nat.strongRecOn with
  | _ n ih =>
    by_cases h : n = 0
    · subst h; rw [pcs_zero]; rfl
    · rw [pcs_pos h, val, ih _ (by omega)]; omega
theorem val_append (l m : List Nat) : val (l ++ m) = val l + 1000000000 ^ l.length * val m := by
  induction l with
  | nil => simp [val]
  | cons a l ih =>
    simp only [List.cons_append, val, ih, List.length_cons, Nat.pow_succ]
    rw [Nat.mul_add, Nat.add_assoc, ← Nat.mul_assoc, Nat.mul_comm 1000000000 (1000000000 ^ l.length)]
theorem val_snoc (l : List Nat) (a : Nat) : val (l ++ [a]) = val l + 1000000000 ^ l.length * a := by rw [val_append]; simp [val]
theorem val_zeros (n : Nat) : val (List.replicate n 0) = 0 := by
  induction n with
  | zero => rfl
  | succ n ih => rw [List.replicate_succ, val, ih]
theorem val_lt {l : List Nat} (h : Ok l) : val l < 1000000000 ^ l.length := by
  induction l with
  | nil => simp [val]
  | cons a l ih =>
    have h1 := h.head
    have h2 := ih h.tail
    simp only [val, List.length_cons, Nat.pow_succ]
    omega
theorem pow_pos9 (k : Nat) : 0 < 1000000000 ^ k := Nat.pow_pos (by decide)
theorem pcs_snoc : ∀ (l : List Nat) (a : Nat), Ok (l ++ [a]) → a ≠ 0 → pcs (val (l ++ [a])) = l ++ [a]
  | [], a, h, ha => by
    have := h.head
    have e : val ([] ++ [a]) = a := by simp [val]
    rw [e, pcs_pos ha, Nat.mod_eq_of_lt this, Nat.div_eq_of_lt this, pcs_zero]
    rfl
  | b :: l, a, h, ha => by
    have hb : b < 1000000000 := h.head
    have ih := pcs_snoc l a h.tail ha
    have hv : val (l ++ [a]) ≠ 0 := by
      intro e
      rw [e, pcs_zero] at ih
      exact absurd ih (by simp)
    have e : val (b :: l ++ [a]) = b + 1000000000 * val (l ++ [a]) := rfl
    rw [e, pcs_pos (by omega), show (b + 1000000000 * val (l ++ [a])) % 1000000000 = b by omega, show (b + 1000000000 * val (l ++ [a])) / 1000000000 = val (l ++ [a]) by omega, ih]
    rfl
theorem pcs_len_le {n k : Nat} (h : n < 1000000000 ^ k) : (pcs n).length ≤ k := by
  induction k generalizing n with
  | zero => rw [show n = 0 by simpa using h, pcs_zero]; simp
  | succ k ih =>
    by_cases h0 : n = 0
    · subst h0; rw [pcs_zero]; simp
    · rw [pcs_pos h0, List.length_cons]
      have := ih (n := n / 1000000000) (by rw [Nat.pow_succ] at h; omega)
      omega
theorem lt_pow_pcs (n : Nat) : n < 1000000000 ^ (pcs n).length := by
  have := val_lt (ok_pcs n)
  rwa [val_pcs] at this
theorem pow_le_pcs {n k : Nat} (h : k < (pcs n).length) : 1000000000 ^ k ≤ n := by
  rcases Nat.lt_or_ge n (1000000000 ^ k) with h1 | h1
  · have := pcs_len_le h1; omega
  · exact h1
theorem pcs_len_mono {a b : Nat} (h : a ≤ b) : (pcs a).length ≤ (pcs b).length := pcs_len_le (Nat.lt_of_le_of_lt h (lt_pow_pcs b))
theorem pcs_len_mul (a b : Nat) : (pcs (a * b)).length ≤ (pcs a).length + (pcs b).length := by
  apply pcs_len_le
  rw [Nat.pow_add]
  rcases Nat.eq_zero_or_pos b with h | h
  · subst h; exact Nat.mul_pos (pow_pos9 _) (pow_pos9 _)
  · exact Nat.lt_of_lt_of_le (Nat.mul_lt_mul_of_pos_right (lt_pow_pcs a) h) (Nat.mul_le_mul_left _ (Nat.le_of_lt (lt_pow_pcs b)))
theorem pcs_nil_iff {n : Nat} : pcs n = [] ↔ n = 0 := by
  constructor
  · intro h
    by_cases h0 : n = 0
    · exact h0
    · rw [pcs_pos h0] at h; cases h
  · rintro rfl; exact pcs_zero
theorem pcs_last {n : Nat} {l : List Nat} {a : Nat} (h : pcs n = l ++ [a]) : a ≠ 0 := by
  rintro rfl
  have h1 : (pcs n).length = l.length + 1 := by rw [h]; simp
  have h2 := val_pcs n
  rw [h, val_snoc] at h2
  have h3 : Ok l := by have := ok_pcs n; rw [h] at this; exact this.left
  have h4 := val_lt h3
  have h5 := pcs_len_le (n := n) (k := l.length) (by omega)
  omega
theorem Ok.set {l : List Nat} (h : Ok l) (i x : Nat) (hx : x < 1000000000) : Ok (l.set i x) := fun a ha => by
  rcases List.mem_or_eq_of_mem_set ha with h1 | h1
  · exact h a h1
  · omega
def C (l : List Nat) : List Int := l.map fun n : Nat => (n : Int)
theorem C_nil : C [] = [] := rfl
theorem C_length (l : List Nat) : (C l).length = l.length := by simp [C]
theorem C_append (l m : List Nat) : C (l ++ m) = C l ++ C m := by simp [C]
theorem C_take (l : List Nat) (i : Nat) : (C l).take i = C (l.take i) := by simp [C, List.map_take]
theorem C_set (l : List Nat) (i x : Nat) : (C l).set i (x : Int) = C (l.set i x) := by simp [C, List.map_set]
theorem C_zeros (n : Nat) : List.replicate n (0 : Int) = C (List.replicate n 0) := by simp [C]
theorem rd_C (l : List Nat) (i : Nat) : rd (C l) (i : Int) = (l.getD i 0 : Nat) := by
  simp only [rd, C, Int.toNat_natCast, List.getD_eq_getElem?_getD, List.getElem?_map]
  cases l[i]? <;> simp
theorem w64 {n : Int} (h0 : -9223372036854775808 ≤ n) (h1 : n ≤ 9223372036854775807) : wrap64 n = n := by unfold wrap64; omega
theorem u64w {n : Int} (h0 : 0 ≤ n) (h1 : n ≤ 18446744073709551615) : IntKind.u64.wrap n = n := by rw [IntKind.wrap_u64]; omega
theorem u64n (n : Nat) (h : n < 18446744073709551616) : IntKind.u64.wrap (n : Int) = n := u64w (by omega) (by omega)
theorem tdivn (a b : Nat) : Int.tdiv (a : Int) (b : Int) = ((a / b : Nat) : Int) := (Int.ofNat_tdiv a b).symm
theorem tmodn (a b : Nat) : Int.tmod (a : Int) (b : Int) = ((a % b : Nat) : Int) := (Int.ofNat_tmod a b).symm
theorem tdiv9 (a : Nat) : Int.tdiv (a : Int) 1000000000 = ((a / 1000000000 : Nat) : Int) := tdivn a 1000000000
theorem tmod9 (a : Nat) : Int.tmod (a : Int) 1000000000 = ((a % 1000000000 : Nat) : Int) := tmodn a 1000000000
structure Sm (n : Nat) : Prop where
  out : n < 4611686018427387904
theorem Sm.le {a b : Nat} (h : Sm b) (hab : a ≤ b) : Sm a := ⟨Nat.lt_of_le_of_lt hab h.out⟩
theorem wadd {a b : Nat} (h : Sm (a + b)) : wrap64 ((a : Int) + (b : Int)) = ((a + b : Nat) : Int) := by have := h.out; rw [w64] <;> omega
theorem wsucc {a : Nat} (h : Sm a) : wrap64 ((a : Int) + 1) = ((a + 1 : Nat) : Int) := by have := h.out; rw [w64] <;> omega
theorem wpred {a : Nat} (h : Sm a) : wrap64 ((a : Int) - 1) = (a : Int) - 1 := by have := h.out; rw [w64] <;> omega
theorem wpred1 {a : Nat} (h : Sm (a + 1)) : wrap64 (((a + 1 : Nat) : Int) - 1) = (a : Int) := by have := h.out; rw [w64] <;> omega
theorem usmall {n : Nat} (h : n < 1000000000000000000) : IntKind.u64.wrap (n : Int) = (n : Int) := u64n n (by omega)
theorem uadd {a b : Nat} (h : a + b < 18446744073709551616) : IntKind.u64.wrap ((a : Int) + (b : Int)) = ((a + b : Nat) : Int) := by rw [← Int.natCast_add]; exact u64n _ h
theorem umul {a b : Nat} (h : a * b < 18446744073709551616) : IntKind.u64.wrap ((a : Int) * (b : Int)) = ((a * b : Nat) : Int) := by rw [← Int.natCast_mul]; exact u64n _ h
end Go.Proofs.YtgicckcahhlbjaaGreatDoor.P

namespace Go.Proofs.YtgicckcahhlbjaaGreatDoor.P
open Go.RowKit Go.Proofs.YtgicckcahhlbjaaGreatDoorW.PrintWords
theorem Ev.eq {α : Type} {g : Nat → Option α} {r r' : α} (h : Ev g r) (e : r = r') : Ev g r' := e ▸ h
theorem Ev.pos {α : Type} {p : Prop} [Decidable p] {g f : Nat → Option α} {r : α} (h : p) (k : Ev g r) : Ev (fun n => if p then g n else f n) r := by
  simp only [if_pos h]; exact k
theorem Ev.neg {α : Type} {p : Prop} [Decidable p] {g f : Nat → Option α} {r : α} (h : ¬ p) (k : Ev f r) : Ev (fun n => if p then g n else f n) r := by
  simp only [if_neg h]; exact k
theorem concat_of_len {α : Type} {l : List α} {n : Nat} (h : l.length = n + 1) : ∃ m a, l = m ++ [a] ∧ m.length = n := by
  rcases List.eq_nil_or_concat l with e | ⟨m, a, e⟩
  · subst e; simp at h
  · refine ⟨m, a, by simpa using e, ?_⟩
    subst e
    simpa using h
theorem getD_mid (l m : List Nat) (a : Nat) : (l ++ a :: m).getD l.length 0 = a := by
  simp [List.getD_eq_getElem?_getD]
theorem set_mid (l m : List Nat) (a b : Nat) : (l ++ a :: m).set l.length b = l ++ b :: m := by
  simp
theorem trim_l0 : ∀ (n : Nat) (l : List Nat), l.length = n → Ok l → n < 4611686018427387904 → Ev (fun k => p_trim.l0 k (C l)) (C (pcs (val l)))
  | 0, l, hl, _, _ => by
    obtain rfl := List.length_eq_zero_iff.1 hl
    refine Ev.step (f := fun _ => some []) (fun k => ?_) (Ev.eq (Ev.now _) ?_)
    · simp only [p_trim.l0, C_nil, List.length_nil]
      rfl
    · rw [show val [] = 0 from rfl, pcs_zero]; rfl
  | n + 1, l, hl, h, hn => by
    obtain ⟨m, a, rfl, hm⟩ := concat_of_len hl
    have h1 : (C (m ++ [a])).length = n + 1 := by rw [C_length]; exact hl
    have h3 : rd (C (m ++ [a])) (n : Int) = a := by rw [rd_C, ← hm, getD_mid]
    have h4 : wrap64 (((C (m ++ [a])).length : Int) - 1) = (n : Int) := by rw [h1, w64] <;> omega
    by_cases ha : a = 0
    · subst ha
      refine Ev.step (f := fun k => p_trim.l0 k (C m)) (fun k => ?_) (Ev.eq (trim_l0 n m hm h.left (by omega)) (by rw [val_snoc, Nat.mul_zero, Nat.add_zero]))
      simp (disch := omega) only [p_trim.l0, h4, h3, if_pos]
      congr 1
      rw [Int.toNat_natCast, C_take, ← hm, List.take_left]
    · refine Ev.step (f := fun _ => some (C (m ++ [a]))) (fun k => ?_) (Ev.eq (Ev.now _) (by rw [pcs_snoc m a h ha]))
      simp (disch := omega) only [p_trim.l0, h4, h3, if_pos, if_neg]
theorem trim_f (l : List Nat) (h : Ok l) (hl : l.length < 4611686018427387904) : Ev (fun k => p_trim.f k (C l)) (C (pcs (val l))) := by
  unfold p_trim.f
  exact trim_l0 _ l rfl h hl
def cmp (a b : Nat) : Int := if a < b then -1 else if b < a then 1 else 0
theorem split_at {l : List Nat} {i : Nat} (h : i < l.length) : ∃ l1 a s, l = l1 ++ a :: s ∧ l1.length = i :=
  ⟨l.take i, l[i], l.drop (i + 1), by rw [List.getElem_cons_drop, List.take_append_drop], by rw [List.length_take]; omega⟩
theorem lt_mid {p1 q1 s : List Nat} {a b : Nat} (hp : Ok p1) (hl : p1.length = q1.length) (h : a < b) : val (p1 ++ a :: s) < val (q1 ++ b :: s) := by
  rw [val_append, val_append, hl]
  have h1 := val_lt hp
  rw [hl] at h1
  have h2 : 1000000000 ^ q1.length * (val (a :: s) + 1) ≤ 1000000000 ^ q1.length * val (b :: s) := Nat.mul_le_mul_left _ (by simp only [val]; omega)
  rw [Nat.mul_add, Nat.mul_one] at h2
  omega
theorem compare_l0 : ∀ (i : Nat) (p q : List Nat) (x : Int), x = (i : Int) - 1 → p.length = q.length → i ≤ p.length → p.length < 4611686018427387904 → Ok p → Ok q → p.drop i = q.drop i →
    Ev (fun k => p_compare.l0 k (C p) (C q) x) (cmp (val p) (val q))
  | 0, p, q, x, hx, _, _, _, _, _, he => by
    obtain rfl : p = q := by simpa using he
    refine Ev.step (f := fun _ => some 0) (fun k => ?_) (Ev.eq (Ev.now _) (by simp [cmp]))
    simp (disch := omega) only [p_compare.l0, if_neg]
  | i + 1, p, q, x, hx, hl, hi, hs, hp, hq, he => by
    obtain ⟨p1, a, s, rfl, hp1⟩ := split_at (l := p) (i := i) (by omega)
    obtain ⟨q1, b, s', rfl, hq1⟩ := split_at (l := q) (i := i) (by omega)
    have hss : s = s' := by
      rw [show p1 ++ a :: s = (p1 ++ [a]) ++ s by simp, show q1 ++ b :: s' = (q1 ++ [b]) ++ s' by simp, List.drop_left' (by simp [hp1]), List.drop_left' (by simp [hq1])] at he
      exact he
    subst hss
    obtain rfl : x = (i : Int) := by omega
    have e1 : rd (C (p1 ++ a :: s)) (i : Int) = a := by rw [rd_C, ← hp1, getD_mid]
    have e2 : rd (C (q1 ++ b :: s)) (i : Int) = b := by rw [rd_C, ← hq1, getD_mid]
    have l1 : (C (p1 ++ a :: s)).length = i + (s.length + 1) := by rw [C_length]; simp [hp1]
    have l2 : (C (q1 ++ b :: s)).length = i + (s.length + 1) := by rw [C_length]; simp [hq1]
    have hs' : i + (s.length + 1) < 4611686018427387904 := by simpa [hp1] using hs
    by_cases h1 : a < b
    · refine Ev.step (f := fun _ => some (-1)) (fun k => ?_) (Ev.eq (Ev.now _) ?_)
      · simp (disch := omega) only [p_compare.l0, e1, e2, if_pos]
      · rw [cmp, if_pos (lt_mid hp.left (by omega) h1)]
    · by_cases h2 : b < a
      · refine Ev.step (f := fun _ => some 1) (fun k => ?_) (Ev.eq (Ev.now _) ?_)
        · simp (disch := omega) only [p_compare.l0, e1, e2, if_pos, if_neg]
        · have := lt_mid (s := s) hq.left (hq1.trans hp1.symm) h2
          rw [cmp, if_neg (by omega), if_pos this]
      · obtain rfl : a = b := by omega
        refine Ev.step (f := fun k => p_compare.l0 k (C (p1 ++ a :: s)) (C (q1 ++ a :: s)) ((i : Int) - 1)) (fun k => ?_) (compare_l0 i _ _ _ rfl hl (by omega) hs hp hq (by rw [List.drop_left' hp1, List.drop_left' hq1]))
        have hw : wrap64 ((i : Int) - 1) = (i : Int) - 1 := w64 (by omega) (by omega)
        simp (disch := omega) only [p_compare.l0, e1, e2, if_pos, if_neg, hw]
theorem compare_f (a b : Nat) (ha : (pcs a).length < 4611686018427387904) (hb : (pcs b).length < 4611686018427387904) : Ev (fun k => p_compare.f k (C (pcs a)) (C (pcs b))) (cmp a b) := by
  unfold p_compare.f
  by_cases h : (pcs a).length = (pcs b).length
  · have h' : ((C (pcs a)).length : Int) = ((C (pcs b)).length : Int) := by rw [C_length, C_length]; omega
    simp only [if_pos h']
    have := compare_l0 (pcs a).length (pcs a) (pcs b) (wrap64 (((C (pcs a)).length : Int) - 1)) (by rw [C_length, w64] <;> omega) h (Nat.le_refl _) ha (ok_pcs a) (ok_pcs b) (by rw [List.drop_length, h, List.drop_length])
    rwa [val_pcs, val_pcs] at this
  · have h' : ¬ ((C (pcs a)).length : Int) = ((C (pcs b)).length : Int) := by rw [C_length, C_length]; omega
    simp only [if_neg h']
    refine Ev.eq (Ev.now _) ?_
    rw [C_length, C_length, w64 (by omega) (by omega)]
    unfold mn mx cmp
    rcases Nat.lt_or_gt_of_ne h with h1 | h1
    · have := pow_le_pcs h1
      have h2 := lt_pow_pcs a
      rw [if_pos (show a < b by omega)]
      split <;> split <;> omega
    · have := pow_le_pcs h1
      have h2 := lt_pow_pcs b
      rw [if_neg (show ¬ a < b by omega), if_pos (show b < a by omega)]
      split <;> split <;> omega
end Go.Proofs.YtgicckcahhlbjaaGreatDoor.P

namespace Go.Proofs.YtgicckcahhlbjaaGreatDoor.P
open Go.RowKit Go.Proofs.YtgicckcahhlbjaaGreatDoorW.PrintWords
theorem snoc_ind {α : Type} {p : List α → Prop} (nil : p []) (snoc : ∀ (l : List α) (a : α), p l → p (l ++ [a])) (l : List α) : p l := by
  have h : ∀ (n : Nat) (l : List α), l.length = n → p l := by
    intro n
    induction n with
    | zero => intro l hl; rw [List.length_eq_zero_iff.1 hl]; exact nil
    | succ n ih =>
      intro l hl
      rcases List.eq_nil_or_concat l with e | ⟨m, a, e⟩
      · rw [e] at hl; simp at hl
      · have e' : l = m ++ [a] := by simpa using e
        subst e'
        exact snoc m a (ih m (by simpa using hl))
  exact h _ l rfl
def dv (l : List UInt8) : Nat := l.foldl (fun n c => 10 * n + (c.toNat - 48)) 0
def IsD (l : List UInt8) : Prop := ∀ c, c ∈ l → 48 ≤ c.toNat ∧ c.toNat ≤ 57
def Can (l : List UInt8) : Prop := IsD l ∧ (l.length = 1 ∨ (1 < l.length ∧ l.head? ≠ some 48))
theorem dv_nil : dv [] = 0 := rfl
theorem dv_snoc (l : List UInt8) (c : UInt8) : dv (l ++ [c]) = 10 * dv l + (c.toNat - 48) := by simp [dv, List.foldl_append]
theorem dv_append (l m : List UInt8) : dv (l ++ m) = dv l * 10 ^ m.length + dv m := by
  induction m using snoc_ind with
  | nil => simp [dv_nil]
  | snoc m c ih =>
    rw [← List.append_assoc, dv_snoc, ih, dv_snoc, List.length_append, List.length_singleton, Nat.pow_succ, Nat.mul_add, ← Nat.mul_assoc (dv l), Nat.mul_comm _ 10]
    omega
theorem IsD.nil : IsD [] := fun _ h => by cases h
theorem IsD.cons {c : UInt8} {l : List UInt8} (h1 : 48 ≤ c.toNat ∧ c.toNat ≤ 57) (h2 : IsD l) : IsD (c :: l) := fun x hx => by
  rcases List.mem_cons.1 hx with rfl | hx
  · exact h1
  · exact h2 x hx
theorem IsD.left {l m : List UInt8} (h : IsD (l ++ m)) : IsD l := fun x hx => h x (List.mem_append_left _ hx)
theorem IsD.right {l m : List UInt8} (h : IsD (l ++ m)) : IsD m := fun x hx => h x (List.mem_append_right _ hx)
theorem IsD.append {l m : List UInt8} (hl : IsD l) (hm : IsD m) : IsD (l ++ m) := fun x hx => by
  rcases List.mem_append.1 hx with hx | hx
  · exact hl x hx
  · exact hm x hx
theorem IsD.take {l : List UInt8} (h : IsD l) (i : Nat) : IsD (l.take i) := fun x hx => h x (List.mem_of_mem_take hx)
theorem IsD.drop {l : List UInt8} (h : IsD l) (i : Nat) : IsD (l.drop i) := fun x hx => h x (List.mem_of_mem_drop hx)
theorem dv_lt {l : List UInt8} (h : IsD l) : dv l < 10 ^ l.length := by
  induction l using snoc_ind with
  | nil => simp [dv_nil]
  | snoc m c ih =>
    have h1 := ih h.left
    have h2 := h.right c (by simp)
    rw [dv_snoc, List.length_append, List.length_singleton, Nat.pow_succ]
    omega
theorem digit_toNat {d : Nat} (h : d < 10) : (UInt8.ofNat (48 + d)).toNat = 48 + d := by
  rw [UInt8.toNat_ofNat']
  omega
theorem digit_of {c : UInt8} (h : 48 ≤ c.toNat ∧ c.toNat ≤ 57) : UInt8.ofNat (48 + (c.toNat - 48)) = c := by
  rw [show 48 + (c.toNat - 48) = c.toNat by omega]
  exact UInt8.ofNat_toNat
theorem dec_small {n : Nat} (h : n < 10) : Lib.decDigits n = [UInt8.ofNat (48 + n)] := by rw [Lib.decDigits, dif_pos h]
theorem dec_big {n : Nat} (h : 10 ≤ n) : Lib.decDigits n = Lib.decDigits (n / 10) ++ [UInt8.ofNat (48 + n % 10)] := by rw [Lib.decDigits, dif_neg (by omega)]
theorem isD_dec (n : Nat) : IsD (Lib.decDigits n) := by
  induction n using Nat.strongRecOn with
  | _ n ih =>
    by_cases h : n < 10
    · rw [dec_small h]
      refine IsD.cons ?_ IsD.nil
      rw [digit_toNat h]; omega
    · rw [dec_big (by omega)]
      refine (ih _ (by omega)).append (IsD.cons ?_ IsD.nil)
      rw [digit_toNat (by omega)]; omega
theorem dv_dec (n : Nat) : dv (Lib.decDigits n) = n := by
  induction n using Nat.strongRecOn with
  | _ n ih =>
    by_cases h : n < 10
    · rw [dec_small h, show [UInt8.ofNat (48 + n)] = [] ++ [UInt8.ofNat (48 + n)] from rfl, dv_snoc, digit_toNat h, dv_nil]; omega
    · rw [dec_big (by omega), dv_snoc, ih _ (by omega), digit_toNat (by omega)]; omega
theorem dec_len_pos (n : Nat) : 0 < (Lib.decDigits n).length := by rw [Lib.decDigits_length]; exact Lib.nDigits_pos n
theorem dec_dv : ∀ (k : Nat) (l : List UInt8), l.length = k → Can l → Lib.decDigits (dv l) = l
  | 0, l, hl, h => by rcases h.2 with h | h <;> omega
  | 1, l, hl, h => by
    rcases l with _ | ⟨c, _ | ⟨d, t⟩⟩
    · simp at hl
    · have hc := h.1 c (by simp)
      have : dv [c] = c.toNat - 48 := by rw [show [c] = [] ++ [c] from rfl, dv_snoc, dv_nil]; omega
      rw [this, dec_small (by omega), digit_of hc]
    · simp at hl
  | k + 2, l, hl, h => by
    obtain ⟨m, c, rfl⟩ : ∃ m c, l = m ++ [c] := by
      rcases List.eq_nil_or_concat l with e | ⟨m, c, e⟩
      · subst e; simp at hl
      · exact ⟨m, c, by simpa using e⟩
    have hm : m.length = k + 1 := by simpa using hl
    have h2 : 1 < (m ++ [c]).length ∧ (m ++ [c]).head? ≠ some 48 := by
      rcases h.2 with h2 | h2
      · omega
      · exact h2
    have hh : m.head? ≠ some 48 := by
      have := h2.2
      rcases m with _ | ⟨a, t⟩
      · simp at hm
      · simpa using this
    have hc := h.1.right c (by simp)
    have hmc : Can m := ⟨h.1.left, by
      by_cases h3 : m.length = 1
      · exact Or.inl h3
      · exact Or.inr ⟨by omega, hh⟩⟩
    have ih := dec_dv (k + 1) m hm hmc
    have h0 : dv m ≠ 0 := by
      intro e
      rw [e] at ih
      have e1 : Lib.decDigits 0 = [48] := dec_small (by omega)
      rw [e1] at ih
      rw [← ih] at hh
      exact hh rfl
    rw [dv_snoc, dec_big (by omega), show (10 * dv m + (c.toNat - 48)) / 10 = dv m by omega, ih, show (10 * dv m + (c.toNat - 48)) % 10 = c.toNat - 48 by omega, digit_of hc]
theorem dec_inj {a b : Nat} (h : Lib.decDigits a = Lib.decDigits b) : a = b := by rw [← dv_dec a, h, dv_dec]
def S (n : Nat) : ByteArray := ⟨(Lib.decDigits n).toArray⟩
theorem S_inj {a b : Nat} (h : S a = S b) : a = b := dec_inj (by simpa [S] using h)
theorem S_list (n : Nat) : (S n).data.toList = Lib.decDigits n := by simp [S]
theorem S_size (n : Nat) : (S n).size = Lib.nDigits n := by simp [S, ByteArray.size, Lib.decDigits_length]
theorem S_of {s : ByteArray} (h : Can s.data.toList) : s = S (dv s.data.toList) := by
  rw [S, dec_dv _ _ rfl h]
theorem nDig_mono {a b : Nat} (h : a ≤ b) : Lib.nDigits a ≤ Lib.nDigits b := by
  induction b using Nat.strongRecOn generalizing a with
  | _ b ih =>
    by_cases hb : b < 10
    · rw [Lib.nDigits_small hb, Lib.nDigits_small (by omega)]; omega
    · rw [Lib.nDigits_big hb]
      by_cases ha : a < 10
      · rw [Lib.nDigits_small ha]; omega
      · rw [Lib.nDigits_big ha]
        have := ih (b / 10) (by omega) (a := a / 10) (by omega)
        omega
theorem nDig_le {n k : Nat} (hk : 0 < k) (h : n < 10 ^ k) : Lib.nDigits n ≤ k := by
  induction k generalizing n with
  | zero => omega
  | succ k ih =>
    by_cases hn : n < 10
    · rw [Lib.nDigits_small hn]; omega
    · rw [Lib.nDigits_big hn]
      rcases Nat.eq_zero_or_pos k with h0 | h0
      · subst h0; simp at h; omega
      · have := ih (n := n / 10) h0 (by rw [Nat.pow_succ] at h; omega)
        omega
end Go.Proofs.YtgicckcahhlbjaaGreatDoor.P

namespace Go.Proofs.YtgicckcahhlbjaaGreatDoor.P
open Go.RowKit Go.Proofs.YtgicckcahhlbjaaGreatDoorW.PrintWords
def rdig (n : Nat) : List UInt8 := (Lib.decDigits n).reverse
def dgs : Nat → Nat → List UInt8
  | 0, _ => []
  | j + 1, n => UInt8.ofNat (48 + n % 10) :: dgs j (n / 10)
theorem rdig_small {n : Nat} (h : n < 10) : rdig n = [UInt8.ofNat (48 + n)] := by rw [rdig, dec_small h]; rfl
theorem rdig_big {n : Nat} (h : 10 ≤ n) : rdig n = UInt8.ofNat (48 + n % 10) :: rdig (n / 10) := by
  rw [rdig, dec_big h, List.reverse_append]; rfl
theorem rdig_piece : ∀ (j n m : Nat), n < 10 ^ j → m ≠ 0 → rdig (n + 10 ^ j * m) = dgs j n ++ rdig m
  | 0, n, m, h, hm => by
    have : n = 0 := by simpa using h
    subst this
    simp [dgs]
  | j + 1, n, m, h, hm => by
    have e : 10 ^ (j + 1) = 10 * 10 ^ j := by rw [Nat.pow_succ, Nat.mul_comm]
    rw [e] at h ⊢
    have hp : 1 ≤ 10 ^ j * m := Nat.mul_pos (Nat.pow_pos (by decide)) (by omega)
    rw [Nat.mul_assoc, rdig_big (by omega), dgs, show (n + 10 * (10 ^ j * m)) / 10 = n / 10 + 10 ^ j * m by omega, show (n + 10 * (10 ^ j * m)) % 10 = n % 10 by omega, rdig_piece j (n / 10) m (by omega) hm]
    rfl
theorem dec_val_cons {n m : Nat} (h : n < 1000000000) (hm : m ≠ 0) : rdig (n + 1000000000 * m) = dgs 9 n ++ rdig m := rdig_piece 9 n m h hm
theorem dv_cons (c : UInt8) (l : List UInt8) : dv (c :: l) = (c.toNat - 48) * 10 ^ l.length + dv l := by
  have := dv_append [c] l
  rw [show dv [c] = c.toNat - 48 by rw [show [c] = [] ++ [c] from rfl, dv_snoc, dv_nil]; omega] at this
  exact this
theorem lex_dv : ∀ (l m : List UInt8), l.length = m.length → IsD l → IsD m → (l < m ↔ dv l < dv m)
  | [], [], _, _, _ => by simp [dv_nil]
  | [], _ :: _, h, _, _ => by simp at h
  | _ :: _, [], h, _, _ => by simp at h
  | a :: l, b :: m, h, hl, hm => by
    have ha := hl a (by simp)
    have hb := hm b (by simp)
    have hl' : IsD l := IsD.right (l := [a]) hl
    have hm' : IsD m := IsD.right (l := [b]) hm
    have h' : l.length = m.length := by simpa using h
    have ih := lex_dv l m h' hl' hm'
    have k1 := dv_lt hl'
    have k2 := dv_lt hm'
    rw [dv_cons, dv_cons, List.cons_lt_cons_iff]
    rw [h'] at k1 ⊢
    constructor
    · rintro (h1 | ⟨rfl, h1⟩)
      · have h2 : a.toNat < b.toNat := h1
        have h3 : (a.toNat - 48 + 1) * 10 ^ m.length ≤ (b.toNat - 48) * 10 ^ m.length := Nat.mul_le_mul_right _ (by omega)
        rw [Nat.succ_mul] at h3
        omega
      · have := ih.1 h1
        omega
    · intro h1
      rcases Nat.lt_trichotomy a.toNat b.toNat with h2 | h2 | h2
      · exact Or.inl h2
      · have e : a = b := UInt8.toNat_inj.1 h2
        subst e
        exact Or.inr ⟨rfl, ih.2 (by omega)⟩
      · have h3 : (b.toNat - 48 + 1) * 10 ^ m.length ≤ (a.toNat - 48) * 10 ^ m.length := Nat.mul_le_mul_right _ (by omega)
        rw [Nat.succ_mul] at h3
        omega
theorem dec_lt_of_len {a b : Nat} (h : Lib.nDigits a < Lib.nDigits b) : a < b := by
  rcases Nat.lt_or_ge a b with h1 | h1
  · exact h1
  · have := nDig_mono h1
    omega
theorem dec_lex {a b : Nat} (h : Lib.nDigits a = Lib.nDigits b) : Lib.decDigits a < Lib.decDigits b ↔ a < b := by
  have := lex_dv (Lib.decDigits a) (Lib.decDigits b) (by rw [Lib.decDigits_length, Lib.decDigits_length, h]) (isD_dec a) (isD_dec b)
  rwa [dv_dec, dv_dec] at this
end Go.Proofs.YtgicckcahhlbjaaGreatDoor.P

namespace Go.Proofs.YtgicckcahhlbjaaGreatDoor.P
open Go.RowKit Go.Proofs.YtgicckcahhlbjaaGreatDoorW.PrintWords
def B8 (l : List UInt8) : List Int := l.map fun b => (b.toNat : Int)
theorem B8_length (l : List UInt8) : (B8 l).length = l.length := by simp [B8]
theorem B8_append (l m : List UInt8) : B8 (l ++ m) = B8 l ++ B8 m := by simp [B8]
theorem rd_B8 (P Q : List UInt8) (c : UInt8) (i : Nat) (h : P.length = i) : rd (B8 (P ++ c :: Q)) (i : Int) = (c.toNat : Int) := by
  subst h
  simp [rd, B8, List.getD_eq_getElem?_getD]
theorem extract_list (s : ByteArray) (a b : Nat) : (s.extract a b).data.toList = (s.data.toList.take b).drop a := by
  simp [List.drop_take]
theorem size_list (s : ByteArray) : s.size = s.data.toList.length := (data_length s).symm
theorem dstep {n : Nat} {c : UInt8} (hc : 48 ≤ c.toNat ∧ c.toNat ≤ 57) (hn : 10 * n + (c.toNat - 48) < 18446744073709551616) : IntKind.u64.wrap (IntKind.u64.wrap (10 * (n : Int)) + ((c.toNat : Int) - 48) % 256) = ((10 * n + (c.toNat - 48) : Nat) : Int) := by
  have h1 : ((c.toNat : Int) - 48) % 256 = ((c.toNat - 48 : Nat) : Int) := by omega
  rw [h1, show (10 : Int) * n = ((10 * n : Nat) : Int) by omega, u64n _ (by omega), uadd hn]
theorem dv_bound {P Q : List UInt8} (c : UInt8) (h : IsD (P ++ c :: Q)) (hl : (P ++ c :: Q).length ≤ 19) : 10 * dv P + (c.toNat - 48) < 18446744073709551616 := by
  have h1 : IsD (P ++ [c]) := by
    have : P ++ c :: Q = (P ++ [c]) ++ Q := by simp
    rw [this] at h
    exact h.left
  have h2 := dv_lt h1
  have h3 : 10 ^ (P ++ [c]).length ≤ 10 ^ 19 := Nat.pow_le_pow_right (by decide) (by simp at hl ⊢; omega)
  rw [dv_snoc] at h2
  omega
theorem cut_step (k : Nat) (s : ByteArray) (acc : List Int) (e : Int) (P Q : List UInt8) (c : UInt8) (h : IsD (P ++ c :: Q)) (hl : (P ++ c :: Q).length ≤ 18) (n : Int) (hn : n = ((P ++ c :: Q).length : Nat)) :
    d_cut.l1 (k + 1) s acc e (dv P : Int) (B8 (P ++ c :: Q)) n (P.length : Int) = d_cut.l1 k s acc e (dv (P ++ [c]) : Int) (B8 (P ++ c :: Q)) n ((P ++ [c]).length : Int) := by
  have e1 := rd_B8 P Q c P.length rfl
  have e2 := dstep (h c (by simp)) (dv_bound c h (by omega))
  have e3 := wsucc (a := P.length) ⟨by simp at hl; omega⟩
  have hl2 : (B8 (P ++ c :: Q)).length = P.length + (Q.length + 1) := by rw [B8_length]; simp
  rw [show (P ++ c :: Q).length = P.length + (Q.length + 1) by simp] at hn
  simp only [d_cut.l1, e1, e2, e3]
  clear e1 e2 e3
  simp (disch := omega) only [if_pos]
  rw [dv_snoc, List.length_append, List.length_singleton]
theorem cut_l1 (s : ByteArray) (acc : List Nat) (e : Int) (hacc : acc.length < 17592186044416) : ∀ (Q P : List UInt8) (n : Int) (r : List Int), n = ((P ++ Q).length : Nat) → IsD (P ++ Q) → (P ++ Q).length ≤ 18 →
    Ev (fun k => d_cut.l0 k s (C (acc ++ [dv (P ++ Q)])) (wrap64 (e - 9))) r → Ev (fun k => d_cut.l1 k s (C acc) e (dv P : Int) (B8 (P ++ Q)) n (P.length : Int)) r
  | [], P, n, r, hn, _, _, h => by
    rw [List.append_nil] at h hn ⊢
    refine Ev.step (fun k => ?_) h
    have hl2 : (C acc).length = acc.length := C_length _
    simp (disch := omega) only [d_cut.l1, if_neg, if_pos]
    rw [C_append]
    rfl
  | c :: Q, P, n, r, hn, hD, hl, h => by
    have e0 : P ++ c :: Q = (P ++ [c]) ++ Q := by simp
    refine Ev.step (fun k => cut_step k s (C acc) e P Q c hD hl n hn) ?_
    rw [e0] at hn hD hl h ⊢
    exact cut_l1 s acc e hacc Q (P ++ [c]) n r hn hD hl h
theorem chunk {l : List UInt8} {e st : Nat} (he : e ≤ l.length) (hst : st = e - 9) : dv (l.take e) = dv ((l.take e).drop st) + 1000000000 * dv (l.take st) ∧ ((l.take e).drop st).length = e - st := by
  have hl : ((l.take e).drop st).length = e - st := by rw [List.length_drop, List.length_take]; omega
  refine ⟨?_, hl⟩
  have h1 := dv_append ((l.take e).take st) ((l.take e).drop st)
  rw [List.take_append_drop, List.take_take, Nat.min_eq_left (by omega), hl] at h1
  rw [h1]
  rcases Nat.eq_zero_or_pos st with h2 | h2
  · rw [h2, List.take_zero, dv_nil]; omega
  · rw [show e - st = 9 by omega]
    have : (10 : Nat) ^ 9 = 1000000000 := by decide
    rw [this, Nat.mul_comm]
    omega
theorem cut_l0 (s : ByteArray) (hD : IsD s.data.toList) : ∀ (m e : Nat) (acc : List Nat) (x : Int), e ≤ m → e ≤ s.size → (x = (e : Int) ∨ e = 0 ∧ x ≤ 0) → Ok acc → acc.length + e < 17592186044416 →
    Ev (fun k => d_cut.l0 k s (C acc) x) (C (pcs (val acc + 1000000000 ^ acc.length * dv (s.data.toList.take e))))
  | 0, e, acc, x, hm, _, hx, hacc, hl => by
    obtain rfl : e = 0 := by omega
    refine Ev.step (f := fun k => (p_trim.f k (C acc)).bind fun t => some t) (fun k => ?_) (Ev.eq (Ev.bind (trim_f acc hacc (by omega)) (Ev.now _)) ?_)
    · simp (disch := omega) only [d_cut.l0, if_neg]
    · rw [List.take_zero, dv_nil, Nat.mul_zero, Nat.add_zero]
  | m + 1, e, acc, x, hm, hs, hx, hacc, hl => by
    rcases Nat.eq_zero_or_pos e with h0 | h0
    · exact cut_l0 s hD 0 e acc x (by omega) hs hx hacc hl
    · obtain rfl : x = (e : Int) := by omega
      obtain ⟨st, hst⟩ : ∃ st, st = e - 9 := ⟨_, rfl⟩
      rw [size_list] at hs
      obtain ⟨h1, h2⟩ := chunk hs hst
      have hsub := extract_list s st e
      have hw : wrap64 ((e : Int) - 9) = (e : Int) - 9 := w64 (by omega) (by omega)
      have hmx : mx 0 ((e : Int) - 9) = (st : Int) := by unfold mx; split <;> omega
      have hDs : IsD ((s.data.toList.take e).drop st) := (hD.take e).drop st
      have hdl := dv_lt hDs
      have hpow : 10 ^ ((s.data.toList.take e).drop st).length ≤ 10 ^ 9 := Nat.pow_le_pow_right (by decide) (by omega)
      have h9 : (10 : Nat) ^ 9 = 1000000000 := by decide
      have ih := cut_l0 s hD m st (acc ++ [dv ((s.data.toList.take e).drop st)]) ((e : Int) - 9) (by omega) (by rw [size_list]; omega) (by omega) (hacc.append (Ok.cons (by omega) Ok.nil)) (by rw [List.length_append, List.length_singleton]; omega)
      have hv : val (acc ++ [dv ((s.data.toList.take e).drop st)]) + 1000000000 ^ (acc ++ [dv ((s.data.toList.take e).drop st)]).length * dv (s.data.toList.take st) = val acc + 1000000000 ^ acc.length * dv (s.data.toList.take e) := by
        rw [val_snoc, h1, List.length_append, List.length_singleton, Nat.pow_succ, Nat.mul_add, Nat.mul_assoc, Nat.add_assoc]
      rw [hv] at ih
      have key := cut_l1 s acc (e : Int) (by omega) ((s.data.toList.take e).drop st) [] ((((s.data.toList.take e).drop st).length : Nat) : Int) _ rfl hDs (by rw [List.nil_append]; omega) (by rw [List.nil_append, hw]; exact ih)
      refine Ev.step (fun k => ?_) key
      have hsz : (s.extract st e).size = e - st := by rw [size_list, hsub, h2]
      have hb : bytesOf (s.extract st e) = B8 ((s.data.toList.take e).drop st) := by rw [← hsub]; rfl
      have hsl : (s.size : Int) = (s.data.toList.length : Int) := by rw [size_list]
      simp only [d_cut.l0, hw, hmx, Int.toNat_natCast, hsz, hb, B8_length, Option.bind_some, hsl]
      clear hv ih key hw hmx hdl hpow hb hsub hD hDs
      simp (disch := omega) only [if_pos]
      rfl
theorem cut_of (s : ByteArray) (hD : IsD s.data.toList) (hs : s.size < 17592186044416) : Ev (fun k => d_cut.f k s) (C (pcs (dv s.data.toList))) := by
  have key := cut_l0 s hD s.size s.size [] (s.size : Int) (Nat.le_refl _) (Nat.le_refl _) (Or.inl rfl) Ok.nil (by simpa using hs)
  have e0 : val ([] : List Nat) + 1000000000 ^ ([] : List Nat).length * dv (s.data.toList.take s.size) = dv s.data.toList := by
    rw [size_list, List.take_length]; simp [val]
  rw [e0] at key
  have e1 : wrap64 ((s.size : Int) / 9) = (((s.size / 9 : Nat)) : Int) := by rw [w64 (by omega) (by omega)]; omega
  have e2 := wsucc (a := s.size / 9) ⟨by omega⟩
  unfold d_cut.f
  simp only [e1, e2, Int.toNat_natCast]
  clear e1 e2
  simp (disch := omega) only [if_pos]
  exact key
theorem cut_f (n : Nat) (hs : Lib.nDigits n < 17592186044416) : Ev (fun k => d_cut.f k (S n)) (C (pcs n)) := by
  have := cut_of (S n) (by rw [S_list]; exact isD_dec n) (by rw [S_size]; exact hs)
  rwa [S_list, dv_dec] at this
end Go.Proofs.YtgicckcahhlbjaaGreatDoor.P

namespace Go.Proofs.YtgicckcahhlbjaaGreatDoor.P
open Go.RowKit Go.Proofs.YtgicckcahhlbjaaGreatDoorW.PrintWords
theorem toList_data (s : ByteArray) : s.toList = s.data.toList := ByteArray.toList_eq s
theorem bt_mid (s : ByteArray) (P Q : List UInt8) (c : UInt8) (h : s.data.toList = P ++ c :: Q) : bt s (P.length : Int) = (c.toNat : Int) := by
  rw [← rd_bytesOf, show bytesOf s = B8 s.data.toList from rfl, h, rd_B8 _ _ _ _ rfl]
theorem size_mid (s : ByteArray) (P Q : List UInt8) (c : UInt8) (h : s.data.toList = P ++ c :: Q) : s.size = P.length + (Q.length + 1) := by
  rw [size_list, h]; simp
def digB (c : UInt8) : Bool := decide (48 ≤ c.toNat ∧ c.toNat ≤ 57)
def canb (l : List UInt8) : Bool := l.all digB && (decide (l.length = 1) || (decide (1 < l.length) && (l.head? != some 48)))
theorem all_dig (l : List UInt8) : l.all digB = true ↔ IsD l := by
  simp [List.all_eq_true, digB, IsD]
theorem canb_iff (l : List UInt8) : canb l = true ↔ Can l := by
  unfold canb Can
  rw [Bool.and_eq_true, all_dig]
  simp
end Go.Proofs.YtgicckcahhlbjaaGreatDoor.P

namespace Go.Proofs.YtgicckcahhlbjaaGreatDoor.P
open Go.RowKit Go.Proofs.YtgicckcahhlbjaaGreatDoorW.PrintWords
theorem dv_prefix (P Q : List UInt8) : dv P ≤ dv (P ++ Q) := by
  rw [dv_append]
  have : dv P * 1 ≤ dv P * 10 ^ Q.length := Nat.mul_le_mul_left _ (Nat.pow_pos (by decide))
  omega
theorem dv_prefix1 (P Q : List UInt8) (c : UInt8) : 10 * dv P + (c.toNat - 48) ≤ dv (P ++ c :: Q) := by
  have := dv_prefix (P ++ [c]) Q
  rw [dv_snoc] at this
  simpa using this
theorem nDig_lt {n : Nat} {k : Nat} (h : Lib.nDigits n ≤ k) : n < 10 ^ k := Nat.lt_of_lt_of_le (Lib.lt_pow_nDigits n) (Nat.pow_le_pow_right (by decide) h)
theorem bless : ∀ (l m : List UInt8), Op.bytesLess l m = true ↔ l < m
  | [], [] => by simp [Op.bytesLess]
  | [], _ :: _ => by simp [Op.bytesLess]
  | _ :: _, [] => by simp [Op.bytesLess]
  | a :: l, b :: m => by
    rw [List.cons_lt_cons_iff]
    simp [Op.bytesLess, bless l m]
theorem bless_S {a b : Nat} (h : Lib.nDigits a = Lib.nDigits b) : Op.bytesLess (S a).toList (S b).toList = true ↔ a < b := by
  rw [bless, toList_data, toList_data, S_list, S_list, dec_lex h]
theorem S_eq_iff {a b : Nat} : (S a).toList = (S b).toList ↔ a = b := by
  rw [toList_data, toList_data, S_list, S_list]
  exact ⟨dec_inj, fun h => by rw [h]⟩
theorem compareS_f (a b : Nat) (ha : Lib.nDigits a < 4611686018427387904) (hb : Lib.nDigits b < 4611686018427387904) : d_Compare.f (S a) (S b) = some (cmp a b) := by
  unfold d_Compare.f cmp
  rw [S_size, S_size]
  by_cases h : Lib.nDigits a = Lib.nDigits b
  · rw [if_pos (by omega)]
    by_cases h2 : a < b
    · rw [if_pos ((bless_S h).2 h2), if_pos h2]
    · rw [if_neg (fun e => h2 ((bless_S h).1 e)), if_neg h2]
      by_cases h3 : b < a
      · rw [if_pos ((bless_S h.symm).2 h3), if_pos h3]
      · rw [if_neg (fun e => h3 ((bless_S h.symm).1 e)), if_neg h3]
  · rw [if_neg (by omega), w64 (by omega) (by omega)]
    unfold mn mx
    by_cases h2 : Lib.nDigits a < Lib.nDigits b
    · rw [if_pos (dec_lt_of_len h2)]
      congr 1
      split <;> split <;> omega
    · have := dec_lt_of_len (a := b) (b := a) (by omega)
      rw [if_neg (show ¬ a < b by omega), if_pos this]
      congr 1
      split <;> split <;> omega
theorem parse_dig : ∀ (l : List UInt8) (acc : Nat), IsD l → Lib.parseUintM 18446744073709551615 acc l = if l = [] ∨ acc * 10 ^ l.length + dv l < 18446744073709551616 then .ok (acc * 10 ^ l.length + dv l) else .range
  | [], acc, _ => by simp [Lib.parseUintM, dv_nil]
  | c :: l, acc, h => by
    have hc := h c (by simp)
    have ih := parse_dig l (acc * 10 + (c.toNat - 48)) (IsD.right (l := [c]) h)
    have e : (acc * 10 + (c.toNat - 48)) * 10 ^ l.length + dv l = acc * 10 ^ (c :: l).length + dv (c :: l) := by
      rw [dv_cons, List.length_cons, Nat.pow_succ, Nat.add_mul, Nat.mul_assoc, Nat.mul_comm 10 (10 ^ l.length), Nat.add_assoc]
    have hp : 1 ≤ 10 ^ l.length := Nat.pow_pos (by decide)
    have hge : acc * 10 + (c.toNat - 48) ≤ acc * 10 ^ (c :: l).length + dv (c :: l) := by
      rw [← e]
      have : (acc * 10 + (c.toNat - 48)) * 1 ≤ (acc * 10 + (c.toNat - 48)) * 10 ^ l.length := Nat.mul_le_mul_left _ hp
      omega
    unfold Lib.parseUintM
    rw [if_pos hc]
    by_cases h1 : 1844674407370955162 ≤ acc
    · rw [if_pos h1, if_neg]
      rintro (h2 | h2)
      · cases h2
      · omega
    · rw [if_neg h1]
      by_cases h2 : 18446744073709551615 < acc * 10 + (c.toNat - 48)
      · rw [if_pos h2, if_neg]
        rintro (h3 | h3)
        · cases h3
        · omega
      · rw [if_neg h2, ih, e]
        by_cases h3 : acc * 10 ^ (c :: l).length + dv (c :: l) < 18446744073709551616
        · rw [if_pos (Or.inr h3), if_pos (Or.inr h3)]
        · have n1 : ¬ ((c :: l) = [] ∨ acc * 10 ^ (c :: l).length + dv (c :: l) < 18446744073709551616) := fun h4 => h4.elim (fun h5 => by cases h5) h3
          have n2 : ¬ (l = [] ∨ acc * 10 ^ (c :: l).length + dv (c :: l) < 18446744073709551616) := fun h4 => h4.elim (fun h5 => by
            rw [h5] at e h3
            rw [← e] at h3
            simp only [List.length_nil, Nat.pow_zero, dv_nil] at h3
            omega) h3
          rw [if_neg n1, if_neg n2]
theorem small_S (n : Nat) (hn : Lib.nDigits n ≤ 281474976710656) : decimal_Small.f (S n) = some (if n < 18446744073709551616 then ((n : Int), true) else (0, false)) := by
  unfold decimal_Small.f
  have hne : Lib.decDigits n ≠ [] := by have := dec_len_pos n; intro e; rw [e] at this; simp at this
  have h64 : (2 : Nat) ^ 64 - 1 = 18446744073709551615 := by decide
  rw [S_size, if_pos hn, S_list, Lib.parseUintB, if_neg hne, h64, parse_dig _ _ (isD_dec n), dv_dec, Nat.zero_mul, Nat.zero_add]
  by_cases h : n < 18446744073709551616
  · rw [if_pos (Or.inr h), if_pos h]
  · rw [if_neg (fun h1 => h1.elim hne h), if_neg h]
theorem of_f (n : Nat) (h : n < 18446744073709551616) : decimal_Of.f (n : Int) = some (S n) := by
  unfold decimal_Of.f
  rw [if_pos (by omega), Int.toNat_natCast]
  rfl
end Go.Proofs.YtgicckcahhlbjaaGreatDoor.P

namespace Go.Proofs.YtgicckcahhlbjaaGreatDoor.P
open Go.RowKit Go.Proofs.YtgicckcahhlbjaaGreatDoorW.PrintWords
theorem strOfNums_B8 (l : List UInt8) : strOfNums (B8 l) = ⟨l.toArray⟩ := by
  have e : ((fun n : Int => UInt8.ofNat n.toNat) ∘ fun b : UInt8 => (b.toNat : Int)) = id := funext fun b => by simp
  rw [strOfNums, B8, List.map_map, e, List.map_id]
theorem zero_str : (⟨#[48]⟩ : ByteArray) = S 0 := S_of ((canb_iff _).1 (by decide))
theorem wf_u8 {x : Int} (h : (Lit.int .u8 x).wf = true) : 0 ≤ x ∧ x ≤ 255 := by
  have h1 : IntKind.u8.min = 0 := by decide
  have h2 : IntKind.u8.max = 255 := by decide
  simpa only [Lit.wf, h1, h2, Bool.and_eq_true, decide_eq_true_eq] using h
end Go.Proofs.YtgicckcahhlbjaaGreatDoor.P

namespace Go.Proofs.YtgicckcahhlbjaaGreatDoor.P
open Go.RowKit Go.Proofs.YtgicckcahhlbjaaGreatDoorW.PrintWords
def Z (n : Int) : ByteArray := ⟨(Lib.itoa n).toArray⟩
theorem Z_list (n : Int) : (Z n).data.toList = Lib.itoa n := by simp [Z]
theorem itoa_n (u : Nat) : Lib.itoa (u : Int) = Lib.decDigits u := by unfold Lib.itoa; rw [if_neg (by omega)]; simp
theorem itoa_m (u : Nat) (h : 1 ≤ u) : Lib.itoa (-(u : Int)) = 45 :: Lib.decDigits u := by unfold Lib.itoa; rw [if_pos (by omega)]; simp
theorem parse_dec (n : Nat) (h : n < 18446744073709551616) : Lib.parseUintB 64 (Lib.decDigits n) = .ok n := by
  have hne : Lib.decDigits n ≠ [] := by have := dec_len_pos n; intro e; rw [e] at this; simp at this
  have h64 : (2 : Nat) ^ 64 - 1 = 18446744073709551615 := by decide
  rw [Lib.parseUintB, if_neg hne, h64, parse_dig _ _ (isD_dec n), dv_dec, Nat.zero_mul, Nat.zero_add, if_pos (Or.inr h)]
theorem dec_first (n : Nat) : ∃ c r, Lib.decDigits n = c :: r ∧ 48 ≤ c.toNat ∧ c.toNat ≤ 57 := by
  rcases e : Lib.decDigits n with _ | ⟨c, r⟩
  · have := dec_len_pos n; rw [e] at this; simp at this
  · exact ⟨c, r, rfl, (isD_dec n) c (by rw [e]; simp)⟩
end Go.Proofs.YtgicckcahhlbjaaGreatDoor.P

namespace Go.Proofs.YtgicckcahhlbjaaGreatDoor.P
open Go.RowKit Go.Proofs.YtgicckcahhlbjaaGreatDoorW.PrintWords
def neg (l : List UInt8) : Bool := l.head? == some 45
def mag (l : List UInt8) : List UInt8 := if neg l then l.tail else l
def str (l : List UInt8) : ByteArray := ⟨l.toArray⟩
theorem str_list (l : List UInt8) : (str l).data.toList = l := by simp [str]
theorem str_self (s : ByteArray) : str s.data.toList = s := rfl
theorem str_size (l : List UInt8) : (str l).size = l.length := by rw [size_list, str_list]
theorem str_toList (l : List UInt8) : (str l).toList = l := by rw [toList_data, str_list]
theorem cut1 (s : ByteArray) : s.extract 1 s.size = str s.data.toList.tail := by
  have h := extract_list s 1 s.size
  rw [size_list, List.take_length, List.drop_one] at h
  apply ByteArray.ext
  apply Array.toList_inj.1
  rw [str_list, ← h, size_list]
theorem bt0 (s : ByteArray) (c : UInt8) (t : List UInt8) (h : s.data.toList = c :: t) : bt s 0 = (c.toNat : Int) := bt_mid s [] t c h
theorem c45 (c : UInt8) : (c.toNat : Int) = 45 ↔ c = 45 := by
  have h : (45 : UInt8).toNat = 45 := rfl
  constructor
  · intro e; exact UInt8.toNat_inj.1 (by omega)
  · intro e; rw [e]; rfl
theorem mag_le (l : List UInt8) : (mag l).length ≤ l.length := by
  unfold mag
  split
  · rw [List.length_tail]; omega
  · exact Nat.le_refl _
theorem split_f (s : ByteArray) : z_split.f s = some (neg s.data.toList, str (mag s.data.toList)) := by
  unfold z_split.f
  have h1 := size_list s
  rcases e : s.data.toList with _ | ⟨c, t⟩
  · rw [e, List.length_nil] at h1
    rw [if_neg (by omega)]
    have : s = str [] := by rw [← e]; exact (str_self s).symm
    rw [this]
    rfl
  · rw [e, List.length_cons] at h1
    rw [if_pos (by omega), if_pos (by omega), bt0 s c t e]
    by_cases hc : c = 45
    · subst hc
      rw [if_pos (by rfl), if_pos (by omega), cut1, e]
      rfl
    · rw [if_neg (fun h => hc ((c45 c).1 h))]
      have hn : neg (c :: t) = false := by
        unfold neg
        rw [List.head?_cons, beq_eq_false_iff_ne]
        intro h; exact hc (by simpa using h)
      have hs : s = str (c :: t) := by rw [← e]; exact (str_self s).symm
      rw [hn, mag, hn, if_neg (by decide)]
      congr 2
theorem digits_f (s : ByteArray) : r_digits.f s = some (str (mag s.data.toList)) := by
  have h := split_f s
  unfold z_split.f at h
  unfold r_digits.f
  by_cases h0 : (s.size : Int) > 0
  · rw [if_pos h0, if_pos h0] at h ⊢
    by_cases h45 : bt s 0 = 45
    · rw [if_pos h45, if_pos (by omega)] at h ⊢
      injection h with h
      injection h with _ h2
      rw [h2]
    · rw [if_neg h45] at h ⊢
      injection h with h
      injection h with _ h2
      rw [← h2]
  · rw [if_neg h0] at h ⊢
    injection h with h
    injection h with _ h2
    rw [← h2]
theorem itoa_f (n : Int) (h0 : -9223372036854775808 ≤ n) (h1 : n ≤ 9223372036854775807) : strconv_Itoa.f n = some (Z n) := by
  unfold strconv_Itoa.f
  rw [if_pos ⟨h0, h1⟩]
  rfl
theorem wof_f (n : Int) (h0 : -9223372036854775808 ≤ n) (h1 : n ≤ 9223372036854775807) : z_Of.f n = some (Z n) := by
  unfold z_Of.f
  rw [itoa_f n h0 h1]
  rfl
theorem r2of_f (n : Int) (h0 : -9223372036854775808 ≤ n) (h1 : n ≤ 9223372036854775807) : r_Of.f n = some (Z n) := by
  unfold r_Of.f
  rw [itoa_f n h0 h1]
  rfl
end Go.Proofs.YtgicckcahhlbjaaGreatDoor.P

namespace Go.Proofs.YtgicckcahhlbjaaGreatDoor.P
open Go.RowKit Go.Proofs.YtgicckcahhlbjaaGreatDoorW.PrintWords
theorem c48 (c : UInt8) : (c.toNat : Int) = 48 ↔ c = 48 := by
  have h : (48 : UInt8).toNat = 48 := rfl
  constructor
  · intro e; exact UInt8.toNat_inj.1 (by omega)
  · intro e; rw [e]; rfl
def core (m : List UInt8) : List UInt8 := if m.dropWhile (· == 48) = [] then [48] else m.dropWhile (· == 48)
def pz (n : Bool) (m : List UInt8) : ByteArray × Int := if 400 < (core m).length then (str [], 4) else if n = true ∧ core m ≠ [48] then (str (45 :: core m), 0) else (str (core m), 0)
def parsed (l : List UInt8) : ByteArray × Int := if l = [] then (str [], 13) else if mag l = [] then (str [], 15) else if (mag l).all digB = true then pz (neg l) (mag l) else (str [], 15)
theorem minus_str (u : List UInt8) : (⟨#[45]⟩ : ByteArray) ++ str u = str (45 :: u) := by
  apply ByteArray.ext
  apply Array.toList_inj.1
  rw [str_list]
  simp [str]
theorem core_one (c : UInt8) : core [c] = [c] := by
  unfold core
  by_cases h : c = 48
  · subst h; rfl
  · have : [c].dropWhile (· == 48) = [c] := List.dropWhile_cons_of_neg (by simpa using h)
    rw [this, if_neg (by simp)]
theorem core_zero (d : UInt8) (r : List UInt8) : core (48 :: d :: r) = core (d :: r) := by
  unfold core
  rw [List.dropWhile_cons_of_pos (by decide)]
theorem core_else (c : UInt8) (r : List UInt8) (h : c ≠ 48) : core (c :: r) = c :: r := by
  unfold core
  rw [List.dropWhile_cons_of_neg (by simpa using h), if_neg (by simp)]
theorem drop_first : ∀ (m : List UInt8) (c : UInt8) (r : List UInt8), m.dropWhile (· == 48) = c :: r → c ≠ 48
  | [], _, _, h => by simp at h
  | x :: m, c, r, h => by
    by_cases hx : x = 48
    · rw [List.dropWhile_cons_of_pos (by simpa using hx)] at h
      exact drop_first m c r h
    · rw [List.dropWhile_cons_of_neg (by simpa using hx)] at h
      injection h with h1 _
      rw [← h1]; exact hx
theorem drop_le : ∀ (m : List UInt8), (m.dropWhile (· == 48)).length ≤ m.length
  | [] => by simp
  | x :: m => by
    by_cases hx : x = 48
    · rw [List.dropWhile_cons_of_pos (by simpa using hx)]
      have := drop_le m
      rw [List.length_cons]; omega
    · rw [List.dropWhile_cons_of_neg (by simpa using hx)]
      exact Nat.le_refl _
theorem r2parse_j3 (n : Bool) (u : List UInt8) (hs : u.length < 4611686018427387904) : Ev (fun k => r_Parse.j3 k (str u) n) (if 400 < u.length then (str [], 4) else if n = true ∧ u ≠ [48] then (str (45 :: u), 0) else (str u, 0)) := by
  have hsz : (str u).size = u.length := str_size u
  refine Ev.step (f := fun _ => some (if 400 < u.length then (str [], 4) else if n = true ∧ u ≠ [48] then (str (45 :: u), 0) else (str u, 0))) (fun k => ?_) (Ev.now _)
  rw [r_Parse.j3, hsz, str_toList, minus_str]
  by_cases h4 : 400 < u.length
  · rw [if_pos h4, if_pos (by omega)]
    rfl
  · rw [if_neg h4, if_neg (by omega)]
    by_cases hn : n = true
    · rw [if_pos hn]
      by_cases hu : u = [48]
      · rw [if_pos hu, if_neg (fun h => h.2 hu)]
      · rw [if_neg hu, if_pos (by omega), if_pos ⟨hn, hu⟩]
    · rw [if_neg hn, if_neg (fun h => hn h.1)]
theorem r2parse_l1 (n : Bool) : ∀ (m : List UInt8), m ≠ [] → m.length < 4611686018427387904 → Ev (fun k => r_Parse.l1 k (str m) n) (pz n m)
  | [], h, _ => absurd rfl h
  | [c], _, hs => by
    have hsz : (str [c]).size = 1 := str_size [c]
    have key := r2parse_j3 n [c] hs
    unfold pz
    rw [core_one]
    refine Ev.step (fun k => ?_) key
    rw [r_Parse.l1, if_neg (by omega)]
  | c :: d :: r, _, hs => by
    have hsz : (str (c :: d :: r)).size = r.length + 2 := str_size _
    have e1 : bt (str (c :: d :: r)) 0 = (c.toNat : Int) := bt0 _ c (d :: r) (str_list _)
    by_cases hc : c = 48
    · have ih := r2parse_l1 n (d :: r) (by simp) (by rw [List.length_cons] at hs; omega)
      subst hc
      unfold pz at ih ⊢
      rw [core_zero]
      refine Ev.step (fun k => ?_) ih
      rw [r_Parse.l1, if_pos (by omega), if_pos (by omega), e1, if_pos (by rfl), if_pos (by omega), cut1, str_list]
      rfl
    · have key := r2parse_j3 n (c :: d :: r) hs
      unfold pz
      rw [core_else c (d :: r) hc]
      refine Ev.step (fun k => ?_) key
      rw [r_Parse.l1, if_pos (by omega), if_pos (by omega), e1, if_neg (fun h => hc ((c48 c).1 h))]
theorem r2parse_l0 (n : Bool) (m : List UInt8) (h0 : m ≠ []) (hs : m.length < 4611686018427387904) : ∀ (Q P : List UInt8), m = P ++ Q → IsD P →
    Ev (fun k => r_Parse.l0 k (str m) n (P.length : Int)) (if m.all digB = true then pz n m else (str [], 15))
  | [], P, h, hP => by
    rw [List.append_nil] at h
    have h1 : m.all digB = true := (all_dig m).2 (by rw [h]; exact hP)
    have h2 : m.length = P.length := by rw [h]
    have hsz : (str m).size = m.length := str_size m
    rw [if_pos h1]
    refine Ev.step (fun k => ?_) (r2parse_l1 n m h0 hs)
    rw [r_Parse.l0, if_neg (by omega)]
  | c :: Q, P, h, hP => by
    have h1 : m.length = P.length + (Q.length + 1) := by rw [h]; simp
    have e1 : bt (str m) (P.length : Int) = (c.toNat : Int) := bt_mid (str m) P Q c (by rw [str_list, h])
    have hsz : (str m).size = m.length := str_size m
    have e3 := wsucc (a := P.length) ⟨by omega⟩
    by_cases hc : 48 ≤ c.toNat ∧ c.toNat ≤ 57
    · refine Ev.step (f := fun k => r_Parse.l0 k (str m) n ((P.length + 1 : Nat) : Int)) (fun k => ?_) ?_
      · simp only [r_Parse.l0, e1, e3]
        clear e1 e3
        simp (disch := omega) only [if_pos, if_neg]
      · have := r2parse_l0 n m h0 hs Q (P ++ [c]) (by rw [h]; simp) (hP.append (IsD.cons hc IsD.nil))
        simpa using this
    · have hb : ¬ m.all digB = true := fun h2 => hc ((all_dig m).1 h2 c (by rw [h]; simp))
      rw [if_neg hb]
      refine Ev.step (f := fun _ => some (str [], 15)) (fun k => ?_) (Ev.now _)
      simp only [r_Parse.l0, e1, e3]
      clear e1 e3 hb
      by_cases h48 : c.toNat < 48
      · simp (disch := omega) only [if_pos]
        rfl
      · simp (disch := omega) only [if_pos, if_neg]
        rfl
theorem r2parse_j0 (n : Bool) (m : List UInt8) (hs : m.length < 4611686018427387904) : Ev (fun k => r_Parse.j0 k (str m) n) (if m = [] then (str [], 15) else if m.all digB = true then pz n m else (str [], 15)) := by
  by_cases h : m = []
  · rw [if_pos h]
    refine Ev.step (f := fun _ => some (str [], 15)) (fun k => ?_) (Ev.now _)
    rw [r_Parse.j0, str_toList, if_pos h]
    rfl
  · rw [if_neg h]
    refine Ev.step (fun k => ?_) (r2parse_l0 n m h hs m [] rfl IsD.nil)
    rw [r_Parse.j0, str_toList, if_neg h]
    rfl
theorem neg_cons (c : UInt8) (t : List UInt8) : neg (c :: t) = ((c.toNat : Int) == 45) := by
  unfold neg
  rw [List.head?_cons, Bool.eq_iff_iff, beq_iff_eq, beq_iff_eq, c45, Option.some_inj]
theorem r2parse_f (s : ByteArray) (hs : s.size < 4611686018427387904) : Ev (fun k => r_Parse.f k s) (parsed s.data.toList) := by
  have h1 := size_list s
  unfold r_Parse.f parsed
  rw [toList_data]
  have hm := mag_le s.data.toList
  have key := r2parse_j0 (neg s.data.toList) (mag s.data.toList) (by omega)
  rcases e : s.data.toList with _ | ⟨c, t⟩
  · rw [if_pos rfl]
    exact Ev.pos rfl (Ev.now _)
  · rw [e] at key
    rw [if_neg (by simp)]
    have hsz : s.size = t.length + 1 := by rw [h1, e]; rfl
    refine Ev.neg (by simp) (Ev.pos (by omega) ?_)
    rw [bt0 s c t e]
    by_cases hc : c = 45
    · subst hc
      refine Ev.pos (by rfl) (Ev.pos (by omega) ?_)
      rw [cut1, e]
      exact key
    · refine Ev.neg (fun h => hc ((c45 c).1 h)) ?_
      have hn : neg (c :: t) = false := by rw [neg_cons, beq_eq_false_iff_ne]; exact fun h => hc ((c45 c).1 h)
      have hm2 : mag (c :: t) = c :: t := by unfold mag; rw [hn]; rfl
      rw [← neg_cons c t]
      rw [hm2] at key
      have hs2 : s = str (c :: t) := by rw [← e]; exact (str_self s).symm
      rw [hs2, hm2]
      exact key
end Go.Proofs.YtgicckcahhlbjaaGreatDoor.P

namespace Go.Proofs.YtgicckcahhlbjaaGreatDoor.P
open Go.RowKit Go.Proofs.YtgicckcahhlbjaaGreatDoorW.PrintWords
end Go.Proofs.YtgicckcahhlbjaaGreatDoor.P

namespace Go.Proofs.YtgicckcahhlbjaaGreatDoor.P
open Go.RowKit Go.Proofs.YtgicckcahhlbjaaGreatDoorW.PrintWords
theorem isD_core {m : List UInt8} (h : IsD m) : IsD (core m) := by
  unfold core
  split
  · exact IsD.cons (by decide) IsD.nil
  · exact fun c hc => h c ((List.dropWhile_sublist _).subset hc)
theorem dv_drop : ∀ (m : List UInt8), dv (m.dropWhile (· == 48)) = dv m
  | [] => rfl
  | c :: m => by
    by_cases hc : c = 48
    · subst hc
      rw [List.dropWhile_cons_of_pos (by decide), dv_drop m, dv_cons]
      have : (48 : UInt8).toNat - 48 = 0 := rfl
      rw [this, Nat.zero_mul, Nat.zero_add]
    · rw [List.dropWhile_cons_of_neg (by simpa using hc)]
theorem dv_core (m : List UInt8) : dv (core m) = dv m := by
  unfold core
  split
  · rename_i h
    rw [← dv_drop m, h]; rfl
  · exact dv_drop m
theorem core_dec {m : List UInt8} (h : IsD m) : core m = Lib.decDigits (dv m) := by
  have hc : Can (core m) := by
    refine ⟨isD_core h, ?_⟩
    unfold core
    split
    · exact Or.inl rfl
    · rename_i hne
      rcases e : m.dropWhile (· == 48) with _ | ⟨c, _ | ⟨d, r⟩⟩
      · exact absurd e hne
      · exact Or.inl rfl
      · refine Or.inr ⟨by simp, ?_⟩
        rw [List.head?_cons]
        intro h2
        exact drop_first m c (d :: r) e (by simpa using h2)
  rw [← dec_dv _ _ rfl hc, dv_core]
def sgd (n : Bool) (u : Nat) : Int := if n = true then -(u : Int) else (u : Int)
theorem pz_Z (n : Bool) (m : List UInt8) (h : IsD m) (hl : (core m).length ≤ 400) : pz n m = (Z (sgd n (dv m)), 0) := by
  unfold pz
  rw [if_neg (by omega), core_dec h]
  unfold sgd Z
  by_cases hn : n = true
  · rw [if_pos hn]
    by_cases h0 : dv m = 0
    · rw [h0, if_neg (fun h2 => h2.2 (dec_small (by decide)))]
      rfl
    · have h48 : Lib.decDigits (dv m) ≠ [48] := fun e => h0 (by rw [← dv_dec (dv m), e]; rfl)
      rw [if_pos ⟨hn, h48⟩, itoa_m _ (by omega)]
      rfl
  · rw [if_neg hn, if_neg (fun h2 => hn h2.1), itoa_n]
    rfl
theorem parsed_digits (m : List UInt8) (h : IsD m) (h0 : m ≠ []) : parsed m = pz false m ∧ parsed (45 :: m) = pz true m := by
  have ha := (all_dig m).2 h
  rcases m with _ | ⟨c, t⟩
  · exact absurd rfl h0
  · have hc := h c (by simp)
    have hn : neg (c :: t) = false := by
      rw [neg_cons, beq_eq_false_iff_ne]; omega
    have hm : mag (c :: t) = c :: t := by unfold mag; rw [hn]; rfl
    constructor
    · unfold parsed
      rw [if_neg (by simp), hm, if_neg (by simp), if_pos ha, hn]
    · unfold parsed
      have hm2 : mag (45 :: c :: t) = c :: t := rfl
      have hn2 : neg (45 :: c :: t) = true := rfl
      rw [if_neg (by simp), hm2, if_neg (by simp), if_pos ha, hn2]
theorem core_len (m : List UInt8) (h0 : m ≠ []) : (core m).length ≤ m.length := by
  unfold core
  split
  · have : 0 < m.length := List.length_pos_iff.2 h0
    simp; omega
  · exact drop_le m
theorem make2_j1 (b : Bool) (l : List Int) (acc : List UInt8) (hD : IsD acc) (hl : acc.length ≤ 400) : Ev (fun k => w_Make.j1 k (str acc) b l) (Z (sgd b (dv acc))) := by
  have one : (⟨#[48]⟩ : ByteArray) = str [48] := rfl
  have gen : ∀ m : List UInt8, IsD m → m ≠ [] → m.length ≤ 400 → dv m = dv acc → Ev (fun k => (r_Parse.f k (if b = true then str (45 :: m) else str m)).bind fun bt => (some bt.1)) (Z (sgd b (dv acc))) := fun m h1 h2 h3 h4 => by
    obtain ⟨p1, p2⟩ := parsed_digits m h1 h2
    have hc := core_len m h2
    by_cases hb : b = true
    · rw [if_pos hb]
      have key := r2parse_f (str (45 :: m)) (by rw [str_size, List.length_cons]; omega)
      rw [str_list, p2, pz_Z true m h1 (by omega), h4] at key
      exact Ev.bind key (Ev.eq (Ev.now _) (by rw [hb]))
    · rw [if_neg hb]
      have hb2 : b = false := by simpa using hb
      have key := r2parse_f (str m) (by rw [str_size]; omega)
      rw [str_list, p1, pz_Z false m h1 (by omega), h4] at key
      exact Ev.bind key (Ev.eq (Ev.now _) (by rw [hb2]))
  by_cases h0 : acc = []
  · have g := gen [48] (IsD.cons (by decide) IsD.nil) (by simp) (by decide) (by rw [h0]; rfl)
    refine Ev.step (fun k => ?_) g
    rw [w_Make.j1, str_toList, if_pos h0, one, minus_str]
    by_cases hb : b = true
    · rw [if_pos hb, if_pos (by decide), if_pos hb]
    · rw [if_neg hb, if_neg hb]
  · have g := gen acc hD h0 hl rfl
    refine Ev.step (fun k => ?_) g
    have hsz : (str acc).size = acc.length := str_size acc
    rw [w_Make.j1, str_toList, if_neg h0, minus_str]
    by_cases hb : b = true
    · rw [if_pos hb, if_pos (by omega), if_pos hb]
    · rw [if_neg hb, if_neg hb]
theorem digit_str {x : Int} (h0 : 0 ≤ x) : ∃ c : UInt8, (48 + Int.tmod x 10) % 256 = (c.toNat : Int) ∧ 48 ≤ c.toNat ∧ c.toNat ≤ 57 := by
  obtain ⟨n, rfl⟩ : ∃ n : Nat, x = n := ⟨x.toNat, by omega⟩
  have h2 : Int.tmod (n : Int) 10 = ((n % 10 : Nat) : Int) := tmodn n 10
  have h3 : n % 10 < 10 := Nat.mod_lt _ (by decide)
  refine ⟨UInt8.ofNat (48 + n % 10), ?_, ?_, ?_⟩
  · rw [h2, digit_toNat h3]; omega
  · rw [digit_toNat h3]; omega
  · rw [digit_toNat h3]; omega
theorem str_snoc (acc : List UInt8) (c : UInt8) : str acc ++ str [c] = str (acc ++ [c]) := by
  apply ByteArray.ext
  apply Array.toList_inj.1
  simp [str]
theorem make2_l0 (b : Bool) (l : List Int) (hl : ∀ x, x ∈ l → 0 ≤ x) (n : Nat) (hn : n ≤ 400) : ∀ (Q P : List Int) (acc : List UInt8), l = P ++ Q → IsD acc → acc.length = P.length → acc.length ≤ n →
    ∃ m : List UInt8, IsD m ∧ m.length ≤ n ∧ Ev (fun k => w_Make.l0 k (n : Int) (str acc) (P.length : Int) b l) (Z (sgd b (dv m)))
  | [], P, acc, h, hD, hp, hq => by
    have hll : l.length = P.length := by rw [h]; simp
    refine ⟨acc, hD, hq, Ev.step (fun k => ?_) (make2_j1 b l acc hD (by omega))⟩
    rw [w_Make.l0, if_neg (by omega)]
  | x :: Q, P, acc, h, hD, hp, hq => by
    have hll : l.length = P.length + (Q.length + 1) := by rw [h]; simp
    by_cases hend : P.length = n
    · refine ⟨acc, hD, hq, Ev.step (fun k => ?_) (make2_j1 b l acc hD (by omega))⟩
      rw [w_Make.l0, if_pos (by omega), if_neg (by omega)]
    · have hx : 0 ≤ x := hl x (by rw [h]; simp)
      obtain ⟨c, e1, e2, e3⟩ := digit_str hx
      obtain ⟨m, m1, m2, m3⟩ := make2_l0 b l hl n hn Q (P ++ [x]) (acc ++ [c]) (by rw [h]; simp) (hD.append (IsD.cons ⟨e2, e3⟩ IsD.nil)) (by simp [hp]) (by rw [List.length_append, List.length_singleton]; omega)
      have e5 : rd l (P.length : Int) = x := by rw [h]; simp [rd, List.getD_eq_getElem?_getD]
      have e6 := wsucc (a := P.length) ⟨by omega⟩
      have e7 : strOfNums [(c.toNat : Int)] = str [c] := strOfNums_B8 [c]
      have hsz : (str acc).size = acc.length := str_size acc
      have hsz1 : (str [c]).size = 1 := str_size [c]
      refine ⟨m, m1, m2, Ev.step (f := fun k => w_Make.l0 k (n : Int) (str (acc ++ [c])) ((P.length + 1 : Nat) : Int) b l) (fun k => ?_) (by simpa using m3)⟩
      simp only [w_Make.l0, e5, e6, e1, Option.bind_some, e7, str_snoc]
      clear e1 e5 e6 m3
      simp (disch := omega) only [if_pos]
theorem make2_f (b : Bool) (l : List Int) (hl : ∀ x, x ∈ l → (Lit.int .u8 x).wf = true) (n : Nat) (hn : n ≤ 400) :
    ∃ u : Nat, u < 10 ^ n ∧ Ev (fun k => w_Make.f k b l (n : Int)) (Z (sgd b u)) := by
  obtain ⟨m, m1, m2, m3⟩ := make2_l0 b l (fun x hx => (wf_u8 (hl x hx)).1) n hn l [] [] rfl IsD.nil rfl (by simp)
  exact ⟨dv m, Nat.lt_of_lt_of_le (dv_lt m1) (Nat.pow_le_pow_right (by decide) m2), m3⟩
def sgn (v : Int) : Int := if v = 0 then 0 else if v < 0 then -1 else 1
theorem Z_nat (u : Nat) : Z (u : Int) = S u := by unfold Z S; rw [itoa_n]
theorem Z_neg (u : Nat) (h : 1 ≤ u) : Z (-(u : Int)) = str (45 :: Lib.decDigits u) := by unfold Z; rw [itoa_m u h]; rfl
theorem neg_Z (v : Int) : neg (Z v).data.toList = decide (v < 0) ∧ str (mag (Z v).data.toList) = S v.natAbs := by
  by_cases h : v < 0
  · obtain ⟨u, rfl⟩ : ∃ u : Nat, v = -(u : Int) := ⟨v.natAbs, by omega⟩
    rw [Z_neg u (by omega), str_list, decide_eq_true h]
    have e : (-(u : Int)).natAbs = u := by omega
    rw [e]
    exact ⟨rfl, rfl⟩
  · obtain ⟨u, rfl⟩ : ∃ u : Nat, v = (u : Int) := ⟨v.toNat, by omega⟩
    obtain ⟨c, r, e, c1, c2⟩ := dec_first u
    have hn : neg (S u).data.toList = false := by
      rw [S_list, e, neg_cons, beq_eq_false_iff_ne]; omega
    rw [Z_nat, decide_eq_false h, hn]
    refine ⟨rfl, ?_⟩
    unfold mag
    rw [hn, if_neg (by decide), str_self]
    rfl
theorem split_Z (v : Int) : z_split.f (Z v) = some (decide (v < 0), S v.natAbs) := by
  rw [split_f, (neg_Z v).1, (neg_Z v).2]
theorem digits_Z (v : Int) : r_digits.f (Z v) = some (S v.natAbs) := by
  rw [digits_f, (neg_Z v).2]
theorem Z_first (v : Int) : ∃ c t, (Z v).data.toList = c :: t ∧ (c = 45 ↔ v < 0) := by
  rw [Z_list]
  by_cases h : v < 0
  · obtain ⟨u, rfl⟩ : ∃ u : Nat, v = -(u : Int) := ⟨v.natAbs, by omega⟩
    exact ⟨45, Lib.decDigits u, itoa_m u (by omega), fun _ => h, fun _ => rfl⟩
  · obtain ⟨u, rfl⟩ : ∃ u : Nat, v = (u : Int) := ⟨v.toNat, by omega⟩
    obtain ⟨c, r, e, c1, c2⟩ := dec_first u
    refine ⟨c, r, by rw [itoa_n, e], fun h2 => ?_, fun h2 => absurd h2 h⟩
    rw [h2] at c1
    exact absurd c1 (by decide)
theorem itoa_inj {a b : Int} (h : Lib.itoa a = Lib.itoa b) : a = b := by
  have ha := neg_Z a
  have hb := neg_Z b
  rw [Z_list] at ha hb
  rw [h] at ha
  have h1 : decide (a < 0) = decide (b < 0) := ha.1.symm.trans hb.1
  have h2 := S_inj (ha.2.symm.trans hb.2)
  rw [decide_eq_decide] at h1
  omega
theorem Z_is0 (v : Int) : (Z v).toList = ([48] : List UInt8) ↔ v = 0 := by
  rw [toList_data, Z_list]
  have e : Lib.itoa 0 = [48] := by
    have := itoa_n 0
    rw [dec_small (by decide)] at this
    exact this
  rw [← e]
  exact ⟨itoa_inj, fun h => by rw [h]⟩
theorem wsign_f (v : Int) : z_Sign.f (Z v) = some (sgn v) := by
  obtain ⟨c, t, e, hc⟩ := Z_first v
  have h1 := size_list (Z v)
  rw [e, List.length_cons] at h1
  unfold z_Sign.f sgn
  by_cases h0 : v = 0
  · rw [if_pos ((Z_is0 v).2 h0), if_pos h0]
  · rw [if_neg (fun h => h0 ((Z_is0 v).1 h)), if_neg h0, if_pos (by omega), bt0 (Z v) c t e]
    by_cases hn : v < 0
    · rw [if_pos hn, if_pos ((c45 c).2 (hc.2 hn))]
    · rw [if_neg hn, if_neg (fun h => hn (hc.1 ((c45 c).1 h)))]
theorem r2sign_f (v : Int) : r_Sign.f (Z v) = some (sgn v) := wsign_f v
theorem side_f (v : Int) : r_side.f (Z v) = some (if v < 0 then -1 else 1) := by
  unfold r_side.f
  rw [r2sign_f, Option.bind_some]
  unfold sgn
  by_cases h0 : v = 0
  · rw [if_pos h0, if_neg (by decide), if_neg (by omega)]
  · rw [if_neg h0]
    by_cases hn : v < 0
    · rw [if_pos hn, if_pos (by decide)]
    · rw [if_neg hn, if_neg (by decide)]
theorem join_Z (n : Bool) (u : Nat) (hs : Lib.nDigits u < 4611686018427387904) : z_join.f n (S u) = some (Z (sgd n u)) := by
  unfold z_join.f sgd
  have h0 : (S u).toList = ([48] : List UInt8) ↔ u = 0 := by
    have := Z_is0 (u : Int)
    rw [Z_nat] at this
    exact this.trans ⟨fun h => by omega, fun h => by omega⟩
  have hsz := S_size u
  by_cases hn : n = true
  · rw [if_pos hn, if_pos hn]
    by_cases hu : u = 0
    · subst hu
      rw [if_pos (h0.2 rfl)]
      rfl
    · rw [if_neg (fun h => hu (h0.1 h)), if_pos (by omega), Z_neg u (by omega)]
      congr 1
  · rw [if_neg hn, if_neg hn, Z_nat]
theorem wneg_f (v : Int) (hs : Lib.nDigits v.natAbs < 4611686018427387904) : z_Neg.f (Z v) = some (Z (-v)) := by
  unfold z_Neg.f
  rw [split_Z, Option.bind_some, join_Z _ _ hs, Option.bind_some]
  congr 2
  unfold sgd
  by_cases h : v < 0
  · rw [decide_eq_true h]; simp; omega
  · rw [decide_eq_false h]; simp; omega
theorem wabs_f (v : Int) : z_Abs.f (Z v) = some (S v.natAbs) := by
  unfold z_Abs.f
  rw [split_Z]
  rfl
theorem r2abs_f (v : Int) : r_Abs.f (Z v) = some (S v.natAbs) := by
  unfold r_Abs.f
  rw [digits_Z]
  rfl
end Go.Proofs.YtgicckcahhlbjaaGreatDoor.P

namespace Go.Proofs.YtgicckcahhlbjaaGreatDoor.P
open Go.RowKit Go.Proofs.YtgicckcahhlbjaaGreatDoorW.PrintWords
def small64 (v : Int) : Int × Bool := if -9223372036854775808 ≤ v ∧ v ≤ 9223372036854775807 then (v, true) else (0, false)
theorem Z_len (v : Int) : (Z v).size ≤ Lib.nDigits v.natAbs + 1 := by
  rw [size_list, Z_list]
  by_cases h : v < 0
  · obtain ⟨u, rfl⟩ : ∃ u : Nat, v = -(u : Int) := ⟨v.natAbs, by omega⟩
    have e : (-(u : Int)).natAbs = u := by omega
    rw [itoa_m u (by omega), e, List.length_cons, Lib.decDigits_length]
    exact Nat.le_refl _
  · obtain ⟨u, rfl⟩ : ∃ u : Nat, v = (u : Int) := ⟨v.toNat, by omega⟩
    have e : (u : Int).natAbs = u := by omega
    rw [itoa_n, e, Lib.decDigits_length]
    exact Nat.le_succ _
theorem sm_d {c : UInt8} (h : 48 ≤ c.toNat ∧ c.toNat ≤ 57) : wrap64 (wrap64 (c.toNat : Int) - 48) = ((c.toNat - 48 : Nat) : Int) := by
  rw [w64 (n := (c.toNat : Int)) (by omega) (by omega), w64 (by omega) (by omega)]; omega
theorem sm_lim (d : Nat) (h : d ≤ 9) : wrap64 (Int.tdiv (wrap64 ((-9223372036854775808) + (d : Int))) 10) = -(((9223372036854775808 - d) / 10 : Nat) : Int) := by
  have e1 : wrap64 ((-9223372036854775808) + (d : Int)) = -((9223372036854775808 - d : Nat) : Int) := by rw [w64 (by omega) (by omega)]; omega
  have e2 : Int.tdiv ((9223372036854775808 - d : Nat) : Int) 10 = (((9223372036854775808 - d) / 10 : Nat) : Int) := tdivn _ 10
  rw [e1, Int.neg_tdiv, e2]
  clear e1 e2
  rw [w64 (by omega) (by omega)]
theorem sm_next (p d : Nat) (hd : d ≤ 9) (h : 10 * p + d ≤ 9223372036854775808) : wrap64 (wrap64 (-(p : Int) * 10) - (d : Int)) = -((10 * p + d : Nat) : Int) := by
  rw [w64 (n := -(p : Int) * 10) (by omega) (by omega), w64 (by omega) (by omega)]; omega
def smres (mf : Bool) (u : Nat) : Int × Bool := if mf = true then (if u ≤ 9223372036854775808 then (-(u : Int), true) else (0, false)) else (if u < 9223372036854775808 then ((u : Int), true) else (0, false))
theorem r2small_l0 (s : ByteArray) (hs : s.size < 4611686018427387904) (H : List UInt8) (mf : Bool) (D : List UInt8) (hsD : s.data.toList = H ++ D) (hD : IsD D) : ∀ (Q P : List UInt8), D = P ++ Q → dv P ≤ 9223372036854775808 →
    Ev (fun k => r_Small.l0 k s ((H.length + P.length : Nat) : Int) mf (-(dv P : Int))) (smres mf (dv D))
  | [], P, h, hp => by
    rw [List.append_nil] at h
    have h1 := size_list s
    rw [hsD, List.length_append, h] at h1
    rw [h]
    refine Ev.step (f := fun _ => some (smres mf (dv P))) (fun k => ?_) (Ev.now _)
    rw [r_Small.l0, if_neg (by omega)]
    unfold smres
    by_cases hm : mf = true
    · rw [if_pos hm, if_pos hm, if_pos hp]
    · rw [if_neg hm, if_neg hm]
      by_cases h2 : dv P < 9223372036854775808
      · have e : wrap64 (-(-(dv P : Int))) = (dv P : Int) := by rw [w64 (by omega) (by omega)]; omega
        rw [if_neg (by omega), if_pos h2, e]
      · rw [if_pos (by omega), if_neg h2]
  | c :: Q, P, h, hp => by
    have hl : s.data.toList = (H ++ P) ++ c :: Q := by rw [hsD, h]; simp
    have h1 := size_mid s (H ++ P) Q c hl
    have hHP : (H ++ P).length = H.length + P.length := List.length_append
    have e1 := bt_mid s (H ++ P) Q c hl
    rw [hHP] at e1 h1
    have hc := hD c (by rw [h]; simp)
    have hd : c.toNat - 48 ≤ 9 := by omega
    have s1 : Sm (H.length + P.length) := ⟨by omega⟩
    have hpre := dv_prefix1 P Q c
    rw [← h] at hpre
    by_cases hf : 9223372036854775808 < 10 * dv P + (c.toNat - 48)
    · have hres : smres mf (dv D) = (0, false) := by
        unfold smres
        by_cases hm : mf = true
        · rw [if_pos hm, if_neg (by omega)]
        · rw [if_neg hm, if_neg (by omega)]
      rw [hres]
      have hlt : -(dv P : Int) < -(((9223372036854775808 - (c.toNat - 48)) / 10 : Nat) : Int) := by omega
      have g1 : ¬ ((c.toNat - 48 : Nat) : Int) < 0 := by omega
      have g2 : ¬ ((c.toNat - 48 : Nat) : Int) > 9 := by omega
      have g3 : ((H.length + P.length : Nat) : Int) < (s.size : Int) := by omega
      have g4 : 0 ≤ ((H.length + P.length : Nat) : Int) := by omega
      have e2 := sm_d hc
      have e3 := sm_lim (c.toNat - 48) hd
      refine Ev.step (f := fun _ => some (0, false)) (fun k => ?_) (Ev.now _)
      rw [r_Small.l0, if_pos g3, if_pos g4, e1, e2, if_neg g1, if_neg g2, e3, if_pos hlt]
    · have ih := r2small_l0 s hs H mf D hsD hD Q (P ++ [c]) (by rw [h]; simp) (by rw [dv_snoc]; omega)
      rw [dv_snoc, List.length_append, List.length_singleton, ← Nat.add_assoc] at ih
      have hlt : ¬ -(dv P : Int) < -(((9223372036854775808 - (c.toNat - 48)) / 10 : Nat) : Int) := by omega
      have g1 : ¬ ((c.toNat - 48 : Nat) : Int) < 0 := by omega
      have g2 : ¬ ((c.toNat - 48 : Nat) : Int) > 9 := by omega
      have g3 : ((H.length + P.length : Nat) : Int) < (s.size : Int) := by omega
      have g4 : 0 ≤ ((H.length + P.length : Nat) : Int) := by omega
      have e2 := sm_d hc
      have e3 := sm_lim (c.toNat - 48) hd
      have e4 := sm_next (dv P) (c.toNat - 48) hd (by clear e2 e3 e1; omega)
      have e5 := wsucc s1
      refine Ev.step (fun k => ?_) ih
      rw [r_Small.l0, if_pos g3, if_pos g4, e1, e2, if_neg g1, if_neg g2, e3, if_neg hlt, e4, e5]
theorem r2small_f (v : Int) (hd : Lib.nDigits v.natAbs ≤ 400) : Ev (fun k => r_Small.f k (Z v)) (small64 v) := by
  have hsz := Z_len v
  have h1 := size_list (Z v)
  unfold r_Small.f
  by_cases hn : v < 0
  · obtain ⟨u, rfl⟩ : ∃ u : Nat, v = -(u : Int) := ⟨v.natAbs, by omega⟩
    have hl : (Z (-(u : Int))).data.toList = 45 :: Lib.decDigits u := by rw [Z_list, itoa_m u (by omega)]
    have hp := dec_len_pos u
    rw [hl, List.length_cons] at h1
    have key := r2small_l0 (Z (-(u : Int))) (by omega) [45] true (Lib.decDigits u) hl (isD_dec u) (Lib.decDigits u) [] rfl (by decide)
    rw [dv_dec] at key
    have hres : smres true u = small64 (-(u : Int)) := by
      unfold smres small64
      rw [if_pos rfl]
      by_cases h : u ≤ 9223372036854775808
      · rw [if_pos h, if_pos (by omega)]
      · rw [if_neg h, if_neg (by omega)]
    rw [hres] at key
    refine Ev.pos (by omega) (Ev.pos (by omega) ?_)
    rw [bt0 _ 45 (Lib.decDigits u) hl]
    have hb : (((45 : UInt8).toNat : Int) == 45) = true := rfl
    rw [hb]
    have jstep : ∀ k, r_Small.j1 (k + 1) (Z (-(u : Int))) 1 = r_Small.l0 k (Z (-(u : Int))) ((([45] : List UInt8).length + ([] : List UInt8).length : Nat) : Int) true (-(dv [] : Int)) := fun k => by
      rw [r_Small.j1, if_neg (by omega)]
      rfl
    have key2 := Ev.step (g := fun k => r_Small.j1 k (Z (-(u : Int))) 1) jstep key
    exact Ev.step (fun k => by rw [r_Small.j0, if_pos rfl]) key2
  · obtain ⟨u, rfl⟩ : ∃ u : Nat, v = (u : Int) := ⟨v.toNat, by omega⟩
    have hl : (Z (u : Int)).data.toList = Lib.decDigits u := by rw [Z_list, itoa_n]
    obtain ⟨c, r, e, c1, c2⟩ := dec_first u
    have hp := dec_len_pos u
    rw [hl] at h1
    have key := r2small_l0 (Z (u : Int)) (by omega) [] false (Lib.decDigits u) (by rw [hl]; rfl) (isD_dec u) (Lib.decDigits u) [] rfl (by decide)
    rw [dv_dec] at key
    have hres : smres false u = small64 (u : Int) := by
      unfold smres small64
      rw [if_neg (by decide)]
      by_cases h : u < 9223372036854775808
      · rw [if_pos h, if_pos (by omega)]
      · rw [if_neg h, if_neg (by omega)]
    rw [hres] at key
    refine Ev.pos (by omega) (Ev.pos (by omega) ?_)
    rw [bt0 _ c r (by rw [hl, e])]
    have hb : ((c.toNat : Int) == 45) = false := by rw [beq_eq_false_iff_ne]; omega
    rw [hb]
    have jstep : ∀ k, r_Small.j1 (k + 1) (Z (u : Int)) 0 = r_Small.l0 k (Z (u : Int)) ((([] : List UInt8).length + ([] : List UInt8).length : Nat) : Int) false (-(dv [] : Int)) := fun k => by
      rw [r_Small.j1, if_neg (by omega)]
      rfl
    have key2 := Ev.step (g := fun k => r_Small.j1 k (Z (u : Int)) 0) jstep key
    exact Ev.step (fun k => by rw [r_Small.j0, if_neg (by decide)]) key2
end Go.Proofs.YtgicckcahhlbjaaGreatDoor.P

namespace Go.Proofs.YtgicckcahhlbjaaGreatDoor.P
open Go.RowKit Go.Proofs.YtgicckcahhlbjaaGreatDoorW.PrintWords
theorem rd_at (L W : List Nat) (x : Nat) (i : Nat) (h : L.length = i) : rd (C (L ++ x :: W)) (i : Int) = x := by rw [rd_C, ← h, getD_mid]
theorem set_at (L W : List Nat) (x y : Nat) (i : Nat) (h : L.length = i) : (C (L ++ x :: W)).set (i : Int).toNat (y : Int) = C (L ++ y :: W) := by rw [Int.toNat_natCast, C_set, ← h, set_mid]
def addrow : Nat → List Nat → List Nat → List Nat
  | _, [], _ => []
  | c, x :: W, [] => ((c + x) % 1000000000) :: W
  | c, x :: W, b :: Q => ((c + x + b) % 1000000000) :: addrow ((c + x + b) / 1000000000) W Q
theorem addrow_spec : ∀ (Q W : List Nat) (c : Nat), W.length = Q.length + 1 → Ok W → Ok Q → c ≤ 1 →
    (addrow c W Q).length = W.length ∧ Ok (addrow c W Q) ∧ ∃ d, d ≤ 1 ∧ val (addrow c W Q) + 1000000000 ^ W.length * d = val W + val Q + c
  | [], [x], c, _, hW, _, hc => by
    have := hW.head
    refine ⟨rfl, Ok.cons (by omega) Ok.nil, (c + x) / 1000000000, by omega, ?_⟩
    simp only [addrow, val, List.length_cons, List.length_nil]
    omega
  | [], [], _, h, _, _, _ => by simp at h
  | [], _ :: _ :: _, _, h, _, _, _ => by simp at h
  | b :: Q, [], c, h, _, _, _ => by simp at h
  | b :: Q, x :: W, c, h, hW, hQ, hc => by
    have h1 := hW.head
    have h2 := hQ.head
    obtain ⟨i1, i2, d, i3, i4⟩ := addrow_spec Q W ((c + x + b) / 1000000000) (by simpa using h) hW.tail hQ.tail (by omega)
    refine ⟨by simp [addrow, i1], Ok.cons (by omega) i2, d, i3, ?_⟩
    simp only [addrow, val, List.length_cons, Nat.pow_succ]
    rw [Nat.mul_comm (1000000000 ^ W.length) 1000000000, Nat.mul_assoc]
    omega
theorem add3 {c x b : Nat} (hc : c ≤ 1) (hx : x < 1000000000) (hb : b < 1000000000) : IntKind.u64.wrap (IntKind.u64.wrap ((c : Int) + (x : Int)) + (b : Int)) = ((c + x + b : Nat) : Int) ∧ IntKind.u64.wrap (((c + x + b) / 1000000000 : Nat) : Int) = (((c + x + b) / 1000000000 : Nat) : Int) ∧ (c + x + b) / 1000000000 ≤ 1 := by
  refine ⟨?_, usmall (by omega), by omega⟩
  rw [uadd (by omega), uadd (by omega)]
theorem add2 {c x : Nat} (hc : c ≤ 1) (hx : x < 1000000000) : IntKind.u64.wrap ((c : Int) + (x : Int)) = ((c + x : Nat) : Int) ∧ IntKind.u64.wrap (((c + x) / 1000000000 : Nat) : Int) = (((c + x) / 1000000000 : Nat) : Int) := ⟨uadd (by omega), usmall (by omega)⟩
theorem back_step0 (k : Nat) (Q1 L R : List Nat) (x at_ c : Nat) (hL : L.length = at_ + Q1.length) (hc : c ≤ 1) (hx : x < 1000000000) (hs : Sm (at_ + Q1.length)) (hs1 : Sm Q1.length) :
    p_back.l0 (k + 1) (C (L ++ x :: R)) (C Q1) (at_ : Int) (c : Int) (Q1.length : Int) = p_back.l0 k (C (L ++ ((c + x) % 1000000000) :: R)) (C Q1) (at_ : Int) ((((c + x) / 1000000000 : Nat)) : Int) ((Q1.length + 1 : Nat) : Int) := by
  have hl1 : (C Q1).length = Q1.length := C_length _
  have hl0 : (C (L ++ x :: R)).length = at_ + Q1.length + (R.length + 1) := by rw [C_length]; simp [hL]
  have e1 := wadd hs
  have e2 := rd_at L R x (at_ + Q1.length) hL
  obtain ⟨e3, e4⟩ := add2 hc hx
  have e5 := wsucc hs1
  have e6 := set_at L R x ((c + x) % 1000000000) _ hL
  simp only [p_back.l0, e1, e2, e3, tdiv9, tmod9, e4, e5, e6]
  clear e1 e2 e3 e4 e5 e6
  simp (disch := omega) only [if_pos, if_neg]
theorem back_step1 (k : Nat) (Q1 Q2 L R : List Nat) (x b at_ c : Nat) (hL : L.length = at_ + Q1.length) (hc : c ≤ 1) (hx : x < 1000000000) (hb : b < 1000000000) (hs : Sm (at_ + Q1.length)) (hs1 : Sm Q1.length) :
    p_back.l0 (k + 1) (C (L ++ x :: R)) (C (Q1 ++ b :: Q2)) (at_ : Int) (c : Int) (Q1.length : Int) = p_back.l0 k (C (L ++ ((c + x + b) % 1000000000) :: R)) (C (Q1 ++ b :: Q2)) (at_ : Int) ((((c + x + b) / 1000000000 : Nat)) : Int) ((Q1.length + 1 : Nat) : Int) := by
  have hl1 : (C (Q1 ++ b :: Q2)).length = Q1.length + (Q2.length + 1) := by rw [C_length]; simp
  have hl0 : (C (L ++ x :: R)).length = at_ + Q1.length + (R.length + 1) := by rw [C_length]; simp [hL]
  have e1 := wadd hs
  have e2 := rd_at L R x (at_ + Q1.length) hL
  have e7 := rd_at Q1 Q2 b Q1.length rfl
  obtain ⟨e3, e4, _⟩ := add3 hc hx hb
  have e5 := wsucc hs1
  have e6 := set_at L R x ((c + x + b) % 1000000000) _ hL
  simp only [p_back.l0, e1, e2, e7, e3, tdiv9, tmod9, e4, e5, e6]
  clear e1 e2 e3 e4 e5 e6 e7
  simp (disch := omega) only [if_pos]
theorem back_end (k : Nat) (p q : List Int) (y c : Int) (z : Nat) (hz : z = q.length + 1) : p_back.l0 (k + 1) p q y c (z : Int) = some p := by
  simp (disch := omega) only [p_back.l0, if_neg]
theorem back_l0 : ∀ (Q2 Q1 L W R : List Nat) (at_ c : Nat), W.length = Q2.length + 1 → L.length = at_ + Q1.length → Ok W → Ok Q2 → c ≤ 1 → Sm (at_ + (Q1 ++ Q2).length) →
    Ev (fun k => p_back.l0 k (C (L ++ W ++ R)) (C (Q1 ++ Q2)) (at_ : Int) (c : Int) (Q1.length : Int)) (C (L ++ addrow c W Q2 ++ R))
  | [], Q1, L, [x], R, at_, c, _, hL, hW, _, hc, hs => by
    have e0 : L ++ [x] ++ R = L ++ x :: R := by simp
    rw [e0, List.append_nil]
    rw [List.append_nil] at hs
    refine Ev.step (fun k => back_step0 k Q1 L R x at_ c hL hc hW.head hs (hs.le (by omega))) (Ev.step (f := fun _ => some (C (L ++ ((c + x) % 1000000000) :: R))) (fun k => back_end k _ _ _ _ _ (by rw [C_length])) (Ev.eq (Ev.now _) (by simp [addrow])))
  | [], _, _, [], _, _, _, h, _, _, _, _, _ => by simp at h
  | [], _, _, _ :: _ :: _, _, _, _, h, _, _, _, _, _ => by simp at h
  | b :: Q2, _, _, [], _, _, _, h, _, _, _, _, _ => by simp at h
  | b :: Q2, Q1, L, x :: W, R, at_, c, hW2, hL, hW, hQ, hc, hs => by
    have e0 : L ++ x :: W ++ R = L ++ x :: (W ++ R) := by simp
    have hs1 : Sm (at_ + Q1.length) := hs.le (by simp)
    have ih := back_l0 Q2 (Q1 ++ [b]) (L ++ [(c + x + b) % 1000000000]) W R at_ ((c + x + b) / 1000000000) (by simpa using hW2) (by simp [hL]; omega) hW.tail hQ.tail (add3 hc hW.head hQ.head).2.2 (hs.le (by simp))
    rw [e0]
    refine Ev.step (fun k => back_step1 k Q1 Q2 L (W ++ R) x b at_ c hL hc hW.head hQ.head hs1 (hs1.le (by omega))) (Ev.eq (r := C (L ++ [(c + x + b) % 1000000000] ++ addrow ((c + x + b) / 1000000000) W Q2 ++ R)) ?_ (by simp [addrow]))
    simpa using ih
theorem back_f (L W R Q : List Nat) (hW : W.length = Q.length + 1) (h1 : Ok W) (h2 : Ok Q) (hs : Sm (L.length + Q.length)) :
    Ev (fun k => p_back.f k (C (L ++ W ++ R)) (C Q) (L.length : Int)) (C (L ++ addrow 0 W Q ++ R)) := by
  unfold p_back.f
  exact back_l0 Q [] L W R L.length 0 hW (by simp) h1 h2 (by omega) (by simpa using hs)
end Go.Proofs.YtgicckcahhlbjaaGreatDoor.P

namespace Go.Proofs.YtgicckcahhlbjaaGreatDoor.P
open Go.RowKit Go.Proofs.YtgicckcahhlbjaaGreatDoorW.PrintWords
theorem rdI (L W : List Int) (x : Int) (i : Nat) (h : L.length = i) : rd (L ++ x :: W) (i : Int) = x := by
  subst h
  simp [rd, List.getD_eq_getElem?_getD]
theorem setI (L W : List Int) (x y : Int) (i : Nat) (h : L.length = i) : (L ++ x :: W).set i y = L ++ y :: W := by
  subst h
  simp
theorem ends_of {α : Type} {m : List α} (h : 2 ≤ m.length) : ∃ a w b, m = a :: (w ++ [b]) ∧ w.length + 2 = m.length := by
  rcases m with _ | ⟨a, t⟩
  · simp at h
  · rcases List.eq_nil_or_concat t with e | ⟨w, b, e⟩
    · subst e; simp at h
    · exact ⟨a, w, b, by rw [e]; simp, by rw [e]; simp⟩
theorem reverse_l0 : ∀ (n : Nat) (M L R : List Int), M.length = n → L.length = R.length → (L ++ M ++ R).length < 4611686018427387904 →
    Ev (fun k => s_Rev.l0 k (L ++ M ++ R) (L.length : Int) ((L.length : Int) + (M.length : Int) - 1)) (L ++ M.reverse ++ R) := by
  intro n
  induction n using Nat.strongRecOn with
  | _ n ih =>
    intro M L R hn hl hs
    by_cases h2 : 2 ≤ M.length
    · obtain ⟨a, w, b, rfl, hw⟩ := ends_of h2
      have hs2 := hs
      simp only [List.length_append] at hs2
      have e0 : L ++ a :: (w ++ [b]) ++ R = L ++ a :: (w ++ b :: R) := by simp
      have e0' : L ++ a :: (w ++ [b]) ++ R = (L ++ a :: w) ++ b :: R := by simp
      have e1 : rd (L ++ a :: (w ++ [b]) ++ R) (L.length : Int) = a := by rw [e0, rdI _ _ _ _ rfl]
      have e2 : rd (L ++ a :: (w ++ [b]) ++ R) ((L.length + w.length + 1 : Nat) : Int) = b := by rw [e0', rdI _ _ _ _ (by simp; omega)]
      have e3 : ((L ++ a :: (w ++ [b]) ++ R).set L.length b).set (L.length + w.length + 1) a = (L ++ [b]) ++ w ++ (a :: R) := by
        rw [e0, setI _ _ _ _ _ rfl, show L ++ b :: (w ++ b :: R) = (L ++ b :: w) ++ b :: R by simp, setI _ _ _ _ _ (by simp; omega)]
        simp
      have e4 : ((L.length : Int) + ((a :: (w ++ [b])).length : Int) - 1) = ((L.length + w.length + 1 : Nat) : Int) := by rw [← hw]; omega
      have e7 : (L ++ a :: (w ++ [b]) ++ R).length = L.length + (w.length + 2) + R.length := by simp; omega
      have key := ih w.length (by omega) w (L ++ [b]) (a :: R) rfl (by simp [hl]) (by simp only [List.length_append, List.length_cons, List.length_nil]; omega)
      have s1 : Sm L.length := ⟨by omega⟩
      have s2 : Sm (L.length + w.length + 1) := ⟨by omega⟩
      have e5 := wsucc s1
      have e6 := wpred1 s2
      have e8 : L ++ (a :: (w ++ [b])).reverse ++ R = (L ++ [b]) ++ w.reverse ++ (a :: R) := by simp
      rw [e8, e4]
      refine Ev.step (f := fun k => s_Rev.l0 k ((L ++ [b]) ++ w ++ (a :: R)) ((L.length + 1 : Nat) : Int) ((L.length + w.length : Nat) : Int)) (fun k => ?_) ?_
      · simp only [s_Rev.l0, e1, e2, e5, e6, Int.toNat_natCast, e3, e7]
        clear e1 e2 e3 e5 e6 e4 key ih
        simp (disch := omega) only [if_pos]
      · have e9 : (((L ++ [b]).length : Int) + (w.length : Int) - 1) = ((L.length + w.length : Nat) : Int) := by simp; omega
        rw [e9] at key
        simpa using key
    · refine Ev.step (f := fun _ => some (L ++ M ++ R)) (fun k => ?_) (Ev.eq (Ev.now _) ?_)
      · simp (disch := omega) only [s_Rev.l0, if_neg]
      · rcases M with _ | ⟨a, _ | ⟨b, t⟩⟩
        · rfl
        · rfl
        · simp at h2
theorem reverse_f (M : List Int) (hs : M.length < 4611686018427387904) : Ev (fun k => s_Rev.f k M) M.reverse := by
  have key := reverse_l0 M.length M [] [] rfl rfl (by simpa using hs)
  unfold s_Rev.f
  rw [w64 (by omega) (by omega)]
  simpa using key
theorem tdig (n : Nat) (h : n < 1000000000000000000) : (IntKind.u64.wrap (48 + Int.tmod (n : Int) 10)) % 256 = ((UInt8.ofNat (48 + n % 10)).toNat : Int) ∧ IntKind.u64.wrap (Int.tdiv (n : Int) 10) = ((n / 10 : Nat) : Int) := by
  have h1 : Int.tmod (n : Int) 10 = ((n % 10 : Nat) : Int) := tmodn n 10
  have h2 : Int.tdiv (n : Int) 10 = ((n / 10 : Nat) : Int) := tdivn n 10
  have h3 : n % 10 < 10 := Nat.mod_lt _ (by decide)
  refine ⟨?_, ?_⟩
  · rw [h1, u64w (by omega) (by omega), digit_toNat h3]; omega
  · rw [h2, usmall (by omega)]
theorem text_mid (p : List Int) (i : Nat) (hi : Sm (i + 1)) (hp : i + 1 < p.length) (r : ByteArray) : ∀ (c j n : Nat) (out : List UInt8), j + c = 9 → n < 1000000000 → out.length + c < 140737488355328 →
    Ev (fun k => p_text.l0 k p (B8 (out ++ dgs c n)) p (p.length : Int) ((i + 1 : Nat) : Int)) r → Ev (fun k => p_text.l1 k p (B8 out) (i : Int) (n : Int) (j : Int) p (p.length : Int) (i : Int)) r
  | 0, j, n, out, hj, hn, ho, h => by
    have e1 := wsucc (a := i) (hi.le (by omega))
    rw [dgs, List.append_nil] at h
    refine Ev.step (fun k => ?_) h
    simp only [p_text.l1, e1]
    clear e1
    simp (disch := omega) only [if_neg]
  | c + 1, j, n, out, hj, hn, ho, h => by
    have s1 : n < 1000000000000000000 := by omega
    have s2 : Sm j := ⟨by omega⟩
    have ih := text_mid p i hi hp r c (j + 1) (n / 10) (out ++ [UInt8.ofNat (48 + n % 10)]) (by omega) (by omega) (by simp; omega) (by simpa [dgs] using h)
    have e1 := wsucc (a := i) (hi.le (by omega))
    obtain ⟨e2, e3⟩ := tdig n s1
    have e4 := wsucc s2
    have e5 : B8 out ++ [((UInt8.ofNat (48 + n % 10)).toNat : Int)] = B8 (out ++ [UInt8.ofNat (48 + n % 10)]) := by rw [B8_append]; rfl
    have e6 : (B8 out).length = out.length := B8_length _
    refine Ev.step (fun k => ?_) ih
    simp only [p_text.l1, e1, e2, e3, e4, e5]
    clear e1 e2 e3 e4 e5
    simp (disch := omega) only [if_pos]
theorem text_last (p : List Int) (i : Nat) (hi : Sm (i + 1)) (hp : i + 1 = p.length) (r : ByteArray) : ∀ (c j n : Nat) (out : List UInt8), j + c = 9 → n < 10 ^ c → out.length + c < 140737488355328 →
    Ev (fun k => p_text.l0 k p (B8 (out ++ (if n = 0 then [] else rdig n))) p (p.length : Int) ((i + 1 : Nat) : Int)) r → Ev (fun k => p_text.l1 k p (B8 out) (i : Int) (n : Int) (j : Int) p (p.length : Int) (i : Int)) r
  | 0, j, n, out, hj, hn, ho, h => by
    have e1 := wsucc (a := i) (hi.le (by omega))
    have h0 : n = 0 := by simpa using hn
    subst h0
    rw [if_pos rfl, List.append_nil] at h
    refine Ev.step (fun k => ?_) h
    simp only [p_text.l1, e1]
    clear e1
    simp (disch := omega) only [if_neg]
  | c + 1, j, n, out, hj, hn, ho, h => by
    have h9 : 10 ^ (c + 1) ≤ 10 ^ 9 := Nat.pow_le_pow_right (by decide) (by omega)
    have h99 : (10 : Nat) ^ 9 = 1000000000 := by decide
    rw [h99] at h9
    by_cases h0 : n = 0
    · subst h0
      rw [if_pos rfl, List.append_nil] at h
      have e1 := wsucc (a := i) (hi.le (by omega))
      refine Ev.step (fun k => ?_) h
      simp only [p_text.l1, e1]
      clear e1 h9 hn
      simp (disch := omega) only [if_pos, if_neg]
    · have s1 : n < 1000000000000000000 := by omega
      have s2 : Sm j := ⟨by omega⟩
      have e5 : B8 out ++ [((UInt8.ofNat (48 + n % 10)).toNat : Int)] = B8 (out ++ [UInt8.ofNat (48 + n % 10)]) := by rw [B8_append]; rfl
      have e6 : (B8 out).length = out.length := B8_length _
      have e7 : UInt8.ofNat (48 + n % 10) :: (if n / 10 = 0 then [] else rdig (n / 10)) = if n = 0 then [] else rdig n := by
        rw [if_neg h0]
        by_cases h10 : n < 10
        · rw [if_pos (by omega), rdig_small h10, Nat.mod_eq_of_lt h10]
        · rw [if_neg (show ¬ n / 10 = 0 by omega), rdig_big (n := n) (by omega)]
      have hn' : n / 10 < 10 ^ c := by rw [Nat.pow_succ] at hn; omega
      have ih := text_last p i hi hp r c (j + 1) (n / 10) (out ++ [UInt8.ofNat (48 + n % 10)]) (by omega) hn' (by simp; omega) (by rw [List.append_assoc, List.singleton_append, e7]; exact h)
      have e1 := wsucc (a := i) (hi.le (by omega))
      obtain ⟨e2, e3⟩ := tdig n s1
      have e4 := wsucc s2
      refine Ev.step (fun k => ?_) ih
      simp only [p_text.l1, e1, e2, e3, e4, e5]
      clear e1 e2 e3 e4 e5 e7 hn hn' h9
      simp (disch := omega) only [if_pos, if_neg]
theorem text_l0 (p : List Nat) (hp : Ok p) (hs : p.length < 8796093022208) : ∀ (Q P : List Nat) (m : Nat) (out : List UInt8), p = P ++ Q → Q = pcs m → out.length = 9 * P.length →
    Ev (fun k => p_text.l0 k (C p) (B8 out) (C p) (p.length : Int) (P.length : Int)) ⟨(out ++ (if m = 0 then [] else rdig m)).reverse.toArray⟩
  | [], P, m, out, hpq, hm, ho => by
    have h0 : m = 0 := pcs_nil_iff.1 hm.symm
    have hl : p.length = P.length := by rw [hpq]; simp
    rw [if_pos h0, List.append_nil]
    have e1 : (B8 out).reverse = B8 out.reverse := by simp [B8]
    have key := reverse_f (B8 out) (by rw [B8_length]; omega)
    rw [e1] at key
    refine Ev.step (f := fun k => (s_Rev.f k (B8 out)).bind fun t141 => (some (strOfNums t141))) (fun k => ?_) (Ev.eq (Ev.bind key (Ev.now _)) (by rw [strOfNums_B8]))
    simp (disch := omega) only [p_text.l0, if_neg]
  | n :: Q, P, m, out, hpq, hm, ho => by
    have hl : p.length = P.length + (Q.length + 1) := by rw [hpq]; simp
    have h0 : m ≠ 0 := fun e => by rw [e, pcs_zero] at hm; cases hm
    rw [pcs_pos h0] at hm
    injection hm with hn hQ
    have e1 : rd (C p) (P.length : Int) = n := by rw [hpq, rd_at _ _ _ _ rfl]
    have hn9 : n < 1000000000 := by rw [hn]; exact Nat.mod_lt _ (by decide)
    have hmn : m = n + 1000000000 * (m / 1000000000) := by omega
    have hC : (C p).length = p.length := C_length _
    refine Ev.step (f := fun k => p_text.l1 k (C p) (B8 out) (P.length : Int) (n : Int) 0 (C p) ((C p).length : Int) (P.length : Int)) (fun k => ?_) ?_
    · simp only [p_text.l0, e1, hC]
      clear e1
      simp (disch := omega) only [if_pos]
    · rw [if_neg h0]
      by_cases hq : m / 1000000000 = 0
      · have hQ0 : Q = [] := by rw [hQ, hq, pcs_zero]
        subst hQ0
        have ih := text_l0 p hp hs [] (P ++ [n]) 0 (out ++ rdig m) (by rw [hpq]; simp) pcs_zero.symm
        have hmn' : m = n := by omega
        refine text_last (C p) P.length ⟨by omega⟩ (by rw [hC]; simpa using hl.symm) _ 9 0 n out (by omega) (by simpa using hn9) (by omega) ?_
        have hn0 : n ≠ 0 := by omega
        rw [if_neg hn0, hC, ← hmn']
        have e9 : (B8 (out ++ rdig m)).reverse = B8 (out ++ rdig m).reverse := by simp [B8]
        have hrl : (rdig m).length ≤ 9 := by rw [rdig, List.length_reverse, Lib.decDigits_length]; exact nDig_le (by decide) (by omega)
        have key := reverse_f (B8 (out ++ rdig m)) (by rw [B8_length, List.length_append]; omega)
        rw [e9] at key
        refine Ev.step (f := fun k => (s_Rev.f k (B8 (out ++ rdig m))).bind fun t141 => (some (strOfNums t141))) (fun k => ?_) (Ev.eq (Ev.bind key (Ev.now _)) (by rw [strOfNums_B8]))
        rw [List.length_nil] at hl
        simp (disch := omega) only [p_text.l0, if_neg]
      · have hQl : 1 ≤ Q.length := by
          rcases Q with _ | ⟨a, t⟩
          · exact absurd (pcs_nil_iff.1 hQ.symm) hq
          · simp
        have ih := text_l0 p hp hs Q (P ++ [n]) (m / 1000000000) (out ++ dgs 9 n) (by rw [hpq]; simp) hQ (by simp [dgs]; omega)
        refine text_mid (C p) P.length ⟨by omega⟩ (by rw [hC]; omega) _ 9 0 n out (by omega) hn9 (by omega) ?_
        rw [if_neg hq] at ih
        rw [hC]
        have e9 : rdig m = dgs 9 n ++ rdig (m / 1000000000) := by
          rw [← dec_val_cons hn9 hq, ← hmn]
        rw [e9, ← List.append_assoc]
        simpa using ih
theorem text_f (n : Nat) (hs : (pcs n).length < 8796093022208) : Ev (fun k => p_text.f k (C (pcs n))) (S n) := by
  unfold p_text.f
  have hC : (C (pcs n)).length = (pcs n).length := C_length _
  rw [hC]
  by_cases h0 : n = 0
  · subst h0
    have hz : (pcs 0).length = 0 := by rw [pcs_zero]; rfl
    simp (disch := omega) only [if_pos]
    rw [zero_str]
    exact Ev.now _
  · have hl : (pcs n).length ≠ 0 := fun e => h0 (pcs_nil_iff.1 (List.length_eq_zero_iff.1 e))
    have key := text_l0 (pcs n) (ok_pcs n) hs (pcs n) [] n [] rfl rfl rfl
    have e1 : wrap64 (9 * ((pcs n).length : Int)) = ((9 * (pcs n).length : Nat) : Int) := by rw [w64 (by omega) (by omega)]; omega
    have e2 : (⟨([] ++ (if n = 0 then [] else rdig n)).reverse.toArray⟩ : ByteArray) = S n := by
      rw [if_neg h0, List.nil_append, rdig, List.reverse_reverse]; rfl
    rw [e2] at key
    simp only [e1, Int.toNat_natCast]
    clear e1 e2
    simp (disch := omega) only [if_pos, if_neg]
    exact key
end Go.Proofs.YtgicckcahhlbjaaGreatDoor.P

namespace Go.Proofs.YtgicckcahhlbjaaGreatDoor.P
open Go.RowKit Go.Proofs.YtgicckcahhlbjaaGreatDoorW.PrintWords
def dig (x e b : Nat) : Nat := if x < e + b then x + 1000000000 - e - b else x - e - b
def bor (x e b : Nat) : Nat := if x < e + b then 1 else 0
theorem dig_bor {x e b : Nat} (hx : x < 1000000000) (he : e < 1000000000) (hb : b ≤ 1) : dig x e b + e + b = x + bor x e b * 1000000000 ∧ dig x e b < 1000000000 ∧ bor x e b ≤ 1 := by
  unfold dig bor
  by_cases h : x < e + b
  · rw [if_pos h, if_pos h]; omega
  · rw [if_neg h, if_neg h]; omega
def subrow (n : Nat) : Nat → Nat → List Nat → List Nat → List Nat × Nat
  | _, b, [], _ => ([], b)
  | c, b, x :: W, [] => (dig x (c % 1000000000) b :: W, bor x (c % 1000000000) b)
  | c, b, x :: W, q :: Q => (dig x ((c + n * q) % 1000000000) b :: (subrow n ((c + n * q) / 1000000000) (bor x ((c + n * q) % 1000000000) b) W Q).1, (subrow n ((c + n * q) / 1000000000) (bor x ((c + n * q) % 1000000000) b) W Q).2)
theorem mul_lt9 {n q c : Nat} (hn : n < 1000000000) (hq : q < 1000000000) (hc : c < 1000000000) : c + n * q < 1000000000000000000 ∧ (c + n * q) / 1000000000 < 1000000000 := by
  have h : n * q ≤ 999999999 * 999999999 := Nat.mul_le_mul (by omega) (by omega)
  omega
theorem subrow_spec (n : Nat) (hn : n < 1000000000) : ∀ (Q W : List Nat) (c b : Nat), W.length = Q.length + 1 → Ok W → Ok Q → c < 1000000000 → b ≤ 1 →
    (subrow n c b W Q).1.length = W.length ∧ Ok (subrow n c b W Q).1 ∧ (subrow n c b W Q).2 ≤ 1 ∧ val (subrow n c b W Q).1 + n * val Q + c + b = val W + 1000000000 ^ W.length * (subrow n c b W Q).2
  | [], [x], c, b, _, hW, _, hc, hb => by
    obtain ⟨h1, h2, h3⟩ := dig_bor (e := c % 1000000000) hW.head (by omega) hb
    refine ⟨rfl, Ok.cons h2 Ok.nil, h3, ?_⟩
    simp only [subrow, val, List.length_cons, List.length_nil, Nat.mul_zero, Nat.zero_add, Nat.pow_one, Nat.add_zero]
    omega
  | [], [], _, _, h, _, _, _, _ => by simp at h
  | [], _ :: _ :: _, _, _, h, _, _, _, _ => by simp at h
  | _ :: _, [], _, _, h, _, _, _, _ => by simp at h
  | q :: Q, x :: W, c, b, h, hW, hQ, hc, hb => by
    obtain ⟨m1, m2⟩ := mul_lt9 hn hQ.head hc
    obtain ⟨h1, h2, h3⟩ := dig_bor (e := (c + n * q) % 1000000000) hW.head (by omega) hb
    obtain ⟨i1, i2, i3, i4⟩ := subrow_spec n hn Q W ((c + n * q) / 1000000000) (bor x ((c + n * q) % 1000000000) b) (by simpa using h) hW.tail hQ.tail m2 h3
    refine ⟨by simp [subrow, i1], Ok.cons h2 i2, i3, ?_⟩
    simp only [subrow, val, List.length_cons, Nat.pow_succ]
    generalize (subrow n ((c + n * q) / 1000000000) (bor x ((c + n * q) % 1000000000) b) W Q) = r at i1 i2 i3 i4 ⊢
    generalize dig x ((c + n * q) % 1000000000) b = dg at h1 ⊢
    generalize bor x ((c + n * q) % 1000000000) b = br at h1 h3 i4 ⊢
    rw [Nat.mul_comm (1000000000 ^ W.length) 1000000000, Nat.mul_assoc, Nat.mul_add, Nat.mul_left_comm n 1000000000]
    generalize n * val Q = u at i4 ⊢
    generalize n * q = nq at *
    generalize 1000000000 ^ W.length * r.2 = pw at i4 ⊢
    omega
theorem tk_d {x e b : Nat} (hx : x < 1000000000) (he : e < 1000000000) (hb : b ≤ 1) : wrap64 (wrap64 (wrap64 (x : Int) - wrap64 (e : Int)) - (b : Int)) = (x : Int) - (e : Int) - (b : Int) := by
  rw [w64 (n := (x : Int)) (by omega) (by omega), w64 (n := (e : Int)) (by omega) (by omega), w64 (n := (x : Int) - e) (by omega) (by omega), w64 (by omega) (by omega)]
theorem tk_lo {x e b : Nat} (hx : x < 1000000000) (he : e < 1000000000) (hb : b ≤ 1) (h : x < e + b) : IntKind.u64.wrap (wrap64 ((x : Int) - (e : Int) - (b : Int) + 1000000000)) = ((dig x e b : Nat) : Int) := by
  unfold dig
  rw [if_pos h, w64 (by omega) (by omega), u64w (by omega) (by omega)]
  omega
theorem tk_hi {x e b : Nat} (hx : x < 1000000000) (h : ¬ x < e + b) : IntKind.u64.wrap ((x : Int) - (e : Int) - (b : Int)) = ((dig x e b : Nat) : Int) := by
  unfold dig
  rw [if_neg h, u64w (by omega) (by omega)]
  omega
theorem tk_lt {x e b : Nat} (h : x < e + b) : (x : Int) - (e : Int) - (b : Int) < 0 := by omega
theorem tk_ge {x e b : Nat} (h : ¬ x < e + b) : ¬ (x : Int) - (e : Int) - (b : Int) < 0 := by omega
theorem tk_mul {n q c : Nat} (hn : n < 1000000000) (hq : q < 1000000000) (hc : c < 1000000000) : IntKind.u64.wrap ((c : Int) + IntKind.u64.wrap ((n : Int) * (q : Int))) = ((c + n * q : Nat) : Int) ∧ IntKind.u64.wrap (((c + n * q) / 1000000000 : Nat) : Int) = (((c + n * q) / 1000000000 : Nat) : Int) := by
  have h : n * q ≤ 999999999 * 999999999 := Nat.mul_le_mul (by omega) (by omega)
  refine ⟨?_, usmall (by omega)⟩
  rw [umul (by omega), uadd (by omega)]
theorem mod_lt9 (n : Nat) : n % 1000000000 < 1000000000 := Nat.mod_lt _ (by decide)
theorem take_step1 (k n : Nat) (Q1 Q2 L R : List Nat) (x q at_ c b : Nat) (hL : L.length = at_ + Q1.length) (hn : n < 1000000000) (hc : c < 1000000000) (hx : x < 1000000000) (hq : q < 1000000000) (hb : b ≤ 1) (hs : Sm (at_ + Q1.length)) (hs1 : Sm Q1.length) :
    p_take.l0 (k + 1) (C (L ++ x :: R)) (C (Q1 ++ q :: Q2)) (n : Int) (at_ : Int) (b : Int) (c : Int) (Q1.length : Int) =
      p_take.l0 k (C (L ++ dig x ((c + n * q) % 1000000000) b :: R)) (C (Q1 ++ q :: Q2)) (n : Int) (at_ : Int) ((bor x ((c + n * q) % 1000000000) b : Nat) : Int) (((c + n * q) / 1000000000 : Nat) : Int) ((Q1.length + 1 : Nat) : Int) := by
  have hl1 : (C (Q1 ++ q :: Q2)).length = Q1.length + (Q2.length + 1) := by rw [C_length]; simp
  have hl0 : (C (L ++ x :: R)).length = at_ + Q1.length + (R.length + 1) := by rw [C_length]; simp [hL]
  obtain ⟨e3, e4⟩ := tk_mul hn hq hc
  have e1 := wadd hs
  have e2 := rd_at L R x (at_ + Q1.length) hL
  have e7 := rd_at Q1 Q2 q Q1.length rfl
  have e5 := wsucc hs1
  have e6 := set_at L R x (dig x ((c + n * q) % 1000000000) b) _ hL
  have e8 := tk_d (e := (c + n * q) % 1000000000) hx (mod_lt9 _) hb
  by_cases h : x < (c + n * q) % 1000000000 + b
  · have e9 := tk_lo hx (mod_lt9 _) hb h
    have eb : bor x ((c + n * q) % 1000000000) b = 1 := if_pos h
    simp only [p_take.l0, e1, e2, e7, e3, tdiv9, tmod9, e4, e5, e8, e9, e6, eb, if_pos (tk_lt h)]
    clear e1 e2 e3 e4 e5 e6 e7 e8 e9 h hx hc hq hn eb
    generalize (c + n * q) % 1000000000 = e
    generalize (c + n * q) / 1000000000 = e'
    simp (disch := omega) only [if_pos]
    rfl
  · have e9 := tk_hi hx h
    have eb : bor x ((c + n * q) % 1000000000) b = 0 := if_neg h
    simp only [p_take.l0, e1, e2, e7, e3, tdiv9, tmod9, e4, e5, e8, e9, e6, eb, if_neg (tk_ge h)]
    clear e1 e2 e3 e4 e5 e6 e7 e8 e9 h hx hc hq hn eb
    generalize (c + n * q) % 1000000000 = e
    generalize (c + n * q) / 1000000000 = e'
    simp (disch := omega) only [if_pos]
    rfl
theorem take_step0 (k n : Nat) (Q1 L R : List Nat) (x at_ c b : Nat) (hL : L.length = at_ + Q1.length) (hc : c < 1000000000) (hx : x < 1000000000) (hb : b ≤ 1) (hs : Sm (at_ + Q1.length)) (hs1 : Sm Q1.length) :
    p_take.l0 (k + 1) (C (L ++ x :: R)) (C Q1) (n : Int) (at_ : Int) (b : Int) (c : Int) (Q1.length : Int) =
      p_take.l0 k (C (L ++ dig x (c % 1000000000) b :: R)) (C Q1) (n : Int) (at_ : Int) ((bor x (c % 1000000000) b : Nat) : Int) ((c / 1000000000 : Nat) : Int) ((Q1.length + 1 : Nat) : Int) := by
  have hl1 : (C Q1).length = Q1.length := C_length _
  have hl0 : (C (L ++ x :: R)).length = at_ + Q1.length + (R.length + 1) := by rw [C_length]; simp [hL]
  have e4 : IntKind.u64.wrap ((c / 1000000000 : Nat) : Int) = ((c / 1000000000 : Nat) : Int) := usmall (by omega)
  have e1 := wadd hs
  have e2 := rd_at L R x (at_ + Q1.length) hL
  have e5 := wsucc hs1
  have e6 := set_at L R x (dig x (c % 1000000000) b) _ hL
  have e8 := tk_d (e := c % 1000000000) hx (mod_lt9 _) hb
  by_cases h : x < c % 1000000000 + b
  · have e9 := tk_lo hx (mod_lt9 _) hb h
    have eb : bor x (c % 1000000000) b = 1 := if_pos h
    simp only [p_take.l0, e1, e2, tdiv9, tmod9, e4, e5, e8, e9, e6, eb, if_pos (tk_lt h)]
    clear e1 e2 e4 e5 e6 e8 e9 h hx hc eb
    generalize c % 1000000000 = e
    generalize c / 1000000000 = e'
    simp (disch := omega) only [if_pos, if_neg]
    rfl
  · have e9 := tk_hi hx h
    have eb : bor x (c % 1000000000) b = 0 := if_neg h
    simp only [p_take.l0, e1, e2, tdiv9, tmod9, e4, e5, e8, e9, e6, eb, if_neg (tk_ge h)]
    clear e1 e2 e4 e5 e6 e8 e9 h hx hc eb
    generalize c % 1000000000 = e
    generalize c / 1000000000 = e'
    simp (disch := omega) only [if_pos, if_neg]
    rfl
theorem take_end (k : Nat) (p q : List Int) (n y c : Int) (b z : Nat) (hz : z = q.length + 1) : p_take.l0 (k + 1) p q n y (b : Int) c (z : Int) = some (decide (0 < b), p) := by
  simp (disch := omega) only [p_take.l0, if_neg]
  congr 2
  simp
theorem take_l0 (n : Nat) (hn : n < 1000000000) : ∀ (Q2 Q1 L W R : List Nat) (at_ c b : Nat), W.length = Q2.length + 1 → L.length = at_ + Q1.length → Ok W → Ok Q2 → c < 1000000000 → b ≤ 1 → Sm (at_ + (Q1 ++ Q2).length) →
    Ev (fun k => p_take.l0 k (C (L ++ W ++ R)) (C (Q1 ++ Q2)) (n : Int) (at_ : Int) (b : Int) (c : Int) (Q1.length : Int)) (decide (0 < (subrow n c b W Q2).2), C (L ++ (subrow n c b W Q2).1 ++ R))
  | [], Q1, L, [x], R, at_, c, b, _, hL, hW, _, hc, hb, hs => by
    have e0 : L ++ [x] ++ R = L ++ x :: R := by simp
    rw [e0, List.append_nil]
    rw [List.append_nil] at hs
    refine Ev.step (fun k => take_step0 k n Q1 L R x at_ c b hL hc hW.head hb hs (hs.le (by omega))) (Ev.step (f := fun _ => some (decide (0 < bor x (c % 1000000000) b), C (L ++ dig x (c % 1000000000) b :: R))) (fun k => take_end k _ _ _ _ _ _ _ (by rw [C_length])) (Ev.eq (Ev.now _) (by simp [subrow] <;> congr)))
  | [], _, _, [], _, _, _, _, h, _, _, _, _, _, _ => by simp at h
  | [], _, _, _ :: _ :: _, _, _, _, _, h, _, _, _, _, _, _ => by simp at h
  | _ :: _, _, _, [], _, _, _, _, h, _, _, _, _, _, _ => by simp at h
  | q :: Q2, Q1, L, x :: W, R, at_, c, b, hW2, hL, hW, hQ, hc, hb, hs => by
    have e0 : L ++ x :: W ++ R = L ++ x :: (W ++ R) := by simp
    have hs1 : Sm (at_ + Q1.length) := hs.le (by simp)
    obtain ⟨_, h2, h3⟩ := dig_bor (x := x) (e := (c + n * q) % 1000000000) (b := b) hW.head (mod_lt9 _) hb
    have ih := take_l0 n hn Q2 (Q1 ++ [q]) (L ++ [dig x ((c + n * q) % 1000000000) b]) W R at_ ((c + n * q) / 1000000000) (bor x ((c + n * q) % 1000000000) b) (by simpa using hW2) (by simp [hL]; omega) hW.tail hQ.tail (mul_lt9 hn hQ.head hc).2 h3 (hs.le (by simp))
    rw [e0]
    refine Ev.step (fun k => take_step1 k n Q1 Q2 L (W ++ R) x q at_ c b hL hn hc hW.head hQ.head hb hs1 (hs1.le (by omega))) (Ev.eq (r := (decide (0 < (subrow n ((c + n * q) / 1000000000) (bor x ((c + n * q) % 1000000000) b) W Q2).2), C (L ++ [dig x ((c + n * q) % 1000000000) b] ++ (subrow n ((c + n * q) / 1000000000) (bor x ((c + n * q) % 1000000000) b) W Q2).1 ++ R))) ?_ (by simp [subrow] <;> congr))
    simpa using ih
theorem take_f (L W R Q : List Nat) (n : Nat) (hn : n < 1000000000) (hW : W.length = Q.length + 1) (h1 : Ok W) (h2 : Ok Q) (hs : Sm (L.length + Q.length)) :
    Ev (fun k => p_take.f k (C (L ++ W ++ R)) (C Q) (n : Int) (L.length : Int)) (decide (0 < (subrow n 0 0 W Q).2), C (L ++ (subrow n 0 0 W Q).1 ++ R)) := by
  unfold p_take.f
  exact take_l0 n hn Q [] L W R L.length 0 0 hW (by simp) h1 h2 (by omega) (by omega) (by simpa using hs)
end Go.Proofs.YtgicckcahhlbjaaGreatDoor.P

namespace Go.Proofs.YtgicckcahhlbjaaGreatDoor.P
open Go.RowKit Go.Proofs.YtgicckcahhlbjaaGreatDoorW.PrintWords
def mrow (a : Nat) : Nat → List Nat → List Nat → List Nat
  | c, [], _ => [c]
  | c, _ :: _, [] => [c]
  | c, w :: W, b :: Q => ((c + (w + a * b)) % 1000000000) :: mrow a ((c + (w + a * b)) / 1000000000) W Q
theorem mrow_arith {a w b c : Nat} (ha : a < 1000000000) (hw : w < 1000000000) (hb : b < 1000000000) (hc : c < 1000000000) :
    IntKind.u64.wrap ((c : Int) + IntKind.u64.wrap ((w : Int) + IntKind.u64.wrap ((a : Int) * (b : Int)))) = ((c + (w + a * b) : Nat) : Int) ∧ IntKind.u64.wrap (((c + (w + a * b)) / 1000000000 : Nat) : Int) = (((c + (w + a * b)) / 1000000000 : Nat) : Int) ∧ (c + (w + a * b)) / 1000000000 < 1000000000 := by
  have h : a * b ≤ 999999999 * 999999999 := Nat.mul_le_mul (by omega) (by omega)
  refine ⟨?_, usmall (by omega), by omega⟩
  rw [umul (by omega), uadd (by omega), uadd (by omega)]
theorem mrow_spec (a : Nat) (ha : a < 1000000000) : ∀ (Q W : List Nat) (c : Nat), W.length = Q.length → Ok W → Ok Q → c < 1000000000 →
    (mrow a c W Q).length = W.length + 1 ∧ Ok (mrow a c W Q) ∧ val (mrow a c W Q) = val W + a * val Q + c
  | [], [], c, _, _, _, hc => ⟨rfl, Ok.cons hc Ok.nil, by simp [mrow, val]⟩
  | [], _ :: _, _, h, _, _, _ => by simp at h
  | _ :: _, [], _, h, _, _, _ => by simp at h
  | b :: Q, w :: W, c, h, hW, hQ, hc => by
    obtain ⟨_, _, m3⟩ := mrow_arith ha hW.head hQ.head hc
    obtain ⟨i1, i2, i3⟩ := mrow_spec a ha Q W ((c + (w + a * b)) / 1000000000) (by simpa using h) hW.tail hQ.tail m3
    refine ⟨by simp [mrow, i1], Ok.cons (mod_lt9 _) i2, ?_⟩
    simp only [mrow, val, i3]
    rw [Nat.mul_add a, Nat.mul_left_comm a 1000000000]
    generalize a * val Q = u
    generalize a * b = ab
    omega
theorem times_in (k : Nat) (Q1 Q2 L R : List Nat) (w b i a c : Nat) (p : List Int) (n m : Int) (hL : L.length = i + Q1.length) (ha : a < 1000000000) (hw : w < 1000000000) (hb : b < 1000000000) (hc : c < 1000000000) (hs : Sm (i + Q1.length)) (hs1 : Sm Q1.length) :
    p_times.l1 (k + 1) (C (Q1 ++ b :: Q2)) (C (L ++ w :: R)) (i : Int) (a : Int) (c : Int) p n m (C (Q1 ++ b :: Q2)) (((Q1 ++ b :: Q2).length : Nat) : Int) (Q1.length : Int) =
      p_times.l1 k (C (Q1 ++ b :: Q2)) (C (L ++ ((c + (w + a * b)) % 1000000000) :: R)) (i : Int) (a : Int) (((c + (w + a * b)) / 1000000000 : Nat) : Int) p n m (C (Q1 ++ b :: Q2)) (((Q1 ++ b :: Q2).length : Nat) : Int) ((Q1.length + 1 : Nat) : Int) := by
  have hl1 : (C (Q1 ++ b :: Q2)).length = Q1.length + (Q2.length + 1) := by rw [C_length]; simp
  have hl2 : (Q1 ++ b :: Q2).length = Q1.length + (Q2.length + 1) := by simp
  have hl0 : (C (L ++ w :: R)).length = i + Q1.length + (R.length + 1) := by rw [C_length]; simp [hL]
  obtain ⟨e3, e4, _⟩ := mrow_arith ha hw hb hc
  have e1 := wadd hs
  have e2 := rd_at L R w (i + Q1.length) hL
  have e7 := rd_at Q1 Q2 b Q1.length rfl
  have e5 := wsucc hs1
  have e6 := set_at L R w ((c + (w + a * b)) % 1000000000) _ hL
  simp only [p_times.l1, e1, e2, e7, e3, tdiv9, tmod9, e4, e5, e6]
  clear e1 e2 e3 e4 e5 e6 e7 ha hw hb hc hs hs1
  generalize (c + (w + a * b)) / 1000000000 = e'
  generalize (c + (w + a * b)) % 1000000000 = e
  simp (disch := omega) only [if_pos]
theorem times_out (k : Nat) (Q L R : List Nat) (z i a c : Nat) (p : List Int) (n : Int) (hL : L.length = i + Q.length) (hs : Sm (i + Q.length)) (hs1 : Sm i) :
    p_times.l1 (k + 1) (C Q) (C (L ++ z :: R)) (i : Int) (a : Int) (c : Int) p n (i : Int) (C Q) ((Q.length : Nat) : Int) (Q.length : Int) =
      p_times.l0 k (C Q) (C (L ++ c :: R)) p n ((i + 1 : Nat) : Int) := by
  have hl1 : (C Q).length = Q.length := C_length _
  have hl0 : (C (L ++ z :: R)).length = i + Q.length + (R.length + 1) := by rw [C_length]; simp [hL]
  have e1 := wadd hs
  have e5 := wsucc hs1
  have e6 := set_at L R z c _ hL
  simp only [p_times.l1, hl1, e1, e5, e6]
  clear e1 e5 e6 hs hs1
  simp (disch := omega) only [if_pos, if_neg]
theorem times_l1 (a : Nat) (ha : a < 1000000000) (p : List Int) (n : Int) {r : List Int} : ∀ (Q2 Q1 L W R : List Nat) (z i c : Nat), W.length = Q2.length → L.length = i + Q1.length → Ok W → Ok Q2 → c < 1000000000 → Sm (i + (Q1 ++ Q2).length) →
    Ev (fun k => p_times.l0 k (C (Q1 ++ Q2)) (C (L ++ mrow a c W Q2 ++ R)) p n ((i + 1 : Nat) : Int)) r →
    Ev (fun k => p_times.l1 k (C (Q1 ++ Q2)) (C (L ++ W ++ z :: R)) (i : Int) (a : Int) (c : Int) p n (i : Int) (C (Q1 ++ Q2)) (((Q1 ++ Q2).length : Nat) : Int) (Q1.length : Int)) r
  | [], Q1, L, [], R, z, i, c, _, hL, _, _, _, hs, hr => by
    rw [List.append_nil] at hs hr ⊢
    rw [List.append_nil]
    exact Ev.step (fun k => times_out k Q1 L R z i a c p n hL hs (hs.le (by omega))) (by simpa [mrow] using hr)
  | [], _, _, _ :: _, _, _, _, _, h, _, _, _, _, _, _ => by simp at h
  | _ :: _, _, _, [], _, _, _, _, h, _, _, _, _, _, _ => by simp at h
  | b :: Q2, Q1, L, w :: W, R, z, i, c, hWQ, hL, hW, hQ, hc, hs, hr => by
    have e0 : L ++ w :: W ++ z :: R = L ++ w :: (W ++ z :: R) := by simp
    have hs1 : Sm (i + Q1.length) := hs.le (by simp)
    have ih := times_l1 a ha p n Q2 (Q1 ++ [b]) (L ++ [(c + (w + a * b)) % 1000000000]) W R z i ((c + (w + a * b)) / 1000000000) (by simpa using hWQ) (by simp [hL]; omega) hW.tail hQ.tail (mrow_arith ha hW.head hQ.head hc).2.2 (hs.le (by simp)) (by simpa [mrow] using hr)
    rw [e0]
    exact Ev.step (fun k => times_in k Q1 Q2 L (W ++ z :: R) w b i a c p n i hL ha hW.head hQ.head hc hs1 (hs1.le (by omega))) (by simpa using ih)
theorem times_head (k : Nat) (P1 P2 : List Nat) (a : Nat) (q out : List Int) :
    p_times.l0 (k + 1) q out (C (P1 ++ a :: P2)) (((P1 ++ a :: P2).length : Nat) : Int) (P1.length : Int) =
      p_times.l1 k q out (P1.length : Int) (a : Int) 0 (C (P1 ++ a :: P2)) (((P1 ++ a :: P2).length : Nat) : Int) (P1.length : Int) q (q.length : Int) 0 := by
  have hl1 : (C (P1 ++ a :: P2)).length = P1.length + (P2.length + 1) := by rw [C_length]; simp
  have hl2 : (P1 ++ a :: P2).length = P1.length + (P2.length + 1) := by simp
  have e2 := rd_at P1 P2 a P1.length rfl
  simp only [p_times.l0, e2]
  clear e2
  simp (disch := omega) only [if_pos]
theorem times_l0 (Q : List Nat) (hQ : Ok Q) : ∀ (P2 P1 M : List Nat), Ok P2 → Ok M → M.length = P1.length + Q.length → val M = val P1 * val Q → Sm ((P1 ++ P2).length + Q.length) →
    Ev (fun k => p_times.l0 k (C Q) (C (M ++ List.replicate P2.length 0)) (C (P1 ++ P2)) (((P1 ++ P2).length : Nat) : Int) (P1.length : Int)) (C (pcs (val (P1 ++ P2) * val Q)))
  | [], P1, M, _, hM, hl, hv, hs => by
    have ht := trim_f M hM (by have := hs.out; simp at this; omega)
    refine Ev.step (f := fun k => (p_trim.f k (C M)).bind fun t163 => (some t163)) (fun k => ?_) (Ev.eq (Ev.bind ht (Ev.now _)) (by rw [hv, List.append_nil]))
    have h : ¬ (P1.length : Int) < ((P1.length : Nat) : Int) := by omega
    simp only [List.append_nil, List.length_nil, List.replicate_zero]
    simp only [p_times.l0, if_neg h]
  | a :: P2, P1, M, hP, hM, hl, hv, hs => by
    have ha := hP.head
    obtain ⟨L, W, rfl, hL⟩ : ∃ L W, M = L ++ W ∧ L.length = P1.length := ⟨M.take P1.length, M.drop P1.length, (List.take_append_drop _ _).symm, by rw [List.length_take]; omega⟩
    have hW : W.length = Q.length := by simp [hL] at hl; omega
    obtain ⟨m1, m2, m3⟩ := mrow_spec a ha Q W 0 hW hM.right hQ (by omega)
    have ih := times_l0 Q hQ P2 (P1 ++ [a]) (L ++ mrow a 0 W Q) hP.tail (hM.left.append m2) (by simp [m1, hL, hW]; omega) (by
      rw [val_append, hL] at hv
      rw [val_append, m3, val_snoc, Nat.add_zero, Nat.mul_add, ← Nat.add_assoc, hL, hv, Nat.add_mul, Nat.mul_assoc]) (hs.le (by simp))
    refine Ev.step (fun k => times_head k P1 P2 a (C Q) _) ?_
    have key := times_l1 a ha (C (P1 ++ a :: P2)) (((P1 ++ a :: P2).length : Nat) : Int) Q [] L W (List.replicate P2.length 0) 0 P1.length 0 hW (by simp [hL]) hM.right hQ (by omega) (hs.le (by simp)) (by simpa using ih)
    simpa [C_length, List.replicate_succ] using key
end Go.Proofs.YtgicckcahhlbjaaGreatDoor.P

namespace Go.Proofs.YtgicckcahhlbjaaGreatDoor.P
open Go.RowKit Go.Proofs.YtgicckcahhlbjaaGreatDoorW.PrintWords
theorem times_f (P Q : List Nat) (hP : Ok P) (hQ : Ok Q) (h : P.length + Q.length < 17592186044416) :
    Ev (fun k => p_times.f k (C P) (C Q)) (C (pcs (val P * val Q))) := by
  have key := times_l0 Q hQ P [] (List.replicate Q.length 0) hP (fun a ha => by have := List.eq_of_mem_replicate ha; omega) (by simp) (by simp [val, val_zeros]) ⟨by simp; omega⟩
  have e1 := wadd (a := P.length) (b := Q.length) ⟨by omega⟩
  have e2 : List.replicate (P.length + Q.length) (0 : Int) = C (List.replicate Q.length 0 ++ List.replicate P.length 0) := by
    rw [List.replicate_append_replicate, ← C_zeros, Nat.add_comm]
  have key2 : Ev (fun k => p_times.l0 k (C Q) (C (List.replicate Q.length 0 ++ List.replicate P.length 0)) (C P) (P.length : Int) 0) (C (pcs (val P * val Q))) := by simpa using key
  unfold p_times.f
  simp only [C_length, e1, Int.toNat_natCast, e2]
  clear e1 e2 key
  simp (disch := omega) only [if_pos]
  exact key2
theorem scaled_f (P : List Nat) (n : Nat) (hP : Ok P) (hn : n < 1000000000) (h : P.length < 8796093022208) :
    Ev (fun k => p_scaled.f k (C P) (n : Int)) (C (pcs (val P * n))) := by
  have ht := trim_f [n] (Ok.cons hn Ok.nil) (by simp)
  have hv : val [n] = n := by simp [val]
  have hl : (pcs n).length ≤ 1 := pcs_len_le (by omega)
  have hm := times_f P (pcs n) hP (ok_pcs n) (by omega)
  rw [val_pcs] at hm
  rw [hv] at ht
  unfold p_scaled.f
  exact Ev.bind ht (Ev.bind hm (Ev.now _))
theorem small_arith {r x n : Nat} (hr : r < n) (hn : n ≤ 1000000000) (hx : x < 1000000000) :
    IntKind.u64.wrap (IntKind.u64.wrap ((r : Int) * 1000000000) + (x : Int)) = ((r * 1000000000 + x : Nat) : Int) ∧ IntKind.u64.wrap (((r * 1000000000 + x) / n : Nat) : Int) = (((r * 1000000000 + x) / n : Nat) : Int) ∧ (r * 1000000000 + x) / n < 1000000000 ∧ (r * 1000000000 + x) % n < n := by
  have h3 : (r * 1000000000 + x) / n < 1000000000 := by rw [Nat.div_lt_iff_lt_mul (by omega)]; omega
  refine ⟨?_, usmall (by omega), h3, Nat.mod_lt _ (by omega)⟩
  rw [show (1000000000 : Int) = ((1000000000 : Nat) : Int) from rfl, umul (by omega), uadd (by omega)]
theorem small_step (k : Nat) (L W O : List Nat) (x r n : Nat) (hn0 : n ≠ 0) (hr : r < n) (hn : n ≤ 1000000000) (hx : x < 1000000000) (hs : Sm (L.length + 1)) :
    p_small.l0 (k + 1) (C (L ++ x :: W)) (n : Int) (C (List.replicate L.length 0 ++ 0 :: O)) (r : Int) ((L.length : Nat) : Int) =
      p_small.l0 k (C (L ++ x :: W)) (n : Int) (C (List.replicate L.length 0 ++ ((r * 1000000000 + x) / n) :: O)) (((r * 1000000000 + x) % n : Nat) : Int) ((L.length : Int) - 1) := by
  have hl1 : (C (L ++ x :: W)).length = L.length + (W.length + 1) := by rw [C_length]; simp
  have hl0 : (C (List.replicate L.length 0 ++ 0 :: O)).length = L.length + (O.length + 1) := by rw [C_length]; simp
  obtain ⟨e3, e4, _, _⟩ := small_arith hr hn hx
  have e1 := wpred (a := L.length) (hs.le (by omega))
  have e2 := rd_at L W x L.length rfl
  have e6 := set_at (List.replicate L.length 0) O 0 ((r * 1000000000 + x) / n) L.length (by simp)
  simp only [p_small.l0, e1, e2, e3, tdivn, tmodn, e4, e6]
  clear e1 e2 e3 e4 e6 hr hn hx hs
  generalize (r * 1000000000 + x) / n = e'
  generalize (r * 1000000000 + x) % n = e
  simp (disch := omega) only [if_pos, if_neg]
theorem small_l0 (n : Nat) (hn0 : n ≠ 0) (hn : n ≤ 1000000000) : ∀ (i : Nat) (L W O : List Nat) (r : Nat) (x8 : Int), L.length = i → x8 = (i : Int) - 1 → O.length = W.length → Ok L → Ok O → r < n → val W = n * val O + r → Sm ((L ++ W).length) →
    Ev (fun k => p_small.l0 k (C (L ++ W)) (n : Int) (C (List.replicate i 0 ++ O)) (r : Int) x8) (C (pcs (val (L ++ W) / n)), ((val (L ++ W) % n : Nat) : Int))
  | 0, L, W, O, r, x8, hi, hx, hO, _, hOk, hr, hv, hs => by
    obtain rfl := List.length_eq_zero_iff.1 hi
    have hl : O.length < 4611686018427387904 := by have := hs.out; simp at this; omega
    have ht := trim_f O hOk hl
    refine Ev.step (f := fun k => (p_trim.f k (C O)).bind fun t131 => (some (t131, (r : Int)))) (fun k => ?_) (Ev.eq (Ev.bind ht (Ev.now _)) ?_)
    · have hneg : ¬ x8 ≥ 0 := by omega
      simp only [p_small.l0, if_neg hneg, List.replicate_zero, List.nil_append]
    · rw [List.nil_append, hv, Nat.add_comm, Nat.add_mul_div_left _ _ (by omega), Nat.add_mul_mod_self_left, Nat.div_eq_of_lt hr, Nat.mod_eq_of_lt hr, Nat.zero_add]
  | i + 1, L, W, O, r, x8, hi, hx, hO, hL, hOk, hr, hv, hs => by
    obtain ⟨L, x, rfl, hL1⟩ := concat_of_len hi
    have hx9 : x < 1000000000 := hL.right.head
    obtain ⟨_, _, m3, m4⟩ := small_arith hr hn hx9
    have e0 : L ++ [x] ++ W = L ++ x :: W := by simp
    have hdm := Nat.div_add_mod (r * 1000000000 + x) n
    have ih := small_l0 n hn0 hn i L (x :: W) (((r * 1000000000 + x) / n) :: O) ((r * 1000000000 + x) % n) ((i : Int) - 1) hL1 rfl (by simp [hO]) hL.left (Ok.cons m3 hOk) m4 (by
      simp only [val]
      rw [hv, Nat.mul_add n, Nat.mul_left_comm n 1000000000]
      generalize n * val O = u at *
      generalize n * ((r * 1000000000 + x) / n) = v at *
      generalize (r * 1000000000 + x) % n = w at *
      omega) (hs.le (by simp))
    have hs1 : Sm (L.length + 1) := hs.le (by simp)
    have e5 : List.replicate (i + 1) 0 ++ O = List.replicate L.length 0 ++ 0 :: O := by rw [List.replicate_succ', hL1]; simp
    have e6 : x8 = ((L.length : Nat) : Int) := by omega
    rw [e0, e5, e6]
    exact Ev.step (fun k => small_step k L W O x r n hn0 hr hn hx9 hs1) (by rw [hL1]; exact ih)
theorem small_f (P : List Nat) (n : Nat) (hP : Ok P) (hn0 : n ≠ 0) (hn : n ≤ 1000000000) (h : P.length < 17592186044416) :
    Ev (fun k => p_small.f k (C P) (n : Int)) (C (pcs (val P / n)), ((val P % n : Nat) : Int)) := by
  have key := small_l0 n hn0 hn P.length P [] [] 0 ((P.length : Int) - 1) rfl rfl rfl hP Ok.nil (by omega) (by simp [val]) ⟨by simp; omega⟩
  have e1 := wpred (a := P.length) ⟨by omega⟩
  have key2 : Ev (fun k => p_small.l0 k (C P) (n : Int) (C (List.replicate P.length 0)) 0 ((P.length : Int) - 1)) (C (pcs (val P / n)), ((val P % n : Nat) : Int)) := by simpa using key
  unfold p_small.f
  simp only [C_length, e1, Int.toNat_natCast, C_zeros]
  clear e1 key
  simp (disch := omega) only [if_pos]
  exact key2
end Go.Proofs.YtgicckcahhlbjaaGreatDoor.P

namespace Go.Proofs.YtgicckcahhlbjaaGreatDoor.P
open Go.RowKit Go.Proofs.YtgicckcahhlbjaaGreatDoorW.PrintWords
structure Md (n : Nat) : Prop where
  out : Lib.nDigits n ≤ 1000000
theorem pcs_len_nDig (n : Nat) : (pcs n).length ≤ Lib.nDigits n := by
  apply pcs_len_le
  refine Nat.lt_of_lt_of_le (Lib.lt_pow_nDigits n) ?_
  exact Nat.pow_le_pow_left (by decide) _
theorem Md.pcs {n : Nat} (h : Md n) : (pcs n).length ≤ 1000000 := Nat.le_trans (pcs_len_nDig n) h.out
theorem nDig_mul (a b : Nat) : Lib.nDigits (a * b) ≤ Lib.nDigits a + Lib.nDigits b := by
  refine nDig_le (by have := Lib.nDigits_pos a; omega) ?_
  rw [Nat.pow_add]
  exact Nat.mul_lt_mul'' (Lib.lt_pow_nDigits a) (Lib.lt_pow_nDigits b)
theorem nDig_add (a b : Nat) : Lib.nDigits (a + b) ≤ Lib.nDigits a + Lib.nDigits b := by
  have ha := Lib.nDigits_pos a
  have hb := Lib.nDigits_pos b
  refine nDig_le (by omega) ?_
  have h1 := Lib.lt_pow_nDigits a
  have h2 := Lib.lt_pow_nDigits b
  generalize Lib.nDigits a = x at *
  generalize Lib.nDigits b = y at *
  rw [Nat.pow_add]
  have hx : 10 ^ 1 ≤ 10 ^ x := Nat.pow_le_pow_right (by decide) ha
  have hy : 10 ^ 1 ≤ 10 ^ y := Nat.pow_le_pow_right (by decide) hb
  have h3 : 10 ^ x * 2 ≤ 10 ^ x * 10 ^ y := Nat.mul_le_mul_left _ (by omega)
  have h4 : 2 * 10 ^ y ≤ 10 ^ x * 10 ^ y := Nat.mul_le_mul_right _ (by omega)
  omega
theorem smallS {n : Nat} (h : Lib.nDigits n ≤ 18) : decimal_Small.f (S n) = some ((n : Int), true) := by
  have h2 := nDig_lt h
  have h3 : (10 : Nat) ^ 18 = 1000000000000000000 := by decide
  rw [small_S n (by omega), if_pos (by omega)]
theorem both_f (a b : Nat) : Ev (fun k => d_both.f k (S a) (S b)) (if Lib.nDigits a ≤ 18 ∧ Lib.nDigits b ≤ 18 then ((a : Int), (b : Int), true) else (0, 0, false)) := by
  have ha := S_size a
  have hb := S_size b
  unfold d_both.f
  by_cases h1 : Lib.nDigits a ≤ 18
  · simp (disch := omega) only [if_neg]
    by_cases h2 : Lib.nDigits b ≤ 18
    · rw [decide_eq_false (by omega), if_pos ⟨h1, h2⟩]
      refine Ev.step (f := fun _ => some ((a : Int), (b : Int), true)) (fun k => ?_) (Ev.now _)
      simp only [d_both.j0, Bool.false_eq_true, if_false, smallS h1, smallS h2, Option.bind_some]
    · rw [decide_eq_true (by omega), if_neg (fun h => h2 h.2)]
      refine Ev.step (f := fun _ => some (0, 0, false)) (fun k => ?_) (Ev.now _)
      simp only [d_both.j0, if_true]
  · simp (disch := omega) only [if_pos]
    rw [if_neg (fun h => h1 h.1)]
    refine Ev.step (f := fun _ => some (0, 0, false)) (fun k => ?_) (Ev.now _)
    simp only [d_both.j0, if_true]
theorem wsub {a b : Nat} (h : b ≤ a) (hs : Sm (a + 1)) : wrap64 ((a : Int) - (b : Int)) = ((a - b : Nat) : Int) := by
  have := hs.out
  rw [w64 (by omega) (by omega)]
  omega
theorem add_core (a b : Nat) (h : (pcs b).length ≤ (pcs a).length) (ha : (pcs a).length ≤ 1000000) :
    Ev (fun k => (p_back.f k (C (pcs a) ++ [0]) (C (pcs b) ++ List.replicate ((pcs a).length - (pcs b).length) 0) 0).bind fun t493 => ((p_trim.f k t493).bind fun t494 => ((p_text.f k t494).bind fun t497 => (some t497)))) (S (a + b)) := by
  have e1 : C (pcs a) ++ [0] = C (pcs a ++ [0]) := by rw [C_append]; rfl
  have e2 : C (pcs b) ++ List.replicate ((pcs a).length - (pcs b).length) 0 = C (pcs b ++ List.replicate ((pcs a).length - (pcs b).length) 0) := by rw [C_append, C_zeros]
  have hW : Ok (pcs a ++ [0]) := (ok_pcs a).append (Ok.cons (by decide) Ok.nil)
  have hQ : Ok (pcs b ++ List.replicate ((pcs a).length - (pcs b).length) 0) := (ok_pcs b).append (Ok.zeros _)
  have hl : (pcs a ++ [0]).length = (pcs b ++ List.replicate ((pcs a).length - (pcs b).length) 0).length + 1 := by simp; omega
  have hb := back_f [] (pcs a ++ [0]) [] (pcs b ++ List.replicate ((pcs a).length - (pcs b).length) 0) hl hW hQ ⟨by simp; omega⟩
  obtain ⟨s1, s2, d, s3, s4⟩ := addrow_spec _ _ 0 hl hW hQ (by omega)
  rw [val_snoc, val_append, val_zeros, val_pcs, val_pcs, Nat.mul_zero, Nat.mul_zero, Nat.add_zero, Nat.add_zero, Nat.add_zero] at s4
  have h1 := lt_pow_pcs a
  have h2 := lt_pow_pcs b
  have h3 : 1000000000 ^ (pcs b).length ≤ 1000000000 ^ (pcs a).length := Nat.pow_le_pow_right (by decide) h
  have h4 : (pcs a ++ [0]).length = (pcs a).length + 1 := by simp
  rw [h4, Nat.pow_succ] at s4
  have hd : d = 0 := by
    rcases Nat.eq_zero_or_pos d with h5 | h5
    · exact h5
    · have : d = 1 := by omega
      subst this
      omega
  subst hd
  have hv : val (addrow 0 (pcs a ++ [0]) (pcs b ++ List.replicate ((pcs a).length - (pcs b).length) 0)) = a + b := by
    rw [Nat.mul_zero, Nat.add_zero] at s4
    exact s4
  have ht := trim_f _ s2 (by rw [s1, h4]; omega)
  rw [hv] at ht
  have hp : (pcs (a + b)).length ≤ (pcs a).length + 1 := pcs_len_le (by rw [Nat.pow_succ]; omega)
  rw [e1, e2]
  simp only [List.nil_append, List.append_nil, List.length_nil] at hb
  refine Ev.bind hb (Ev.bind ht (Ev.bind (text_f _ (by omega)) (Ev.now _)))
theorem add_f (a b : Nat) (ha : Md a) (hb : Md b) : Ev (fun k => d_Add.f k (S a) (S b)) (S (a + b)) := by
  unfold d_Add.f
  refine Ev.bind (both_f a b) ?_
  by_cases h : Lib.nDigits a ≤ 18 ∧ Lib.nDigits b ≤ 18
  · have h1 := nDig_lt h.1
    have h2 := nDig_lt h.2
    have h3 : (10 : Nat) ^ 18 = 1000000000000000000 := by decide
    have e0 := of_f (a + b) (by omega)
    have e1 := uadd (a := a) (b := b) (by omega)
    simp only [if_pos h, if_true, e1, e0]
    exact Ev.now _
  · simp only [if_neg h, Bool.false_eq_true, if_false]
    refine Ev.bind (cut_f a (by have := ha.out; omega)) (Ev.bind (cut_f b (by have := hb.out; omega)) ?_)
    have l1 := ha.pcs
    have l2 := hb.pcs
    have c1 : (C (pcs a)).length = (pcs a).length := C_length _
    have c2 : (C (pcs b)).length = (pcs b).length := C_length _
    simp only [Option.bind_some, List.length_append, List.length_singleton, c1, c2]
    by_cases hlt : (pcs a).length < (pcs b).length
    · have e2 := wpred1 (a := (pcs b).length) ⟨by omega⟩
      have e3 : wrap64 (((pcs b).length : Int) - ((pcs a).length : Int)) = (((pcs b).length - (pcs a).length : Nat) : Int) := by rw [w64 (by omega) (by omega)]; omega
      have key := add_core b a (by omega) l2
      rw [Nat.add_comm b a] at key
      simp only [e2, e3, Int.toNat_natCast]
      clear e2 e3
      simp (disch := omega) only [if_pos]
      exact key
    · have e2 := wpred1 (a := (pcs a).length) ⟨by omega⟩
      have e3 : wrap64 (((pcs a).length : Int) - ((pcs b).length : Int)) = (((pcs a).length - (pcs b).length : Nat) : Int) := by rw [w64 (by omega) (by omega)]; omega
      have key := add_core a b (by omega) l1
      simp only [e2, e3, Int.toNat_natCast]
      clear e2 e3
      simp (disch := omega) only [if_pos, if_neg]
      exact key
theorem sub_core (a b : Nat) (h : b ≤ a) (ha : (pcs a).length ≤ 1000000) :
    Ev (fun k => (p_take.f k (C (pcs a) ++ [0]) (C (pcs b) ++ List.replicate ((pcs a).length - (pcs b).length) 0) 1 0).bind fun bt545 => ((p_trim.f k bt545.2).bind fun t547 => ((p_text.f k t547).bind fun t550 => (some (t550, 0))))) (S (a - b), (0 : Int)) := by
  have hlen := pcs_len_mono h
  have e1 : C (pcs a) ++ [0] = C (pcs a ++ [0]) := by rw [C_append]; rfl
  have e2 : C (pcs b) ++ List.replicate ((pcs a).length - (pcs b).length) 0 = C (pcs b ++ List.replicate ((pcs a).length - (pcs b).length) 0) := by rw [C_append, C_zeros]
  have hW : Ok (pcs a ++ [0]) := (ok_pcs a).append (Ok.cons (by decide) Ok.nil)
  have hQ : Ok (pcs b ++ List.replicate ((pcs a).length - (pcs b).length) 0) := (ok_pcs b).append (Ok.zeros _)
  have hl : (pcs a ++ [0]).length = (pcs b ++ List.replicate ((pcs a).length - (pcs b).length) 0).length + 1 := by simp; omega
  have hb := take_f [] (pcs a ++ [0]) [] (pcs b ++ List.replicate ((pcs a).length - (pcs b).length) 0) 1 (by decide) hl hW hQ ⟨by simp; omega⟩
  obtain ⟨s1, s2, s3, s4⟩ := subrow_spec 1 (by decide) _ _ 0 0 hl hW hQ (by decide) (by decide)
  rw [val_snoc, val_append, val_zeros, val_pcs, val_pcs, Nat.mul_zero, Nat.mul_zero] at s4
  simp only [Nat.add_zero, Nat.one_mul] at s4
  have h4 : (pcs a ++ [0]).length = (pcs a).length + 1 := by simp
  have h1 := val_lt s2
  rw [s1] at h1
  have hd : (subrow 1 0 0 (pcs a ++ [0]) (pcs b ++ List.replicate ((pcs a).length - (pcs b).length) 0)).2 = 0 := by
    rcases Nat.eq_zero_or_pos (subrow 1 0 0 (pcs a ++ [0]) (pcs b ++ List.replicate ((pcs a).length - (pcs b).length) 0)).2 with h5 | h5
    · exact h5
    · have h6 : (subrow 1 0 0 (pcs a ++ [0]) (pcs b ++ List.replicate ((pcs a).length - (pcs b).length) 0)).2 = 1 := by omega
      rw [h6, Nat.mul_one] at s4
      omega
  rw [hd, Nat.mul_zero, Nat.add_zero] at s4
  have hv : val (subrow 1 0 0 (pcs a ++ [0]) (pcs b ++ List.replicate ((pcs a).length - (pcs b).length) 0)).1 = a - b := by omega
  have ht := trim_f _ s2 (by rw [s1, h4]; omega)
  rw [hv] at ht
  have hp : (pcs (a - b)).length ≤ (pcs a).length := pcs_len_mono (Nat.sub_le _ _)
  rw [e1, e2]
  simp only [List.nil_append, List.append_nil, List.length_nil] at hb
  exact Ev.bind hb (Ev.bind ht (Ev.bind (text_f _ (by omega)) (Ev.now _)))
theorem sub_f (a b : Nat) (h : b ≤ a) (ha : Md a) : Ev (fun k => d_Sub.f k (S a) (S b)) (S (a - b), (0 : Int)) := by
  have h1 := ha.out
  have hb : Md b := ⟨Nat.le_trans (nDig_mono h) ha.out⟩
  have h2 := hb.out
  unfold d_Sub.f
  rw [compareS_f a b (by omega) (by omega)]
  have hc : ¬ cmp a b < 0 := by unfold cmp; rw [if_neg (by omega)]; split <;> omega
  refine Ev.bind (Ev.now (cmp a b)) (Ev.neg hc (Ev.bind (both_f a b) ?_))
  by_cases h : Lib.nDigits a ≤ 18 ∧ Lib.nDigits b ≤ 18
  · have h1 := nDig_lt h.1
    have h3 : (10 : Nat) ^ 18 = 1000000000000000000 := by decide
    have e0 := of_f (a - b) (by omega)
    have e1 : IntKind.u64.wrap ((a : Int) - (b : Int)) = ((a - b : Nat) : Int) := by rw [u64w (by omega) (by omega)]; omega
    simp only [if_pos h, if_true, e1, e0]
    exact Ev.now _
  · simp only [if_neg h, Bool.false_eq_true, if_false]
    have l1 := ha.pcs
    have l2 := hb.pcs
    have l3 := pcs_len_mono (a := b) (b := a) (by omega)
    have c1 : (C (pcs a)).length = (pcs a).length := C_length _
    have c2 : (C (pcs b)).length = (pcs b).length := C_length _
    have key := sub_core a b (by omega) l1
    have s2 : Sm ((pcs a).length + 1) := ⟨by omega⟩
    have l4 : (C (pcs a) ++ [0]).length = (pcs a).length + 1 := by rw [List.length_append, c1]; rfl
    have e4 : wrap64 (wrap64 (((C (pcs a) ++ [0]).length : Int) - 1) - ((C (pcs b)).length : Int)) = (((pcs a).length - (pcs b).length : Nat) : Int) := by
      rw [l4, c2, wpred1 s2, wsub l3 s2]
    refine Ev.bind (cut_f a (by omega)) (Ev.pos (by omega) (Ev.bind (Ev.now (C (pcs a) ++ [0])) (Ev.bind (cut_f b (by omega)) (Ev.bind (cut_f b (by omega)) ?_))))
    rw [e4, Int.toNat_natCast]
    clear e4
    exact Ev.pos (by omega) (Ev.pos (by omega) key)
theorem mul_f (a b : Nat) (ha : Md a) (hb : Md b) : Ev (fun k => d_Mul.f k (S a) (S b)) (S (a * b)) := by
  have h1 := ha.out
  have h2 := hb.out
  unfold d_Mul.f
  have e1 := wadd (a := Lib.nDigits a) (b := Lib.nDigits b) ⟨by omega⟩
  rw [S_size, S_size, e1]
  clear e1
  have p1 := Lib.nDigits_pos a
  have p2 := Lib.nDigits_pos b
  by_cases h : Lib.nDigits a + Lib.nDigits b ≤ 18
  · simp (disch := omega) only [if_pos]
    refine Ev.bind (both_f a b) ?_
    have h3 := Lib.lt_pow_nDigits (a * b)
    have h4 := nDig_mul a b
    have h5 : a * b < 10 ^ 18 := nDig_lt (by omega)
    have h6 : (10 : Nat) ^ 18 = 1000000000000000000 := by decide
    have h7 : Lib.nDigits a ≤ 18 ∧ Lib.nDigits b ≤ 18 := ⟨by omega, by omega⟩
    have e0 := of_f (a * b) (by omega)
    have e2 := umul (a := a) (b := b) (by omega)
    simp only [if_pos h7, e2, e0]
    exact Ev.now _
  · simp (disch := omega) only [if_neg]
    have l1 := ha.pcs
    have l2 := hb.pcs
    have ht := times_f (pcs a) (pcs b) (ok_pcs a) (ok_pcs b) (by omega)
    rw [val_pcs, val_pcs] at ht
    have hp := pcs_len_mul a b
    exact Ev.bind (cut_f a (by omega)) (Ev.bind (cut_f b (by omega)) (Ev.bind ht (Ev.bind (text_f _ (by omega)) (Ev.now _))))
end Go.Proofs.YtgicckcahhlbjaaGreatDoor.P
