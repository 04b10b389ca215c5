/- The printed functions as operations on numbers, and the law's answer: true at every input. Conditions: those of each theorem; the law's own has the row's bounds alone. -/
import Derived.Lib.ItoaNum
import Derived.Test.YtcfddphiflmnlaaDoorDecimalSmallF7
import Derived.Test.YtcfddphiflmnlaaDoorWPlus
namespace Go.Proofs.YtcfddphiflmnlaaDoor.P
open Go.RowKit Go.Proofs.YtcfddphiflmnlaaDoorW.PrintWords

/-! ### pieces -/
def val : List Nat → Nat
  | [] => 0
  | a :: l => a + 1000000000 * val l
def Ok (l : List Nat) : Prop := ∀ a, a ∈ l → a < 1000000000
def pcs (n : Nat) : List Nat := if h : n = 0 then [] else (n % 1000000000) :: pcs (n / 1000000000)
termination_by n
decreasing_by omega
theorem pcs_zero : pcs 0 = [] := by rw [pcs]; rfl
theorem pcs_pos {n : Nat} (h : n ≠ 0) : pcs n = (n % 1000000000) :: pcs (n / 1000000000) := by rw [pcs, dif_neg h]
theorem Ok.nil : Ok [] := fun _ h => by cases h
theorem Ok.cons {a : Nat} {l : List Nat} (ha : a < 1000000000) (hl : Ok l) : Ok (a :: l) := fun x hx => by
  rcases List.mem_cons.1 hx with rfl | hx
  · exact ha
  · exact hl x hx
theorem Ok.head {a : Nat} {l : List Nat} (h : Ok (a :: l)) : a < 1000000000 := h a List.mem_cons_self
theorem Ok.tail {a : Nat} {l : List Nat} (h : Ok (a :: l)) : Ok l := fun x hx => h x (List.mem_cons_of_mem _ hx)
theorem Ok.append {l m : List Nat} (hl : Ok l) (hm : Ok m) : Ok (l ++ m) := fun x hx => by
  rcases List.mem_append.1 hx with hx | hx
  · exact hl x hx
  · exact hm x hx
theorem Ok.left {l m : List Nat} (h : Ok (l ++ m)) : Ok l := fun x hx => h x (List.mem_append_left _ hx)
theorem Ok.right {l m : List Nat} (h : Ok (l ++ m)) : Ok m := fun x hx => h x (List.mem_append_right _ hx)
theorem Ok.take {l : List Nat} (h : Ok l) (i : Nat) : Ok (l.take i) := fun x hx => h x (List.mem_of_mem_take hx)
theorem Ok.drop {l : List Nat} (h : Ok l) (i : Nat) : Ok (l.drop i) := fun x hx => h x (List.mem_of_mem_drop hx)
theorem Ok.zeros (n : Nat) : Ok (List.replicate n 0) := fun x hx => by rw [(List.mem_replicate.1 hx).2]; omega
theorem Ok.getD {l : List Nat} (h : Ok l) (i : Nat) : l.getD i 0 < 1000000000 := by
  rw [List.getD_eq_getElem?_getD]
  by_cases hi : i < l.length
  · rw [List.getElem?_eq_getElem hi]; exact h _ (List.getElem_mem hi)
  · rw [List.getElem?_eq_none (by omega)]; simp
theorem ok_pcs (n : Nat) : Ok (pcs n) := by
  induction n using Nat.strongRecOn with
  | _ n ih =>
    by_cases h : n = 0
    · subst h; rw [pcs_zero]; exact Ok.nil
    · rw [pcs_pos h]; exact Ok.cons (by omega) (ih _ (by omega))
theorem val_pcs (n : Nat) : val (pcs n) = n := by
  induction n using Nat.strongRecOn with
  | _ n ih =>
    by_cases h : n = 0
    · subst h; rw [pcs_zero]; rfl
    · rw [pcs_pos h, val, ih _ (by omega)]; omega
theorem val_append (l m : List Nat) : val (l ++ m) = val l + 1000000000 ^ l.length * val m := by
  induction l with
  | nil => simp [val]
  | cons a l ih =>
    simp only [List.cons_append, val, ih, List.length_cons, Nat.pow_succ]
    rw [Nat.mul_add, Nat.add_assoc, ← Nat.mul_assoc, Nat.mul_comm 1000000000 (1000000000 ^ l.length)]
theorem val_snoc (l : List Nat) (a : Nat) : val (l ++ [a]) = val l + 1000000000 ^ l.length * a := by rw [val_append]; simp [val]
theorem val_zeros (n : Nat) : val (List.replicate n 0) = 0 := by
  induction n with
  | zero => rfl
  | succ n ih => rw [List.replicate_succ, val, ih]
theorem val_lt {l : List Nat} (h : Ok l) : val l < 1000000000 ^ l.length := by
  induction l with
  | nil => simp [val]
  | cons a l ih =>
    have h1 := h.head
    have h2 := ih h.tail
    simp only [val, List.length_cons, Nat.pow_succ]
    omega
theorem pow_pos9 (k : Nat) : 0 < 1000000000 ^ k := Nat.pow_pos (by decide)
theorem pcs_snoc : ∀ (l : List Nat) (a : Nat), Ok (l ++ [a]) → a ≠ 0 → pcs (val (l ++ [a])) = l ++ [a]
  | [], a, h, ha => by
    have := h.head
    have e : val ([] ++ [a]) = a := by simp [val]
    rw [e, pcs_pos ha, Nat.mod_eq_of_lt this, Nat.div_eq_of_lt this, pcs_zero]
    rfl
  | b :: l, a, h, ha => by
    have hb : b < 1000000000 := h.head
    have ih := pcs_snoc l a h.tail ha
    have hv : val (l ++ [a]) ≠ 0 := by
      intro e
      rw [e, pcs_zero] at ih
      exact absurd ih (by simp)
    have e : val (b :: l ++ [a]) = b + 1000000000 * val (l ++ [a]) := rfl
    rw [e, pcs_pos (by omega), show (b + 1000000000 * val (l ++ [a])) % 1000000000 = b by omega, show (b + 1000000000 * val (l ++ [a])) / 1000000000 = val (l ++ [a]) by omega, ih]
    rfl
theorem pcs_len_le {n k : Nat} (h : n < 1000000000 ^ k) : (pcs n).length ≤ k := by
  induction k generalizing n with
  | zero => rw [show n = 0 by simpa using h, pcs_zero]; simp
  | succ k ih =>
    by_cases h0 : n = 0
    · subst h0; rw [pcs_zero]; simp
    · rw [pcs_pos h0, List.length_cons]
      have := ih (n := n / 1000000000) (by rw [Nat.pow_succ] at h; omega)
      omega
theorem lt_pow_pcs (n : Nat) : n < 1000000000 ^ (pcs n).length := by
  have := val_lt (ok_pcs n)
  rwa [val_pcs] at this
theorem pow_le_pcs {n k : Nat} (h : k < (pcs n).length) : 1000000000 ^ k ≤ n := by
  rcases Nat.lt_or_ge n (1000000000 ^ k) with h1 | h1
  · have := pcs_len_le h1; omega
  · exact h1
theorem pcs_len_mono {a b : Nat} (h : a ≤ b) : (pcs a).length ≤ (pcs b).length := pcs_len_le (Nat.lt_of_le_of_lt h (lt_pow_pcs b))
theorem pcs_len_mul (a b : Nat) : (pcs (a * b)).length ≤ (pcs a).length + (pcs b).length := by
  apply pcs_len_le
  rw [Nat.pow_add]
  rcases Nat.eq_zero_or_pos b with h | h
  · subst h; exact Nat.mul_pos (pow_pos9 _) (pow_pos9 _)
  · exact Nat.lt_of_lt_of_le (Nat.mul_lt_mul_of_pos_right (lt_pow_pcs a) h) (Nat.mul_le_mul_left _ (Nat.le_of_lt (lt_pow_pcs b)))
theorem pcs_nil_iff {n : Nat} : pcs n = [] ↔ n = 0 := by
  constructor
  · intro h
    by_cases h0 : n = 0
    · exact h0
    · rw [pcs_pos h0] at h; cases h
  · rintro rfl; exact pcs_zero
/-- The last piece is not 0. -/
theorem pcs_last {n : Nat} {l : List Nat} {a : Nat} (h : pcs n = l ++ [a]) : a ≠ 0 := by
  rintro rfl
  have h1 : (pcs n).length = l.length + 1 := by rw [h]; simp
  have h2 := val_pcs n
  rw [h, val_snoc] at h2
  have h3 : Ok l := by have := ok_pcs n; rw [h] at this; exact this.left
  have h4 := val_lt h3
  have h5 := pcs_len_le (n := n) (k := l.length) (by omega)
  omega
theorem val_set (l : List Nat) (i x : Nat) (h : i < l.length) : val (l.set i x) + 1000000000 ^ i * l.getD i 0 = val l + 1000000000 ^ i * x := by
  induction l generalizing i with
  | nil => simp at h
  | cons a l ih =>
    cases i with
    | zero => simp [val, List.getD]; omega
    | succ i =>
      have := ih i (by simpa using h)
      simp only [List.set_cons_succ, val, List.getD_cons_succ, Nat.pow_succ]
      rw [Nat.mul_comm (1000000000 ^ i) 1000000000, Nat.mul_assoc, Nat.mul_assoc]
      omega
theorem Ok.set {l : List Nat} (h : Ok l) (i x : Nat) (hx : x < 1000000000) : Ok (l.set i x) := fun a ha => by
  rcases List.mem_or_eq_of_mem_set ha with h1 | h1
  · exact h a h1
  · omega

/-! ### lists of numbers as the printed functions have them -/
def C (l : List Nat) : List Int := l.map fun n : Nat => (n : Int)
theorem C_nil : C [] = [] := rfl
theorem C_cons (a : Nat) (l : List Nat) : C (a :: l) = (a : Int) :: C l := rfl
theorem C_length (l : List Nat) : (C l).length = l.length := by simp [C]
theorem C_append (l m : List Nat) : C (l ++ m) = C l ++ C m := by simp [C]
theorem C_take (l : List Nat) (i : Nat) : (C l).take i = C (l.take i) := by simp [C, List.map_take]
theorem C_drop (l : List Nat) (i : Nat) : (C l).drop i = C (l.drop i) := by simp [C, List.map_drop]
theorem C_set (l : List Nat) (i x : Nat) : (C l).set i (x : Int) = C (l.set i x) := by simp [C, List.map_set]
theorem C_zeros (n : Nat) : List.replicate n (0 : Int) = C (List.replicate n 0) := by simp [C]
theorem rd_C (l : List Nat) (i : Nat) : rd (C l) (i : Int) = (l.getD i 0 : Nat) := by
  simp only [rd, C, Int.toNat_natCast, List.getD_eq_getElem?_getD, List.getElem?_map]
  cases l[i]? <;> simp
theorem w64 {n : Int} (h0 : -9223372036854775808 ≤ n) (h1 : n ≤ 9223372036854775807) : wrap64 n = n := by unfold wrap64; omega
theorem u64w {n : Int} (h0 : 0 ≤ n) (h1 : n ≤ 18446744073709551615) : IntKind.u64.wrap n = n := by rw [IntKind.wrap_u64]; omega
theorem u64n (n : Nat) (h : n < 18446744073709551616) : IntKind.u64.wrap (n : Int) = n := u64w (by omega) (by omega)
theorem tdivn (a b : Nat) : Int.tdiv (a : Int) (b : Int) = ((a / b : Nat) : Int) := (Int.ofNat_tdiv a b).symm
theorem tmodn (a b : Nat) : Int.tmod (a : Int) (b : Int) = ((a % b : Nat) : Int) := (Int.ofNat_tmod a b).symm
theorem tdiv9 (a : Nat) : Int.tdiv (a : Int) 1000000000 = ((a / 1000000000 : Nat) : Int) := tdivn a 1000000000
theorem tmod9 (a : Nat) : Int.tmod (a : Int) 1000000000 = ((a % 1000000000 : Nat) : Int) := tmodn a 1000000000
/-- Small: far below what an int holds. -/
structure Sm (n : Nat) : Prop where
  out : n < 4611686018427387904
theorem Sm.le {a b : Nat} (h : Sm b) (hab : a ≤ b) : Sm a := ⟨Nat.lt_of_le_of_lt hab h.out⟩
theorem wadd {a b : Nat} (h : Sm (a + b)) : wrap64 ((a : Int) + (b : Int)) = ((a + b : Nat) : Int) := by have := h.out; rw [w64] <;> omega
theorem wsucc {a : Nat} (h : Sm a) : wrap64 ((a : Int) + 1) = ((a + 1 : Nat) : Int) := by have := h.out; rw [w64] <;> omega
theorem wpred {a : Nat} (h : Sm a) : wrap64 ((a : Int) - 1) = (a : Int) - 1 := by have := h.out; rw [w64] <;> omega
theorem wpred1 {a : Nat} (h : Sm (a + 1)) : wrap64 (((a + 1 : Nat) : Int) - 1) = (a : Int) := by have := h.out; rw [w64] <;> omega
theorem wnat {a : Nat} (h : Sm a) : wrap64 (a : Int) = (a : Int) := by have := h.out; rw [w64] <;> omega
theorem usmall {n : Nat} (h : n < 1000000000000000000) : IntKind.u64.wrap (n : Int) = (n : Int) := u64n n (by omega)
theorem uadd {a b : Nat} (h : a + b < 18446744073709551616) : IntKind.u64.wrap ((a : Int) + (b : Int)) = ((a + b : Nat) : Int) := by rw [← Int.natCast_add]; exact u64n _ h
theorem umul {a b : Nat} (h : a * b < 18446744073709551616) : IntKind.u64.wrap ((a : Int) * (b : Int)) = ((a * b : Nat) : Int) := by rw [← Int.natCast_mul]; exact u64n _ h
end Go.Proofs.YtcfddphiflmnlaaDoor.P
namespace Go.Proofs.YtcfddphiflmnlaaDoor.P
open Go.RowKit Go.Proofs.YtcfddphiflmnlaaDoorW.PrintWords

theorem Ev.eq {α : Type} {g : Nat → Option α} {r r' : α} (h : Ev g r) (e : r = r') : Ev g r' := e ▸ h
theorem concat_of_len {α : Type} {l : List α} {n : Nat} (h : l.length = n + 1) : ∃ m a, l = m ++ [a] ∧ m.length = n := by
  rcases List.eq_nil_or_concat l with e | ⟨m, a, e⟩
  · subst e; simp at h
  · refine ⟨m, a, by simpa using e, ?_⟩
    subst e
    simpa using h
theorem getD_mid (l m : List Nat) (a : Nat) : (l ++ a :: m).getD l.length 0 = a := by
  simp [List.getD_eq_getElem?_getD]
theorem set_mid (l m : List Nat) (a b : Nat) : (l ++ a :: m).set l.length b = l ++ b :: m := by
  simp

/-! ### trim -/
theorem trim_l0 : ∀ (n : Nat) (l : List Nat), l.length = n → Ok l → n < 4611686018427387904 → Ev (fun k => decimal_pieces_trim.l0 k (C l)) (C (pcs (val l)))
  | 0, l, hl, _, _ => by
    obtain rfl := List.length_eq_zero_iff.1 hl
    refine Ev.step (f := fun _ => some []) (fun k => ?_) (Ev.eq (Ev.now _) ?_)
    · simp only [decimal_pieces_trim.l0, C_nil, List.length_nil]
      rfl
    · rw [show val [] = 0 from rfl, pcs_zero]; rfl
  | n + 1, l, hl, h, hn => by
    obtain ⟨m, a, rfl, hm⟩ := concat_of_len hl
    have h1 : (C (m ++ [a])).length = n + 1 := by rw [C_length]; exact hl
    have h3 : rd (C (m ++ [a])) (n : Int) = a := by rw [rd_C, ← hm, getD_mid]
    have h4 : wrap64 (((C (m ++ [a])).length : Int) - 1) = (n : Int) := by rw [h1, w64] <;> omega
    by_cases ha : a = 0
    · subst ha
      refine Ev.step (f := fun k => decimal_pieces_trim.l0 k (C m)) (fun k => ?_) (Ev.eq (trim_l0 n m hm h.left (by omega)) (by rw [val_snoc, Nat.mul_zero, Nat.add_zero]))
      simp (disch := omega) only [decimal_pieces_trim.l0, h4, h3, if_pos]
      congr 1
      rw [Int.toNat_natCast, C_take, ← hm, List.take_left]
    · refine Ev.step (f := fun _ => some (C (m ++ [a]))) (fun k => ?_) (Ev.eq (Ev.now _) (by rw [pcs_snoc m a h ha]))
      simp (disch := omega) only [decimal_pieces_trim.l0, h4, h3, if_pos, if_neg]
theorem trim_f (l : List Nat) (h : Ok l) (hl : l.length < 4611686018427387904) : Ev (fun k => decimal_pieces_trim.f k (C l)) (C (pcs (val l))) := by
  unfold decimal_pieces_trim.f
  exact trim_l0 _ l rfl h hl

/-! ### compare -/
def cmp (a b : Nat) : Int := if a < b then -1 else if b < a then 1 else 0
theorem split_at {l : List Nat} {i : Nat} (h : i < l.length) : ∃ l1 a s, l = l1 ++ a :: s ∧ l1.length = i :=
  ⟨l.take i, l[i], l.drop (i + 1), by rw [List.getElem_cons_drop, List.take_append_drop], by rw [List.length_take]; omega⟩
theorem lt_mid {p1 q1 s : List Nat} {a b : Nat} (hp : Ok p1) (hl : p1.length = q1.length) (h : a < b) : val (p1 ++ a :: s) < val (q1 ++ b :: s) := by
  rw [val_append, val_append, hl]
  have h1 := val_lt hp
  rw [hl] at h1
  have h2 : 1000000000 ^ q1.length * (val (a :: s) + 1) ≤ 1000000000 ^ q1.length * val (b :: s) := Nat.mul_le_mul_left _ (by simp only [val]; omega)
  rw [Nat.mul_add, Nat.mul_one] at h2
  omega
theorem compare_l0 : ∀ (i : Nat) (p q : List Nat) (x : Int), x = (i : Int) - 1 → p.length = q.length → i ≤ p.length → p.length < 4611686018427387904 → Ok p → Ok q → p.drop i = q.drop i →
    Ev (fun k => decimal_pieces_compare.l0 k (C p) (C q) x) (cmp (val p) (val q))
  | 0, p, q, x, hx, _, _, _, _, _, he => by
    obtain rfl : p = q := by simpa using he
    refine Ev.step (f := fun _ => some 0) (fun k => ?_) (Ev.eq (Ev.now _) (by simp [cmp]))
    simp (disch := omega) only [decimal_pieces_compare.l0, if_neg]
  | i + 1, p, q, x, hx, hl, hi, hs, hp, hq, he => by
    obtain ⟨p1, a, s, rfl, hp1⟩ := split_at (l := p) (i := i) (by omega)
    obtain ⟨q1, b, s', rfl, hq1⟩ := split_at (l := q) (i := i) (by omega)
    have hss : s = s' := by
      rw [show p1 ++ a :: s = (p1 ++ [a]) ++ s by simp, show q1 ++ b :: s' = (q1 ++ [b]) ++ s' by simp, List.drop_left' (by simp [hp1]), List.drop_left' (by simp [hq1])] at he
      exact he
    subst hss
    obtain rfl : x = (i : Int) := by omega
    have e1 : rd (C (p1 ++ a :: s)) (i : Int) = a := by rw [rd_C, ← hp1, getD_mid]
    have e2 : rd (C (q1 ++ b :: s)) (i : Int) = b := by rw [rd_C, ← hq1, getD_mid]
    have l1 : (C (p1 ++ a :: s)).length = i + (s.length + 1) := by rw [C_length]; simp [hp1]
    have l2 : (C (q1 ++ b :: s)).length = i + (s.length + 1) := by rw [C_length]; simp [hq1]
    have hs' : i + (s.length + 1) < 4611686018427387904 := by simpa [hp1] using hs
    by_cases h1 : a < b
    · refine Ev.step (f := fun _ => some (-1)) (fun k => ?_) (Ev.eq (Ev.now _) ?_)
      · simp (disch := omega) only [decimal_pieces_compare.l0, e1, e2, if_pos]
      · rw [cmp, if_pos (lt_mid hp.left (by omega) h1)]
    · by_cases h2 : b < a
      · refine Ev.step (f := fun _ => some 1) (fun k => ?_) (Ev.eq (Ev.now _) ?_)
        · simp (disch := omega) only [decimal_pieces_compare.l0, e1, e2, if_pos, if_neg]
        · have := lt_mid (s := s) hq.left (hq1.trans hp1.symm) h2
          rw [cmp, if_neg (by omega), if_pos this]
      · obtain rfl : a = b := by omega
        refine Ev.step (f := fun k => decimal_pieces_compare.l0 k (C (p1 ++ a :: s)) (C (q1 ++ a :: s)) ((i : Int) - 1)) (fun k => ?_) (compare_l0 i _ _ _ rfl hl (by omega) hs hp hq (by rw [List.drop_left' hp1, List.drop_left' hq1]))
        have hw : wrap64 ((i : Int) - 1) = (i : Int) - 1 := w64 (by omega) (by omega)
        simp (disch := omega) only [decimal_pieces_compare.l0, e1, e2, if_pos, if_neg, hw]
theorem compare_f (a b : Nat) (ha : (pcs a).length < 4611686018427387904) (hb : (pcs b).length < 4611686018427387904) : Ev (fun k => decimal_pieces_compare.f k (C (pcs a)) (C (pcs b))) (cmp a b) := by
  unfold decimal_pieces_compare.f
  by_cases h : (pcs a).length = (pcs b).length
  · have h' : ((C (pcs a)).length : Int) = ((C (pcs b)).length : Int) := by rw [C_length, C_length]; omega
    simp only [if_pos h']
    have := compare_l0 (pcs a).length (pcs a) (pcs b) (wrap64 (((C (pcs a)).length : Int) - 1)) (by rw [C_length, w64] <;> omega) h (Nat.le_refl _) ha (ok_pcs a) (ok_pcs b) (by rw [List.drop_length, h, List.drop_length])
    rwa [val_pcs, val_pcs] at this
  · have h' : ¬ ((C (pcs a)).length : Int) = ((C (pcs b)).length : Int) := by rw [C_length, C_length]; omega
    simp only [if_neg h']
    refine Ev.eq (Ev.now _) ?_
    rw [C_length, C_length, w64 (by omega) (by omega)]
    unfold mn mx cmp
    rcases Nat.lt_or_gt_of_ne h with h1 | h1
    · have := pow_le_pcs h1
      have h2 := lt_pow_pcs a
      rw [if_pos (show a < b by omega)]
      split <;> split <;> omega
    · have := pow_le_pcs h1
      have h2 := lt_pow_pcs b
      rw [if_neg (show ¬ a < b by omega), if_pos (show b < a by omega)]
      split <;> split <;> omega
end Go.Proofs.YtcfddphiflmnlaaDoor.P
namespace Go.Proofs.YtcfddphiflmnlaaDoor.P
open Go.RowKit Go.Proofs.YtcfddphiflmnlaaDoorW.PrintWords

theorem snoc_ind {α : Type} {p : List α → Prop} (nil : p []) (snoc : ∀ (l : List α) (a : α), p l → p (l ++ [a])) (l : List α) : p l := by
  have h : ∀ (n : Nat) (l : List α), l.length = n → p l := by
    intro n
    induction n with
    | zero => intro l hl; rw [List.length_eq_zero_iff.1 hl]; exact nil
    | succ n ih =>
      intro l hl
      rcases List.eq_nil_or_concat l with e | ⟨m, a, e⟩
      · rw [e] at hl; simp at hl
      · have e' : l = m ++ [a] := by simpa using e
        subst e'
        exact snoc m a (ih m (by simpa using hl))
  exact h _ l rfl
/-- The value of a row of digits, the first one ahead. -/
def dv (l : List UInt8) : Nat := l.foldl (fun n c => 10 * n + (c.toNat - 48)) 0
def IsD (l : List UInt8) : Prop := ∀ c, c ∈ l → 48 ≤ c.toNat ∧ c.toNat ≤ 57
def Can (l : List UInt8) : Prop := IsD l ∧ (l.length = 1 ∨ (1 < l.length ∧ l.head? ≠ some 48))
theorem dv_nil : dv [] = 0 := rfl
theorem dv_snoc (l : List UInt8) (c : UInt8) : dv (l ++ [c]) = 10 * dv l + (c.toNat - 48) := by simp [dv, List.foldl_append]
theorem dv_append (l m : List UInt8) : dv (l ++ m) = dv l * 10 ^ m.length + dv m := by
  induction m using snoc_ind with
  | nil => simp [dv_nil]
  | snoc m c ih =>
    rw [← List.append_assoc, dv_snoc, ih, dv_snoc, List.length_append, List.length_singleton, Nat.pow_succ, Nat.mul_add, ← Nat.mul_assoc (dv l), Nat.mul_comm _ 10]
    omega
theorem IsD.nil : IsD [] := fun _ h => by cases h
theorem IsD.cons {c : UInt8} {l : List UInt8} (h1 : 48 ≤ c.toNat ∧ c.toNat ≤ 57) (h2 : IsD l) : IsD (c :: l) := fun x hx => by
  rcases List.mem_cons.1 hx with rfl | hx
  · exact h1
  · exact h2 x hx
theorem IsD.left {l m : List UInt8} (h : IsD (l ++ m)) : IsD l := fun x hx => h x (List.mem_append_left _ hx)
theorem IsD.right {l m : List UInt8} (h : IsD (l ++ m)) : IsD m := fun x hx => h x (List.mem_append_right _ hx)
theorem IsD.append {l m : List UInt8} (hl : IsD l) (hm : IsD m) : IsD (l ++ m) := fun x hx => by
  rcases List.mem_append.1 hx with hx | hx
  · exact hl x hx
  · exact hm x hx
theorem IsD.take {l : List UInt8} (h : IsD l) (i : Nat) : IsD (l.take i) := fun x hx => h x (List.mem_of_mem_take hx)
theorem IsD.drop {l : List UInt8} (h : IsD l) (i : Nat) : IsD (l.drop i) := fun x hx => h x (List.mem_of_mem_drop hx)
theorem dv_lt {l : List UInt8} (h : IsD l) : dv l < 10 ^ l.length := by
  induction l using snoc_ind with
  | nil => simp [dv_nil]
  | snoc m c ih =>
    have h1 := ih h.left
    have h2 := h.right c (by simp)
    rw [dv_snoc, List.length_append, List.length_singleton, Nat.pow_succ]
    omega
theorem digit_toNat {d : Nat} (h : d < 10) : (UInt8.ofNat (48 + d)).toNat = 48 + d := by
  rw [UInt8.toNat_ofNat']
  omega
theorem digit_of {c : UInt8} (h : 48 ≤ c.toNat ∧ c.toNat ≤ 57) : UInt8.ofNat (48 + (c.toNat - 48)) = c := by
  rw [show 48 + (c.toNat - 48) = c.toNat by omega]
  exact UInt8.ofNat_toNat
theorem dec_small {n : Nat} (h : n < 10) : Lib.decDigits n = [UInt8.ofNat (48 + n)] := by rw [Lib.decDigits, dif_pos h]
theorem dec_big {n : Nat} (h : 10 ≤ n) : Lib.decDigits n = Lib.decDigits (n / 10) ++ [UInt8.ofNat (48 + n % 10)] := by rw [Lib.decDigits, dif_neg (by omega)]
theorem isD_dec (n : Nat) : IsD (Lib.decDigits n) := by
  induction n using Nat.strongRecOn with
  | _ n ih =>
    by_cases h : n < 10
    · rw [dec_small h]
      refine IsD.cons ?_ IsD.nil
      rw [digit_toNat h]; omega
    · rw [dec_big (by omega)]
      refine (ih _ (by omega)).append (IsD.cons ?_ IsD.nil)
      rw [digit_toNat (by omega)]; omega
theorem dv_dec (n : Nat) : dv (Lib.decDigits n) = n := by
  induction n using Nat.strongRecOn with
  | _ n ih =>
    by_cases h : n < 10
    · rw [dec_small h, show [UInt8.ofNat (48 + n)] = [] ++ [UInt8.ofNat (48 + n)] from rfl, dv_snoc, digit_toNat h, dv_nil]; omega
    · rw [dec_big (by omega), dv_snoc, ih _ (by omega), digit_toNat (by omega)]; omega
theorem dec_len_pos (n : Nat) : 0 < (Lib.decDigits n).length := by rw [Lib.decDigits_length]; exact Lib.nDigits_pos n
theorem dec_head (n : Nat) (h : n ≠ 0) : (Lib.decDigits n).head? ≠ some 48 := by
  induction n using Nat.strongRecOn with
  | _ n ih =>
    by_cases h1 : n < 10
    · rw [dec_small h1]
      intro e
      have e2 : UInt8.ofNat (48 + n) = 48 := by simpa using e
      have e3 := congrArg UInt8.toNat e2
      rw [digit_toNat h1] at e3
      have : (48 : UInt8).toNat = 48 := rfl
      omega
    · rw [dec_big (by omega)]
      have := ih (n / 10) (by omega) (by omega)
      have hp := dec_len_pos (n / 10)
      rcases hl : Lib.decDigits (n / 10) with _ | ⟨a, t⟩
      · rw [hl] at hp; simp at hp
      · rw [hl] at this; simpa using this
theorem can_dec (n : Nat) : Can (Lib.decDigits n) := by
  refine ⟨isD_dec n, ?_⟩
  have hp := dec_len_pos n
  by_cases h : n < 10
  · left; rw [dec_small h]; rfl
  · by_cases h1 : (Lib.decDigits n).length = 1
    · exact Or.inl h1
    · exact Or.inr ⟨by omega, dec_head n (by omega)⟩
theorem dec_dv : ∀ (k : Nat) (l : List UInt8), l.length = k → Can l → Lib.decDigits (dv l) = l
  | 0, l, hl, h => by rcases h.2 with h | h <;> omega
  | 1, l, hl, h => by
    rcases l with _ | ⟨c, _ | ⟨d, t⟩⟩
    · simp at hl
    · have hc := h.1 c (by simp)
      have : dv [c] = c.toNat - 48 := by rw [show [c] = [] ++ [c] from rfl, dv_snoc, dv_nil]; omega
      rw [this, dec_small (by omega), digit_of hc]
    · simp at hl
  | k + 2, l, hl, h => by
    obtain ⟨m, c, rfl⟩ : ∃ m c, l = m ++ [c] := by
      rcases List.eq_nil_or_concat l with e | ⟨m, c, e⟩
      · subst e; simp at hl
      · exact ⟨m, c, by simpa using e⟩
    have hm : m.length = k + 1 := by simpa using hl
    have h2 : 1 < (m ++ [c]).length ∧ (m ++ [c]).head? ≠ some 48 := by
      rcases h.2 with h2 | h2
      · omega
      · exact h2
    have hh : m.head? ≠ some 48 := by
      have := h2.2
      rcases m with _ | ⟨a, t⟩
      · simp at hm
      · simpa using this
    have hc := h.1.right c (by simp)
    have hmc : Can m := ⟨h.1.left, by
      by_cases h3 : m.length = 1
      · exact Or.inl h3
      · exact Or.inr ⟨by omega, hh⟩⟩
    have ih := dec_dv (k + 1) m hm hmc
    have h0 : dv m ≠ 0 := by
      intro e
      rw [e] at ih
      have e1 : Lib.decDigits 0 = [48] := dec_small (by omega)
      rw [e1] at ih
      rw [← ih] at hh
      exact hh rfl
    rw [dv_snoc, dec_big (by omega), show (10 * dv m + (c.toNat - 48)) / 10 = dv m by omega, ih, show (10 * dv m + (c.toNat - 48)) % 10 = c.toNat - 48 by omega, digit_of hc]
theorem dec_inj {a b : Nat} (h : Lib.decDigits a = Lib.decDigits b) : a = b := by rw [← dv_dec a, h, dv_dec]
/-- The numeral as a string. -/
def S (n : Nat) : ByteArray := ⟨(Lib.decDigits n).toArray⟩
theorem S_inj {a b : Nat} (h : S a = S b) : a = b := dec_inj (by simpa [S] using h)
theorem S_list (n : Nat) : (S n).data.toList = Lib.decDigits n := by simp [S]
theorem S_size (n : Nat) : (S n).size = Lib.nDigits n := by simp [S, ByteArray.size, Lib.decDigits_length]
theorem S_of {s : ByteArray} (h : Can s.data.toList) : s = S (dv s.data.toList) := by
  rw [S, dec_dv _ _ rfl h]
theorem nDig_mono {a b : Nat} (h : a ≤ b) : Lib.nDigits a ≤ Lib.nDigits b := by
  induction b using Nat.strongRecOn generalizing a with
  | _ b ih =>
    by_cases hb : b < 10
    · rw [Lib.nDigits_small hb, Lib.nDigits_small (by omega)]; omega
    · rw [Lib.nDigits_big hb]
      by_cases ha : a < 10
      · rw [Lib.nDigits_small ha]; omega
      · rw [Lib.nDigits_big ha]
        have := ih (b / 10) (by omega) (a := a / 10) (by omega)
        omega
theorem nDig_le {n k : Nat} (hk : 0 < k) (h : n < 10 ^ k) : Lib.nDigits n ≤ k := by
  induction k generalizing n with
  | zero => omega
  | succ k ih =>
    by_cases hn : n < 10
    · rw [Lib.nDigits_small hn]; omega
    · rw [Lib.nDigits_big hn]
      rcases Nat.eq_zero_or_pos k with h0 | h0
      · subst h0; simp at h; omega
      · have := ih (n := n / 10) h0 (by rw [Nat.pow_succ] at h; omega)
        omega
theorem pow_le_nDig {n k : Nat} (h : k + 1 < Lib.nDigits n + 1) (hk : 0 < k) : 10 ^ k ≤ n := by
  rcases Nat.lt_or_ge n (10 ^ k) with h1 | h1
  · have := nDig_le hk h1
    omega
  · exact h1
end Go.Proofs.YtcfddphiflmnlaaDoor.P
namespace Go.Proofs.YtcfddphiflmnlaaDoor.P
open Go.RowKit Go.Proofs.YtcfddphiflmnlaaDoorW.PrintWords

/-- The digits of a number, the last one ahead. -/
def rdig (n : Nat) : List UInt8 := (Lib.decDigits n).reverse
/-- So many digits, the last one ahead. -/
def dgs : Nat → Nat → List UInt8
  | 0, _ => []
  | j + 1, n => UInt8.ofNat (48 + n % 10) :: dgs j (n / 10)
theorem rdig_small {n : Nat} (h : n < 10) : rdig n = [UInt8.ofNat (48 + n)] := by rw [rdig, dec_small h]; rfl
theorem rdig_big {n : Nat} (h : 10 ≤ n) : rdig n = UInt8.ofNat (48 + n % 10) :: rdig (n / 10) := by
  rw [rdig, dec_big h, List.reverse_append]; rfl
theorem rdig_piece : ∀ (j n m : Nat), n < 10 ^ j → m ≠ 0 → rdig (n + 10 ^ j * m) = dgs j n ++ rdig m
  | 0, n, m, h, hm => by
    have : n = 0 := by simpa using h
    subst this
    simp [dgs]
  | j + 1, n, m, h, hm => by
    have e : 10 ^ (j + 1) = 10 * 10 ^ j := by rw [Nat.pow_succ, Nat.mul_comm]
    rw [e] at h ⊢
    have hp : 1 ≤ 10 ^ j * m := Nat.mul_pos (Nat.pow_pos (by decide)) (by omega)
    rw [Nat.mul_assoc, rdig_big (by omega), dgs, show (n + 10 * (10 ^ j * m)) / 10 = n / 10 + 10 ^ j * m by omega, show (n + 10 * (10 ^ j * m)) % 10 = n % 10 by omega, rdig_piece j (n / 10) m (by omega) hm]
    rfl
theorem dec_val_cons {n m : Nat} (h : n < 1000000000) (hm : m ≠ 0) : rdig (n + 1000000000 * m) = dgs 9 n ++ rdig m := rdig_piece 9 n m h hm

/-! ### numerals compared -/
theorem dv_cons (c : UInt8) (l : List UInt8) : dv (c :: l) = (c.toNat - 48) * 10 ^ l.length + dv l := by
  have := dv_append [c] l
  rw [show dv [c] = c.toNat - 48 by rw [show [c] = [] ++ [c] from rfl, dv_snoc, dv_nil]; omega] at this
  exact this
theorem lex_dv : ∀ (l m : List UInt8), l.length = m.length → IsD l → IsD m → (l < m ↔ dv l < dv m)
  | [], [], _, _, _ => by simp [dv_nil]
  | [], _ :: _, h, _, _ => by simp at h
  | _ :: _, [], h, _, _ => by simp at h
  | a :: l, b :: m, h, hl, hm => by
    have ha := hl a (by simp)
    have hb := hm b (by simp)
    have hl' : IsD l := IsD.right (l := [a]) hl
    have hm' : IsD m := IsD.right (l := [b]) hm
    have h' : l.length = m.length := by simpa using h
    have ih := lex_dv l m h' hl' hm'
    have k1 := dv_lt hl'
    have k2 := dv_lt hm'
    rw [dv_cons, dv_cons, List.cons_lt_cons_iff]
    rw [h'] at k1 ⊢
    constructor
    · rintro (h1 | ⟨rfl, h1⟩)
      · have h2 : a.toNat < b.toNat := h1
        have h3 : (a.toNat - 48 + 1) * 10 ^ m.length ≤ (b.toNat - 48) * 10 ^ m.length := Nat.mul_le_mul_right _ (by omega)
        rw [Nat.succ_mul] at h3
        omega
      · have := ih.1 h1
        omega
    · intro h1
      rcases Nat.lt_trichotomy a.toNat b.toNat with h2 | h2 | h2
      · exact Or.inl h2
      · have e : a = b := UInt8.toNat_inj.1 h2
        subst e
        exact Or.inr ⟨rfl, ih.2 (by omega)⟩
      · have h3 : (b.toNat - 48 + 1) * 10 ^ m.length ≤ (a.toNat - 48) * 10 ^ m.length := Nat.mul_le_mul_right _ (by omega)
        rw [Nat.succ_mul] at h3
        omega
theorem dec_lt_of_len {a b : Nat} (h : Lib.nDigits a < Lib.nDigits b) : a < b := by
  rcases Nat.lt_or_ge a b with h1 | h1
  · exact h1
  · have := nDig_mono h1
    omega
theorem dec_lex {a b : Nat} (h : Lib.nDigits a = Lib.nDigits b) : Lib.decDigits a < Lib.decDigits b ↔ a < b := by
  have := lex_dv (Lib.decDigits a) (Lib.decDigits b) (by rw [Lib.decDigits_length, Lib.decDigits_length, h]) (isD_dec a) (isD_dec b)
  rwa [dv_dec, dv_dec] at this
end Go.Proofs.YtcfddphiflmnlaaDoor.P
namespace Go.Proofs.YtcfddphiflmnlaaDoor.P
open Go.RowKit Go.Proofs.YtcfddphiflmnlaaDoorW.PrintWords

def B8 (l : List UInt8) : List Int := l.map fun b => (b.toNat : Int)
theorem B8_length (l : List UInt8) : (B8 l).length = l.length := by simp [B8]
theorem B8_append (l m : List UInt8) : B8 (l ++ m) = B8 l ++ B8 m := by simp [B8]
theorem rd_B8 (P Q : List UInt8) (c : UInt8) (i : Nat) (h : P.length = i) : rd (B8 (P ++ c :: Q)) (i : Int) = (c.toNat : Int) := by
  subst h
  simp [rd, B8, List.getD_eq_getElem?_getD]
theorem extract_list (s : ByteArray) (a b : Nat) : (s.extract a b).data.toList = (s.data.toList.take b).drop a := by
  simp [List.drop_take]
theorem size_list (s : ByteArray) : s.size = s.data.toList.length := (data_length s).symm
theorem dstep {n : Nat} {c : UInt8} (hc : 48 ≤ c.toNat ∧ c.toNat ≤ 57) (hn : 10 * n + (c.toNat - 48) < 18446744073709551616) : IntKind.u64.wrap (IntKind.u64.wrap (10 * (n : Int)) + ((c.toNat : Int) - 48) % 256) = ((10 * n + (c.toNat - 48) : Nat) : Int) := by
  have h1 : ((c.toNat : Int) - 48) % 256 = ((c.toNat - 48 : Nat) : Int) := by omega
  rw [h1, show (10 : Int) * n = ((10 * n : Nat) : Int) by omega, u64n _ (by omega), uadd hn]
theorem dstep' {n : Nat} {c : UInt8} (hc : 48 ≤ c.toNat ∧ c.toNat ≤ 57) (hn : 10 * n + (c.toNat - 48) < 18446744073709551616) : IntKind.u64.wrap (IntKind.u64.wrap ((n : Int) * 10) + ((c.toNat : Int) - 48) % 256) = ((10 * n + (c.toNat - 48) : Nat) : Int) := by
  rw [Int.mul_comm]; exact dstep hc hn
theorem dv_bound {P Q : List UInt8} (c : UInt8) (h : IsD (P ++ c :: Q)) (hl : (P ++ c :: Q).length ≤ 19) : 10 * dv P + (c.toNat - 48) < 18446744073709551616 := by
  have h1 : IsD (P ++ [c]) := by
    have : P ++ c :: Q = (P ++ [c]) ++ Q := by simp
    rw [this] at h
    exact h.left
  have h2 := dv_lt h1
  have h3 : 10 ^ (P ++ [c]).length ≤ 10 ^ 19 := Nat.pow_le_pow_right (by decide) (by simp at hl ⊢; omega)
  rw [dv_snoc] at h2
  omega

theorem cut_step (k : Nat) (s : ByteArray) (acc : List Int) (e : Int) (P Q : List UInt8) (c : UInt8) (h : IsD (P ++ c :: Q)) (hl : (P ++ c :: Q).length ≤ 18) (n : Int) (hn : n = ((P ++ c :: Q).length : Nat)) :
    decimal_cut.l1 (k + 1) s acc e (dv P : Int) (B8 (P ++ c :: Q)) n (P.length : Int) = decimal_cut.l1 k s acc e (dv (P ++ [c]) : Int) (B8 (P ++ c :: Q)) n ((P ++ [c]).length : Int) := by
  have e1 := rd_B8 P Q c P.length rfl
  have e2 := dstep (h c (by simp)) (dv_bound c h (by omega))
  have e3 := wsucc (a := P.length) ⟨by simp at hl; omega⟩
  have hl2 : (B8 (P ++ c :: Q)).length = P.length + (Q.length + 1) := by rw [B8_length]; simp
  rw [show (P ++ c :: Q).length = P.length + (Q.length + 1) by simp] at hn
  simp only [decimal_cut.l1, e1, e2, e3]
  clear e1 e2 e3
  simp (disch := omega) only [if_pos]
  rw [dv_snoc, List.length_append, List.length_singleton]
theorem cut_l1 (s : ByteArray) (acc : List Nat) (e : Int) (hacc : acc.length < 17592186044416) : ∀ (Q P : List UInt8) (n : Int) (r : List Int), n = ((P ++ Q).length : Nat) → IsD (P ++ Q) → (P ++ Q).length ≤ 18 →
    Ev (fun k => decimal_cut.l0 k s (C (acc ++ [dv (P ++ Q)])) (wrap64 (e - 9))) r → Ev (fun k => decimal_cut.l1 k s (C acc) e (dv P : Int) (B8 (P ++ Q)) n (P.length : Int)) r
  | [], P, n, r, hn, _, _, h => by
    rw [List.append_nil] at h hn ⊢
    refine Ev.step (fun k => ?_) h
    have hl2 : (C acc).length = acc.length := C_length _
    simp (disch := omega) only [decimal_cut.l1, if_neg, if_pos]
    rw [C_append]
    rfl
  | c :: Q, P, n, r, hn, hD, hl, h => by
    have e0 : P ++ c :: Q = (P ++ [c]) ++ Q := by simp
    refine Ev.step (fun k => cut_step k s (C acc) e P Q c hD hl n hn) ?_
    rw [e0] at hn hD hl h ⊢
    exact cut_l1 s acc e hacc Q (P ++ [c]) n r hn hD hl h
theorem chunk {l : List UInt8} {e st : Nat} (he : e ≤ l.length) (hst : st = e - 9) : dv (l.take e) = dv ((l.take e).drop st) + 1000000000 * dv (l.take st) ∧ ((l.take e).drop st).length = e - st := by
  have hl : ((l.take e).drop st).length = e - st := by rw [List.length_drop, List.length_take]; omega
  refine ⟨?_, hl⟩
  have h1 := dv_append ((l.take e).take st) ((l.take e).drop st)
  rw [List.take_append_drop, List.take_take, Nat.min_eq_left (by omega), hl] at h1
  rw [h1]
  rcases Nat.eq_zero_or_pos st with h2 | h2
  · rw [h2, List.take_zero, dv_nil]; omega
  · rw [show e - st = 9 by omega]
    have : (10 : Nat) ^ 9 = 1000000000 := by decide
    rw [this, Nat.mul_comm]
    omega
theorem cut_l0 (s : ByteArray) (hD : IsD s.data.toList) : ∀ (m e : Nat) (acc : List Nat) (x : Int), e ≤ m → e ≤ s.size → (x = (e : Int) ∨ e = 0 ∧ x ≤ 0) → Ok acc → acc.length + e < 17592186044416 →
    Ev (fun k => decimal_cut.l0 k s (C acc) x) (C (pcs (val acc + 1000000000 ^ acc.length * dv (s.data.toList.take e))))
  | 0, e, acc, x, hm, _, hx, hacc, hl => by
    obtain rfl : e = 0 := by omega
    refine Ev.step (f := fun k => (decimal_pieces_trim.f k (C acc)).bind fun t => some t) (fun k => ?_) (Ev.eq (Ev.bind (trim_f acc hacc (by omega)) (Ev.now _)) ?_)
    · simp (disch := omega) only [decimal_cut.l0, if_neg]
    · rw [List.take_zero, dv_nil, Nat.mul_zero, Nat.add_zero]
  | m + 1, e, acc, x, hm, hs, hx, hacc, hl => by
    rcases Nat.eq_zero_or_pos e with h0 | h0
    · exact cut_l0 s hD 0 e acc x (by omega) hs hx hacc hl
    · obtain rfl : x = (e : Int) := by omega
      obtain ⟨st, hst⟩ : ∃ st, st = e - 9 := ⟨_, rfl⟩
      rw [size_list] at hs
      obtain ⟨h1, h2⟩ := chunk hs hst
      have hsub := extract_list s st e
      have hw : wrap64 ((e : Int) - 9) = (e : Int) - 9 := w64 (by omega) (by omega)
      have hmx : mx 0 ((e : Int) - 9) = (st : Int) := by unfold mx; split <;> omega
      have hDs : IsD ((s.data.toList.take e).drop st) := (hD.take e).drop st
      have hdl := dv_lt hDs
      have hpow : 10 ^ ((s.data.toList.take e).drop st).length ≤ 10 ^ 9 := Nat.pow_le_pow_right (by decide) (by omega)
      have h9 : (10 : Nat) ^ 9 = 1000000000 := by decide
      have ih := cut_l0 s hD m st (acc ++ [dv ((s.data.toList.take e).drop st)]) ((e : Int) - 9) (by omega) (by rw [size_list]; omega) (by omega) (hacc.append (Ok.cons (by omega) Ok.nil)) (by rw [List.length_append, List.length_singleton]; omega)
      have hv : val (acc ++ [dv ((s.data.toList.take e).drop st)]) + 1000000000 ^ (acc ++ [dv ((s.data.toList.take e).drop st)]).length * dv (s.data.toList.take st) = val acc + 1000000000 ^ acc.length * dv (s.data.toList.take e) := by
        rw [val_snoc, h1, List.length_append, List.length_singleton, Nat.pow_succ, Nat.mul_add, Nat.mul_assoc, Nat.add_assoc]
      rw [hv] at ih
      have key := cut_l1 s acc (e : Int) (by omega) ((s.data.toList.take e).drop st) [] ((((s.data.toList.take e).drop st).length : Nat) : Int) _ rfl hDs (by rw [List.nil_append]; omega) (by rw [List.nil_append, hw]; exact ih)
      refine Ev.step (fun k => ?_) key
      have hsz : (s.extract st e).size = e - st := by rw [size_list, hsub, h2]
      have hb : bytesOf (s.extract st e) = B8 ((s.data.toList.take e).drop st) := by rw [← hsub]; rfl
      have hsl : (s.size : Int) = (s.data.toList.length : Int) := by rw [size_list]
      simp only [decimal_cut.l0, hw, hmx, Int.toNat_natCast, hsz, hb, B8_length, Option.bind_some, hsl]
      clear hv ih key hw hmx hdl hpow hb hsub hD hDs
      simp (disch := omega) only [if_pos]
      rfl
theorem cut_of (s : ByteArray) (hD : IsD s.data.toList) (hs : s.size < 17592186044416) : Ev (fun k => decimal_cut.f k s) (C (pcs (dv s.data.toList))) := by
  have key := cut_l0 s hD s.size s.size [] (s.size : Int) (Nat.le_refl _) (Nat.le_refl _) (Or.inl rfl) Ok.nil (by simpa using hs)
  have e0 : val ([] : List Nat) + 1000000000 ^ ([] : List Nat).length * dv (s.data.toList.take s.size) = dv s.data.toList := by
    rw [size_list, List.take_length]; simp [val]
  rw [e0] at key
  have e1 : wrap64 ((s.size : Int) / 9) = (((s.size / 9 : Nat)) : Int) := by rw [w64 (by omega) (by omega)]; omega
  have e2 := wsucc (a := s.size / 9) ⟨by omega⟩
  unfold decimal_cut.f
  simp only [e1, e2, Int.toNat_natCast]
  clear e1 e2
  simp (disch := omega) only [if_pos]
  exact key
theorem cut_f (n : Nat) (hs : Lib.nDigits n < 17592186044416) : Ev (fun k => decimal_cut.f k (S n)) (C (pcs n)) := by
  have := cut_of (S n) (by rw [S_list]; exact isD_dec n) (by rw [S_size]; exact hs)
  rwa [S_list, dv_dec] at this
end Go.Proofs.YtcfddphiflmnlaaDoor.P
namespace Go.Proofs.YtcfddphiflmnlaaDoor.P
open Go.RowKit Go.Proofs.YtcfddphiflmnlaaDoorW.PrintWords

theorem toList_data (s : ByteArray) : s.toList = s.data.toList := ByteArray.toList_eq s
theorem bt_mid (s : ByteArray) (P Q : List UInt8) (c : UInt8) (h : s.data.toList = P ++ c :: Q) : bt s (P.length : Int) = (c.toNat : Int) := by
  rw [← rd_bytesOf, show bytesOf s = B8 s.data.toList from rfl, h, rd_B8 _ _ _ _ rfl]
theorem size_mid (s : ByteArray) (P Q : List UInt8) (c : UInt8) (h : s.data.toList = P ++ c :: Q) : s.size = P.length + (Q.length + 1) := by
  rw [size_list, h]; simp

/-! ### canonical forms -/
def digB (c : UInt8) : Bool := decide (48 ≤ c.toNat ∧ c.toNat ≤ 57)
def canb (l : List UInt8) : Bool := l.all digB && (decide (l.length = 1) || (decide (1 < l.length) && (l.head? != some 48)))
theorem all_dig (l : List UInt8) : l.all digB = true ↔ IsD l := by
  simp [List.all_eq_true, digB, IsD]
theorem canb_iff (l : List UInt8) : canb l = true ↔ Can l := by
  unfold canb Can
  rw [Bool.and_eq_true, all_dig]
  simp
theorem canon_bad {P Q : List UInt8} {c : UInt8} (h : ¬ (48 ≤ c.toNat ∧ c.toNat ≤ 57)) : canb (P ++ c :: Q) = false := by
  have : digB c = false := by simpa [digB] using h
  simp [canb, List.all_append, this]
theorem canon_end (s : ByteArray) (h : IsD s.data.toList) : (if (s.size : Int) = 1 then some true else if (s.size : Int) > 1 then (if 0 < (s.size : Int) then some (bt s 0 != 48) else none) else some false) = some (canb s.data.toList) := by
  have h1 := size_list s
  have h2 := (all_dig s.data.toList).2 h
  unfold canb
  rw [h2, ← h1]
  by_cases e1 : s.size = 1
  · simp [e1]
  · by_cases e2 : 1 < s.size
    · rw [if_neg (by omega), if_pos (by omega), if_pos (by omega)]
      rcases e : s.data.toList with _ | ⟨c, t⟩
      · rw [e, List.length_nil] at h1; omega
      · have e3 := bt_mid s [] t c e
        have e4 : bt s 0 = (c.toNat : Int) := e3
        rw [e4]
        have e5 : ((c.toNat : Int) != 48) = (some c != some (48 : UInt8)) := by
          rw [Bool.eq_iff_iff]
          simp only [bne_iff_ne, ne_eq, Option.some.injEq]
          constructor
          · intro h3 h4; subst h4; exact h3 rfl
          · intro h3 h4
            apply h3
            apply UInt8.toNat_inj.1
            have : (48 : UInt8).toNat = 48 := rfl
            omega
        simp [e1, e2, e5]
    · rw [if_neg (by omega), if_neg (by omega)]
      simp [e1, e2]
theorem canonical_l0 (s : ByteArray) (hs : s.size < 4611686018427387904) : ∀ (Q P : List UInt8), s.data.toList = P ++ Q → IsD P →
    Ev (fun k => decimal_Canonical.l0 k s (bytesOf s) (s.size : Int) (P.length : Int)) (canb s.data.toList)
  | [], P, h, hP => by
    rw [List.append_nil] at h
    have h1 := size_list s
    rw [h] at h1
    refine Ev.step (f := fun _ => some (canb s.data.toList)) (fun k => ?_) (Ev.now _)
    have := canon_end s (by rw [h]; exact hP)
    simp (disch := omega) only [decimal_Canonical.l0, if_neg]
    exact this
  | c :: Q, P, h, hP => by
    have h1 := size_mid s P Q c h
    have e1 : rd (bytesOf s) (P.length : Int) = (c.toNat : Int) := by rw [rd_bytesOf, bt_mid s P Q c h]
    have e2 : (bytesOf s).length = s.size := bytesOf_length s
    have e3 := wsucc (a := P.length) ⟨by omega⟩
    by_cases hc : 48 ≤ c.toNat ∧ c.toNat ≤ 57
    · refine Ev.step (f := fun k => decimal_Canonical.l0 k s (bytesOf s) (s.size : Int) ((P.length + 1 : Nat) : Int)) (fun k => ?_) ?_
      · simp only [decimal_Canonical.l0, e1, e2, e3]
        clear e1 e2 e3
        simp (disch := omega) only [if_pos, if_neg]
      · have := canonical_l0 s hs Q (P ++ [c]) (by rw [h]; simp) (hP.append (IsD.cons hc IsD.nil))
        simpa using this
    · refine Ev.step (f := fun _ => some false) (fun k => ?_) (Ev.eq (Ev.now _) (by rw [h, canon_bad hc]))
      simp only [decimal_Canonical.l0, e1, e2, e3]
      clear e1 e2 e3
      by_cases h48 : c.toNat < 48
      · simp (disch := omega) only [if_pos]
      · simp (disch := omega) only [if_pos, if_neg]
theorem canonical_f (s : ByteArray) (hs : s.size < 4611686018427387904) : Ev (fun k => decimal_Canonical.f k s) (canb s.data.toList) := by
  unfold decimal_Canonical.f
  have := canonical_l0 s hs s.data.toList [] rfl IsD.nil
  simp (disch := omega) only [if_pos, Option.bind_some, bytesOf_length]
  exact this
theorem rcanonical_l0 (s : ByteArray) (hs : s.size < 4611686018427387904) : ∀ (Q P : List UInt8), s.data.toList = P ++ Q → IsD P →
    Ev (fun k => schismaref01_Canonical.l0 k s (P.length : Int)) (canb s.data.toList)
  | [], P, h, hP => by
    rw [List.append_nil] at h
    have h1 := size_list s
    rw [h] at h1
    refine Ev.step (f := fun _ => some (canb s.data.toList)) (fun k => ?_) (Ev.now _)
    have := canon_end s (by rw [h]; exact hP)
    simp (disch := omega) only [schismaref01_Canonical.l0, if_neg]
    exact this
  | c :: Q, P, h, hP => by
    have h1 := size_mid s P Q c h
    have e1 := bt_mid s P Q c h
    have e3 := wsucc (a := P.length) ⟨by omega⟩
    by_cases hc : 48 ≤ c.toNat ∧ c.toNat ≤ 57
    · refine Ev.step (f := fun k => schismaref01_Canonical.l0 k s ((P.length + 1 : Nat) : Int)) (fun k => ?_) ?_
      · simp only [schismaref01_Canonical.l0, e1, e3]
        clear e1 e3
        simp (disch := omega) only [if_pos, if_neg]
      · have := rcanonical_l0 s hs Q (P ++ [c]) (by rw [h]; simp) (hP.append (IsD.cons hc IsD.nil))
        simpa using this
    · refine Ev.step (f := fun _ => some false) (fun k => ?_) (Ev.eq (Ev.now _) (by rw [h, canon_bad hc]))
      simp only [schismaref01_Canonical.l0, e1, e3]
      clear e1 e3
      by_cases h48 : c.toNat < 48
      · simp (disch := omega) only [if_pos]
      · simp (disch := omega) only [if_pos, if_neg]
theorem rcanonical_f (s : ByteArray) (hs : s.size < 4611686018427387904) : Ev (fun k => schismaref01_Canonical.f k s) (canb s.data.toList) :=
  rcanonical_l0 s hs s.data.toList [] rfl IsD.nil
theorem check_f (s : ByteArray) (hs : s.size < 4611686018427387904) : Ev (fun k => decimal_Check.f k s) (if canb s.data.toList = true ∧ s.size ≤ 400 then 0 else 2) := by
  unfold decimal_Check.f
  refine Ev.bind (canonical_f s hs) ?_
  by_cases h : canb s.data.toList = true
  · rw [h]
    by_cases h4 : s.size ≤ 400
    · simp (disch := omega) only [if_pos, if_neg, h4, and_self]
      exact Ev.now _
    · simp (disch := omega) only [if_pos, if_neg, h4, and_false]
      exact Ev.now _
  · simp only [h, if_neg, false_and]
    exact Ev.now _

/-! ### known -/
set_option maxRecDepth 100000 in
theorem known_ev : Ev (fun k => schismalaw01_known.f k) true := Ev.of (k := 200) (fun k => schismalaw01_known.mono k) (by decide +kernel)
end Go.Proofs.YtcfddphiflmnlaaDoor.P
namespace Go.Proofs.YtcfddphiflmnlaaDoor.P
open Go.RowKit Go.Proofs.YtcfddphiflmnlaaDoorW.PrintWords

theorem dv_prefix (P Q : List UInt8) : dv P ≤ dv (P ++ Q) := by
  rw [dv_append]
  have : dv P * 1 ≤ dv P * 10 ^ Q.length := Nat.mul_le_mul_left _ (Nat.pow_pos (by decide))
  omega
theorem dv_prefix1 (P Q : List UInt8) (c : UInt8) : 10 * dv P + (c.toNat - 48) ≤ dv (P ++ c :: Q) := by
  have := dv_prefix (P ++ [c]) Q
  rw [dv_snoc] at this
  simpa using this

/-! ### the reference's quick and Small -/
theorem quick_l0 (s : ByteArray) (hs : s.size < 4611686018427387904) (hD : IsD s.data.toList) (hv : dv s.data.toList < 18446744073709551616) : ∀ (Q P : List UInt8), s.data.toList = P ++ Q →
    Ev (fun k => schismaref01_quick.l0 k s (dv P : Int) (P.length : Int)) ((dv s.data.toList : Int), true)
  | [], P, h => by
    rw [List.append_nil] at h
    have h1 := size_list s
    rw [h] at h1 ⊢
    refine Ev.step (f := fun _ => some ((dv P : Int), true)) (fun k => ?_) (Ev.now _)
    simp (disch := omega) only [schismaref01_quick.l0, if_neg]
  | c :: Q, P, h => by
    have h1 := size_mid s P Q c h
    have e1 := bt_mid s P Q c h
    have e3 := wsucc (a := P.length) ⟨by omega⟩
    have hb := dv_prefix1 P Q c
    rw [← h] at hb
    have e2 := dstep' (n := dv P) (hD c (by rw [h]; simp)) (by omega)
    refine Ev.step (f := fun k => schismaref01_quick.l0 k s (dv (P ++ [c]) : Int) ((P ++ [c]).length : Int)) (fun k => ?_) (quick_l0 s hs hD hv Q (P ++ [c]) (by rw [h]; simp))
    simp only [schismaref01_quick.l0, e1, e2, e3]
    clear e1 e2 e3
    simp (disch := omega) only [if_pos]
    rw [dv_snoc, List.length_append, List.length_singleton]
theorem rsmall_l0 (s : ByteArray) (hs : s.size < 4611686018427387904) (hD : IsD s.data.toList) (hv : dv s.data.toList < 18446744073709551616) : ∀ (Q P : List UInt8), s.data.toList = P ++ Q →
    Ev (fun k => schismaref01_Small.l0 k s (dv P : Int) (P.length : Int)) ((dv s.data.toList : Int), true)
  | [], P, h => by
    rw [List.append_nil] at h
    have h1 := size_list s
    rw [h] at h1 ⊢
    refine Ev.step (f := fun _ => some ((dv P : Int), true)) (fun k => ?_) (Ev.now _)
    simp (disch := omega) only [schismaref01_Small.l0, if_neg]
  | c :: Q, P, h => by
    have h1 := size_mid s P Q c h
    have e1 := bt_mid s P Q c h
    have e3 := wsucc (a := P.length) ⟨by omega⟩
    have hb := dv_prefix1 P Q c
    rw [← h] at hb
    have e2 := dstep' (n := dv P) (hD c (by rw [h]; simp)) (by omega)
    refine Ev.step (f := fun k => schismaref01_Small.l0 k s (dv (P ++ [c]) : Int) ((P ++ [c]).length : Int)) (fun k => ?_) (rsmall_l0 s hs hD hv Q (P ++ [c]) (by rw [h]; simp))
    simp only [schismaref01_Small.l0, e1, e2, e3]
    clear e1 e2 e3
    simp (disch := omega) only [if_pos]
    rw [dv_snoc, List.length_append, List.length_singleton]
theorem S_dv (n : Nat) : dv (S n).data.toList = n := by rw [S_list, dv_dec]
theorem S_dig (n : Nat) : IsD (S n).data.toList := by rw [S_list]; exact isD_dec n
theorem nDig_lt {n : Nat} {k : Nat} (h : Lib.nDigits n ≤ k) : n < 10 ^ k := Nat.lt_of_lt_of_le (Lib.lt_pow_nDigits n) (Nat.pow_le_pow_right (by decide) h)
theorem quick_big {s : ByteArray} (hs : 18 < s.size) : Ev (fun k => schismaref01_quick.f k s) (0, false) := by
  unfold schismaref01_quick.f
  simp (disch := omega) only [if_pos]
  exact Ev.now _
theorem quick_small {n : Nat} (h : Lib.nDigits n ≤ 18) : Ev (fun k => schismaref01_quick.f k (S n)) ((n : Int), true) := by
  unfold schismaref01_quick.f
  have h1 := S_size n
  simp (disch := omega) only [if_neg]
  have h2 := nDig_lt h
  have h3 : (10 : Nat) ^ 18 = 1000000000000000000 := by decide
  have := quick_l0 (S n) (by omega) (S_dig n) (by rw [S_dv]; omega) (S n).data.toList [] rfl
  rw [S_dv] at this
  exact this
theorem bless : ∀ (l m : List UInt8), Op.bytesLess l m = true ↔ l < m
  | [], [] => by simp [Op.bytesLess]
  | [], _ :: _ => by simp [Op.bytesLess]
  | _ :: _, [] => by simp [Op.bytesLess]
  | a :: l, b :: m => by
    rw [List.cons_lt_cons_iff]
    simp [Op.bytesLess, bless l m]
theorem bless_S {a b : Nat} (h : Lib.nDigits a = Lib.nDigits b) : Op.bytesLess (S a).toList (S b).toList = true ↔ a < b := by
  rw [bless, toList_data, toList_data, S_list, S_list, dec_lex h]
theorem S_eq_iff {a b : Nat} : (S a).toList = (S b).toList ↔ a = b := by
  rw [toList_data, toList_data, S_list, S_list]
  exact ⟨dec_inj, fun h => by rw [h]⟩
theorem rcompare_f (a b : Nat) : schismaref01_Compare.f (S a) (S b) = some (cmp a b) := by
  unfold schismaref01_Compare.f cmp
  rw [S_size, S_size]
  by_cases h : Lib.nDigits a = Lib.nDigits b
  · rw [if_pos (by omega)]
    by_cases h1 : a = b
    · rw [if_pos (S_eq_iff.2 h1), if_neg (by omega), if_neg (by omega)]
    · rw [if_neg (fun e => h1 (S_eq_iff.1 e))]
      by_cases h2 : a < b
      · rw [if_pos ((bless_S h).2 h2), if_pos h2]
      · rw [if_neg (fun e => h2 ((bless_S h).1 e)), if_neg h2, if_pos (by omega)]
  · rw [if_neg (by omega)]
    by_cases h2 : Lib.nDigits a < Lib.nDigits b
    · rw [if_pos (by omega), if_pos (dec_lt_of_len h2)]
    · have := dec_lt_of_len (a := b) (b := a) (by omega)
      rw [if_neg (by omega), if_neg (by omega), if_pos this]
theorem compareS_f (a b : Nat) (ha : Lib.nDigits a < 4611686018427387904) (hb : Lib.nDigits b < 4611686018427387904) : decimal_Compare.f (S a) (S b) = some (cmp a b) := by
  unfold decimal_Compare.f cmp
  rw [S_size, S_size]
  by_cases h : Lib.nDigits a = Lib.nDigits b
  · rw [if_pos (by omega)]
    by_cases h2 : a < b
    · rw [if_pos ((bless_S h).2 h2), if_pos h2]
    · rw [if_neg (fun e => h2 ((bless_S h).1 e)), if_neg h2]
      by_cases h3 : b < a
      · rw [if_pos ((bless_S h.symm).2 h3), if_pos h3]
      · rw [if_neg (fun e => h3 ((bless_S h.symm).1 e)), if_neg h3]
  · rw [if_neg (by omega), w64 (by omega) (by omega)]
    unfold mn mx
    by_cases h2 : Lib.nDigits a < Lib.nDigits b
    · rw [if_pos (dec_lt_of_len h2)]
      congr 1
      split <;> split <;> omega
    · have := dec_lt_of_len (a := b) (b := a) (by omega)
      rw [if_neg (show ¬ a < b by omega), if_pos this]
      congr 1
      split <;> split <;> omega
theorem max_str : (⟨#[49, 56, 52, 52, 54, 55, 52, 52, 48, 55, 51, 55, 48, 57, 53, 53, 49, 54, 49, 53]⟩ : ByteArray) = S 18446744073709551615 :=
  S_of ((canb_iff _).1 (by decide))
theorem rsmall_f (n : Nat) (hn : Lib.nDigits n < 4611686018427387904) : Ev (fun k => schismaref01_Small.f k (S n)) (if n < 18446744073709551616 then ((n : Int), true) else (0, false)) := by
  unfold schismaref01_Small.f
  have h1 := S_size n
  by_cases h : Lib.nDigits n ≤ 18
  · have h2 := nDig_lt h
    have h3 : (10 : Nat) ^ 18 = 1000000000000000000 := by decide
    refine Ev.bind (quick_small h) ?_
    rw [if_pos (show n < 18446744073709551616 by omega)]
    simp only [if_pos]
    exact Ev.now _
  · refine Ev.bind (quick_big (by omega)) ?_
    rw [max_str]
    simp only [rcompare_f, Option.bind_some, Bool.false_eq_true, if_false]
    have hc : ¬ cmp n 18446744073709551615 > 0 ↔ n < 18446744073709551616 := by
      unfold cmp
      by_cases h4 : n < 18446744073709551615
      · simp [h4]; omega
      · by_cases h5 : 18446744073709551615 < n
        · simp [h4, h5]; omega
        · simp [h4, h5]; omega
    by_cases h2 : n < 18446744073709551616
    · rw [if_pos h2]
      have key := rsmall_l0 (S n) (by omega) (S_dig n) (by rw [S_dv]; omega) (S n).data.toList [] rfl
      rw [S_dv] at key
      simp only [if_neg (hc.2 h2)]
      exact key
    · have h3 : cmp n 18446744073709551615 > 0 := by
        by_cases h4 : cmp n 18446744073709551615 > 0
        · exact h4
        · exact absurd (hc.1 h4) h2
      simp only [if_pos h3, if_neg h2]
      exact Ev.now _

/-! ### the program's Small and Of -/
theorem parse_dig : ∀ (l : List UInt8) (acc : Nat), IsD l → Lib.parseUintM 18446744073709551615 acc l = if l = [] ∨ acc * 10 ^ l.length + dv l < 18446744073709551616 then .ok (acc * 10 ^ l.length + dv l) else .range
  | [], acc, _ => by simp [Lib.parseUintM, dv_nil]
  | c :: l, acc, h => by
    have hc := h c (by simp)
    have ih := parse_dig l (acc * 10 + (c.toNat - 48)) (IsD.right (l := [c]) h)
    have e : (acc * 10 + (c.toNat - 48)) * 10 ^ l.length + dv l = acc * 10 ^ (c :: l).length + dv (c :: l) := by
      rw [dv_cons, List.length_cons, Nat.pow_succ, Nat.add_mul, Nat.mul_assoc, Nat.mul_comm 10 (10 ^ l.length), Nat.add_assoc]
    have hp : 1 ≤ 10 ^ l.length := Nat.pow_pos (by decide)
    have hge : acc * 10 + (c.toNat - 48) ≤ acc * 10 ^ (c :: l).length + dv (c :: l) := by
      rw [← e]
      have : (acc * 10 + (c.toNat - 48)) * 1 ≤ (acc * 10 + (c.toNat - 48)) * 10 ^ l.length := Nat.mul_le_mul_left _ hp
      omega
    unfold Lib.parseUintM
    rw [if_pos hc]
    by_cases h1 : 1844674407370955162 ≤ acc
    · rw [if_pos h1, if_neg]
      rintro (h2 | h2)
      · cases h2
      · omega
    · rw [if_neg h1]
      by_cases h2 : 18446744073709551615 < acc * 10 + (c.toNat - 48)
      · rw [if_pos h2, if_neg]
        rintro (h3 | h3)
        · cases h3
        · omega
      · rw [if_neg h2, ih, e]
        by_cases h3 : acc * 10 ^ (c :: l).length + dv (c :: l) < 18446744073709551616
        · rw [if_pos (Or.inr h3), if_pos (Or.inr h3)]
        · have n1 : ¬ ((c :: l) = [] ∨ acc * 10 ^ (c :: l).length + dv (c :: l) < 18446744073709551616) := fun h4 => h4.elim (fun h5 => by cases h5) h3
          have n2 : ¬ (l = [] ∨ acc * 10 ^ (c :: l).length + dv (c :: l) < 18446744073709551616) := fun h4 => h4.elim (fun h5 => by
            rw [h5] at e h3
            rw [← e] at h3
            simp only [List.length_nil, Nat.pow_zero, dv_nil] at h3
            omega) h3
          rw [if_neg n1, if_neg n2]
theorem small_S (n : Nat) (hn : Lib.nDigits n ≤ 281474976710656) : decimal_Small.f (S n) = some (if n < 18446744073709551616 then ((n : Int), true) else (0, false)) := by
  unfold decimal_Small.f
  have hne : Lib.decDigits n ≠ [] := by have := dec_len_pos n; intro e; rw [e] at this; simp at this
  have h64 : (2 : Nat) ^ 64 - 1 = 18446744073709551615 := by decide
  rw [S_size, if_pos hn, S_list, Lib.parseUintB, if_neg hne, h64, parse_dig _ _ (isD_dec n), dv_dec, Nat.zero_mul, Nat.zero_add]
  by_cases h : n < 18446744073709551616
  · rw [if_pos (Or.inr h), if_pos h]
  · rw [if_neg (fun h1 => h1.elim hne h), if_neg h]
theorem of_f (n : Nat) (h : n < 18446744073709551616) : decimal_Of.f (n : Int) = some (S n) := by
  unfold decimal_Of.f
  rw [if_pos (by omega), Int.toNat_natCast]
  rfl
theorem rof_f (n : Nat) (h : n < 18446744073709551616) : schismaref01_Of.f (n : Int) = some (S n) := by
  unfold schismaref01_Of.f
  rw [if_pos (by omega), Int.toNat_natCast]
  rfl
end Go.Proofs.YtcfddphiflmnlaaDoor.P
namespace Go.Proofs.YtcfddphiflmnlaaDoor.P
open Go.RowKit Go.Proofs.YtcfddphiflmnlaaDoorW.PrintWords

theorem strOfNums_B8 (l : List UInt8) : strOfNums (B8 l) = ⟨l.toArray⟩ := by
  have e : ((fun n : Int => UInt8.ofNat n.toNat) ∘ fun b : UInt8 => (b.toNat : Int)) = id := funext fun b => by simp
  rw [strOfNums, B8, List.map_map, e, List.map_id]
theorem zero_str : (⟨#[48]⟩ : ByteArray) = S 0 := S_of ((canb_iff _).1 (by decide))
theorem make_end (acc : List UInt8) (hD : IsD acc) (hh : acc.head? ≠ some 48) : (if ((B8 acc).length : Int) = 0 then some (⟨#[48]⟩ : ByteArray) else some (strOfNums (B8 acc))) = some (S (dv acc)) := by
  rw [B8_length]
  rcases acc with _ | ⟨c, t⟩
  · rw [List.length_nil, if_pos (by rfl), zero_str]; rfl
  · rw [if_neg (by simp; omega), strOfNums_B8]
    congr 1
    refine S_of (s := ⟨(c :: t).toArray⟩) ⟨hD, ?_⟩
    rcases t with _ | ⟨d, t⟩
    · exact Or.inl rfl
    · exact Or.inr ⟨by simp, hh⟩
theorem make_digit {x : Int} (h0 : 0 ≤ x) : ∃ c : UInt8, (48 + Int.tmod x 10) % 256 = (c.toNat : Int) ∧ 48 ≤ c.toNat ∧ c.toNat ≤ 57 ∧ (c = 48 ↔ ¬ Int.tmod x 10 > 0) := by
  obtain ⟨n, rfl⟩ : ∃ n : Nat, x = n := ⟨x.toNat, by omega⟩
  have h1 := tmodn n 10
  have h2 : Int.tmod (n : Int) 10 = ((n % 10 : Nat) : Int) := h1
  rw [h2]
  have h3 : n % 10 < 10 := Nat.mod_lt _ (by decide)
  refine ⟨UInt8.ofNat (48 + n % 10), ?_, ?_, ?_, ?_⟩
  · rw [digit_toNat h3]; omega
  · rw [digit_toNat h3]; omega
  · rw [digit_toNat h3]; omega
  · constructor
    · intro e
      have := congrArg UInt8.toNat e
      rw [digit_toNat h3] at this
      have h48 : (48 : UInt8).toNat = 48 := rfl
      omega
    · intro e
      apply UInt8.toNat_inj.1
      rw [digit_toNat h3]
      have h48 : (48 : UInt8).toNat = 48 := rfl
      omega
theorem make_l0 (l : List Int) (hl : ∀ x, x ∈ l → 0 ≤ x) (hs : l.length < 4611686018427387904) : ∀ (Q P : List Int) (acc : List UInt8), l = P ++ Q → IsD acc → acc.head? ≠ some 48 → acc.length ≤ P.length → P.length ≤ 120 →
    ∃ n, n < 10 ^ l.length ∧ n < 10 ^ 120 ∧ Ev (fun k => schismalaw01_Make.l0 k l (B8 acc) (P.length : Int)) (S n)
  | [], P, acc, h, hD, hh, hp, hP => by
    have hll : l.length = P.length := by rw [h]; simp
    have h1 := dv_lt hD
    have h2 : 10 ^ acc.length ≤ 10 ^ l.length := Nat.pow_le_pow_right (by decide) (by omega)
    have h3 : 10 ^ acc.length ≤ 10 ^ 120 := Nat.pow_le_pow_right (by decide) (by omega)
    refine ⟨dv acc, by omega, by omega, ?_⟩
    refine Ev.step (f := fun k => schismalaw01_Make.j1 k l (B8 acc) (P.length : Int) false) (fun k => ?_) (Ev.step (f := fun _ => some (S (dv acc))) (fun k => ?_) (Ev.now _))
    · clear h2 h3
      simp (disch := omega) only [schismalaw01_Make.l0, if_neg]
    · simp only [schismalaw01_Make.j1, Bool.false_eq_true, if_false]
      exact make_end acc hD hh
  | x :: Q, P, acc, h, hD, hh, hp, hP => by
    have hll : l.length = P.length + (Q.length + 1) := by rw [h]; simp
    have h1 := dv_lt hD
    by_cases h120 : P.length = 120
    · have h2 : 10 ^ acc.length ≤ 10 ^ l.length := Nat.pow_le_pow_right (by decide) (by omega)
      have h3 : 10 ^ acc.length ≤ 10 ^ 120 := Nat.pow_le_pow_right (by decide) (by omega)
      refine ⟨dv acc, by omega, by omega, ?_⟩
      refine Ev.step (f := fun k => schismalaw01_Make.j1 k l (B8 acc) (P.length : Int) false) (fun k => ?_) (Ev.step (f := fun _ => some (S (dv acc))) (fun k => ?_) (Ev.now _))
      · clear h2 h3 h1
        have e9 : decide ((P.length : Int) < 120) = false := decide_eq_false_iff_not.2 (by omega)
        simp (disch := omega) only [schismalaw01_Make.l0, if_pos, e9]
      · simp only [schismalaw01_Make.j1, Bool.false_eq_true, if_false]
        exact make_end acc hD hh
    · have hx : 0 ≤ x := hl x (by rw [h]; simp)
      obtain ⟨c, e1, e2, e3, e4⟩ := make_digit hx
      have e5 : rd l (P.length : Int) = x := by rw [h]; simp [rd, List.getD_eq_getElem?_getD]
      have e6 := wsucc (a := P.length) ⟨by omega⟩
      have e7 : (B8 acc).length = acc.length := B8_length _
      have st : ∀ k, schismalaw01_Make.l0 (k + 1) l (B8 acc) (P.length : Int) = schismalaw01_Make.j1 k l (B8 acc) (P.length : Int) true := fun k => by
        clear e1 e4 h1 e5 e6
        have e9 : decide ((P.length : Int) < 120) = true := decide_eq_true (by omega)
        simp (disch := omega) only [schismalaw01_Make.l0, if_pos, e9]
      have ha : B8 acc ++ [(c.toNat : Int)] = B8 (acc ++ [c]) := by rw [B8_append]; rfl
      clear h1
      by_cases h0 : c = 48
      · have h00 := e4.1 h0
        rcases acc with _ | ⟨d, t⟩
        · obtain ⟨n, n1, n2, n3⟩ := make_l0 l hl hs Q (P ++ [x]) [] (by rw [h]; simp) IsD.nil (by simp) (by simp) (by simp; omega)
          refine ⟨n, n1, n2, Ev.step st (Ev.step (f := fun k => schismalaw01_Make.l0 k l (B8 []) ((P.length + 1 : Nat) : Int)) (fun k => ?_) (by simpa using n3))⟩
          simp only [schismalaw01_Make.j1, e5, e6, e1, if_true, if_neg h00]
          clear n1 n2 n3 e1 e4 h00 e5 e6 st
          have e8 : (B8 []).length = 0 := rfl
          simp (disch := omega) only [if_pos, if_neg]
        · obtain ⟨n, n1, n2, n3⟩ := make_l0 l hl hs Q (P ++ [x]) (d :: t ++ [c]) (by rw [h]; simp) (hD.append (IsD.cons ⟨e2, e3⟩ IsD.nil)) (by simpa using hh) (by simp at hp ⊢; omega) (by simp; omega)
          refine ⟨n, n1, n2, Ev.step st (Ev.step (f := fun k => schismalaw01_Make.l0 k l (B8 (d :: t ++ [c])) ((P.length + 1 : Nat) : Int)) (fun k => ?_) (by simpa using n3))⟩
          simp only [schismalaw01_Make.j1, e5, e6, e1, if_true, if_neg h00, ha]
          clear n1 n2 n3 e1 e4 h00 e5 e6 st
          have e8 : (d :: t).length = t.length + 1 := rfl
          rw [e8] at e7 hp
          simp (disch := omega) only [if_pos]
      · have h00 : Int.tmod x 10 > 0 := Decidable.byContradiction fun h9 => h0 (e4.2 h9)
        have hh2 : (acc ++ [c]).head? ≠ some 48 := by
          rcases acc with _ | ⟨d, t⟩
          · simpa using h0
          · simpa using hh
        obtain ⟨n, n1, n2, n3⟩ := make_l0 l hl hs Q (P ++ [x]) (acc ++ [c]) (by rw [h]; simp) (hD.append (IsD.cons ⟨e2, e3⟩ IsD.nil)) hh2 (by simp; omega) (by simp; omega)
        refine ⟨n, n1, n2, Ev.step st (Ev.step (f := fun k => schismalaw01_Make.l0 k l (B8 (acc ++ [c])) ((P.length + 1 : Nat) : Int)) (fun k => ?_) (by simpa using n3))⟩
        simp only [schismalaw01_Make.j1, e5, e6, e1, if_true, if_pos h00, ha]
        clear n1 n2 n3 e1 e4 h00 e5 e6 st
        simp (disch := omega) only [if_pos]
theorem wf_u8 {x : Int} (h : (Lit.int .u8 x).wf = true) : 0 ≤ x ∧ x ≤ 255 := by
  have h1 : IntKind.u8.min = 0 := by decide
  have h2 : IntKind.u8.max = 255 := by decide
  simpa only [Lit.wf, h1, h2, Bool.and_eq_true, decide_eq_true_eq] using h
theorem wf_u64 {x : Int} (h : (Lit.int .u64 x).wf = true) : 0 ≤ x ∧ x ≤ 18446744073709551615 := by
  have h1 : IntKind.u64.min = 0 := by decide
  have h2 : IntKind.u64.max = 18446744073709551615 := by decide
  simpa only [Lit.wf, h1, h2, Bool.and_eq_true, decide_eq_true_eq] using h
theorem wf_i64 {x : Int} (h : (Lit.int .i64 x).wf = true) : -9223372036854775808 ≤ x ∧ x ≤ 9223372036854775807 := by
  have h1 : IntKind.i64.min = -9223372036854775808 := by decide
  have h2 : IntKind.i64.max = 9223372036854775807 := by decide
  simpa only [Lit.wf, h1, h2, Bool.and_eq_true, decide_eq_true_eq] using h
theorem make_f (l : List Int) (hl : ∀ x, x ∈ l → (Lit.int .u8 x).wf = true) (hs : l.length ≤ 140737488351232) :
    ∃ n, n < 10 ^ l.length ∧ n < 10 ^ 120 ∧ Ev (fun k => schismalaw01_Make.f k l) (S n) :=
  make_l0 l (fun x hx => (wf_u8 (hl x hx)).1) (by omega) l [] [] rfl IsD.nil (by simp) (by simp) (by simp)
end Go.Proofs.YtcfddphiflmnlaaDoor.P
namespace Go.Proofs.YtcfddphiflmnlaaDoor.Pure
open Go.RowKit Go.Proofs.YtcfddphiflmnlaaDoor.P Go.Proofs.YtcfddphiflmnlaaDoorW.PrintWords Go.Proofs.YtcfddphiflmnlaaDoorW.PrintLast

theorem nDig_120 {n : Nat} (h : n < 10 ^ 120) : Lib.nDigits n ≤ 120 := nDig_le (by decide) h
theorem DecimalSmall : schismalaw01_DecimalSmall.Pure := by
  intro a0 l h0 h1 h2 h3
  obtain ⟨u0, u1⟩ := wf_u64 h0
  obtain ⟨u, rfl⟩ : ∃ u : Nat, a0 = u := ⟨a0.toNat, by omega⟩
  refine Ev.rounds (Ev.bind known_ev ?_)
  simp only [if_true]
  by_cases h : (l.length : Int) > 120
  · rw [decide_eq_true h]
    refine Ev.step (f := fun k => (schismalaw01_known.f k).bind fun t => some t) (fun k => ?_) (Ev.bind known_ev (Ev.now _))
    simp only [schismalaw01_DecimalSmall.j0, if_true]
  · rw [decide_eq_false h]
    obtain ⟨n, n1, n2, n3⟩ := make_f l h3 (by omega)
    have hn := nDig_120 n2
    have hu : u < 18446744073709551616 := by omega
    have hu20 : Lib.nDigits u ≤ 20 := nDig_le (by decide) (Nat.lt_of_lt_of_le hu (by decide))
    clear n1 n2
    have c0 := of_f u hu
    have c1 := small_S u (by omega)
    have c2 := small_S n (by omega)
    have c3 := rsmall_f n (by omega)
    have c4 := rof_f u hu
    rw [if_pos hu] at c1
    refine Ev.step (f := fun k => (schismalaw01_Make.f k l).bind fun t306 => (schismaref01_Small.f k t306).bind fun bt309 => (decimal_Small.f t306).bind fun bt307 => if bt307.1 = bt309.1 then some (bt307.2 == bt309.2) else some false) (fun k => ?_) (Ev.bind n3 (Ev.bind c3 ?_))
    · simp only [schismalaw01_DecimalSmall.j0, Bool.false_eq_true, if_false, c0, c1, c4, Option.bind_some, if_true]
      rcases e1 : schismalaw01_Make.f k l with _ | t
      · rfl
      · simp only [Option.bind_some]
        rcases e2 : schismaref01_Small.f k t with _ | b
        · simp only [Option.bind_none, Option.bind_fun_none]
        · simp only [Option.bind_some]
    · simp only [c2, Option.bind_some, if_true, BEq.rfl]
      exact Ev.now _
end Go.Proofs.YtcfddphiflmnlaaDoor.Pure
