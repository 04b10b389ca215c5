/- The printed functions as operations on numbers, and the law's answer: true at every input. Conditions: those of each theorem; the law's own has the row's bounds alone. -/
import Derived.Laws.Bits64b
import Derived.Lib.BitFns
import Derived.Lib.ItoaLen
import Derived.Lib.ItoaMem
import Derived.Lib.ItoaNum
import Derived.Lib.ParseIntBCases
import Derived.Test.YtgicckcahhlbjaaGreatDoorWholePowersSaid
import Derived.Test.YtgicckcahhlbjaaGreatDoorWholePowersWPlus

namespace Go.Proofs.YtgicckcahhlbjaaGreatDoor.P
open Go.RowKit Go.Proofs.YtgicckcahhlbjaaGreatDoorW.PrintWords
def val : List Nat → Nat
  | [] => 0
  | a :: l => a + 1000000000 * val l
def Ok (l : List Nat) : Prop := ∀ a, a ∈ l → a < 1000000000
def pcs (n : Nat) : List Nat := if h : n = 0 then [] else (n % 1000000000) :: pcs (n / 1000000000)
termination_by n
decreasing_by omega
theorem pcs_zero : pcs 0 = [] := by rw [pcs]; rfl
theorem pcs_pos {n : Nat} (h : n ≠ 0) : pcs n = (n % 1000000000) :: pcs (n / 1000000000) := by rw [pcs, dif_neg h]
theorem Ok.nil : Ok [] := fun _ h => by cases h
theorem Ok.cons {a : Nat} {l : List Nat} (ha : a < 1000000000) (hl : Ok l) : Ok (a :: l) := fun x hx => by
  rcases List.mem_cons.1 hx with rfl | hx
  · exact ha
  · exact hl x hx
theorem Ok.head {a : Nat} {l : List Nat} (h : Ok (a :: l)) : a < 1000000000 := h a List.mem_cons_self
theorem Ok.tail {a : Nat} {l : List Nat} (h : Ok (a :: l)) : Ok l := fun x hx => h x (List.mem_cons_of_mem _ hx)
theorem Ok.append {l m : List Nat} (hl : Ok l) (hm : Ok m) : Ok (l ++ m) := fun x hx => by
  rcases List.mem_append.1 hx with hx | hx
  · exact hl x hx
  · exact hm x hx
theorem Ok.left {l m : List Nat} (h : Ok (l ++ m)) : Ok l := fun x hx => h x (List.mem_append_left _ hx)
theorem Ok.right {l m : List Nat} (h : Ok (l ++ m)) : Ok m := fun x hx => h x (List.mem_append_right _ hx)
theorem Ok.take {l : List Nat} (h : Ok l) (i : Nat) : Ok (l.take i) := fun x hx => h x (List.mem_of_mem_take hx)
theorem Ok.drop {l : List Nat} (h : Ok l) (i : Nat) : Ok (l.drop i) := fun x hx => h x (List.mem_of_mem_drop hx)
theorem Ok.zeros (n : Nat) : Ok (List.replicate n 0) := fun x hx => by rw [(List.mem_replicate.1 hx).2]; omega
theorem Ok.getD {l : List Nat} (h : Ok l) (i : Nat) : l.getD i 0 < 1000000000 := by
  rw [List.getD_eq_getElem?_getD]
  by_cases hi : i < l.length
  · rw [List.getElem?_eq_getElem hi]; exact h _ (List.getElem_mem hi)
  · rw [List.getElem?_eq_none (by omega)]; simp
theorem ok_pcs (n : Nat) : Ok (pcs n) := by
  induction n using Nat.strongRecOn with
  | _ n ih =>
    by_cases h : n = 0
    · subst h; rw [pcs_zero]; exact Ok.nil
    · rw [pcs_pos h]; exact Ok.cons (by omega) (ih _ (by omega))
theorem val_pcs (n : Nat) : val (pcs n) = n := by
  induction n using Nat.strongRecOn with
  | _ n ih =>
    by_cases h : n = 0
    · subst h; rw [pcs_zero]; rfl
    · rw [pcs_pos h, val, ih _ (by omega)]; omega
theorem val_append (l m : List Nat) : val (l ++ m) = val l + 1000000000 ^ l.length * val m := by
  induction l with
  | nil => simp [val]
  | cons a l ih =>
    simp only [List.cons_append, val, ih, List.length_cons, Nat.pow_succ]
    rw [Nat.mul_add, Nat.add_assoc, ← Nat.mul_assoc, Nat.mul_comm 1000000000 (1000000000 ^ l.length)]
theorem val_snoc (l : List Nat) (a : Nat) : val (l ++ [a]) = val l + 1000000000 ^ l.length * a := by rw [val_append]; simp [val]
theorem val_zeros (n : Nat) : val (List.replicate n 0) = 0 := by
  induction n with
  | zero => rfl
  | succ n ih => rw [List.replicate_succ, val, ih]
theorem val_lt {l : List Nat} (h : Ok l) : val l < 1000000000 ^ l.length := by
  induction l with
  | nil => simp [val]
  | cons a l ih =>
    have h1 := h.head
    have h2 := ih h.tail
    simp only [val, List.length_cons, Nat.pow_succ]
    omega
theorem pow_pos9 (k : Nat) : 0 < 1000000000 ^ k := Nat.pow_pos (by decide)
theorem pcs_snoc : ∀ (l : List Nat) (a : Nat), Ok (l ++ [a]) → a ≠ 0 → pcs (val (l ++ [a])) = l ++ [a]
  | [], a, h, ha => by
    have := h.head
    have e : val ([] ++ [a]) = a := by simp [val]
    rw [e, pcs_pos ha, Nat.mod_eq_of_lt this, Nat.div_eq_of_lt this, pcs_zero]
    rfl
  | b :: l, a, h, ha => by
    have hb : b < 1000000000 := h.head
    have ih := pcs_snoc l a h.tail ha
    have hv : val (l ++ [a]) ≠ 0 := by
      intro e
      rw [e, pcs_zero] at ih
      exact absurd ih (by simp)
    have e : val (b :: l ++ [a]) = b + 1000000000 * val (l ++ [a]) := rfl
    rw [e, pcs_pos (by omega), show (b + 1000000000 * val (l ++ [a])) % 1000000000 = b by omega, show (b + 1000000000 * val (l ++ [a])) / 1000000000 = val (l ++ [a]) by omega, ih]
    rfl
theorem pcs_len_le {n k : Nat} (h : n < 1000000000 ^ k) : (pcs n).length ≤ k := by
  induction k generalizing n with
  | zero => rw [show n = 0 by simpa using h, pcs_zero]; simp
  | succ k ih =>
    by_cases h0 : n = 0
    · subst h0; rw [pcs_zero]; simp
    · rw [pcs_pos h0, List.length_cons]
      have := ih (n := n / 1000000000) (by rw [Nat.pow_succ] at h; omega)
      omega
theorem lt_pow_pcs (n : Nat) : n < 1000000000 ^ (pcs n).length := by
  have := val_lt (ok_pcs n)
  rwa [val_pcs] at this
theorem pcs_len_mono {a b : Nat} (h : a ≤ b) : (pcs a).length ≤ (pcs b).length := pcs_len_le (Nat.lt_of_le_of_lt h (lt_pow_pcs b))
theorem pcs_len_mul (a b : Nat) : (pcs (a * b)).length ≤ (pcs a).length + (pcs b).length := by
  apply pcs_len_le
  rw [Nat.pow_add]
  rcases Nat.eq_zero_or_pos b with h | h
  · subst h; exact Nat.mul_pos (pow_pos9 _) (pow_pos9 _)
  · exact Nat.lt_of_lt_of_le (Nat.mul_lt_mul_of_pos_right (lt_pow_pcs a) h) (Nat.mul_le_mul_left _ (Nat.le_of_lt (lt_pow_pcs b)))
theorem pcs_nil_iff {n : Nat} : pcs n = [] ↔ n = 0 := by
  constructor
  · intro h
    by_cases h0 : n = 0
    · exact h0
    · rw [pcs_pos h0] at h; cases h
  · rintro rfl; exact pcs_zero
theorem pcs_last {n : Nat} {l : List Nat} {a : Nat} (h : pcs n = l ++ [a]) : a ≠ 0 := by
  rintro rfl
  have h1 : (pcs n).length = l.length + 1 := by rw [h]; simp
  have h2 := val_pcs n
  rw [h, val_snoc] at h2
  have h3 : Ok l := by have := ok_pcs n; rw [h] at this; exact this.left
  have h4 := val_lt h3
  have h5 := pcs_len_le (n := n) (k := l.length) (by omega)
  omega
theorem Ok.set {l : List Nat} (h : Ok l) (i x : Nat) (hx : x < 1000000000) : Ok (l.set i x) := fun a ha => by
  rcases List.mem_or_eq_of_mem_set ha with h1 | h1
  · exact h a h1
  · omega
def C (l : List Nat) : List Int := l.map fun n : Nat => (n : Int)
theorem C_nil : C [] = [] := rfl
theorem C_length (l : List Nat) : (C l).length = l.length := by simp [C]
theorem C_append (l m : List Nat) : C (l ++ m) = C l ++ C m := by simp [C]
theorem C_take (l : List Nat) (i : Nat) : (C l).take i = C (l.take i) := by simp [C, List.map_take]
theorem C_set (l : List Nat) (i x : Nat) : (C l).set i (x : Int) = C (l.set i x) := by simp [C, List.map_set]
theorem C_zeros (n : Nat) : List.replicate n (0 : Int) = C (List.replicate n 0) := by simp [C]
theorem rd_C (l : List Nat) (i : Nat) : rd (C l) (i : Int) = (l.getD i 0 : Nat) := by
  simp only [rd, C, Int.toNat_natCast, List.getD_eq_getElem?_getD, List.getElem?_map]
  cases l[i]? <;> simp
theorem w64 {n : Int} (h0 : -9223372036854775808 ≤ n) (h1 : n ≤ 9223372036854775807) : wrap64 n = n := by unfold wrap64; omega
theorem u64w {n : Int} (h0 : 0 ≤ n) (h1 : n ≤ 18446744073709551615) : IntKind.u64.wrap n = n := by rw [IntKind.wrap_u64]; omega
theorem u64n (n : Nat) (h : n < 18446744073709551616) : IntKind.u64.wrap (n : Int) = n := u64w (by omega) (by omega)
theorem tdivn (a b : Nat) : Int.tdiv (a : Int) (b : Int) = ((a / b : Nat) : Int) := (Int.ofNat_tdiv a b).symm
theorem tmodn (a b : Nat) : Int.tmod (a : Int) (b : Int) = ((a % b : Nat) : Int) := (Int.ofNat_tmod a b).symm
theorem tdiv9 (a : Nat) : Int.tdiv (a : Int) 1000000000 = ((a / 1000000000 : Nat) : Int) := tdivn a 1000000000
theorem tmod9 (a : Nat) : Int.tmod (a : Int) 1000000000 = ((a % 1000000000 : Nat) : Int) := tmodn a 1000000000
structure Sm (n : Nat) : Prop where
  out : n < 4611686018427387904
theorem Sm.le {a b : Nat} (h : Sm b) (hab : a ≤ b) : Sm a := ⟨Nat.lt_of_le_of_lt hab h.out⟩
theorem wadd {a b : Nat} (h : Sm (a + b)) : wrap64 ((a : Int) + (b : Int)) = ((a + b : Nat) : Int) := by have := h.out; rw [w64] <;> omega
theorem wsucc {a : Nat} (h : Sm a) : wrap64 ((a : Int) + 1) = ((a + 1 : Nat) : Int) := by have := h.out; rw [w64] <;> omega
theorem wpred1 {a : Nat} (h : Sm (a + 1)) : wrap64 (((a + 1 : Nat) : Int) - 1) = (a : Int) := by have := h.out; rw [w64] <;> omega
theorem wnat {a : Nat} (h : Sm a) : wrap64 (a : Int) = (a : Int) := by have := h.out; rw [w64] <;> omega
theorem usmall {n : Nat} (h : n < 1000000000000000000) : IntKind.u64.wrap (n : Int) = (n : Int) := u64n n (by omega)
theorem uadd {a b : Nat} (h : a + b < 18446744073709551616) : IntKind.u64.wrap ((a : Int) + (b : Int)) = ((a + b : Nat) : Int) := by rw [← Int.natCast_add]; exact u64n _ h
theorem umul {a b : Nat} (h : a * b < 18446744073709551616) : IntKind.u64.wrap ((a : Int) * (b : Int)) = ((a * b : Nat) : Int) := by rw [← Int.natCast_mul]; exact u64n _ h
end Go.Proofs.YtgicckcahhlbjaaGreatDoor.P

namespace Go.Proofs.YtgicckcahhlbjaaGreatDoor.P
open Go.RowKit Go.Proofs.YtgicckcahhlbjaaGreatDoorW.PrintWords
theorem Ev.eq {α : Type} {g : Nat → Option α} {r r' : α} (h : Ev g r) (e : r = r') : Ev g r' := e ▸ h
theorem Ev.pos {α : Type} {p : Prop} [Decidable p] {g f : Nat → Option α} {r : α} (h : p) (k : Ev g r) : Ev (fun n => if p then g n else f n) r := by
  simp only [if_pos h]; exact k
theorem Ev.neg {α : Type} {p : Prop} [Decidable p] {g f : Nat → Option α} {r : α} (h : ¬ p) (k : Ev f r) : Ev (fun n => if p then g n else f n) r := by
  simp only [if_neg h]; exact k
theorem concat_of_len {α : Type} {l : List α} {n : Nat} (h : l.length = n + 1) : ∃ m a, l = m ++ [a] ∧ m.length = n := by
  rcases List.eq_nil_or_concat l with e | ⟨m, a, e⟩
  · subst e; simp at h
  · refine ⟨m, a, by simpa using e, ?_⟩
    subst e
    simpa using h
theorem getD_mid (l m : List Nat) (a : Nat) : (l ++ a :: m).getD l.length 0 = a := by
  simp [List.getD_eq_getElem?_getD]
theorem set_mid (l m : List Nat) (a b : Nat) : (l ++ a :: m).set l.length b = l ++ b :: m := by
  simp
theorem trim_l0 : ∀ (n : Nat) (l : List Nat), l.length = n → Ok l → n < 4611686018427387904 → Ev (fun k => decimal_pieces_trim.l0 k (C l)) (C (pcs (val l)))
  | 0, l, hl, _, _ => by
    obtain rfl := List.length_eq_zero_iff.1 hl
    refine Ev.step (f := fun _ => some []) (fun k => ?_) (Ev.eq (Ev.now _) ?_)
    · simp only [decimal_pieces_trim.l0, C_nil, List.length_nil]
      rfl
    · rw [show val [] = 0 from rfl, pcs_zero]; rfl
  | n + 1, l, hl, h, hn => by
    obtain ⟨m, a, rfl, hm⟩ := concat_of_len hl
    have h1 : (C (m ++ [a])).length = n + 1 := by rw [C_length]; exact hl
    have h3 : rd (C (m ++ [a])) (n : Int) = a := by rw [rd_C, ← hm, getD_mid]
    have h4 : wrap64 (((C (m ++ [a])).length : Int) - 1) = (n : Int) := by rw [h1, w64] <;> omega
    by_cases ha : a = 0
    · subst ha
      refine Ev.step (f := fun k => decimal_pieces_trim.l0 k (C m)) (fun k => ?_) (Ev.eq (trim_l0 n m hm h.left (by omega)) (by rw [val_snoc, Nat.mul_zero, Nat.add_zero]))
      simp (disch := omega) only [decimal_pieces_trim.l0, h4, h3, if_pos]
      congr 1
      rw [Int.toNat_natCast, C_take, ← hm, List.take_left]
    · refine Ev.step (f := fun _ => some (C (m ++ [a]))) (fun k => ?_) (Ev.eq (Ev.now _) (by rw [pcs_snoc m a h ha]))
      simp (disch := omega) only [decimal_pieces_trim.l0, h4, h3, if_pos, if_neg]
theorem trim_f (l : List Nat) (h : Ok l) (hl : l.length < 4611686018427387904) : Ev (fun k => decimal_pieces_trim.f k (C l)) (C (pcs (val l))) := by
  unfold decimal_pieces_trim.f
  exact trim_l0 _ l rfl h hl
end Go.Proofs.YtgicckcahhlbjaaGreatDoor.P

namespace Go.Proofs.YtgicckcahhlbjaaGreatDoor.P
open Go.RowKit Go.Proofs.YtgicckcahhlbjaaGreatDoorW.PrintWords
theorem snoc_ind {α : Type} {p : List α → Prop} (nil : p []) (snoc : ∀ (l : List α) (a : α), p l → p (l ++ [a])) (l : List α) : p l := by
  have h : ∀ (n : Nat) (l : List α), l.length = n → p l := by
    intro n
    induction n with
    | zero => intro l hl; rw [List.length_eq_zero_iff.1 hl]; exact nil
    | succ n ih =>
      intro l hl
      rcases List.eq_nil_or_concat l with e | ⟨m, a, e⟩
      · rw [e] at hl; simp at hl
      · have e' : l = m ++ [a] := by simpa using e
        subst e'
        exact snoc m a (ih m (by simpa using hl))
  exact h _ l rfl
def dv (l : List UInt8) : Nat := l.foldl (fun n c => 10 * n + (c.toNat - 48)) 0
def IsD (l : List UInt8) : Prop := ∀ c, c ∈ l → 48 ≤ c.toNat ∧ c.toNat ≤ 57
def Can (l : List UInt8) : Prop := IsD l ∧ (l.length = 1 ∨ (1 < l.length ∧ l.head? ≠ some 48))
theorem dv_nil : dv [] = 0 := rfl
theorem dv_snoc (l : List UInt8) (c : UInt8) : dv (l ++ [c]) = 10 * dv l + (c.toNat - 48) := by simp [dv, List.foldl_append]
theorem dv_append (l m : List UInt8) : dv (l ++ m) = dv l * 10 ^ m.length + dv m := by
  induction m using snoc_ind with
  | nil => simp [dv_nil]
  | snoc m c ih =>
    rw [← List.append_assoc, dv_snoc, ih, dv_snoc, List.length_append, List.length_singleton, Nat.pow_succ, Nat.mul_add, ← Nat.mul_assoc (dv l), Nat.mul_comm _ 10]
    omega
theorem IsD.nil : IsD [] := fun _ h => by cases h
theorem IsD.cons {c : UInt8} {l : List UInt8} (h1 : 48 ≤ c.toNat ∧ c.toNat ≤ 57) (h2 : IsD l) : IsD (c :: l) := fun x hx => by
  rcases List.mem_cons.1 hx with rfl | hx
  · exact h1
  · exact h2 x hx
theorem IsD.left {l m : List UInt8} (h : IsD (l ++ m)) : IsD l := fun x hx => h x (List.mem_append_left _ hx)
theorem IsD.right {l m : List UInt8} (h : IsD (l ++ m)) : IsD m := fun x hx => h x (List.mem_append_right _ hx)
theorem IsD.append {l m : List UInt8} (hl : IsD l) (hm : IsD m) : IsD (l ++ m) := fun x hx => by
  rcases List.mem_append.1 hx with hx | hx
  · exact hl x hx
  · exact hm x hx
theorem IsD.take {l : List UInt8} (h : IsD l) (i : Nat) : IsD (l.take i) := fun x hx => h x (List.mem_of_mem_take hx)
theorem IsD.drop {l : List UInt8} (h : IsD l) (i : Nat) : IsD (l.drop i) := fun x hx => h x (List.mem_of_mem_drop hx)
theorem dv_lt {l : List UInt8} (h : IsD l) : dv l < 10 ^ l.length := by
  induction l using snoc_ind with
  | nil => simp [dv_nil]
  | snoc m c ih =>
    have h1 := ih h.left
    have h2 := h.right c (by simp)
    rw [dv_snoc, List.length_append, List.length_singleton, Nat.pow_succ]
    omega
theorem digit_toNat {d : Nat} (h : d < 10) : (UInt8.ofNat (48 + d)).toNat = 48 + d := by
  rw [UInt8.toNat_ofNat']
  omega
theorem digit_of {c : UInt8} (h : 48 ≤ c.toNat ∧ c.toNat ≤ 57) : UInt8.ofNat (48 + (c.toNat - 48)) = c := by
  rw [show 48 + (c.toNat - 48) = c.toNat by omega]
  exact UInt8.ofNat_toNat
theorem dec_small {n : Nat} (h : n < 10) : Lib.decDigits n = [UInt8.ofNat (48 + n)] := by rw [Lib.decDigits, dif_pos h]
theorem dec_big {n : Nat} (h : 10 ≤ n) : Lib.decDigits n = Lib.decDigits (n / 10) ++ [UInt8.ofNat (48 + n % 10)] := by rw [Lib.decDigits, dif_neg (by omega)]
theorem isD_dec (n : Nat) : IsD (Lib.decDigits n) := by
  induction n using Nat.strongRecOn with
  | _ n ih =>
    by_cases h : n < 10
    · rw [dec_small h]
      refine IsD.cons ?_ IsD.nil
      rw [digit_toNat h]; omega
    · rw [dec_big (by omega)]
      refine (ih _ (by omega)).append (IsD.cons ?_ IsD.nil)
      rw [digit_toNat (by omega)]; omega
theorem dv_dec (n : Nat) : dv (Lib.decDigits n) = n := by
  induction n using Nat.strongRecOn with
  | _ n ih =>
    by_cases h : n < 10
    · rw [dec_small h, show [UInt8.ofNat (48 + n)] = [] ++ [UInt8.ofNat (48 + n)] from rfl, dv_snoc, digit_toNat h, dv_nil]; omega
    · rw [dec_big (by omega), dv_snoc, ih _ (by omega), digit_toNat (by omega)]; omega
theorem dec_len_pos (n : Nat) : 0 < (Lib.decDigits n).length := by rw [Lib.decDigits_length]; exact Lib.nDigits_pos n
theorem dec_dv : ∀ (k : Nat) (l : List UInt8), l.length = k → Can l → Lib.decDigits (dv l) = l
  | 0, l, hl, h => by rcases h.2 with h | h <;> omega
  | 1, l, hl, h => by
    rcases l with _ | ⟨c, _ | ⟨d, t⟩⟩
    · simp at hl
    · have hc := h.1 c (by simp)
      have : dv [c] = c.toNat - 48 := by rw [show [c] = [] ++ [c] from rfl, dv_snoc, dv_nil]; omega
      rw [this, dec_small (by omega), digit_of hc]
    · simp at hl
  | k + 2, l, hl, h => by
    obtain ⟨m, c, rfl⟩ : ∃ m c, l = m ++ [c] := by
      rcases List.eq_nil_or_concat l with e | ⟨m, c, e⟩
      · subst e; simp at hl
      · exact ⟨m, c, by simpa using e⟩
    have hm : m.length = k + 1 := by simpa using hl
    have h2 : 1 < (m ++ [c]).length ∧ (m ++ [c]).head? ≠ some 48 := by
      rcases h.2 with h2 | h2
      · omega
      · exact h2
    have hh : m.head? ≠ some 48 := by
      have := h2.2
      rcases m with _ | ⟨a, t⟩
      · simp at hm
      · simpa using this
    have hc := h.1.right c (by simp)
    have hmc : Can m := ⟨h.1.left, by
      by_cases h3 : m.length = 1
      · exact Or.inl h3
      · exact Or.inr ⟨by omega, hh⟩⟩
    have ih := dec_dv (k + 1) m hm hmc
    have h0 : dv m ≠ 0 := by
      intro e
      rw [e] at ih
      have e1 : Lib.decDigits 0 = [48] := dec_small (by omega)
      rw [e1] at ih
      rw [← ih] at hh
      exact hh rfl
    rw [dv_snoc, dec_big (by omega), show (10 * dv m + (c.toNat - 48)) / 10 = dv m by omega, ih, show (10 * dv m + (c.toNat - 48)) % 10 = c.toNat - 48 by omega, digit_of hc]
theorem dec_inj {a b : Nat} (h : Lib.decDigits a = Lib.decDigits b) : a = b := by rw [← dv_dec a, h, dv_dec]
def S (n : Nat) : ByteArray := ⟨(Lib.decDigits n).toArray⟩
theorem S_inj {a b : Nat} (h : S a = S b) : a = b := dec_inj (by simpa [S] using h)
theorem S_list (n : Nat) : (S n).data.toList = Lib.decDigits n := by simp [S]
theorem S_size (n : Nat) : (S n).size = Lib.nDigits n := by simp [S, ByteArray.size, Lib.decDigits_length]
theorem S_of {s : ByteArray} (h : Can s.data.toList) : s = S (dv s.data.toList) := by
  rw [S, dec_dv _ _ rfl h]
theorem nDig_le {n k : Nat} (hk : 0 < k) (h : n < 10 ^ k) : Lib.nDigits n ≤ k := by
  induction k generalizing n with
  | zero => omega
  | succ k ih =>
    by_cases hn : n < 10
    · rw [Lib.nDigits_small hn]; omega
    · rw [Lib.nDigits_big hn]
      rcases Nat.eq_zero_or_pos k with h0 | h0
      · subst h0; simp at h; omega
      · have := ih (n := n / 10) h0 (by rw [Nat.pow_succ] at h; omega)
        omega
end Go.Proofs.YtgicckcahhlbjaaGreatDoor.P

namespace Go.Proofs.YtgicckcahhlbjaaGreatDoor.P
open Go.RowKit Go.Proofs.YtgicckcahhlbjaaGreatDoorW.PrintWords
def rdig (n : Nat) : List UInt8 := (Lib.decDigits n).reverse
def dgs : Nat → Nat → List UInt8
  | 0, _ => []
  | j + 1, n => UInt8.ofNat (48 + n % 10) :: dgs j (n / 10)
theorem rdig_small {n : Nat} (h : n < 10) : rdig n = [UInt8.ofNat (48 + n)] := by rw [rdig, dec_small h]; rfl
theorem rdig_big {n : Nat} (h : 10 ≤ n) : rdig n = UInt8.ofNat (48 + n % 10) :: rdig (n / 10) := by
  rw [rdig, dec_big h, List.reverse_append]; rfl
theorem rdig_piece : ∀ (j n m : Nat), n < 10 ^ j → m ≠ 0 → rdig (n + 10 ^ j * m) = dgs j n ++ rdig m
  | 0, n, m, h, hm => by
    have : n = 0 := by simpa using h
    subst this
    simp [dgs]
  | j + 1, n, m, h, hm => by
    have e : 10 ^ (j + 1) = 10 * 10 ^ j := by rw [Nat.pow_succ, Nat.mul_comm]
    rw [e] at h ⊢
    have hp : 1 ≤ 10 ^ j * m := Nat.mul_pos (Nat.pow_pos (by decide)) (by omega)
    rw [Nat.mul_assoc, rdig_big (by omega), dgs, show (n + 10 * (10 ^ j * m)) / 10 = n / 10 + 10 ^ j * m by omega, show (n + 10 * (10 ^ j * m)) % 10 = n % 10 by omega, rdig_piece j (n / 10) m (by omega) hm]
    rfl
theorem dec_val_cons {n m : Nat} (h : n < 1000000000) (hm : m ≠ 0) : rdig (n + 1000000000 * m) = dgs 9 n ++ rdig m := rdig_piece 9 n m h hm
theorem dv_cons (c : UInt8) (l : List UInt8) : dv (c :: l) = (c.toNat - 48) * 10 ^ l.length + dv l := by
  have := dv_append [c] l
  rw [show dv [c] = c.toNat - 48 by rw [show [c] = [] ++ [c] from rfl, dv_snoc, dv_nil]; omega] at this
  exact this
end Go.Proofs.YtgicckcahhlbjaaGreatDoor.P

namespace Go.Proofs.YtgicckcahhlbjaaGreatDoor.P
open Go.RowKit Go.Proofs.YtgicckcahhlbjaaGreatDoorW.PrintWords
def B8 (l : List UInt8) : List Int := l.map fun b => (b.toNat : Int)
theorem B8_length (l : List UInt8) : (B8 l).length = l.length := by simp [B8]
theorem B8_append (l m : List UInt8) : B8 (l ++ m) = B8 l ++ B8 m := by simp [B8]
theorem rd_B8 (P Q : List UInt8) (c : UInt8) (i : Nat) (h : P.length = i) : rd (B8 (P ++ c :: Q)) (i : Int) = (c.toNat : Int) := by
  subst h
  simp [rd, B8, List.getD_eq_getElem?_getD]
theorem extract_list (s : ByteArray) (a b : Nat) : (s.extract a b).data.toList = (s.data.toList.take b).drop a := by
  simp [List.drop_take]
theorem size_list (s : ByteArray) : s.size = s.data.toList.length := (data_length s).symm
theorem dstep {n : Nat} {c : UInt8} (hc : 48 ≤ c.toNat ∧ c.toNat ≤ 57) (hn : 10 * n + (c.toNat - 48) < 18446744073709551616) : IntKind.u64.wrap (IntKind.u64.wrap (10 * (n : Int)) + ((c.toNat : Int) - 48) % 256) = ((10 * n + (c.toNat - 48) : Nat) : Int) := by
  have h1 : ((c.toNat : Int) - 48) % 256 = ((c.toNat - 48 : Nat) : Int) := by omega
  rw [h1, show (10 : Int) * n = ((10 * n : Nat) : Int) by omega, u64n _ (by omega), uadd hn]
theorem dv_bound {P Q : List UInt8} (c : UInt8) (h : IsD (P ++ c :: Q)) (hl : (P ++ c :: Q).length ≤ 19) : 10 * dv P + (c.toNat - 48) < 18446744073709551616 := by
  have h1 : IsD (P ++ [c]) := by
    have : P ++ c :: Q = (P ++ [c]) ++ Q := by simp
    rw [this] at h
    exact h.left
  have h2 := dv_lt h1
  have h3 : 10 ^ (P ++ [c]).length ≤ 10 ^ 19 := Nat.pow_le_pow_right (by decide) (by simp at hl ⊢; omega)
  rw [dv_snoc] at h2
  omega
theorem cut_step (k : Nat) (s : ByteArray) (acc : List Int) (e : Int) (P Q : List UInt8) (c : UInt8) (h : IsD (P ++ c :: Q)) (hl : (P ++ c :: Q).length ≤ 18) (n : Int) (hn : n = ((P ++ c :: Q).length : Nat)) :
    decimal_cut.l1 (k + 1) s acc e (dv P : Int) (B8 (P ++ c :: Q)) n (P.length : Int) = decimal_cut.l1 k s acc e (dv (P ++ [c]) : Int) (B8 (P ++ c :: Q)) n ((P ++ [c]).length : Int) := by
  have e1 := rd_B8 P Q c P.length rfl
  have e2 := dstep (h c (by simp)) (dv_bound c h (by omega))
  have e3 := wsucc (a := P.length) ⟨by simp at hl; omega⟩
  have hl2 : (B8 (P ++ c :: Q)).length = P.length + (Q.length + 1) := by rw [B8_length]; simp
  rw [show (P ++ c :: Q).length = P.length + (Q.length + 1) by simp] at hn
  simp only [decimal_cut.l1, e1, e2, e3]
  clear e1 e2 e3
  simp (disch := omega) only [if_pos]
  rw [dv_snoc, List.length_append, List.length_singleton]
theorem cut_l1 (s : ByteArray) (acc : List Nat) (e : Int) (hacc : acc.length < 17592186044416) : ∀ (Q P : List UInt8) (n : Int) (r : List Int), n = ((P ++ Q).length : Nat) → IsD (P ++ Q) → (P ++ Q).length ≤ 18 →
    Ev (fun k => decimal_cut.l0 k s (C (acc ++ [dv (P ++ Q)])) (wrap64 (e - 9))) r → Ev (fun k => decimal_cut.l1 k s (C acc) e (dv P : Int) (B8 (P ++ Q)) n (P.length : Int)) r
  | [], P, n, r, hn, _, _, h => by
    rw [List.append_nil] at h hn ⊢
    refine Ev.step (fun k => ?_) h
    have hl2 : (C acc).length = acc.length := C_length _
    simp (disch := omega) only [decimal_cut.l1, if_neg, if_pos]
    rw [C_append]
    rfl
  | c :: Q, P, n, r, hn, hD, hl, h => by
    have e0 : P ++ c :: Q = (P ++ [c]) ++ Q := by simp
    refine Ev.step (fun k => cut_step k s (C acc) e P Q c hD hl n hn) ?_
    rw [e0] at hn hD hl h ⊢
    exact cut_l1 s acc e hacc Q (P ++ [c]) n r hn hD hl h
theorem chunk {l : List UInt8} {e st : Nat} (he : e ≤ l.length) (hst : st = e - 9) : dv (l.take e) = dv ((l.take e).drop st) + 1000000000 * dv (l.take st) ∧ ((l.take e).drop st).length = e - st := by
  have hl : ((l.take e).drop st).length = e - st := by rw [List.length_drop, List.length_take]; omega
  refine ⟨?_, hl⟩
  have h1 := dv_append ((l.take e).take st) ((l.take e).drop st)
  rw [List.take_append_drop, List.take_take, Nat.min_eq_left (by omega), hl] at h1
  rw [h1]
  rcases Nat.eq_zero_or_pos st with h2 | h2
  · rw [h2, List.take_zero, dv_nil]; omega
  · rw [show e - st = 9 by omega]
    have : (10 : Nat) ^ 9 = 1000000000 := by decide
    rw [this, Nat.mul_comm]
    omega
theorem cut_l0 (s : ByteArray) (hD : IsD s.data.toList) : ∀ (m e : Nat) (acc : List Nat) (x : Int), e ≤ m → e ≤ s.size → (x = (e : Int) ∨ e = 0 ∧ x ≤ 0) → Ok acc → acc.length + e < 17592186044416 →
    Ev (fun k => decimal_cut.l0 k s (C acc) x) (C (pcs (val acc + 1000000000 ^ acc.length * dv (s.data.toList.take e))))
  | 0, e, acc, x, hm, _, hx, hacc, hl => by
    obtain rfl : e = 0 := by omega
    refine Ev.step (f := fun k => (decimal_pieces_trim.f k (C acc)).bind fun t => some t) (fun k => ?_) (Ev.eq (Ev.bind (trim_f acc hacc (by omega)) (Ev.now _)) ?_)
    · simp (disch := omega) only [decimal_cut.l0, if_neg]
    · rw [List.take_zero, dv_nil, Nat.mul_zero, Nat.add_zero]
  | m + 1, e, acc, x, hm, hs, hx, hacc, hl => by
    rcases Nat.eq_zero_or_pos e with h0 | h0
    · exact cut_l0 s hD 0 e acc x (by omega) hs hx hacc hl
    · obtain rfl : x = (e : Int) := by omega
      obtain ⟨st, hst⟩ : ∃ st, st = e - 9 := ⟨_, rfl⟩
      rw [size_list] at hs
      obtain ⟨h1, h2⟩ := chunk hs hst
      have hsub := extract_list s st e
      have hw : wrap64 ((e : Int) - 9) = (e : Int) - 9 := w64 (by omega) (by omega)
      have hmx : mx 0 ((e : Int) - 9) = (st : Int) := by unfold mx; split <;> omega
      have hDs : IsD ((s.data.toList.take e).drop st) := (hD.take e).drop st
      have hdl := dv_lt hDs
      have hpow : 10 ^ ((s.data.toList.take e).drop st).length ≤ 10 ^ 9 := Nat.pow_le_pow_right (by decide) (by omega)
      have h9 : (10 : Nat) ^ 9 = 1000000000 := by decide
      have ih := cut_l0 s hD m st (acc ++ [dv ((s.data.toList.take e).drop st)]) ((e : Int) - 9) (by omega) (by rw [size_list]; omega) (by omega) (hacc.append (Ok.cons (by omega) Ok.nil)) (by rw [List.length_append, List.length_singleton]; omega)
      have hv : val (acc ++ [dv ((s.data.toList.take e).drop st)]) + 1000000000 ^ (acc ++ [dv ((s.data.toList.take e).drop st)]).length * dv (s.data.toList.take st) = val acc + 1000000000 ^ acc.length * dv (s.data.toList.take e) := by
        rw [val_snoc, h1, List.length_append, List.length_singleton, Nat.pow_succ, Nat.mul_add, Nat.mul_assoc, Nat.add_assoc]
      rw [hv] at ih
      have key := cut_l1 s acc (e : Int) (by omega) ((s.data.toList.take e).drop st) [] ((((s.data.toList.take e).drop st).length : Nat) : Int) _ rfl hDs (by rw [List.nil_append]; omega) (by rw [List.nil_append, hw]; exact ih)
      refine Ev.step (fun k => ?_) key
      have hsz : (s.extract st e).size = e - st := by rw [size_list, hsub, h2]
      have hb : bytesOf (s.extract st e) = B8 ((s.data.toList.take e).drop st) := by rw [← hsub]; rfl
      have hsl : (s.size : Int) = (s.data.toList.length : Int) := by rw [size_list]
      simp only [decimal_cut.l0, hw, hmx, Int.toNat_natCast, hsz, hb, B8_length, Option.bind_some, hsl]
      clear hv ih key hw hmx hdl hpow hb hsub hD hDs
      simp (disch := omega) only [if_pos]
      rfl
theorem cut_of (s : ByteArray) (hD : IsD s.data.toList) (hs : s.size < 17592186044416) : Ev (fun k => decimal_cut.f k s) (C (pcs (dv s.data.toList))) := by
  have key := cut_l0 s hD s.size s.size [] (s.size : Int) (Nat.le_refl _) (Nat.le_refl _) (Or.inl rfl) Ok.nil (by simpa using hs)
  have e0 : val ([] : List Nat) + 1000000000 ^ ([] : List Nat).length * dv (s.data.toList.take s.size) = dv s.data.toList := by
    rw [size_list, List.take_length]; simp [val]
  rw [e0] at key
  have e1 : wrap64 ((s.size : Int) / 9) = (((s.size / 9 : Nat)) : Int) := by rw [w64 (by omega) (by omega)]; omega
  have e2 := wsucc (a := s.size / 9) ⟨by omega⟩
  unfold decimal_cut.f
  simp only [e1, e2, Int.toNat_natCast]
  clear e1 e2
  simp (disch := omega) only [if_pos]
  exact key
theorem cut_f (n : Nat) (hs : Lib.nDigits n < 17592186044416) : Ev (fun k => decimal_cut.f k (S n)) (C (pcs n)) := by
  have := cut_of (S n) (by rw [S_list]; exact isD_dec n) (by rw [S_size]; exact hs)
  rwa [S_list, dv_dec] at this
end Go.Proofs.YtgicckcahhlbjaaGreatDoor.P

namespace Go.Proofs.YtgicckcahhlbjaaGreatDoor.P
open Go.RowKit Go.Proofs.YtgicckcahhlbjaaGreatDoorW.PrintWords
theorem toList_data (s : ByteArray) : s.toList = s.data.toList := ByteArray.toList_eq s
theorem bt_mid (s : ByteArray) (P Q : List UInt8) (c : UInt8) (h : s.data.toList = P ++ c :: Q) : bt s (P.length : Int) = (c.toNat : Int) := by
  rw [← rd_bytesOf, show bytesOf s = B8 s.data.toList from rfl, h, rd_B8 _ _ _ _ rfl]
theorem size_mid (s : ByteArray) (P Q : List UInt8) (c : UInt8) (h : s.data.toList = P ++ c :: Q) : s.size = P.length + (Q.length + 1) := by
  rw [size_list, h]; simp
def digB (c : UInt8) : Bool := decide (48 ≤ c.toNat ∧ c.toNat ≤ 57)
def canb (l : List UInt8) : Bool := l.all digB && (decide (l.length = 1) || (decide (1 < l.length) && (l.head? != some 48)))
theorem all_dig (l : List UInt8) : l.all digB = true ↔ IsD l := by
  simp [List.all_eq_true, digB, IsD]
theorem canb_iff (l : List UInt8) : canb l = true ↔ Can l := by
  unfold canb Can
  rw [Bool.and_eq_true, all_dig]
  simp
end Go.Proofs.YtgicckcahhlbjaaGreatDoor.P

namespace Go.Proofs.YtgicckcahhlbjaaGreatDoor.P
open Go.RowKit Go.Proofs.YtgicckcahhlbjaaGreatDoorW.PrintWords
theorem dv_prefix (P Q : List UInt8) : dv P ≤ dv (P ++ Q) := by
  rw [dv_append]
  have : dv P * 1 ≤ dv P * 10 ^ Q.length := Nat.mul_le_mul_left _ (Nat.pow_pos (by decide))
  omega
theorem dv_prefix1 (P Q : List UInt8) (c : UInt8) : 10 * dv P + (c.toNat - 48) ≤ dv (P ++ c :: Q) := by
  have := dv_prefix (P ++ [c]) Q
  rw [dv_snoc] at this
  simpa using this
theorem nDig_lt {n : Nat} {k : Nat} (h : Lib.nDigits n ≤ k) : n < 10 ^ k := Nat.lt_of_lt_of_le (Lib.lt_pow_nDigits n) (Nat.pow_le_pow_right (by decide) h)
theorem S_eq_iff {a b : Nat} : (S a).toList = (S b).toList ↔ a = b := by
  rw [toList_data, toList_data, S_list, S_list]
  exact ⟨dec_inj, fun h => by rw [h]⟩
theorem parse_dig : ∀ (l : List UInt8) (acc : Nat), IsD l → Lib.parseUintM 18446744073709551615 acc l = if l = [] ∨ acc * 10 ^ l.length + dv l < 18446744073709551616 then .ok (acc * 10 ^ l.length + dv l) else .range
  | [], acc, _ => by simp [Lib.parseUintM, dv_nil]
  | c :: l, acc, h => by
    have hc := h c (by simp)
    have ih := parse_dig l (acc * 10 + (c.toNat - 48)) (IsD.right (l := [c]) h)
    have e : (acc * 10 + (c.toNat - 48)) * 10 ^ l.length + dv l = acc * 10 ^ (c :: l).length + dv (c :: l) := by
      rw [dv_cons, List.length_cons, Nat.pow_succ, Nat.add_mul, Nat.mul_assoc, Nat.mul_comm 10 (10 ^ l.length), Nat.add_assoc]
    have hp : 1 ≤ 10 ^ l.length := Nat.pow_pos (by decide)
    have hge : acc * 10 + (c.toNat - 48) ≤ acc * 10 ^ (c :: l).length + dv (c :: l) := by
      rw [← e]
      have : (acc * 10 + (c.toNat - 48)) * 1 ≤ (acc * 10 + (c.toNat - 48)) * 10 ^ l.length := Nat.mul_le_mul_left _ hp
      omega
    unfold Lib.parseUintM
    rw [if_pos hc]
    by_cases h1 : 1844674407370955162 ≤ acc
    · rw [if_pos h1, if_neg]
      rintro (h2 | h2)
      · cases h2
      · omega
    · rw [if_neg h1]
      by_cases h2 : 18446744073709551615 < acc * 10 + (c.toNat - 48)
      · rw [if_pos h2, if_neg]
        rintro (h3 | h3)
        · cases h3
        · omega
      · rw [if_neg h2, ih, e]
        by_cases h3 : acc * 10 ^ (c :: l).length + dv (c :: l) < 18446744073709551616
        · rw [if_pos (Or.inr h3), if_pos (Or.inr h3)]
        · have n1 : ¬ ((c :: l) = [] ∨ acc * 10 ^ (c :: l).length + dv (c :: l) < 18446744073709551616) := fun h4 => h4.elim (fun h5 => by cases h5) h3
          have n2 : ¬ (l = [] ∨ acc * 10 ^ (c :: l).length + dv (c :: l) < 18446744073709551616) := fun h4 => h4.elim (fun h5 => by
            rw [h5] at e h3
            rw [← e] at h3
            simp only [List.length_nil, Nat.pow_zero, dv_nil] at h3
            omega) h3
          rw [if_neg n1, if_neg n2]
theorem small_S (n : Nat) (hn : Lib.nDigits n ≤ 281474976710656) : decimal_Small.f (S n) = some (if n < 18446744073709551616 then ((n : Int), true) else (0, false)) := by
  unfold decimal_Small.f
  have hne : Lib.decDigits n ≠ [] := by have := dec_len_pos n; intro e; rw [e] at this; simp at this
  have h64 : (2 : Nat) ^ 64 - 1 = 18446744073709551615 := by decide
  rw [S_size, if_pos hn, S_list, Lib.parseUintB, if_neg hne, h64, parse_dig _ _ (isD_dec n), dv_dec, Nat.zero_mul, Nat.zero_add]
  by_cases h : n < 18446744073709551616
  · rw [if_pos (Or.inr h), if_pos h]
  · rw [if_neg (fun h1 => h1.elim hne h), if_neg h]
end Go.Proofs.YtgicckcahhlbjaaGreatDoor.P

namespace Go.Proofs.YtgicckcahhlbjaaGreatDoor.P
open Go.RowKit Go.Proofs.YtgicckcahhlbjaaGreatDoorW.PrintWords
theorem strOfNums_B8 (l : List UInt8) : strOfNums (B8 l) = ⟨l.toArray⟩ := by
  have e : ((fun n : Int => UInt8.ofNat n.toNat) ∘ fun b : UInt8 => (b.toNat : Int)) = id := funext fun b => by simp
  rw [strOfNums, B8, List.map_map, e, List.map_id]
theorem zero_str : (⟨#[48]⟩ : ByteArray) = S 0 := S_of ((canb_iff _).1 (by decide))
theorem wf_u8 {x : Int} (h : (Lit.int .u8 x).wf = true) : 0 ≤ x ∧ x ≤ 255 := by
  have h1 : IntKind.u8.min = 0 := by decide
  have h2 : IntKind.u8.max = 255 := by decide
  simpa only [Lit.wf, h1, h2, Bool.and_eq_true, decide_eq_true_eq] using h
theorem wf_i64 {x : Int} (h : (Lit.int .i64 x).wf = true) : -9223372036854775808 ≤ x ∧ x ≤ 9223372036854775807 := by
  have h1 : IntKind.i64.min = -9223372036854775808 := by decide
  have h2 : IntKind.i64.max = 9223372036854775807 := by decide
  simpa only [Lit.wf, h1, h2, Bool.and_eq_true, decide_eq_true_eq] using h
end Go.Proofs.YtgicckcahhlbjaaGreatDoor.P

namespace Go.Proofs.YtgicckcahhlbjaaGreatDoor.P
open Go.RowKit Go.Proofs.YtgicckcahhlbjaaGreatDoorW.PrintWords
def Z (n : Int) : ByteArray := ⟨(Lib.itoa n).toArray⟩
theorem Z_list (n : Int) : (Z n).data.toList = Lib.itoa n := by simp [Z]
theorem itoa_n (u : Nat) : Lib.itoa (u : Int) = Lib.decDigits u := by unfold Lib.itoa; rw [if_neg (by omega)]; simp
theorem itoa_m (u : Nat) (h : 1 ≤ u) : Lib.itoa (-(u : Int)) = 45 :: Lib.decDigits u := by unfold Lib.itoa; rw [if_pos (by omega)]; simp
theorem dec_first (n : Nat) : ∃ c r, Lib.decDigits n = c :: r ∧ 48 ≤ c.toNat ∧ c.toNat ≤ 57 := by
  rcases e : Lib.decDigits n with _ | ⟨c, r⟩
  · have := dec_len_pos n; rw [e] at this; simp at this
  · exact ⟨c, r, rfl, (isD_dec n) c (by rw [e]; simp)⟩
end Go.Proofs.YtgicckcahhlbjaaGreatDoor.P

namespace Go.Proofs.YtgicckcahhlbjaaGreatDoor.P
open Go.RowKit Go.Proofs.YtgicckcahhlbjaaGreatDoorW.PrintWords
def neg (l : List UInt8) : Bool := l.head? == some 45
def mag (l : List UInt8) : List UInt8 := if neg l then l.tail else l
def str (l : List UInt8) : ByteArray := ⟨l.toArray⟩
theorem str_list (l : List UInt8) : (str l).data.toList = l := by simp [str]
theorem str_self (s : ByteArray) : str s.data.toList = s := rfl
theorem str_size (l : List UInt8) : (str l).size = l.length := by rw [size_list, str_list]
theorem str_toList (l : List UInt8) : (str l).toList = l := by rw [toList_data, str_list]
theorem cut1 (s : ByteArray) : s.extract 1 s.size = str s.data.toList.tail := by
  have h := extract_list s 1 s.size
  rw [size_list, List.take_length, List.drop_one] at h
  apply ByteArray.ext
  apply Array.toList_inj.1
  rw [str_list, ← h, size_list]
theorem bt0 (s : ByteArray) (c : UInt8) (t : List UInt8) (h : s.data.toList = c :: t) : bt s 0 = (c.toNat : Int) := bt_mid s [] t c h
theorem c45 (c : UInt8) : (c.toNat : Int) = 45 ↔ c = 45 := by
  have h : (45 : UInt8).toNat = 45 := rfl
  constructor
  · intro e; exact UInt8.toNat_inj.1 (by omega)
  · intro e; rw [e]; rfl
theorem mag_le (l : List UInt8) : (mag l).length ≤ l.length := by
  unfold mag
  split
  · rw [List.length_tail]; omega
  · exact Nat.le_refl _
theorem split_f (s : ByteArray) : whole_split.f s = some (neg s.data.toList, str (mag s.data.toList)) := by
  unfold whole_split.f
  have h1 := size_list s
  rcases e : s.data.toList with _ | ⟨c, t⟩
  · rw [e, List.length_nil] at h1
    rw [if_neg (by omega)]
    have : s = str [] := by rw [← e]; exact (str_self s).symm
    rw [this]
    rfl
  · rw [e, List.length_cons] at h1
    rw [if_pos (by omega), if_pos (by omega), bt0 s c t e]
    by_cases hc : c = 45
    · subst hc
      rw [if_pos (by rfl), if_pos (by omega), cut1, e]
      rfl
    · rw [if_neg (fun h => hc ((c45 c).1 h))]
      have hn : neg (c :: t) = false := by
        unfold neg
        rw [List.head?_cons, beq_eq_false_iff_ne]
        intro h; exact hc (by simpa using h)
      have hs : s = str (c :: t) := by rw [← e]; exact (str_self s).symm
      rw [hn, mag, hn, if_neg (by decide)]
      congr 2
theorem digits_f (s : ByteArray) : schismaref02_digits.f s = some (str (mag s.data.toList)) := by
  have h := split_f s
  unfold whole_split.f at h
  unfold schismaref02_digits.f
  by_cases h0 : (s.size : Int) > 0
  · rw [if_pos h0, if_pos h0] at h ⊢
    by_cases h45 : bt s 0 = 45
    · rw [if_pos h45, if_pos (by omega)] at h ⊢
      injection h with h
      injection h with _ h2
      rw [h2]
    · rw [if_neg h45] at h ⊢
      injection h with h
      injection h with _ h2
      rw [← h2]
  · rw [if_neg h0] at h ⊢
    injection h with h
    injection h with _ h2
    rw [← h2]
theorem itoa_f (n : Int) (h0 : -9223372036854775808 ≤ n) (h1 : n ≤ 9223372036854775807) : strconv_Itoa.f n = some (Z n) := by
  unfold strconv_Itoa.f
  rw [if_pos ⟨h0, h1⟩]
  rfl
theorem r2of_f (n : Int) (h0 : -9223372036854775808 ≤ n) (h1 : n ≤ 9223372036854775807) : schismaref02_Of.f n = some (Z n) := by
  unfold schismaref02_Of.f
  rw [itoa_f n h0 h1]
  rfl
end Go.Proofs.YtgicckcahhlbjaaGreatDoor.P

namespace Go.Proofs.YtgicckcahhlbjaaGreatDoor.P
open Go.RowKit Go.Proofs.YtgicckcahhlbjaaGreatDoorW.PrintWords
theorem c48 (c : UInt8) : (c.toNat : Int) = 48 ↔ c = 48 := by
  have h : (48 : UInt8).toNat = 48 := rfl
  constructor
  · intro e; exact UInt8.toNat_inj.1 (by omega)
  · intro e; rw [e]; rfl
def core (m : List UInt8) : List UInt8 := if m.dropWhile (· == 48) = [] then [48] else m.dropWhile (· == 48)
def pz (n : Bool) (m : List UInt8) : ByteArray × Int := if 400 < (core m).length then (str [], 4) else if n = true ∧ core m ≠ [48] then (str (45 :: core m), 0) else (str (core m), 0)
def parsed (l : List UInt8) : ByteArray × Int := if l = [] then (str [], 13) else if mag l = [] then (str [], 15) else if (mag l).all digB = true then pz (neg l) (mag l) else (str [], 15)
theorem minus_str (u : List UInt8) : (⟨#[45]⟩ : ByteArray) ++ str u = str (45 :: u) := by
  apply ByteArray.ext
  apply Array.toList_inj.1
  rw [str_list]
  simp [str]
theorem core_one (c : UInt8) : core [c] = [c] := by
  unfold core
  by_cases h : c = 48
  · subst h; rfl
  · have : [c].dropWhile (· == 48) = [c] := List.dropWhile_cons_of_neg (by simpa using h)
    rw [this, if_neg (by simp)]
theorem core_zero (d : UInt8) (r : List UInt8) : core (48 :: d :: r) = core (d :: r) := by
  unfold core
  rw [List.dropWhile_cons_of_pos (by decide)]
theorem core_else (c : UInt8) (r : List UInt8) (h : c ≠ 48) : core (c :: r) = c :: r := by
  unfold core
  rw [List.dropWhile_cons_of_neg (by simpa using h), if_neg (by simp)]
theorem drop_first : ∀ (m : List UInt8) (c : UInt8) (r : List UInt8), m.dropWhile (· == 48) = c :: r → c ≠ 48
  | [], _, _, h => by simp at h
  | x :: m, c, r, h => by
    by_cases hx : x = 48
    · rw [List.dropWhile_cons_of_pos (by simpa using hx)] at h
      exact drop_first m c r h
    · rw [List.dropWhile_cons_of_neg (by simpa using hx)] at h
      injection h with h1 _
      rw [← h1]; exact hx
theorem drop_le : ∀ (m : List UInt8), (m.dropWhile (· == 48)).length ≤ m.length
  | [] => by simp
  | x :: m => by
    by_cases hx : x = 48
    · rw [List.dropWhile_cons_of_pos (by simpa using hx)]
      have := drop_le m
      rw [List.length_cons]; omega
    · rw [List.dropWhile_cons_of_neg (by simpa using hx)]
      exact Nat.le_refl _
theorem r2parse_j3 (n : Bool) (u : List UInt8) (hs : u.length < 4611686018427387904) : Ev (fun k => schismaref02_Parse.j3 k (str u) n) (if 400 < u.length then (str [], 4) else if n = true ∧ u ≠ [48] then (str (45 :: u), 0) else (str u, 0)) := by
  have hsz : (str u).size = u.length := str_size u
  refine Ev.step (f := fun _ => some (if 400 < u.length then (str [], 4) else if n = true ∧ u ≠ [48] then (str (45 :: u), 0) else (str u, 0))) (fun k => ?_) (Ev.now _)
  rw [schismaref02_Parse.j3, hsz, str_toList, minus_str]
  by_cases h4 : 400 < u.length
  · rw [if_pos h4, if_pos (by omega)]
    rfl
  · rw [if_neg h4, if_neg (by omega)]
    by_cases hn : n = true
    · rw [if_pos hn]
      by_cases hu : u = [48]
      · rw [if_pos hu, if_neg (fun h => h.2 hu)]
      · rw [if_neg hu, if_pos (by omega), if_pos ⟨hn, hu⟩]
    · rw [if_neg hn, if_neg (fun h => hn h.1)]
theorem r2parse_l1 (n : Bool) : ∀ (m : List UInt8), m ≠ [] → m.length < 4611686018427387904 → Ev (fun k => schismaref02_Parse.l1 k (str m) n) (pz n m)
  | [], h, _ => absurd rfl h
  | [c], _, hs => by
    have hsz : (str [c]).size = 1 := str_size [c]
    have key := r2parse_j3 n [c] hs
    unfold pz
    rw [core_one]
    refine Ev.step (fun k => ?_) key
    rw [schismaref02_Parse.l1, if_neg (by omega)]
  | c :: d :: r, _, hs => by
    have hsz : (str (c :: d :: r)).size = r.length + 2 := str_size _
    have e1 : bt (str (c :: d :: r)) 0 = (c.toNat : Int) := bt0 _ c (d :: r) (str_list _)
    by_cases hc : c = 48
    · have ih := r2parse_l1 n (d :: r) (by simp) (by rw [List.length_cons] at hs; omega)
      subst hc
      unfold pz at ih ⊢
      rw [core_zero]
      refine Ev.step (fun k => ?_) ih
      rw [schismaref02_Parse.l1, if_pos (by omega), if_pos (by omega), e1, if_pos (by rfl), if_pos (by omega), cut1, str_list]
      rfl
    · have key := r2parse_j3 n (c :: d :: r) hs
      unfold pz
      rw [core_else c (d :: r) hc]
      refine Ev.step (fun k => ?_) key
      rw [schismaref02_Parse.l1, if_pos (by omega), if_pos (by omega), e1, if_neg (fun h => hc ((c48 c).1 h))]
theorem r2parse_l0 (n : Bool) (m : List UInt8) (h0 : m ≠ []) (hs : m.length < 4611686018427387904) : ∀ (Q P : List UInt8), m = P ++ Q → IsD P →
    Ev (fun k => schismaref02_Parse.l0 k (str m) n (P.length : Int)) (if m.all digB = true then pz n m else (str [], 15))
  | [], P, h, hP => by
    rw [List.append_nil] at h
    have h1 : m.all digB = true := (all_dig m).2 (by rw [h]; exact hP)
    have h2 : m.length = P.length := by rw [h]
    have hsz : (str m).size = m.length := str_size m
    rw [if_pos h1]
    refine Ev.step (fun k => ?_) (r2parse_l1 n m h0 hs)
    rw [schismaref02_Parse.l0, if_neg (by omega)]
  | c :: Q, P, h, hP => by
    have h1 : m.length = P.length + (Q.length + 1) := by rw [h]; simp
    have e1 : bt (str m) (P.length : Int) = (c.toNat : Int) := bt_mid (str m) P Q c (by rw [str_list, h])
    have hsz : (str m).size = m.length := str_size m
    have e3 := wsucc (a := P.length) ⟨by omega⟩
    by_cases hc : 48 ≤ c.toNat ∧ c.toNat ≤ 57
    · refine Ev.step (f := fun k => schismaref02_Parse.l0 k (str m) n ((P.length + 1 : Nat) : Int)) (fun k => ?_) ?_
      · simp only [schismaref02_Parse.l0, e1, e3]
        clear e1 e3
        simp (disch := omega) only [if_pos, if_neg]
      · have := r2parse_l0 n m h0 hs Q (P ++ [c]) (by rw [h]; simp) (hP.append (IsD.cons hc IsD.nil))
        simpa using this
    · have hb : ¬ m.all digB = true := fun h2 => hc ((all_dig m).1 h2 c (by rw [h]; simp))
      rw [if_neg hb]
      refine Ev.step (f := fun _ => some (str [], 15)) (fun k => ?_) (Ev.now _)
      simp only [schismaref02_Parse.l0, e1, e3]
      clear e1 e3 hb
      by_cases h48 : c.toNat < 48
      · simp (disch := omega) only [if_pos]
        rfl
      · simp (disch := omega) only [if_pos, if_neg]
        rfl
theorem r2parse_j0 (n : Bool) (m : List UInt8) (hs : m.length < 4611686018427387904) : Ev (fun k => schismaref02_Parse.j0 k (str m) n) (if m = [] then (str [], 15) else if m.all digB = true then pz n m else (str [], 15)) := by
  by_cases h : m = []
  · rw [if_pos h]
    refine Ev.step (f := fun _ => some (str [], 15)) (fun k => ?_) (Ev.now _)
    rw [schismaref02_Parse.j0, str_toList, if_pos h]
    rfl
  · rw [if_neg h]
    refine Ev.step (fun k => ?_) (r2parse_l0 n m h hs m [] rfl IsD.nil)
    rw [schismaref02_Parse.j0, str_toList, if_neg h]
    rfl
theorem neg_cons (c : UInt8) (t : List UInt8) : neg (c :: t) = ((c.toNat : Int) == 45) := by
  unfold neg
  rw [List.head?_cons, Bool.eq_iff_iff, beq_iff_eq, beq_iff_eq, c45, Option.some_inj]
theorem r2parse_f (s : ByteArray) (hs : s.size < 4611686018427387904) : Ev (fun k => schismaref02_Parse.f k s) (parsed s.data.toList) := by
  have h1 := size_list s
  unfold schismaref02_Parse.f parsed
  rw [toList_data]
  have hm := mag_le s.data.toList
  have key := r2parse_j0 (neg s.data.toList) (mag s.data.toList) (by omega)
  rcases e : s.data.toList with _ | ⟨c, t⟩
  · rw [if_pos rfl]
    exact Ev.pos rfl (Ev.now _)
  · rw [e] at key
    rw [if_neg (by simp)]
    have hsz : s.size = t.length + 1 := by rw [h1, e]; rfl
    refine Ev.neg (by simp) (Ev.pos (by omega) ?_)
    rw [bt0 s c t e]
    by_cases hc : c = 45
    · subst hc
      refine Ev.pos (by rfl) (Ev.pos (by omega) ?_)
      rw [cut1, e]
      exact key
    · refine Ev.neg (fun h => hc ((c45 c).1 h)) ?_
      have hn : neg (c :: t) = false := by rw [neg_cons, beq_eq_false_iff_ne]; exact fun h => hc ((c45 c).1 h)
      have hm2 : mag (c :: t) = c :: t := by unfold mag; rw [hn]; rfl
      rw [← neg_cons c t]
      rw [hm2] at key
      have hs2 : s = str (c :: t) := by rw [← e]; exact (str_self s).symm
      rw [hs2, hm2]
      exact key
end Go.Proofs.YtgicckcahhlbjaaGreatDoor.P

namespace Go.Proofs.YtgicckcahhlbjaaGreatDoor.P
open Go.RowKit Go.Proofs.YtgicckcahhlbjaaGreatDoorW.PrintWords
end Go.Proofs.YtgicckcahhlbjaaGreatDoor.P

namespace Go.Proofs.YtgicckcahhlbjaaGreatDoor.P
open Go.RowKit Go.Proofs.YtgicckcahhlbjaaGreatDoorW.PrintWords
theorem isD_core {m : List UInt8} (h : IsD m) : IsD (core m) := by
  unfold core
  split
  · exact IsD.cons (by decide) IsD.nil
  · exact fun c hc => h c ((List.dropWhile_sublist _).subset hc)
theorem dv_drop : ∀ (m : List UInt8), dv (m.dropWhile (· == 48)) = dv m
  | [] => rfl
  | c :: m => by
    by_cases hc : c = 48
    · subst hc
      rw [List.dropWhile_cons_of_pos (by decide), dv_drop m, dv_cons]
      have : (48 : UInt8).toNat - 48 = 0 := rfl
      rw [this, Nat.zero_mul, Nat.zero_add]
    · rw [List.dropWhile_cons_of_neg (by simpa using hc)]
theorem dv_core (m : List UInt8) : dv (core m) = dv m := by
  unfold core
  split
  · rename_i h
    rw [← dv_drop m, h]; rfl
  · exact dv_drop m
theorem core_dec {m : List UInt8} (h : IsD m) : core m = Lib.decDigits (dv m) := by
  have hc : Can (core m) := by
    refine ⟨isD_core h, ?_⟩
    unfold core
    split
    · exact Or.inl rfl
    · rename_i hne
      rcases e : m.dropWhile (· == 48) with _ | ⟨c, _ | ⟨d, r⟩⟩
      · exact absurd e hne
      · exact Or.inl rfl
      · refine Or.inr ⟨by simp, ?_⟩
        rw [List.head?_cons]
        intro h2
        exact drop_first m c (d :: r) e (by simpa using h2)
  rw [← dec_dv _ _ rfl hc, dv_core]
def sgd (n : Bool) (u : Nat) : Int := if n = true then -(u : Int) else (u : Int)
theorem pz_Z (n : Bool) (m : List UInt8) (h : IsD m) (hl : (core m).length ≤ 400) : pz n m = (Z (sgd n (dv m)), 0) := by
  unfold pz
  rw [if_neg (by omega), core_dec h]
  unfold sgd Z
  by_cases hn : n = true
  · rw [if_pos hn]
    by_cases h0 : dv m = 0
    · rw [h0, if_neg (fun h2 => h2.2 (dec_small (by decide)))]
      rfl
    · have h48 : Lib.decDigits (dv m) ≠ [48] := fun e => h0 (by rw [← dv_dec (dv m), e]; rfl)
      rw [if_pos ⟨hn, h48⟩, itoa_m _ (by omega)]
      rfl
  · rw [if_neg hn, if_neg (fun h2 => hn h2.1), itoa_n]
    rfl
theorem parsed_digits (m : List UInt8) (h : IsD m) (h0 : m ≠ []) : parsed m = pz false m ∧ parsed (45 :: m) = pz true m := by
  have ha := (all_dig m).2 h
  rcases m with _ | ⟨c, t⟩
  · exact absurd rfl h0
  · have hc := h c (by simp)
    have hn : neg (c :: t) = false := by
      rw [neg_cons, beq_eq_false_iff_ne]; omega
    have hm : mag (c :: t) = c :: t := by unfold mag; rw [hn]; rfl
    constructor
    · unfold parsed
      rw [if_neg (by simp), hm, if_neg (by simp), if_pos ha, hn]
    · unfold parsed
      have hm2 : mag (45 :: c :: t) = c :: t := rfl
      have hn2 : neg (45 :: c :: t) = true := rfl
      rw [if_neg (by simp), hm2, if_neg (by simp), if_pos ha, hn2]
theorem core_len (m : List UInt8) (h0 : m ≠ []) : (core m).length ≤ m.length := by
  unfold core
  split
  · have : 0 < m.length := List.length_pos_iff.2 h0
    simp; omega
  · exact drop_le m
theorem make2_j1 (b : Bool) (l : List Int) (acc : List UInt8) (hD : IsD acc) (hl : acc.length ≤ 400) : Ev (fun k => schismalaw02_Make.j1 k (str acc) b l) (Z (sgd b (dv acc))) := by
  have one : (⟨#[48]⟩ : ByteArray) = str [48] := rfl
  have gen : ∀ m : List UInt8, IsD m → m ≠ [] → m.length ≤ 400 → dv m = dv acc → Ev (fun k => (schismaref02_Parse.f k (if b = true then str (45 :: m) else str m)).bind fun bt => (some bt.1)) (Z (sgd b (dv acc))) := fun m h1 h2 h3 h4 => by
    obtain ⟨p1, p2⟩ := parsed_digits m h1 h2
    have hc := core_len m h2
    by_cases hb : b = true
    · rw [if_pos hb]
      have key := r2parse_f (str (45 :: m)) (by rw [str_size, List.length_cons]; omega)
      rw [str_list, p2, pz_Z true m h1 (by omega), h4] at key
      exact Ev.bind key (Ev.eq (Ev.now _) (by rw [hb]))
    · rw [if_neg hb]
      have hb2 : b = false := by simpa using hb
      have key := r2parse_f (str m) (by rw [str_size]; omega)
      rw [str_list, p1, pz_Z false m h1 (by omega), h4] at key
      exact Ev.bind key (Ev.eq (Ev.now _) (by rw [hb2]))
  by_cases h0 : acc = []
  · have g := gen [48] (IsD.cons (by decide) IsD.nil) (by simp) (by decide) (by rw [h0]; rfl)
    refine Ev.step (fun k => ?_) g
    rw [schismalaw02_Make.j1, str_toList, if_pos h0, one, minus_str]
    by_cases hb : b = true
    · rw [if_pos hb, if_pos (by decide), if_pos hb]
    · rw [if_neg hb, if_neg hb]
  · have g := gen acc hD h0 hl rfl
    refine Ev.step (fun k => ?_) g
    have hsz : (str acc).size = acc.length := str_size acc
    rw [schismalaw02_Make.j1, str_toList, if_neg h0, minus_str]
    by_cases hb : b = true
    · rw [if_pos hb, if_pos (by omega), if_pos hb]
    · rw [if_neg hb, if_neg hb]
theorem digit_str {x : Int} (h0 : 0 ≤ x) : ∃ c : UInt8, (48 + Int.tmod x 10) % 256 = (c.toNat : Int) ∧ 48 ≤ c.toNat ∧ c.toNat ≤ 57 := by
  obtain ⟨n, rfl⟩ : ∃ n : Nat, x = n := ⟨x.toNat, by omega⟩
  have h2 : Int.tmod (n : Int) 10 = ((n % 10 : Nat) : Int) := tmodn n 10
  have h3 : n % 10 < 10 := Nat.mod_lt _ (by decide)
  refine ⟨UInt8.ofNat (48 + n % 10), ?_, ?_, ?_⟩
  · rw [h2, digit_toNat h3]; omega
  · rw [digit_toNat h3]; omega
  · rw [digit_toNat h3]; omega
theorem str_snoc (acc : List UInt8) (c : UInt8) : str acc ++ str [c] = str (acc ++ [c]) := by
  apply ByteArray.ext
  apply Array.toList_inj.1
  simp [str]
theorem make2_l0 (b : Bool) (l : List Int) (hl : ∀ x, x ∈ l → 0 ≤ x) (n : Nat) (hn : n ≤ 400) : ∀ (Q P : List Int) (acc : List UInt8), l = P ++ Q → IsD acc → acc.length = P.length → acc.length ≤ n →
    ∃ m : List UInt8, IsD m ∧ m.length ≤ n ∧ Ev (fun k => schismalaw02_Make.l0 k (n : Int) (str acc) (P.length : Int) b l) (Z (sgd b (dv m)))
  | [], P, acc, h, hD, hp, hq => by
    have hll : l.length = P.length := by rw [h]; simp
    refine ⟨acc, hD, hq, Ev.step (fun k => ?_) (make2_j1 b l acc hD (by omega))⟩
    rw [schismalaw02_Make.l0, if_neg (by omega)]
  | x :: Q, P, acc, h, hD, hp, hq => by
    have hll : l.length = P.length + (Q.length + 1) := by rw [h]; simp
    by_cases hend : P.length = n
    · refine ⟨acc, hD, hq, Ev.step (fun k => ?_) (make2_j1 b l acc hD (by omega))⟩
      rw [schismalaw02_Make.l0, if_pos (by omega), if_neg (by omega)]
    · have hx : 0 ≤ x := hl x (by rw [h]; simp)
      obtain ⟨c, e1, e2, e3⟩ := digit_str hx
      obtain ⟨m, m1, m2, m3⟩ := make2_l0 b l hl n hn Q (P ++ [x]) (acc ++ [c]) (by rw [h]; simp) (hD.append (IsD.cons ⟨e2, e3⟩ IsD.nil)) (by simp [hp]) (by rw [List.length_append, List.length_singleton]; omega)
      have e5 : rd l (P.length : Int) = x := by rw [h]; simp [rd, List.getD_eq_getElem?_getD]
      have e6 := wsucc (a := P.length) ⟨by omega⟩
      have e7 : strOfNums [(c.toNat : Int)] = str [c] := strOfNums_B8 [c]
      have hsz : (str acc).size = acc.length := str_size acc
      have hsz1 : (str [c]).size = 1 := str_size [c]
      refine ⟨m, m1, m2, Ev.step (f := fun k => schismalaw02_Make.l0 k (n : Int) (str (acc ++ [c])) ((P.length + 1 : Nat) : Int) b l) (fun k => ?_) (by simpa using m3)⟩
      simp only [schismalaw02_Make.l0, e5, e6, e1, Option.bind_some, e7, str_snoc]
      clear e1 e5 e6 m3
      simp (disch := omega) only [if_pos]
theorem make2_f (b : Bool) (l : List Int) (hl : ∀ x, x ∈ l → (Lit.int .u8 x).wf = true) (n : Nat) (hn : n ≤ 400) :
    ∃ u : Nat, u < 10 ^ n ∧ Ev (fun k => schismalaw02_Make.f k b l (n : Int)) (Z (sgd b u)) := by
  obtain ⟨m, m1, m2, m3⟩ := make2_l0 b l (fun x hx => (wf_u8 (hl x hx)).1) n hn l [] [] rfl IsD.nil rfl (by simp)
  exact ⟨dv m, Nat.lt_of_lt_of_le (dv_lt m1) (Nat.pow_le_pow_right (by decide) m2), m3⟩
def sgn (v : Int) : Int := if v = 0 then 0 else if v < 0 then -1 else 1
theorem Z_nat (u : Nat) : Z (u : Int) = S u := by unfold Z S; rw [itoa_n]
theorem Z_neg (u : Nat) (h : 1 ≤ u) : Z (-(u : Int)) = str (45 :: Lib.decDigits u) := by unfold Z; rw [itoa_m u h]; rfl
theorem neg_Z (v : Int) : neg (Z v).data.toList = decide (v < 0) ∧ str (mag (Z v).data.toList) = S v.natAbs := by
  by_cases h : v < 0
  · obtain ⟨u, rfl⟩ : ∃ u : Nat, v = -(u : Int) := ⟨v.natAbs, by omega⟩
    rw [Z_neg u (by omega), str_list, decide_eq_true h]
    have e : (-(u : Int)).natAbs = u := by omega
    rw [e]
    exact ⟨rfl, rfl⟩
  · obtain ⟨u, rfl⟩ : ∃ u : Nat, v = (u : Int) := ⟨v.toNat, by omega⟩
    obtain ⟨c, r, e, c1, c2⟩ := dec_first u
    have hn : neg (S u).data.toList = false := by
      rw [S_list, e, neg_cons, beq_eq_false_iff_ne]; omega
    rw [Z_nat, decide_eq_false h, hn]
    refine ⟨rfl, ?_⟩
    unfold mag
    rw [hn, if_neg (by decide), str_self]
    rfl
theorem split_Z (v : Int) : whole_split.f (Z v) = some (decide (v < 0), S v.natAbs) := by
  rw [split_f, (neg_Z v).1, (neg_Z v).2]
theorem digits_Z (v : Int) : schismaref02_digits.f (Z v) = some (S v.natAbs) := by
  rw [digits_f, (neg_Z v).2]
theorem Z_first (v : Int) : ∃ c t, (Z v).data.toList = c :: t ∧ (c = 45 ↔ v < 0) := by
  rw [Z_list]
  by_cases h : v < 0
  · obtain ⟨u, rfl⟩ : ∃ u : Nat, v = -(u : Int) := ⟨v.natAbs, by omega⟩
    exact ⟨45, Lib.decDigits u, itoa_m u (by omega), fun _ => h, fun _ => rfl⟩
  · obtain ⟨u, rfl⟩ : ∃ u : Nat, v = (u : Int) := ⟨v.toNat, by omega⟩
    obtain ⟨c, r, e, c1, c2⟩ := dec_first u
    refine ⟨c, r, by rw [itoa_n, e], fun h2 => ?_, fun h2 => absurd h2 h⟩
    rw [h2] at c1
    exact absurd c1 (by decide)
theorem itoa_inj {a b : Int} (h : Lib.itoa a = Lib.itoa b) : a = b := by
  have ha := neg_Z a
  have hb := neg_Z b
  rw [Z_list] at ha hb
  rw [h] at ha
  have h1 : decide (a < 0) = decide (b < 0) := ha.1.symm.trans hb.1
  have h2 := S_inj (ha.2.symm.trans hb.2)
  rw [decide_eq_decide] at h1
  omega
theorem Z_is0 (v : Int) : (Z v).toList = ([48] : List UInt8) ↔ v = 0 := by
  rw [toList_data, Z_list]
  have e : Lib.itoa 0 = [48] := by
    have := itoa_n 0
    rw [dec_small (by decide)] at this
    exact this
  rw [← e]
  exact ⟨itoa_inj, fun h => by rw [h]⟩
theorem wsign_f (v : Int) : whole_Sign.f (Z v) = some (sgn v) := by
  obtain ⟨c, t, e, hc⟩ := Z_first v
  have h1 := size_list (Z v)
  rw [e, List.length_cons] at h1
  unfold whole_Sign.f sgn
  by_cases h0 : v = 0
  · rw [if_pos ((Z_is0 v).2 h0), if_pos h0]
  · rw [if_neg (fun h => h0 ((Z_is0 v).1 h)), if_neg h0, if_pos (by omega), bt0 (Z v) c t e]
    by_cases hn : v < 0
    · rw [if_pos hn, if_pos ((c45 c).2 (hc.2 hn))]
    · rw [if_neg hn, if_neg (fun h => hn (hc.1 ((c45 c).1 h)))]
theorem r2sign_f (v : Int) : schismaref02_Sign.f (Z v) = some (sgn v) := wsign_f v
theorem side_f (v : Int) : schismaref02_side.f (Z v) = some (if v < 0 then -1 else 1) := by
  unfold schismaref02_side.f
  rw [r2sign_f, Option.bind_some]
  unfold sgn
  by_cases h0 : v = 0
  · rw [if_pos h0, if_neg (by decide), if_neg (by omega)]
  · rw [if_neg h0]
    by_cases hn : v < 0
    · rw [if_pos hn, if_pos (by decide)]
    · rw [if_neg hn, if_neg (by decide)]
theorem join_Z (n : Bool) (u : Nat) (hs : Lib.nDigits u < 4611686018427387904) : whole_join.f n (S u) = some (Z (sgd n u)) := by
  unfold whole_join.f sgd
  have h0 : (S u).toList = ([48] : List UInt8) ↔ u = 0 := by
    have := Z_is0 (u : Int)
    rw [Z_nat] at this
    exact this.trans ⟨fun h => by omega, fun h => by omega⟩
  have hsz := S_size u
  by_cases hn : n = true
  · rw [if_pos hn, if_pos hn]
    by_cases hu : u = 0
    · subst hu
      rw [if_pos (h0.2 rfl)]
      rfl
    · rw [if_neg (fun h => hu (h0.1 h)), if_pos (by omega), Z_neg u (by omega)]
      congr 1
  · rw [if_neg hn, if_neg hn, Z_nat]
theorem r2abs_f (v : Int) : schismaref02_Abs.f (Z v) = some (S v.natAbs) := by
  unfold schismaref02_Abs.f
  rw [digits_Z]
  rfl
end Go.Proofs.YtgicckcahhlbjaaGreatDoor.P

namespace Go.Proofs.YtgicckcahhlbjaaGreatDoor.P
open Go.RowKit Go.Proofs.YtgicckcahhlbjaaGreatDoorW.PrintWords
def small64 (v : Int) : Int × Bool := if -9223372036854775808 ≤ v ∧ v ≤ 9223372036854775807 then (v, true) else (0, false)
theorem Z_len (v : Int) : (Z v).size ≤ Lib.nDigits v.natAbs + 1 := by
  rw [size_list, Z_list]
  by_cases h : v < 0
  · obtain ⟨u, rfl⟩ : ∃ u : Nat, v = -(u : Int) := ⟨v.natAbs, by omega⟩
    have e : (-(u : Int)).natAbs = u := by omega
    rw [itoa_m u (by omega), e, List.length_cons, Lib.decDigits_length]
    exact Nat.le_refl _
  · obtain ⟨u, rfl⟩ : ∃ u : Nat, v = (u : Int) := ⟨v.toNat, by omega⟩
    have e : (u : Int).natAbs = u := by omega
    rw [itoa_n, e, Lib.decDigits_length]
    exact Nat.le_succ _
theorem sm_d {c : UInt8} (h : 48 ≤ c.toNat ∧ c.toNat ≤ 57) : wrap64 (wrap64 (c.toNat : Int) - 48) = ((c.toNat - 48 : Nat) : Int) := by
  rw [w64 (n := (c.toNat : Int)) (by omega) (by omega), w64 (by omega) (by omega)]; omega
theorem sm_lim (d : Nat) (h : d ≤ 9) : wrap64 (Int.tdiv (wrap64 ((-9223372036854775808) + (d : Int))) 10) = -(((9223372036854775808 - d) / 10 : Nat) : Int) := by
  have e1 : wrap64 ((-9223372036854775808) + (d : Int)) = -((9223372036854775808 - d : Nat) : Int) := by rw [w64 (by omega) (by omega)]; omega
  have e2 : Int.tdiv ((9223372036854775808 - d : Nat) : Int) 10 = (((9223372036854775808 - d) / 10 : Nat) : Int) := tdivn _ 10
  rw [e1, Int.neg_tdiv, e2]
  clear e1 e2
  rw [w64 (by omega) (by omega)]
theorem sm_next (p d : Nat) (hd : d ≤ 9) (h : 10 * p + d ≤ 9223372036854775808) : wrap64 (wrap64 (-(p : Int) * 10) - (d : Int)) = -((10 * p + d : Nat) : Int) := by
  rw [w64 (n := -(p : Int) * 10) (by omega) (by omega), w64 (by omega) (by omega)]; omega
def smres (mf : Bool) (u : Nat) : Int × Bool := if mf = true then (if u ≤ 9223372036854775808 then (-(u : Int), true) else (0, false)) else (if u < 9223372036854775808 then ((u : Int), true) else (0, false))
theorem r2small_l0 (s : ByteArray) (hs : s.size < 4611686018427387904) (H : List UInt8) (mf : Bool) (D : List UInt8) (hsD : s.data.toList = H ++ D) (hD : IsD D) : ∀ (Q P : List UInt8), D = P ++ Q → dv P ≤ 9223372036854775808 →
    Ev (fun k => schismaref02_Small.l0 k s ((H.length + P.length : Nat) : Int) mf (-(dv P : Int))) (smres mf (dv D))
  | [], P, h, hp => by
    rw [List.append_nil] at h
    have h1 := size_list s
    rw [hsD, List.length_append, h] at h1
    rw [h]
    refine Ev.step (f := fun _ => some (smres mf (dv P))) (fun k => ?_) (Ev.now _)
    rw [schismaref02_Small.l0, if_neg (by omega)]
    unfold smres
    by_cases hm : mf = true
    · rw [if_pos hm, if_pos hm, if_pos hp]
    · rw [if_neg hm, if_neg hm]
      by_cases h2 : dv P < 9223372036854775808
      · have e : wrap64 (-(-(dv P : Int))) = (dv P : Int) := by rw [w64 (by omega) (by omega)]; omega
        rw [if_neg (by omega), if_pos h2, e]
      · rw [if_pos (by omega), if_neg h2]
  | c :: Q, P, h, hp => by
    have hl : s.data.toList = (H ++ P) ++ c :: Q := by rw [hsD, h]; simp
    have h1 := size_mid s (H ++ P) Q c hl
    have hHP : (H ++ P).length = H.length + P.length := List.length_append
    have e1 := bt_mid s (H ++ P) Q c hl
    rw [hHP] at e1 h1
    have hc := hD c (by rw [h]; simp)
    have hd : c.toNat - 48 ≤ 9 := by omega
    have s1 : Sm (H.length + P.length) := ⟨by omega⟩
    have hpre := dv_prefix1 P Q c
    rw [← h] at hpre
    by_cases hf : 9223372036854775808 < 10 * dv P + (c.toNat - 48)
    · have hres : smres mf (dv D) = (0, false) := by
        unfold smres
        by_cases hm : mf = true
        · rw [if_pos hm, if_neg (by omega)]
        · rw [if_neg hm, if_neg (by omega)]
      rw [hres]
      have hlt : -(dv P : Int) < -(((9223372036854775808 - (c.toNat - 48)) / 10 : Nat) : Int) := by omega
      have g1 : ¬ ((c.toNat - 48 : Nat) : Int) < 0 := by omega
      have g2 : ¬ ((c.toNat - 48 : Nat) : Int) > 9 := by omega
      have g3 : ((H.length + P.length : Nat) : Int) < (s.size : Int) := by omega
      have g4 : 0 ≤ ((H.length + P.length : Nat) : Int) := by omega
      have e2 := sm_d hc
      have e3 := sm_lim (c.toNat - 48) hd
      refine Ev.step (f := fun _ => some (0, false)) (fun k => ?_) (Ev.now _)
      rw [schismaref02_Small.l0, if_pos g3, if_pos g4, e1, e2, if_neg g1, if_neg g2, e3, if_pos hlt]
    · have ih := r2small_l0 s hs H mf D hsD hD Q (P ++ [c]) (by rw [h]; simp) (by rw [dv_snoc]; omega)
      rw [dv_snoc, List.length_append, List.length_singleton, ← Nat.add_assoc] at ih
      have hlt : ¬ -(dv P : Int) < -(((9223372036854775808 - (c.toNat - 48)) / 10 : Nat) : Int) := by omega
      have g1 : ¬ ((c.toNat - 48 : Nat) : Int) < 0 := by omega
      have g2 : ¬ ((c.toNat - 48 : Nat) : Int) > 9 := by omega
      have g3 : ((H.length + P.length : Nat) : Int) < (s.size : Int) := by omega
      have g4 : 0 ≤ ((H.length + P.length : Nat) : Int) := by omega
      have e2 := sm_d hc
      have e3 := sm_lim (c.toNat - 48) hd
      have e4 := sm_next (dv P) (c.toNat - 48) hd (by clear e2 e3 e1; omega)
      have e5 := wsucc s1
      refine Ev.step (fun k => ?_) ih
      rw [schismaref02_Small.l0, if_pos g3, if_pos g4, e1, e2, if_neg g1, if_neg g2, e3, if_neg hlt, e4, e5]
theorem r2small_f (v : Int) (hd : Lib.nDigits v.natAbs ≤ 400) : Ev (fun k => schismaref02_Small.f k (Z v)) (small64 v) := by
  have hsz := Z_len v
  have h1 := size_list (Z v)
  unfold schismaref02_Small.f
  by_cases hn : v < 0
  · obtain ⟨u, rfl⟩ : ∃ u : Nat, v = -(u : Int) := ⟨v.natAbs, by omega⟩
    have hl : (Z (-(u : Int))).data.toList = 45 :: Lib.decDigits u := by rw [Z_list, itoa_m u (by omega)]
    have hp := dec_len_pos u
    rw [hl, List.length_cons] at h1
    have key := r2small_l0 (Z (-(u : Int))) (by omega) [45] true (Lib.decDigits u) hl (isD_dec u) (Lib.decDigits u) [] rfl (by decide)
    rw [dv_dec] at key
    have hres : smres true u = small64 (-(u : Int)) := by
      unfold smres small64
      rw [if_pos rfl]
      by_cases h : u ≤ 9223372036854775808
      · rw [if_pos h, if_pos (by omega)]
      · rw [if_neg h, if_neg (by omega)]
    rw [hres] at key
    refine Ev.pos (by omega) (Ev.pos (by omega) ?_)
    rw [bt0 _ 45 (Lib.decDigits u) hl]
    have hb : (((45 : UInt8).toNat : Int) == 45) = true := rfl
    rw [hb]
    have jstep : ∀ k, schismaref02_Small.j1 (k + 1) (Z (-(u : Int))) 1 = schismaref02_Small.l0 k (Z (-(u : Int))) ((([45] : List UInt8).length + ([] : List UInt8).length : Nat) : Int) true (-(dv [] : Int)) := fun k => by
      rw [schismaref02_Small.j1, if_neg (by omega)]
      rfl
    have key2 := Ev.step (g := fun k => schismaref02_Small.j1 k (Z (-(u : Int))) 1) jstep key
    exact Ev.step (fun k => by rw [schismaref02_Small.j0, if_pos rfl]) key2
  · obtain ⟨u, rfl⟩ : ∃ u : Nat, v = (u : Int) := ⟨v.toNat, by omega⟩
    have hl : (Z (u : Int)).data.toList = Lib.decDigits u := by rw [Z_list, itoa_n]
    obtain ⟨c, r, e, c1, c2⟩ := dec_first u
    have hp := dec_len_pos u
    rw [hl] at h1
    have key := r2small_l0 (Z (u : Int)) (by omega) [] false (Lib.decDigits u) (by rw [hl]; rfl) (isD_dec u) (Lib.decDigits u) [] rfl (by decide)
    rw [dv_dec] at key
    have hres : smres false u = small64 (u : Int) := by
      unfold smres small64
      rw [if_neg (by decide)]
      by_cases h : u < 9223372036854775808
      · rw [if_pos h, if_pos (by omega)]
      · rw [if_neg h, if_neg (by omega)]
    rw [hres] at key
    refine Ev.pos (by omega) (Ev.pos (by omega) ?_)
    rw [bt0 _ c r (by rw [hl, e])]
    have hb : ((c.toNat : Int) == 45) = false := by rw [beq_eq_false_iff_ne]; omega
    rw [hb]
    have jstep : ∀ k, schismaref02_Small.j1 (k + 1) (Z (u : Int)) 0 = schismaref02_Small.l0 k (Z (u : Int)) ((([] : List UInt8).length + ([] : List UInt8).length : Nat) : Int) false (-(dv [] : Int)) := fun k => by
      rw [schismaref02_Small.j1, if_neg (by omega)]
      rfl
    have key2 := Ev.step (g := fun k => schismaref02_Small.j1 k (Z (u : Int)) 0) jstep key
    exact Ev.step (fun k => by rw [schismaref02_Small.j0, if_neg (by decide)]) key2
end Go.Proofs.YtgicckcahhlbjaaGreatDoor.P

namespace Go.Proofs.YtgicckcahhlbjaaGreatDoor.P
open Go.RowKit Go.Proofs.YtgicckcahhlbjaaGreatDoorW.PrintWords
theorem rd_at (L W : List Nat) (x : Nat) (i : Nat) (h : L.length = i) : rd (C (L ++ x :: W)) (i : Int) = x := by rw [rd_C, ← h, getD_mid]
theorem set_at (L W : List Nat) (x y : Nat) (i : Nat) (h : L.length = i) : (C (L ++ x :: W)).set (i : Int).toNat (y : Int) = C (L ++ y :: W) := by rw [Int.toNat_natCast, C_set, ← h, set_mid]
end Go.Proofs.YtgicckcahhlbjaaGreatDoor.P

namespace Go.Proofs.YtgicckcahhlbjaaGreatDoor.P
open Go.RowKit Go.Proofs.YtgicckcahhlbjaaGreatDoorW.PrintWords
theorem rdI (L W : List Int) (x : Int) (i : Nat) (h : L.length = i) : rd (L ++ x :: W) (i : Int) = x := by
  subst h
  simp [rd, List.getD_eq_getElem?_getD]
theorem setI (L W : List Int) (x y : Int) (i : Nat) (h : L.length = i) : (L ++ x :: W).set i y = L ++ y :: W := by
  subst h
  simp
theorem ends_of {α : Type} {m : List α} (h : 2 ≤ m.length) : ∃ a w b, m = a :: (w ++ [b]) ∧ w.length + 2 = m.length := by
  rcases m with _ | ⟨a, t⟩
  · simp at h
  · rcases List.eq_nil_or_concat t with e | ⟨w, b, e⟩
    · subst e; simp at h
    · exact ⟨a, w, b, by rw [e]; simp, by rw [e]; simp⟩
theorem reverse_l0 : ∀ (n : Nat) (M L R : List Int), M.length = n → L.length = R.length → (L ++ M ++ R).length < 4611686018427387904 →
    Ev (fun k => slices_Reverse_byte_byte.l0 k (L ++ M ++ R) (L.length : Int) ((L.length : Int) + (M.length : Int) - 1)) (L ++ M.reverse ++ R) := by
  intro n
  induction n using Nat.strongRecOn with
  | _ n ih =>
    intro M L R hn hl hs
    by_cases h2 : 2 ≤ M.length
    · obtain ⟨a, w, b, rfl, hw⟩ := ends_of h2
      have hs2 := hs
      simp only [List.length_append] at hs2
      have e0 : L ++ a :: (w ++ [b]) ++ R = L ++ a :: (w ++ b :: R) := by simp
      have e0' : L ++ a :: (w ++ [b]) ++ R = (L ++ a :: w) ++ b :: R := by simp
      have e1 : rd (L ++ a :: (w ++ [b]) ++ R) (L.length : Int) = a := by rw [e0, rdI _ _ _ _ rfl]
      have e2 : rd (L ++ a :: (w ++ [b]) ++ R) ((L.length + w.length + 1 : Nat) : Int) = b := by rw [e0', rdI _ _ _ _ (by simp; omega)]
      have e3 : ((L ++ a :: (w ++ [b]) ++ R).set L.length b).set (L.length + w.length + 1) a = (L ++ [b]) ++ w ++ (a :: R) := by
        rw [e0, setI _ _ _ _ _ rfl, show L ++ b :: (w ++ b :: R) = (L ++ b :: w) ++ b :: R by simp, setI _ _ _ _ _ (by simp; omega)]
        simp
      have e4 : ((L.length : Int) + ((a :: (w ++ [b])).length : Int) - 1) = ((L.length + w.length + 1 : Nat) : Int) := by rw [← hw]; omega
      have e7 : (L ++ a :: (w ++ [b]) ++ R).length = L.length + (w.length + 2) + R.length := by simp; omega
      have key := ih w.length (by omega) w (L ++ [b]) (a :: R) rfl (by simp [hl]) (by simp only [List.length_append, List.length_cons, List.length_nil]; omega)
      have s1 : Sm L.length := ⟨by omega⟩
      have s2 : Sm (L.length + w.length + 1) := ⟨by omega⟩
      have e5 := wsucc s1
      have e6 := wpred1 s2
      have e8 : L ++ (a :: (w ++ [b])).reverse ++ R = (L ++ [b]) ++ w.reverse ++ (a :: R) := by simp
      rw [e8, e4]
      refine Ev.step (f := fun k => slices_Reverse_byte_byte.l0 k ((L ++ [b]) ++ w ++ (a :: R)) ((L.length + 1 : Nat) : Int) ((L.length + w.length : Nat) : Int)) (fun k => ?_) ?_
      · simp only [slices_Reverse_byte_byte.l0, e1, e2, e5, e6, Int.toNat_natCast, e3, e7]
        clear e1 e2 e3 e5 e6 e4 key ih
        simp (disch := omega) only [if_pos]
      · have e9 : (((L ++ [b]).length : Int) + (w.length : Int) - 1) = ((L.length + w.length : Nat) : Int) := by simp; omega
        rw [e9] at key
        simpa using key
    · refine Ev.step (f := fun _ => some (L ++ M ++ R)) (fun k => ?_) (Ev.eq (Ev.now _) ?_)
      · simp (disch := omega) only [slices_Reverse_byte_byte.l0, if_neg]
      · rcases M with _ | ⟨a, _ | ⟨b, t⟩⟩
        · rfl
        · rfl
        · simp at h2
theorem reverse_f (M : List Int) (hs : M.length < 4611686018427387904) : Ev (fun k => slices_Reverse_byte_byte.f k M) M.reverse := by
  have key := reverse_l0 M.length M [] [] rfl rfl (by simpa using hs)
  unfold slices_Reverse_byte_byte.f
  rw [w64 (by omega) (by omega)]
  simpa using key
theorem tdig (n : Nat) (h : n < 1000000000000000000) : (IntKind.u64.wrap (48 + Int.tmod (n : Int) 10)) % 256 = ((UInt8.ofNat (48 + n % 10)).toNat : Int) ∧ IntKind.u64.wrap (Int.tdiv (n : Int) 10) = ((n / 10 : Nat) : Int) := by
  have h1 : Int.tmod (n : Int) 10 = ((n % 10 : Nat) : Int) := tmodn n 10
  have h2 : Int.tdiv (n : Int) 10 = ((n / 10 : Nat) : Int) := tdivn n 10
  have h3 : n % 10 < 10 := Nat.mod_lt _ (by decide)
  refine ⟨?_, ?_⟩
  · rw [h1, u64w (by omega) (by omega), digit_toNat h3]; omega
  · rw [h2, usmall (by omega)]
theorem text_mid (p : List Int) (i : Nat) (hi : Sm (i + 1)) (hp : i + 1 < p.length) (r : ByteArray) : ∀ (c j n : Nat) (out : List UInt8), j + c = 9 → n < 1000000000 → out.length + c < 140737488355328 →
    Ev (fun k => decimal_pieces_text.l0 k p (B8 (out ++ dgs c n)) p (p.length : Int) ((i + 1 : Nat) : Int)) r → Ev (fun k => decimal_pieces_text.l1 k p (B8 out) (i : Int) (n : Int) (j : Int) p (p.length : Int) (i : Int)) r
  | 0, j, n, out, hj, hn, ho, h => by
    have e1 := wsucc (a := i) (hi.le (by omega))
    rw [dgs, List.append_nil] at h
    refine Ev.step (fun k => ?_) h
    simp only [decimal_pieces_text.l1, e1]
    clear e1
    simp (disch := omega) only [if_neg]
  | c + 1, j, n, out, hj, hn, ho, h => by
    have s1 : n < 1000000000000000000 := by omega
    have s2 : Sm j := ⟨by omega⟩
    have ih := text_mid p i hi hp r c (j + 1) (n / 10) (out ++ [UInt8.ofNat (48 + n % 10)]) (by omega) (by omega) (by simp; omega) (by simpa [dgs] using h)
    have e1 := wsucc (a := i) (hi.le (by omega))
    obtain ⟨e2, e3⟩ := tdig n s1
    have e4 := wsucc s2
    have e5 : B8 out ++ [((UInt8.ofNat (48 + n % 10)).toNat : Int)] = B8 (out ++ [UInt8.ofNat (48 + n % 10)]) := by rw [B8_append]; rfl
    have e6 : (B8 out).length = out.length := B8_length _
    refine Ev.step (fun k => ?_) ih
    simp only [decimal_pieces_text.l1, e1, e2, e3, e4, e5]
    clear e1 e2 e3 e4 e5
    simp (disch := omega) only [if_pos]
theorem text_last (p : List Int) (i : Nat) (hi : Sm (i + 1)) (hp : i + 1 = p.length) (r : ByteArray) : ∀ (c j n : Nat) (out : List UInt8), j + c = 9 → n < 10 ^ c → out.length + c < 140737488355328 →
    Ev (fun k => decimal_pieces_text.l0 k p (B8 (out ++ (if n = 0 then [] else rdig n))) p (p.length : Int) ((i + 1 : Nat) : Int)) r → Ev (fun k => decimal_pieces_text.l1 k p (B8 out) (i : Int) (n : Int) (j : Int) p (p.length : Int) (i : Int)) r
  | 0, j, n, out, hj, hn, ho, h => by
    have e1 := wsucc (a := i) (hi.le (by omega))
    have h0 : n = 0 := by simpa using hn
    subst h0
    rw [if_pos rfl, List.append_nil] at h
    refine Ev.step (fun k => ?_) h
    simp only [decimal_pieces_text.l1, e1]
    clear e1
    simp (disch := omega) only [if_neg]
  | c + 1, j, n, out, hj, hn, ho, h => by
    have h9 : 10 ^ (c + 1) ≤ 10 ^ 9 := Nat.pow_le_pow_right (by decide) (by omega)
    have h99 : (10 : Nat) ^ 9 = 1000000000 := by decide
    rw [h99] at h9
    by_cases h0 : n = 0
    · subst h0
      rw [if_pos rfl, List.append_nil] at h
      have e1 := wsucc (a := i) (hi.le (by omega))
      refine Ev.step (fun k => ?_) h
      simp only [decimal_pieces_text.l1, e1]
      clear e1 h9 hn
      simp (disch := omega) only [if_pos, if_neg]
    · have s1 : n < 1000000000000000000 := by omega
      have s2 : Sm j := ⟨by omega⟩
      have e5 : B8 out ++ [((UInt8.ofNat (48 + n % 10)).toNat : Int)] = B8 (out ++ [UInt8.ofNat (48 + n % 10)]) := by rw [B8_append]; rfl
      have e6 : (B8 out).length = out.length := B8_length _
      have e7 : UInt8.ofNat (48 + n % 10) :: (if n / 10 = 0 then [] else rdig (n / 10)) = if n = 0 then [] else rdig n := by
        rw [if_neg h0]
        by_cases h10 : n < 10
        · rw [if_pos (by omega), rdig_small h10, Nat.mod_eq_of_lt h10]
        · rw [if_neg (show ¬ n / 10 = 0 by omega), rdig_big (n := n) (by omega)]
      have hn' : n / 10 < 10 ^ c := by rw [Nat.pow_succ] at hn; omega
      have ih := text_last p i hi hp r c (j + 1) (n / 10) (out ++ [UInt8.ofNat (48 + n % 10)]) (by omega) hn' (by simp; omega) (by rw [List.append_assoc, List.singleton_append, e7]; exact h)
      have e1 := wsucc (a := i) (hi.le (by omega))
      obtain ⟨e2, e3⟩ := tdig n s1
      have e4 := wsucc s2
      refine Ev.step (fun k => ?_) ih
      simp only [decimal_pieces_text.l1, e1, e2, e3, e4, e5]
      clear e1 e2 e3 e4 e5 e7 hn hn' h9
      simp (disch := omega) only [if_pos, if_neg]
theorem text_l0 (p : List Nat) (hp : Ok p) (hs : p.length < 8796093022208) : ∀ (Q P : List Nat) (m : Nat) (out : List UInt8), p = P ++ Q → Q = pcs m → out.length = 9 * P.length →
    Ev (fun k => decimal_pieces_text.l0 k (C p) (B8 out) (C p) (p.length : Int) (P.length : Int)) ⟨(out ++ (if m = 0 then [] else rdig m)).reverse.toArray⟩
  | [], P, m, out, hpq, hm, ho => by
    have h0 : m = 0 := pcs_nil_iff.1 hm.symm
    have hl : p.length = P.length := by rw [hpq]; simp
    rw [if_pos h0, List.append_nil]
    have e1 : (B8 out).reverse = B8 out.reverse := by simp [B8]
    have key := reverse_f (B8 out) (by rw [B8_length]; omega)
    rw [e1] at key
    refine Ev.step (f := fun k => (slices_Reverse_byte_byte.f k (B8 out)).bind fun t141 => (some (strOfNums t141))) (fun k => ?_) (Ev.eq (Ev.bind key (Ev.now _)) (by rw [strOfNums_B8]))
    simp (disch := omega) only [decimal_pieces_text.l0, if_neg]
  | n :: Q, P, m, out, hpq, hm, ho => by
    have hl : p.length = P.length + (Q.length + 1) := by rw [hpq]; simp
    have h0 : m ≠ 0 := fun e => by rw [e, pcs_zero] at hm; cases hm
    rw [pcs_pos h0] at hm
    injection hm with hn hQ
    have e1 : rd (C p) (P.length : Int) = n := by rw [hpq, rd_at _ _ _ _ rfl]
    have hn9 : n < 1000000000 := by rw [hn]; exact Nat.mod_lt _ (by decide)
    have hmn : m = n + 1000000000 * (m / 1000000000) := by omega
    have hC : (C p).length = p.length := C_length _
    refine Ev.step (f := fun k => decimal_pieces_text.l1 k (C p) (B8 out) (P.length : Int) (n : Int) 0 (C p) ((C p).length : Int) (P.length : Int)) (fun k => ?_) ?_
    · simp only [decimal_pieces_text.l0, e1, hC]
      clear e1
      simp (disch := omega) only [if_pos]
    · rw [if_neg h0]
      by_cases hq : m / 1000000000 = 0
      · have hQ0 : Q = [] := by rw [hQ, hq, pcs_zero]
        subst hQ0
        have ih := text_l0 p hp hs [] (P ++ [n]) 0 (out ++ rdig m) (by rw [hpq]; simp) pcs_zero.symm
        have hmn' : m = n := by omega
        refine text_last (C p) P.length ⟨by omega⟩ (by rw [hC]; simpa using hl.symm) _ 9 0 n out (by omega) (by simpa using hn9) (by omega) ?_
        have hn0 : n ≠ 0 := by omega
        rw [if_neg hn0, hC, ← hmn']
        have e9 : (B8 (out ++ rdig m)).reverse = B8 (out ++ rdig m).reverse := by simp [B8]
        have hrl : (rdig m).length ≤ 9 := by rw [rdig, List.length_reverse, Lib.decDigits_length]; exact nDig_le (by decide) (by omega)
        have key := reverse_f (B8 (out ++ rdig m)) (by rw [B8_length, List.length_append]; omega)
        rw [e9] at key
        refine Ev.step (f := fun k => (slices_Reverse_byte_byte.f k (B8 (out ++ rdig m))).bind fun t141 => (some (strOfNums t141))) (fun k => ?_) (Ev.eq (Ev.bind key (Ev.now _)) (by rw [strOfNums_B8]))
        rw [List.length_nil] at hl
        simp (disch := omega) only [decimal_pieces_text.l0, if_neg]
      · have hQl : 1 ≤ Q.length := by
          rcases Q with _ | ⟨a, t⟩
          · exact absurd (pcs_nil_iff.1 hQ.symm) hq
          · simp
        have ih := text_l0 p hp hs Q (P ++ [n]) (m / 1000000000) (out ++ dgs 9 n) (by rw [hpq]; simp) hQ (by simp [dgs]; omega)
        refine text_mid (C p) P.length ⟨by omega⟩ (by rw [hC]; omega) _ 9 0 n out (by omega) hn9 (by omega) ?_
        rw [if_neg hq] at ih
        rw [hC]
        have e9 : rdig m = dgs 9 n ++ rdig (m / 1000000000) := by
          rw [← dec_val_cons hn9 hq, ← hmn]
        rw [e9, ← List.append_assoc]
        simpa using ih
theorem text_f (n : Nat) (hs : (pcs n).length < 8796093022208) : Ev (fun k => decimal_pieces_text.f k (C (pcs n))) (S n) := by
  unfold decimal_pieces_text.f
  have hC : (C (pcs n)).length = (pcs n).length := C_length _
  rw [hC]
  by_cases h0 : n = 0
  · subst h0
    have hz : (pcs 0).length = 0 := by rw [pcs_zero]; rfl
    simp (disch := omega) only [if_pos]
    rw [zero_str]
    exact Ev.now _
  · have hl : (pcs n).length ≠ 0 := fun e => h0 (pcs_nil_iff.1 (List.length_eq_zero_iff.1 e))
    have key := text_l0 (pcs n) (ok_pcs n) hs (pcs n) [] n [] rfl rfl rfl
    have e1 : wrap64 (9 * ((pcs n).length : Int)) = ((9 * (pcs n).length : Nat) : Int) := by rw [w64 (by omega) (by omega)]; omega
    have e2 : (⟨([] ++ (if n = 0 then [] else rdig n)).reverse.toArray⟩ : ByteArray) = S n := by
      rw [if_neg h0, List.nil_append, rdig, List.reverse_reverse]; rfl
    rw [e2] at key
    simp only [e1, Int.toNat_natCast]
    clear e1 e2
    simp (disch := omega) only [if_pos, if_neg]
    exact key
end Go.Proofs.YtgicckcahhlbjaaGreatDoor.P

namespace Go.Proofs.YtgicckcahhlbjaaGreatDoor.P
open Go.RowKit Go.Proofs.YtgicckcahhlbjaaGreatDoorW.PrintWords
theorem mod_lt9 (n : Nat) : n % 1000000000 < 1000000000 := Nat.mod_lt _ (by decide)
end Go.Proofs.YtgicckcahhlbjaaGreatDoor.P

namespace Go.Proofs.YtgicckcahhlbjaaGreatDoor.P
open Go.RowKit Go.Proofs.YtgicckcahhlbjaaGreatDoorW.PrintWords
def mrow (a : Nat) : Nat → List Nat → List Nat → List Nat
  | c, [], _ => [c]
  | c, _ :: _, [] => [c]
  | c, w :: W, b :: Q => ((c + (w + a * b)) % 1000000000) :: mrow a ((c + (w + a * b)) / 1000000000) W Q
theorem mrow_arith {a w b c : Nat} (ha : a < 1000000000) (hw : w < 1000000000) (hb : b < 1000000000) (hc : c < 1000000000) :
    IntKind.u64.wrap ((c : Int) + IntKind.u64.wrap ((w : Int) + IntKind.u64.wrap ((a : Int) * (b : Int)))) = ((c + (w + a * b) : Nat) : Int) ∧ IntKind.u64.wrap (((c + (w + a * b)) / 1000000000 : Nat) : Int) = (((c + (w + a * b)) / 1000000000 : Nat) : Int) ∧ (c + (w + a * b)) / 1000000000 < 1000000000 := by
  have h : a * b ≤ 999999999 * 999999999 := Nat.mul_le_mul (by omega) (by omega)
  refine ⟨?_, usmall (by omega), by omega⟩
  rw [umul (by omega), uadd (by omega), uadd (by omega)]
theorem mrow_spec (a : Nat) (ha : a < 1000000000) : ∀ (Q W : List Nat) (c : Nat), W.length = Q.length → Ok W → Ok Q → c < 1000000000 →
    (mrow a c W Q).length = W.length + 1 ∧ Ok (mrow a c W Q) ∧ val (mrow a c W Q) = val W + a * val Q + c
  | [], [], c, _, _, _, hc => ⟨rfl, Ok.cons hc Ok.nil, by simp [mrow, val]⟩
  | [], _ :: _, _, h, _, _, _ => by simp at h
  | _ :: _, [], _, h, _, _, _ => by simp at h
  | b :: Q, w :: W, c, h, hW, hQ, hc => by
    obtain ⟨_, _, m3⟩ := mrow_arith ha hW.head hQ.head hc
    obtain ⟨i1, i2, i3⟩ := mrow_spec a ha Q W ((c + (w + a * b)) / 1000000000) (by simpa using h) hW.tail hQ.tail m3
    refine ⟨by simp [mrow, i1], Ok.cons (mod_lt9 _) i2, ?_⟩
    simp only [mrow, val, i3]
    rw [Nat.mul_add a, Nat.mul_left_comm a 1000000000]
    generalize a * val Q = u
    generalize a * b = ab
    omega
theorem times_in (k : Nat) (Q1 Q2 L R : List Nat) (w b i a c : Nat) (p : List Int) (n m : Int) (hL : L.length = i + Q1.length) (ha : a < 1000000000) (hw : w < 1000000000) (hb : b < 1000000000) (hc : c < 1000000000) (hs : Sm (i + Q1.length)) (hs1 : Sm Q1.length) :
    decimal_pieces_times.l1 (k + 1) (C (Q1 ++ b :: Q2)) (C (L ++ w :: R)) (i : Int) (a : Int) (c : Int) p n m (C (Q1 ++ b :: Q2)) (((Q1 ++ b :: Q2).length : Nat) : Int) (Q1.length : Int) =
      decimal_pieces_times.l1 k (C (Q1 ++ b :: Q2)) (C (L ++ ((c + (w + a * b)) % 1000000000) :: R)) (i : Int) (a : Int) (((c + (w + a * b)) / 1000000000 : Nat) : Int) p n m (C (Q1 ++ b :: Q2)) (((Q1 ++ b :: Q2).length : Nat) : Int) ((Q1.length + 1 : Nat) : Int) := by
  have hl1 : (C (Q1 ++ b :: Q2)).length = Q1.length + (Q2.length + 1) := by rw [C_length]; simp
  have hl2 : (Q1 ++ b :: Q2).length = Q1.length + (Q2.length + 1) := by simp
  have hl0 : (C (L ++ w :: R)).length = i + Q1.length + (R.length + 1) := by rw [C_length]; simp [hL]
  obtain ⟨e3, e4, _⟩ := mrow_arith ha hw hb hc
  have e1 := wadd hs
  have e2 := rd_at L R w (i + Q1.length) hL
  have e7 := rd_at Q1 Q2 b Q1.length rfl
  have e5 := wsucc hs1
  have e6 := set_at L R w ((c + (w + a * b)) % 1000000000) _ hL
  simp only [decimal_pieces_times.l1, e1, e2, e7, e3, tdiv9, tmod9, e4, e5, e6]
  clear e1 e2 e3 e4 e5 e6 e7 ha hw hb hc hs hs1
  generalize (c + (w + a * b)) / 1000000000 = e'
  generalize (c + (w + a * b)) % 1000000000 = e
  simp (disch := omega) only [if_pos]
theorem times_out (k : Nat) (Q L R : List Nat) (z i a c : Nat) (p : List Int) (n : Int) (hL : L.length = i + Q.length) (hs : Sm (i + Q.length)) (hs1 : Sm i) :
    decimal_pieces_times.l1 (k + 1) (C Q) (C (L ++ z :: R)) (i : Int) (a : Int) (c : Int) p n (i : Int) (C Q) ((Q.length : Nat) : Int) (Q.length : Int) =
      decimal_pieces_times.l0 k (C Q) (C (L ++ c :: R)) p n ((i + 1 : Nat) : Int) := by
  have hl1 : (C Q).length = Q.length := C_length _
  have hl0 : (C (L ++ z :: R)).length = i + Q.length + (R.length + 1) := by rw [C_length]; simp [hL]
  have e1 := wadd hs
  have e5 := wsucc hs1
  have e6 := set_at L R z c _ hL
  simp only [decimal_pieces_times.l1, hl1, e1, e5, e6]
  clear e1 e5 e6 hs hs1
  simp (disch := omega) only [if_pos, if_neg]
theorem times_l1 (a : Nat) (ha : a < 1000000000) (p : List Int) (n : Int) {r : List Int} : ∀ (Q2 Q1 L W R : List Nat) (z i c : Nat), W.length = Q2.length → L.length = i + Q1.length → Ok W → Ok Q2 → c < 1000000000 → Sm (i + (Q1 ++ Q2).length) →
    Ev (fun k => decimal_pieces_times.l0 k (C (Q1 ++ Q2)) (C (L ++ mrow a c W Q2 ++ R)) p n ((i + 1 : Nat) : Int)) r →
    Ev (fun k => decimal_pieces_times.l1 k (C (Q1 ++ Q2)) (C (L ++ W ++ z :: R)) (i : Int) (a : Int) (c : Int) p n (i : Int) (C (Q1 ++ Q2)) (((Q1 ++ Q2).length : Nat) : Int) (Q1.length : Int)) r
  | [], Q1, L, [], R, z, i, c, _, hL, _, _, _, hs, hr => by
    rw [List.append_nil] at hs hr ⊢
    rw [List.append_nil]
    exact Ev.step (fun k => times_out k Q1 L R z i a c p n hL hs (hs.le (by omega))) (by simpa [mrow] using hr)
  | [], _, _, _ :: _, _, _, _, _, h, _, _, _, _, _, _ => by simp at h
  | _ :: _, _, _, [], _, _, _, _, h, _, _, _, _, _, _ => by simp at h
  | b :: Q2, Q1, L, w :: W, R, z, i, c, hWQ, hL, hW, hQ, hc, hs, hr => by
    have e0 : L ++ w :: W ++ z :: R = L ++ w :: (W ++ z :: R) := by simp
    have hs1 : Sm (i + Q1.length) := hs.le (by simp)
    have ih := times_l1 a ha p n Q2 (Q1 ++ [b]) (L ++ [(c + (w + a * b)) % 1000000000]) W R z i ((c + (w + a * b)) / 1000000000) (by simpa using hWQ) (by simp [hL]; omega) hW.tail hQ.tail (mrow_arith ha hW.head hQ.head hc).2.2 (hs.le (by simp)) (by simpa [mrow] using hr)
    rw [e0]
    exact Ev.step (fun k => times_in k Q1 Q2 L (W ++ z :: R) w b i a c p n i hL ha hW.head hQ.head hc hs1 (hs1.le (by omega))) (by simpa using ih)
theorem times_head (k : Nat) (P1 P2 : List Nat) (a : Nat) (q out : List Int) :
    decimal_pieces_times.l0 (k + 1) q out (C (P1 ++ a :: P2)) (((P1 ++ a :: P2).length : Nat) : Int) (P1.length : Int) =
      decimal_pieces_times.l1 k q out (P1.length : Int) (a : Int) 0 (C (P1 ++ a :: P2)) (((P1 ++ a :: P2).length : Nat) : Int) (P1.length : Int) q (q.length : Int) 0 := by
  have hl1 : (C (P1 ++ a :: P2)).length = P1.length + (P2.length + 1) := by rw [C_length]; simp
  have hl2 : (P1 ++ a :: P2).length = P1.length + (P2.length + 1) := by simp
  have e2 := rd_at P1 P2 a P1.length rfl
  simp only [decimal_pieces_times.l0, e2]
  clear e2
  simp (disch := omega) only [if_pos]
theorem times_l0 (Q : List Nat) (hQ : Ok Q) : ∀ (P2 P1 M : List Nat), Ok P2 → Ok M → M.length = P1.length + Q.length → val M = val P1 * val Q → Sm ((P1 ++ P2).length + Q.length) →
    Ev (fun k => decimal_pieces_times.l0 k (C Q) (C (M ++ List.replicate P2.length 0)) (C (P1 ++ P2)) (((P1 ++ P2).length : Nat) : Int) (P1.length : Int)) (C (pcs (val (P1 ++ P2) * val Q)))
  | [], P1, M, _, hM, hl, hv, hs => by
    have ht := trim_f M hM (by have := hs.out; simp at this; omega)
    refine Ev.step (f := fun k => (decimal_pieces_trim.f k (C M)).bind fun t163 => (some t163)) (fun k => ?_) (Ev.eq (Ev.bind ht (Ev.now _)) (by rw [hv, List.append_nil]))
    have h : ¬ (P1.length : Int) < ((P1.length : Nat) : Int) := by omega
    simp only [List.append_nil, List.length_nil, List.replicate_zero]
    simp only [decimal_pieces_times.l0, if_neg h]
  | a :: P2, P1, M, hP, hM, hl, hv, hs => by
    have ha := hP.head
    obtain ⟨L, W, rfl, hL⟩ : ∃ L W, M = L ++ W ∧ L.length = P1.length := ⟨M.take P1.length, M.drop P1.length, (List.take_append_drop _ _).symm, by rw [List.length_take]; omega⟩
    have hW : W.length = Q.length := by simp [hL] at hl; omega
    obtain ⟨m1, m2, m3⟩ := mrow_spec a ha Q W 0 hW hM.right hQ (by omega)
    have ih := times_l0 Q hQ P2 (P1 ++ [a]) (L ++ mrow a 0 W Q) hP.tail (hM.left.append m2) (by simp [m1, hL, hW]; omega) (by
      rw [val_append, hL] at hv
      rw [val_append, m3, val_snoc, Nat.add_zero, Nat.mul_add, ← Nat.add_assoc, hL, hv, Nat.add_mul, Nat.mul_assoc]) (hs.le (by simp))
    refine Ev.step (fun k => times_head k P1 P2 a (C Q) _) ?_
    have key := times_l1 a ha (C (P1 ++ a :: P2)) (((P1 ++ a :: P2).length : Nat) : Int) Q [] L W (List.replicate P2.length 0) 0 P1.length 0 hW (by simp [hL]) hM.right hQ (by omega) (hs.le (by simp)) (by simpa using ih)
    simpa [C_length, List.replicate_succ] using key
end Go.Proofs.YtgicckcahhlbjaaGreatDoor.P

namespace Go.Proofs.YtgicckcahhlbjaaGreatDoor.P
open Go.RowKit Go.Proofs.YtgicckcahhlbjaaGreatDoorW.PrintWords
theorem times_f (P Q : List Nat) (hP : Ok P) (hQ : Ok Q) (h : P.length + Q.length < 17592186044416) :
    Ev (fun k => decimal_pieces_times.f k (C P) (C Q)) (C (pcs (val P * val Q))) := by
  have key := times_l0 Q hQ P [] (List.replicate Q.length 0) hP (fun a ha => by have := List.eq_of_mem_replicate ha; omega) (by simp) (by simp [val, val_zeros]) ⟨by simp; omega⟩
  have e1 := wadd (a := P.length) (b := Q.length) ⟨by omega⟩
  have e2 : List.replicate (P.length + Q.length) (0 : Int) = C (List.replicate Q.length 0 ++ List.replicate P.length 0) := by
    rw [List.replicate_append_replicate, ← C_zeros, Nat.add_comm]
  have key2 : Ev (fun k => decimal_pieces_times.l0 k (C Q) (C (List.replicate Q.length 0 ++ List.replicate P.length 0)) (C P) (P.length : Int) 0) (C (pcs (val P * val Q))) := by simpa using key
  unfold decimal_pieces_times.f
  simp only [C_length, e1, Int.toNat_natCast, e2]
  clear e1 e2 key
  simp (disch := omega) only [if_pos]
  exact key2
end Go.Proofs.YtgicckcahhlbjaaGreatDoor.P

namespace Go.Proofs.YtgicckcahhlbjaaGreatDoor.P
open Go.RowKit Go.Proofs.YtgicckcahhlbjaaGreatDoorW.PrintWords
structure Md (n : Nat) : Prop where
  out : Lib.nDigits n ≤ 1000000
theorem pcs_len_nDig (n : Nat) : (pcs n).length ≤ Lib.nDigits n := by
  apply pcs_len_le
  refine Nat.lt_of_lt_of_le (Lib.lt_pow_nDigits n) ?_
  exact Nat.pow_le_pow_left (by decide) _
theorem Md.pcs {n : Nat} (h : Md n) : (pcs n).length ≤ 1000000 := Nat.le_trans (pcs_len_nDig n) h.out
theorem nDig_mul (a b : Nat) : Lib.nDigits (a * b) ≤ Lib.nDigits a + Lib.nDigits b := by
  refine nDig_le (by have := Lib.nDigits_pos a; omega) ?_
  rw [Nat.pow_add]
  exact Nat.mul_lt_mul'' (Lib.lt_pow_nDigits a) (Lib.lt_pow_nDigits b)
end Go.Proofs.YtgicckcahhlbjaaGreatDoor.P

namespace Go.Proofs.YtgicckcahhlbjaaGreatDoor.P
open Go.RowKit Go.Proofs.YtgicckcahhlbjaaGreatDoorW.PrintWords
abbrev Mz (v : Int) : Prop := Md v.natAbs
theorem Mz.neg {v : Int} (h : Mz v) : Mz (-v) := by unfold Mz; rw [Int.natAbs_neg]; exact h
theorem bsome {α β : Type} (a : α) (f : α → Option β) : (some a).bind f = f a := by rw [Option.bind_some]
theorem mul_sgd (x y : Int) : sgd (decide (x < 0) != decide (y < 0)) (x.natAbs * y.natAbs) = x * y := by
  unfold sgd
  by_cases hx : x < 0
  · obtain ⟨u, rfl⟩ : ∃ u : Nat, x = -(u : Int) := ⟨x.natAbs, by omega⟩
    rw [decide_eq_true hx, Int.natAbs_neg, Int.natAbs_natCast]
    by_cases hy : y < 0
    · obtain ⟨v, rfl⟩ : ∃ v : Nat, y = -(v : Int) := ⟨y.natAbs, by omega⟩
      rw [decide_eq_true hy, if_neg (by decide), Int.natAbs_neg, Int.natAbs_natCast, Int.neg_mul_neg, Int.natCast_mul]
    · obtain ⟨v, rfl⟩ : ∃ v : Nat, y = (v : Int) := ⟨y.toNat, by omega⟩
      rw [decide_eq_false hy, if_pos (by decide), Int.natAbs_natCast, Int.natCast_mul, Int.neg_mul]
  · obtain ⟨u, rfl⟩ : ∃ u : Nat, x = (u : Int) := ⟨x.toNat, by omega⟩
    rw [decide_eq_false hx, Int.natAbs_natCast]
    by_cases hy : y < 0
    · obtain ⟨v, rfl⟩ : ∃ v : Nat, y = -(v : Int) := ⟨y.natAbs, by omega⟩
      rw [decide_eq_true hy, if_pos (by decide), Int.natAbs_neg, Int.natAbs_natCast, Int.natCast_mul, Int.mul_neg]
    · obtain ⟨v, rfl⟩ : ∃ v : Nat, y = (v : Int) := ⟨y.toNat, by omega⟩
      rw [decide_eq_false hy, if_neg (by decide), Int.natAbs_natCast, Int.natCast_mul]
end Go.Proofs.YtgicckcahhlbjaaGreatDoor.P

namespace Go.Proofs.YtgicckcahhlbjaaGreatDoor.P
open Go.RowKit Go.Proofs.YtgicckcahhlbjaaGreatDoorW.PrintWords
end Go.Proofs.YtgicckcahhlbjaaGreatDoor.P

namespace Go.Proofs.YtgicckcahhlbjaaGreatDoor.P
open Go.RowKit Go.Proofs.YtgicckcahhlbjaaGreatDoorW.PrintWords
end Go.Proofs.YtgicckcahhlbjaaGreatDoor.P

namespace Go.Proofs.YtgicckcahhlbjaaGreatDoor.P
open Go.RowKit Go.Proofs.YtgicckcahhlbjaaGreatDoorW.PrintWords
theorem one_str : (⟨#[49]⟩ : ByteArray) = S 1 := S_of ((canb_iff _).1 (by decide))
theorem S_is0 (n : Nat) : ((S n).toList = ([48] : List UInt8)) ↔ n = 0 := by
  have e : ([48] : List UInt8) = (S 0).toList := by rw [toList_data, S_list, dec_small (by decide)]; rfl
  rw [e, S_eq_iff]
theorem S_is1 (n : Nat) : ((S n).toList = ([49] : List UInt8)) ↔ n = 1 := by
  have e : ([49] : List UInt8) = (S 1).toList := by rw [toList_data, S_list, dec_small (by decide)]; rfl
  rw [e, S_eq_iff]
theorem S_beq1 (n : Nat) : ((S n).toList == ([49] : List UInt8)) = decide (n = 1) := by
  rw [Bool.eq_iff_iff, beq_iff_eq, S_is1, decide_eq_true_iff]
end Go.Proofs.YtgicckcahhlbjaaGreatDoor.P

namespace Go.Proofs.YtgicckcahhlbjaaGreatDoor.P
open Go.RowKit Go.Proofs.YtgicckcahhlbjaaGreatDoorW.PrintWords
end Go.Proofs.YtgicckcahhlbjaaGreatDoor.P

namespace Go.Proofs.YtgicckcahhlbjaaGreatDoor.P
open Go.RowKit Go.Proofs.YtgicckcahhlbjaaGreatDoorW.PrintWords
end Go.Proofs.YtgicckcahhlbjaaGreatDoor.P

namespace Go.Proofs.YtgicckcahhlbjaaGreatDoor.P
open Go.RowKit Go.Proofs.YtgicckcahhlbjaaGreatDoorW.PrintWords
end Go.Proofs.YtgicckcahhlbjaaGreatDoor.P

namespace Go.Proofs.YtgicckcahhlbjaaGreatDoor.P
open Go.RowKit Go.Proofs.YtgicckcahhlbjaaGreatDoorW.PrintWords
end Go.Proofs.YtgicckcahhlbjaaGreatDoor.P

namespace Go.Proofs.YtgicckcahhlbjaaGreatDoor.P
open Go.RowKit Go.Proofs.YtgicckcahhlbjaaGreatDoorW.PrintWords
theorem Z_beq (v : Int) : ((Z v).toList == (Z v).toList) = true := by simp
theorem sgd_abs2 (b : Bool) (u : Nat) : (sgd b u).natAbs = u := by
  unfold sgd
  by_cases hb : b = true
  · rw [if_pos hb]; omega
  · rw [if_neg hb]; omega
structure Fz (v : Int) (n : Nat) : Prop where
  out : Lib.nDigits v.natAbs ≤ n
theorem Fz.mz {v : Int} {n : Nat} (h : Fz v n) (hn : n ≤ 1000000) : Mz v := ⟨Nat.le_trans h.out hn⟩
end Go.Proofs.YtgicckcahhlbjaaGreatDoor.P

namespace Go.Proofs.YtgicckcahhlbjaaGreatDoor.P
open Go.RowKit Go.Proofs.YtgicckcahhlbjaaGreatDoorW.PrintWords
theorem take_C (m z : List Nat) : (C (m ++ z)).take m.length = C m := by rw [C_take, List.take_left]
theorem r2trim_l0 : ∀ (n : Nat) (m z : List Nat), m.length = n → Ok m → Sm (m ++ z).length → Ev (fun k => schismaref02_trim.l0 k (C (m ++ z)) (n : Int)) (C (pcs (val m)))
  | 0, m, z, hl, _, _ => by
    obtain rfl := List.length_eq_zero_iff.1 hl
    refine Ev.step (f := fun _ => some (C (pcs (val [])))) (fun k => ?_) (Ev.now _)
    rw [schismaref02_trim.l0, if_neg (by omega), if_pos (by omega), if_pos (by omega), show val ([] : List Nat) = 0 from rfl, pcs_zero]
    rfl
  | n + 1, m, z, hl, h, hs => by
    obtain ⟨m, a, rfl, hm⟩ := concat_of_len hl
    have e0 : m ++ [a] ++ z = m ++ a :: z := by simp
    have hlen : (m ++ [a] ++ z).length = n + 1 + z.length := by rw [e0, List.length_append, List.length_cons, hm]; omega
    have hC : (C (m ++ [a] ++ z)).length = n + 1 + z.length := by rw [C_length, hlen]
    have s1 : Sm (n + 1) := hs.le (by rw [hlen]; omega)
    have e2 : rd (C (m ++ [a] ++ z)) (n : Int) = a := by rw [e0]; exact rd_at m z a n hm
    have e1 := wpred1 s1
    by_cases ha : a = 0
    · have ih := r2trim_l0 n m (a :: z) hm h.left (by rw [← e0]; exact hs)
      rw [val_snoc, ha, Nat.mul_zero, Nat.add_zero]
      rw [← e0, ha] at ih
      refine Ev.step (fun k => ?_) ih
      rw [ha] at e2 hC
      rw [schismaref02_trim.l0, e1, e2]
      clear e1 e2
      rw [if_pos (by omega), if_pos (by omega), if_pos (by omega), if_pos (by rfl)]
    · have h3 := pcs_snoc m a h ha
      have e3 : (C (m ++ [a] ++ z)).take (n + 1) = C (m ++ [a]) := by rw [← hl]; exact take_C (m ++ [a]) z
      refine Ev.step (f := fun _ => some (C (pcs (val (m ++ [a]))))) (fun k => ?_) (Ev.now _)
      rw [schismaref02_trim.l0, e1, e2, Int.toNat_natCast, e3, h3]
      clear e1 e2
      rw [if_pos (by omega), if_pos (by omega), if_pos (by omega), if_neg (by omega), if_pos (by omega), if_pos (by omega)]
theorem r2trim_f (m : List Nat) (h : Ok m) (hs : Sm m.length) : Ev (fun k => schismaref02_trim.f k (C m)) (C (pcs (val m))) := by
  have := r2trim_l0 m.length m [] rfl h (by rw [List.append_nil]; exact hs)
  rw [List.append_nil] at this
  unfold schismaref02_trim.f
  rw [C_length]
  exact this
theorem dstepI {n : Nat} {c : UInt8} (hc : 48 ≤ c.toNat ∧ c.toNat ≤ 57) (hn : n < 100000000000000000) : wrap64 (wrap64 (10 * (n : Int)) + ((c.toNat : Int) - 48) % 256) = ((10 * n + (c.toNat - 48) : Nat) : Int) := by
  have h1 : ((c.toNat : Int) - 48) % 256 = ((c.toNat - 48 : Nat) : Int) := by omega
  rw [h1, w64 (n := 10 * (n : Int)) (by omega) (by omega), w64 (by omega) (by omega)]
  omega
theorem r2split_l1 (acc : List Nat) (hacc : acc.length < 17592186044416) (A : List UInt8) (l : List UInt8) (hl : Sm l.length) : ∀ (Q P : List UInt8) (r : List Int), l = A ++ P ++ Q → IsD (P ++ Q) → (P ++ Q).length ≤ 9 →
    Ev (fun k => schismaref02_split.l0 k (str A) (C (acc ++ [dv (P ++ Q)]))) r → Ev (fun k => schismaref02_split.l1 k (str l) (C acc) (A.length : Int) (dv P : Int) ((A.length + P.length : Nat) : Int)) r
  | [], P, r, hd, _, _, h => by
    rw [List.append_nil] at h hd
    have hsz : (str l).size = A.length + P.length := by rw [str_size, hd, List.length_append]
    have hcut : (str l).extract 0 (A.length : Int).toNat = str A := by
      have h1 := extract_list (str l) 0 A.length
      rw [str_list, hd, List.take_left' (by rfl), List.drop_zero] at h1
      apply ByteArray.ext
      apply Array.toList_inj.1
      rw [Int.toNat_natCast, str_list, hd]
      exact h1
    have hC : (C acc).length = acc.length := C_length _
    have e2 : C acc ++ [(dv P : Int)] = C (acc ++ [dv P]) := by rw [C_append]; rfl
    refine Ev.step (fun k => ?_) h
    rw [schismaref02_split.l1, if_neg (by omega), if_pos (by omega), if_pos (by omega), if_pos (by omega), hcut, e2]
  | c :: Q, P, r, hd, hD, hn, h => by
    have hd1 : (str l).data.toList = (A ++ P) ++ c :: Q := by rw [str_list, hd]
    have hsz := size_mid (str l) (A ++ P) Q c hd1
    have hAP : (A ++ P).length = A.length + P.length := List.length_append
    have e0 : P ++ c :: Q = (P ++ [c]) ++ Q := by simp
    have ih := r2split_l1 acc hacc A l hl Q (P ++ [c]) r (by rw [hd]; simp) (by rw [← e0]; exact hD) (by rw [← e0]; exact hn) (by rw [← e0]; exact h)
    rw [dv_snoc, List.length_append, List.length_singleton, ← Nat.add_assoc] at ih
    have hP : IsD P := hD.left
    have hb := dv_lt hP
    have hpow : 10 ^ P.length ≤ 10 ^ 9 := Nat.pow_le_pow_right (by decide) (by rw [List.length_append] at hn; omega)
    have h9 : (10 : Nat) ^ 9 = 1000000000 := by decide
    have hl2 : l.length = A.length + P.length + (Q.length + 1) := by rw [hd]; simp; omega
    have s1 : Sm (A.length + P.length) := hl.le (by omega)
    have e1 := bt_mid (str l) (A ++ P) Q c hd1
    rw [hAP] at e1 hsz
    have e2 := dstepI (hD c (by simp)) (show dv P < 100000000000000000 by omega)
    have e3 := wsucc s1
    refine Ev.step (fun k => ?_) ih
    rw [schismaref02_split.l1, e1, e2, e3]
    clear e1 e2 e3
    rw [if_pos (by omega), if_pos (by omega)]
theorem r2split_nil (l : List UInt8) (acc : List Nat) (h0 : l.length = 0) (hacc : Ok acc) (hs : acc.length + l.length ≤ 2000000) :
    Ev (fun k => schismaref02_split.l0 k (str l) (C acc)) (C (pcs (val acc + 1000000000 ^ acc.length * dv l))) := by
  obtain rfl := List.length_eq_zero_iff.1 h0
  have ht := r2trim_f acc hacc ⟨by omega⟩
  refine Ev.step (f := fun k => (schismaref02_trim.f k (C acc)).bind fun t497 => (some t497)) (fun k => ?_) (Ev.eq (Ev.bind ht (Ev.now _)) (by rw [dv_nil, Nat.mul_zero, Nat.add_zero]))
  rw [schismaref02_split.l0, str_size, if_neg (by rw [List.length_nil]; omega)]
theorem r2split_l0 : ∀ (m : Nat) (l : List UInt8) (acc : List Nat), l.length ≤ m → IsD l → Ok acc → acc.length + l.length ≤ 2000000 →
    Ev (fun k => schismaref02_split.l0 k (str l) (C acc)) (C (pcs (val acc + 1000000000 ^ acc.length * dv l))) := by
  intro m
  induction m with
  | zero =>
    intro l acc hm hD hacc hs
    exact r2split_nil l acc (by omega) hacc hs
  | succ m ih =>
    intro l acc hm hD hacc hs
    by_cases h0 : l.length = 0
    · exact r2split_nil l acc h0 hacc hs
    · skip
      obtain ⟨st, hst⟩ : ∃ st, st = l.length - 9 := ⟨_, rfl⟩
      obtain ⟨h1, h2⟩ := chunk (l := l) (e := l.length) (Nat.le_refl _) hst
      rw [List.take_length] at h1 h2
      have hDs : IsD (l.drop st) := hD.drop st
      have hdl := dv_lt hDs
      have hpow : 10 ^ (l.drop st).length ≤ 10 ^ 9 := Nat.pow_le_pow_right (by decide) (by omega)
      have h9 : (10 : Nat) ^ 9 = 1000000000 := by decide
      have hA : (l.take st).length = st := by rw [List.length_take]; omega
      have ih := ih (l.take st) (acc ++ [dv (l.drop st)]) (by omega) (hD.take st) (hacc.append (Ok.cons (by omega) Ok.nil)) (by rw [List.length_append, List.length_singleton]; omega)
      have hv : val (acc ++ [dv (l.drop st)]) + 1000000000 ^ (acc ++ [dv (l.drop st)]).length * dv (l.take st) = val acc + 1000000000 ^ acc.length * dv l := by
        rw [val_snoc, h1, List.length_append, List.length_singleton, Nat.pow_succ, Nat.mul_add, Nat.mul_assoc, Nat.add_assoc]
      rw [hv] at ih
      have key := r2split_l1 acc (by omega) (l.take st) l ⟨by omega⟩ (l.drop st) [] _ (by rw [List.append_nil, List.take_append_drop]) hDs (by rw [List.nil_append]; omega) ih
      rw [hA, List.length_nil, Nat.add_zero] at key
      have j1 : ∀ k, schismaref02_split.j1 (k + 1) (str l) (C acc) (st : Int) = schismaref02_split.l1 k (str l) (C acc) (st : Int) (dv [] : Int) (st : Int) := fun k => by rw [schismaref02_split.j1]; rfl
      have key2 := Ev.step (g := fun k => schismaref02_split.j1 k (str l) (C acc) (st : Int)) j1 key
      refine Ev.step (fun k => ?_) key2
      have hsz : (str l).size = l.length := str_size l
      by_cases h10 : l.length > 9
      · have e1 : wrap64 (((str l).size : Int) - 9) = (st : Int) := by rw [hsz, w64 (by omega) (by omega)]; omega
        rw [schismaref02_split.l0, e1]
        clear e1
        rw [if_pos (by omega), if_pos (by omega)]
      · have hst0 : st = 0 := by omega
        rw [schismaref02_split.l0, if_pos (by omega), if_neg (by omega), hst0]
        rfl
theorem r2split_f (n : Nat) (h : Md n) : Ev (fun k => schismaref02_split.f k (S n)) (C (pcs n)) := by
  have hM := h.out
  have key := r2split_l0 (Lib.decDigits n).length (Lib.decDigits n) [] (Nat.le_refl _) (isD_dec n) Ok.nil (by rw [List.length_nil, Lib.decDigits_length]; omega)
  rw [dv_dec, List.length_nil, Nat.pow_zero, Nat.one_mul, show val ([] : List Nat) = 0 from rfl, Nat.zero_add] at key
  exact key
end Go.Proofs.YtgicckcahhlbjaaGreatDoor.P

namespace Go.Proofs.YtgicckcahhlbjaaGreatDoor.P
open Go.RowKit Go.Proofs.YtgicckcahhlbjaaGreatDoorW.PrintWords
theorem dgs_pad : ∀ (j a : Nat), a < 10 ^ (j + 1) → (dgs (j + 1) a).reverse = List.replicate (j + 1 - Lib.nDigits a) 48 ++ Lib.decDigits a
  | 0, a, h => by
    have h1 : a < 10 := by simpa using h
    rw [dgs, dgs, Lib.nDigits_small h1, dec_small h1, Nat.mod_eq_of_lt h1]
    rfl
  | j + 1, a, h => by
    have h1 : a / 10 < 10 ^ (j + 1) := by rw [Nat.pow_succ] at h; omega
    rw [dgs, List.reverse_cons, dgs_pad j (a / 10) h1]
    by_cases h10 : a < 10
    · have hz : a / 10 = 0 := by omega
      have e48 : UInt8.ofNat (48 + 0) = 48 := rfl
      rw [hz, Lib.nDigits_small (u := 0) (by decide), dec_small (n := 0) (by decide), Lib.nDigits_small h10, dec_small h10, Nat.mod_eq_of_lt h10, e48]
      rw [show j + 1 + 1 - 1 = j + 1 by omega, show j + 1 - 1 = j by omega, List.replicate_succ']
    · rw [Lib.nDigits_big h10, dec_big (n := a) (by omega), ← List.append_assoc]
      congr 3
      omega
theorem dec_upper {a m : Nat} (ha : a < 1000000000) (hm : m ≠ 0) : Lib.decDigits (a + 1000000000 * m) = Lib.decDigits m ++ (List.replicate (9 - Lib.nDigits a) 48 ++ Lib.decDigits a) := by
  have h := dec_val_cons ha hm
  have h2 := congrArg List.reverse h
  rw [List.reverse_append, dgs_pad 8 a ha] at h2
  unfold rdig at h2
  rw [List.reverse_reverse, List.reverse_reverse] at h2
  exact h2
theorem zero_cons (t : List UInt8) : (⟨#[48]⟩ : ByteArray) ++ str t = str (48 :: t) := by
  apply ByteArray.ext
  apply Array.toList_inj.1
  rw [str_list]
  simp [str]
theorem str_app (a b : List UInt8) : str a ++ str b = str (a ++ b) := by
  apply ByteArray.ext
  apply Array.toList_inj.1
  simp [str]
theorem r2join_l1 (p : List Int) (x3 : List UInt8) (i : Int) (hi : wrap64 (i - 1) = i - 1) (hx : x3.length ≤ 20000000) {r : ByteArray} : ∀ (j : Nat) (t : List UInt8), t.length + j = 9 →
    Ev (fun k => schismaref02_join.l0 k p (str (x3 ++ (List.replicate j 48 ++ t))) (i - 1)) r → Ev (fun k => schismaref02_join.l1 k p (str x3) i (str t)) r
  | 0, t, hj, h => by
    have h1 : (str t).size = t.length := str_size t
    have h2 : (str x3).size = x3.length := str_size x3
    rw [List.replicate_zero, List.nil_append] at h
    refine Ev.step (fun k => ?_) h
    rw [schismaref02_join.l1, hi, str_app]
    clear hi
    rw [if_neg (by omega), if_pos (by omega)]
  | j + 1, t, hj, h => by
    have h1 : (str t).size = t.length := str_size t
    have ih := r2join_l1 p x3 i hi hx j (48 :: t) (by rw [List.length_cons]; omega) (by
      rw [List.replicate_succ', List.append_assoc, List.singleton_append] at h
      exact h)
    refine Ev.step (fun k => ?_) ih
    rw [schismaref02_join.l1, zero_cons]
    clear hi
    rw [if_pos (by omega), if_pos (by omega)]
theorem r2join_l0 (p : List Nat) (hp : Ok p) (hs : p.length ≤ 2000000) : ∀ (i : Nat) (L R : List Nat) (x : Int), p = L ++ R → L.length = i → x = (i : Int) - 1 → val R ≠ 0 → Lib.nDigits (val R) ≤ 9 * R.length →
    Ev (fun k => schismaref02_join.l0 k (C p) (S (val R)) x) (S (val p))
  | 0, L, R, x, h, hL, hx, _, _ => by
    obtain rfl := List.length_eq_zero_iff.1 hL
    rw [List.nil_append] at h
    rw [h]
    refine Ev.step (f := fun _ => some (S (val R))) (fun k => ?_) (Ev.now _)
    rw [schismaref02_join.l0, if_neg (by omega)]
  | i + 1, L, R, x, h, hL, hx, h0, hd => by
    obtain ⟨L, a, rfl, hL1⟩ := concat_of_len hL
    obtain rfl : x = (i : Int) := by omega
    have e0 : L ++ [a] ++ R = L ++ a :: R := by simp
    rw [e0] at h
    have ha : a < 1000000000 := by rw [h] at hp; exact hp.right.head
    have hpl : p.length = i + (R.length + 1) := by rw [h, List.length_append, List.length_cons, hL1]
    have hC : (C p).length = p.length := C_length _
    have e1 : rd (C p) (i : Int) = a := by rw [h]; exact rd_at L R a i hL1
    have hw : wrap64 ((i : Int) - 1) = (i : Int) - 1 := w64 (by omega) (by omega)
    have hna : Lib.nDigits a ≤ 9 := nDig_le (by decide) ha
    have hup := dec_upper ha h0
    have hv : val (a :: R) = a + 1000000000 * val R := rfl
    have hlen : Lib.nDigits (val (a :: R)) ≤ 9 * (a :: R).length := by
      rw [← Lib.decDigits_length, hv, hup, List.length_append, List.length_append, List.length_replicate, Lib.decDigits_length, Lib.decDigits_length, List.length_cons]
      clear hw
      omega
    have ih := r2join_l0 p hp hs i L (a :: R) ((i : Int) - 1) h hL1 rfl (by rw [hv]; clear hw; omega) hlen
    have key := r2join_l1 (C p) (Lib.decDigits (val R)) (i : Int) hw (by rw [Lib.decDigits_length]; clear hw; omega) (r := S (val p)) (9 - Lib.nDigits a) (Lib.decDigits a) (by rw [Lib.decDigits_length]; clear hw; omega) (by
      rw [← hup, ← hv]
      exact ih)
    have hit : strconv_Itoa.f (a : Int) = some (str (Lib.decDigits a)) := by
      rw [itoa_f _ (by clear hw; omega) (by clear hw; omega), Z_nat]
      rfl
    refine Ev.step (fun k => ?_) key
    rw [schismaref02_join.l0, e1, hit, bsome]
    clear e1 hw key
    rw [if_pos (by omega), if_pos (by omega), if_pos (by omega)]
    rfl
theorem r2join_f (n : Nat) (hl : (pcs n).length ≤ 2000000) : Ev (fun k => schismaref02_join.f k (C (pcs n))) (S n) := by
  have hC : (C (pcs n)).length = (pcs n).length := C_length _
  unfold schismaref02_join.f
  by_cases h0 : n = 0
  · subst h0
    have hz : (pcs 0).length = 0 := by rw [pcs_zero]; rfl
    refine Ev.pos (by omega) ?_
    rw [zero_str]
    exact Ev.now _
  · have hne : (pcs n).length ≠ 0 := fun e => h0 (pcs_nil_iff.1 (List.length_eq_zero_iff.1 e))
    obtain ⟨m, a, e, hm⟩ := concat_of_len (l := pcs n) (n := (pcs n).length - 1) (by omega)
    have ha0 := pcs_last e
    have ha : a < 1000000000 := ok_pcs n a (by rw [e]; simp)
    have hv : val [a] = a := by simp [val]
    have key := r2join_l0 (pcs n) (ok_pcs n) hl m.length m [a] ((m.length : Int) - 1) e rfl rfl (by rw [hv]; exact ha0) (by rw [hv]; exact (show Lib.nDigits a ≤ 9 from nDig_le (by decide) ha))
    rw [hv, val_pcs] at key
    have e1 : wrap64 (((C (pcs n)).length : Int) - 1) = (m.length : Int) := by rw [hC, w64 (by omega) (by omega)]; omega
    have e2 : wrap64 (((C (pcs n)).length : Int) - 2) = (m.length : Int) - 1 := by rw [hC, w64 (by omega) (by omega)]; omega
    have e3 : rd (C (pcs n)) (m.length : Int) = a := by rw [e]; exact rd_at m [] a m.length rfl
    have hit : strconv_Itoa.f (a : Int) = some (S a) := by
      rw [itoa_f _ (by clear e1 e2; omega) (by clear e1 e2; omega), Z_nat]
    rw [e1, e2, e3, hit]
    clear e1 e2 e3
    exact Ev.neg (by omega) (Ev.pos (by omega) (Ev.pos (by omega) (Ev.bind (Ev.now (S a)) key)))
theorem sgd_zero2 (n : Bool) : sgd n 0 = ((0 : Nat) : Int) := by
  unfold sgd
  rcases n with _ | _
  · rfl
  · rfl
theorem r2signed_f (n : Bool) (m : List Nat) (h : Ok m) (hs : m.length ≤ 2000000) : Ev (fun k => schismaref02_signed.f k n (C m)) (Z (sgd n (val m))) := by
  have ht := r2trim_f m h ⟨by omega⟩
  have hpl : (pcs (val m)).length ≤ 2000000 := Nat.le_trans (pcs_len_le (val_lt h)) hs
  have hj := r2join_f (val m) hpl
  have hC : (C (pcs (val m))).length = (pcs (val m)).length := C_length _
  have plain : Ev (fun k => schismaref02_signed.j0 k (C (pcs (val m))) false) (S (val m)) := by
    refine Ev.step (f := fun k => (schismaref02_join.f k (C (pcs (val m)))).bind fun t512 => (some t512)) (fun k => ?_) (Ev.bind hj (Ev.now _))
    rw [schismaref02_signed.j0, if_neg (by decide)]
  unfold schismaref02_signed.f
  refine Ev.bind ht ?_
  by_cases hn : n = true
  · refine Ev.pos hn ?_
    by_cases h0 : val m = 0
    · have hz : (pcs (val m)).length = 0 := by rw [h0, pcs_zero]; rfl
      rw [decide_eq_false (by omega)]
      refine Ev.eq plain ?_
      rw [h0, sgd_zero2, Z_nat]
    · have hz : (pcs (val m)).length ≠ 0 := fun e => h0 (pcs_nil_iff.1 (List.length_eq_zero_iff.1 e))
      rw [decide_eq_true (by omega)]
      have hsz := S_size (val m)
      have hnd : Lib.nDigits (val m) ≤ 18000000 := by
        have h1 : val m < 1000000000 ^ m.length := val_lt h
        have h2 : (1000000000 : Nat) ^ m.length = 10 ^ (9 * m.length) := by rw [Nat.pow_mul]
        rw [h2] at h1
        rcases Nat.eq_zero_or_pos m.length with h3 | h3
        · rw [h3] at h1; exact absurd (by simpa using h1) h0
        · exact Nat.le_trans (nDig_le (by omega) h1) (by omega)
      refine Ev.step (f := fun k => (schismaref02_join.f k (C (pcs (val m)))).bind fun t511 => (if 1 + t511.size ≤ 9223372036854775807 then (some ((⟨#[45]⟩ : ByteArray) ++ t511)) else (none))) (fun k => ?_) (Ev.bind hj (Ev.pos (by rw [hsz]; omega) (Ev.eq (Ev.now _) ?_)))
      · rw [schismaref02_signed.j0, if_pos rfl]
      · unfold sgd
        rw [if_pos hn, Z_neg _ (by omega)]
        exact minus_str _
  · refine Ev.neg hn (Ev.eq plain ?_)
    unfold sgd
    rw [if_neg hn, Z_nat]
end Go.Proofs.YtgicckcahhlbjaaGreatDoor.P

namespace Go.Proofs.YtgicckcahhlbjaaGreatDoor.P
open Go.RowKit Go.Proofs.YtgicckcahhlbjaaGreatDoorW.PrintWords
theorem mrowI {a w b c : Nat} (ha : a < 1000000000) (hw : w < 1000000000) (hb : b < 1000000000) (hc : c < 1000000000) :
    wrap64 (wrap64 ((w : Int) + (c : Int)) + wrap64 ((a : Int) * (b : Int))) = ((c + (w + a * b) : Nat) : Int) ∧ wrap64 (((c + (w + a * b)) / 1000000000 : Nat) : Int) = (((c + (w + a * b)) / 1000000000 : Nat) : Int) := by
  have h : a * b ≤ 999999999 * 999999999 := Nat.mul_le_mul (by omega) (by omega)
  have e : (a : Int) * (b : Int) = ((a * b : Nat) : Int) := (Int.natCast_mul a b).symm
  rw [e]
  generalize a * b = p at h
  refine ⟨?_, w64 (by omega) (by omega)⟩
  rw [w64 (n := (w : Int) + c) (by omega) (by omega), w64 (n := (p : Int)) (by omega) (by omega), w64 (by omega) (by omega)]
  omega
theorem r2t_in (P1 P2 Q1 Q2 L R : List Nat) (w b i a c : Nat) (hP : P1.length = i) (hL : L.length = i + Q1.length) (ha : a < 1000000000) (hw : w < 1000000000) (hb : b < 1000000000) (hc : c < 1000000000) (hs : Sm (i + Q1.length)) (hs1 : Sm Q1.length) {r : List Int}
    (h : Ev (fun k => schismaref02_times.l1 k (C (P1 ++ a :: P2)) (C (Q1 ++ b :: Q2)) (C (L ++ ((c + (w + a * b)) % 1000000000) :: R)) (i : Int) (((c + (w + a * b)) / 1000000000 : Nat) : Int) ((Q1.length + 1 : Nat) : Int)) r) :
    Ev (fun k => schismaref02_times.l1 k (C (P1 ++ a :: P2)) (C (Q1 ++ b :: Q2)) (C (L ++ w :: R)) (i : Int) (c : Int) (Q1.length : Int)) r := by
  have hl1 : (C (Q1 ++ b :: Q2)).length = Q1.length + (Q2.length + 1) := by rw [C_length]; simp
  have hl2 : (C (P1 ++ a :: P2)).length = i + (P2.length + 1) := by rw [C_length]; simp [hP]
  have hl0 : (C (L ++ w :: R)).length = i + Q1.length + (R.length + 1) := by rw [C_length]; simp [hL]
  have e7 := rd_at Q1 Q2 b Q1.length rfl
  have e8 := rd_at P1 P2 a i hP
  have e2 := rd_at L R w (i + Q1.length) hL
  have e6 := set_at L R w ((c + (w + a * b)) % 1000000000) _ hL
  obtain ⟨e3, e4⟩ := mrowI ha hw hb hc
  have e1 := wadd hs
  have e5 := wsucc hs1
  have j : ∀ k, schismaref02_times.j2 (k + 1) (C (P1 ++ a :: P2)) (C (Q1 ++ b :: Q2)) (C (L ++ w :: R)) (i : Int) (c : Int) (Q1.length : Int) true = schismaref02_times.l1 k (C (P1 ++ a :: P2)) (C (Q1 ++ b :: Q2)) (C (L ++ ((c + (w + a * b)) % 1000000000) :: R)) (i : Int) (((c + (w + a * b)) / 1000000000 : Nat) : Int) ((Q1.length + 1 : Nat) : Int) := fun k => by
    rw [schismaref02_times.j2, e1, e2, e7, e8, e3, tmod9, tdiv9, e4, e5, e6]
    clear e1 e2 e3 e4 e5 e6 e7 e8 ha hw hb hc hs hs1 h
    rw [if_pos rfl, if_pos (by omega), if_pos (by omega), if_pos (by omega), if_pos (by omega), if_pos (by omega), if_pos (by omega)]
  have key := Ev.step (g := fun k => schismaref02_times.j2 k (C (P1 ++ a :: P2)) (C (Q1 ++ b :: Q2)) (C (L ++ w :: R)) (i : Int) (c : Int) (Q1.length : Int) true) j h
  refine Ev.step (fun k => ?_) key
  rw [schismaref02_times.l1]
  clear e1 e2 e3 e4 e5 e6 e7 e8 j
  rw [if_pos (by omega)]
theorem r2t_out (P : List Int) (Q L R : List Nat) (i c : Nat) (hL : L.length = i + Q.length) (hc : c < 1000000000) (hs : Sm (i + Q.length)) (hs1 : Sm i) (hsq : Sm Q.length) {r : List Int}
    (h : Ev (fun k => schismaref02_times.l0 k P (C Q) (C (L ++ c :: R)) ((i + 1 : Nat) : Int)) r) :
    Ev (fun k => schismaref02_times.l1 k P (C Q) (C (L ++ 0 :: R)) (i : Int) (c : Int) (Q.length : Int)) r := by
  have hl1 : (C Q).length = Q.length := C_length _
  have stop : ∀ (x : Int) (list : List Int) (n : Nat), Q.length ≤ n → x = 0 → Ev (fun k => schismaref02_times.l0 k P (C Q) list ((i + 1 : Nat) : Int)) r → Ev (fun k => schismaref02_times.l1 k P (C Q) list (i : Int) x (n : Int)) r := fun x list n hn hx h2 => by
    have e5 := wsucc hs1
    have j : ∀ k, schismaref02_times.j2 (k + 1) P (C Q) list (i : Int) x (n : Int) false = schismaref02_times.l0 k P (C Q) list ((i + 1 : Nat) : Int) := fun k => by
      rw [schismaref02_times.j2, if_neg (by decide), e5]
    have key := Ev.step (g := fun k => schismaref02_times.j2 k P (C Q) list (i : Int) x (n : Int) false) j h2
    refine Ev.step (fun k => ?_) key
    rw [schismaref02_times.l1]
    clear e5 j key
    rw [if_neg (by omega), decide_eq_false (by omega)]
  by_cases h0 : c = 0
  · subst h0
    exact stop 0 _ Q.length (Nat.le_refl _) rfl h
  · have hl0 : (C (L ++ 0 :: R)).length = i + Q.length + (R.length + 1) := by rw [C_length]; simp [hL]
    have e2 := rd_at L R 0 (i + Q.length) hL
    have e6 := set_at L R 0 c _ hL
    have e3 : wrap64 (((0 : Nat) : Int) + (c : Int)) = (c : Int) := by rw [w64 (by omega) (by omega)]; omega
    have e4 : Int.tmod (c : Int) 1000000000 = (c : Int) := by rw [tmod9, Nat.mod_eq_of_lt hc]
    have e9 : wrap64 (Int.tdiv (c : Int) 1000000000) = 0 := by rw [tdiv9, Nat.div_eq_of_lt hc]; exact w64 (by decide) (by decide)
    have key1 := stop 0 (C (L ++ c :: R)) (Q.length + 1) (Nat.le_succ _) rfl h
    have e1 := wadd hs
    have e5 := wsucc hsq
    have j : ∀ k, schismaref02_times.j2 (k + 1) P (C Q) (C (L ++ 0 :: R)) (i : Int) (c : Int) (Q.length : Int) true = schismaref02_times.l1 k P (C Q) (C (L ++ c :: R)) (i : Int) 0 ((Q.length + 1 : Nat) : Int) := fun k => by
      rw [schismaref02_times.j2, e1, e2, e3, e4, e9, e5, e6]
      clear e1 e2 e3 e4 e5 e6 e9 key1 stop h hs hs1 hsq
      rw [if_pos rfl, if_pos (by omega), if_pos (by omega), if_neg (by omega)]
    have key := Ev.step (g := fun k => schismaref02_times.j2 k P (C Q) (C (L ++ 0 :: R)) (i : Int) (c : Int) (Q.length : Int) true) j key1
    refine Ev.step (fun k => ?_) key
    rw [schismaref02_times.l1]
    clear e1 e2 e3 e4 e5 e6 e9 key1 key stop j
    rw [if_neg (by omega), decide_eq_true (by omega)]
theorem r2t_l1 (P1 P2 : List Nat) (a : Nat) (ha : a < 1000000000) {r : List Int} (i : Nat) (hP : P1.length = i) : ∀ (Q2 Q1 L W R : List Nat) (c : Nat), W.length = Q2.length → L.length = i + Q1.length → Ok W → Ok Q2 → c < 1000000000 → Sm (i + (Q1 ++ Q2).length) →
    Ev (fun k => schismaref02_times.l0 k (C (P1 ++ a :: P2)) (C (Q1 ++ Q2)) (C (L ++ mrow a c W Q2 ++ R)) ((i + 1 : Nat) : Int)) r →
    Ev (fun k => schismaref02_times.l1 k (C (P1 ++ a :: P2)) (C (Q1 ++ Q2)) (C (L ++ W ++ 0 :: R)) (i : Int) (c : Int) (Q1.length : Int)) r
  | [], Q1, L, [], R, c, _, hL, _, _, hc, hs, hr => by
    rw [List.append_nil] at hs hr ⊢
    rw [List.append_nil]
    exact r2t_out _ Q1 L R i c hL hc hs (hs.le (by omega)) (hs.le (by omega)) (by simpa [mrow] using hr)
  | [], _, _, _ :: _, _, _, h, _, _, _, _, _, _ => by simp at h
  | _ :: _, _, _, [], _, _, h, _, _, _, _, _, _ => by simp at h
  | b :: Q2, Q1, L, w :: W, R, c, hWQ, hL, hW, hQ, hc, hs, hr => by
    have e0 : L ++ w :: W ++ 0 :: R = L ++ w :: (W ++ 0 :: R) := by simp
    have hs1 : Sm (i + Q1.length) := hs.le (by simp)
    have ih := r2t_l1 P1 P2 a ha i hP Q2 (Q1 ++ [b]) (L ++ [(c + (w + a * b)) % 1000000000]) W R ((c + (w + a * b)) / 1000000000) (by simpa using hWQ) (by simp [hL]; omega) hW.tail hQ.tail (mrow_arith ha hW.head hQ.head hc).2.2 (hs.le (by simp)) (by simpa [mrow] using hr)
    rw [e0]
    exact r2t_in P1 P2 Q1 Q2 L (W ++ 0 :: R) w b i a c hP hL ha hW.head hQ.head hc hs1 (hs1.le (by omega)) (by simpa using ih)
theorem r2t_l0 (Q : List Nat) (hQ : Ok Q) (hQl : Q.length ≤ 1000000) : ∀ (P2 P1 M : List Nat), Ok P2 → Ok M → M.length = P1.length + Q.length → val M = val P1 * val Q → (P1 ++ P2).length ≤ 1000000 →
    Ev (fun k => schismaref02_times.l0 k (C (P1 ++ P2)) (C Q) (C (M ++ List.replicate (P2.length + 1) 0)) (P1.length : Int)) (C (pcs (val (P1 ++ P2) * val Q)))
  | [], P1, M, _, hM, hl, hv, hs => by
    rw [List.append_nil] at hs ⊢
    have hj := r2trim_f (M ++ List.replicate (([] : List Nat).length + 1) 0) (hM.append (Ok.zeros _)) ⟨by simp; omega⟩
    rw [val_append, val_zeros, Nat.mul_zero, Nat.add_zero, hv] at hj
    have hC : (C P1).length = P1.length := C_length _
    refine Ev.step (f := fun k => (schismaref02_trim.f k (C (M ++ List.replicate (([] : List Nat).length + 1) 0))).bind fun t516 => (some t516)) (fun k => ?_) (Ev.bind hj (Ev.now _))
    rw [schismaref02_times.l0, if_neg (by omega)]
  | a :: P2, P1, M, hP, hM, hl, hv, hs => by
    have ha := hP.head
    have hs2 : P1.length + (P2.length + 1) ≤ 1000000 := by simpa using hs
    obtain ⟨L, W, rfl, hL⟩ : ∃ L W, M = L ++ W ∧ L.length = P1.length := ⟨M.take P1.length, M.drop P1.length, (List.take_append_drop _ _).symm, by rw [List.length_take]; omega⟩
    have hW : W.length = Q.length := by simp [hL] at hl; omega
    obtain ⟨m1, m2, m3⟩ := mrow_spec a ha Q W 0 hW hM.right hQ (by omega)
    have ih := r2t_l0 Q hQ hQl P2 (P1 ++ [a]) (L ++ mrow a 0 W Q) hP.tail (hM.left.append m2) (by simp [m1, hL, hW]; omega) (by
      rw [val_append, hL] at hv
      rw [val_append, m3, val_snoc, Nat.add_zero, Nat.mul_add, ← Nat.add_assoc, hL, hv, Nat.add_mul, Nat.mul_assoc]) (by simpa using hs)
    have hC : (C (P1 ++ a :: P2)).length = P1.length + (P2.length + 1) := by rw [C_length]; simp
    have key := r2t_l1 P1 P2 a ha P1.length rfl Q [] L W (List.replicate (P2.length + 1) 0) 0 hW (by simp [hL]) hM.right hQ (by omega) ⟨by rw [List.nil_append]; omega⟩ (by simpa using ih)
    refine Ev.step (f := fun k => schismaref02_times.l1 k (C (P1 ++ a :: P2)) (C Q) (C (L ++ W ++ List.replicate ((a :: P2).length + 1) 0)) (P1.length : Int) 0 0) (fun k => ?_) ?_
    · rw [schismaref02_times.l0, if_pos (by omega)]
    · simpa [List.replicate_succ] using key
theorem r2times_f (a b : Nat) (ha : (pcs a).length ≤ 1000000) (hb : (pcs b).length ≤ 1000000) : Ev (fun k => schismaref02_times.f k (C (pcs a)) (C (pcs b))) (C (pcs (a * b))) := by
  have key := r2t_l0 (pcs b) (ok_pcs b) hb (pcs a) [] (List.replicate (pcs b).length 0) (ok_pcs a) (Ok.zeros _) (by simp) (by simp [val, val_zeros]) (by simpa using ha)
  rw [List.nil_append, val_pcs, val_pcs] at key
  have s1 : Sm ((pcs a).length + (pcs b).length) := ⟨by omega⟩
  have e2 : List.replicate ((pcs a).length + (pcs b).length + 1) (0 : Int) = C (List.replicate (pcs b).length 0 ++ List.replicate ((pcs a).length + 1) 0) := by
    rw [List.replicate_append_replicate, ← C_zeros, Nat.add_comm (pcs a).length, Nat.add_assoc]
  have e1 := wadd s1
  have e3 := wsucc s1
  unfold schismaref02_times.f
  rw [C_length, C_length, e1, e3, Int.toNat_natCast, e2]
  clear e1 e2 e3
  exact Ev.pos (by omega) (Ev.pos (by omega) key)
theorem r2quick_f (v : Int) : Ev (fun k => schismaref02_quick.f k (Z v)) (if Lib.nDigits v.natAbs ≤ 18 then (v, true) else (0, false)) := by
  unfold schismaref02_quick.f
  rw [digits_Z]
  refine Ev.bind (Ev.now (S v.natAbs)) ?_
  have hsz := S_size v.natAbs
  by_cases h : Lib.nDigits v.natAbs ≤ 18
  · have h1 := nDig_lt h
    have h2 : (10 : Nat) ^ 18 = 1000000000000000000 := by decide
    rw [if_pos h]
    have hs : small64 v = (v, true) := by unfold small64; rw [if_pos (by omega)]
    have key := r2small_f v (by omega)
    rw [hs] at key
    exact Ev.neg (by omega) (Ev.bind key (Ev.now _))
  · rw [if_neg h]
    exact Ev.pos (by omega) (Ev.now _)
theorem side_ne (x y : Int) : ((if x < 0 then -1 else 1 : Int) != (if y < 0 then -1 else 1 : Int)) = (decide (x < 0) != decide (y < 0)) := by
  by_cases hx : x < 0 <;> by_cases hy : y < 0 <;> simp [hx, hy]
theorem r2mul_f (x y : Int) (hx : Mz x) (hy : Mz y) : Ev (fun k => schismaref02_Mul.f k (Z x) (Z y)) (Z (x * y)) := by
  have dx := digits_Z x
  have dy := digits_Z y
  have sx := side_f x
  have sy := side_f y
  have q1 := r2quick_f x
  have q2 := r2quick_f y
  have p1 := Lib.nDigits_pos x.natAbs
  have p2 := Lib.nDigits_pos y.natAbs
  have mx : Md x.natAbs := hx
  have my : Md y.natAbs := hy
  have hMx := mx.out
  have hMy := my.out
  have e1 : wrap64 (((S x.natAbs).size : Int) + ((S y.natAbs).size : Int)) = ((Lib.nDigits x.natAbs + Lib.nDigits y.natAbs : Nat) : Int) := by rw [S_size, S_size, wadd ⟨by omega⟩]
  unfold schismaref02_Mul.f
  rw [dx, dy]
  refine Ev.bind (Ev.now (S x.natAbs)) (Ev.bind (Ev.now (S y.natAbs)) ?_)
  rw [e1]
  clear e1
  by_cases h : Lib.nDigits x.natAbs + Lib.nDigits y.natAbs ≤ 18
  · rw [if_pos (by omega)] at q1 q2
    refine Ev.pos (by omega) (Ev.bind q1 (Ev.bind q2 ?_))
    have hp : (x * y).natAbs < 10 ^ 18 := by
      rw [Int.natAbs_mul]
      have := nDig_mul x.natAbs y.natAbs
      exact nDig_lt (by omega)
    have h2 : (10 : Nat) ^ 18 = 1000000000000000000 := by decide
    rw [h2] at hp
    show Ev (fun k => (schismaref02_Of.f (wrap64 (x * y))).bind fun t530 => (some t530)) _
    generalize x * y = p at hp
    rw [w64 (by omega) (by omega), r2of_f p (by omega) (by omega)]
    exact Ev.now _
  · refine Ev.neg (by omega) ?_
    rw [sx, sy]
    have sp1 := r2split_f x.natAbs mx
    have sp2 := r2split_f y.natAbs my
    have l1 := mx.pcs
    have l2 := my.pcs
    have tm := r2times_f x.natAbs y.natAbs l1 l2
    have hl := pcs_len_mul x.natAbs y.natAbs
    have hl3 := pcs_len_nDig x.natAbs
    have hl4 := pcs_len_nDig y.natAbs
    have sg := r2signed_f (decide (x < 0) != decide (y < 0)) (pcs (x.natAbs * y.natAbs)) (ok_pcs _) (by omega)
    rw [val_pcs, mul_sgd, ← side_ne] at sg
    exact Ev.bind (Ev.now _) (Ev.bind (Ev.now _) (Ev.bind (Ev.now (S x.natAbs)) (Ev.bind sp1 (Ev.bind (Ev.now (S y.natAbs)) (Ev.bind sp2 (Ev.bind tm (Ev.bind sg (Ev.now _))))))))
end Go.Proofs.YtgicckcahhlbjaaGreatDoor.P

namespace Go.Proofs.YtgicckcahhlbjaaGreatDoor.P
open Go.RowKit Go.Proofs.YtgicckcahhlbjaaGreatDoorW.PrintWords
def blen (n : Nat) : Nat := if h : n = 0 then 0 else blen (n / 2) + 1
termination_by n
decreasing_by omega
theorem blen_zero : blen 0 = 0 := by rw [blen, dif_pos rfl]
theorem blen_pos {n : Nat} (h : n ≠ 0) : blen n = blen (n / 2) + 1 := by rw [blen, dif_neg h]
theorem lt_pow_blen (n : Nat) : n < 2 ^ blen n := by
  induction n using Nat.strongRecOn with
  | _ n ih =>
    by_cases h : n = 0
    · subst h; rw [blen_zero]; decide
    · rw [blen_pos h, Nat.pow_succ]
      have := ih (n / 2) (by omega)
      omega
theorem blen_le {n k : Nat} (h : n < 2 ^ k) : blen n ≤ k := by
  induction k generalizing n with
  | zero => rw [show n = 0 by simpa using h, blen_zero]; omega
  | succ k ih =>
    by_cases h0 : n = 0
    · subst h0; rw [blen_zero]; omega
    · rw [blen_pos h0]
      have := ih (n := n / 2) (by rw [Nat.pow_succ] at h; omega)
      omega
theorem pow_le_blen {n k : Nat} (h : k < blen n) : 2 ^ k ≤ n := by
  rcases Nat.lt_or_ge n (2 ^ k) with h1 | h1
  · have := blen_le h1; omega
  · exact h1
theorem blen_lib (f n : Nat) (h : n < 2 ^ f) : Lib.bitLenAux f n = blen n := by
  induction f generalizing n with
  | zero => rw [show n = 0 by simpa using h, blen_zero]; rfl
  | succ f ih =>
    by_cases h0 : n = 0
    · subst h0; rw [blen_zero]; simp [Lib.bitLenAux]
    · rw [blen_pos h0, Lib.bitLenAux, if_neg h0, ih (n / 2) (by rw [Nat.pow_succ] at h; omega), Nat.add_comm]
theorem len64_f (n : Nat) (h : n < 18446744073709551616) : bits_Len64.f (n : Int) = some ((blen n : Nat) : Int) := by
  unfold bits_Len64.f
  rw [if_pos (by omega), Int.toNat_natCast, Lib.bitLen, blen_lib 64 n h]
def val32 : List Nat → Nat
  | [] => 0
  | a :: l => a + 4294967296 * val32 l
def Ok32 (l : List Nat) : Prop := ∀ a, a ∈ l → a < 4294967296
theorem Ok32.nil : Ok32 [] := fun _ h => by cases h
theorem Ok32.cons {a : Nat} {l : List Nat} (ha : a < 4294967296) (hl : Ok32 l) : Ok32 (a :: l) := fun x hx => by
  rcases List.mem_cons.1 hx with rfl | hx
  · exact ha
  · exact hl x hx
theorem Ok32.head {a : Nat} {l : List Nat} (h : Ok32 (a :: l)) : a < 4294967296 := h a List.mem_cons_self
theorem Ok32.tail {a : Nat} {l : List Nat} (h : Ok32 (a :: l)) : Ok32 l := fun x hx => h x (List.mem_cons_of_mem _ hx)
def Top (l : List Nat) : Prop := ∀ m a, l = m ++ [a] → a ≠ 0
def brow : Nat → List Nat → List Nat
  | c, [] => if c = 0 then [] else [c]
  | c, w :: W => ((c + w * 1000000000) % 4294967296) :: brow ((c + w * 1000000000) / 4294967296) W
theorem brow_val : ∀ (W : List Nat) (c : Nat), val32 (brow c W) = val32 W * 1000000000 + c
  | [], c => by
    unfold brow
    by_cases h : c = 0
    · rw [if_pos h, h]; rfl
    · rw [if_neg h]; simp [val32]
  | w :: W, c => by
    have ih := brow_val W ((c + w * 1000000000) / 4294967296)
    simp only [brow, val32, ih]
    omega
theorem brow_ok : ∀ (W : List Nat) (c : Nat), c < 4294967296 → Ok32 W → Ok32 (brow c W)
  | [], c, hc, _ => by
    unfold brow
    by_cases h : c = 0
    · rw [if_pos h]; exact Ok32.nil
    · rw [if_neg h]; exact Ok32.cons hc Ok32.nil
  | w :: W, c, hc, hW => by
    have := hW.head
    exact Ok32.cons (Nat.mod_lt _ (by decide)) (brow_ok W _ (by omega) hW.tail)
theorem brow_nonempty : ∀ (W : List Nat) (c : Nat), W ≠ [] → brow c W ≠ []
  | [], _, h => absurd rfl h
  | _ :: _, _, _ => by simp [brow]
theorem brow_top : ∀ (W : List Nat) (c : Nat), Top W → Ok32 W → c < 4294967296 → Top (brow c W)
  | [], c, _, _, _ => by
    intro m a h
    unfold brow at h
    by_cases h0 : c = 0
    · rw [if_pos h0] at h
      cases m <;> cases h
    · rw [if_neg h0] at h
      rcases m with _ | ⟨x, m⟩
      · injection h with h1 _
        omega
      · simp at h
  | [w], c, hT, hW, hc => by
    have hw := hT [] w rfl
    intro m a h
    simp only [brow] at h
    by_cases h0 : (c + w * 1000000000) / 4294967296 = 0
    · rw [if_pos h0] at h
      rcases m with _ | ⟨x, m⟩
      · injection h with h1 _
        omega
      · simp at h
    · rw [if_neg h0] at h
      rcases m with _ | ⟨x, _ | ⟨y, m⟩⟩
      · simp at h
      · simp at h
        omega
      · simp at h
  | w :: x :: W, c, hT, hW, hc => by
    have := hW.head
    have ih := brow_top (x :: W) ((c + w * 1000000000) / 4294967296) (fun m a h => hT (w :: m) a (by rw [h]; rfl)) hW.tail (by omega)
    intro m a h
    rw [brow] at h
    rcases m with _ | ⟨y, m⟩
    · injection h with _ h2
      exact absurd h2 (brow_nonempty _ _ (by simp))
    · injection h with _ h2
      exact ih m a h2
theorem brow_len : ∀ (W : List Nat) (c : Nat), (brow c W).length ≤ W.length + 1
  | [], c => by
    unfold brow
    by_cases h : c = 0
    · rw [if_pos h]; simp
    · rw [if_neg h]; simp
  | w :: W, c => by
    have := brow_len W ((c + w * 1000000000) / 4294967296)
    simp only [brow, List.length_cons]
    omega
theorem val32_snoc (l : List Nat) (a : Nat) : val32 (l ++ [a]) = val32 l + 2 ^ (32 * l.length) * a := by
  induction l with
  | nil => simp [val32]
  | cons b l ih =>
    simp only [List.cons_append, val32, ih, List.length_cons]
    rw [show 32 * (l.length + 1) = 32 * l.length + 32 by omega, Nat.pow_add, Nat.mul_add, ← Nat.add_assoc, Nat.mul_comm (2 ^ (32 * l.length)) (2 ^ 32), Nat.mul_assoc]
theorem val32_lt {l : List Nat} (h : Ok32 l) : val32 l < 2 ^ (32 * l.length) := by
  induction l with
  | nil => simp [val32]
  | cons b l ih =>
    have h1 := h.head
    have h2 := ih h.tail
    simp only [val32, List.length_cons]
    rw [show 32 * (l.length + 1) = 32 * l.length + 32 by omega, Nat.pow_add]
    have : (2 : Nat) ^ 32 = 4294967296 := by decide
    rw [this]
    omega
theorem blen_val32 (l : List Nat) (a : Nat) (hl : Ok32 l) (ha : a ≠ 0) : blen (val32 (l ++ [a])) = 32 * l.length + blen a := by
  have h1 := val32_lt hl
  have h2 := lt_pow_blen a
  have h3 : 2 ^ (blen a - 1) ≤ a := pow_le_blen (by rw [blen_pos ha]; omega)
  have h4 : blen a = blen a - 1 + 1 := by rw [blen_pos ha]; omega
  rw [val32_snoc]
  apply Nat.le_antisymm
  · apply blen_le
    rw [Nat.pow_add]
    have : 2 ^ (32 * l.length) * (a + 1) ≤ 2 ^ (32 * l.length) * 2 ^ blen a := Nat.mul_le_mul_left _ h2
    rw [Nat.mul_add, Nat.mul_one] at this
    omega
  · have h5 : 2 ^ (32 * l.length) * 2 ^ (blen a - 1) ≤ 2 ^ (32 * l.length) * a := Nat.mul_le_mul_left _ h3
    rw [← Nat.pow_add] at h5
    have h6 : ¬ blen (val32 l + 2 ^ (32 * l.length) * a) ≤ 32 * l.length + (blen a - 1) := fun h7 => by
      have h8 := lt_pow_blen (val32 l + 2 ^ (32 * l.length) * a)
      have h9 : 2 ^ blen (val32 l + 2 ^ (32 * l.length) * a) ≤ 2 ^ (32 * l.length + (blen a - 1)) := Nat.pow_le_pow_right (by decide) h7
      omega
    omega
theorem b_arith {c w : Nat} (hc : c ≤ 1000000000) (hw : w < 4294967296) :
    IntKind.u64.wrap ((c : Int) + IntKind.u64.wrap ((w : Int) * 1000000000)) = ((c + w * 1000000000 : Nat) : Int) ∧ Go.bits .and .u64 ((c + w * 1000000000 : Nat) : Int) 4294967295 = (((c + w * 1000000000) % 4294967296 : Nat) : Int) ∧ ((c + w * 1000000000 : Nat) : Int) / 4294967296 = (((c + w * 1000000000) / 4294967296 : Nat) : Int) ∧ (c + w * 1000000000) / 4294967296 ≤ 1000000000 := by
  refine ⟨?_, ?_, ?_, ?_⟩
  · rw [show (1000000000 : Int) = ((1000000000 : Nat) : Int) from rfl, umul (by omega), uadd (by omega)]
  · rw [show (4294967295 : Int) = ((4294967295 : Nat) : Int) from rfl, bits_and_u64_nat _ _ (by omega) (by decide)]
    congr 1
    exact Nat.and_two_pow_sub_one_eq_mod _ 32
  · omega
  · omega
theorem bits_l1 (p : List Int) (i : Int) (hi : wrap64 (i - 1) = i - 1) {r : Int} : ∀ (W L : List Nat) (c : Nat), Ok32 W → c ≤ 1000000000 → (L ++ W).length ≤ 2000000 →
    Ev (fun k => decimal_Bits.l0 k (C (L ++ brow c W)) p (i - 1)) r → Ev (fun k => decimal_Bits.l1 k (C (L ++ W)) p i (c : Int) (((L ++ W).length : Nat) : Int) (L.length : Int)) r
  | [], L, c, _, _, hs, h => by
    rw [List.append_nil] at hs ⊢
    have hC : (C L).length = L.length := C_length _
    by_cases h0 : c = 0
    · subst h0
      rw [brow, if_pos rfl, List.append_nil] at h
      refine Ev.step (fun k => ?_) h
      simp only [decimal_Bits.l1, hi]
      clear hi
      simp (disch := omega) only [if_neg]
    · rw [brow, if_neg h0, C_append] at h
      refine Ev.step (fun k => ?_) h
      simp only [decimal_Bits.l1, hi]
      clear hi
      simp (disch := omega) only [if_neg, if_pos]
      rfl
  | w :: W, L, c, hW, hc, hs, h => by
    have hl2 : (L ++ w :: W).length = L.length + (W.length + 1) := by simp
    have hC : (C (L ++ w :: W)).length = L.length + (W.length + 1) := by rw [C_length, hl2]
    obtain ⟨e1, e2, e3, e4⟩ := b_arith hc hW.head
    have s1 : Sm L.length := ⟨by omega⟩
    have ih := bits_l1 p i hi W (L ++ [(c + w * 1000000000) % 4294967296]) ((c + w * 1000000000) / 4294967296) hW.tail e4 (by simp at hs ⊢; omega) (by simpa [brow] using h)
    have e5 := rd_at L W w L.length rfl
    have e6 := set_at L W w ((c + w * 1000000000) % 4294967296) L.length rfl
    have e7 := wsucc s1
    refine Ev.step (f := fun k => decimal_Bits.l1 k (C (L ++ ((c + w * 1000000000) % 4294967296) :: W)) p i (((c + w * 1000000000) / 4294967296 : Nat) : Int) (((L ++ w :: W).length : Nat) : Int) ((L.length + 1 : Nat) : Int)) (fun k => ?_) ?_
    · simp only [decimal_Bits.l1, e5, e1, e2, e3, e6, e7]
      clear e1 e2 e3 e4 e5 e6 e7 hi h ih
      simp (disch := omega) only [if_pos]
    · simpa using ih
theorem bits_l0 : ∀ (i : Nat) (P R : List Nat) (W : List Nat) (x : Int), P.length = i → x = (i : Int) - 1 → Ok P → Ok32 W → Top W → val32 W = val R → (P ++ R).length ≤ 1000000 → W.length ≤ R.length → val (P ++ R) ≠ 0 →
    Ev (fun k => decimal_Bits.l0 k (C W) (C (P ++ R)) x) ((blen (val (P ++ R)) : Nat) : Int)
  | 0, P, R, W, x, hP, hx, hOk, hW, hT, hv, hs, hl, h0 => by
    obtain rfl := List.length_eq_zero_iff.1 hP
    rw [List.nil_append] at h0 hs ⊢
    rcases List.eq_nil_or_concat W with e | ⟨m, a, e⟩
    · rw [e] at hv
      exact absurd hv.symm h0
    · have e' : W = m ++ [a] := by simpa using e
      subst e'
      have ha := hT m a rfl
      have hm : Ok32 m := fun y hy => hW y (by simp [hy])
      have ha2 : a < 4294967296 := hW a (by simp)
      have hml : (m ++ [a]).length = m.length + 1 := by simp
      have hC : (C (m ++ [a])).length = m.length + 1 := by rw [C_length, hml]
      have hb := blen_le (n := a) (k := 32) (by omega)
      have e5 := len64_f a (by omega)
      have e6 := blen_val32 m a hm ha
      rw [hv] at e6
      have e2 : rd (C (m ++ [a])) (m.length : Int) = a := rd_at m [] a m.length rfl
      have s1 : Sm (m.length + 1) := ⟨by omega⟩
      have e7 : wrap64 (wrap64 (32 * (m.length : Int)) + ((blen a : Nat) : Int)) = ((blen (val R) : Nat) : Int) := by
        rw [w64 (n := 32 * (m.length : Int)) (by omega) (by omega), w64 (by omega) (by omega), e6]
        omega
      refine Ev.step (f := fun _ => some ((blen (val R) : Nat) : Int)) (fun k => ?_) (Ev.now _)
      have e1 := wpred1 s1
      simp only [decimal_Bits.l0, hC, e1, e2, e5, Option.bind_some, e7]
      clear e1 e2 e5 e7 e6
      simp (disch := omega) only [if_neg, if_pos]
  | i + 1, P, R, W, x, hP, hx, hOk, hW, hT, hv, hs, hl, h0 => by
    obtain ⟨P, a, rfl, hP1⟩ := concat_of_len hP
    have ha : a < 1000000000 := hOk a (by simp)
    obtain rfl : x = (i : Int) := by omega
    have e0 : P ++ [a] ++ R = P ++ a :: R := by simp
    rw [e0] at h0 hs ⊢
    have hs2 : (P ++ a :: R).length = i + (R.length + 1) := by rw [List.length_append, List.length_cons, hP1]
    have ih := bits_l0 i P (a :: R) (brow a W) ((i : Int) - 1) hP1 rfl hOk.left (brow_ok W a (by omega) hW) (brow_top W a hT hW (by omega)) (by rw [brow_val, hv, val]; omega) hs (by have := brow_len W a; simp; omega) h0
    have e1 : rd (C (P ++ a :: R)) (i : Int) = a := rd_at P R a i hP1
    have hC : (C (P ++ a :: R)).length = i + (R.length + 1) := by rw [C_length, hs2]
    have hCW : (C W).length = W.length := C_length _
    have hw : wrap64 ((i : Int) - 1) = (i : Int) - 1 := w64 (by omega) (by omega)
    have key := bits_l1 (C (P ++ a :: R)) (i : Int) hw W [] a hW (by omega) (by rw [List.nil_append]; clear hw; omega) (by simpa using ih)
    rw [List.nil_append] at key
    refine Ev.step (f := fun k => decimal_Bits.l1 k (C W) (C (P ++ a :: R)) (i : Int) (a : Int) ((W.length : Nat) : Int) 0) (fun k => ?_) key
    simp only [decimal_Bits.l0, e1, hC, hCW]
    clear e1 hw key ih
    simp (disch := omega) only [if_pos]
theorem bits_f (n : Nat) (h : Md n) : Ev (fun k => decimal_Bits.f k (S n)) ((blen n : Nat) : Int) := by
  have hM := h.out
  unfold decimal_Bits.f
  rw [small_S n (by omega)]
  by_cases h64 : n < 18446744073709551616
  · rw [if_pos h64]
    have e := len64_f n h64
    refine Ev.bind (Ev.now ((n : Int), true)) (Ev.pos rfl ?_)
    rw [e]
    exact Ev.now _
  · rw [if_neg h64]
    refine Ev.bind (Ev.now ((0 : Int), false)) (Ev.neg (by decide) (Ev.bind (cut_f n (by omega)) ?_))
    have hp := h.pcs
    have hC : (C (pcs n)).length = (pcs n).length := C_length _
    have hw : wrap64 (((pcs n).length : Int) - 1) = ((pcs n).length : Int) - 1 := w64 (by omega) (by omega)
    have key := bits_l0 (pcs n).length (pcs n) [] [] (((pcs n).length : Int) - 1) rfl rfl (ok_pcs n) Ok32.nil (fun m a h => by cases m <;> cases h) rfl (by rw [List.append_nil]; exact hp) (Nat.le_refl _) (by rw [List.append_nil, val_pcs]; omega)
    rw [List.append_nil, val_pcs] at key
    rw [hC, hw]
    exact key
end Go.Proofs.YtgicckcahhlbjaaGreatDoor.P

namespace Go.Proofs.YtgicckcahhlbjaaGreatDoor.P
open Go.RowKit Go.Proofs.YtgicckcahhlbjaaGreatDoorW.PrintWords
theorem and1 (n : Nat) (h : n < 9223372036854775808) : Go.bits .and .i64 (n : Int) 1 = ((n % 2 : Nat) : Int) := by
  have := bits_mask .i64 63 (by decide) (fun m h0 h1 => by rw [IntKind.wrap_i64]; omega) 1 (by decide) (n : Int) (by omega) (by omega)
  rw [show (2 : Int) ^ 1 - 1 = 1 from by decide] at this
  rw [this]
  omega
def fin (T : Nat) : ByteArray × Int := if 20000 < Lib.nDigits T then (⟨#[]⟩, 4) else (S T, 0)
theorem times_S (a b : Nat) (h : (pcs a).length + (pcs b).length < 17592186044416) : Ev (fun k => decimal_pieces_times.f k (C (pcs a)) (C (pcs b))) (C (pcs (a * b))) := by
  have := times_f (pcs a) (pcs b) (ok_pcs a) (ok_pcs b) h
  rwa [val_pcs, val_pcs] at this
theorem pow_half (q n : Nat) : (q * q) ^ n = q ^ (2 * n) := by rw [Nat.pow_mul, Nat.pow_two]
theorem le_pow1 {q n : Nat} (hq : 0 < q) (hn : 0 < n) : q ≤ q ^ n := by
  obtain ⟨m, rfl⟩ : ∃ m, n = m + 1 := ⟨n - 1, by omega⟩
  rw [Nat.pow_succ]
  have : 1 * q ≤ q ^ m * q := Nat.mul_le_mul_right _ (Nat.pow_pos hq)
  omega
theorem power_l0 : ∀ (m n o q T : Nat), n ≤ m → n < 9223372036854775808 → T = o * q ^ n → T ≠ 0 → (pcs T).length ≤ 1000000 →
    Ev (fun k => decimal_Power.l0 k (n : Int) (C (pcs o)) (C (pcs q))) (fin T)
  | 0, n, o, q, T, hm, hn, hT, h0, hl => by
    obtain rfl : n = 0 := by omega
    rw [Nat.pow_zero, Nat.mul_one] at hT
    subst hT
    have hsz := S_size T
    refine Ev.step (f := fun k => (decimal_pieces_text.f k (C (pcs T))).bind fun t267 => (if (t267.size : Int) > 20000 then (some ((⟨#[]⟩ : ByteArray), 4)) else (some (t267, 0)))) (fun k => ?_) (Ev.bind (text_f T (by omega)) ?_)
    · simp (disch := omega) only [decimal_Power.l0, if_neg]
    · unfold fin
      rw [hsz]
      by_cases h : 20000 < Lib.nDigits T
      · rw [if_pos h]; exact Ev.pos (by omega) (Ev.now _)
      · rw [if_neg h]; exact Ev.neg (by omega) (Ev.now _)
  | m + 1, n, o, q, T, hm, hn, hT, h0, hl => by
    rcases Nat.eq_zero_or_pos n with hz | hp
    · exact power_l0 0 n o q T (by omega) hn hT h0 hl
    · have ho : 0 < o := Nat.pos_of_ne_zero fun e => h0 (by rw [hT, e, Nat.zero_mul])
      have hq : 0 < q := Nat.pos_of_ne_zero fun e => h0 (by rw [hT, e, Nat.zero_pow hp, Nat.mul_zero])
      have hqn : 0 < q ^ n := Nat.pow_pos hq
      have hoT : o ≤ T := by rw [hT]; exact Nat.le_mul_of_pos_right _ hqn
      have hqT : q ≤ T := by rw [hT]; exact Nat.le_trans (le_pow1 hq hp) (Nat.le_mul_of_pos_left _ ho)
      have lo := pcs_len_mono hoT
      have lq := pcs_len_mono hqT
      have e1 := and1 n hn
      have e2 : (n : Int) / 2 = ((n / 2 : Nat) : Int) := by omega
      have t1 := times_S o q (by clear e1; omega)
      have t2 := times_S q q (by clear e1; omega)
      by_cases hodd : n % 2 = 1
      · rw [hodd] at e1
        by_cases h1 : 1 < n
        · have hT2 : T = o * q * (q * q) ^ (n / 2) := by
            have e : n = 2 * (n / 2) + 1 := by clear e1; omega
            rw [hT, pow_half, Nat.mul_assoc, Nat.mul_comm q, ← Nat.pow_succ, Nat.succ_eq_add_one, ← e]
          have ih := power_l0 m (n / 2) (o * q) (q * q) T (by clear e1; omega) (by clear e1; omega) hT2 h0 hl
          refine Ev.step (f := fun k => (decimal_pieces_times.f k (C (pcs o)) (C (pcs q))).bind fun t268 => (decimal_pieces_times.f k (C (pcs q)) (C (pcs q))).bind fun t271 => decimal_Power.l0 k ((n / 2 : Nat) : Int) t268 t271) (fun k => ?_) (Ev.bind t1 (Ev.bind t2 ih))
          simp only [decimal_Power.l0, e1, e2]
          clear e1 e2
          simp (disch := omega) only [if_pos]
        · have hn1 : n = 1 := by clear e1; omega
          have hT2 : T = o * q * q ^ 0 := by rw [hT, hn1, Nat.pow_one, Nat.pow_zero, Nat.mul_one]
          have ih := power_l0 m (n / 2) (o * q) q T (by clear e1; omega) (by clear e1; omega) (by rw [hT2, hn1]) h0 hl
          refine Ev.step (f := fun k => (decimal_pieces_times.f k (C (pcs o)) (C (pcs q))).bind fun t268 => decimal_Power.l0 k ((n / 2 : Nat) : Int) t268 (C (pcs q))) (fun k => ?_) (Ev.bind t1 ih)
          simp only [decimal_Power.l0, e1, e2]
          clear e1 e2
          simp (disch := omega) only [if_pos, if_neg]
      · have h2 : n % 2 = 0 := by clear e1; omega
        rw [h2] at e1
        have h1 : 1 < n := by clear e1; omega
        have hT2 : T = o * (q * q) ^ (n / 2) := by
          have e : 2 * (n / 2) = n := by clear e1; omega
          rw [hT, pow_half, e]
        have ih := power_l0 m (n / 2) o (q * q) T (by clear e1; omega) (by clear e1; omega) hT2 h0 hl
        refine Ev.step (f := fun k => (decimal_pieces_times.f k (C (pcs q)) (C (pcs q))).bind fun t274 => decimal_Power.l0 k ((n / 2 : Nat) : Int) (C (pcs o)) t274) (fun k => ?_) (Ev.bind t2 ih)
        simp only [decimal_Power.l0, e1, e2]
        clear e1 e2
        simp (disch := omega) only [if_pos, if_neg]
def powr (a n : Nat) : ByteArray × Int := if n = 0 ∨ a = 1 then (S 1, 0) else if a = 0 then (S 0, 0) else if 66439 / (blen a - 1) < n then (⟨#[]⟩, 4) else fin (a ^ n)
theorem power_len {a n : Nat} (ha : 2 ≤ a) (h : ¬ 66439 / (blen a - 1) < n) : (pcs (a ^ n)).length ≤ 1000000 := by
  have hb : 2 ≤ blen a := by
    rcases Nat.lt_or_ge (blen a) 2 with h1 | h1
    · have h2 := lt_pow_blen a
      have h3 : 2 ^ blen a ≤ 2 ^ 1 := Nat.pow_le_pow_right (by decide) (by omega)
      omega
    · exact h1
  have h1 : n * (blen a - 1) ≤ 66439 := by
    rw [← Nat.le_div_iff_mul_le (by omega)]
    omega
  obtain ⟨M, hM⟩ : ∃ M, M = 1000000 := ⟨_, rfl⟩
  rw [← hM]
  apply pcs_len_le
  have h2 : a ^ n ≤ (2 ^ blen a) ^ n := Nat.pow_le_pow_left (Nat.le_of_lt (lt_pow_blen a)) n
  rw [← Nat.pow_mul] at h2
  have h3 : blen a * n ≤ 2 * (n * (blen a - 1)) := by
    rw [← Nat.mul_assoc, Nat.mul_comm 2 n, Nat.mul_assoc, Nat.mul_comm (blen a)]
    exact Nat.mul_le_mul_left _ (by omega)
  have h4 : 2 ^ (blen a * n) < 2 ^ M := Nat.pow_lt_pow_right (by decide) (by omega)
  have h5 : 2 ^ M ≤ 1000000000 ^ M := Nat.pow_le_pow_left (by decide) _
  exact Nat.lt_of_le_of_lt h2 (Nat.lt_of_lt_of_le h4 h5)
theorem power_f (a n : Nat) (h : Md a) (hn : n < 9223372036854775808) : Ev (fun k => decimal_Power.f k (S a) (n : Int)) (powr a n) := by
  have hM := h.out
  unfold decimal_Power.f powr
  refine Ev.neg (by omega) ?_
  by_cases h0 : n = 0
  · refine Ev.pos (by omega) ?_
    rw [if_pos (Or.inl h0)]
    refine Ev.step (f := fun _ => some (S 1, 0)) (fun k => ?_) (Ev.now _)
    rw [decimal_Power.j0, if_pos rfl, one_str]
  · refine Ev.neg (by omega) ?_
    rw [S_beq1]
    by_cases h1 : a = 1
    · rw [decide_eq_true h1, if_pos (Or.inr h1)]
      refine Ev.step (f := fun _ => some (S 1, 0)) (fun k => ?_) (Ev.now _)
      rw [decimal_Power.j0, if_pos rfl, one_str]
    · rw [decide_eq_false h1, if_neg (fun e => e.elim h0 h1)]
      by_cases hz : a = 0
      · rw [if_pos hz]
        refine Ev.step (f := fun _ => some (S 0, 0)) (fun k => ?_) (Ev.now _)
        rw [decimal_Power.j0, if_neg (by decide), if_pos ((S_is0 a).2 hz), zero_str]
      · rw [if_neg hz]
        have hb : 2 ≤ blen a := by
          rw [blen_pos hz, blen_pos (by omega)]; omega
        have hb2 : blen a ≤ 4000000 := by
          obtain ⟨K, hK⟩ : ∃ K, K = 4000000 := ⟨_, rfl⟩
          rw [← hK]
          apply blen_le
          have h5 := Lib.lt_pow_nDigits a
          have h6 : 10 ^ Lib.nDigits a ≤ (2 ^ 4) ^ Lib.nDigits a := Nat.pow_le_pow_left (by decide) _
          rw [← Nat.pow_mul] at h6
          have h7 : 2 ^ (4 * Lib.nDigits a) ≤ 2 ^ K := Nat.pow_le_pow_right (by decide) (by omega)
          exact Nat.lt_of_lt_of_le h5 (Nat.le_trans h6 h7)
        have e1 : wrap64 (((blen a : Nat) : Int) - 1) = ((blen a - 1 : Nat) : Int) := by rw [w64 (by omega) (by omega)]; omega
        have e2 : Int.tdiv (66439 : Int) ((blen a - 1 : Nat) : Int) = ((66439 / (blen a - 1) : Nat) : Int) := tdivn 66439 _
        have hd : 66439 / (blen a - 1) ≤ 66439 := Nat.div_le_self _ _
        have e3 : wrap64 ((66439 / (blen a - 1) : Nat) : Int) = ((66439 / (blen a - 1) : Nat) : Int) := by clear e1 e2; exact wnat ⟨by omega⟩
        refine Ev.step (f := fun k => (decimal_Bits.f k (S a)).bind fun t260 => (if (wrap64 (t260 - 1)) = 0 then (none) else (if (n : Int) > (wrap64 (Int.tdiv (66439 : Int) (wrap64 (t260 - 1)))) then (some ((⟨#[]⟩ : ByteArray), 4)) else ((decimal_cut.f k (S a)).bind fun t264 => (decimal_Power.l0 k (n : Int) (([1] : List Int)) t264))))) (fun k => ?_) (Ev.bind (bits_f a h) ?_)
        · rw [decimal_Power.j0, if_neg (by decide), if_neg (fun e => hz ((S_is0 a).1 e))]
        · rw [e1, e2, e3]
          clear e1 e2 e3
          refine Ev.neg (by omega) ?_
          by_cases hlim : 66439 / (blen a - 1) < n
          · rw [if_pos hlim]
            exact Ev.pos (by omega) (Ev.now _)
          · rw [if_neg hlim]
            refine Ev.neg (by omega) (Ev.bind (cut_f a (by omega)) ?_)
            have e5 : ([1] : List Int) = C (pcs 1) := by rw [pcs_pos (by decide), Nat.div_eq_of_lt (by decide), pcs_zero]; rfl
            rw [e5]
            exact power_l0 n n 1 a (a ^ n) (Nat.le_refl _) hn (by rw [Nat.one_mul]) (Nat.ne_of_gt (Nat.pow_pos (by omega))) (power_len (by omega) hlim)
end Go.Proofs.YtgicckcahhlbjaaGreatDoor.P

namespace Go.Proofs.YtgicckcahhlbjaaGreatDoor.P
open Go.RowKit Go.Proofs.YtgicckcahhlbjaaGreatDoorW.PrintWords
theorem nDig_pow2 {a n d : Nat} (ha : Lib.nDigits a ≤ d) : Lib.nDigits (a ^ n) ≤ d * n + 1 := by
  rcases Nat.eq_zero_or_pos n with h | h
  · subst h
    rw [Nat.pow_zero]
    exact Nat.le_trans (Nat.le_of_eq (Lib.nDigits_small (by decide))) (by omega)
  · have hd := Lib.nDigits_pos a
    have h1 : a ^ n < 10 ^ (d * n) := by
      rw [Nat.pow_mul]
      exact Nat.pow_lt_pow_left (nDig_lt ha) (by omega)
    have h2 : 0 < d * n := Nat.mul_pos (by omega) h
    have := nDig_le h2 h1
    omega
theorem fz_pow {x : Int} {d : Nat} (hx : Lib.nDigits x.natAbs ≤ d) (n : Nat) : Fz (x ^ n) (d * n + 1) := ⟨by rw [Int.natAbs_pow]; exact nDig_pow2 hx⟩
theorem r2power_l0 (x : Int) (hx : Lib.nDigits x.natAbs ≤ 20) (e : Nat) (he : e ≤ 40) : ∀ (m n a b : Nat), n ≤ m → n ≤ 40 → a + b * n = e →
    Ev (fun k => schismaref02_Power.l0 k (Z (x ^ b)) (n : Int) (Z (x ^ a))) (Z (x ^ e))
  | 0, n, a, b, hm, _, h => by
    obtain rfl : n = 0 := by omega
    obtain rfl : a = e := by omega
    refine Ev.step (f := fun _ => some (Z (x ^ a))) (fun k => ?_) (Ev.now _)
    rw [schismaref02_Power.l0, if_neg (by omega)]
  | m + 1, n, a, b, hm, hn40, h => by
    by_cases h0 : n = 0
    · exact r2power_l0 x hx e he 0 n a b (by omega) hn40 h
    · have hb : b * 1 ≤ b * n := Nat.mul_le_mul_left _ (by omega)
      have fa := fz_pow hx a
      have fb := fz_pow hx b
      have ma : Mz (x ^ a) := fa.mz (by omega)
      have mb : Mz (x ^ b) := fb.mz (by omega)
      have m1 := r2mul_f (x ^ a) (x ^ b) ma mb
      rw [← Int.pow_add] at m1
      have m2 := r2mul_f (x ^ b) (x ^ b) mb mb
      rw [← Int.pow_add] at m2
      have t1 : Int.tmod (n : Int) 2 = ((n % 2 : Nat) : Int) := tmodn n 2
      have t2 : Int.tdiv (n : Int) 2 = ((n / 2 : Nat) : Int) := tdivn n 2
      have hsplit : n = 2 * (n / 2) + n % 2 := by clear t1 t2; omega
      have hbn : b * n = b * (2 * (n / 2)) + b * (n % 2) := by rw [← Nat.mul_add, ← hsplit]
      have hbb : (b + b) * (n / 2) = b * (2 * (n / 2)) := by rw [← Nat.two_mul, Nat.mul_assoc, Nat.mul_left_comm]
      by_cases hbig : n < 9223372036854775808
      · have t3 : wrap64 ((n / 2 : Nat) : Int) = ((n / 2 : Nat) : Int) := w64 (by clear t1 t2; omega) (by clear t1 t2; omega)
        by_cases hodd : n % 2 = 1
        · rw [hodd] at t1 hbn
          by_cases hz : 0 < n / 2
          · have ih := r2power_l0 x hx e he m (n / 2) (a + b) (b + b) (by clear t1 t2 t3; omega) (by clear t1 t2 t3; omega) (by rw [hbb]; clear t1 t2 t3; omega)
            refine Ev.step (f := fun k => (schismaref02_Mul.f k (Z (x ^ a)) (Z (x ^ b))).bind fun t545 => ((schismaref02_Mul.f k (Z (x ^ b)) (Z (x ^ b))).bind fun t546 => (schismaref02_Power.l0 k t546 ((n / 2 : Nat) : Int) t545))) (fun k => ?_) (Ev.bind m1 (Ev.bind m2 ih))
            rw [schismaref02_Power.l0, t1, t2, t3]
            clear t1 t2 t3
            rw [if_pos (by omega), if_pos (by rfl)]
            simp only [if_pos (show ((n / 2 : Nat) : Int) > 0 by omega)]
          · have hz0 : n / 2 = 0 := by clear t1 t2 t3; omega
            have ih := r2power_l0 x hx e he m (n / 2) (a + b) b (by clear t1 t2 t3; omega) (by clear t1 t2 t3; omega) (by rw [hz0] at hbn ⊢; clear t1 t2 t3; omega)
            refine Ev.step (f := fun k => (schismaref02_Mul.f k (Z (x ^ a)) (Z (x ^ b))).bind fun t545 => (schismaref02_Power.l0 k (Z (x ^ b)) ((n / 2 : Nat) : Int) t545)) (fun k => ?_) (Ev.bind m1 ih)
            rw [schismaref02_Power.l0, t1, t2, t3]
            clear t1 t2 t3
            rw [if_pos (by omega), if_pos (by rfl)]
            simp only [if_neg (show ¬ ((n / 2 : Nat) : Int) > 0 by omega)]
        · have hev : n % 2 = 0 := by clear t1 t2 t3; omega
          rw [hev] at t1 hbn
          have ih := r2power_l0 x hx e he m (n / 2) a (b + b) (by clear t1 t2 t3; omega) (by clear t1 t2 t3; omega) (by rw [hbb]; clear t1 t2 t3; omega)
          refine Ev.step (f := fun k => (schismaref02_Mul.f k (Z (x ^ b)) (Z (x ^ b))).bind fun t547 => (schismaref02_Power.l0 k t547 ((n / 2 : Nat) : Int) (Z (x ^ a)))) (fun k => ?_) (Ev.bind m2 ih)
          rw [schismaref02_Power.l0, t1, t2, t3]
          clear t1 t2 t3
          rw [if_pos (by omega), if_neg (by decide), if_pos (by omega)]
      · exfalso
        clear t1 t2; omega
end Go.Proofs.YtgicckcahhlbjaaGreatDoor.P

namespace Go.Proofs.YtgicckcahhlbjaaGreatDoor.Pure
open Go.RowKit Go.Proofs.YtgicckcahhlbjaaGreatDoor.P Go.Proofs.YtgicckcahhlbjaaGreatDoorW.PrintWords Go.Proofs.YtgicckcahhlbjaaGreatDoorW.PrintLast
set_option maxRecDepth 100000 in
theorem pwknown_ev : Ev (fun k => schismalaw02_known.f k) true := Ev.of (k := 200) (fun k => schismalaw02_known.mono k) (by decide +kernel)
theorem neg_pow (u : Nat) : ∀ n : Nat, (-(u : Int)) ^ n = sgd (n % 2 == 1) (u ^ n)
  | 0 => by rw [Int.pow_zero, Nat.pow_zero]; rfl
  | n + 1 => by
    have ih := neg_pow u n
    rw [Int.pow_succ, ih]
    by_cases h : n % 2 = 1
    · have e1 : (n % 2 == 1) = true := by rw [h]; rfl
      have e2 : ((n + 1) % 2 == 1) = false := by rw [beq_eq_false_iff_ne]; omega
      rw [e1, e2]
      unfold sgd
      rw [if_pos rfl, if_neg (by decide), Int.neg_mul_neg, Nat.pow_succ, Int.natCast_mul]
    · have e1 : (n % 2 == 1) = false := by rw [beq_eq_false_iff_ne]; exact h
      have e2 : ((n + 1) % 2 == 1) = true := by rw [beq_iff_eq]; omega
      rw [e1, e2]
      unfold sgd
      rw [if_neg (by decide), if_pos rfl, Int.mul_neg, Nat.pow_succ, Int.natCast_mul]
theorem powr_small {a n : Nat} (h : n * Lib.nDigits a ≤ 4000) : powr a n = (S (a ^ n), 0) := by
  have hp := Lib.nDigits_pos a
  unfold powr
  by_cases h0 : n = 0
  · subst h0; rw [if_pos (Or.inl rfl), Nat.pow_zero]
  · by_cases h1 : a = 1
    · subst h1; rw [if_pos (Or.inr rfl), Nat.one_pow]
    · rw [if_neg (fun e => e.elim h0 h1)]
      by_cases hz : a = 0
      · subst hz; rw [if_pos rfl, Nat.zero_pow (by omega)]
      · rw [if_neg hz]
        have hb2 : 2 ≤ blen a := by rw [blen_pos hz, blen_pos (by omega)]; omega
        have hb : blen a ≤ 4 * Lib.nDigits a := by
          apply blen_le
          rw [Nat.pow_mul]
          exact Nat.lt_of_lt_of_le (Lib.lt_pow_nDigits a) (Nat.pow_le_pow_left (by decide) _)
        have h5 : n ≤ 66439 / (blen a - 1) := by
          rw [Nat.le_div_iff_mul_le (by omega)]
          have h6 : n * (blen a - 1) ≤ n * (4 * Lib.nDigits a) := Nat.mul_le_mul_left _ (by omega)
          rw [Nat.mul_left_comm] at h6
          omega
        have h7 := nDig_pow2 (a := a) (n := n) (Nat.le_refl _)
        rw [Nat.mul_comm] at h7
        rw [if_neg (by omega), fin, if_neg (by omega)]
theorem zpower_f (x : Int) (n : Nat) (hx : Mz x) (hn : n < 9223372036854775808) :
    Ev (fun k => whole_Power.f k (Z x) (n : Int)) (if 4000 / Lib.nDigits x.natAbs < n then ((⟨#[]⟩ : ByteArray), (4 : Int)) else (Z (x ^ n), (0 : Int))) := by
  have hp := Lib.nDigits_pos x.natAbs
  have hsz := S_size x.natAbs
  have hM := hx.out
  have e1 : (4000 : Int) / ((S x.natAbs).size : Int) = ((4000 / Lib.nDigits x.natAbs : Nat) : Int) := by rw [hsz]; exact (Int.natCast_ediv 4000 (Lib.nDigits x.natAbs)).symm
  unfold whole_Power.f
  rw [split_Z]
  refine Ev.neg (by omega) (Ev.bind (Ev.now (decide (x < 0), S x.natAbs)) (Ev.neg (show ¬ ((S x.natAbs).size : Int) = 0 by omega) ?_))
  rw [e1]
  clear e1
  by_cases h : 4000 / Lib.nDigits x.natAbs < n
  · rw [if_pos h]
    exact Ev.pos (by omega) (Ev.now _)
  · rw [if_neg h]
    have h2 : n * Lib.nDigits x.natAbs ≤ 4000 := by
      rw [← Nat.le_div_iff_mul_le (by omega)]
      omega
    have pw := power_f x.natAbs n hx hn
    rw [powr_small h2] at pw
    have hd := nDig_pow2 (a := x.natAbs) (n := n) (Nat.le_refl _)
    rw [Nat.mul_comm] at hd
    have hd2 : Lib.nDigits (x.natAbs ^ n) ≤ 4001 := by omega
    clear hd h2
    refine Ev.neg (by omega) (Ev.bind pw (Ev.pos rfl ?_))
    by_cases hneg : x < 0
    · obtain ⟨u, rfl⟩ : ∃ u : Nat, x = -(u : Int) := ⟨x.natAbs, by omega⟩
      have eu : (-(u : Int)).natAbs = u := by omega
      have t1 : Int.tmod (n : Int) 2 = ((n % 2 : Nat) : Int) := tmodn n 2
      have t2 : (Int.tmod (n : Int) 2 == 1) = (n % 2 == 1) := by
        rw [t1, Bool.eq_iff_iff, beq_iff_eq, beq_iff_eq]; omega
      rw [eu] at hd2 ⊢
      refine Ev.pos (decide_eq_true hneg) ?_
      rw [t2]
      show Ev (fun k => (whole_join.f (n % 2 == 1) (S (u ^ n))).bind fun t483 => (some (t483, 0))) _
      rw [join_Z _ _ (by omega), bsome, ← neg_pow]
      exact Ev.now _
    · obtain ⟨u, rfl⟩ : ∃ u : Nat, x = (u : Int) := ⟨x.toNat, by omega⟩
      rw [Int.natAbs_natCast] at hd2 ⊢
      refine Ev.neg (by rw [decide_eq_true_iff]; exact hneg) ?_
      show Ev (fun k => (whole_join.f false (S (u ^ n))).bind fun t484 => (some (t484, 0))) _
      rw [join_Z _ _ (by omega), bsome, ← Int.natCast_pow]
      exact Ev.now _
theorem WholePowers : schismalaw02_WholePowers.Pure := by
  intro b l _ hl e he _
  obtain ⟨e0, e1⟩ := wf_i64 he
  obtain ⟨u, u1, u2⟩ := make2_f b l hl 20 (by decide)
  have fx : Fz (sgd b u) 20 := ⟨by rw [sgd_abs2]; exact nDig_le (by decide) u1⟩
  generalize sgd b u = x at *
  refine Ev.rounds (Ev.bind pwknown_ev (Ev.pos rfl (Ev.bind u2 ?_)))
  by_cases hneg : e < 0
  · have h3 : ∀ k, whole_Power.f k (Z x) e = some ((⟨#[]⟩ : ByteArray), 3) := fun k => by unfold whole_Power.f; rw [if_pos hneg]
    simp only [h3, Option.bind_some]
    exact Ev.pos hneg (Ev.pos (by rw [toList_data]) (Ev.eq (Ev.now _) rfl))
  · obtain ⟨n, rfl⟩ : ∃ n : Nat, e = n := ⟨e.toNat, by omega⟩
    have hp := Lib.nDigits_pos x.natAbs
    have hsz := S_size x.natAbs
    have e2 : (4000 : Int) / ((S x.natAbs).size : Int) = ((4000 / Lib.nDigits x.natAbs : Nat) : Int) := by rw [hsz]; exact (Int.natCast_ediv 4000 (Lib.nDigits x.natAbs)).symm
    refine Ev.bind (zpower_f x n (fx.mz (by decide)) (by omega)) (Ev.neg hneg ?_)
    rw [r2abs_f]
    refine Ev.bind (Ev.now (S x.natAbs)) (Ev.neg (by omega) ?_)
    rw [e2]
    clear e2
    by_cases h : 4000 / Lib.nDigits x.natAbs < n
    · rw [if_pos h]
      exact Ev.pos (by omega) (Ev.pos (by rw [toList_data]) (Ev.eq (Ev.now _) rfl))
    · rw [if_neg h]
      refine Ev.neg (by omega) (Ev.pos rfl ?_)
      by_cases h40 : n ≤ 40
      · refine Ev.neg (by omega) ?_
        have key := r2power_l0 x fx.out n h40 n n 0 1 (Nat.le_refl _) h40 (by omega)
        rw [Int.pow_zero] at key
        have e3 : (⟨#[49]⟩ : ByteArray) = Z 1 := by rw [one_str]; exact (Z_nat 1).symm
        have e4 : x ^ 1 = x := by rw [Int.pow_succ, Int.pow_zero, Int.one_mul]
        rw [e4] at key
        have key2 : Ev (fun k => schismaref02_Power.f k (Z x) (n : Int)) (Z (x ^ n)) := by
          unfold schismaref02_Power.f
          rw [e3]
          exact key
        exact Ev.bind key2 (Ev.eq (Ev.now _) (Z_beq _))
      · exact Ev.pos (by omega) (Ev.now _)
end Go.Proofs.YtgicckcahhlbjaaGreatDoor.Pure
