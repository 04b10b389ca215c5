/- The printed functions as operations on numbers, and the law's answer: true at every input. Conditions: those of each theorem; the law's own has the row's bounds alone. -/
import Derived.Laws.Bits64b
import Derived.Lib.BitFns
import Derived.Lib.ItoaNum
import Derived.Test.YtcfddphiflmnlaaDoorDecimalExponentsF6
import Derived.Test.YtcfddphiflmnlaaDoorDecimalExponentsWPlus

namespace Go.Proofs.YtcfddphiflmnlaaDoor.P
open Go.RowKit Go.Proofs.YtcfddphiflmnlaaDoorW.PrintWords
def val : List Nat → Nat
  | [] => 0
  | a :: l => a + 1000000000 * val l
def Ok (l : List Nat) : Prop := ∀ a, a ∈ l → a < 1000000000
def pcs (n : Nat) : List Nat := if h : n = 0 then [] else (n % 1000000000) :: pcs (n / 1000000000)
termination_by n
decreasing_by omega
theorem pcs_zero : pcs 0 = [] := by rw [pcs]; rfl
theorem pcs_pos {n : Nat} (h : n ≠ 0) : pcs n = (n % 1000000000) :: pcs (n / 1000000000) := by rw [pcs, dif_neg h]
theorem Ok.nil : Ok [] := fun _ h => by cases h
theorem Ok.cons {a : Nat} {l : List Nat} (ha : a < 1000000000) (hl : Ok l) : Ok (a :: l) := fun x hx => by
  rcases List.mem_cons.1 hx with rfl | hx
  · exact ha
  · exact hl x hx
theorem Ok.head {a : Nat} {l : List Nat} (h : Ok (a :: l)) : a < 1000000000 := h a List.mem_cons_self
theorem Ok.tail {a : Nat} {l : List Nat} (h : Ok (a :: l)) : Ok l := fun x hx => h x (List.mem_cons_of_mem _ hx)
theorem Ok.append {l m : List Nat} (hl : Ok l) (hm : Ok m) : Ok (l ++ m) := fun x hx => by
  rcases List.mem_append.1 hx with hx | hx
  · exact hl x hx
  · exact hm x hx
theorem Ok.left {l m : List Nat} (h : Ok (l ++ m)) : Ok l := fun x hx => h x (List.mem_append_left _ hx)
theorem Ok.right {l m : List Nat} (h : Ok (l ++ m)) : Ok m := fun x hx => h x (List.mem_append_right _ hx)
theorem Ok.take {l : List Nat} (h : Ok l) (i : Nat) : Ok (l.take i) := fun x hx => h x (List.mem_of_mem_take hx)
theorem Ok.drop {l : List Nat} (h : Ok l) (i : Nat) : Ok (l.drop i) := fun x hx => h x (List.mem_of_mem_drop hx)
theorem Ok.zeros (n : Nat) : Ok (List.replicate n 0) := fun x hx => by rw [(List.mem_replicate.1 hx).2]; omega
theorem Ok.getD {l : List Nat} (h : Ok l) (i : Nat) : l.getD i 0 < 1000000000 := by
  rw [List.getD_eq_getElem?_getD]
  by_cases hi : i < l.length
  · rw [List.getElem?_eq_getElem hi]; exact h _ (List.getElem_mem hi)
  · rw [List.getElem?_eq_none (by omega)]; simp
theorem ok_pcs (n : Nat) : Ok (pcs n) := by
  induction n using Nat.strongRecOn with
  | _ n ih =>
    by_cases h : n = 0
    · subst h; rw [pcs_zero]; exact Ok.nil
    · rw [pcs_pos h]; exact Ok.cons (by omega) (ih _ (by omega))
theorem val_pcs (n : Nat) : val (pcs n) = n := by
  induction n using Nat.strongRecOn with
  | _ n ih =>
    by_cases h : n = 0
    · subst h; rw [pcs_zero]; rfl
    · rw [pcs_pos h, val, ih _ (by omega)]; omega
theorem val_append (l m : List Nat) : val (l ++ m) = val l + 1000000000 ^ l.length * val m := by
  induction l with
  | nil => simp [val]
  | cons a l ih =>
    simp only [List.cons_append, val, ih, List.length_cons, Nat.pow_succ]
    rw [Nat.mul_add, Nat.add_assoc, ← Nat.mul_assoc, Nat.mul_comm 1000000000 (1000000000 ^ l.length)]
theorem val_snoc (l : List Nat) (a : Nat) : val (l ++ [a]) = val l + 1000000000 ^ l.length * a := by rw [val_append]; simp [val]
theorem val_zeros (n : Nat) : val (List.replicate n 0) = 0 := by
  induction n with
  | zero => rfl
  | succ n ih => rw [List.replicate_succ, val, ih]
theorem val_lt {l : List Nat} (h : Ok l) : val l < 1000000000 ^ l.length := by
  induction l with
  | nil => simp [val]
  | cons a l ih =>
    have h1 := h.head
    have h2 := ih h.tail
    simp only [val, List.length_cons, Nat.pow_succ]
    omega
theorem pow_pos9 (k : Nat) : 0 < 1000000000 ^ k := Nat.pow_pos (by decide)
theorem pcs_snoc : ∀ (l : List Nat) (a : Nat), Ok (l ++ [a]) → a ≠ 0 → pcs (val (l ++ [a])) = l ++ [a]
  | [], a, h, ha => by
    have := h.head
    have e : val ([] ++ [a]) = a := by simp [val]
    rw [e, pcs_pos ha, Nat.mod_eq_of_lt this, Nat.div_eq_of_lt this, pcs_zero]
    rfl
  | b :: l, a, h, ha => by
    have hb : b < 1000000000 := h.head
    have ih := pcs_snoc l a h.tail ha
    have hv : val (l ++ [a]) ≠ 0 := by
      intro e
      rw [e, pcs_zero] at ih
      exact absurd ih (by simp)
    have e : val (b :: l ++ [a]) = b + 1000000000 * val (l ++ [a]) := rfl
    rw [e, pcs_pos (by omega), show (b + 1000000000 * val (l ++ [a])) % 1000000000 = b by omega, show (b + 1000000000 * val (l ++ [a])) / 1000000000 = val (l ++ [a]) by omega, ih]
    rfl
theorem pcs_len_le {n k : Nat} (h : n < 1000000000 ^ k) : (pcs n).length ≤ k := by
  induction k generalizing n with
  | zero => rw [show n = 0 by simpa using h, pcs_zero]; simp
  | succ k ih =>
    by_cases h0 : n = 0
    · subst h0; rw [pcs_zero]; simp
    · rw [pcs_pos h0, List.length_cons]
      have := ih (n := n / 1000000000) (by rw [Nat.pow_succ] at h; omega)
      omega
theorem lt_pow_pcs (n : Nat) : n < 1000000000 ^ (pcs n).length := by
  have := val_lt (ok_pcs n)
  rwa [val_pcs] at this
theorem pcs_len_mono {a b : Nat} (h : a ≤ b) : (pcs a).length ≤ (pcs b).length := pcs_len_le (Nat.lt_of_le_of_lt h (lt_pow_pcs b))
theorem pcs_len_mul (a b : Nat) : (pcs (a * b)).length ≤ (pcs a).length + (pcs b).length := by
  apply pcs_len_le
  rw [Nat.pow_add]
  rcases Nat.eq_zero_or_pos b with h | h
  · subst h; exact Nat.mul_pos (pow_pos9 _) (pow_pos9 _)
  · exact Nat.lt_of_lt_of_le (Nat.mul_lt_mul_of_pos_right (lt_pow_pcs a) h) (Nat.mul_le_mul_left _ (Nat.le_of_lt (lt_pow_pcs b)))
theorem pcs_nil_iff {n : Nat} : pcs n = [] ↔ n = 0 := by
  constructor
  · intro h
    by_cases h0 : n = 0
    · exact h0
    · rw [pcs_pos h0] at h; cases h
  · rintro rfl; exact pcs_zero
theorem Ok.set {l : List Nat} (h : Ok l) (i x : Nat) (hx : x < 1000000000) : Ok (l.set i x) := fun a ha => by
  rcases List.mem_or_eq_of_mem_set ha with h1 | h1
  · exact h a h1
  · omega
def C (l : List Nat) : List Int := l.map fun n : Nat => (n : Int)
theorem C_nil : C [] = [] := rfl
theorem C_length (l : List Nat) : (C l).length = l.length := by simp [C]
theorem C_append (l m : List Nat) : C (l ++ m) = C l ++ C m := by simp [C]
theorem C_take (l : List Nat) (i : Nat) : (C l).take i = C (l.take i) := by simp [C, List.map_take]
theorem C_set (l : List Nat) (i x : Nat) : (C l).set i (x : Int) = C (l.set i x) := by simp [C, List.map_set]
theorem C_zeros (n : Nat) : List.replicate n (0 : Int) = C (List.replicate n 0) := by simp [C]
theorem rd_C (l : List Nat) (i : Nat) : rd (C l) (i : Int) = (l.getD i 0 : Nat) := by
  simp only [rd, C, Int.toNat_natCast, List.getD_eq_getElem?_getD, List.getElem?_map]
  cases l[i]? <;> simp
theorem w64 {n : Int} (h0 : -9223372036854775808 ≤ n) (h1 : n ≤ 9223372036854775807) : wrap64 n = n := by unfold wrap64; omega
theorem u64w {n : Int} (h0 : 0 ≤ n) (h1 : n ≤ 18446744073709551615) : IntKind.u64.wrap n = n := by rw [IntKind.wrap_u64]; omega
theorem u64n (n : Nat) (h : n < 18446744073709551616) : IntKind.u64.wrap (n : Int) = n := u64w (by omega) (by omega)
theorem tdivn (a b : Nat) : Int.tdiv (a : Int) (b : Int) = ((a / b : Nat) : Int) := (Int.ofNat_tdiv a b).symm
theorem tmodn (a b : Nat) : Int.tmod (a : Int) (b : Int) = ((a % b : Nat) : Int) := (Int.ofNat_tmod a b).symm
theorem tdiv9 (a : Nat) : Int.tdiv (a : Int) 1000000000 = ((a / 1000000000 : Nat) : Int) := tdivn a 1000000000
theorem tmod9 (a : Nat) : Int.tmod (a : Int) 1000000000 = ((a % 1000000000 : Nat) : Int) := tmodn a 1000000000
structure Sm (n : Nat) : Prop where
  out : n < 4611686018427387904
theorem Sm.le {a b : Nat} (h : Sm b) (hab : a ≤ b) : Sm a := ⟨Nat.lt_of_le_of_lt hab h.out⟩
theorem wadd {a b : Nat} (h : Sm (a + b)) : wrap64 ((a : Int) + (b : Int)) = ((a + b : Nat) : Int) := by have := h.out; rw [w64] <;> omega
theorem wsucc {a : Nat} (h : Sm a) : wrap64 ((a : Int) + 1) = ((a + 1 : Nat) : Int) := by have := h.out; rw [w64] <;> omega
theorem wpred1 {a : Nat} (h : Sm (a + 1)) : wrap64 (((a + 1 : Nat) : Int) - 1) = (a : Int) := by have := h.out; rw [w64] <;> omega
theorem wnat {a : Nat} (h : Sm a) : wrap64 (a : Int) = (a : Int) := by have := h.out; rw [w64] <;> omega
theorem usmall {n : Nat} (h : n < 1000000000000000000) : IntKind.u64.wrap (n : Int) = (n : Int) := u64n n (by omega)
theorem uadd {a b : Nat} (h : a + b < 18446744073709551616) : IntKind.u64.wrap ((a : Int) + (b : Int)) = ((a + b : Nat) : Int) := by rw [← Int.natCast_add]; exact u64n _ h
theorem umul {a b : Nat} (h : a * b < 18446744073709551616) : IntKind.u64.wrap ((a : Int) * (b : Int)) = ((a * b : Nat) : Int) := by rw [← Int.natCast_mul]; exact u64n _ h
end Go.Proofs.YtcfddphiflmnlaaDoor.P

namespace Go.Proofs.YtcfddphiflmnlaaDoor.P
open Go.RowKit Go.Proofs.YtcfddphiflmnlaaDoorW.PrintWords
theorem Ev.eq {α : Type} {g : Nat → Option α} {r r' : α} (h : Ev g r) (e : r = r') : Ev g r' := e ▸ h
theorem Ev.pos {α : Type} {p : Prop} [Decidable p] {g f : Nat → Option α} {r : α} (h : p) (k : Ev g r) : Ev (fun n => if p then g n else f n) r := by
  simp only [if_pos h]; exact k
theorem Ev.neg {α : Type} {p : Prop} [Decidable p] {g f : Nat → Option α} {r : α} (h : ¬ p) (k : Ev f r) : Ev (fun n => if p then g n else f n) r := by
  simp only [if_neg h]; exact k
theorem concat_of_len {α : Type} {l : List α} {n : Nat} (h : l.length = n + 1) : ∃ m a, l = m ++ [a] ∧ m.length = n := by
  rcases List.eq_nil_or_concat l with e | ⟨m, a, e⟩
  · subst e; simp at h
  · refine ⟨m, a, by simpa using e, ?_⟩
    subst e
    simpa using h
theorem getD_mid (l m : List Nat) (a : Nat) : (l ++ a :: m).getD l.length 0 = a := by
  simp [List.getD_eq_getElem?_getD]
theorem set_mid (l m : List Nat) (a b : Nat) : (l ++ a :: m).set l.length b = l ++ b :: m := by
  simp
theorem trim_l0 : ∀ (n : Nat) (l : List Nat), l.length = n → Ok l → n < 4611686018427387904 → Ev (fun k => decimal_pieces_trim.l0 k (C l)) (C (pcs (val l)))
  | 0, l, hl, _, _ => by
    obtain rfl := List.length_eq_zero_iff.1 hl
    refine Ev.step (f := fun _ => some []) (fun k => ?_) (Ev.eq (Ev.now _) ?_)
    · simp only [decimal_pieces_trim.l0, C_nil, List.length_nil]
      rfl
    · rw [show val [] = 0 from rfl, pcs_zero]; rfl
  | n + 1, l, hl, h, hn => by
    obtain ⟨m, a, rfl, hm⟩ := concat_of_len hl
    have h1 : (C (m ++ [a])).length = n + 1 := by rw [C_length]; exact hl
    have h3 : rd (C (m ++ [a])) (n : Int) = a := by rw [rd_C, ← hm, getD_mid]
    have h4 : wrap64 (((C (m ++ [a])).length : Int) - 1) = (n : Int) := by rw [h1, w64] <;> omega
    by_cases ha : a = 0
    · subst ha
      refine Ev.step (f := fun k => decimal_pieces_trim.l0 k (C m)) (fun k => ?_) (Ev.eq (trim_l0 n m hm h.left (by omega)) (by rw [val_snoc, Nat.mul_zero, Nat.add_zero]))
      simp (disch := omega) only [decimal_pieces_trim.l0, h4, h3, if_pos]
      congr 1
      rw [Int.toNat_natCast, C_take, ← hm, List.take_left]
    · refine Ev.step (f := fun _ => some (C (m ++ [a]))) (fun k => ?_) (Ev.eq (Ev.now _) (by rw [pcs_snoc m a h ha]))
      simp (disch := omega) only [decimal_pieces_trim.l0, h4, h3, if_pos, if_neg]
theorem trim_f (l : List Nat) (h : Ok l) (hl : l.length < 4611686018427387904) : Ev (fun k => decimal_pieces_trim.f k (C l)) (C (pcs (val l))) := by
  unfold decimal_pieces_trim.f
  exact trim_l0 _ l rfl h hl
def cmp (a b : Nat) : Int := if a < b then -1 else if b < a then 1 else 0
end Go.Proofs.YtcfddphiflmnlaaDoor.P

namespace Go.Proofs.YtcfddphiflmnlaaDoor.P
open Go.RowKit Go.Proofs.YtcfddphiflmnlaaDoorW.PrintWords
theorem snoc_ind {α : Type} {p : List α → Prop} (nil : p []) (snoc : ∀ (l : List α) (a : α), p l → p (l ++ [a])) (l : List α) : p l := by
  have h : ∀ (n : Nat) (l : List α), l.length = n → p l := by
    intro n
    induction n with
    | zero => intro l hl; rw [List.length_eq_zero_iff.1 hl]; exact nil
    | succ n ih =>
      intro l hl
      rcases List.eq_nil_or_concat l with e | ⟨m, a, e⟩
      · rw [e] at hl; simp at hl
      · have e' : l = m ++ [a] := by simpa using e
        subst e'
        exact snoc m a (ih m (by simpa using hl))
  exact h _ l rfl
def dv (l : List UInt8) : Nat := l.foldl (fun n c => 10 * n + (c.toNat - 48)) 0
def IsD (l : List UInt8) : Prop := ∀ c, c ∈ l → 48 ≤ c.toNat ∧ c.toNat ≤ 57
def Can (l : List UInt8) : Prop := IsD l ∧ (l.length = 1 ∨ (1 < l.length ∧ l.head? ≠ some 48))
theorem dv_nil : dv [] = 0 := rfl
theorem dv_snoc (l : List UInt8) (c : UInt8) : dv (l ++ [c]) = 10 * dv l + (c.toNat - 48) := by simp [dv, List.foldl_append]
theorem dv_append (l m : List UInt8) : dv (l ++ m) = dv l * 10 ^ m.length + dv m := by
  induction m using snoc_ind with
  | nil => simp [dv_nil]
  | snoc m c ih =>
    rw [← List.append_assoc, dv_snoc, ih, dv_snoc, List.length_append, List.length_singleton, Nat.pow_succ, Nat.mul_add, ← Nat.mul_assoc (dv l), Nat.mul_comm _ 10]
    omega
theorem IsD.nil : IsD [] := fun _ h => by cases h
theorem IsD.cons {c : UInt8} {l : List UInt8} (h1 : 48 ≤ c.toNat ∧ c.toNat ≤ 57) (h2 : IsD l) : IsD (c :: l) := fun x hx => by
  rcases List.mem_cons.1 hx with rfl | hx
  · exact h1
  · exact h2 x hx
theorem IsD.left {l m : List UInt8} (h : IsD (l ++ m)) : IsD l := fun x hx => h x (List.mem_append_left _ hx)
theorem IsD.right {l m : List UInt8} (h : IsD (l ++ m)) : IsD m := fun x hx => h x (List.mem_append_right _ hx)
theorem IsD.append {l m : List UInt8} (hl : IsD l) (hm : IsD m) : IsD (l ++ m) := fun x hx => by
  rcases List.mem_append.1 hx with hx | hx
  · exact hl x hx
  · exact hm x hx
theorem IsD.take {l : List UInt8} (h : IsD l) (i : Nat) : IsD (l.take i) := fun x hx => h x (List.mem_of_mem_take hx)
theorem IsD.drop {l : List UInt8} (h : IsD l) (i : Nat) : IsD (l.drop i) := fun x hx => h x (List.mem_of_mem_drop hx)
theorem dv_lt {l : List UInt8} (h : IsD l) : dv l < 10 ^ l.length := by
  induction l using snoc_ind with
  | nil => simp [dv_nil]
  | snoc m c ih =>
    have h1 := ih h.left
    have h2 := h.right c (by simp)
    rw [dv_snoc, List.length_append, List.length_singleton, Nat.pow_succ]
    omega
theorem digit_toNat {d : Nat} (h : d < 10) : (UInt8.ofNat (48 + d)).toNat = 48 + d := by
  rw [UInt8.toNat_ofNat']
  omega
theorem digit_of {c : UInt8} (h : 48 ≤ c.toNat ∧ c.toNat ≤ 57) : UInt8.ofNat (48 + (c.toNat - 48)) = c := by
  rw [show 48 + (c.toNat - 48) = c.toNat by omega]
  exact UInt8.ofNat_toNat
theorem dec_small {n : Nat} (h : n < 10) : Lib.decDigits n = [UInt8.ofNat (48 + n)] := by rw [Lib.decDigits, dif_pos h]
theorem dec_big {n : Nat} (h : 10 ≤ n) : Lib.decDigits n = Lib.decDigits (n / 10) ++ [UInt8.ofNat (48 + n % 10)] := by rw [Lib.decDigits, dif_neg (by omega)]
theorem isD_dec (n : Nat) : IsD (Lib.decDigits n) := by
  induction n using Nat.strongRecOn with
  | _ n ih =>
    by_cases h : n < 10
    · rw [dec_small h]
      refine IsD.cons ?_ IsD.nil
      rw [digit_toNat h]; omega
    · rw [dec_big (by omega)]
      refine (ih _ (by omega)).append (IsD.cons ?_ IsD.nil)
      rw [digit_toNat (by omega)]; omega
theorem dv_dec (n : Nat) : dv (Lib.decDigits n) = n := by
  induction n using Nat.strongRecOn with
  | _ n ih =>
    by_cases h : n < 10
    · rw [dec_small h, show [UInt8.ofNat (48 + n)] = [] ++ [UInt8.ofNat (48 + n)] from rfl, dv_snoc, digit_toNat h, dv_nil]; omega
    · rw [dec_big (by omega), dv_snoc, ih _ (by omega), digit_toNat (by omega)]; omega
theorem dec_len_pos (n : Nat) : 0 < (Lib.decDigits n).length := by rw [Lib.decDigits_length]; exact Lib.nDigits_pos n
theorem dec_dv : ∀ (k : Nat) (l : List UInt8), l.length = k → Can l → Lib.decDigits (dv l) = l
  | 0, l, hl, h => by rcases h.2 with h | h <;> omega
  | 1, l, hl, h => by
    rcases l with _ | ⟨c, _ | ⟨d, t⟩⟩
    · simp at hl
    · have hc := h.1 c (by simp)
      have : dv [c] = c.toNat - 48 := by rw [show [c] = [] ++ [c] from rfl, dv_snoc, dv_nil]; omega
      rw [this, dec_small (by omega), digit_of hc]
    · simp at hl
  | k + 2, l, hl, h => by
    obtain ⟨m, c, rfl⟩ : ∃ m c, l = m ++ [c] := by
      rcases List.eq_nil_or_concat l with e | ⟨m, c, e⟩
      · subst e; simp at hl
      · exact ⟨m, c, by simpa using e⟩
    have hm : m.length = k + 1 := by simpa using hl
    have h2 : 1 < (m ++ [c]).length ∧ (m ++ [c]).head? ≠ some 48 := by
      rcases h.2 with h2 | h2
      · omega
      · exact h2
    have hh : m.head? ≠ some 48 := by
      have := h2.2
      rcases m with _ | ⟨a, t⟩
      · simp at hm
      · simpa using this
    have hc := h.1.right c (by simp)
    have hmc : Can m := ⟨h.1.left, by
      by_cases h3 : m.length = 1
      · exact Or.inl h3
      · exact Or.inr ⟨by omega, hh⟩⟩
    have ih := dec_dv (k + 1) m hm hmc
    have h0 : dv m ≠ 0 := by
      intro e
      rw [e] at ih
      have e1 : Lib.decDigits 0 = [48] := dec_small (by omega)
      rw [e1] at ih
      rw [← ih] at hh
      exact hh rfl
    rw [dv_snoc, dec_big (by omega), show (10 * dv m + (c.toNat - 48)) / 10 = dv m by omega, ih, show (10 * dv m + (c.toNat - 48)) % 10 = c.toNat - 48 by omega, digit_of hc]
theorem dec_inj {a b : Nat} (h : Lib.decDigits a = Lib.decDigits b) : a = b := by rw [← dv_dec a, h, dv_dec]
def S (n : Nat) : ByteArray := ⟨(Lib.decDigits n).toArray⟩
theorem S_list (n : Nat) : (S n).data.toList = Lib.decDigits n := by simp [S]
theorem S_size (n : Nat) : (S n).size = Lib.nDigits n := by simp [S, ByteArray.size, Lib.decDigits_length]
theorem S_of {s : ByteArray} (h : Can s.data.toList) : s = S (dv s.data.toList) := by
  rw [S, dec_dv _ _ rfl h]
theorem nDig_mono {a b : Nat} (h : a ≤ b) : Lib.nDigits a ≤ Lib.nDigits b := by
  induction b using Nat.strongRecOn generalizing a with
  | _ b ih =>
    by_cases hb : b < 10
    · rw [Lib.nDigits_small hb, Lib.nDigits_small (by omega)]; omega
    · rw [Lib.nDigits_big hb]
      by_cases ha : a < 10
      · rw [Lib.nDigits_small ha]; omega
      · rw [Lib.nDigits_big ha]
        have := ih (b / 10) (by omega) (a := a / 10) (by omega)
        omega
theorem nDig_le {n k : Nat} (hk : 0 < k) (h : n < 10 ^ k) : Lib.nDigits n ≤ k := by
  induction k generalizing n with
  | zero => omega
  | succ k ih =>
    by_cases hn : n < 10
    · rw [Lib.nDigits_small hn]; omega
    · rw [Lib.nDigits_big hn]
      rcases Nat.eq_zero_or_pos k with h0 | h0
      · subst h0; simp at h; omega
      · have := ih (n := n / 10) h0 (by rw [Nat.pow_succ] at h; omega)
        omega
end Go.Proofs.YtcfddphiflmnlaaDoor.P

namespace Go.Proofs.YtcfddphiflmnlaaDoor.P
open Go.RowKit Go.Proofs.YtcfddphiflmnlaaDoorW.PrintWords
def rdig (n : Nat) : List UInt8 := (Lib.decDigits n).reverse
def dgs : Nat → Nat → List UInt8
  | 0, _ => []
  | j + 1, n => UInt8.ofNat (48 + n % 10) :: dgs j (n / 10)
theorem rdig_small {n : Nat} (h : n < 10) : rdig n = [UInt8.ofNat (48 + n)] := by rw [rdig, dec_small h]; rfl
theorem rdig_big {n : Nat} (h : 10 ≤ n) : rdig n = UInt8.ofNat (48 + n % 10) :: rdig (n / 10) := by
  rw [rdig, dec_big h, List.reverse_append]; rfl
theorem rdig_piece : ∀ (j n m : Nat), n < 10 ^ j → m ≠ 0 → rdig (n + 10 ^ j * m) = dgs j n ++ rdig m
  | 0, n, m, h, hm => by
    have : n = 0 := by simpa using h
    subst this
    simp [dgs]
  | j + 1, n, m, h, hm => by
    have e : 10 ^ (j + 1) = 10 * 10 ^ j := by rw [Nat.pow_succ, Nat.mul_comm]
    rw [e] at h ⊢
    have hp : 1 ≤ 10 ^ j * m := Nat.mul_pos (Nat.pow_pos (by decide)) (by omega)
    rw [Nat.mul_assoc, rdig_big (by omega), dgs, show (n + 10 * (10 ^ j * m)) / 10 = n / 10 + 10 ^ j * m by omega, show (n + 10 * (10 ^ j * m)) % 10 = n % 10 by omega, rdig_piece j (n / 10) m (by omega) hm]
    rfl
theorem dec_val_cons {n m : Nat} (h : n < 1000000000) (hm : m ≠ 0) : rdig (n + 1000000000 * m) = dgs 9 n ++ rdig m := rdig_piece 9 n m h hm
theorem dv_cons (c : UInt8) (l : List UInt8) : dv (c :: l) = (c.toNat - 48) * 10 ^ l.length + dv l := by
  have := dv_append [c] l
  rw [show dv [c] = c.toNat - 48 by rw [show [c] = [] ++ [c] from rfl, dv_snoc, dv_nil]; omega] at this
  exact this
theorem lex_dv : ∀ (l m : List UInt8), l.length = m.length → IsD l → IsD m → (l < m ↔ dv l < dv m)
  | [], [], _, _, _ => by simp [dv_nil]
  | [], _ :: _, h, _, _ => by simp at h
  | _ :: _, [], h, _, _ => by simp at h
  | a :: l, b :: m, h, hl, hm => by
    have ha := hl a (by simp)
    have hb := hm b (by simp)
    have hl' : IsD l := IsD.right (l := [a]) hl
    have hm' : IsD m := IsD.right (l := [b]) hm
    have h' : l.length = m.length := by simpa using h
    have ih := lex_dv l m h' hl' hm'
    have k1 := dv_lt hl'
    have k2 := dv_lt hm'
    rw [dv_cons, dv_cons, List.cons_lt_cons_iff]
    rw [h'] at k1 ⊢
    constructor
    · rintro (h1 | ⟨rfl, h1⟩)
      · have h2 : a.toNat < b.toNat := h1
        have h3 : (a.toNat - 48 + 1) * 10 ^ m.length ≤ (b.toNat - 48) * 10 ^ m.length := Nat.mul_le_mul_right _ (by omega)
        rw [Nat.succ_mul] at h3
        omega
      · have := ih.1 h1
        omega
    · intro h1
      rcases Nat.lt_trichotomy a.toNat b.toNat with h2 | h2 | h2
      · exact Or.inl h2
      · have e : a = b := UInt8.toNat_inj.1 h2
        subst e
        exact Or.inr ⟨rfl, ih.2 (by omega)⟩
      · have h3 : (b.toNat - 48 + 1) * 10 ^ m.length ≤ (a.toNat - 48) * 10 ^ m.length := Nat.mul_le_mul_right _ (by omega)
        rw [Nat.succ_mul] at h3
        omega
theorem dec_lt_of_len {a b : Nat} (h : Lib.nDigits a < Lib.nDigits b) : a < b := by
  rcases Nat.lt_or_ge a b with h1 | h1
  · exact h1
  · have := nDig_mono h1
    omega
theorem dec_lex {a b : Nat} (h : Lib.nDigits a = Lib.nDigits b) : Lib.decDigits a < Lib.decDigits b ↔ a < b := by
  have := lex_dv (Lib.decDigits a) (Lib.decDigits b) (by rw [Lib.decDigits_length, Lib.decDigits_length, h]) (isD_dec a) (isD_dec b)
  rwa [dv_dec, dv_dec] at this
end Go.Proofs.YtcfddphiflmnlaaDoor.P

namespace Go.Proofs.YtcfddphiflmnlaaDoor.P
open Go.RowKit Go.Proofs.YtcfddphiflmnlaaDoorW.PrintWords
def B8 (l : List UInt8) : List Int := l.map fun b => (b.toNat : Int)
theorem B8_length (l : List UInt8) : (B8 l).length = l.length := by simp [B8]
theorem B8_append (l m : List UInt8) : B8 (l ++ m) = B8 l ++ B8 m := by simp [B8]
theorem rd_B8 (P Q : List UInt8) (c : UInt8) (i : Nat) (h : P.length = i) : rd (B8 (P ++ c :: Q)) (i : Int) = (c.toNat : Int) := by
  subst h
  simp [rd, B8, List.getD_eq_getElem?_getD]
theorem extract_list (s : ByteArray) (a b : Nat) : (s.extract a b).data.toList = (s.data.toList.take b).drop a := by
  simp [List.drop_take]
theorem size_list (s : ByteArray) : s.size = s.data.toList.length := (data_length s).symm
theorem dstep {n : Nat} {c : UInt8} (hc : 48 ≤ c.toNat ∧ c.toNat ≤ 57) (hn : 10 * n + (c.toNat - 48) < 18446744073709551616) : IntKind.u64.wrap (IntKind.u64.wrap (10 * (n : Int)) + ((c.toNat : Int) - 48) % 256) = ((10 * n + (c.toNat - 48) : Nat) : Int) := by
  have h1 : ((c.toNat : Int) - 48) % 256 = ((c.toNat - 48 : Nat) : Int) := by omega
  rw [h1, show (10 : Int) * n = ((10 * n : Nat) : Int) by omega, u64n _ (by omega), uadd hn]
theorem dv_bound {P Q : List UInt8} (c : UInt8) (h : IsD (P ++ c :: Q)) (hl : (P ++ c :: Q).length ≤ 19) : 10 * dv P + (c.toNat - 48) < 18446744073709551616 := by
  have h1 : IsD (P ++ [c]) := by
    have : P ++ c :: Q = (P ++ [c]) ++ Q := by simp
    rw [this] at h
    exact h.left
  have h2 := dv_lt h1
  have h3 : 10 ^ (P ++ [c]).length ≤ 10 ^ 19 := Nat.pow_le_pow_right (by decide) (by simp at hl ⊢; omega)
  rw [dv_snoc] at h2
  omega
theorem cut_step (k : Nat) (s : ByteArray) (acc : List Int) (e : Int) (P Q : List UInt8) (c : UInt8) (h : IsD (P ++ c :: Q)) (hl : (P ++ c :: Q).length ≤ 18) (n : Int) (hn : n = ((P ++ c :: Q).length : Nat)) :
    decimal_cut.l1 (k + 1) s acc e (dv P : Int) (B8 (P ++ c :: Q)) n (P.length : Int) = decimal_cut.l1 k s acc e (dv (P ++ [c]) : Int) (B8 (P ++ c :: Q)) n ((P ++ [c]).length : Int) := by
  have e1 := rd_B8 P Q c P.length rfl
  have e2 := dstep (h c (by simp)) (dv_bound c h (by omega))
  have e3 := wsucc (a := P.length) ⟨by simp at hl; omega⟩
  have hl2 : (B8 (P ++ c :: Q)).length = P.length + (Q.length + 1) := by rw [B8_length]; simp
  rw [show (P ++ c :: Q).length = P.length + (Q.length + 1) by simp] at hn
  simp only [decimal_cut.l1, e1, e2, e3]
  clear e1 e2 e3
  simp (disch := omega) only [if_pos]
  rw [dv_snoc, List.length_append, List.length_singleton]
theorem cut_l1 (s : ByteArray) (acc : List Nat) (e : Int) (hacc : acc.length < 17592186044416) : ∀ (Q P : List UInt8) (n : Int) (r : List Int), n = ((P ++ Q).length : Nat) → IsD (P ++ Q) → (P ++ Q).length ≤ 18 →
    Ev (fun k => decimal_cut.l0 k s (C (acc ++ [dv (P ++ Q)])) (wrap64 (e - 9))) r → Ev (fun k => decimal_cut.l1 k s (C acc) e (dv P : Int) (B8 (P ++ Q)) n (P.length : Int)) r
  | [], P, n, r, hn, _, _, h => by
    rw [List.append_nil] at h hn ⊢
    refine Ev.step (fun k => ?_) h
    have hl2 : (C acc).length = acc.length := C_length _
    simp (disch := omega) only [decimal_cut.l1, if_neg, if_pos]
    rw [C_append]
    rfl
  | c :: Q, P, n, r, hn, hD, hl, h => by
    have e0 : P ++ c :: Q = (P ++ [c]) ++ Q := by simp
    refine Ev.step (fun k => cut_step k s (C acc) e P Q c hD hl n hn) ?_
    rw [e0] at hn hD hl h ⊢
    exact cut_l1 s acc e hacc Q (P ++ [c]) n r hn hD hl h
theorem chunk {l : List UInt8} {e st : Nat} (he : e ≤ l.length) (hst : st = e - 9) : dv (l.take e) = dv ((l.take e).drop st) + 1000000000 * dv (l.take st) ∧ ((l.take e).drop st).length = e - st := by
  have hl : ((l.take e).drop st).length = e - st := by rw [List.length_drop, List.length_take]; omega
  refine ⟨?_, hl⟩
  have h1 := dv_append ((l.take e).take st) ((l.take e).drop st)
  rw [List.take_append_drop, List.take_take, Nat.min_eq_left (by omega), hl] at h1
  rw [h1]
  rcases Nat.eq_zero_or_pos st with h2 | h2
  · rw [h2, List.take_zero, dv_nil]; omega
  · rw [show e - st = 9 by omega]
    have : (10 : Nat) ^ 9 = 1000000000 := by decide
    rw [this, Nat.mul_comm]
    omega
theorem cut_l0 (s : ByteArray) (hD : IsD s.data.toList) : ∀ (m e : Nat) (acc : List Nat) (x : Int), e ≤ m → e ≤ s.size → (x = (e : Int) ∨ e = 0 ∧ x ≤ 0) → Ok acc → acc.length + e < 17592186044416 →
    Ev (fun k => decimal_cut.l0 k s (C acc) x) (C (pcs (val acc + 1000000000 ^ acc.length * dv (s.data.toList.take e))))
  | 0, e, acc, x, hm, _, hx, hacc, hl => by
    obtain rfl : e = 0 := by omega
    refine Ev.step (f := fun k => (decimal_pieces_trim.f k (C acc)).bind fun t => some t) (fun k => ?_) (Ev.eq (Ev.bind (trim_f acc hacc (by omega)) (Ev.now _)) ?_)
    · simp (disch := omega) only [decimal_cut.l0, if_neg]
    · rw [List.take_zero, dv_nil, Nat.mul_zero, Nat.add_zero]
  | m + 1, e, acc, x, hm, hs, hx, hacc, hl => by
    rcases Nat.eq_zero_or_pos e with h0 | h0
    · exact cut_l0 s hD 0 e acc x (by omega) hs hx hacc hl
    · obtain rfl : x = (e : Int) := by omega
      obtain ⟨st, hst⟩ : ∃ st, st = e - 9 := ⟨_, rfl⟩
      rw [size_list] at hs
      obtain ⟨h1, h2⟩ := chunk hs hst
      have hsub := extract_list s st e
      have hw : wrap64 ((e : Int) - 9) = (e : Int) - 9 := w64 (by omega) (by omega)
      have hmx : mx 0 ((e : Int) - 9) = (st : Int) := by unfold mx; split <;> omega
      have hDs : IsD ((s.data.toList.take e).drop st) := (hD.take e).drop st
      have hdl := dv_lt hDs
      have hpow : 10 ^ ((s.data.toList.take e).drop st).length ≤ 10 ^ 9 := Nat.pow_le_pow_right (by decide) (by omega)
      have h9 : (10 : Nat) ^ 9 = 1000000000 := by decide
      have ih := cut_l0 s hD m st (acc ++ [dv ((s.data.toList.take e).drop st)]) ((e : Int) - 9) (by omega) (by rw [size_list]; omega) (by omega) (hacc.append (Ok.cons (by omega) Ok.nil)) (by rw [List.length_append, List.length_singleton]; omega)
      have hv : val (acc ++ [dv ((s.data.toList.take e).drop st)]) + 1000000000 ^ (acc ++ [dv ((s.data.toList.take e).drop st)]).length * dv (s.data.toList.take st) = val acc + 1000000000 ^ acc.length * dv (s.data.toList.take e) := by
        rw [val_snoc, h1, List.length_append, List.length_singleton, Nat.pow_succ, Nat.mul_add, Nat.mul_assoc, Nat.add_assoc]
      rw [hv] at ih
      have key := cut_l1 s acc (e : Int) (by omega) ((s.data.toList.take e).drop st) [] ((((s.data.toList.take e).drop st).length : Nat) : Int) _ rfl hDs (by rw [List.nil_append]; omega) (by rw [List.nil_append, hw]; exact ih)
      refine Ev.step (fun k => ?_) key
      have hsz : (s.extract st e).size = e - st := by rw [size_list, hsub, h2]
      have hb : bytesOf (s.extract st e) = B8 ((s.data.toList.take e).drop st) := by rw [← hsub]; rfl
      have hsl : (s.size : Int) = (s.data.toList.length : Int) := by rw [size_list]
      simp only [decimal_cut.l0, hw, hmx, Int.toNat_natCast, hsz, hb, B8_length, Option.bind_some, hsl]
      clear hv ih key hw hmx hdl hpow hb hsub hD hDs
      simp (disch := omega) only [if_pos]
      rfl
theorem cut_of (s : ByteArray) (hD : IsD s.data.toList) (hs : s.size < 17592186044416) : Ev (fun k => decimal_cut.f k s) (C (pcs (dv s.data.toList))) := by
  have key := cut_l0 s hD s.size s.size [] (s.size : Int) (Nat.le_refl _) (Nat.le_refl _) (Or.inl rfl) Ok.nil (by simpa using hs)
  have e0 : val ([] : List Nat) + 1000000000 ^ ([] : List Nat).length * dv (s.data.toList.take s.size) = dv s.data.toList := by
    rw [size_list, List.take_length]; simp [val]
  rw [e0] at key
  have e1 : wrap64 ((s.size : Int) / 9) = (((s.size / 9 : Nat)) : Int) := by rw [w64 (by omega) (by omega)]; omega
  have e2 := wsucc (a := s.size / 9) ⟨by omega⟩
  unfold decimal_cut.f
  simp only [e1, e2, Int.toNat_natCast]
  clear e1 e2
  simp (disch := omega) only [if_pos]
  exact key
theorem cut_f (n : Nat) (hs : Lib.nDigits n < 17592186044416) : Ev (fun k => decimal_cut.f k (S n)) (C (pcs n)) := by
  have := cut_of (S n) (by rw [S_list]; exact isD_dec n) (by rw [S_size]; exact hs)
  rwa [S_list, dv_dec] at this
end Go.Proofs.YtcfddphiflmnlaaDoor.P

namespace Go.Proofs.YtcfddphiflmnlaaDoor.P
open Go.RowKit Go.Proofs.YtcfddphiflmnlaaDoorW.PrintWords
theorem toList_data (s : ByteArray) : s.toList = s.data.toList := ByteArray.toList_eq s
def digB (c : UInt8) : Bool := decide (48 ≤ c.toNat ∧ c.toNat ≤ 57)
def canb (l : List UInt8) : Bool := l.all digB && (decide (l.length = 1) || (decide (1 < l.length) && (l.head? != some 48)))
theorem all_dig (l : List UInt8) : l.all digB = true ↔ IsD l := by
  simp [List.all_eq_true, digB, IsD]
theorem canb_iff (l : List UInt8) : canb l = true ↔ Can l := by
  unfold canb Can
  rw [Bool.and_eq_true, all_dig]
  simp
end Go.Proofs.YtcfddphiflmnlaaDoor.P

namespace Go.Proofs.YtcfddphiflmnlaaDoor.P
open Go.RowKit Go.Proofs.YtcfddphiflmnlaaDoorW.PrintWords
theorem nDig_lt {n : Nat} {k : Nat} (h : Lib.nDigits n ≤ k) : n < 10 ^ k := Nat.lt_of_lt_of_le (Lib.lt_pow_nDigits n) (Nat.pow_le_pow_right (by decide) h)
theorem bless : ∀ (l m : List UInt8), Op.bytesLess l m = true ↔ l < m
  | [], [] => by simp [Op.bytesLess]
  | [], _ :: _ => by simp [Op.bytesLess]
  | _ :: _, [] => by simp [Op.bytesLess]
  | a :: l, b :: m => by
    rw [List.cons_lt_cons_iff]
    simp [Op.bytesLess, bless l m]
theorem bless_S {a b : Nat} (h : Lib.nDigits a = Lib.nDigits b) : Op.bytesLess (S a).toList (S b).toList = true ↔ a < b := by
  rw [bless, toList_data, toList_data, S_list, S_list, dec_lex h]
theorem S_eq_iff {a b : Nat} : (S a).toList = (S b).toList ↔ a = b := by
  rw [toList_data, toList_data, S_list, S_list]
  exact ⟨dec_inj, fun h => by rw [h]⟩
theorem compareS_f (a b : Nat) (ha : Lib.nDigits a < 4611686018427387904) (hb : Lib.nDigits b < 4611686018427387904) : decimal_Compare.f (S a) (S b) = some (cmp a b) := by
  unfold decimal_Compare.f cmp
  rw [S_size, S_size]
  by_cases h : Lib.nDigits a = Lib.nDigits b
  · rw [if_pos (by omega)]
    by_cases h2 : a < b
    · rw [if_pos ((bless_S h).2 h2), if_pos h2]
    · rw [if_neg (fun e => h2 ((bless_S h).1 e)), if_neg h2]
      by_cases h3 : b < a
      · rw [if_pos ((bless_S h.symm).2 h3), if_pos h3]
      · rw [if_neg (fun e => h3 ((bless_S h.symm).1 e)), if_neg h3]
  · rw [if_neg (by omega), w64 (by omega) (by omega)]
    unfold mn mx
    by_cases h2 : Lib.nDigits a < Lib.nDigits b
    · rw [if_pos (dec_lt_of_len h2)]
      congr 1
      split <;> split <;> omega
    · have := dec_lt_of_len (a := b) (b := a) (by omega)
      rw [if_neg (show ¬ a < b by omega), if_pos this]
      congr 1
      split <;> split <;> omega
theorem parse_dig : ∀ (l : List UInt8) (acc : Nat), IsD l → Lib.parseUintM 18446744073709551615 acc l = if l = [] ∨ acc * 10 ^ l.length + dv l < 18446744073709551616 then .ok (acc * 10 ^ l.length + dv l) else .range
  | [], acc, _ => by simp [Lib.parseUintM, dv_nil]
  | c :: l, acc, h => by
    have hc := h c (by simp)
    have ih := parse_dig l (acc * 10 + (c.toNat - 48)) (IsD.right (l := [c]) h)
    have e : (acc * 10 + (c.toNat - 48)) * 10 ^ l.length + dv l = acc * 10 ^ (c :: l).length + dv (c :: l) := by
      rw [dv_cons, List.length_cons, Nat.pow_succ, Nat.add_mul, Nat.mul_assoc, Nat.mul_comm 10 (10 ^ l.length), Nat.add_assoc]
    have hp : 1 ≤ 10 ^ l.length := Nat.pow_pos (by decide)
    have hge : acc * 10 + (c.toNat - 48) ≤ acc * 10 ^ (c :: l).length + dv (c :: l) := by
      rw [← e]
      have : (acc * 10 + (c.toNat - 48)) * 1 ≤ (acc * 10 + (c.toNat - 48)) * 10 ^ l.length := Nat.mul_le_mul_left _ hp
      omega
    unfold Lib.parseUintM
    rw [if_pos hc]
    by_cases h1 : 1844674407370955162 ≤ acc
    · rw [if_pos h1, if_neg]
      rintro (h2 | h2)
      · cases h2
      · omega
    · rw [if_neg h1]
      by_cases h2 : 18446744073709551615 < acc * 10 + (c.toNat - 48)
      · rw [if_pos h2, if_neg]
        rintro (h3 | h3)
        · cases h3
        · omega
      · rw [if_neg h2, ih, e]
        by_cases h3 : acc * 10 ^ (c :: l).length + dv (c :: l) < 18446744073709551616
        · rw [if_pos (Or.inr h3), if_pos (Or.inr h3)]
        · have n1 : ¬ ((c :: l) = [] ∨ acc * 10 ^ (c :: l).length + dv (c :: l) < 18446744073709551616) := fun h4 => h4.elim (fun h5 => by cases h5) h3
          have n2 : ¬ (l = [] ∨ acc * 10 ^ (c :: l).length + dv (c :: l) < 18446744073709551616) := fun h4 => h4.elim (fun h5 => by
            rw [h5] at e h3
            rw [← e] at h3
            simp only [List.length_nil, Nat.pow_zero, dv_nil] at h3
            omega) h3
          rw [if_neg n1, if_neg n2]
theorem small_S (n : Nat) (hn : Lib.nDigits n ≤ 281474976710656) : decimal_Small.f (S n) = some (if n < 18446744073709551616 then ((n : Int), true) else (0, false)) := by
  unfold decimal_Small.f
  have hne : Lib.decDigits n ≠ [] := by have := dec_len_pos n; intro e; rw [e] at this; simp at this
  have h64 : (2 : Nat) ^ 64 - 1 = 18446744073709551615 := by decide
  rw [S_size, if_pos hn, S_list, Lib.parseUintB, if_neg hne, h64, parse_dig _ _ (isD_dec n), dv_dec, Nat.zero_mul, Nat.zero_add]
  by_cases h : n < 18446744073709551616
  · rw [if_pos (Or.inr h), if_pos h]
  · rw [if_neg (fun h1 => h1.elim hne h), if_neg h]
theorem of_f (n : Nat) (h : n < 18446744073709551616) : decimal_Of.f (n : Int) = some (S n) := by
  unfold decimal_Of.f
  rw [if_pos (by omega), Int.toNat_natCast]
  rfl
end Go.Proofs.YtcfddphiflmnlaaDoor.P

namespace Go.Proofs.YtcfddphiflmnlaaDoor.P
open Go.RowKit Go.Proofs.YtcfddphiflmnlaaDoorW.PrintWords
theorem strOfNums_B8 (l : List UInt8) : strOfNums (B8 l) = ⟨l.toArray⟩ := by
  have e : ((fun n : Int => UInt8.ofNat n.toNat) ∘ fun b : UInt8 => (b.toNat : Int)) = id := funext fun b => by simp
  rw [strOfNums, B8, List.map_map, e, List.map_id]
theorem zero_str : (⟨#[48]⟩ : ByteArray) = S 0 := S_of ((canb_iff _).1 (by decide))
theorem wf_u8 {x : Int} (h : (Lit.int .u8 x).wf = true) : 0 ≤ x ∧ x ≤ 255 := by
  have h1 : IntKind.u8.min = 0 := by decide
  have h2 : IntKind.u8.max = 255 := by decide
  simpa only [Lit.wf, h1, h2, Bool.and_eq_true, decide_eq_true_eq] using h
end Go.Proofs.YtcfddphiflmnlaaDoor.P

namespace Go.Proofs.YtcfddphiflmnlaaDoor.P
open Go.RowKit Go.Proofs.YtcfddphiflmnlaaDoorW.PrintWords
theorem rd_at (L W : List Nat) (x : Nat) (i : Nat) (h : L.length = i) : rd (C (L ++ x :: W)) (i : Int) = x := by rw [rd_C, ← h, getD_mid]
theorem set_at (L W : List Nat) (x y : Nat) (i : Nat) (h : L.length = i) : (C (L ++ x :: W)).set (i : Int).toNat (y : Int) = C (L ++ y :: W) := by rw [Int.toNat_natCast, C_set, ← h, set_mid]
def addrow : Nat → List Nat → List Nat → List Nat
  | _, [], _ => []
  | c, x :: W, [] => ((c + x) % 1000000000) :: W
  | c, x :: W, b :: Q => ((c + x + b) % 1000000000) :: addrow ((c + x + b) / 1000000000) W Q
theorem addrow_spec : ∀ (Q W : List Nat) (c : Nat), W.length = Q.length + 1 → Ok W → Ok Q → c ≤ 1 →
    (addrow c W Q).length = W.length ∧ Ok (addrow c W Q) ∧ ∃ d, d ≤ 1 ∧ val (addrow c W Q) + 1000000000 ^ W.length * d = val W + val Q + c
  | [], [x], c, _, hW, _, hc => by
    have := hW.head
    refine ⟨rfl, Ok.cons (by omega) Ok.nil, (c + x) / 1000000000, by omega, ?_⟩
    simp only [addrow, val, List.length_cons, List.length_nil]
    omega
  | [], [], _, h, _, _, _ => by simp at h
  | [], _ :: _ :: _, _, h, _, _, _ => by simp at h
  | b :: Q, [], c, h, _, _, _ => by simp at h
  | b :: Q, x :: W, c, h, hW, hQ, hc => by
    have h1 := hW.head
    have h2 := hQ.head
    obtain ⟨i1, i2, d, i3, i4⟩ := addrow_spec Q W ((c + x + b) / 1000000000) (by simpa using h) hW.tail hQ.tail (by omega)
    refine ⟨by simp [addrow, i1], Ok.cons (by omega) i2, d, i3, ?_⟩
    simp only [addrow, val, List.length_cons, Nat.pow_succ]
    rw [Nat.mul_comm (1000000000 ^ W.length) 1000000000, Nat.mul_assoc]
    omega
theorem add3 {c x b : Nat} (hc : c ≤ 1) (hx : x < 1000000000) (hb : b < 1000000000) : IntKind.u64.wrap (IntKind.u64.wrap ((c : Int) + (x : Int)) + (b : Int)) = ((c + x + b : Nat) : Int) ∧ IntKind.u64.wrap (((c + x + b) / 1000000000 : Nat) : Int) = (((c + x + b) / 1000000000 : Nat) : Int) ∧ (c + x + b) / 1000000000 ≤ 1 := by
  refine ⟨?_, usmall (by omega), by omega⟩
  rw [uadd (by omega), uadd (by omega)]
theorem add2 {c x : Nat} (hc : c ≤ 1) (hx : x < 1000000000) : IntKind.u64.wrap ((c : Int) + (x : Int)) = ((c + x : Nat) : Int) ∧ IntKind.u64.wrap (((c + x) / 1000000000 : Nat) : Int) = (((c + x) / 1000000000 : Nat) : Int) := ⟨uadd (by omega), usmall (by omega)⟩
theorem back_step0 (k : Nat) (Q1 L R : List Nat) (x at_ c : Nat) (hL : L.length = at_ + Q1.length) (hc : c ≤ 1) (hx : x < 1000000000) (hs : Sm (at_ + Q1.length)) (hs1 : Sm Q1.length) :
    decimal_pieces_back.l0 (k + 1) (C (L ++ x :: R)) (C Q1) (at_ : Int) (c : Int) (Q1.length : Int) = decimal_pieces_back.l0 k (C (L ++ ((c + x) % 1000000000) :: R)) (C Q1) (at_ : Int) ((((c + x) / 1000000000 : Nat)) : Int) ((Q1.length + 1 : Nat) : Int) := by
  have hl1 : (C Q1).length = Q1.length := C_length _
  have hl0 : (C (L ++ x :: R)).length = at_ + Q1.length + (R.length + 1) := by rw [C_length]; simp [hL]
  have e1 := wadd hs
  have e2 := rd_at L R x (at_ + Q1.length) hL
  obtain ⟨e3, e4⟩ := add2 hc hx
  have e5 := wsucc hs1
  have e6 := set_at L R x ((c + x) % 1000000000) _ hL
  simp only [decimal_pieces_back.l0, e1, e2, e3, tdiv9, tmod9, e4, e5, e6]
  clear e1 e2 e3 e4 e5 e6
  simp (disch := omega) only [if_pos, if_neg]
theorem back_step1 (k : Nat) (Q1 Q2 L R : List Nat) (x b at_ c : Nat) (hL : L.length = at_ + Q1.length) (hc : c ≤ 1) (hx : x < 1000000000) (hb : b < 1000000000) (hs : Sm (at_ + Q1.length)) (hs1 : Sm Q1.length) :
    decimal_pieces_back.l0 (k + 1) (C (L ++ x :: R)) (C (Q1 ++ b :: Q2)) (at_ : Int) (c : Int) (Q1.length : Int) = decimal_pieces_back.l0 k (C (L ++ ((c + x + b) % 1000000000) :: R)) (C (Q1 ++ b :: Q2)) (at_ : Int) ((((c + x + b) / 1000000000 : Nat)) : Int) ((Q1.length + 1 : Nat) : Int) := by
  have hl1 : (C (Q1 ++ b :: Q2)).length = Q1.length + (Q2.length + 1) := by rw [C_length]; simp
  have hl0 : (C (L ++ x :: R)).length = at_ + Q1.length + (R.length + 1) := by rw [C_length]; simp [hL]
  have e1 := wadd hs
  have e2 := rd_at L R x (at_ + Q1.length) hL
  have e7 := rd_at Q1 Q2 b Q1.length rfl
  obtain ⟨e3, e4, _⟩ := add3 hc hx hb
  have e5 := wsucc hs1
  have e6 := set_at L R x ((c + x + b) % 1000000000) _ hL
  simp only [decimal_pieces_back.l0, e1, e2, e7, e3, tdiv9, tmod9, e4, e5, e6]
  clear e1 e2 e3 e4 e5 e6 e7
  simp (disch := omega) only [if_pos]
theorem back_end (k : Nat) (p q : List Int) (y c : Int) (z : Nat) (hz : z = q.length + 1) : decimal_pieces_back.l0 (k + 1) p q y c (z : Int) = some p := by
  simp (disch := omega) only [decimal_pieces_back.l0, if_neg]
theorem back_l0 : ∀ (Q2 Q1 L W R : List Nat) (at_ c : Nat), W.length = Q2.length + 1 → L.length = at_ + Q1.length → Ok W → Ok Q2 → c ≤ 1 → Sm (at_ + (Q1 ++ Q2).length) →
    Ev (fun k => decimal_pieces_back.l0 k (C (L ++ W ++ R)) (C (Q1 ++ Q2)) (at_ : Int) (c : Int) (Q1.length : Int)) (C (L ++ addrow c W Q2 ++ R))
  | [], Q1, L, [x], R, at_, c, _, hL, hW, _, hc, hs => by
    have e0 : L ++ [x] ++ R = L ++ x :: R := by simp
    rw [e0, List.append_nil]
    rw [List.append_nil] at hs
    refine Ev.step (fun k => back_step0 k Q1 L R x at_ c hL hc hW.head hs (hs.le (by omega))) (Ev.step (f := fun _ => some (C (L ++ ((c + x) % 1000000000) :: R))) (fun k => back_end k _ _ _ _ _ (by rw [C_length])) (Ev.eq (Ev.now _) (by simp [addrow])))
  | [], _, _, [], _, _, _, h, _, _, _, _, _ => by simp at h
  | [], _, _, _ :: _ :: _, _, _, _, h, _, _, _, _, _ => by simp at h
  | b :: Q2, _, _, [], _, _, _, h, _, _, _, _, _ => by simp at h
  | b :: Q2, Q1, L, x :: W, R, at_, c, hW2, hL, hW, hQ, hc, hs => by
    have e0 : L ++ x :: W ++ R = L ++ x :: (W ++ R) := by simp
    have hs1 : Sm (at_ + Q1.length) := hs.le (by simp)
    have ih := back_l0 Q2 (Q1 ++ [b]) (L ++ [(c + x + b) % 1000000000]) W R at_ ((c + x + b) / 1000000000) (by simpa using hW2) (by simp [hL]; omega) hW.tail hQ.tail (add3 hc hW.head hQ.head).2.2 (hs.le (by simp))
    rw [e0]
    refine Ev.step (fun k => back_step1 k Q1 Q2 L (W ++ R) x b at_ c hL hc hW.head hQ.head hs1 (hs1.le (by omega))) (Ev.eq (r := C (L ++ [(c + x + b) % 1000000000] ++ addrow ((c + x + b) / 1000000000) W Q2 ++ R)) ?_ (by simp [addrow]))
    simpa using ih
theorem back_f (L W R Q : List Nat) (hW : W.length = Q.length + 1) (h1 : Ok W) (h2 : Ok Q) (hs : Sm (L.length + Q.length)) :
    Ev (fun k => decimal_pieces_back.f k (C (L ++ W ++ R)) (C Q) (L.length : Int)) (C (L ++ addrow 0 W Q ++ R)) := by
  unfold decimal_pieces_back.f
  exact back_l0 Q [] L W R L.length 0 hW (by simp) h1 h2 (by omega) (by simpa using hs)
end Go.Proofs.YtcfddphiflmnlaaDoor.P

namespace Go.Proofs.YtcfddphiflmnlaaDoor.P
open Go.RowKit Go.Proofs.YtcfddphiflmnlaaDoorW.PrintWords
theorem rdI (L W : List Int) (x : Int) (i : Nat) (h : L.length = i) : rd (L ++ x :: W) (i : Int) = x := by
  subst h
  simp [rd, List.getD_eq_getElem?_getD]
theorem setI (L W : List Int) (x y : Int) (i : Nat) (h : L.length = i) : (L ++ x :: W).set i y = L ++ y :: W := by
  subst h
  simp
theorem ends_of {α : Type} {m : List α} (h : 2 ≤ m.length) : ∃ a w b, m = a :: (w ++ [b]) ∧ w.length + 2 = m.length := by
  rcases m with _ | ⟨a, t⟩
  · simp at h
  · rcases List.eq_nil_or_concat t with e | ⟨w, b, e⟩
    · subst e; simp at h
    · exact ⟨a, w, b, by rw [e]; simp, by rw [e]; simp⟩
theorem reverse_l0 : ∀ (n : Nat) (M L R : List Int), M.length = n → L.length = R.length → (L ++ M ++ R).length < 4611686018427387904 →
    Ev (fun k => slices_Reverse_byte_byte.l0 k (L ++ M ++ R) (L.length : Int) ((L.length : Int) + (M.length : Int) - 1)) (L ++ M.reverse ++ R) := by
  intro n
  induction n using Nat.strongRecOn with
  | _ n ih =>
    intro M L R hn hl hs
    by_cases h2 : 2 ≤ M.length
    · obtain ⟨a, w, b, rfl, hw⟩ := ends_of h2
      have hs2 := hs
      simp only [List.length_append] at hs2
      have e0 : L ++ a :: (w ++ [b]) ++ R = L ++ a :: (w ++ b :: R) := by simp
      have e0' : L ++ a :: (w ++ [b]) ++ R = (L ++ a :: w) ++ b :: R := by simp
      have e1 : rd (L ++ a :: (w ++ [b]) ++ R) (L.length : Int) = a := by rw [e0, rdI _ _ _ _ rfl]
      have e2 : rd (L ++ a :: (w ++ [b]) ++ R) ((L.length + w.length + 1 : Nat) : Int) = b := by rw [e0', rdI _ _ _ _ (by simp; omega)]
      have e3 : ((L ++ a :: (w ++ [b]) ++ R).set L.length b).set (L.length + w.length + 1) a = (L ++ [b]) ++ w ++ (a :: R) := by
        rw [e0, setI _ _ _ _ _ rfl, show L ++ b :: (w ++ b :: R) = (L ++ b :: w) ++ b :: R by simp, setI _ _ _ _ _ (by simp; omega)]
        simp
      have e4 : ((L.length : Int) + ((a :: (w ++ [b])).length : Int) - 1) = ((L.length + w.length + 1 : Nat) : Int) := by rw [← hw]; omega
      have e7 : (L ++ a :: (w ++ [b]) ++ R).length = L.length + (w.length + 2) + R.length := by simp; omega
      have key := ih w.length (by omega) w (L ++ [b]) (a :: R) rfl (by simp [hl]) (by simp only [List.length_append, List.length_cons, List.length_nil]; omega)
      have s1 : Sm L.length := ⟨by omega⟩
      have s2 : Sm (L.length + w.length + 1) := ⟨by omega⟩
      have e5 := wsucc s1
      have e6 := wpred1 s2
      have e8 : L ++ (a :: (w ++ [b])).reverse ++ R = (L ++ [b]) ++ w.reverse ++ (a :: R) := by simp
      rw [e8, e4]
      refine Ev.step (f := fun k => slices_Reverse_byte_byte.l0 k ((L ++ [b]) ++ w ++ (a :: R)) ((L.length + 1 : Nat) : Int) ((L.length + w.length : Nat) : Int)) (fun k => ?_) ?_
      · simp only [slices_Reverse_byte_byte.l0, e1, e2, e5, e6, Int.toNat_natCast, e3, e7]
        clear e1 e2 e3 e5 e6 e4 key ih
        simp (disch := omega) only [if_pos]
      · have e9 : (((L ++ [b]).length : Int) + (w.length : Int) - 1) = ((L.length + w.length : Nat) : Int) := by simp; omega
        rw [e9] at key
        simpa using key
    · refine Ev.step (f := fun _ => some (L ++ M ++ R)) (fun k => ?_) (Ev.eq (Ev.now _) ?_)
      · simp (disch := omega) only [slices_Reverse_byte_byte.l0, if_neg]
      · rcases M with _ | ⟨a, _ | ⟨b, t⟩⟩
        · rfl
        · rfl
        · simp at h2
theorem reverse_f (M : List Int) (hs : M.length < 4611686018427387904) : Ev (fun k => slices_Reverse_byte_byte.f k M) M.reverse := by
  have key := reverse_l0 M.length M [] [] rfl rfl (by simpa using hs)
  unfold slices_Reverse_byte_byte.f
  rw [w64 (by omega) (by omega)]
  simpa using key
theorem tdig (n : Nat) (h : n < 1000000000000000000) : (IntKind.u64.wrap (48 + Int.tmod (n : Int) 10)) % 256 = ((UInt8.ofNat (48 + n % 10)).toNat : Int) ∧ IntKind.u64.wrap (Int.tdiv (n : Int) 10) = ((n / 10 : Nat) : Int) := by
  have h1 : Int.tmod (n : Int) 10 = ((n % 10 : Nat) : Int) := tmodn n 10
  have h2 : Int.tdiv (n : Int) 10 = ((n / 10 : Nat) : Int) := tdivn n 10
  have h3 : n % 10 < 10 := Nat.mod_lt _ (by decide)
  refine ⟨?_, ?_⟩
  · rw [h1, u64w (by omega) (by omega), digit_toNat h3]; omega
  · rw [h2, usmall (by omega)]
theorem text_mid (p : List Int) (i : Nat) (hi : Sm (i + 1)) (hp : i + 1 < p.length) (r : ByteArray) : ∀ (c j n : Nat) (out : List UInt8), j + c = 9 → n < 1000000000 → out.length + c < 140737488355328 →
    Ev (fun k => decimal_pieces_text.l0 k p (B8 (out ++ dgs c n)) p (p.length : Int) ((i + 1 : Nat) : Int)) r → Ev (fun k => decimal_pieces_text.l1 k p (B8 out) (i : Int) (n : Int) (j : Int) p (p.length : Int) (i : Int)) r
  | 0, j, n, out, hj, hn, ho, h => by
    have e1 := wsucc (a := i) (hi.le (by omega))
    rw [dgs, List.append_nil] at h
    refine Ev.step (fun k => ?_) h
    simp only [decimal_pieces_text.l1, e1]
    clear e1
    simp (disch := omega) only [if_neg]
  | c + 1, j, n, out, hj, hn, ho, h => by
    have s1 : n < 1000000000000000000 := by omega
    have s2 : Sm j := ⟨by omega⟩
    have ih := text_mid p i hi hp r c (j + 1) (n / 10) (out ++ [UInt8.ofNat (48 + n % 10)]) (by omega) (by omega) (by simp; omega) (by simpa [dgs] using h)
    have e1 := wsucc (a := i) (hi.le (by omega))
    obtain ⟨e2, e3⟩ := tdig n s1
    have e4 := wsucc s2
    have e5 : B8 out ++ [((UInt8.ofNat (48 + n % 10)).toNat : Int)] = B8 (out ++ [UInt8.ofNat (48 + n % 10)]) := by rw [B8_append]; rfl
    have e6 : (B8 out).length = out.length := B8_length _
    refine Ev.step (fun k => ?_) ih
    simp only [decimal_pieces_text.l1, e1, e2, e3, e4, e5]
    clear e1 e2 e3 e4 e5
    simp (disch := omega) only [if_pos]
theorem text_last (p : List Int) (i : Nat) (hi : Sm (i + 1)) (hp : i + 1 = p.length) (r : ByteArray) : ∀ (c j n : Nat) (out : List UInt8), j + c = 9 → n < 10 ^ c → out.length + c < 140737488355328 →
    Ev (fun k => decimal_pieces_text.l0 k p (B8 (out ++ (if n = 0 then [] else rdig n))) p (p.length : Int) ((i + 1 : Nat) : Int)) r → Ev (fun k => decimal_pieces_text.l1 k p (B8 out) (i : Int) (n : Int) (j : Int) p (p.length : Int) (i : Int)) r
  | 0, j, n, out, hj, hn, ho, h => by
    have e1 := wsucc (a := i) (hi.le (by omega))
    have h0 : n = 0 := by simpa using hn
    subst h0
    rw [if_pos rfl, List.append_nil] at h
    refine Ev.step (fun k => ?_) h
    simp only [decimal_pieces_text.l1, e1]
    clear e1
    simp (disch := omega) only [if_neg]
  | c + 1, j, n, out, hj, hn, ho, h => by
    have h9 : 10 ^ (c + 1) ≤ 10 ^ 9 := Nat.pow_le_pow_right (by decide) (by omega)
    have h99 : (10 : Nat) ^ 9 = 1000000000 := by decide
    rw [h99] at h9
    by_cases h0 : n = 0
    · subst h0
      rw [if_pos rfl, List.append_nil] at h
      have e1 := wsucc (a := i) (hi.le (by omega))
      refine Ev.step (fun k => ?_) h
      simp only [decimal_pieces_text.l1, e1]
      clear e1 h9 hn
      simp (disch := omega) only [if_pos, if_neg]
    · have s1 : n < 1000000000000000000 := by omega
      have s2 : Sm j := ⟨by omega⟩
      have e5 : B8 out ++ [((UInt8.ofNat (48 + n % 10)).toNat : Int)] = B8 (out ++ [UInt8.ofNat (48 + n % 10)]) := by rw [B8_append]; rfl
      have e6 : (B8 out).length = out.length := B8_length _
      have e7 : UInt8.ofNat (48 + n % 10) :: (if n / 10 = 0 then [] else rdig (n / 10)) = if n = 0 then [] else rdig n := by
        rw [if_neg h0]
        by_cases h10 : n < 10
        · rw [if_pos (by omega), rdig_small h10, Nat.mod_eq_of_lt h10]
        · rw [if_neg (show ¬ n / 10 = 0 by omega), rdig_big (n := n) (by omega)]
      have hn' : n / 10 < 10 ^ c := by rw [Nat.pow_succ] at hn; omega
      have ih := text_last p i hi hp r c (j + 1) (n / 10) (out ++ [UInt8.ofNat (48 + n % 10)]) (by omega) hn' (by simp; omega) (by rw [List.append_assoc, List.singleton_append, e7]; exact h)
      have e1 := wsucc (a := i) (hi.le (by omega))
      obtain ⟨e2, e3⟩ := tdig n s1
      have e4 := wsucc s2
      refine Ev.step (fun k => ?_) ih
      simp only [decimal_pieces_text.l1, e1, e2, e3, e4, e5]
      clear e1 e2 e3 e4 e5 e7 hn hn' h9
      simp (disch := omega) only [if_pos, if_neg]
theorem text_l0 (p : List Nat) (hp : Ok p) (hs : p.length < 8796093022208) : ∀ (Q P : List Nat) (m : Nat) (out : List UInt8), p = P ++ Q → Q = pcs m → out.length = 9 * P.length →
    Ev (fun k => decimal_pieces_text.l0 k (C p) (B8 out) (C p) (p.length : Int) (P.length : Int)) ⟨(out ++ (if m = 0 then [] else rdig m)).reverse.toArray⟩
  | [], P, m, out, hpq, hm, ho => by
    have h0 : m = 0 := pcs_nil_iff.1 hm.symm
    have hl : p.length = P.length := by rw [hpq]; simp
    rw [if_pos h0, List.append_nil]
    have e1 : (B8 out).reverse = B8 out.reverse := by simp [B8]
    have key := reverse_f (B8 out) (by rw [B8_length]; omega)
    rw [e1] at key
    refine Ev.step (f := fun k => (slices_Reverse_byte_byte.f k (B8 out)).bind fun t141 => (some (strOfNums t141))) (fun k => ?_) (Ev.eq (Ev.bind key (Ev.now _)) (by rw [strOfNums_B8]))
    simp (disch := omega) only [decimal_pieces_text.l0, if_neg]
  | n :: Q, P, m, out, hpq, hm, ho => by
    have hl : p.length = P.length + (Q.length + 1) := by rw [hpq]; simp
    have h0 : m ≠ 0 := fun e => by rw [e, pcs_zero] at hm; cases hm
    rw [pcs_pos h0] at hm
    injection hm with hn hQ
    have e1 : rd (C p) (P.length : Int) = n := by rw [hpq, rd_at _ _ _ _ rfl]
    have hn9 : n < 1000000000 := by rw [hn]; exact Nat.mod_lt _ (by decide)
    have hmn : m = n + 1000000000 * (m / 1000000000) := by omega
    have hC : (C p).length = p.length := C_length _
    refine Ev.step (f := fun k => decimal_pieces_text.l1 k (C p) (B8 out) (P.length : Int) (n : Int) 0 (C p) ((C p).length : Int) (P.length : Int)) (fun k => ?_) ?_
    · simp only [decimal_pieces_text.l0, e1, hC]
      clear e1
      simp (disch := omega) only [if_pos]
    · rw [if_neg h0]
      by_cases hq : m / 1000000000 = 0
      · have hQ0 : Q = [] := by rw [hQ, hq, pcs_zero]
        subst hQ0
        have ih := text_l0 p hp hs [] (P ++ [n]) 0 (out ++ rdig m) (by rw [hpq]; simp) pcs_zero.symm
        have hmn' : m = n := by omega
        refine text_last (C p) P.length ⟨by omega⟩ (by rw [hC]; simpa using hl.symm) _ 9 0 n out (by omega) (by simpa using hn9) (by omega) ?_
        have hn0 : n ≠ 0 := by omega
        rw [if_neg hn0, hC, ← hmn']
        have e9 : (B8 (out ++ rdig m)).reverse = B8 (out ++ rdig m).reverse := by simp [B8]
        have hrl : (rdig m).length ≤ 9 := by rw [rdig, List.length_reverse, Lib.decDigits_length]; exact nDig_le (by decide) (by omega)
        have key := reverse_f (B8 (out ++ rdig m)) (by rw [B8_length, List.length_append]; omega)
        rw [e9] at key
        refine Ev.step (f := fun k => (slices_Reverse_byte_byte.f k (B8 (out ++ rdig m))).bind fun t141 => (some (strOfNums t141))) (fun k => ?_) (Ev.eq (Ev.bind key (Ev.now _)) (by rw [strOfNums_B8]))
        rw [List.length_nil] at hl
        simp (disch := omega) only [decimal_pieces_text.l0, if_neg]
      · have hQl : 1 ≤ Q.length := by
          rcases Q with _ | ⟨a, t⟩
          · exact absurd (pcs_nil_iff.1 hQ.symm) hq
          · simp
        have ih := text_l0 p hp hs Q (P ++ [n]) (m / 1000000000) (out ++ dgs 9 n) (by rw [hpq]; simp) hQ (by simp [dgs]; omega)
        refine text_mid (C p) P.length ⟨by omega⟩ (by rw [hC]; omega) _ 9 0 n out (by omega) hn9 (by omega) ?_
        rw [if_neg hq] at ih
        rw [hC]
        have e9 : rdig m = dgs 9 n ++ rdig (m / 1000000000) := by
          rw [← dec_val_cons hn9 hq, ← hmn]
        rw [e9, ← List.append_assoc]
        simpa using ih
theorem text_f (n : Nat) (hs : (pcs n).length < 8796093022208) : Ev (fun k => decimal_pieces_text.f k (C (pcs n))) (S n) := by
  unfold decimal_pieces_text.f
  have hC : (C (pcs n)).length = (pcs n).length := C_length _
  rw [hC]
  by_cases h0 : n = 0
  · subst h0
    have hz : (pcs 0).length = 0 := by rw [pcs_zero]; rfl
    simp (disch := omega) only [if_pos]
    rw [zero_str]
    exact Ev.now _
  · have hl : (pcs n).length ≠ 0 := fun e => h0 (pcs_nil_iff.1 (List.length_eq_zero_iff.1 e))
    have key := text_l0 (pcs n) (ok_pcs n) hs (pcs n) [] n [] rfl rfl rfl
    have e1 : wrap64 (9 * ((pcs n).length : Int)) = ((9 * (pcs n).length : Nat) : Int) := by rw [w64 (by omega) (by omega)]; omega
    have e2 : (⟨([] ++ (if n = 0 then [] else rdig n)).reverse.toArray⟩ : ByteArray) = S n := by
      rw [if_neg h0, List.nil_append, rdig, List.reverse_reverse]; rfl
    rw [e2] at key
    simp only [e1, Int.toNat_natCast]
    clear e1 e2
    simp (disch := omega) only [if_pos, if_neg]
    exact key
end Go.Proofs.YtcfddphiflmnlaaDoor.P

namespace Go.Proofs.YtcfddphiflmnlaaDoor.P
open Go.RowKit Go.Proofs.YtcfddphiflmnlaaDoorW.PrintWords
theorem mod_lt9 (n : Nat) : n % 1000000000 < 1000000000 := Nat.mod_lt _ (by decide)
end Go.Proofs.YtcfddphiflmnlaaDoor.P

namespace Go.Proofs.YtcfddphiflmnlaaDoor.P
open Go.RowKit Go.Proofs.YtcfddphiflmnlaaDoorW.PrintWords
def mrow (a : Nat) : Nat → List Nat → List Nat → List Nat
  | c, [], _ => [c]
  | c, _ :: _, [] => [c]
  | c, w :: W, b :: Q => ((c + (w + a * b)) % 1000000000) :: mrow a ((c + (w + a * b)) / 1000000000) W Q
theorem mrow_arith {a w b c : Nat} (ha : a < 1000000000) (hw : w < 1000000000) (hb : b < 1000000000) (hc : c < 1000000000) :
    IntKind.u64.wrap ((c : Int) + IntKind.u64.wrap ((w : Int) + IntKind.u64.wrap ((a : Int) * (b : Int)))) = ((c + (w + a * b) : Nat) : Int) ∧ IntKind.u64.wrap (((c + (w + a * b)) / 1000000000 : Nat) : Int) = (((c + (w + a * b)) / 1000000000 : Nat) : Int) ∧ (c + (w + a * b)) / 1000000000 < 1000000000 := by
  have h : a * b ≤ 999999999 * 999999999 := Nat.mul_le_mul (by omega) (by omega)
  refine ⟨?_, usmall (by omega), by omega⟩
  rw [umul (by omega), uadd (by omega), uadd (by omega)]
theorem mrow_spec (a : Nat) (ha : a < 1000000000) : ∀ (Q W : List Nat) (c : Nat), W.length = Q.length → Ok W → Ok Q → c < 1000000000 →
    (mrow a c W Q).length = W.length + 1 ∧ Ok (mrow a c W Q) ∧ val (mrow a c W Q) = val W + a * val Q + c
  | [], [], c, _, _, _, hc => ⟨rfl, Ok.cons hc Ok.nil, by simp [mrow, val]⟩
  | [], _ :: _, _, h, _, _, _ => by simp at h
  | _ :: _, [], _, h, _, _, _ => by simp at h
  | b :: Q, w :: W, c, h, hW, hQ, hc => by
    obtain ⟨_, _, m3⟩ := mrow_arith ha hW.head hQ.head hc
    obtain ⟨i1, i2, i3⟩ := mrow_spec a ha Q W ((c + (w + a * b)) / 1000000000) (by simpa using h) hW.tail hQ.tail m3
    refine ⟨by simp [mrow, i1], Ok.cons (mod_lt9 _) i2, ?_⟩
    simp only [mrow, val, i3]
    rw [Nat.mul_add a, Nat.mul_left_comm a 1000000000]
    generalize a * val Q = u
    generalize a * b = ab
    omega
theorem times_in (k : Nat) (Q1 Q2 L R : List Nat) (w b i a c : Nat) (p : List Int) (n m : Int) (hL : L.length = i + Q1.length) (ha : a < 1000000000) (hw : w < 1000000000) (hb : b < 1000000000) (hc : c < 1000000000) (hs : Sm (i + Q1.length)) (hs1 : Sm Q1.length) :
    decimal_pieces_times.l1 (k + 1) (C (Q1 ++ b :: Q2)) (C (L ++ w :: R)) (i : Int) (a : Int) (c : Int) p n m (C (Q1 ++ b :: Q2)) (((Q1 ++ b :: Q2).length : Nat) : Int) (Q1.length : Int) =
      decimal_pieces_times.l1 k (C (Q1 ++ b :: Q2)) (C (L ++ ((c + (w + a * b)) % 1000000000) :: R)) (i : Int) (a : Int) (((c + (w + a * b)) / 1000000000 : Nat) : Int) p n m (C (Q1 ++ b :: Q2)) (((Q1 ++ b :: Q2).length : Nat) : Int) ((Q1.length + 1 : Nat) : Int) := by
  have hl1 : (C (Q1 ++ b :: Q2)).length = Q1.length + (Q2.length + 1) := by rw [C_length]; simp
  have hl2 : (Q1 ++ b :: Q2).length = Q1.length + (Q2.length + 1) := by simp
  have hl0 : (C (L ++ w :: R)).length = i + Q1.length + (R.length + 1) := by rw [C_length]; simp [hL]
  obtain ⟨e3, e4, _⟩ := mrow_arith ha hw hb hc
  have e1 := wadd hs
  have e2 := rd_at L R w (i + Q1.length) hL
  have e7 := rd_at Q1 Q2 b Q1.length rfl
  have e5 := wsucc hs1
  have e6 := set_at L R w ((c + (w + a * b)) % 1000000000) _ hL
  simp only [decimal_pieces_times.l1, e1, e2, e7, e3, tdiv9, tmod9, e4, e5, e6]
  clear e1 e2 e3 e4 e5 e6 e7 ha hw hb hc hs hs1
  generalize (c + (w + a * b)) / 1000000000 = e'
  generalize (c + (w + a * b)) % 1000000000 = e
  simp (disch := omega) only [if_pos]
theorem times_out (k : Nat) (Q L R : List Nat) (z i a c : Nat) (p : List Int) (n : Int) (hL : L.length = i + Q.length) (hs : Sm (i + Q.length)) (hs1 : Sm i) :
    decimal_pieces_times.l1 (k + 1) (C Q) (C (L ++ z :: R)) (i : Int) (a : Int) (c : Int) p n (i : Int) (C Q) ((Q.length : Nat) : Int) (Q.length : Int) =
      decimal_pieces_times.l0 k (C Q) (C (L ++ c :: R)) p n ((i + 1 : Nat) : Int) := by
  have hl1 : (C Q).length = Q.length := C_length _
  have hl0 : (C (L ++ z :: R)).length = i + Q.length + (R.length + 1) := by rw [C_length]; simp [hL]
  have e1 := wadd hs
  have e5 := wsucc hs1
  have e6 := set_at L R z c _ hL
  simp only [decimal_pieces_times.l1, hl1, e1, e5, e6]
  clear e1 e5 e6 hs hs1
  simp (disch := omega) only [if_pos, if_neg]
theorem times_l1 (a : Nat) (ha : a < 1000000000) (p : List Int) (n : Int) {r : List Int} : ∀ (Q2 Q1 L W R : List Nat) (z i c : Nat), W.length = Q2.length → L.length = i + Q1.length → Ok W → Ok Q2 → c < 1000000000 → Sm (i + (Q1 ++ Q2).length) →
    Ev (fun k => decimal_pieces_times.l0 k (C (Q1 ++ Q2)) (C (L ++ mrow a c W Q2 ++ R)) p n ((i + 1 : Nat) : Int)) r →
    Ev (fun k => decimal_pieces_times.l1 k (C (Q1 ++ Q2)) (C (L ++ W ++ z :: R)) (i : Int) (a : Int) (c : Int) p n (i : Int) (C (Q1 ++ Q2)) (((Q1 ++ Q2).length : Nat) : Int) (Q1.length : Int)) r
  | [], Q1, L, [], R, z, i, c, _, hL, _, _, _, hs, hr => by
    rw [List.append_nil] at hs hr ⊢
    rw [List.append_nil]
    exact Ev.step (fun k => times_out k Q1 L R z i a c p n hL hs (hs.le (by omega))) (by simpa [mrow] using hr)
  | [], _, _, _ :: _, _, _, _, _, h, _, _, _, _, _, _ => by simp at h
  | _ :: _, _, _, [], _, _, _, _, h, _, _, _, _, _, _ => by simp at h
  | b :: Q2, Q1, L, w :: W, R, z, i, c, hWQ, hL, hW, hQ, hc, hs, hr => by
    have e0 : L ++ w :: W ++ z :: R = L ++ w :: (W ++ z :: R) := by simp
    have hs1 : Sm (i + Q1.length) := hs.le (by simp)
    have ih := times_l1 a ha p n Q2 (Q1 ++ [b]) (L ++ [(c + (w + a * b)) % 1000000000]) W R z i ((c + (w + a * b)) / 1000000000) (by simpa using hWQ) (by simp [hL]; omega) hW.tail hQ.tail (mrow_arith ha hW.head hQ.head hc).2.2 (hs.le (by simp)) (by simpa [mrow] using hr)
    rw [e0]
    exact Ev.step (fun k => times_in k Q1 Q2 L (W ++ z :: R) w b i a c p n i hL ha hW.head hQ.head hc hs1 (hs1.le (by omega))) (by simpa using ih)
theorem times_head (k : Nat) (P1 P2 : List Nat) (a : Nat) (q out : List Int) :
    decimal_pieces_times.l0 (k + 1) q out (C (P1 ++ a :: P2)) (((P1 ++ a :: P2).length : Nat) : Int) (P1.length : Int) =
      decimal_pieces_times.l1 k q out (P1.length : Int) (a : Int) 0 (C (P1 ++ a :: P2)) (((P1 ++ a :: P2).length : Nat) : Int) (P1.length : Int) q (q.length : Int) 0 := by
  have hl1 : (C (P1 ++ a :: P2)).length = P1.length + (P2.length + 1) := by rw [C_length]; simp
  have hl2 : (P1 ++ a :: P2).length = P1.length + (P2.length + 1) := by simp
  have e2 := rd_at P1 P2 a P1.length rfl
  simp only [decimal_pieces_times.l0, e2]
  clear e2
  simp (disch := omega) only [if_pos]
theorem times_l0 (Q : List Nat) (hQ : Ok Q) : ∀ (P2 P1 M : List Nat), Ok P2 → Ok M → M.length = P1.length + Q.length → val M = val P1 * val Q → Sm ((P1 ++ P2).length + Q.length) →
    Ev (fun k => decimal_pieces_times.l0 k (C Q) (C (M ++ List.replicate P2.length 0)) (C (P1 ++ P2)) (((P1 ++ P2).length : Nat) : Int) (P1.length : Int)) (C (pcs (val (P1 ++ P2) * val Q)))
  | [], P1, M, _, hM, hl, hv, hs => by
    have ht := trim_f M hM (by have := hs.out; simp at this; omega)
    refine Ev.step (f := fun k => (decimal_pieces_trim.f k (C M)).bind fun t163 => (some t163)) (fun k => ?_) (Ev.eq (Ev.bind ht (Ev.now _)) (by rw [hv, List.append_nil]))
    have h : ¬ (P1.length : Int) < ((P1.length : Nat) : Int) := by omega
    simp only [List.append_nil, List.length_nil, List.replicate_zero]
    simp only [decimal_pieces_times.l0, if_neg h]
  | a :: P2, P1, M, hP, hM, hl, hv, hs => by
    have ha := hP.head
    obtain ⟨L, W, rfl, hL⟩ : ∃ L W, M = L ++ W ∧ L.length = P1.length := ⟨M.take P1.length, M.drop P1.length, (List.take_append_drop _ _).symm, by rw [List.length_take]; omega⟩
    have hW : W.length = Q.length := by simp [hL] at hl; omega
    obtain ⟨m1, m2, m3⟩ := mrow_spec a ha Q W 0 hW hM.right hQ (by omega)
    have ih := times_l0 Q hQ P2 (P1 ++ [a]) (L ++ mrow a 0 W Q) hP.tail (hM.left.append m2) (by simp [m1, hL, hW]; omega) (by
      rw [val_append, hL] at hv
      rw [val_append, m3, val_snoc, Nat.add_zero, Nat.mul_add, ← Nat.add_assoc, hL, hv, Nat.add_mul, Nat.mul_assoc]) (hs.le (by simp))
    refine Ev.step (fun k => times_head k P1 P2 a (C Q) _) ?_
    have key := times_l1 a ha (C (P1 ++ a :: P2)) (((P1 ++ a :: P2).length : Nat) : Int) Q [] L W (List.replicate P2.length 0) 0 P1.length 0 hW (by simp [hL]) hM.right hQ (by omega) (hs.le (by simp)) (by simpa using ih)
    simpa [C_length, List.replicate_succ] using key
end Go.Proofs.YtcfddphiflmnlaaDoor.P

namespace Go.Proofs.YtcfddphiflmnlaaDoor.P
open Go.RowKit Go.Proofs.YtcfddphiflmnlaaDoorW.PrintWords
theorem times_f (P Q : List Nat) (hP : Ok P) (hQ : Ok Q) (h : P.length + Q.length < 17592186044416) :
    Ev (fun k => decimal_pieces_times.f k (C P) (C Q)) (C (pcs (val P * val Q))) := by
  have key := times_l0 Q hQ P [] (List.replicate Q.length 0) hP (fun a ha => by have := List.eq_of_mem_replicate ha; omega) (by simp) (by simp [val, val_zeros]) ⟨by simp; omega⟩
  have e1 := wadd (a := P.length) (b := Q.length) ⟨by omega⟩
  have e2 : List.replicate (P.length + Q.length) (0 : Int) = C (List.replicate Q.length 0 ++ List.replicate P.length 0) := by
    rw [List.replicate_append_replicate, ← C_zeros, Nat.add_comm]
  have key2 : Ev (fun k => decimal_pieces_times.l0 k (C Q) (C (List.replicate Q.length 0 ++ List.replicate P.length 0)) (C P) (P.length : Int) 0) (C (pcs (val P * val Q))) := by simpa using key
  unfold decimal_pieces_times.f
  simp only [C_length, e1, Int.toNat_natCast, e2]
  clear e1 e2 key
  simp (disch := omega) only [if_pos]
  exact key2
end Go.Proofs.YtcfddphiflmnlaaDoor.P

namespace Go.Proofs.YtcfddphiflmnlaaDoor.P
open Go.RowKit Go.Proofs.YtcfddphiflmnlaaDoorW.PrintWords
structure Md (n : Nat) : Prop where
  out : Lib.nDigits n ≤ 1000000
theorem pcs_len_nDig (n : Nat) : (pcs n).length ≤ Lib.nDigits n := by
  apply pcs_len_le
  refine Nat.lt_of_lt_of_le (Lib.lt_pow_nDigits n) ?_
  exact Nat.pow_le_pow_left (by decide) _
theorem Md.pcs {n : Nat} (h : Md n) : (pcs n).length ≤ 1000000 := Nat.le_trans (pcs_len_nDig n) h.out
theorem nDig_mul (a b : Nat) : Lib.nDigits (a * b) ≤ Lib.nDigits a + Lib.nDigits b := by
  refine nDig_le (by have := Lib.nDigits_pos a; omega) ?_
  rw [Nat.pow_add]
  exact Nat.mul_lt_mul'' (Lib.lt_pow_nDigits a) (Lib.lt_pow_nDigits b)
theorem nDig_add (a b : Nat) : Lib.nDigits (a + b) ≤ Lib.nDigits a + Lib.nDigits b := by
  have ha := Lib.nDigits_pos a
  have hb := Lib.nDigits_pos b
  refine nDig_le (by omega) ?_
  have h1 := Lib.lt_pow_nDigits a
  have h2 := Lib.lt_pow_nDigits b
  generalize Lib.nDigits a = x at *
  generalize Lib.nDigits b = y at *
  rw [Nat.pow_add]
  have hx : 10 ^ 1 ≤ 10 ^ x := Nat.pow_le_pow_right (by decide) ha
  have hy : 10 ^ 1 ≤ 10 ^ y := Nat.pow_le_pow_right (by decide) hb
  have h3 : 10 ^ x * 2 ≤ 10 ^ x * 10 ^ y := Nat.mul_le_mul_left _ (by omega)
  have h4 : 2 * 10 ^ y ≤ 10 ^ x * 10 ^ y := Nat.mul_le_mul_right _ (by omega)
  omega
theorem smallS {n : Nat} (h : Lib.nDigits n ≤ 18) : decimal_Small.f (S n) = some ((n : Int), true) := by
  have h2 := nDig_lt h
  have h3 : (10 : Nat) ^ 18 = 1000000000000000000 := by decide
  rw [small_S n (by omega), if_pos (by omega)]
theorem both_f (a b : Nat) : Ev (fun k => decimal_both.f k (S a) (S b)) (if Lib.nDigits a ≤ 18 ∧ Lib.nDigits b ≤ 18 then ((a : Int), (b : Int), true) else (0, 0, false)) := by
  have ha := S_size a
  have hb := S_size b
  unfold decimal_both.f
  by_cases h1 : Lib.nDigits a ≤ 18
  · simp (disch := omega) only [if_neg]
    by_cases h2 : Lib.nDigits b ≤ 18
    · rw [decide_eq_false (by omega), if_pos ⟨h1, h2⟩]
      refine Ev.step (f := fun _ => some ((a : Int), (b : Int), true)) (fun k => ?_) (Ev.now _)
      simp only [decimal_both.j0, Bool.false_eq_true, if_false, smallS h1, smallS h2, Option.bind_some]
    · rw [decide_eq_true (by omega), if_neg (fun h => h2 h.2)]
      refine Ev.step (f := fun _ => some (0, 0, false)) (fun k => ?_) (Ev.now _)
      simp only [decimal_both.j0, if_true]
  · simp (disch := omega) only [if_pos]
    rw [if_neg (fun h => h1 h.1)]
    refine Ev.step (f := fun _ => some (0, 0, false)) (fun k => ?_) (Ev.now _)
    simp only [decimal_both.j0, if_true]
theorem add_core (a b : Nat) (h : (pcs b).length ≤ (pcs a).length) (ha : (pcs a).length ≤ 1000000) :
    Ev (fun k => (decimal_pieces_back.f k (C (pcs a) ++ [0]) (C (pcs b) ++ List.replicate ((pcs a).length - (pcs b).length) 0) 0).bind fun t493 => ((decimal_pieces_trim.f k t493).bind fun t494 => ((decimal_pieces_text.f k t494).bind fun t497 => (some t497)))) (S (a + b)) := by
  have e1 : C (pcs a) ++ [0] = C (pcs a ++ [0]) := by rw [C_append]; rfl
  have e2 : C (pcs b) ++ List.replicate ((pcs a).length - (pcs b).length) 0 = C (pcs b ++ List.replicate ((pcs a).length - (pcs b).length) 0) := by rw [C_append, C_zeros]
  have hW : Ok (pcs a ++ [0]) := (ok_pcs a).append (Ok.cons (by decide) Ok.nil)
  have hQ : Ok (pcs b ++ List.replicate ((pcs a).length - (pcs b).length) 0) := (ok_pcs b).append (Ok.zeros _)
  have hl : (pcs a ++ [0]).length = (pcs b ++ List.replicate ((pcs a).length - (pcs b).length) 0).length + 1 := by simp; omega
  have hb := back_f [] (pcs a ++ [0]) [] (pcs b ++ List.replicate ((pcs a).length - (pcs b).length) 0) hl hW hQ ⟨by simp; omega⟩
  obtain ⟨s1, s2, d, s3, s4⟩ := addrow_spec _ _ 0 hl hW hQ (by omega)
  rw [val_snoc, val_append, val_zeros, val_pcs, val_pcs, Nat.mul_zero, Nat.mul_zero, Nat.add_zero, Nat.add_zero, Nat.add_zero] at s4
  have h1 := lt_pow_pcs a
  have h2 := lt_pow_pcs b
  have h3 : 1000000000 ^ (pcs b).length ≤ 1000000000 ^ (pcs a).length := Nat.pow_le_pow_right (by decide) h
  have h4 : (pcs a ++ [0]).length = (pcs a).length + 1 := by simp
  rw [h4, Nat.pow_succ] at s4
  have hd : d = 0 := by
    rcases Nat.eq_zero_or_pos d with h5 | h5
    · exact h5
    · have : d = 1 := by omega
      subst this
      omega
  subst hd
  have hv : val (addrow 0 (pcs a ++ [0]) (pcs b ++ List.replicate ((pcs a).length - (pcs b).length) 0)) = a + b := by
    rw [Nat.mul_zero, Nat.add_zero] at s4
    exact s4
  have ht := trim_f _ s2 (by rw [s1, h4]; omega)
  rw [hv] at ht
  have hp : (pcs (a + b)).length ≤ (pcs a).length + 1 := pcs_len_le (by rw [Nat.pow_succ]; omega)
  rw [e1, e2]
  simp only [List.nil_append, List.append_nil, List.length_nil] at hb
  refine Ev.bind hb (Ev.bind ht (Ev.bind (text_f _ (by omega)) (Ev.now _)))
theorem add_f (a b : Nat) (ha : Md a) (hb : Md b) : Ev (fun k => decimal_Add.f k (S a) (S b)) (S (a + b)) := by
  unfold decimal_Add.f
  refine Ev.bind (both_f a b) ?_
  by_cases h : Lib.nDigits a ≤ 18 ∧ Lib.nDigits b ≤ 18
  · have h1 := nDig_lt h.1
    have h2 := nDig_lt h.2
    have h3 : (10 : Nat) ^ 18 = 1000000000000000000 := by decide
    have e0 := of_f (a + b) (by omega)
    have e1 := uadd (a := a) (b := b) (by omega)
    simp only [if_pos h, if_true, e1, e0]
    exact Ev.now _
  · simp only [if_neg h, Bool.false_eq_true, if_false]
    refine Ev.bind (cut_f a (by have := ha.out; omega)) (Ev.bind (cut_f b (by have := hb.out; omega)) ?_)
    have l1 := ha.pcs
    have l2 := hb.pcs
    have c1 : (C (pcs a)).length = (pcs a).length := C_length _
    have c2 : (C (pcs b)).length = (pcs b).length := C_length _
    simp only [Option.bind_some, List.length_append, List.length_singleton, c1, c2]
    by_cases hlt : (pcs a).length < (pcs b).length
    · have e2 := wpred1 (a := (pcs b).length) ⟨by omega⟩
      have e3 : wrap64 (((pcs b).length : Int) - ((pcs a).length : Int)) = (((pcs b).length - (pcs a).length : Nat) : Int) := by rw [w64 (by omega) (by omega)]; omega
      have key := add_core b a (by omega) l2
      rw [Nat.add_comm b a] at key
      simp only [e2, e3, Int.toNat_natCast]
      clear e2 e3
      simp (disch := omega) only [if_pos]
      exact key
    · have e2 := wpred1 (a := (pcs a).length) ⟨by omega⟩
      have e3 : wrap64 (((pcs a).length : Int) - ((pcs b).length : Int)) = (((pcs a).length - (pcs b).length : Nat) : Int) := by rw [w64 (by omega) (by omega)]; omega
      have key := add_core a b (by omega) l1
      simp only [e2, e3, Int.toNat_natCast]
      clear e2 e3
      simp (disch := omega) only [if_pos, if_neg]
      exact key
theorem mul_f (a b : Nat) (ha : Md a) (hb : Md b) : Ev (fun k => decimal_Mul.f k (S a) (S b)) (S (a * b)) := by
  have h1 := ha.out
  have h2 := hb.out
  unfold decimal_Mul.f
  have e1 := wadd (a := Lib.nDigits a) (b := Lib.nDigits b) ⟨by omega⟩
  rw [S_size, S_size, e1]
  clear e1
  have p1 := Lib.nDigits_pos a
  have p2 := Lib.nDigits_pos b
  by_cases h : Lib.nDigits a + Lib.nDigits b ≤ 18
  · simp (disch := omega) only [if_pos]
    refine Ev.bind (both_f a b) ?_
    have h3 := Lib.lt_pow_nDigits (a * b)
    have h4 := nDig_mul a b
    have h5 : a * b < 10 ^ 18 := nDig_lt (by omega)
    have h6 : (10 : Nat) ^ 18 = 1000000000000000000 := by decide
    have h7 : Lib.nDigits a ≤ 18 ∧ Lib.nDigits b ≤ 18 := ⟨by omega, by omega⟩
    have e0 := of_f (a * b) (by omega)
    have e2 := umul (a := a) (b := b) (by omega)
    simp only [if_pos h7, e2, e0]
    exact Ev.now _
  · simp (disch := omega) only [if_neg]
    have l1 := ha.pcs
    have l2 := hb.pcs
    have ht := times_f (pcs a) (pcs b) (ok_pcs a) (ok_pcs b) (by omega)
    rw [val_pcs, val_pcs] at ht
    have hp := pcs_len_mul a b
    exact Ev.bind (cut_f a (by omega)) (Ev.bind (cut_f b (by omega)) (Ev.bind ht (Ev.bind (text_f _ (by omega)) (Ev.now _))))
end Go.Proofs.YtcfddphiflmnlaaDoor.P

namespace Go.Proofs.YtcfddphiflmnlaaDoor.P
open Go.RowKit Go.Proofs.YtcfddphiflmnlaaDoorW.PrintWords
def blen (n : Nat) : Nat := if h : n = 0 then 0 else blen (n / 2) + 1
termination_by n
decreasing_by omega
theorem blen_zero : blen 0 = 0 := by rw [blen, dif_pos rfl]
theorem blen_pos {n : Nat} (h : n ≠ 0) : blen n = blen (n / 2) + 1 := by rw [blen, dif_neg h]
theorem lt_pow_blen (n : Nat) : n < 2 ^ blen n := by
  induction n using Nat.strongRecOn with
  | _ n ih =>
    by_cases h : n = 0
    · subst h; rw [blen_zero]; decide
    · rw [blen_pos h, Nat.pow_succ]
      have := ih (n / 2) (by omega)
      omega
theorem blen_le {n k : Nat} (h : n < 2 ^ k) : blen n ≤ k := by
  induction k generalizing n with
  | zero => rw [show n = 0 by simpa using h, blen_zero]; omega
  | succ k ih =>
    by_cases h0 : n = 0
    · subst h0; rw [blen_zero]; omega
    · rw [blen_pos h0]
      have := ih (n := n / 2) (by rw [Nat.pow_succ] at h; omega)
      omega
theorem pow_le_blen {n k : Nat} (h : k < blen n) : 2 ^ k ≤ n := by
  rcases Nat.lt_or_ge n (2 ^ k) with h1 | h1
  · have := blen_le h1; omega
  · exact h1
theorem blen_lib (f n : Nat) (h : n < 2 ^ f) : Lib.bitLenAux f n = blen n := by
  induction f generalizing n with
  | zero => rw [show n = 0 by simpa using h, blen_zero]; rfl
  | succ f ih =>
    by_cases h0 : n = 0
    · subst h0; rw [blen_zero]; simp [Lib.bitLenAux]
    · rw [blen_pos h0, Lib.bitLenAux, if_neg h0, ih (n / 2) (by rw [Nat.pow_succ] at h; omega), Nat.add_comm]
theorem len64_f (n : Nat) (h : n < 18446744073709551616) : bits_Len64.f (n : Int) = some ((blen n : Nat) : Int) := by
  unfold bits_Len64.f
  rw [if_pos (by omega), Int.toNat_natCast, Lib.bitLen, blen_lib 64 n h]
def val32 : List Nat → Nat
  | [] => 0
  | a :: l => a + 4294967296 * val32 l
def Ok32 (l : List Nat) : Prop := ∀ a, a ∈ l → a < 4294967296
theorem Ok32.nil : Ok32 [] := fun _ h => by cases h
theorem Ok32.cons {a : Nat} {l : List Nat} (ha : a < 4294967296) (hl : Ok32 l) : Ok32 (a :: l) := fun x hx => by
  rcases List.mem_cons.1 hx with rfl | hx
  · exact ha
  · exact hl x hx
theorem Ok32.head {a : Nat} {l : List Nat} (h : Ok32 (a :: l)) : a < 4294967296 := h a List.mem_cons_self
theorem Ok32.tail {a : Nat} {l : List Nat} (h : Ok32 (a :: l)) : Ok32 l := fun x hx => h x (List.mem_cons_of_mem _ hx)
def Top (l : List Nat) : Prop := ∀ m a, l = m ++ [a] → a ≠ 0
def brow : Nat → List Nat → List Nat
  | c, [] => if c = 0 then [] else [c]
  | c, w :: W => ((c + w * 1000000000) % 4294967296) :: brow ((c + w * 1000000000) / 4294967296) W
theorem brow_val : ∀ (W : List Nat) (c : Nat), val32 (brow c W) = val32 W * 1000000000 + c
  | [], c => by
    unfold brow
    by_cases h : c = 0
    · rw [if_pos h, h]; rfl
    · rw [if_neg h]; simp [val32]
  | w :: W, c => by
    have ih := brow_val W ((c + w * 1000000000) / 4294967296)
    simp only [brow, val32, ih]
    omega
theorem brow_ok : ∀ (W : List Nat) (c : Nat), c < 4294967296 → Ok32 W → Ok32 (brow c W)
  | [], c, hc, _ => by
    unfold brow
    by_cases h : c = 0
    · rw [if_pos h]; exact Ok32.nil
    · rw [if_neg h]; exact Ok32.cons hc Ok32.nil
  | w :: W, c, hc, hW => by
    have := hW.head
    exact Ok32.cons (Nat.mod_lt _ (by decide)) (brow_ok W _ (by omega) hW.tail)
theorem brow_nonempty : ∀ (W : List Nat) (c : Nat), W ≠ [] → brow c W ≠ []
  | [], _, h => absurd rfl h
  | _ :: _, _, _ => by simp [brow]
theorem brow_top : ∀ (W : List Nat) (c : Nat), Top W → Ok32 W → c < 4294967296 → Top (brow c W)
  | [], c, _, _, _ => by
    intro m a h
    unfold brow at h
    by_cases h0 : c = 0
    · rw [if_pos h0] at h
      cases m <;> cases h
    · rw [if_neg h0] at h
      rcases m with _ | ⟨x, m⟩
      · injection h with h1 _
        omega
      · simp at h
  | [w], c, hT, hW, hc => by
    have hw := hT [] w rfl
    intro m a h
    simp only [brow] at h
    by_cases h0 : (c + w * 1000000000) / 4294967296 = 0
    · rw [if_pos h0] at h
      rcases m with _ | ⟨x, m⟩
      · injection h with h1 _
        omega
      · simp at h
    · rw [if_neg h0] at h
      rcases m with _ | ⟨x, _ | ⟨y, m⟩⟩
      · simp at h
      · simp at h
        omega
      · simp at h
  | w :: x :: W, c, hT, hW, hc => by
    have := hW.head
    have ih := brow_top (x :: W) ((c + w * 1000000000) / 4294967296) (fun m a h => hT (w :: m) a (by rw [h]; rfl)) hW.tail (by omega)
    intro m a h
    rw [brow] at h
    rcases m with _ | ⟨y, m⟩
    · injection h with _ h2
      exact absurd h2 (brow_nonempty _ _ (by simp))
    · injection h with _ h2
      exact ih m a h2
theorem brow_len : ∀ (W : List Nat) (c : Nat), (brow c W).length ≤ W.length + 1
  | [], c => by
    unfold brow
    by_cases h : c = 0
    · rw [if_pos h]; simp
    · rw [if_neg h]; simp
  | w :: W, c => by
    have := brow_len W ((c + w * 1000000000) / 4294967296)
    simp only [brow, List.length_cons]
    omega
theorem val32_snoc (l : List Nat) (a : Nat) : val32 (l ++ [a]) = val32 l + 2 ^ (32 * l.length) * a := by
  induction l with
  | nil => simp [val32]
  | cons b l ih =>
    simp only [List.cons_append, val32, ih, List.length_cons]
    rw [show 32 * (l.length + 1) = 32 * l.length + 32 by omega, Nat.pow_add, Nat.mul_add, ← Nat.add_assoc, Nat.mul_comm (2 ^ (32 * l.length)) (2 ^ 32), Nat.mul_assoc]
theorem val32_lt {l : List Nat} (h : Ok32 l) : val32 l < 2 ^ (32 * l.length) := by
  induction l with
  | nil => simp [val32]
  | cons b l ih =>
    have h1 := h.head
    have h2 := ih h.tail
    simp only [val32, List.length_cons]
    rw [show 32 * (l.length + 1) = 32 * l.length + 32 by omega, Nat.pow_add]
    have : (2 : Nat) ^ 32 = 4294967296 := by decide
    rw [this]
    omega
theorem blen_val32 (l : List Nat) (a : Nat) (hl : Ok32 l) (ha : a ≠ 0) : blen (val32 (l ++ [a])) = 32 * l.length + blen a := by
  have h1 := val32_lt hl
  have h2 := lt_pow_blen a
  have h3 : 2 ^ (blen a - 1) ≤ a := pow_le_blen (by rw [blen_pos ha]; omega)
  have h4 : blen a = blen a - 1 + 1 := by rw [blen_pos ha]; omega
  rw [val32_snoc]
  apply Nat.le_antisymm
  · apply blen_le
    rw [Nat.pow_add]
    have : 2 ^ (32 * l.length) * (a + 1) ≤ 2 ^ (32 * l.length) * 2 ^ blen a := Nat.mul_le_mul_left _ h2
    rw [Nat.mul_add, Nat.mul_one] at this
    omega
  · have h5 : 2 ^ (32 * l.length) * 2 ^ (blen a - 1) ≤ 2 ^ (32 * l.length) * a := Nat.mul_le_mul_left _ h3
    rw [← Nat.pow_add] at h5
    have h6 : ¬ blen (val32 l + 2 ^ (32 * l.length) * a) ≤ 32 * l.length + (blen a - 1) := fun h7 => by
      have h8 := lt_pow_blen (val32 l + 2 ^ (32 * l.length) * a)
      have h9 : 2 ^ blen (val32 l + 2 ^ (32 * l.length) * a) ≤ 2 ^ (32 * l.length + (blen a - 1)) := Nat.pow_le_pow_right (by decide) h7
      omega
    omega
theorem b_arith {c w : Nat} (hc : c ≤ 1000000000) (hw : w < 4294967296) :
    IntKind.u64.wrap ((c : Int) + IntKind.u64.wrap ((w : Int) * 1000000000)) = ((c + w * 1000000000 : Nat) : Int) ∧ Go.bits .and .u64 ((c + w * 1000000000 : Nat) : Int) 4294967295 = (((c + w * 1000000000) % 4294967296 : Nat) : Int) ∧ ((c + w * 1000000000 : Nat) : Int) / 4294967296 = (((c + w * 1000000000) / 4294967296 : Nat) : Int) ∧ (c + w * 1000000000) / 4294967296 ≤ 1000000000 := by
  refine ⟨?_, ?_, ?_, ?_⟩
  · rw [show (1000000000 : Int) = ((1000000000 : Nat) : Int) from rfl, umul (by omega), uadd (by omega)]
  · rw [show (4294967295 : Int) = ((4294967295 : Nat) : Int) from rfl, bits_and_u64_nat _ _ (by omega) (by decide)]
    congr 1
    exact Nat.and_two_pow_sub_one_eq_mod _ 32
  · omega
  · omega
theorem bits_l1 (p : List Int) (i : Int) (hi : wrap64 (i - 1) = i - 1) {r : Int} : ∀ (W L : List Nat) (c : Nat), Ok32 W → c ≤ 1000000000 → (L ++ W).length ≤ 2000000 →
    Ev (fun k => decimal_Bits.l0 k (C (L ++ brow c W)) p (i - 1)) r → Ev (fun k => decimal_Bits.l1 k (C (L ++ W)) p i (c : Int) (((L ++ W).length : Nat) : Int) (L.length : Int)) r
  | [], L, c, _, _, hs, h => by
    rw [List.append_nil] at hs ⊢
    have hC : (C L).length = L.length := C_length _
    by_cases h0 : c = 0
    · subst h0
      rw [brow, if_pos rfl, List.append_nil] at h
      refine Ev.step (fun k => ?_) h
      simp only [decimal_Bits.l1, hi]
      clear hi
      simp (disch := omega) only [if_neg]
    · rw [brow, if_neg h0, C_append] at h
      refine Ev.step (fun k => ?_) h
      simp only [decimal_Bits.l1, hi]
      clear hi
      simp (disch := omega) only [if_neg, if_pos]
      rfl
  | w :: W, L, c, hW, hc, hs, h => by
    have hl2 : (L ++ w :: W).length = L.length + (W.length + 1) := by simp
    have hC : (C (L ++ w :: W)).length = L.length + (W.length + 1) := by rw [C_length, hl2]
    obtain ⟨e1, e2, e3, e4⟩ := b_arith hc hW.head
    have s1 : Sm L.length := ⟨by omega⟩
    have ih := bits_l1 p i hi W (L ++ [(c + w * 1000000000) % 4294967296]) ((c + w * 1000000000) / 4294967296) hW.tail e4 (by simp at hs ⊢; omega) (by simpa [brow] using h)
    have e5 := rd_at L W w L.length rfl
    have e6 := set_at L W w ((c + w * 1000000000) % 4294967296) L.length rfl
    have e7 := wsucc s1
    refine Ev.step (f := fun k => decimal_Bits.l1 k (C (L ++ ((c + w * 1000000000) % 4294967296) :: W)) p i (((c + w * 1000000000) / 4294967296 : Nat) : Int) (((L ++ w :: W).length : Nat) : Int) ((L.length + 1 : Nat) : Int)) (fun k => ?_) ?_
    · simp only [decimal_Bits.l1, e5, e1, e2, e3, e6, e7]
      clear e1 e2 e3 e4 e5 e6 e7 hi h ih
      simp (disch := omega) only [if_pos]
    · simpa using ih
theorem bits_l0 : ∀ (i : Nat) (P R : List Nat) (W : List Nat) (x : Int), P.length = i → x = (i : Int) - 1 → Ok P → Ok32 W → Top W → val32 W = val R → (P ++ R).length ≤ 1000000 → W.length ≤ R.length → val (P ++ R) ≠ 0 →
    Ev (fun k => decimal_Bits.l0 k (C W) (C (P ++ R)) x) ((blen (val (P ++ R)) : Nat) : Int)
  | 0, P, R, W, x, hP, hx, hOk, hW, hT, hv, hs, hl, h0 => by
    obtain rfl := List.length_eq_zero_iff.1 hP
    rw [List.nil_append] at h0 hs ⊢
    rcases List.eq_nil_or_concat W with e | ⟨m, a, e⟩
    · rw [e] at hv
      exact absurd hv.symm h0
    · have e' : W = m ++ [a] := by simpa using e
      subst e'
      have ha := hT m a rfl
      have hm : Ok32 m := fun y hy => hW y (by simp [hy])
      have ha2 : a < 4294967296 := hW a (by simp)
      have hml : (m ++ [a]).length = m.length + 1 := by simp
      have hC : (C (m ++ [a])).length = m.length + 1 := by rw [C_length, hml]
      have hb := blen_le (n := a) (k := 32) (by omega)
      have e5 := len64_f a (by omega)
      have e6 := blen_val32 m a hm ha
      rw [hv] at e6
      have e2 : rd (C (m ++ [a])) (m.length : Int) = a := rd_at m [] a m.length rfl
      have s1 : Sm (m.length + 1) := ⟨by omega⟩
      have e7 : wrap64 (wrap64 (32 * (m.length : Int)) + ((blen a : Nat) : Int)) = ((blen (val R) : Nat) : Int) := by
        rw [w64 (n := 32 * (m.length : Int)) (by omega) (by omega), w64 (by omega) (by omega), e6]
        omega
      refine Ev.step (f := fun _ => some ((blen (val R) : Nat) : Int)) (fun k => ?_) (Ev.now _)
      have e1 := wpred1 s1
      simp only [decimal_Bits.l0, hC, e1, e2, e5, Option.bind_some, e7]
      clear e1 e2 e5 e7 e6
      simp (disch := omega) only [if_neg, if_pos]
  | i + 1, P, R, W, x, hP, hx, hOk, hW, hT, hv, hs, hl, h0 => by
    obtain ⟨P, a, rfl, hP1⟩ := concat_of_len hP
    have ha : a < 1000000000 := hOk a (by simp)
    obtain rfl : x = (i : Int) := by omega
    have e0 : P ++ [a] ++ R = P ++ a :: R := by simp
    rw [e0] at h0 hs ⊢
    have hs2 : (P ++ a :: R).length = i + (R.length + 1) := by rw [List.length_append, List.length_cons, hP1]
    have ih := bits_l0 i P (a :: R) (brow a W) ((i : Int) - 1) hP1 rfl hOk.left (brow_ok W a (by omega) hW) (brow_top W a hT hW (by omega)) (by rw [brow_val, hv, val]; omega) hs (by have := brow_len W a; simp; omega) h0
    have e1 : rd (C (P ++ a :: R)) (i : Int) = a := rd_at P R a i hP1
    have hC : (C (P ++ a :: R)).length = i + (R.length + 1) := by rw [C_length, hs2]
    have hCW : (C W).length = W.length := C_length _
    have hw : wrap64 ((i : Int) - 1) = (i : Int) - 1 := w64 (by omega) (by omega)
    have key := bits_l1 (C (P ++ a :: R)) (i : Int) hw W [] a hW (by omega) (by rw [List.nil_append]; clear hw; omega) (by simpa using ih)
    rw [List.nil_append] at key
    refine Ev.step (f := fun k => decimal_Bits.l1 k (C W) (C (P ++ a :: R)) (i : Int) (a : Int) ((W.length : Nat) : Int) 0) (fun k => ?_) key
    simp only [decimal_Bits.l0, e1, hC, hCW]
    clear e1 hw key ih
    simp (disch := omega) only [if_pos]
theorem bits_f (n : Nat) (h : Md n) : Ev (fun k => decimal_Bits.f k (S n)) ((blen n : Nat) : Int) := by
  have hM := h.out
  unfold decimal_Bits.f
  rw [small_S n (by omega)]
  by_cases h64 : n < 18446744073709551616
  · rw [if_pos h64]
    have e := len64_f n h64
    refine Ev.bind (Ev.now ((n : Int), true)) (Ev.pos rfl ?_)
    rw [e]
    exact Ev.now _
  · rw [if_neg h64]
    refine Ev.bind (Ev.now ((0 : Int), false)) (Ev.neg (by decide) (Ev.bind (cut_f n (by omega)) ?_))
    have hp := h.pcs
    have hC : (C (pcs n)).length = (pcs n).length := C_length _
    have hw : wrap64 (((pcs n).length : Int) - 1) = ((pcs n).length : Int) - 1 := w64 (by omega) (by omega)
    have key := bits_l0 (pcs n).length (pcs n) [] [] (((pcs n).length : Int) - 1) rfl rfl (ok_pcs n) Ok32.nil (fun m a h => by cases m <;> cases h) rfl (by rw [List.append_nil]; exact hp) (Nat.le_refl _) (by rw [List.append_nil, val_pcs]; omega)
    rw [List.append_nil, val_pcs] at key
    rw [hC, hw]
    exact key
end Go.Proofs.YtcfddphiflmnlaaDoor.P

namespace Go.Proofs.YtcfddphiflmnlaaDoor.P
open Go.RowKit Go.Proofs.YtcfddphiflmnlaaDoorW.PrintWords
theorem one_str : (⟨#[49]⟩ : ByteArray) = S 1 := S_of ((canb_iff _).1 (by decide))
theorem S_is0 (n : Nat) : ((S n).toList = ([48] : List UInt8)) ↔ n = 0 := by
  have e : ([48] : List UInt8) = (S 0).toList := by rw [toList_data, S_list, dec_small (by decide)]; rfl
  rw [e, S_eq_iff]
theorem S_is1 (n : Nat) : ((S n).toList = ([49] : List UInt8)) ↔ n = 1 := by
  have e : ([49] : List UInt8) = (S 1).toList := by rw [toList_data, S_list, dec_small (by decide)]; rfl
  rw [e, S_eq_iff]
theorem S_beq1 (n : Nat) : ((S n).toList == ([49] : List UInt8)) = decide (n = 1) := by
  rw [Bool.eq_iff_iff, beq_iff_eq, S_is1, decide_eq_true_iff]
end Go.Proofs.YtcfddphiflmnlaaDoor.P

namespace Go.Proofs.YtcfddphiflmnlaaDoor.P
open Go.RowKit Go.Proofs.YtcfddphiflmnlaaDoorW.PrintWords
theorem and1 (n : Nat) (h : n < 9223372036854775808) : Go.bits .and .i64 (n : Int) 1 = ((n % 2 : Nat) : Int) := by
  have := bits_mask .i64 63 (by decide) (fun m h0 h1 => by rw [IntKind.wrap_i64]; omega) 1 (by decide) (n : Int) (by omega) (by omega)
  rw [show (2 : Int) ^ 1 - 1 = 1 from by decide] at this
  rw [this]
  omega
def fin (T : Nat) : ByteArray × Int := if 20000 < Lib.nDigits T then (⟨#[]⟩, 4) else (S T, 0)
theorem times_S (a b : Nat) (h : (pcs a).length + (pcs b).length < 17592186044416) : Ev (fun k => decimal_pieces_times.f k (C (pcs a)) (C (pcs b))) (C (pcs (a * b))) := by
  have := times_f (pcs a) (pcs b) (ok_pcs a) (ok_pcs b) h
  rwa [val_pcs, val_pcs] at this
theorem pow_half (q n : Nat) : (q * q) ^ n = q ^ (2 * n) := by rw [Nat.pow_mul, Nat.pow_two]
theorem le_pow1 {q n : Nat} (hq : 0 < q) (hn : 0 < n) : q ≤ q ^ n := by
  obtain ⟨m, rfl⟩ : ∃ m, n = m + 1 := ⟨n - 1, by omega⟩
  rw [Nat.pow_succ]
  have : 1 * q ≤ q ^ m * q := Nat.mul_le_mul_right _ (Nat.pow_pos hq)
  omega
theorem power_l0 : ∀ (m n o q T : Nat), n ≤ m → n < 9223372036854775808 → T = o * q ^ n → T ≠ 0 → (pcs T).length ≤ 1000000 →
    Ev (fun k => decimal_Power.l0 k (n : Int) (C (pcs o)) (C (pcs q))) (fin T)
  | 0, n, o, q, T, hm, hn, hT, h0, hl => by
    obtain rfl : n = 0 := by omega
    rw [Nat.pow_zero, Nat.mul_one] at hT
    subst hT
    have hsz := S_size T
    refine Ev.step (f := fun k => (decimal_pieces_text.f k (C (pcs T))).bind fun t267 => (if (t267.size : Int) > 20000 then (some ((⟨#[]⟩ : ByteArray), 4)) else (some (t267, 0)))) (fun k => ?_) (Ev.bind (text_f T (by omega)) ?_)
    · simp (disch := omega) only [decimal_Power.l0, if_neg]
    · unfold fin
      rw [hsz]
      by_cases h : 20000 < Lib.nDigits T
      · rw [if_pos h]; exact Ev.pos (by omega) (Ev.now _)
      · rw [if_neg h]; exact Ev.neg (by omega) (Ev.now _)
  | m + 1, n, o, q, T, hm, hn, hT, h0, hl => by
    rcases Nat.eq_zero_or_pos n with hz | hp
    · exact power_l0 0 n o q T (by omega) hn hT h0 hl
    · have ho : 0 < o := Nat.pos_of_ne_zero fun e => h0 (by rw [hT, e, Nat.zero_mul])
      have hq : 0 < q := Nat.pos_of_ne_zero fun e => h0 (by rw [hT, e, Nat.zero_pow hp, Nat.mul_zero])
      have hqn : 0 < q ^ n := Nat.pow_pos hq
      have hoT : o ≤ T := by rw [hT]; exact Nat.le_mul_of_pos_right _ hqn
      have hqT : q ≤ T := by rw [hT]; exact Nat.le_trans (le_pow1 hq hp) (Nat.le_mul_of_pos_left _ ho)
      have lo := pcs_len_mono hoT
      have lq := pcs_len_mono hqT
      have e1 := and1 n hn
      have e2 : (n : Int) / 2 = ((n / 2 : Nat) : Int) := by omega
      have t1 := times_S o q (by clear e1; omega)
      have t2 := times_S q q (by clear e1; omega)
      by_cases hodd : n % 2 = 1
      · rw [hodd] at e1
        by_cases h1 : 1 < n
        · have hT2 : T = o * q * (q * q) ^ (n / 2) := by
            have e : n = 2 * (n / 2) + 1 := by clear e1; omega
            rw [hT, pow_half, Nat.mul_assoc, Nat.mul_comm q, ← Nat.pow_succ, Nat.succ_eq_add_one, ← e]
          have ih := power_l0 m (n / 2) (o * q) (q * q) T (by clear e1; omega) (by clear e1; omega) hT2 h0 hl
          refine Ev.step (f := fun k => (decimal_pieces_times.f k (C (pcs o)) (C (pcs q))).bind fun t268 => (decimal_pieces_times.f k (C (pcs q)) (C (pcs q))).bind fun t271 => decimal_Power.l0 k ((n / 2 : Nat) : Int) t268 t271) (fun k => ?_) (Ev.bind t1 (Ev.bind t2 ih))
          simp only [decimal_Power.l0, e1, e2]
          clear e1 e2
          simp (disch := omega) only [if_pos]
        · have hn1 : n = 1 := by clear e1; omega
          have hT2 : T = o * q * q ^ 0 := by rw [hT, hn1, Nat.pow_one, Nat.pow_zero, Nat.mul_one]
          have ih := power_l0 m (n / 2) (o * q) q T (by clear e1; omega) (by clear e1; omega) (by rw [hT2, hn1]) h0 hl
          refine Ev.step (f := fun k => (decimal_pieces_times.f k (C (pcs o)) (C (pcs q))).bind fun t268 => decimal_Power.l0 k ((n / 2 : Nat) : Int) t268 (C (pcs q))) (fun k => ?_) (Ev.bind t1 ih)
          simp only [decimal_Power.l0, e1, e2]
          clear e1 e2
          simp (disch := omega) only [if_pos, if_neg]
      · have h2 : n % 2 = 0 := by clear e1; omega
        rw [h2] at e1
        have h1 : 1 < n := by clear e1; omega
        have hT2 : T = o * (q * q) ^ (n / 2) := by
          have e : 2 * (n / 2) = n := by clear e1; omega
          rw [hT, pow_half, e]
        have ih := power_l0 m (n / 2) o (q * q) T (by clear e1; omega) (by clear e1; omega) hT2 h0 hl
        refine Ev.step (f := fun k => (decimal_pieces_times.f k (C (pcs q)) (C (pcs q))).bind fun t274 => decimal_Power.l0 k ((n / 2 : Nat) : Int) (C (pcs o)) t274) (fun k => ?_) (Ev.bind t2 ih)
        simp only [decimal_Power.l0, e1, e2]
        clear e1 e2
        simp (disch := omega) only [if_pos, if_neg]
def powr (a n : Nat) : ByteArray × Int := if n = 0 ∨ a = 1 then (S 1, 0) else if a = 0 then (S 0, 0) else if 66439 / (blen a - 1) < n then (⟨#[]⟩, 4) else fin (a ^ n)
theorem power_len {a n : Nat} (ha : 2 ≤ a) (h : ¬ 66439 / (blen a - 1) < n) : (pcs (a ^ n)).length ≤ 1000000 := by
  have hb : 2 ≤ blen a := by
    rcases Nat.lt_or_ge (blen a) 2 with h1 | h1
    · have h2 := lt_pow_blen a
      have h3 : 2 ^ blen a ≤ 2 ^ 1 := Nat.pow_le_pow_right (by decide) (by omega)
      omega
    · exact h1
  have h1 : n * (blen a - 1) ≤ 66439 := by
    rw [← Nat.le_div_iff_mul_le (by omega)]
    omega
  obtain ⟨M, hM⟩ : ∃ M, M = 1000000 := ⟨_, rfl⟩
  rw [← hM]
  apply pcs_len_le
  have h2 : a ^ n ≤ (2 ^ blen a) ^ n := Nat.pow_le_pow_left (Nat.le_of_lt (lt_pow_blen a)) n
  rw [← Nat.pow_mul] at h2
  have h3 : blen a * n ≤ 2 * (n * (blen a - 1)) := by
    rw [← Nat.mul_assoc, Nat.mul_comm 2 n, Nat.mul_assoc, Nat.mul_comm (blen a)]
    exact Nat.mul_le_mul_left _ (by omega)
  have h4 : 2 ^ (blen a * n) < 2 ^ M := Nat.pow_lt_pow_right (by decide) (by omega)
  have h5 : 2 ^ M ≤ 1000000000 ^ M := Nat.pow_le_pow_left (by decide) _
  exact Nat.lt_of_le_of_lt h2 (Nat.lt_of_lt_of_le h4 h5)
theorem power_f (a n : Nat) (h : Md a) (hn : n < 9223372036854775808) : Ev (fun k => decimal_Power.f k (S a) (n : Int)) (powr a n) := by
  have hM := h.out
  unfold decimal_Power.f powr
  refine Ev.neg (by omega) ?_
  by_cases h0 : n = 0
  · refine Ev.pos (by omega) ?_
    rw [if_pos (Or.inl h0)]
    refine Ev.step (f := fun _ => some (S 1, 0)) (fun k => ?_) (Ev.now _)
    rw [decimal_Power.j0, if_pos rfl, one_str]
  · refine Ev.neg (by omega) ?_
    rw [S_beq1]
    by_cases h1 : a = 1
    · rw [decide_eq_true h1, if_pos (Or.inr h1)]
      refine Ev.step (f := fun _ => some (S 1, 0)) (fun k => ?_) (Ev.now _)
      rw [decimal_Power.j0, if_pos rfl, one_str]
    · rw [decide_eq_false h1, if_neg (fun e => e.elim h0 h1)]
      by_cases hz : a = 0
      · rw [if_pos hz]
        refine Ev.step (f := fun _ => some (S 0, 0)) (fun k => ?_) (Ev.now _)
        rw [decimal_Power.j0, if_neg (by decide), if_pos ((S_is0 a).2 hz), zero_str]
      · rw [if_neg hz]
        have hb : 2 ≤ blen a := by
          rw [blen_pos hz, blen_pos (by omega)]; omega
        have hb2 : blen a ≤ 4000000 := by
          obtain ⟨K, hK⟩ : ∃ K, K = 4000000 := ⟨_, rfl⟩
          rw [← hK]
          apply blen_le
          have h5 := Lib.lt_pow_nDigits a
          have h6 : 10 ^ Lib.nDigits a ≤ (2 ^ 4) ^ Lib.nDigits a := Nat.pow_le_pow_left (by decide) _
          rw [← Nat.pow_mul] at h6
          have h7 : 2 ^ (4 * Lib.nDigits a) ≤ 2 ^ K := Nat.pow_le_pow_right (by decide) (by omega)
          exact Nat.lt_of_lt_of_le h5 (Nat.le_trans h6 h7)
        have e1 : wrap64 (((blen a : Nat) : Int) - 1) = ((blen a - 1 : Nat) : Int) := by rw [w64 (by omega) (by omega)]; omega
        have e2 : Int.tdiv (66439 : Int) ((blen a - 1 : Nat) : Int) = ((66439 / (blen a - 1) : Nat) : Int) := tdivn 66439 _
        have hd : 66439 / (blen a - 1) ≤ 66439 := Nat.div_le_self _ _
        have e3 : wrap64 ((66439 / (blen a - 1) : Nat) : Int) = ((66439 / (blen a - 1) : Nat) : Int) := by clear e1 e2; exact wnat ⟨by omega⟩
        refine Ev.step (f := fun k => (decimal_Bits.f k (S a)).bind fun t260 => (if (wrap64 (t260 - 1)) = 0 then (none) else (if (n : Int) > (wrap64 (Int.tdiv (66439 : Int) (wrap64 (t260 - 1)))) then (some ((⟨#[]⟩ : ByteArray), 4)) else ((decimal_cut.f k (S a)).bind fun t264 => (decimal_Power.l0 k (n : Int) (([1] : List Int)) t264))))) (fun k => ?_) (Ev.bind (bits_f a h) ?_)
        · rw [decimal_Power.j0, if_neg (by decide), if_neg (fun e => hz ((S_is0 a).1 e))]
        · rw [e1, e2, e3]
          clear e1 e2 e3
          refine Ev.neg (by omega) ?_
          by_cases hlim : 66439 / (blen a - 1) < n
          · rw [if_pos hlim]
            exact Ev.pos (by omega) (Ev.now _)
          · rw [if_neg hlim]
            refine Ev.neg (by omega) (Ev.bind (cut_f a (by omega)) ?_)
            have e5 : ([1] : List Int) = C (pcs 1) := by rw [pcs_pos (by decide), Nat.div_eq_of_lt (by decide), pcs_zero]; rfl
            rw [e5]
            exact power_l0 n n 1 a (a ^ n) (Nat.le_refl _) hn (by rw [Nat.one_mul]) (Nat.ne_of_gt (Nat.pow_pos (by omega))) (power_len (by omega) hlim)
end Go.Proofs.YtcfddphiflmnlaaDoor.P

namespace Go.Proofs.YtcfddphiflmnlaaDoor.P
open Go.RowKit Go.Proofs.YtcfddphiflmnlaaDoorW.PrintWords
set_option maxRecDepth 100000 in
theorem known_ev : Ev (fun k => schismalaw01_known.f k) true := Ev.of (k := 200) (fun k => schismalaw01_known.mono k) (by decide +kernel)
end Go.Proofs.YtcfddphiflmnlaaDoor.P

namespace Go.Proofs.YtcfddphiflmnlaaDoor.P
open Go.RowKit Go.Proofs.YtcfddphiflmnlaaDoorW.PrintWords
end Go.Proofs.YtcfddphiflmnlaaDoor.P

namespace Go.Proofs.YtcfddphiflmnlaaDoor.P
open Go.RowKit Go.Proofs.YtcfddphiflmnlaaDoorW.PrintWords
theorem make_end (acc : List UInt8) (hD : IsD acc) (hh : acc.head? ≠ some 48) : (if ((B8 acc).length : Int) = 0 then some (⟨#[48]⟩ : ByteArray) else some (strOfNums (B8 acc))) = some (S (dv acc)) := by
  rw [B8_length]
  rcases acc with _ | ⟨c, t⟩
  · rw [List.length_nil, if_pos (by rfl), zero_str]; rfl
  · rw [if_neg (by simp; omega), strOfNums_B8]
    congr 1
    refine S_of (s := ⟨(c :: t).toArray⟩) ⟨hD, ?_⟩
    rcases t with _ | ⟨d, t⟩
    · exact Or.inl rfl
    · exact Or.inr ⟨by simp, hh⟩
theorem make_digit {x : Int} (h0 : 0 ≤ x) : ∃ c : UInt8, (48 + Int.tmod x 10) % 256 = (c.toNat : Int) ∧ 48 ≤ c.toNat ∧ c.toNat ≤ 57 ∧ (c = 48 ↔ ¬ Int.tmod x 10 > 0) := by
  obtain ⟨n, rfl⟩ : ∃ n : Nat, x = n := ⟨x.toNat, by omega⟩
  have h1 := tmodn n 10
  have h2 : Int.tmod (n : Int) 10 = ((n % 10 : Nat) : Int) := h1
  rw [h2]
  have h3 : n % 10 < 10 := Nat.mod_lt _ (by decide)
  refine ⟨UInt8.ofNat (48 + n % 10), ?_, ?_, ?_, ?_⟩
  · rw [digit_toNat h3]; omega
  · rw [digit_toNat h3]; omega
  · rw [digit_toNat h3]; omega
  · constructor
    · intro e
      have := congrArg UInt8.toNat e
      rw [digit_toNat h3] at this
      have h48 : (48 : UInt8).toNat = 48 := rfl
      omega
    · intro e
      apply UInt8.toNat_inj.1
      rw [digit_toNat h3]
      have h48 : (48 : UInt8).toNat = 48 := rfl
      omega
theorem make_l0 (l : List Int) (hl : ∀ x, x ∈ l → 0 ≤ x) (hs : l.length < 4611686018427387904) : ∀ (Q P : List Int) (acc : List UInt8), l = P ++ Q → IsD acc → acc.head? ≠ some 48 → acc.length ≤ P.length → P.length ≤ 120 →
    ∃ n, n < 10 ^ l.length ∧ n < 10 ^ 120 ∧ Ev (fun k => schismalaw01_Make.l0 k l (B8 acc) (P.length : Int)) (S n)
  | [], P, acc, h, hD, hh, hp, hP => by
    have hll : l.length = P.length := by rw [h]; simp
    have h1 := dv_lt hD
    have h2 : 10 ^ acc.length ≤ 10 ^ l.length := Nat.pow_le_pow_right (by decide) (by omega)
    have h3 : 10 ^ acc.length ≤ 10 ^ 120 := Nat.pow_le_pow_right (by decide) (by omega)
    refine ⟨dv acc, by omega, by omega, ?_⟩
    refine Ev.step (f := fun k => schismalaw01_Make.j1 k l (B8 acc) (P.length : Int) false) (fun k => ?_) (Ev.step (f := fun _ => some (S (dv acc))) (fun k => ?_) (Ev.now _))
    · clear h2 h3
      simp (disch := omega) only [schismalaw01_Make.l0, if_neg]
    · simp only [schismalaw01_Make.j1, Bool.false_eq_true, if_false]
      exact make_end acc hD hh
  | x :: Q, P, acc, h, hD, hh, hp, hP => by
    have hll : l.length = P.length + (Q.length + 1) := by rw [h]; simp
    have h1 := dv_lt hD
    by_cases h120 : P.length = 120
    · have h2 : 10 ^ acc.length ≤ 10 ^ l.length := Nat.pow_le_pow_right (by decide) (by omega)
      have h3 : 10 ^ acc.length ≤ 10 ^ 120 := Nat.pow_le_pow_right (by decide) (by omega)
      refine ⟨dv acc, by omega, by omega, ?_⟩
      refine Ev.step (f := fun k => schismalaw01_Make.j1 k l (B8 acc) (P.length : Int) false) (fun k => ?_) (Ev.step (f := fun _ => some (S (dv acc))) (fun k => ?_) (Ev.now _))
      · clear h2 h3 h1
        have e9 : decide ((P.length : Int) < 120) = false := decide_eq_false_iff_not.2 (by omega)
        simp (disch := omega) only [schismalaw01_Make.l0, if_pos, e9]
      · simp only [schismalaw01_Make.j1, Bool.false_eq_true, if_false]
        exact make_end acc hD hh
    · have hx : 0 ≤ x := hl x (by rw [h]; simp)
      obtain ⟨c, e1, e2, e3, e4⟩ := make_digit hx
      have e5 : rd l (P.length : Int) = x := by rw [h]; simp [rd, List.getD_eq_getElem?_getD]
      have e6 := wsucc (a := P.length) ⟨by omega⟩
      have e7 : (B8 acc).length = acc.length := B8_length _
      have st : ∀ k, schismalaw01_Make.l0 (k + 1) l (B8 acc) (P.length : Int) = schismalaw01_Make.j1 k l (B8 acc) (P.length : Int) true := fun k => by
        clear e1 e4 h1 e5 e6
        have e9 : decide ((P.length : Int) < 120) = true := decide_eq_true (by omega)
        simp (disch := omega) only [schismalaw01_Make.l0, if_pos, e9]
      have ha : B8 acc ++ [(c.toNat : Int)] = B8 (acc ++ [c]) := by rw [B8_append]; rfl
      clear h1
      by_cases h0 : c = 48
      · have h00 := e4.1 h0
        rcases acc with _ | ⟨d, t⟩
        · obtain ⟨n, n1, n2, n3⟩ := make_l0 l hl hs Q (P ++ [x]) [] (by rw [h]; simp) IsD.nil (by simp) (by simp) (by simp; omega)
          refine ⟨n, n1, n2, Ev.step st (Ev.step (f := fun k => schismalaw01_Make.l0 k l (B8 []) ((P.length + 1 : Nat) : Int)) (fun k => ?_) (by simpa using n3))⟩
          simp only [schismalaw01_Make.j1, e5, e6, e1, if_true, if_neg h00]
          clear n1 n2 n3 e1 e4 h00 e5 e6 st
          have e8 : (B8 []).length = 0 := rfl
          simp (disch := omega) only [if_pos, if_neg]
        · obtain ⟨n, n1, n2, n3⟩ := make_l0 l hl hs Q (P ++ [x]) (d :: t ++ [c]) (by rw [h]; simp) (hD.append (IsD.cons ⟨e2, e3⟩ IsD.nil)) (by simpa using hh) (by simp at hp ⊢; omega) (by simp; omega)
          refine ⟨n, n1, n2, Ev.step st (Ev.step (f := fun k => schismalaw01_Make.l0 k l (B8 (d :: t ++ [c])) ((P.length + 1 : Nat) : Int)) (fun k => ?_) (by simpa using n3))⟩
          simp only [schismalaw01_Make.j1, e5, e6, e1, if_true, if_neg h00, ha]
          clear n1 n2 n3 e1 e4 h00 e5 e6 st
          have e8 : (d :: t).length = t.length + 1 := rfl
          rw [e8] at e7 hp
          simp (disch := omega) only [if_pos]
      · have h00 : Int.tmod x 10 > 0 := Decidable.byContradiction fun h9 => h0 (e4.2 h9)
        have hh2 : (acc ++ [c]).head? ≠ some 48 := by
          rcases acc with _ | ⟨d, t⟩
          · simpa using h0
          · simpa using hh
        obtain ⟨n, n1, n2, n3⟩ := make_l0 l hl hs Q (P ++ [x]) (acc ++ [c]) (by rw [h]; simp) (hD.append (IsD.cons ⟨e2, e3⟩ IsD.nil)) hh2 (by simp; omega) (by simp; omega)
        refine ⟨n, n1, n2, Ev.step st (Ev.step (f := fun k => schismalaw01_Make.l0 k l (B8 (acc ++ [c])) ((P.length + 1 : Nat) : Int)) (fun k => ?_) (by simpa using n3))⟩
        simp only [schismalaw01_Make.j1, e5, e6, e1, if_true, if_pos h00, ha]
        clear n1 n2 n3 e1 e4 h00 e5 e6 st
        simp (disch := omega) only [if_pos]
theorem make_f (l : List Int) (hl : ∀ x, x ∈ l → (Lit.int .u8 x).wf = true) (hs : l.length ≤ 140737488351232) :
    ∃ n, n < 10 ^ l.length ∧ n < 10 ^ 120 ∧ Ev (fun k => schismalaw01_Make.f k l) (S n) :=
  make_l0 l (fun x hx => (wf_u8 (hl x hx)).1) (by omega) l [] [] rfl IsD.nil (by simp) (by simp) (by simp)
end Go.Proofs.YtcfddphiflmnlaaDoor.P

namespace Go.Proofs.YtcfddphiflmnlaaDoor.P
open Go.RowKit Go.Proofs.YtcfddphiflmnlaaDoorW.PrintWords
end Go.Proofs.YtcfddphiflmnlaaDoor.P

namespace Go.Proofs.YtcfddphiflmnlaaDoor.P
open Go.RowKit Go.Proofs.YtcfddphiflmnlaaDoorW.PrintWords
end Go.Proofs.YtcfddphiflmnlaaDoor.P

namespace Go.Proofs.YtcfddphiflmnlaaDoor.P
open Go.RowKit Go.Proofs.YtcfddphiflmnlaaDoorW.PrintWords
theorem cmp_neg (a b : Nat) : cmp a b < 0 ↔ a < b := by
  unfold cmp
  by_cases h : a < b
  · simp [h]
  · by_cases h2 : b < a
    · simp [h, h2]
    · simp [h, h2]
theorem S_ne_self (n : Nat) : ((S n).toList != (S n).toList) = false := by simp
end Go.Proofs.YtcfddphiflmnlaaDoor.P

namespace Go.Proofs.YtcfddphiflmnlaaDoor.P
open Go.RowKit Go.Proofs.YtcfddphiflmnlaaDoorW.PrintWords
theorem pow_lt_dig {a n : Nat} (ha : a < 10 ^ 20) (hn : 0 < n) : a ^ n < 10 ^ (20 * n) := by
  rw [Nat.pow_mul]
  exact Nat.pow_lt_pow_left ha (by omega)
theorem nDig_pow {a n : Nat} (ha : a < 10 ^ 20) : Lib.nDigits (a ^ n) ≤ 20 * n + 1 := by
  rcases Nat.eq_zero_or_pos n with h | h
  · subst h
    rw [Nat.pow_zero]
    exact Nat.le_of_eq (Lib.nDigits_small (by decide))
  · have := nDig_le (by omega) (pow_lt_dig ha h)
    omega
theorem blen_20 {a : Nat} (ha : a < 10 ^ 20) : blen a ≤ 67 := blen_le (Nat.lt_trans ha (by decide))
theorem powr_ok {a n : Nat} (ha : a < 10 ^ 20) (hn : n ≤ 40) : powr a n = (S (a ^ n), 0) := by
  have hb := blen_20 ha
  have hd := nDig_pow (n := n) ha
  clear ha
  unfold powr
  by_cases h0 : n = 0
  · subst h0; rw [if_pos (Or.inl rfl), Nat.pow_zero]
  · by_cases h1 : a = 1
    · subst h1; rw [if_pos (Or.inr rfl), Nat.one_pow]
    · rw [if_neg (fun e => e.elim h0 h1)]
      by_cases hz : a = 0
      · subst hz; rw [if_pos rfl, Nat.zero_pow (by omega)]
      · rw [if_neg hz]
        have hb2 : 2 ≤ blen a := by rw [blen_pos hz, blen_pos (by omega)]; omega
        have h5 : 40 ≤ 66439 / (blen a - 1) := by
          rw [Nat.le_div_iff_mul_le (by omega)]
          omega
        rw [if_neg (by omega), fin, if_neg (by omega)]
theorem cmp_le {a b : Nat} (h : a ≤ b) : cmp a b ≤ 0 := by
  unfold cmp
  by_cases h1 : a < b
  · rw [if_pos h1]; decide
  · rw [if_neg h1, if_neg (by omega)]; exact Int.le_refl _
theorem two_str : (⟨#[50]⟩ : ByteArray) = S 2 := S_of ((canb_iff _).1 (by decide))
theorem powr_two {m : Nat} (hm : m ≤ 2000) : powr 2 m = (S (2 ^ m), 0) := by
  have hb : blen 2 = 2 := by rw [blen_pos (by decide), blen_pos (by decide), blen_zero]
  have hd : Lib.nDigits (2 ^ m) ≤ m + 1 := by
    refine nDig_le (by omega) ?_
    exact Nat.lt_of_le_of_lt (Nat.pow_le_pow_left (by decide) m) (Nat.pow_lt_pow_right (by decide) (by omega))
  unfold powr
  by_cases h0 : m = 0
  · subst h0; rw [if_pos (Or.inl rfl), Nat.pow_zero]
  · rw [if_neg (fun e => e.elim h0 (by decide)), if_neg (by decide), hb, if_neg (by omega), fin, if_neg (by omega)]
end Go.Proofs.YtcfddphiflmnlaaDoor.P

namespace Go.Proofs.YtcfddphiflmnlaaDoor.Pure
open Go.RowKit Go.Proofs.YtcfddphiflmnlaaDoor.P Go.Proofs.YtcfddphiflmnlaaDoorW.PrintWords Go.Proofs.YtcfddphiflmnlaaDoorW.PrintLast
theorem exp16 (u : Nat) (h : u ≤ 255) : wrap64 (Int.tmod (u : Int) 16) = ((u % 16 : Nat) : Int) := by
  have e1 : Int.tmod (u : Int) 16 = ((u % 16 : Nat) : Int) := tmodn u 16
  rw [e1, w64 (by omega) (by omega)]
theorem DecimalExponents : schismalaw01_DecimalExponents.Pure := by
  intro l x1 x2 _ hl1 hl2 hx1 hx2
  obtain ⟨u0, u1⟩ := wf_u8 hx1
  obtain ⟨v0, v1⟩ := wf_u8 hx2
  obtain ⟨u, rfl⟩ : ∃ u : Nat, x1 = u := ⟨x1.toNat, by omega⟩
  obtain ⟨v, rfl⟩ : ∃ v : Nat, x2 = v := ⟨x2.toNat, by omega⟩
  refine Ev.rounds (Ev.bind known_ev (Ev.pos rfl ?_))
  by_cases h : (l.length : Int) > 10
  · rw [decide_eq_true h]
    refine Ev.step (f := fun k => (schismalaw01_known.f k).bind fun t => some t) (fun k => ?_) (Ev.bind known_ev (Ev.now _))
    simp only [schismalaw01_DecimalExponents.j0, if_true]
  · rw [decide_eq_false h]
    obtain ⟨a, a1, _, a3⟩ := make_f l hl2 (by omega)
    have ha10 : a < 10 ^ 10 := Nat.lt_of_lt_of_le a1 (Nat.pow_le_pow_right (by decide) (by omega))
    have ha : a < 10 ^ 20 := Nat.lt_trans ha10 (by decide)
    have da : Lib.nDigits a ≤ 10 := nDig_le (by decide) ha10
    have hM : Md a := ⟨by omega⟩
    have e1 := exp16 u (by omega)
    have e2 := exp16 v (by omega)
    have hu : u % 16 < 16 := Nat.mod_lt _ (by decide)
    have hv : v % 16 < 16 := Nat.mod_lt _ (by decide)
    generalize u % 16 = i at e1 hu
    generalize v % 16 = j at e2 hv
    have e3 := wadd (a := i) (b := j) ⟨by clear e1 e2; omega⟩
    have p1 := power_f a i hM (by clear e1 e2 e3; omega)
    have p2 := power_f a j hM (by clear e1 e2 e3; omega)
    have p3 := power_f a (i + j) hM (by clear e1 e2 e3; omega)
    rw [powr_ok ha (by clear e1 e2 e3; omega)] at p1 p2 p3
    have d1 := nDig_pow (n := i) ha
    have d2 := nDig_pow (n := j) ha
    have d3 := nDig_pow (n := i + j) ha
    have m1 : Md (a ^ i) := ⟨by clear e1 e2 e3; omega⟩
    have m2 : Md (a ^ j) := ⟨by clear e1 e2 e3; omega⟩
    have m3 : Md (a ^ (i + j)) := ⟨by clear e1 e2 e3; omega⟩
    have pm := mul_f (a ^ i) (a ^ j) m1 m2
    rw [← Nat.pow_add] at pm
    have hbl : blen (a ^ (i + j)) ≤ 1201 := by
      obtain ⟨K, hK⟩ : ∃ K, K = 1201 := ⟨_, rfl⟩
      rw [← hK]
      apply blen_le
      have q1 : a ^ (i + j) ≤ (10 ^ 10) ^ (i + j) := Nat.pow_le_pow_left (Nat.le_of_lt ha10) _
      have q2 : (10 ^ 10) ^ (i + j) ≤ (2 ^ 40) ^ (i + j) := Nat.pow_le_pow_left (by decide) _
      rw [← Nat.pow_mul 2] at q2
      exact Nat.lt_of_le_of_lt (Nat.le_trans q1 q2) (Nat.pow_lt_pow_right (by decide) (by clear e1 e2 e3 q1 q2; omega))
    clear ha10 ha a1
    refine Ev.step (f := fun k => (schismalaw01_Make.f k l).bind fun t511 => ((decimal_Power.f k t511 (i : Int)).bind fun bt512 => ((decimal_Power.f k t511 (j : Int)).bind fun bt514 => ((decimal_Power.f k t511 ((i + j : Nat) : Int)).bind fun bt516 => (if bt512.2 = 0 then (if bt514.2 = 0 then (if bt516.2 = 0 then ((decimal_Mul.f k bt512.1 bt514.1).bind fun t518 => (schismalaw01_DecimalExponents.j1 k bt516.1 (t518.toList != bt516.1.toList))) else (schismalaw01_DecimalExponents.j1 k bt516.1 true)) else (schismalaw01_DecimalExponents.j1 k bt516.1 true)) else (schismalaw01_DecimalExponents.j1 k bt516.1 true)))))) (fun k => ?_) ?_
    · simp only [schismalaw01_DecimalExponents.j0, Bool.false_eq_true, if_false, e1, e2, e3]
    · clear e1 e2 e3
      refine Ev.bind a3 (Ev.bind p1 (Ev.bind p2 (Ev.bind p3 (Ev.pos rfl (Ev.pos rfl (Ev.pos rfl (Ev.bind pm ?_)))))))
      rw [S_ne_self]
      generalize a ^ (i + j) = z at m3 hbl d3
      refine Ev.step (f := fun k => (decimal_Bits.f k (S z)).bind fun t519 => (if (S z).toList = ([48] : List UInt8) then (some (t519 == 0)) else (if t519 < 1 then (schismalaw01_DecimalExponents.j2 k (S z) t519 true) else (schismalaw01_DecimalExponents.j2 k (S z) t519 (decide (t519 > 2000)))))) (fun k => ?_) (Ev.bind (bits_f z m3) ?_)
      · simp only [schismalaw01_DecimalExponents.j1, Bool.false_eq_true, if_false]
      · by_cases hz : z = 0
        · refine Ev.pos ((S_is0 z).2 hz) ?_
          rw [hz, blen_zero]
          exact Ev.now _
        · have hb1 : 1 ≤ blen z := by rw [blen_pos hz]; omega
          refine Ev.neg (fun e => hz ((S_is0 z).1 e)) (Ev.neg (by omega) ?_)
          rw [decide_eq_false (by omega)]
          have hlow : 2 ^ (blen z - 1) ≤ z := pow_le_blen (by omega)
          have hhigh := lt_pow_blen z
          have hsplit : 2 ^ blen z = 2 ^ (blen z - 1) + 2 ^ (blen z - 1) := by
            have : blen z = blen z - 1 + 1 := by omega
            rw [this, Nat.pow_succ, Nat.add_sub_cancel]
            omega
          rw [hsplit] at hhigh
          have dl := nDig_mono hlow
          have ml : Md (2 ^ (blen z - 1)) := ⟨by have := m3.out; omega⟩
          have pw := power_f 2 (blen z - 1) ⟨by rw [Lib.nDigits_small (by decide)]; decide⟩ (by omega)
          rw [powr_two (by omega)] at pw
          have e4 : wrap64 (((blen z : Nat) : Int) - 1) = ((blen z - 1 : Nat) : Int) := by rw [w64 (by omega) (by omega)]; omega
          refine Ev.step (f := fun k => (decimal_Power.f k (S 2) ((blen z - 1 : Nat) : Int)).bind fun bt520 => (if bt520.2 = 0 then ((decimal_Compare.f bt520.1 (S z)).bind fun t522 => (if t522 ≤ 0 then ((decimal_Add.f k bt520.1 bt520.1).bind fun t523 => ((decimal_Compare.f (S z) t523).bind fun t524 => (some (decide (t524 < 0))))) else (some false))) else (some false))) (fun k => ?_) (Ev.bind pw (Ev.pos rfl ?_))
          · simp only [schismalaw01_DecimalExponents.j2, Bool.false_eq_true, if_false, e4, two_str]
          · clear e4
            generalize 2 ^ (blen z - 1) = low at *
            have k1 := ml.out
            have k2 := m3.out
            have ms : Md (low + low) := ⟨by have := nDig_add low low; omega⟩
            have k3 := ms.out
            simp only [compareS_f low z (by omega) (by omega), Option.bind_some]
            refine Ev.pos (cmp_le hlow) (Ev.bind (add_f low low ml ml) ?_)
            simp only [compareS_f z (low + low) (by omega) (by omega), Option.bind_some]
            exact Ev.eq (Ev.now _) (decide_eq_true ((cmp_neg _ _).2 hhigh))
end Go.Proofs.YtcfddphiflmnlaaDoor.Pure
