/- The printed functions as operations on numbers, and the law's answer: true at every input. Conditions: those of each theorem; the law's own has the row's bounds alone. -/
import Derived.Lib.ItoaNum
import Derived.Test.YtcfddphiflmnlaaDoorDecimalAddsF7
import Derived.Test.YtcfddphiflmnlaaDoorDecimalAddsWPlus

namespace Go.Proofs.YtcfddphiflmnlaaDoor.P
open Go.RowKit Go.Proofs.YtcfddphiflmnlaaDoorW.PrintWords
def val : List Nat → Nat
  | [] => 0
  | a :: l => a + 1000000000 * val l
def Ok (l : List Nat) : Prop := ∀ a, a ∈ l → a < 1000000000
def pcs (n : Nat) : List Nat := if h : n = 0 then [] else (n % 1000000000) :: pcs (n / 1000000000)
termination_by n
decreasing_by omega
theorem pcs_zero : pcs 0 = [] := by rw [pcs]; rfl
theorem pcs_pos {n : Nat} (h : n ≠ 0) : pcs n = (n % 1000000000) :: pcs (n / 1000000000) := by rw [pcs, dif_neg h]
theorem Ok.nil : Ok [] := fun _ h => by cases h
theorem Ok.cons {a : Nat} {l : List Nat} (ha : a < 1000000000) (hl : Ok l) : Ok (a :: l) := fun x hx => by
  rcases List.mem_cons.1 hx with rfl | hx
  · exact ha
  · exact hl x hx
theorem Ok.head {a : Nat} {l : List Nat} (h : Ok (a :: l)) : a < 1000000000 := h a List.mem_cons_self
theorem Ok.tail {a : Nat} {l : List Nat} (h : Ok (a :: l)) : Ok l := fun x hx => h x (List.mem_cons_of_mem _ hx)
theorem Ok.append {l m : List Nat} (hl : Ok l) (hm : Ok m) : Ok (l ++ m) := fun x hx => by
  rcases List.mem_append.1 hx with hx | hx
  · exact hl x hx
  · exact hm x hx
theorem Ok.left {l m : List Nat} (h : Ok (l ++ m)) : Ok l := fun x hx => h x (List.mem_append_left _ hx)
theorem Ok.right {l m : List Nat} (h : Ok (l ++ m)) : Ok m := fun x hx => h x (List.mem_append_right _ hx)
theorem Ok.take {l : List Nat} (h : Ok l) (i : Nat) : Ok (l.take i) := fun x hx => h x (List.mem_of_mem_take hx)
theorem Ok.drop {l : List Nat} (h : Ok l) (i : Nat) : Ok (l.drop i) := fun x hx => h x (List.mem_of_mem_drop hx)
theorem Ok.zeros (n : Nat) : Ok (List.replicate n 0) := fun x hx => by rw [(List.mem_replicate.1 hx).2]; omega
theorem Ok.getD {l : List Nat} (h : Ok l) (i : Nat) : l.getD i 0 < 1000000000 := by
  rw [List.getD_eq_getElem?_getD]
  by_cases hi : i < l.length
  · rw [List.getElem?_eq_getElem hi]; exact h _ (List.getElem_mem hi)
  · rw [List.getElem?_eq_none (by omega)]; simp
theorem ok_pcs (n : Nat) : Ok (pcs n) := by
  induction n using Nat.strongRecOn with
  | _ n ih =>
    by_cases h : n = 0
    · subst h; rw [pcs_zero]; exact Ok.nil
    · rw [pcs_pos h]; exact Ok.cons (by omega) (ih _ (by omega))
theorem val_pcs (n : Nat) : val (pcs n) = n := by
  induction n using Nat.strongRecOn with
  | _ n ih =>
    by_cases h : n = 0
    · subst h; rw [pcs_zero]; rfl
    · rw [pcs_pos h, val, ih _ (by omega)]; omega
theorem val_append (l m : List Nat) : val (l ++ m) = val l + 1000000000 ^ l.length * val m := by
  induction l with
  | nil => simp [val]
  | cons a l ih =>
    simp only [List.cons_append, val, ih, List.length_cons, Nat.pow_succ]
    rw [Nat.mul_add, Nat.add_assoc, ← Nat.mul_assoc, Nat.mul_comm 1000000000 (1000000000 ^ l.length)]
theorem val_snoc (l : List Nat) (a : Nat) : val (l ++ [a]) = val l + 1000000000 ^ l.length * a := by rw [val_append]; simp [val]
theorem val_zeros (n : Nat) : val (List.replicate n 0) = 0 := by
  induction n with
  | zero => rfl
  | succ n ih => rw [List.replicate_succ, val, ih]
theorem val_lt {l : List Nat} (h : Ok l) : val l < 1000000000 ^ l.length := by
  induction l with
  | nil => simp [val]
  | cons a l ih =>
    have h1 := h.head
    have h2 := ih h.tail
    simp only [val, List.length_cons, Nat.pow_succ]
    omega
theorem pow_pos9 (k : Nat) : 0 < 1000000000 ^ k := Nat.pow_pos (by decide)
theorem pcs_snoc : ∀ (l : List Nat) (a : Nat), Ok (l ++ [a]) → a ≠ 0 → pcs (val (l ++ [a])) = l ++ [a]
  | [], a, h, ha => by
    have := h.head
    have e : val ([] ++ [a]) = a := by simp [val]
    rw [e, pcs_pos ha, Nat.mod_eq_of_lt this, Nat.div_eq_of_lt this, pcs_zero]
    rfl
  | b :: l, a, h, ha => by
    have hb : b < 1000000000 := h.head
    have ih := pcs_snoc l a h.tail ha
    have hv : val (l ++ [a]) ≠ 0 := by
      intro e
      rw [e, pcs_zero] at ih
      exact absurd ih (by simp)
    have e : val (b :: l ++ [a]) = b + 1000000000 * val (l ++ [a]) := rfl
    rw [e, pcs_pos (by omega), show (b + 1000000000 * val (l ++ [a])) % 1000000000 = b by omega, show (b + 1000000000 * val (l ++ [a])) / 1000000000 = val (l ++ [a]) by omega, ih]
    rfl
theorem pcs_len_le {n k : Nat} (h : n < 1000000000 ^ k) : (pcs n).length ≤ k := by
  induction k generalizing n with
  | zero => rw [show n = 0 by simpa using h, pcs_zero]; simp
  | succ k ih =>
    by_cases h0 : n = 0
    · subst h0; rw [pcs_zero]; simp
    · rw [pcs_pos h0, List.length_cons]
      have := ih (n := n / 1000000000) (by rw [Nat.pow_succ] at h; omega)
      omega
theorem lt_pow_pcs (n : Nat) : n < 1000000000 ^ (pcs n).length := by
  have := val_lt (ok_pcs n)
  rwa [val_pcs] at this
theorem pcs_len_mono {a b : Nat} (h : a ≤ b) : (pcs a).length ≤ (pcs b).length := pcs_len_le (Nat.lt_of_le_of_lt h (lt_pow_pcs b))
theorem pcs_len_mul (a b : Nat) : (pcs (a * b)).length ≤ (pcs a).length + (pcs b).length := by
  apply pcs_len_le
  rw [Nat.pow_add]
  rcases Nat.eq_zero_or_pos b with h | h
  · subst h; exact Nat.mul_pos (pow_pos9 _) (pow_pos9 _)
  · exact Nat.lt_of_lt_of_le (Nat.mul_lt_mul_of_pos_right (lt_pow_pcs a) h) (Nat.mul_le_mul_left _ (Nat.le_of_lt (lt_pow_pcs b)))
theorem pcs_nil_iff {n : Nat} : pcs n = [] ↔ n = 0 := by
  constructor
  · intro h
    by_cases h0 : n = 0
    · exact h0
    · rw [pcs_pos h0] at h; cases h
  · rintro rfl; exact pcs_zero
theorem Ok.set {l : List Nat} (h : Ok l) (i x : Nat) (hx : x < 1000000000) : Ok (l.set i x) := fun a ha => by
  rcases List.mem_or_eq_of_mem_set ha with h1 | h1
  · exact h a h1
  · omega
def C (l : List Nat) : List Int := l.map fun n : Nat => (n : Int)
theorem C_nil : C [] = [] := rfl
theorem C_length (l : List Nat) : (C l).length = l.length := by simp [C]
theorem C_append (l m : List Nat) : C (l ++ m) = C l ++ C m := by simp [C]
theorem C_take (l : List Nat) (i : Nat) : (C l).take i = C (l.take i) := by simp [C, List.map_take]
theorem C_set (l : List Nat) (i x : Nat) : (C l).set i (x : Int) = C (l.set i x) := by simp [C, List.map_set]
theorem C_zeros (n : Nat) : List.replicate n (0 : Int) = C (List.replicate n 0) := by simp [C]
theorem rd_C (l : List Nat) (i : Nat) : rd (C l) (i : Int) = (l.getD i 0 : Nat) := by
  simp only [rd, C, Int.toNat_natCast, List.getD_eq_getElem?_getD, List.getElem?_map]
  cases l[i]? <;> simp
theorem w64 {n : Int} (h0 : -9223372036854775808 ≤ n) (h1 : n ≤ 9223372036854775807) : wrap64 n = n := by unfold wrap64; omega
theorem u64w {n : Int} (h0 : 0 ≤ n) (h1 : n ≤ 18446744073709551615) : IntKind.u64.wrap n = n := by rw [IntKind.wrap_u64]; omega
theorem u64n (n : Nat) (h : n < 18446744073709551616) : IntKind.u64.wrap (n : Int) = n := u64w (by omega) (by omega)
theorem tdivn (a b : Nat) : Int.tdiv (a : Int) (b : Int) = ((a / b : Nat) : Int) := (Int.ofNat_tdiv a b).symm
theorem tmodn (a b : Nat) : Int.tmod (a : Int) (b : Int) = ((a % b : Nat) : Int) := (Int.ofNat_tmod a b).symm
theorem tdiv9 (a : Nat) : Int.tdiv (a : Int) 1000000000 = ((a / 1000000000 : Nat) : Int) := tdivn a 1000000000
theorem tmod9 (a : Nat) : Int.tmod (a : Int) 1000000000 = ((a % 1000000000 : Nat) : Int) := tmodn a 1000000000
structure Sm (n : Nat) : Prop where
  out : n < 4611686018427387904
theorem Sm.le {a b : Nat} (h : Sm b) (hab : a ≤ b) : Sm a := ⟨Nat.lt_of_le_of_lt hab h.out⟩
theorem wadd {a b : Nat} (h : Sm (a + b)) : wrap64 ((a : Int) + (b : Int)) = ((a + b : Nat) : Int) := by have := h.out; rw [w64] <;> omega
theorem wsucc {a : Nat} (h : Sm a) : wrap64 ((a : Int) + 1) = ((a + 1 : Nat) : Int) := by have := h.out; rw [w64] <;> omega
theorem wpred1 {a : Nat} (h : Sm (a + 1)) : wrap64 (((a + 1 : Nat) : Int) - 1) = (a : Int) := by have := h.out; rw [w64] <;> omega
theorem wnat {a : Nat} (h : Sm a) : wrap64 (a : Int) = (a : Int) := by have := h.out; rw [w64] <;> omega
theorem usmall {n : Nat} (h : n < 1000000000000000000) : IntKind.u64.wrap (n : Int) = (n : Int) := u64n n (by omega)
theorem uadd {a b : Nat} (h : a + b < 18446744073709551616) : IntKind.u64.wrap ((a : Int) + (b : Int)) = ((a + b : Nat) : Int) := by rw [← Int.natCast_add]; exact u64n _ h
theorem umul {a b : Nat} (h : a * b < 18446744073709551616) : IntKind.u64.wrap ((a : Int) * (b : Int)) = ((a * b : Nat) : Int) := by rw [← Int.natCast_mul]; exact u64n _ h
end Go.Proofs.YtcfddphiflmnlaaDoor.P

namespace Go.Proofs.YtcfddphiflmnlaaDoor.P
open Go.RowKit Go.Proofs.YtcfddphiflmnlaaDoorW.PrintWords
theorem Ev.eq {α : Type} {g : Nat → Option α} {r r' : α} (h : Ev g r) (e : r = r') : Ev g r' := e ▸ h
theorem Ev.pos {α : Type} {p : Prop} [Decidable p] {g f : Nat → Option α} {r : α} (h : p) (k : Ev g r) : Ev (fun n => if p then g n else f n) r := by
  simp only [if_pos h]; exact k
theorem Ev.neg {α : Type} {p : Prop} [Decidable p] {g f : Nat → Option α} {r : α} (h : ¬ p) (k : Ev f r) : Ev (fun n => if p then g n else f n) r := by
  simp only [if_neg h]; exact k
theorem concat_of_len {α : Type} {l : List α} {n : Nat} (h : l.length = n + 1) : ∃ m a, l = m ++ [a] ∧ m.length = n := by
  rcases List.eq_nil_or_concat l with e | ⟨m, a, e⟩
  · subst e; simp at h
  · refine ⟨m, a, by simpa using e, ?_⟩
    subst e
    simpa using h
theorem getD_mid (l m : List Nat) (a : Nat) : (l ++ a :: m).getD l.length 0 = a := by
  simp [List.getD_eq_getElem?_getD]
theorem set_mid (l m : List Nat) (a b : Nat) : (l ++ a :: m).set l.length b = l ++ b :: m := by
  simp
theorem trim_l0 : ∀ (n : Nat) (l : List Nat), l.length = n → Ok l → n < 4611686018427387904 → Ev (fun k => decimal_pieces_trim.l0 k (C l)) (C (pcs (val l)))
  | 0, l, hl, _, _ => by
    obtain rfl := List.length_eq_zero_iff.1 hl
    refine Ev.step (f := fun _ => some []) (fun k => ?_) (Ev.eq (Ev.now _) ?_)
    · simp only [decimal_pieces_trim.l0, C_nil, List.length_nil]
      rfl
    · rw [show val [] = 0 from rfl, pcs_zero]; rfl
  | n + 1, l, hl, h, hn => by
    obtain ⟨m, a, rfl, hm⟩ := concat_of_len hl
    have h1 : (C (m ++ [a])).length = n + 1 := by rw [C_length]; exact hl
    have h3 : rd (C (m ++ [a])) (n : Int) = a := by rw [rd_C, ← hm, getD_mid]
    have h4 : wrap64 (((C (m ++ [a])).length : Int) - 1) = (n : Int) := by rw [h1, w64] <;> omega
    by_cases ha : a = 0
    · subst ha
      refine Ev.step (f := fun k => decimal_pieces_trim.l0 k (C m)) (fun k => ?_) (Ev.eq (trim_l0 n m hm h.left (by omega)) (by rw [val_snoc, Nat.mul_zero, Nat.add_zero]))
      simp (disch := omega) only [decimal_pieces_trim.l0, h4, h3, if_pos]
      congr 1
      rw [Int.toNat_natCast, C_take, ← hm, List.take_left]
    · refine Ev.step (f := fun _ => some (C (m ++ [a]))) (fun k => ?_) (Ev.eq (Ev.now _) (by rw [pcs_snoc m a h ha]))
      simp (disch := omega) only [decimal_pieces_trim.l0, h4, h3, if_pos, if_neg]
theorem trim_f (l : List Nat) (h : Ok l) (hl : l.length < 4611686018427387904) : Ev (fun k => decimal_pieces_trim.f k (C l)) (C (pcs (val l))) := by
  unfold decimal_pieces_trim.f
  exact trim_l0 _ l rfl h hl
def cmp (a b : Nat) : Int := if a < b then -1 else if b < a then 1 else 0
end Go.Proofs.YtcfddphiflmnlaaDoor.P

namespace Go.Proofs.YtcfddphiflmnlaaDoor.P
open Go.RowKit Go.Proofs.YtcfddphiflmnlaaDoorW.PrintWords
theorem snoc_ind {α : Type} {p : List α → Prop} (nil : p []) (snoc : ∀ (l : List α) (a : α), p l → p (l ++ [a])) (l : List α) : p l := by
  have h : ∀ (n : Nat) (l : List α), l.length = n → p l := by
    intro n
    induction n with
    | zero => intro l hl; rw [List.length_eq_zero_iff.1 hl]; exact nil
    | succ n ih =>
      intro l hl
      rcases List.eq_nil_or_concat l with e | ⟨m, a, e⟩
      · rw [e] at hl; simp at hl
      · have e' : l = m ++ [a] := by simpa using e
        subst e'
        exact snoc m a (ih m (by simpa using hl))
  exact h _ l rfl
def dv (l : List UInt8) : Nat := l.foldl (fun n c => 10 * n + (c.toNat - 48)) 0
def IsD (l : List UInt8) : Prop := ∀ c, c ∈ l → 48 ≤ c.toNat ∧ c.toNat ≤ 57
def Can (l : List UInt8) : Prop := IsD l ∧ (l.length = 1 ∨ (1 < l.length ∧ l.head? ≠ some 48))
theorem dv_nil : dv [] = 0 := rfl
theorem dv_snoc (l : List UInt8) (c : UInt8) : dv (l ++ [c]) = 10 * dv l + (c.toNat - 48) := by simp [dv, List.foldl_append]
theorem dv_append (l m : List UInt8) : dv (l ++ m) = dv l * 10 ^ m.length + dv m := by
  induction m using snoc_ind with
  | nil => simp [dv_nil]
  | snoc m c ih =>
    rw [← List.append_assoc, dv_snoc, ih, dv_snoc, List.length_append, List.length_singleton, Nat.pow_succ, Nat.mul_add, ← Nat.mul_assoc (dv l), Nat.mul_comm _ 10]
    omega
theorem IsD.nil : IsD [] := fun _ h => by cases h
theorem IsD.cons {c : UInt8} {l : List UInt8} (h1 : 48 ≤ c.toNat ∧ c.toNat ≤ 57) (h2 : IsD l) : IsD (c :: l) := fun x hx => by
  rcases List.mem_cons.1 hx with rfl | hx
  · exact h1
  · exact h2 x hx
theorem IsD.left {l m : List UInt8} (h : IsD (l ++ m)) : IsD l := fun x hx => h x (List.mem_append_left _ hx)
theorem IsD.right {l m : List UInt8} (h : IsD (l ++ m)) : IsD m := fun x hx => h x (List.mem_append_right _ hx)
theorem IsD.append {l m : List UInt8} (hl : IsD l) (hm : IsD m) : IsD (l ++ m) := fun x hx => by
  rcases List.mem_append.1 hx with hx | hx
  · exact hl x hx
  · exact hm x hx
theorem IsD.take {l : List UInt8} (h : IsD l) (i : Nat) : IsD (l.take i) := fun x hx => h x (List.mem_of_mem_take hx)
theorem IsD.drop {l : List UInt8} (h : IsD l) (i : Nat) : IsD (l.drop i) := fun x hx => h x (List.mem_of_mem_drop hx)
theorem dv_lt {l : List UInt8} (h : IsD l) : dv l < 10 ^ l.length := by
  induction l using snoc_ind with
  | nil => simp [dv_nil]
  | snoc m c ih =>
    have h1 := ih h.left
    have h2 := h.right c (by simp)
    rw [dv_snoc, List.length_append, List.length_singleton, Nat.pow_succ]
    omega
theorem digit_toNat {d : Nat} (h : d < 10) : (UInt8.ofNat (48 + d)).toNat = 48 + d := by
  rw [UInt8.toNat_ofNat']
  omega
theorem digit_of {c : UInt8} (h : 48 ≤ c.toNat ∧ c.toNat ≤ 57) : UInt8.ofNat (48 + (c.toNat - 48)) = c := by
  rw [show 48 + (c.toNat - 48) = c.toNat by omega]
  exact UInt8.ofNat_toNat
theorem dec_small {n : Nat} (h : n < 10) : Lib.decDigits n = [UInt8.ofNat (48 + n)] := by rw [Lib.decDigits, dif_pos h]
theorem dec_big {n : Nat} (h : 10 ≤ n) : Lib.decDigits n = Lib.decDigits (n / 10) ++ [UInt8.ofNat (48 + n % 10)] := by rw [Lib.decDigits, dif_neg (by omega)]
theorem isD_dec (n : Nat) : IsD (Lib.decDigits n) := by
  induction n using Nat.strongRecOn with
  | _ n ih =>
    by_cases h : n < 10
    · rw [dec_small h]
      refine IsD.cons ?_ IsD.nil
      rw [digit_toNat h]; omega
    · rw [dec_big (by omega)]
      refine (ih _ (by omega)).append (IsD.cons ?_ IsD.nil)
      rw [digit_toNat (by omega)]; omega
theorem dv_dec (n : Nat) : dv (Lib.decDigits n) = n := by
  induction n using Nat.strongRecOn with
  | _ n ih =>
    by_cases h : n < 10
    · rw [dec_small h, show [UInt8.ofNat (48 + n)] = [] ++ [UInt8.ofNat (48 + n)] from rfl, dv_snoc, digit_toNat h, dv_nil]; omega
    · rw [dec_big (by omega), dv_snoc, ih _ (by omega), digit_toNat (by omega)]; omega
theorem dec_len_pos (n : Nat) : 0 < (Lib.decDigits n).length := by rw [Lib.decDigits_length]; exact Lib.nDigits_pos n
theorem dec_dv : ∀ (k : Nat) (l : List UInt8), l.length = k → Can l → Lib.decDigits (dv l) = l
  | 0, l, hl, h => by rcases h.2 with h | h <;> omega
  | 1, l, hl, h => by
    rcases l with _ | ⟨c, _ | ⟨d, t⟩⟩
    · simp at hl
    · have hc := h.1 c (by simp)
      have : dv [c] = c.toNat - 48 := by rw [show [c] = [] ++ [c] from rfl, dv_snoc, dv_nil]; omega
      rw [this, dec_small (by omega), digit_of hc]
    · simp at hl
  | k + 2, l, hl, h => by
    obtain ⟨m, c, rfl⟩ : ∃ m c, l = m ++ [c] := by
      rcases List.eq_nil_or_concat l with e | ⟨m, c, e⟩
      · subst e; simp at hl
      · exact ⟨m, c, by simpa using e⟩
    have hm : m.length = k + 1 := by simpa using hl
    have h2 : 1 < (m ++ [c]).length ∧ (m ++ [c]).head? ≠ some 48 := by
      rcases h.2 with h2 | h2
      · omega
      · exact h2
    have hh : m.head? ≠ some 48 := by
      have := h2.2
      rcases m with _ | ⟨a, t⟩
      · simp at hm
      · simpa using this
    have hc := h.1.right c (by simp)
    have hmc : Can m := ⟨h.1.left, by
      by_cases h3 : m.length = 1
      · exact Or.inl h3
      · exact Or.inr ⟨by omega, hh⟩⟩
    have ih := dec_dv (k + 1) m hm hmc
    have h0 : dv m ≠ 0 := by
      intro e
      rw [e] at ih
      have e1 : Lib.decDigits 0 = [48] := dec_small (by omega)
      rw [e1] at ih
      rw [← ih] at hh
      exact hh rfl
    rw [dv_snoc, dec_big (by omega), show (10 * dv m + (c.toNat - 48)) / 10 = dv m by omega, ih, show (10 * dv m + (c.toNat - 48)) % 10 = c.toNat - 48 by omega, digit_of hc]
theorem dec_inj {a b : Nat} (h : Lib.decDigits a = Lib.decDigits b) : a = b := by rw [← dv_dec a, h, dv_dec]
def S (n : Nat) : ByteArray := ⟨(Lib.decDigits n).toArray⟩
theorem S_list (n : Nat) : (S n).data.toList = Lib.decDigits n := by simp [S]
theorem S_size (n : Nat) : (S n).size = Lib.nDigits n := by simp [S, ByteArray.size, Lib.decDigits_length]
theorem S_of {s : ByteArray} (h : Can s.data.toList) : s = S (dv s.data.toList) := by
  rw [S, dec_dv _ _ rfl h]
theorem nDig_mono {a b : Nat} (h : a ≤ b) : Lib.nDigits a ≤ Lib.nDigits b := by
  induction b using Nat.strongRecOn generalizing a with
  | _ b ih =>
    by_cases hb : b < 10
    · rw [Lib.nDigits_small hb, Lib.nDigits_small (by omega)]; omega
    · rw [Lib.nDigits_big hb]
      by_cases ha : a < 10
      · rw [Lib.nDigits_small ha]; omega
      · rw [Lib.nDigits_big ha]
        have := ih (b / 10) (by omega) (a := a / 10) (by omega)
        omega
theorem nDig_le {n k : Nat} (hk : 0 < k) (h : n < 10 ^ k) : Lib.nDigits n ≤ k := by
  induction k generalizing n with
  | zero => omega
  | succ k ih =>
    by_cases hn : n < 10
    · rw [Lib.nDigits_small hn]; omega
    · rw [Lib.nDigits_big hn]
      rcases Nat.eq_zero_or_pos k with h0 | h0
      · subst h0; simp at h; omega
      · have := ih (n := n / 10) h0 (by rw [Nat.pow_succ] at h; omega)
        omega
end Go.Proofs.YtcfddphiflmnlaaDoor.P

namespace Go.Proofs.YtcfddphiflmnlaaDoor.P
open Go.RowKit Go.Proofs.YtcfddphiflmnlaaDoorW.PrintWords
def rdig (n : Nat) : List UInt8 := (Lib.decDigits n).reverse
def dgs : Nat → Nat → List UInt8
  | 0, _ => []
  | j + 1, n => UInt8.ofNat (48 + n % 10) :: dgs j (n / 10)
theorem rdig_small {n : Nat} (h : n < 10) : rdig n = [UInt8.ofNat (48 + n)] := by rw [rdig, dec_small h]; rfl
theorem rdig_big {n : Nat} (h : 10 ≤ n) : rdig n = UInt8.ofNat (48 + n % 10) :: rdig (n / 10) := by
  rw [rdig, dec_big h, List.reverse_append]; rfl
theorem rdig_piece : ∀ (j n m : Nat), n < 10 ^ j → m ≠ 0 → rdig (n + 10 ^ j * m) = dgs j n ++ rdig m
  | 0, n, m, h, hm => by
    have : n = 0 := by simpa using h
    subst this
    simp [dgs]
  | j + 1, n, m, h, hm => by
    have e : 10 ^ (j + 1) = 10 * 10 ^ j := by rw [Nat.pow_succ, Nat.mul_comm]
    rw [e] at h ⊢
    have hp : 1 ≤ 10 ^ j * m := Nat.mul_pos (Nat.pow_pos (by decide)) (by omega)
    rw [Nat.mul_assoc, rdig_big (by omega), dgs, show (n + 10 * (10 ^ j * m)) / 10 = n / 10 + 10 ^ j * m by omega, show (n + 10 * (10 ^ j * m)) % 10 = n % 10 by omega, rdig_piece j (n / 10) m (by omega) hm]
    rfl
theorem dec_val_cons {n m : Nat} (h : n < 1000000000) (hm : m ≠ 0) : rdig (n + 1000000000 * m) = dgs 9 n ++ rdig m := rdig_piece 9 n m h hm
theorem dv_cons (c : UInt8) (l : List UInt8) : dv (c :: l) = (c.toNat - 48) * 10 ^ l.length + dv l := by
  have := dv_append [c] l
  rw [show dv [c] = c.toNat - 48 by rw [show [c] = [] ++ [c] from rfl, dv_snoc, dv_nil]; omega] at this
  exact this
theorem lex_dv : ∀ (l m : List UInt8), l.length = m.length → IsD l → IsD m → (l < m ↔ dv l < dv m)
  | [], [], _, _, _ => by simp [dv_nil]
  | [], _ :: _, h, _, _ => by simp at h
  | _ :: _, [], h, _, _ => by simp at h
  | a :: l, b :: m, h, hl, hm => by
    have ha := hl a (by simp)
    have hb := hm b (by simp)
    have hl' : IsD l := IsD.right (l := [a]) hl
    have hm' : IsD m := IsD.right (l := [b]) hm
    have h' : l.length = m.length := by simpa using h
    have ih := lex_dv l m h' hl' hm'
    have k1 := dv_lt hl'
    have k2 := dv_lt hm'
    rw [dv_cons, dv_cons, List.cons_lt_cons_iff]
    rw [h'] at k1 ⊢
    constructor
    · rintro (h1 | ⟨rfl, h1⟩)
      · have h2 : a.toNat < b.toNat := h1
        have h3 : (a.toNat - 48 + 1) * 10 ^ m.length ≤ (b.toNat - 48) * 10 ^ m.length := Nat.mul_le_mul_right _ (by omega)
        rw [Nat.succ_mul] at h3
        omega
      · have := ih.1 h1
        omega
    · intro h1
      rcases Nat.lt_trichotomy a.toNat b.toNat with h2 | h2 | h2
      · exact Or.inl h2
      · have e : a = b := UInt8.toNat_inj.1 h2
        subst e
        exact Or.inr ⟨rfl, ih.2 (by omega)⟩
      · have h3 : (b.toNat - 48 + 1) * 10 ^ m.length ≤ (a.toNat - 48) * 10 ^ m.length := Nat.mul_le_mul_right _ (by omega)
        rw [Nat.succ_mul] at h3
        omega
theorem dec_lt_of_len {a b : Nat} (h : Lib.nDigits a < Lib.nDigits b) : a < b := by
  rcases Nat.lt_or_ge a b with h1 | h1
  · exact h1
  · have := nDig_mono h1
    omega
theorem dec_lex {a b : Nat} (h : Lib.nDigits a = Lib.nDigits b) : Lib.decDigits a < Lib.decDigits b ↔ a < b := by
  have := lex_dv (Lib.decDigits a) (Lib.decDigits b) (by rw [Lib.decDigits_length, Lib.decDigits_length, h]) (isD_dec a) (isD_dec b)
  rwa [dv_dec, dv_dec] at this
end Go.Proofs.YtcfddphiflmnlaaDoor.P

namespace Go.Proofs.YtcfddphiflmnlaaDoor.P
open Go.RowKit Go.Proofs.YtcfddphiflmnlaaDoorW.PrintWords
def B8 (l : List UInt8) : List Int := l.map fun b => (b.toNat : Int)
theorem B8_length (l : List UInt8) : (B8 l).length = l.length := by simp [B8]
theorem B8_append (l m : List UInt8) : B8 (l ++ m) = B8 l ++ B8 m := by simp [B8]
theorem rd_B8 (P Q : List UInt8) (c : UInt8) (i : Nat) (h : P.length = i) : rd (B8 (P ++ c :: Q)) (i : Int) = (c.toNat : Int) := by
  subst h
  simp [rd, B8, List.getD_eq_getElem?_getD]
theorem extract_list (s : ByteArray) (a b : Nat) : (s.extract a b).data.toList = (s.data.toList.take b).drop a := by
  simp [List.drop_take]
theorem size_list (s : ByteArray) : s.size = s.data.toList.length := (data_length s).symm
theorem dstep {n : Nat} {c : UInt8} (hc : 48 ≤ c.toNat ∧ c.toNat ≤ 57) (hn : 10 * n + (c.toNat - 48) < 18446744073709551616) : IntKind.u64.wrap (IntKind.u64.wrap (10 * (n : Int)) + ((c.toNat : Int) - 48) % 256) = ((10 * n + (c.toNat - 48) : Nat) : Int) := by
  have h1 : ((c.toNat : Int) - 48) % 256 = ((c.toNat - 48 : Nat) : Int) := by omega
  rw [h1, show (10 : Int) * n = ((10 * n : Nat) : Int) by omega, u64n _ (by omega), uadd hn]
theorem dstep' {n : Nat} {c : UInt8} (hc : 48 ≤ c.toNat ∧ c.toNat ≤ 57) (hn : 10 * n + (c.toNat - 48) < 18446744073709551616) : IntKind.u64.wrap (IntKind.u64.wrap ((n : Int) * 10) + ((c.toNat : Int) - 48) % 256) = ((10 * n + (c.toNat - 48) : Nat) : Int) := by
  rw [Int.mul_comm]; exact dstep hc hn
theorem dv_bound {P Q : List UInt8} (c : UInt8) (h : IsD (P ++ c :: Q)) (hl : (P ++ c :: Q).length ≤ 19) : 10 * dv P + (c.toNat - 48) < 18446744073709551616 := by
  have h1 : IsD (P ++ [c]) := by
    have : P ++ c :: Q = (P ++ [c]) ++ Q := by simp
    rw [this] at h
    exact h.left
  have h2 := dv_lt h1
  have h3 : 10 ^ (P ++ [c]).length ≤ 10 ^ 19 := Nat.pow_le_pow_right (by decide) (by simp at hl ⊢; omega)
  rw [dv_snoc] at h2
  omega
theorem cut_step (k : Nat) (s : ByteArray) (acc : List Int) (e : Int) (P Q : List UInt8) (c : UInt8) (h : IsD (P ++ c :: Q)) (hl : (P ++ c :: Q).length ≤ 18) (n : Int) (hn : n = ((P ++ c :: Q).length : Nat)) :
    decimal_cut.l1 (k + 1) s acc e (dv P : Int) (B8 (P ++ c :: Q)) n (P.length : Int) = decimal_cut.l1 k s acc e (dv (P ++ [c]) : Int) (B8 (P ++ c :: Q)) n ((P ++ [c]).length : Int) := by
  have e1 := rd_B8 P Q c P.length rfl
  have e2 := dstep (h c (by simp)) (dv_bound c h (by omega))
  have e3 := wsucc (a := P.length) ⟨by simp at hl; omega⟩
  have hl2 : (B8 (P ++ c :: Q)).length = P.length + (Q.length + 1) := by rw [B8_length]; simp
  rw [show (P ++ c :: Q).length = P.length + (Q.length + 1) by simp] at hn
  simp only [decimal_cut.l1, e1, e2, e3]
  clear e1 e2 e3
  simp (disch := omega) only [if_pos]
  rw [dv_snoc, List.length_append, List.length_singleton]
theorem cut_l1 (s : ByteArray) (acc : List Nat) (e : Int) (hacc : acc.length < 17592186044416) : ∀ (Q P : List UInt8) (n : Int) (r : List Int), n = ((P ++ Q).length : Nat) → IsD (P ++ Q) → (P ++ Q).length ≤ 18 →
    Ev (fun k => decimal_cut.l0 k s (C (acc ++ [dv (P ++ Q)])) (wrap64 (e - 9))) r → Ev (fun k => decimal_cut.l1 k s (C acc) e (dv P : Int) (B8 (P ++ Q)) n (P.length : Int)) r
  | [], P, n, r, hn, _, _, h => by
    rw [List.append_nil] at h hn ⊢
    refine Ev.step (fun k => ?_) h
    have hl2 : (C acc).length = acc.length := C_length _
    simp (disch := omega) only [decimal_cut.l1, if_neg, if_pos]
    rw [C_append]
    rfl
  | c :: Q, P, n, r, hn, hD, hl, h => by
    have e0 : P ++ c :: Q = (P ++ [c]) ++ Q := by simp
    refine Ev.step (fun k => cut_step k s (C acc) e P Q c hD hl n hn) ?_
    rw [e0] at hn hD hl h ⊢
    exact cut_l1 s acc e hacc Q (P ++ [c]) n r hn hD hl h
theorem chunk {l : List UInt8} {e st : Nat} (he : e ≤ l.length) (hst : st = e - 9) : dv (l.take e) = dv ((l.take e).drop st) + 1000000000 * dv (l.take st) ∧ ((l.take e).drop st).length = e - st := by
  have hl : ((l.take e).drop st).length = e - st := by rw [List.length_drop, List.length_take]; omega
  refine ⟨?_, hl⟩
  have h1 := dv_append ((l.take e).take st) ((l.take e).drop st)
  rw [List.take_append_drop, List.take_take, Nat.min_eq_left (by omega), hl] at h1
  rw [h1]
  rcases Nat.eq_zero_or_pos st with h2 | h2
  · rw [h2, List.take_zero, dv_nil]; omega
  · rw [show e - st = 9 by omega]
    have : (10 : Nat) ^ 9 = 1000000000 := by decide
    rw [this, Nat.mul_comm]
    omega
theorem cut_l0 (s : ByteArray) (hD : IsD s.data.toList) : ∀ (m e : Nat) (acc : List Nat) (x : Int), e ≤ m → e ≤ s.size → (x = (e : Int) ∨ e = 0 ∧ x ≤ 0) → Ok acc → acc.length + e < 17592186044416 →
    Ev (fun k => decimal_cut.l0 k s (C acc) x) (C (pcs (val acc + 1000000000 ^ acc.length * dv (s.data.toList.take e))))
  | 0, e, acc, x, hm, _, hx, hacc, hl => by
    obtain rfl : e = 0 := by omega
    refine Ev.step (f := fun k => (decimal_pieces_trim.f k (C acc)).bind fun t => some t) (fun k => ?_) (Ev.eq (Ev.bind (trim_f acc hacc (by omega)) (Ev.now _)) ?_)
    · simp (disch := omega) only [decimal_cut.l0, if_neg]
    · rw [List.take_zero, dv_nil, Nat.mul_zero, Nat.add_zero]
  | m + 1, e, acc, x, hm, hs, hx, hacc, hl => by
    rcases Nat.eq_zero_or_pos e with h0 | h0
    · exact cut_l0 s hD 0 e acc x (by omega) hs hx hacc hl
    · obtain rfl : x = (e : Int) := by omega
      obtain ⟨st, hst⟩ : ∃ st, st = e - 9 := ⟨_, rfl⟩
      rw [size_list] at hs
      obtain ⟨h1, h2⟩ := chunk hs hst
      have hsub := extract_list s st e
      have hw : wrap64 ((e : Int) - 9) = (e : Int) - 9 := w64 (by omega) (by omega)
      have hmx : mx 0 ((e : Int) - 9) = (st : Int) := by unfold mx; split <;> omega
      have hDs : IsD ((s.data.toList.take e).drop st) := (hD.take e).drop st
      have hdl := dv_lt hDs
      have hpow : 10 ^ ((s.data.toList.take e).drop st).length ≤ 10 ^ 9 := Nat.pow_le_pow_right (by decide) (by omega)
      have h9 : (10 : Nat) ^ 9 = 1000000000 := by decide
      have ih := cut_l0 s hD m st (acc ++ [dv ((s.data.toList.take e).drop st)]) ((e : Int) - 9) (by omega) (by rw [size_list]; omega) (by omega) (hacc.append (Ok.cons (by omega) Ok.nil)) (by rw [List.length_append, List.length_singleton]; omega)
      have hv : val (acc ++ [dv ((s.data.toList.take e).drop st)]) + 1000000000 ^ (acc ++ [dv ((s.data.toList.take e).drop st)]).length * dv (s.data.toList.take st) = val acc + 1000000000 ^ acc.length * dv (s.data.toList.take e) := by
        rw [val_snoc, h1, List.length_append, List.length_singleton, Nat.pow_succ, Nat.mul_add, Nat.mul_assoc, Nat.add_assoc]
      rw [hv] at ih
      have key := cut_l1 s acc (e : Int) (by omega) ((s.data.toList.take e).drop st) [] ((((s.data.toList.take e).drop st).length : Nat) : Int) _ rfl hDs (by rw [List.nil_append]; omega) (by rw [List.nil_append, hw]; exact ih)
      refine Ev.step (fun k => ?_) key
      have hsz : (s.extract st e).size = e - st := by rw [size_list, hsub, h2]
      have hb : bytesOf (s.extract st e) = B8 ((s.data.toList.take e).drop st) := by rw [← hsub]; rfl
      have hsl : (s.size : Int) = (s.data.toList.length : Int) := by rw [size_list]
      simp only [decimal_cut.l0, hw, hmx, Int.toNat_natCast, hsz, hb, B8_length, Option.bind_some, hsl]
      clear hv ih key hw hmx hdl hpow hb hsub hD hDs
      simp (disch := omega) only [if_pos]
      rfl
theorem cut_of (s : ByteArray) (hD : IsD s.data.toList) (hs : s.size < 17592186044416) : Ev (fun k => decimal_cut.f k s) (C (pcs (dv s.data.toList))) := by
  have key := cut_l0 s hD s.size s.size [] (s.size : Int) (Nat.le_refl _) (Nat.le_refl _) (Or.inl rfl) Ok.nil (by simpa using hs)
  have e0 : val ([] : List Nat) + 1000000000 ^ ([] : List Nat).length * dv (s.data.toList.take s.size) = dv s.data.toList := by
    rw [size_list, List.take_length]; simp [val]
  rw [e0] at key
  have e1 : wrap64 ((s.size : Int) / 9) = (((s.size / 9 : Nat)) : Int) := by rw [w64 (by omega) (by omega)]; omega
  have e2 := wsucc (a := s.size / 9) ⟨by omega⟩
  unfold decimal_cut.f
  simp only [e1, e2, Int.toNat_natCast]
  clear e1 e2
  simp (disch := omega) only [if_pos]
  exact key
theorem cut_f (n : Nat) (hs : Lib.nDigits n < 17592186044416) : Ev (fun k => decimal_cut.f k (S n)) (C (pcs n)) := by
  have := cut_of (S n) (by rw [S_list]; exact isD_dec n) (by rw [S_size]; exact hs)
  rwa [S_list, dv_dec] at this
end Go.Proofs.YtcfddphiflmnlaaDoor.P

namespace Go.Proofs.YtcfddphiflmnlaaDoor.P
open Go.RowKit Go.Proofs.YtcfddphiflmnlaaDoorW.PrintWords
theorem toList_data (s : ByteArray) : s.toList = s.data.toList := ByteArray.toList_eq s
theorem bt_mid (s : ByteArray) (P Q : List UInt8) (c : UInt8) (h : s.data.toList = P ++ c :: Q) : bt s (P.length : Int) = (c.toNat : Int) := by
  rw [← rd_bytesOf, show bytesOf s = B8 s.data.toList from rfl, h, rd_B8 _ _ _ _ rfl]
theorem size_mid (s : ByteArray) (P Q : List UInt8) (c : UInt8) (h : s.data.toList = P ++ c :: Q) : s.size = P.length + (Q.length + 1) := by
  rw [size_list, h]; simp
def digB (c : UInt8) : Bool := decide (48 ≤ c.toNat ∧ c.toNat ≤ 57)
def canb (l : List UInt8) : Bool := l.all digB && (decide (l.length = 1) || (decide (1 < l.length) && (l.head? != some 48)))
theorem all_dig (l : List UInt8) : l.all digB = true ↔ IsD l := by
  simp [List.all_eq_true, digB, IsD]
theorem canb_iff (l : List UInt8) : canb l = true ↔ Can l := by
  unfold canb Can
  rw [Bool.and_eq_true, all_dig]
  simp
end Go.Proofs.YtcfddphiflmnlaaDoor.P

namespace Go.Proofs.YtcfddphiflmnlaaDoor.P
open Go.RowKit Go.Proofs.YtcfddphiflmnlaaDoorW.PrintWords
theorem dv_prefix (P Q : List UInt8) : dv P ≤ dv (P ++ Q) := by
  rw [dv_append]
  have : dv P * 1 ≤ dv P * 10 ^ Q.length := Nat.mul_le_mul_left _ (Nat.pow_pos (by decide))
  omega
theorem dv_prefix1 (P Q : List UInt8) (c : UInt8) : 10 * dv P + (c.toNat - 48) ≤ dv (P ++ c :: Q) := by
  have := dv_prefix (P ++ [c]) Q
  rw [dv_snoc] at this
  simpa using this
theorem S_dv (n : Nat) : dv (S n).data.toList = n := by rw [S_list, dv_dec]
theorem S_dig (n : Nat) : IsD (S n).data.toList := by rw [S_list]; exact isD_dec n
theorem nDig_lt {n : Nat} {k : Nat} (h : Lib.nDigits n ≤ k) : n < 10 ^ k := Nat.lt_of_lt_of_le (Lib.lt_pow_nDigits n) (Nat.pow_le_pow_right (by decide) h)
theorem bless : ∀ (l m : List UInt8), Op.bytesLess l m = true ↔ l < m
  | [], [] => by simp [Op.bytesLess]
  | [], _ :: _ => by simp [Op.bytesLess]
  | _ :: _, [] => by simp [Op.bytesLess]
  | a :: l, b :: m => by
    rw [List.cons_lt_cons_iff]
    simp [Op.bytesLess, bless l m]
theorem bless_S {a b : Nat} (h : Lib.nDigits a = Lib.nDigits b) : Op.bytesLess (S a).toList (S b).toList = true ↔ a < b := by
  rw [bless, toList_data, toList_data, S_list, S_list, dec_lex h]
theorem S_eq_iff {a b : Nat} : (S a).toList = (S b).toList ↔ a = b := by
  rw [toList_data, toList_data, S_list, S_list]
  exact ⟨dec_inj, fun h => by rw [h]⟩
theorem compareS_f (a b : Nat) (ha : Lib.nDigits a < 4611686018427387904) (hb : Lib.nDigits b < 4611686018427387904) : decimal_Compare.f (S a) (S b) = some (cmp a b) := by
  unfold decimal_Compare.f cmp
  rw [S_size, S_size]
  by_cases h : Lib.nDigits a = Lib.nDigits b
  · rw [if_pos (by omega)]
    by_cases h2 : a < b
    · rw [if_pos ((bless_S h).2 h2), if_pos h2]
    · rw [if_neg (fun e => h2 ((bless_S h).1 e)), if_neg h2]
      by_cases h3 : b < a
      · rw [if_pos ((bless_S h.symm).2 h3), if_pos h3]
      · rw [if_neg (fun e => h3 ((bless_S h.symm).1 e)), if_neg h3]
  · rw [if_neg (by omega), w64 (by omega) (by omega)]
    unfold mn mx
    by_cases h2 : Lib.nDigits a < Lib.nDigits b
    · rw [if_pos (dec_lt_of_len h2)]
      congr 1
      split <;> split <;> omega
    · have := dec_lt_of_len (a := b) (b := a) (by omega)
      rw [if_neg (show ¬ a < b by omega), if_pos this]
      congr 1
      split <;> split <;> omega
theorem parse_dig : ∀ (l : List UInt8) (acc : Nat), IsD l → Lib.parseUintM 18446744073709551615 acc l = if l = [] ∨ acc * 10 ^ l.length + dv l < 18446744073709551616 then .ok (acc * 10 ^ l.length + dv l) else .range
  | [], acc, _ => by simp [Lib.parseUintM, dv_nil]
  | c :: l, acc, h => by
    have hc := h c (by simp)
    have ih := parse_dig l (acc * 10 + (c.toNat - 48)) (IsD.right (l := [c]) h)
    have e : (acc * 10 + (c.toNat - 48)) * 10 ^ l.length + dv l = acc * 10 ^ (c :: l).length + dv (c :: l) := by
      rw [dv_cons, List.length_cons, Nat.pow_succ, Nat.add_mul, Nat.mul_assoc, Nat.mul_comm 10 (10 ^ l.length), Nat.add_assoc]
    have hp : 1 ≤ 10 ^ l.length := Nat.pow_pos (by decide)
    have hge : acc * 10 + (c.toNat - 48) ≤ acc * 10 ^ (c :: l).length + dv (c :: l) := by
      rw [← e]
      have : (acc * 10 + (c.toNat - 48)) * 1 ≤ (acc * 10 + (c.toNat - 48)) * 10 ^ l.length := Nat.mul_le_mul_left _ hp
      omega
    unfold Lib.parseUintM
    rw [if_pos hc]
    by_cases h1 : 1844674407370955162 ≤ acc
    · rw [if_pos h1, if_neg]
      rintro (h2 | h2)
      · cases h2
      · omega
    · rw [if_neg h1]
      by_cases h2 : 18446744073709551615 < acc * 10 + (c.toNat - 48)
      · rw [if_pos h2, if_neg]
        rintro (h3 | h3)
        · cases h3
        · omega
      · rw [if_neg h2, ih, e]
        by_cases h3 : acc * 10 ^ (c :: l).length + dv (c :: l) < 18446744073709551616
        · rw [if_pos (Or.inr h3), if_pos (Or.inr h3)]
        · have n1 : ¬ ((c :: l) = [] ∨ acc * 10 ^ (c :: l).length + dv (c :: l) < 18446744073709551616) := fun h4 => h4.elim (fun h5 => by cases h5) h3
          have n2 : ¬ (l = [] ∨ acc * 10 ^ (c :: l).length + dv (c :: l) < 18446744073709551616) := fun h4 => h4.elim (fun h5 => by
            rw [h5] at e h3
            rw [← e] at h3
            simp only [List.length_nil, Nat.pow_zero, dv_nil] at h3
            omega) h3
          rw [if_neg n1, if_neg n2]
theorem small_S (n : Nat) (hn : Lib.nDigits n ≤ 281474976710656) : decimal_Small.f (S n) = some (if n < 18446744073709551616 then ((n : Int), true) else (0, false)) := by
  unfold decimal_Small.f
  have hne : Lib.decDigits n ≠ [] := by have := dec_len_pos n; intro e; rw [e] at this; simp at this
  have h64 : (2 : Nat) ^ 64 - 1 = 18446744073709551615 := by decide
  rw [S_size, if_pos hn, S_list, Lib.parseUintB, if_neg hne, h64, parse_dig _ _ (isD_dec n), dv_dec, Nat.zero_mul, Nat.zero_add]
  by_cases h : n < 18446744073709551616
  · rw [if_pos (Or.inr h), if_pos h]
  · rw [if_neg (fun h1 => h1.elim hne h), if_neg h]
theorem of_f (n : Nat) (h : n < 18446744073709551616) : decimal_Of.f (n : Int) = some (S n) := by
  unfold decimal_Of.f
  rw [if_pos (by omega), Int.toNat_natCast]
  rfl
end Go.Proofs.YtcfddphiflmnlaaDoor.P

namespace Go.Proofs.YtcfddphiflmnlaaDoor.P
open Go.RowKit Go.Proofs.YtcfddphiflmnlaaDoorW.PrintWords
theorem strOfNums_B8 (l : List UInt8) : strOfNums (B8 l) = ⟨l.toArray⟩ := by
  have e : ((fun n : Int => UInt8.ofNat n.toNat) ∘ fun b : UInt8 => (b.toNat : Int)) = id := funext fun b => by simp
  rw [strOfNums, B8, List.map_map, e, List.map_id]
theorem zero_str : (⟨#[48]⟩ : ByteArray) = S 0 := S_of ((canb_iff _).1 (by decide))
theorem wf_u8 {x : Int} (h : (Lit.int .u8 x).wf = true) : 0 ≤ x ∧ x ≤ 255 := by
  have h1 : IntKind.u8.min = 0 := by decide
  have h2 : IntKind.u8.max = 255 := by decide
  simpa only [Lit.wf, h1, h2, Bool.and_eq_true, decide_eq_true_eq] using h
end Go.Proofs.YtcfddphiflmnlaaDoor.P

namespace Go.Proofs.YtcfddphiflmnlaaDoor.P
open Go.RowKit Go.Proofs.YtcfddphiflmnlaaDoorW.PrintWords
theorem rd_at (L W : List Nat) (x : Nat) (i : Nat) (h : L.length = i) : rd (C (L ++ x :: W)) (i : Int) = x := by rw [rd_C, ← h, getD_mid]
theorem set_at (L W : List Nat) (x y : Nat) (i : Nat) (h : L.length = i) : (C (L ++ x :: W)).set (i : Int).toNat (y : Int) = C (L ++ y :: W) := by rw [Int.toNat_natCast, C_set, ← h, set_mid]
def addrow : Nat → List Nat → List Nat → List Nat
  | _, [], _ => []
  | c, x :: W, [] => ((c + x) % 1000000000) :: W
  | c, x :: W, b :: Q => ((c + x + b) % 1000000000) :: addrow ((c + x + b) / 1000000000) W Q
theorem addrow_spec : ∀ (Q W : List Nat) (c : Nat), W.length = Q.length + 1 → Ok W → Ok Q → c ≤ 1 →
    (addrow c W Q).length = W.length ∧ Ok (addrow c W Q) ∧ ∃ d, d ≤ 1 ∧ val (addrow c W Q) + 1000000000 ^ W.length * d = val W + val Q + c
  | [], [x], c, _, hW, _, hc => by
    have := hW.head
    refine ⟨rfl, Ok.cons (by omega) Ok.nil, (c + x) / 1000000000, by omega, ?_⟩
    simp only [addrow, val, List.length_cons, List.length_nil]
    omega
  | [], [], _, h, _, _, _ => by simp at h
  | [], _ :: _ :: _, _, h, _, _, _ => by simp at h
  | b :: Q, [], c, h, _, _, _ => by simp at h
  | b :: Q, x :: W, c, h, hW, hQ, hc => by
    have h1 := hW.head
    have h2 := hQ.head
    obtain ⟨i1, i2, d, i3, i4⟩ := addrow_spec Q W ((c + x + b) / 1000000000) (by simpa using h) hW.tail hQ.tail (by omega)
    refine ⟨by simp [addrow, i1], Ok.cons (by omega) i2, d, i3, ?_⟩
    simp only [addrow, val, List.length_cons, Nat.pow_succ]
    rw [Nat.mul_comm (1000000000 ^ W.length) 1000000000, Nat.mul_assoc]
    omega
theorem add3 {c x b : Nat} (hc : c ≤ 1) (hx : x < 1000000000) (hb : b < 1000000000) : IntKind.u64.wrap (IntKind.u64.wrap ((c : Int) + (x : Int)) + (b : Int)) = ((c + x + b : Nat) : Int) ∧ IntKind.u64.wrap (((c + x + b) / 1000000000 : Nat) : Int) = (((c + x + b) / 1000000000 : Nat) : Int) ∧ (c + x + b) / 1000000000 ≤ 1 := by
  refine ⟨?_, usmall (by omega), by omega⟩
  rw [uadd (by omega), uadd (by omega)]
theorem add2 {c x : Nat} (hc : c ≤ 1) (hx : x < 1000000000) : IntKind.u64.wrap ((c : Int) + (x : Int)) = ((c + x : Nat) : Int) ∧ IntKind.u64.wrap (((c + x) / 1000000000 : Nat) : Int) = (((c + x) / 1000000000 : Nat) : Int) := ⟨uadd (by omega), usmall (by omega)⟩
theorem back_step0 (k : Nat) (Q1 L R : List Nat) (x at_ c : Nat) (hL : L.length = at_ + Q1.length) (hc : c ≤ 1) (hx : x < 1000000000) (hs : Sm (at_ + Q1.length)) (hs1 : Sm Q1.length) :
    decimal_pieces_back.l0 (k + 1) (C (L ++ x :: R)) (C Q1) (at_ : Int) (c : Int) (Q1.length : Int) = decimal_pieces_back.l0 k (C (L ++ ((c + x) % 1000000000) :: R)) (C Q1) (at_ : Int) ((((c + x) / 1000000000 : Nat)) : Int) ((Q1.length + 1 : Nat) : Int) := by
  have hl1 : (C Q1).length = Q1.length := C_length _
  have hl0 : (C (L ++ x :: R)).length = at_ + Q1.length + (R.length + 1) := by rw [C_length]; simp [hL]
  have e1 := wadd hs
  have e2 := rd_at L R x (at_ + Q1.length) hL
  obtain ⟨e3, e4⟩ := add2 hc hx
  have e5 := wsucc hs1
  have e6 := set_at L R x ((c + x) % 1000000000) _ hL
  simp only [decimal_pieces_back.l0, e1, e2, e3, tdiv9, tmod9, e4, e5, e6]
  clear e1 e2 e3 e4 e5 e6
  simp (disch := omega) only [if_pos, if_neg]
theorem back_step1 (k : Nat) (Q1 Q2 L R : List Nat) (x b at_ c : Nat) (hL : L.length = at_ + Q1.length) (hc : c ≤ 1) (hx : x < 1000000000) (hb : b < 1000000000) (hs : Sm (at_ + Q1.length)) (hs1 : Sm Q1.length) :
    decimal_pieces_back.l0 (k + 1) (C (L ++ x :: R)) (C (Q1 ++ b :: Q2)) (at_ : Int) (c : Int) (Q1.length : Int) = decimal_pieces_back.l0 k (C (L ++ ((c + x + b) % 1000000000) :: R)) (C (Q1 ++ b :: Q2)) (at_ : Int) ((((c + x + b) / 1000000000 : Nat)) : Int) ((Q1.length + 1 : Nat) : Int) := by
  have hl1 : (C (Q1 ++ b :: Q2)).length = Q1.length + (Q2.length + 1) := by rw [C_length]; simp
  have hl0 : (C (L ++ x :: R)).length = at_ + Q1.length + (R.length + 1) := by rw [C_length]; simp [hL]
  have e1 := wadd hs
  have e2 := rd_at L R x (at_ + Q1.length) hL
  have e7 := rd_at Q1 Q2 b Q1.length rfl
  obtain ⟨e3, e4, _⟩ := add3 hc hx hb
  have e5 := wsucc hs1
  have e6 := set_at L R x ((c + x + b) % 1000000000) _ hL
  simp only [decimal_pieces_back.l0, e1, e2, e7, e3, tdiv9, tmod9, e4, e5, e6]
  clear e1 e2 e3 e4 e5 e6 e7
  simp (disch := omega) only [if_pos]
theorem back_end (k : Nat) (p q : List Int) (y c : Int) (z : Nat) (hz : z = q.length + 1) : decimal_pieces_back.l0 (k + 1) p q y c (z : Int) = some p := by
  simp (disch := omega) only [decimal_pieces_back.l0, if_neg]
theorem back_l0 : ∀ (Q2 Q1 L W R : List Nat) (at_ c : Nat), W.length = Q2.length + 1 → L.length = at_ + Q1.length → Ok W → Ok Q2 → c ≤ 1 → Sm (at_ + (Q1 ++ Q2).length) →
    Ev (fun k => decimal_pieces_back.l0 k (C (L ++ W ++ R)) (C (Q1 ++ Q2)) (at_ : Int) (c : Int) (Q1.length : Int)) (C (L ++ addrow c W Q2 ++ R))
  | [], Q1, L, [x], R, at_, c, _, hL, hW, _, hc, hs => by
    have e0 : L ++ [x] ++ R = L ++ x :: R := by simp
    rw [e0, List.append_nil]
    rw [List.append_nil] at hs
    refine Ev.step (fun k => back_step0 k Q1 L R x at_ c hL hc hW.head hs (hs.le (by omega))) (Ev.step (f := fun _ => some (C (L ++ ((c + x) % 1000000000) :: R))) (fun k => back_end k _ _ _ _ _ (by rw [C_length])) (Ev.eq (Ev.now _) (by simp [addrow])))
  | [], _, _, [], _, _, _, h, _, _, _, _, _ => by simp at h
  | [], _, _, _ :: _ :: _, _, _, _, h, _, _, _, _, _ => by simp at h
  | b :: Q2, _, _, [], _, _, _, h, _, _, _, _, _ => by simp at h
  | b :: Q2, Q1, L, x :: W, R, at_, c, hW2, hL, hW, hQ, hc, hs => by
    have e0 : L ++ x :: W ++ R = L ++ x :: (W ++ R) := by simp
    have hs1 : Sm (at_ + Q1.length) := hs.le (by simp)
    have ih := back_l0 Q2 (Q1 ++ [b]) (L ++ [(c + x + b) % 1000000000]) W R at_ ((c + x + b) / 1000000000) (by simpa using hW2) (by simp [hL]; omega) hW.tail hQ.tail (add3 hc hW.head hQ.head).2.2 (hs.le (by simp))
    rw [e0]
    refine Ev.step (fun k => back_step1 k Q1 Q2 L (W ++ R) x b at_ c hL hc hW.head hQ.head hs1 (hs1.le (by omega))) (Ev.eq (r := C (L ++ [(c + x + b) % 1000000000] ++ addrow ((c + x + b) / 1000000000) W Q2 ++ R)) ?_ (by simp [addrow]))
    simpa using ih
theorem back_f (L W R Q : List Nat) (hW : W.length = Q.length + 1) (h1 : Ok W) (h2 : Ok Q) (hs : Sm (L.length + Q.length)) :
    Ev (fun k => decimal_pieces_back.f k (C (L ++ W ++ R)) (C Q) (L.length : Int)) (C (L ++ addrow 0 W Q ++ R)) := by
  unfold decimal_pieces_back.f
  exact back_l0 Q [] L W R L.length 0 hW (by simp) h1 h2 (by omega) (by simpa using hs)
end Go.Proofs.YtcfddphiflmnlaaDoor.P

namespace Go.Proofs.YtcfddphiflmnlaaDoor.P
open Go.RowKit Go.Proofs.YtcfddphiflmnlaaDoorW.PrintWords
theorem rdI (L W : List Int) (x : Int) (i : Nat) (h : L.length = i) : rd (L ++ x :: W) (i : Int) = x := by
  subst h
  simp [rd, List.getD_eq_getElem?_getD]
theorem setI (L W : List Int) (x y : Int) (i : Nat) (h : L.length = i) : (L ++ x :: W).set i y = L ++ y :: W := by
  subst h
  simp
theorem ends_of {α : Type} {m : List α} (h : 2 ≤ m.length) : ∃ a w b, m = a :: (w ++ [b]) ∧ w.length + 2 = m.length := by
  rcases m with _ | ⟨a, t⟩
  · simp at h
  · rcases List.eq_nil_or_concat t with e | ⟨w, b, e⟩
    · subst e; simp at h
    · exact ⟨a, w, b, by rw [e]; simp, by rw [e]; simp⟩
theorem reverse_l0 : ∀ (n : Nat) (M L R : List Int), M.length = n → L.length = R.length → (L ++ M ++ R).length < 4611686018427387904 →
    Ev (fun k => slices_Reverse_byte_byte.l0 k (L ++ M ++ R) (L.length : Int) ((L.length : Int) + (M.length : Int) - 1)) (L ++ M.reverse ++ R) := by
  intro n
  induction n using Nat.strongRecOn with
  | _ n ih =>
    intro M L R hn hl hs
    by_cases h2 : 2 ≤ M.length
    · obtain ⟨a, w, b, rfl, hw⟩ := ends_of h2
      have hs2 := hs
      simp only [List.length_append] at hs2
      have e0 : L ++ a :: (w ++ [b]) ++ R = L ++ a :: (w ++ b :: R) := by simp
      have e0' : L ++ a :: (w ++ [b]) ++ R = (L ++ a :: w) ++ b :: R := by simp
      have e1 : rd (L ++ a :: (w ++ [b]) ++ R) (L.length : Int) = a := by rw [e0, rdI _ _ _ _ rfl]
      have e2 : rd (L ++ a :: (w ++ [b]) ++ R) ((L.length + w.length + 1 : Nat) : Int) = b := by rw [e0', rdI _ _ _ _ (by simp; omega)]
      have e3 : ((L ++ a :: (w ++ [b]) ++ R).set L.length b).set (L.length + w.length + 1) a = (L ++ [b]) ++ w ++ (a :: R) := by
        rw [e0, setI _ _ _ _ _ rfl, show L ++ b :: (w ++ b :: R) = (L ++ b :: w) ++ b :: R by simp, setI _ _ _ _ _ (by simp; omega)]
        simp
      have e4 : ((L.length : Int) + ((a :: (w ++ [b])).length : Int) - 1) = ((L.length + w.length + 1 : Nat) : Int) := by rw [← hw]; omega
      have e7 : (L ++ a :: (w ++ [b]) ++ R).length = L.length + (w.length + 2) + R.length := by simp; omega
      have key := ih w.length (by omega) w (L ++ [b]) (a :: R) rfl (by simp [hl]) (by simp only [List.length_append, List.length_cons, List.length_nil]; omega)
      have s1 : Sm L.length := ⟨by omega⟩
      have s2 : Sm (L.length + w.length + 1) := ⟨by omega⟩
      have e5 := wsucc s1
      have e6 := wpred1 s2
      have e8 : L ++ (a :: (w ++ [b])).reverse ++ R = (L ++ [b]) ++ w.reverse ++ (a :: R) := by simp
      rw [e8, e4]
      refine Ev.step (f := fun k => slices_Reverse_byte_byte.l0 k ((L ++ [b]) ++ w ++ (a :: R)) ((L.length + 1 : Nat) : Int) ((L.length + w.length : Nat) : Int)) (fun k => ?_) ?_
      · simp only [slices_Reverse_byte_byte.l0, e1, e2, e5, e6, Int.toNat_natCast, e3, e7]
        clear e1 e2 e3 e5 e6 e4 key ih
        simp (disch := omega) only [if_pos]
      · have e9 : (((L ++ [b]).length : Int) + (w.length : Int) - 1) = ((L.length + w.length : Nat) : Int) := by simp; omega
        rw [e9] at key
        simpa using key
    · refine Ev.step (f := fun _ => some (L ++ M ++ R)) (fun k => ?_) (Ev.eq (Ev.now _) ?_)
      · simp (disch := omega) only [slices_Reverse_byte_byte.l0, if_neg]
      · rcases M with _ | ⟨a, _ | ⟨b, t⟩⟩
        · rfl
        · rfl
        · simp at h2
theorem reverse_f (M : List Int) (hs : M.length < 4611686018427387904) : Ev (fun k => slices_Reverse_byte_byte.f k M) M.reverse := by
  have key := reverse_l0 M.length M [] [] rfl rfl (by simpa using hs)
  unfold slices_Reverse_byte_byte.f
  rw [w64 (by omega) (by omega)]
  simpa using key
theorem tdig (n : Nat) (h : n < 1000000000000000000) : (IntKind.u64.wrap (48 + Int.tmod (n : Int) 10)) % 256 = ((UInt8.ofNat (48 + n % 10)).toNat : Int) ∧ IntKind.u64.wrap (Int.tdiv (n : Int) 10) = ((n / 10 : Nat) : Int) := by
  have h1 : Int.tmod (n : Int) 10 = ((n % 10 : Nat) : Int) := tmodn n 10
  have h2 : Int.tdiv (n : Int) 10 = ((n / 10 : Nat) : Int) := tdivn n 10
  have h3 : n % 10 < 10 := Nat.mod_lt _ (by decide)
  refine ⟨?_, ?_⟩
  · rw [h1, u64w (by omega) (by omega), digit_toNat h3]; omega
  · rw [h2, usmall (by omega)]
theorem text_mid (p : List Int) (i : Nat) (hi : Sm (i + 1)) (hp : i + 1 < p.length) (r : ByteArray) : ∀ (c j n : Nat) (out : List UInt8), j + c = 9 → n < 1000000000 → out.length + c < 140737488355328 →
    Ev (fun k => decimal_pieces_text.l0 k p (B8 (out ++ dgs c n)) p (p.length : Int) ((i + 1 : Nat) : Int)) r → Ev (fun k => decimal_pieces_text.l1 k p (B8 out) (i : Int) (n : Int) (j : Int) p (p.length : Int) (i : Int)) r
  | 0, j, n, out, hj, hn, ho, h => by
    have e1 := wsucc (a := i) (hi.le (by omega))
    rw [dgs, List.append_nil] at h
    refine Ev.step (fun k => ?_) h
    simp only [decimal_pieces_text.l1, e1]
    clear e1
    simp (disch := omega) only [if_neg]
  | c + 1, j, n, out, hj, hn, ho, h => by
    have s1 : n < 1000000000000000000 := by omega
    have s2 : Sm j := ⟨by omega⟩
    have ih := text_mid p i hi hp r c (j + 1) (n / 10) (out ++ [UInt8.ofNat (48 + n % 10)]) (by omega) (by omega) (by simp; omega) (by simpa [dgs] using h)
    have e1 := wsucc (a := i) (hi.le (by omega))
    obtain ⟨e2, e3⟩ := tdig n s1
    have e4 := wsucc s2
    have e5 : B8 out ++ [((UInt8.ofNat (48 + n % 10)).toNat : Int)] = B8 (out ++ [UInt8.ofNat (48 + n % 10)]) := by rw [B8_append]; rfl
    have e6 : (B8 out).length = out.length := B8_length _
    refine Ev.step (fun k => ?_) ih
    simp only [decimal_pieces_text.l1, e1, e2, e3, e4, e5]
    clear e1 e2 e3 e4 e5
    simp (disch := omega) only [if_pos]
theorem text_last (p : List Int) (i : Nat) (hi : Sm (i + 1)) (hp : i + 1 = p.length) (r : ByteArray) : ∀ (c j n : Nat) (out : List UInt8), j + c = 9 → n < 10 ^ c → out.length + c < 140737488355328 →
    Ev (fun k => decimal_pieces_text.l0 k p (B8 (out ++ (if n = 0 then [] else rdig n))) p (p.length : Int) ((i + 1 : Nat) : Int)) r → Ev (fun k => decimal_pieces_text.l1 k p (B8 out) (i : Int) (n : Int) (j : Int) p (p.length : Int) (i : Int)) r
  | 0, j, n, out, hj, hn, ho, h => by
    have e1 := wsucc (a := i) (hi.le (by omega))
    have h0 : n = 0 := by simpa using hn
    subst h0
    rw [if_pos rfl, List.append_nil] at h
    refine Ev.step (fun k => ?_) h
    simp only [decimal_pieces_text.l1, e1]
    clear e1
    simp (disch := omega) only [if_neg]
  | c + 1, j, n, out, hj, hn, ho, h => by
    have h9 : 10 ^ (c + 1) ≤ 10 ^ 9 := Nat.pow_le_pow_right (by decide) (by omega)
    have h99 : (10 : Nat) ^ 9 = 1000000000 := by decide
    rw [h99] at h9
    by_cases h0 : n = 0
    · subst h0
      rw [if_pos rfl, List.append_nil] at h
      have e1 := wsucc (a := i) (hi.le (by omega))
      refine Ev.step (fun k => ?_) h
      simp only [decimal_pieces_text.l1, e1]
      clear e1 h9 hn
      simp (disch := omega) only [if_pos, if_neg]
    · have s1 : n < 1000000000000000000 := by omega
      have s2 : Sm j := ⟨by omega⟩
      have e5 : B8 out ++ [((UInt8.ofNat (48 + n % 10)).toNat : Int)] = B8 (out ++ [UInt8.ofNat (48 + n % 10)]) := by rw [B8_append]; rfl
      have e6 : (B8 out).length = out.length := B8_length _
      have e7 : UInt8.ofNat (48 + n % 10) :: (if n / 10 = 0 then [] else rdig (n / 10)) = if n = 0 then [] else rdig n := by
        rw [if_neg h0]
        by_cases h10 : n < 10
        · rw [if_pos (by omega), rdig_small h10, Nat.mod_eq_of_lt h10]
        · rw [if_neg (show ¬ n / 10 = 0 by omega), rdig_big (n := n) (by omega)]
      have hn' : n / 10 < 10 ^ c := by rw [Nat.pow_succ] at hn; omega
      have ih := text_last p i hi hp r c (j + 1) (n / 10) (out ++ [UInt8.ofNat (48 + n % 10)]) (by omega) hn' (by simp; omega) (by rw [List.append_assoc, List.singleton_append, e7]; exact h)
      have e1 := wsucc (a := i) (hi.le (by omega))
      obtain ⟨e2, e3⟩ := tdig n s1
      have e4 := wsucc s2
      refine Ev.step (fun k => ?_) ih
      simp only [decimal_pieces_text.l1, e1, e2, e3, e4, e5]
      clear e1 e2 e3 e4 e5 e7 hn hn' h9
      simp (disch := omega) only [if_pos, if_neg]
theorem text_l0 (p : List Nat) (hp : Ok p) (hs : p.length < 8796093022208) : ∀ (Q P : List Nat) (m : Nat) (out : List UInt8), p = P ++ Q → Q = pcs m → out.length = 9 * P.length →
    Ev (fun k => decimal_pieces_text.l0 k (C p) (B8 out) (C p) (p.length : Int) (P.length : Int)) ⟨(out ++ (if m = 0 then [] else rdig m)).reverse.toArray⟩
  | [], P, m, out, hpq, hm, ho => by
    have h0 : m = 0 := pcs_nil_iff.1 hm.symm
    have hl : p.length = P.length := by rw [hpq]; simp
    rw [if_pos h0, List.append_nil]
    have e1 : (B8 out).reverse = B8 out.reverse := by simp [B8]
    have key := reverse_f (B8 out) (by rw [B8_length]; omega)
    rw [e1] at key
    refine Ev.step (f := fun k => (slices_Reverse_byte_byte.f k (B8 out)).bind fun t141 => (some (strOfNums t141))) (fun k => ?_) (Ev.eq (Ev.bind key (Ev.now _)) (by rw [strOfNums_B8]))
    simp (disch := omega) only [decimal_pieces_text.l0, if_neg]
  | n :: Q, P, m, out, hpq, hm, ho => by
    have hl : p.length = P.length + (Q.length + 1) := by rw [hpq]; simp
    have h0 : m ≠ 0 := fun e => by rw [e, pcs_zero] at hm; cases hm
    rw [pcs_pos h0] at hm
    injection hm with hn hQ
    have e1 : rd (C p) (P.length : Int) = n := by rw [hpq, rd_at _ _ _ _ rfl]
    have hn9 : n < 1000000000 := by rw [hn]; exact Nat.mod_lt _ (by decide)
    have hmn : m = n + 1000000000 * (m / 1000000000) := by omega
    have hC : (C p).length = p.length := C_length _
    refine Ev.step (f := fun k => decimal_pieces_text.l1 k (C p) (B8 out) (P.length : Int) (n : Int) 0 (C p) ((C p).length : Int) (P.length : Int)) (fun k => ?_) ?_
    · simp only [decimal_pieces_text.l0, e1, hC]
      clear e1
      simp (disch := omega) only [if_pos]
    · rw [if_neg h0]
      by_cases hq : m / 1000000000 = 0
      · have hQ0 : Q = [] := by rw [hQ, hq, pcs_zero]
        subst hQ0
        have ih := text_l0 p hp hs [] (P ++ [n]) 0 (out ++ rdig m) (by rw [hpq]; simp) pcs_zero.symm
        have hmn' : m = n := by omega
        refine text_last (C p) P.length ⟨by omega⟩ (by rw [hC]; simpa using hl.symm) _ 9 0 n out (by omega) (by simpa using hn9) (by omega) ?_
        have hn0 : n ≠ 0 := by omega
        rw [if_neg hn0, hC, ← hmn']
        have e9 : (B8 (out ++ rdig m)).reverse = B8 (out ++ rdig m).reverse := by simp [B8]
        have hrl : (rdig m).length ≤ 9 := by rw [rdig, List.length_reverse, Lib.decDigits_length]; exact nDig_le (by decide) (by omega)
        have key := reverse_f (B8 (out ++ rdig m)) (by rw [B8_length, List.length_append]; omega)
        rw [e9] at key
        refine Ev.step (f := fun k => (slices_Reverse_byte_byte.f k (B8 (out ++ rdig m))).bind fun t141 => (some (strOfNums t141))) (fun k => ?_) (Ev.eq (Ev.bind key (Ev.now _)) (by rw [strOfNums_B8]))
        rw [List.length_nil] at hl
        simp (disch := omega) only [decimal_pieces_text.l0, if_neg]
      · have hQl : 1 ≤ Q.length := by
          rcases Q with _ | ⟨a, t⟩
          · exact absurd (pcs_nil_iff.1 hQ.symm) hq
          · simp
        have ih := text_l0 p hp hs Q (P ++ [n]) (m / 1000000000) (out ++ dgs 9 n) (by rw [hpq]; simp) hQ (by simp [dgs]; omega)
        refine text_mid (C p) P.length ⟨by omega⟩ (by rw [hC]; omega) _ 9 0 n out (by omega) hn9 (by omega) ?_
        rw [if_neg hq] at ih
        rw [hC]
        have e9 : rdig m = dgs 9 n ++ rdig (m / 1000000000) := by
          rw [← dec_val_cons hn9 hq, ← hmn]
        rw [e9, ← List.append_assoc]
        simpa using ih
theorem text_f (n : Nat) (hs : (pcs n).length < 8796093022208) : Ev (fun k => decimal_pieces_text.f k (C (pcs n))) (S n) := by
  unfold decimal_pieces_text.f
  have hC : (C (pcs n)).length = (pcs n).length := C_length _
  rw [hC]
  by_cases h0 : n = 0
  · subst h0
    have hz : (pcs 0).length = 0 := by rw [pcs_zero]; rfl
    simp (disch := omega) only [if_pos]
    rw [zero_str]
    exact Ev.now _
  · have hl : (pcs n).length ≠ 0 := fun e => h0 (pcs_nil_iff.1 (List.length_eq_zero_iff.1 e))
    have key := text_l0 (pcs n) (ok_pcs n) hs (pcs n) [] n [] rfl rfl rfl
    have e1 : wrap64 (9 * ((pcs n).length : Int)) = ((9 * (pcs n).length : Nat) : Int) := by rw [w64 (by omega) (by omega)]; omega
    have e2 : (⟨([] ++ (if n = 0 then [] else rdig n)).reverse.toArray⟩ : ByteArray) = S n := by
      rw [if_neg h0, List.nil_append, rdig, List.reverse_reverse]; rfl
    rw [e2] at key
    simp only [e1, Int.toNat_natCast]
    clear e1 e2
    simp (disch := omega) only [if_pos, if_neg]
    exact key
end Go.Proofs.YtcfddphiflmnlaaDoor.P

namespace Go.Proofs.YtcfddphiflmnlaaDoor.P
open Go.RowKit Go.Proofs.YtcfddphiflmnlaaDoorW.PrintWords
def dig (x e b : Nat) : Nat := if x < e + b then x + 1000000000 - e - b else x - e - b
def bor (x e b : Nat) : Nat := if x < e + b then 1 else 0
theorem dig_bor {x e b : Nat} (hx : x < 1000000000) (he : e < 1000000000) (hb : b ≤ 1) : dig x e b + e + b = x + bor x e b * 1000000000 ∧ dig x e b < 1000000000 ∧ bor x e b ≤ 1 := by
  unfold dig bor
  by_cases h : x < e + b
  · rw [if_pos h, if_pos h]; omega
  · rw [if_neg h, if_neg h]; omega
def subrow (n : Nat) : Nat → Nat → List Nat → List Nat → List Nat × Nat
  | _, b, [], _ => ([], b)
  | c, b, x :: W, [] => (dig x (c % 1000000000) b :: W, bor x (c % 1000000000) b)
  | c, b, x :: W, q :: Q => (dig x ((c + n * q) % 1000000000) b :: (subrow n ((c + n * q) / 1000000000) (bor x ((c + n * q) % 1000000000) b) W Q).1, (subrow n ((c + n * q) / 1000000000) (bor x ((c + n * q) % 1000000000) b) W Q).2)
theorem mul_lt9 {n q c : Nat} (hn : n < 1000000000) (hq : q < 1000000000) (hc : c < 1000000000) : c + n * q < 1000000000000000000 ∧ (c + n * q) / 1000000000 < 1000000000 := by
  have h : n * q ≤ 999999999 * 999999999 := Nat.mul_le_mul (by omega) (by omega)
  omega
theorem subrow_spec (n : Nat) (hn : n < 1000000000) : ∀ (Q W : List Nat) (c b : Nat), W.length = Q.length + 1 → Ok W → Ok Q → c < 1000000000 → b ≤ 1 →
    (subrow n c b W Q).1.length = W.length ∧ Ok (subrow n c b W Q).1 ∧ (subrow n c b W Q).2 ≤ 1 ∧ val (subrow n c b W Q).1 + n * val Q + c + b = val W + 1000000000 ^ W.length * (subrow n c b W Q).2
  | [], [x], c, b, _, hW, _, hc, hb => by
    obtain ⟨h1, h2, h3⟩ := dig_bor (e := c % 1000000000) hW.head (by omega) hb
    refine ⟨rfl, Ok.cons h2 Ok.nil, h3, ?_⟩
    simp only [subrow, val, List.length_cons, List.length_nil, Nat.mul_zero, Nat.zero_add, Nat.pow_one, Nat.add_zero]
    omega
  | [], [], _, _, h, _, _, _, _ => by simp at h
  | [], _ :: _ :: _, _, _, h, _, _, _, _ => by simp at h
  | _ :: _, [], _, _, h, _, _, _, _ => by simp at h
  | q :: Q, x :: W, c, b, h, hW, hQ, hc, hb => by
    obtain ⟨m1, m2⟩ := mul_lt9 hn hQ.head hc
    obtain ⟨h1, h2, h3⟩ := dig_bor (e := (c + n * q) % 1000000000) hW.head (by omega) hb
    obtain ⟨i1, i2, i3, i4⟩ := subrow_spec n hn Q W ((c + n * q) / 1000000000) (bor x ((c + n * q) % 1000000000) b) (by simpa using h) hW.tail hQ.tail m2 h3
    refine ⟨by simp [subrow, i1], Ok.cons h2 i2, i3, ?_⟩
    simp only [subrow, val, List.length_cons, Nat.pow_succ]
    generalize (subrow n ((c + n * q) / 1000000000) (bor x ((c + n * q) % 1000000000) b) W Q) = r at i1 i2 i3 i4 ⊢
    generalize dig x ((c + n * q) % 1000000000) b = dg at h1 ⊢
    generalize bor x ((c + n * q) % 1000000000) b = br at h1 h3 i4 ⊢
    rw [Nat.mul_comm (1000000000 ^ W.length) 1000000000, Nat.mul_assoc, Nat.mul_add, Nat.mul_left_comm n 1000000000]
    generalize n * val Q = u at i4 ⊢
    generalize n * q = nq at *
    generalize 1000000000 ^ W.length * r.2 = pw at i4 ⊢
    omega
theorem tk_d {x e b : Nat} (hx : x < 1000000000) (he : e < 1000000000) (hb : b ≤ 1) : wrap64 (wrap64 (wrap64 (x : Int) - wrap64 (e : Int)) - (b : Int)) = (x : Int) - (e : Int) - (b : Int) := by
  rw [w64 (n := (x : Int)) (by omega) (by omega), w64 (n := (e : Int)) (by omega) (by omega), w64 (n := (x : Int) - e) (by omega) (by omega), w64 (by omega) (by omega)]
theorem tk_lo {x e b : Nat} (hx : x < 1000000000) (he : e < 1000000000) (hb : b ≤ 1) (h : x < e + b) : IntKind.u64.wrap (wrap64 ((x : Int) - (e : Int) - (b : Int) + 1000000000)) = ((dig x e b : Nat) : Int) := by
  unfold dig
  rw [if_pos h, w64 (by omega) (by omega), u64w (by omega) (by omega)]
  omega
theorem tk_hi {x e b : Nat} (hx : x < 1000000000) (h : ¬ x < e + b) : IntKind.u64.wrap ((x : Int) - (e : Int) - (b : Int)) = ((dig x e b : Nat) : Int) := by
  unfold dig
  rw [if_neg h, u64w (by omega) (by omega)]
  omega
theorem tk_lt {x e b : Nat} (h : x < e + b) : (x : Int) - (e : Int) - (b : Int) < 0 := by omega
theorem tk_ge {x e b : Nat} (h : ¬ x < e + b) : ¬ (x : Int) - (e : Int) - (b : Int) < 0 := by omega
theorem tk_mul {n q c : Nat} (hn : n < 1000000000) (hq : q < 1000000000) (hc : c < 1000000000) : IntKind.u64.wrap ((c : Int) + IntKind.u64.wrap ((n : Int) * (q : Int))) = ((c + n * q : Nat) : Int) ∧ IntKind.u64.wrap (((c + n * q) / 1000000000 : Nat) : Int) = (((c + n * q) / 1000000000 : Nat) : Int) := by
  have h : n * q ≤ 999999999 * 999999999 := Nat.mul_le_mul (by omega) (by omega)
  refine ⟨?_, usmall (by omega)⟩
  rw [umul (by omega), uadd (by omega)]
theorem mod_lt9 (n : Nat) : n % 1000000000 < 1000000000 := Nat.mod_lt _ (by decide)
theorem take_step1 (k n : Nat) (Q1 Q2 L R : List Nat) (x q at_ c b : Nat) (hL : L.length = at_ + Q1.length) (hn : n < 1000000000) (hc : c < 1000000000) (hx : x < 1000000000) (hq : q < 1000000000) (hb : b ≤ 1) (hs : Sm (at_ + Q1.length)) (hs1 : Sm Q1.length) :
    decimal_pieces_take.l0 (k + 1) (C (L ++ x :: R)) (C (Q1 ++ q :: Q2)) (n : Int) (at_ : Int) (b : Int) (c : Int) (Q1.length : Int) =
      decimal_pieces_take.l0 k (C (L ++ dig x ((c + n * q) % 1000000000) b :: R)) (C (Q1 ++ q :: Q2)) (n : Int) (at_ : Int) ((bor x ((c + n * q) % 1000000000) b : Nat) : Int) (((c + n * q) / 1000000000 : Nat) : Int) ((Q1.length + 1 : Nat) : Int) := by
  have hl1 : (C (Q1 ++ q :: Q2)).length = Q1.length + (Q2.length + 1) := by rw [C_length]; simp
  have hl0 : (C (L ++ x :: R)).length = at_ + Q1.length + (R.length + 1) := by rw [C_length]; simp [hL]
  obtain ⟨e3, e4⟩ := tk_mul hn hq hc
  have e1 := wadd hs
  have e2 := rd_at L R x (at_ + Q1.length) hL
  have e7 := rd_at Q1 Q2 q Q1.length rfl
  have e5 := wsucc hs1
  have e6 := set_at L R x (dig x ((c + n * q) % 1000000000) b) _ hL
  have e8 := tk_d (e := (c + n * q) % 1000000000) hx (mod_lt9 _) hb
  by_cases h : x < (c + n * q) % 1000000000 + b
  · have e9 := tk_lo hx (mod_lt9 _) hb h
    have eb : bor x ((c + n * q) % 1000000000) b = 1 := if_pos h
    simp only [decimal_pieces_take.l0, e1, e2, e7, e3, tdiv9, tmod9, e4, e5, e8, e9, e6, eb, if_pos (tk_lt h)]
    clear e1 e2 e3 e4 e5 e6 e7 e8 e9 h hx hc hq hn eb
    generalize (c + n * q) % 1000000000 = e
    generalize (c + n * q) / 1000000000 = e'
    simp (disch := omega) only [if_pos]
    rfl
  · have e9 := tk_hi hx h
    have eb : bor x ((c + n * q) % 1000000000) b = 0 := if_neg h
    simp only [decimal_pieces_take.l0, e1, e2, e7, e3, tdiv9, tmod9, e4, e5, e8, e9, e6, eb, if_neg (tk_ge h)]
    clear e1 e2 e3 e4 e5 e6 e7 e8 e9 h hx hc hq hn eb
    generalize (c + n * q) % 1000000000 = e
    generalize (c + n * q) / 1000000000 = e'
    simp (disch := omega) only [if_pos]
    rfl
theorem take_step0 (k n : Nat) (Q1 L R : List Nat) (x at_ c b : Nat) (hL : L.length = at_ + Q1.length) (hc : c < 1000000000) (hx : x < 1000000000) (hb : b ≤ 1) (hs : Sm (at_ + Q1.length)) (hs1 : Sm Q1.length) :
    decimal_pieces_take.l0 (k + 1) (C (L ++ x :: R)) (C Q1) (n : Int) (at_ : Int) (b : Int) (c : Int) (Q1.length : Int) =
      decimal_pieces_take.l0 k (C (L ++ dig x (c % 1000000000) b :: R)) (C Q1) (n : Int) (at_ : Int) ((bor x (c % 1000000000) b : Nat) : Int) ((c / 1000000000 : Nat) : Int) ((Q1.length + 1 : Nat) : Int) := by
  have hl1 : (C Q1).length = Q1.length := C_length _
  have hl0 : (C (L ++ x :: R)).length = at_ + Q1.length + (R.length + 1) := by rw [C_length]; simp [hL]
  have e4 : IntKind.u64.wrap ((c / 1000000000 : Nat) : Int) = ((c / 1000000000 : Nat) : Int) := usmall (by omega)
  have e1 := wadd hs
  have e2 := rd_at L R x (at_ + Q1.length) hL
  have e5 := wsucc hs1
  have e6 := set_at L R x (dig x (c % 1000000000) b) _ hL
  have e8 := tk_d (e := c % 1000000000) hx (mod_lt9 _) hb
  by_cases h : x < c % 1000000000 + b
  · have e9 := tk_lo hx (mod_lt9 _) hb h
    have eb : bor x (c % 1000000000) b = 1 := if_pos h
    simp only [decimal_pieces_take.l0, e1, e2, tdiv9, tmod9, e4, e5, e8, e9, e6, eb, if_pos (tk_lt h)]
    clear e1 e2 e4 e5 e6 e8 e9 h hx hc eb
    generalize c % 1000000000 = e
    generalize c / 1000000000 = e'
    simp (disch := omega) only [if_pos, if_neg]
    rfl
  · have e9 := tk_hi hx h
    have eb : bor x (c % 1000000000) b = 0 := if_neg h
    simp only [decimal_pieces_take.l0, e1, e2, tdiv9, tmod9, e4, e5, e8, e9, e6, eb, if_neg (tk_ge h)]
    clear e1 e2 e4 e5 e6 e8 e9 h hx hc eb
    generalize c % 1000000000 = e
    generalize c / 1000000000 = e'
    simp (disch := omega) only [if_pos, if_neg]
    rfl
theorem take_end (k : Nat) (p q : List Int) (n y c : Int) (b z : Nat) (hz : z = q.length + 1) : decimal_pieces_take.l0 (k + 1) p q n y (b : Int) c (z : Int) = some (decide (0 < b), p) := by
  simp (disch := omega) only [decimal_pieces_take.l0, if_neg]
  congr 2
  simp
theorem take_l0 (n : Nat) (hn : n < 1000000000) : ∀ (Q2 Q1 L W R : List Nat) (at_ c b : Nat), W.length = Q2.length + 1 → L.length = at_ + Q1.length → Ok W → Ok Q2 → c < 1000000000 → b ≤ 1 → Sm (at_ + (Q1 ++ Q2).length) →
    Ev (fun k => decimal_pieces_take.l0 k (C (L ++ W ++ R)) (C (Q1 ++ Q2)) (n : Int) (at_ : Int) (b : Int) (c : Int) (Q1.length : Int)) (decide (0 < (subrow n c b W Q2).2), C (L ++ (subrow n c b W Q2).1 ++ R))
  | [], Q1, L, [x], R, at_, c, b, _, hL, hW, _, hc, hb, hs => by
    have e0 : L ++ [x] ++ R = L ++ x :: R := by simp
    rw [e0, List.append_nil]
    rw [List.append_nil] at hs
    refine Ev.step (fun k => take_step0 k n Q1 L R x at_ c b hL hc hW.head hb hs (hs.le (by omega))) (Ev.step (f := fun _ => some (decide (0 < bor x (c % 1000000000) b), C (L ++ dig x (c % 1000000000) b :: R))) (fun k => take_end k _ _ _ _ _ _ _ (by rw [C_length])) (Ev.eq (Ev.now _) (by simp [subrow] <;> congr)))
  | [], _, _, [], _, _, _, _, h, _, _, _, _, _, _ => by simp at h
  | [], _, _, _ :: _ :: _, _, _, _, _, h, _, _, _, _, _, _ => by simp at h
  | _ :: _, _, _, [], _, _, _, _, h, _, _, _, _, _, _ => by simp at h
  | q :: Q2, Q1, L, x :: W, R, at_, c, b, hW2, hL, hW, hQ, hc, hb, hs => by
    have e0 : L ++ x :: W ++ R = L ++ x :: (W ++ R) := by simp
    have hs1 : Sm (at_ + Q1.length) := hs.le (by simp)
    obtain ⟨_, h2, h3⟩ := dig_bor (x := x) (e := (c + n * q) % 1000000000) (b := b) hW.head (mod_lt9 _) hb
    have ih := take_l0 n hn Q2 (Q1 ++ [q]) (L ++ [dig x ((c + n * q) % 1000000000) b]) W R at_ ((c + n * q) / 1000000000) (bor x ((c + n * q) % 1000000000) b) (by simpa using hW2) (by simp [hL]; omega) hW.tail hQ.tail (mul_lt9 hn hQ.head hc).2 h3 (hs.le (by simp))
    rw [e0]
    refine Ev.step (fun k => take_step1 k n Q1 Q2 L (W ++ R) x q at_ c b hL hn hc hW.head hQ.head hb hs1 (hs1.le (by omega))) (Ev.eq (r := (decide (0 < (subrow n ((c + n * q) / 1000000000) (bor x ((c + n * q) % 1000000000) b) W Q2).2), C (L ++ [dig x ((c + n * q) % 1000000000) b] ++ (subrow n ((c + n * q) / 1000000000) (bor x ((c + n * q) % 1000000000) b) W Q2).1 ++ R))) ?_ (by simp [subrow] <;> congr))
    simpa using ih
theorem take_f (L W R Q : List Nat) (n : Nat) (hn : n < 1000000000) (hW : W.length = Q.length + 1) (h1 : Ok W) (h2 : Ok Q) (hs : Sm (L.length + Q.length)) :
    Ev (fun k => decimal_pieces_take.f k (C (L ++ W ++ R)) (C Q) (n : Int) (L.length : Int)) (decide (0 < (subrow n 0 0 W Q).2), C (L ++ (subrow n 0 0 W Q).1 ++ R)) := by
  unfold decimal_pieces_take.f
  exact take_l0 n hn Q [] L W R L.length 0 0 hW (by simp) h1 h2 (by omega) (by omega) (by simpa using hs)
end Go.Proofs.YtcfddphiflmnlaaDoor.P

namespace Go.Proofs.YtcfddphiflmnlaaDoor.P
open Go.RowKit Go.Proofs.YtcfddphiflmnlaaDoorW.PrintWords
def mrow (a : Nat) : Nat → List Nat → List Nat → List Nat
  | c, [], _ => [c]
  | c, _ :: _, [] => [c]
  | c, w :: W, b :: Q => ((c + (w + a * b)) % 1000000000) :: mrow a ((c + (w + a * b)) / 1000000000) W Q
theorem mrow_arith {a w b c : Nat} (ha : a < 1000000000) (hw : w < 1000000000) (hb : b < 1000000000) (hc : c < 1000000000) :
    IntKind.u64.wrap ((c : Int) + IntKind.u64.wrap ((w : Int) + IntKind.u64.wrap ((a : Int) * (b : Int)))) = ((c + (w + a * b) : Nat) : Int) ∧ IntKind.u64.wrap (((c + (w + a * b)) / 1000000000 : Nat) : Int) = (((c + (w + a * b)) / 1000000000 : Nat) : Int) ∧ (c + (w + a * b)) / 1000000000 < 1000000000 := by
  have h : a * b ≤ 999999999 * 999999999 := Nat.mul_le_mul (by omega) (by omega)
  refine ⟨?_, usmall (by omega), by omega⟩
  rw [umul (by omega), uadd (by omega), uadd (by omega)]
theorem mrow_spec (a : Nat) (ha : a < 1000000000) : ∀ (Q W : List Nat) (c : Nat), W.length = Q.length → Ok W → Ok Q → c < 1000000000 →
    (mrow a c W Q).length = W.length + 1 ∧ Ok (mrow a c W Q) ∧ val (mrow a c W Q) = val W + a * val Q + c
  | [], [], c, _, _, _, hc => ⟨rfl, Ok.cons hc Ok.nil, by simp [mrow, val]⟩
  | [], _ :: _, _, h, _, _, _ => by simp at h
  | _ :: _, [], _, h, _, _, _ => by simp at h
  | b :: Q, w :: W, c, h, hW, hQ, hc => by
    obtain ⟨_, _, m3⟩ := mrow_arith ha hW.head hQ.head hc
    obtain ⟨i1, i2, i3⟩ := mrow_spec a ha Q W ((c + (w + a * b)) / 1000000000) (by simpa using h) hW.tail hQ.tail m3
    refine ⟨by simp [mrow, i1], Ok.cons (mod_lt9 _) i2, ?_⟩
    simp only [mrow, val, i3]
    rw [Nat.mul_add a, Nat.mul_left_comm a 1000000000]
    generalize a * val Q = u
    generalize a * b = ab
    omega
theorem times_in (k : Nat) (Q1 Q2 L R : List Nat) (w b i a c : Nat) (p : List Int) (n m : Int) (hL : L.length = i + Q1.length) (ha : a < 1000000000) (hw : w < 1000000000) (hb : b < 1000000000) (hc : c < 1000000000) (hs : Sm (i + Q1.length)) (hs1 : Sm Q1.length) :
    decimal_pieces_times.l1 (k + 1) (C (Q1 ++ b :: Q2)) (C (L ++ w :: R)) (i : Int) (a : Int) (c : Int) p n m (C (Q1 ++ b :: Q2)) (((Q1 ++ b :: Q2).length : Nat) : Int) (Q1.length : Int) =
      decimal_pieces_times.l1 k (C (Q1 ++ b :: Q2)) (C (L ++ ((c + (w + a * b)) % 1000000000) :: R)) (i : Int) (a : Int) (((c + (w + a * b)) / 1000000000 : Nat) : Int) p n m (C (Q1 ++ b :: Q2)) (((Q1 ++ b :: Q2).length : Nat) : Int) ((Q1.length + 1 : Nat) : Int) := by
  have hl1 : (C (Q1 ++ b :: Q2)).length = Q1.length + (Q2.length + 1) := by rw [C_length]; simp
  have hl2 : (Q1 ++ b :: Q2).length = Q1.length + (Q2.length + 1) := by simp
  have hl0 : (C (L ++ w :: R)).length = i + Q1.length + (R.length + 1) := by rw [C_length]; simp [hL]
  obtain ⟨e3, e4, _⟩ := mrow_arith ha hw hb hc
  have e1 := wadd hs
  have e2 := rd_at L R w (i + Q1.length) hL
  have e7 := rd_at Q1 Q2 b Q1.length rfl
  have e5 := wsucc hs1
  have e6 := set_at L R w ((c + (w + a * b)) % 1000000000) _ hL
  simp only [decimal_pieces_times.l1, e1, e2, e7, e3, tdiv9, tmod9, e4, e5, e6]
  clear e1 e2 e3 e4 e5 e6 e7 ha hw hb hc hs hs1
  generalize (c + (w + a * b)) / 1000000000 = e'
  generalize (c + (w + a * b)) % 1000000000 = e
  simp (disch := omega) only [if_pos]
theorem times_out (k : Nat) (Q L R : List Nat) (z i a c : Nat) (p : List Int) (n : Int) (hL : L.length = i + Q.length) (hs : Sm (i + Q.length)) (hs1 : Sm i) :
    decimal_pieces_times.l1 (k + 1) (C Q) (C (L ++ z :: R)) (i : Int) (a : Int) (c : Int) p n (i : Int) (C Q) ((Q.length : Nat) : Int) (Q.length : Int) =
      decimal_pieces_times.l0 k (C Q) (C (L ++ c :: R)) p n ((i + 1 : Nat) : Int) := by
  have hl1 : (C Q).length = Q.length := C_length _
  have hl0 : (C (L ++ z :: R)).length = i + Q.length + (R.length + 1) := by rw [C_length]; simp [hL]
  have e1 := wadd hs
  have e5 := wsucc hs1
  have e6 := set_at L R z c _ hL
  simp only [decimal_pieces_times.l1, hl1, e1, e5, e6]
  clear e1 e5 e6 hs hs1
  simp (disch := omega) only [if_pos, if_neg]
theorem times_l1 (a : Nat) (ha : a < 1000000000) (p : List Int) (n : Int) {r : List Int} : ∀ (Q2 Q1 L W R : List Nat) (z i c : Nat), W.length = Q2.length → L.length = i + Q1.length → Ok W → Ok Q2 → c < 1000000000 → Sm (i + (Q1 ++ Q2).length) →
    Ev (fun k => decimal_pieces_times.l0 k (C (Q1 ++ Q2)) (C (L ++ mrow a c W Q2 ++ R)) p n ((i + 1 : Nat) : Int)) r →
    Ev (fun k => decimal_pieces_times.l1 k (C (Q1 ++ Q2)) (C (L ++ W ++ z :: R)) (i : Int) (a : Int) (c : Int) p n (i : Int) (C (Q1 ++ Q2)) (((Q1 ++ Q2).length : Nat) : Int) (Q1.length : Int)) r
  | [], Q1, L, [], R, z, i, c, _, hL, _, _, _, hs, hr => by
    rw [List.append_nil] at hs hr ⊢
    rw [List.append_nil]
    exact Ev.step (fun k => times_out k Q1 L R z i a c p n hL hs (hs.le (by omega))) (by simpa [mrow] using hr)
  | [], _, _, _ :: _, _, _, _, _, h, _, _, _, _, _, _ => by simp at h
  | _ :: _, _, _, [], _, _, _, _, h, _, _, _, _, _, _ => by simp at h
  | b :: Q2, Q1, L, w :: W, R, z, i, c, hWQ, hL, hW, hQ, hc, hs, hr => by
    have e0 : L ++ w :: W ++ z :: R = L ++ w :: (W ++ z :: R) := by simp
    have hs1 : Sm (i + Q1.length) := hs.le (by simp)
    have ih := times_l1 a ha p n Q2 (Q1 ++ [b]) (L ++ [(c + (w + a * b)) % 1000000000]) W R z i ((c + (w + a * b)) / 1000000000) (by simpa using hWQ) (by simp [hL]; omega) hW.tail hQ.tail (mrow_arith ha hW.head hQ.head hc).2.2 (hs.le (by simp)) (by simpa [mrow] using hr)
    rw [e0]
    exact Ev.step (fun k => times_in k Q1 Q2 L (W ++ z :: R) w b i a c p n i hL ha hW.head hQ.head hc hs1 (hs1.le (by omega))) (by simpa using ih)
theorem times_head (k : Nat) (P1 P2 : List Nat) (a : Nat) (q out : List Int) :
    decimal_pieces_times.l0 (k + 1) q out (C (P1 ++ a :: P2)) (((P1 ++ a :: P2).length : Nat) : Int) (P1.length : Int) =
      decimal_pieces_times.l1 k q out (P1.length : Int) (a : Int) 0 (C (P1 ++ a :: P2)) (((P1 ++ a :: P2).length : Nat) : Int) (P1.length : Int) q (q.length : Int) 0 := by
  have hl1 : (C (P1 ++ a :: P2)).length = P1.length + (P2.length + 1) := by rw [C_length]; simp
  have hl2 : (P1 ++ a :: P2).length = P1.length + (P2.length + 1) := by simp
  have e2 := rd_at P1 P2 a P1.length rfl
  simp only [decimal_pieces_times.l0, e2]
  clear e2
  simp (disch := omega) only [if_pos]
theorem times_l0 (Q : List Nat) (hQ : Ok Q) : ∀ (P2 P1 M : List Nat), Ok P2 → Ok M → M.length = P1.length + Q.length → val M = val P1 * val Q → Sm ((P1 ++ P2).length + Q.length) →
    Ev (fun k => decimal_pieces_times.l0 k (C Q) (C (M ++ List.replicate P2.length 0)) (C (P1 ++ P2)) (((P1 ++ P2).length : Nat) : Int) (P1.length : Int)) (C (pcs (val (P1 ++ P2) * val Q)))
  | [], P1, M, _, hM, hl, hv, hs => by
    have ht := trim_f M hM (by have := hs.out; simp at this; omega)
    refine Ev.step (f := fun k => (decimal_pieces_trim.f k (C M)).bind fun t163 => (some t163)) (fun k => ?_) (Ev.eq (Ev.bind ht (Ev.now _)) (by rw [hv, List.append_nil]))
    have h : ¬ (P1.length : Int) < ((P1.length : Nat) : Int) := by omega
    simp only [List.append_nil, List.length_nil, List.replicate_zero]
    simp only [decimal_pieces_times.l0, if_neg h]
  | a :: P2, P1, M, hP, hM, hl, hv, hs => by
    have ha := hP.head
    obtain ⟨L, W, rfl, hL⟩ : ∃ L W, M = L ++ W ∧ L.length = P1.length := ⟨M.take P1.length, M.drop P1.length, (List.take_append_drop _ _).symm, by rw [List.length_take]; omega⟩
    have hW : W.length = Q.length := by simp [hL] at hl; omega
    obtain ⟨m1, m2, m3⟩ := mrow_spec a ha Q W 0 hW hM.right hQ (by omega)
    have ih := times_l0 Q hQ P2 (P1 ++ [a]) (L ++ mrow a 0 W Q) hP.tail (hM.left.append m2) (by simp [m1, hL, hW]; omega) (by
      rw [val_append, hL] at hv
      rw [val_append, m3, val_snoc, Nat.add_zero, Nat.mul_add, ← Nat.add_assoc, hL, hv, Nat.add_mul, Nat.mul_assoc]) (hs.le (by simp))
    refine Ev.step (fun k => times_head k P1 P2 a (C Q) _) ?_
    have key := times_l1 a ha (C (P1 ++ a :: P2)) (((P1 ++ a :: P2).length : Nat) : Int) Q [] L W (List.replicate P2.length 0) 0 P1.length 0 hW (by simp [hL]) hM.right hQ (by omega) (hs.le (by simp)) (by simpa using ih)
    simpa [C_length, List.replicate_succ] using key
end Go.Proofs.YtcfddphiflmnlaaDoor.P

namespace Go.Proofs.YtcfddphiflmnlaaDoor.P
open Go.RowKit Go.Proofs.YtcfddphiflmnlaaDoorW.PrintWords
theorem times_f (P Q : List Nat) (hP : Ok P) (hQ : Ok Q) (h : P.length + Q.length < 17592186044416) :
    Ev (fun k => decimal_pieces_times.f k (C P) (C Q)) (C (pcs (val P * val Q))) := by
  have key := times_l0 Q hQ P [] (List.replicate Q.length 0) hP (fun a ha => by have := List.eq_of_mem_replicate ha; omega) (by simp) (by simp [val, val_zeros]) ⟨by simp; omega⟩
  have e1 := wadd (a := P.length) (b := Q.length) ⟨by omega⟩
  have e2 : List.replicate (P.length + Q.length) (0 : Int) = C (List.replicate Q.length 0 ++ List.replicate P.length 0) := by
    rw [List.replicate_append_replicate, ← C_zeros, Nat.add_comm]
  have key2 : Ev (fun k => decimal_pieces_times.l0 k (C Q) (C (List.replicate Q.length 0 ++ List.replicate P.length 0)) (C P) (P.length : Int) 0) (C (pcs (val P * val Q))) := by simpa using key
  unfold decimal_pieces_times.f
  simp only [C_length, e1, Int.toNat_natCast, e2]
  clear e1 e2 key
  simp (disch := omega) only [if_pos]
  exact key2
end Go.Proofs.YtcfddphiflmnlaaDoor.P

namespace Go.Proofs.YtcfddphiflmnlaaDoor.P
open Go.RowKit Go.Proofs.YtcfddphiflmnlaaDoorW.PrintWords
structure Md (n : Nat) : Prop where
  out : Lib.nDigits n ≤ 1000000
theorem pcs_len_nDig (n : Nat) : (pcs n).length ≤ Lib.nDigits n := by
  apply pcs_len_le
  refine Nat.lt_of_lt_of_le (Lib.lt_pow_nDigits n) ?_
  exact Nat.pow_le_pow_left (by decide) _
theorem Md.pcs {n : Nat} (h : Md n) : (pcs n).length ≤ 1000000 := Nat.le_trans (pcs_len_nDig n) h.out
theorem nDig_mul (a b : Nat) : Lib.nDigits (a * b) ≤ Lib.nDigits a + Lib.nDigits b := by
  refine nDig_le (by have := Lib.nDigits_pos a; omega) ?_
  rw [Nat.pow_add]
  exact Nat.mul_lt_mul'' (Lib.lt_pow_nDigits a) (Lib.lt_pow_nDigits b)
theorem smallS {n : Nat} (h : Lib.nDigits n ≤ 18) : decimal_Small.f (S n) = some ((n : Int), true) := by
  have h2 := nDig_lt h
  have h3 : (10 : Nat) ^ 18 = 1000000000000000000 := by decide
  rw [small_S n (by omega), if_pos (by omega)]
theorem both_f (a b : Nat) : Ev (fun k => decimal_both.f k (S a) (S b)) (if Lib.nDigits a ≤ 18 ∧ Lib.nDigits b ≤ 18 then ((a : Int), (b : Int), true) else (0, 0, false)) := by
  have ha := S_size a
  have hb := S_size b
  unfold decimal_both.f
  by_cases h1 : Lib.nDigits a ≤ 18
  · simp (disch := omega) only [if_neg]
    by_cases h2 : Lib.nDigits b ≤ 18
    · rw [decide_eq_false (by omega), if_pos ⟨h1, h2⟩]
      refine Ev.step (f := fun _ => some ((a : Int), (b : Int), true)) (fun k => ?_) (Ev.now _)
      simp only [decimal_both.j0, Bool.false_eq_true, if_false, smallS h1, smallS h2, Option.bind_some]
    · rw [decide_eq_true (by omega), if_neg (fun h => h2 h.2)]
      refine Ev.step (f := fun _ => some (0, 0, false)) (fun k => ?_) (Ev.now _)
      simp only [decimal_both.j0, if_true]
  · simp (disch := omega) only [if_pos]
    rw [if_neg (fun h => h1 h.1)]
    refine Ev.step (f := fun _ => some (0, 0, false)) (fun k => ?_) (Ev.now _)
    simp only [decimal_both.j0, if_true]
theorem wsub {a b : Nat} (h : b ≤ a) (hs : Sm (a + 1)) : wrap64 ((a : Int) - (b : Int)) = ((a - b : Nat) : Int) := by
  have := hs.out
  rw [w64 (by omega) (by omega)]
  omega
theorem add_core (a b : Nat) (h : (pcs b).length ≤ (pcs a).length) (ha : (pcs a).length ≤ 1000000) :
    Ev (fun k => (decimal_pieces_back.f k (C (pcs a) ++ [0]) (C (pcs b) ++ List.replicate ((pcs a).length - (pcs b).length) 0) 0).bind fun t493 => ((decimal_pieces_trim.f k t493).bind fun t494 => ((decimal_pieces_text.f k t494).bind fun t497 => (some t497)))) (S (a + b)) := by
  have e1 : C (pcs a) ++ [0] = C (pcs a ++ [0]) := by rw [C_append]; rfl
  have e2 : C (pcs b) ++ List.replicate ((pcs a).length - (pcs b).length) 0 = C (pcs b ++ List.replicate ((pcs a).length - (pcs b).length) 0) := by rw [C_append, C_zeros]
  have hW : Ok (pcs a ++ [0]) := (ok_pcs a).append (Ok.cons (by decide) Ok.nil)
  have hQ : Ok (pcs b ++ List.replicate ((pcs a).length - (pcs b).length) 0) := (ok_pcs b).append (Ok.zeros _)
  have hl : (pcs a ++ [0]).length = (pcs b ++ List.replicate ((pcs a).length - (pcs b).length) 0).length + 1 := by simp; omega
  have hb := back_f [] (pcs a ++ [0]) [] (pcs b ++ List.replicate ((pcs a).length - (pcs b).length) 0) hl hW hQ ⟨by simp; omega⟩
  obtain ⟨s1, s2, d, s3, s4⟩ := addrow_spec _ _ 0 hl hW hQ (by omega)
  rw [val_snoc, val_append, val_zeros, val_pcs, val_pcs, Nat.mul_zero, Nat.mul_zero, Nat.add_zero, Nat.add_zero, Nat.add_zero] at s4
  have h1 := lt_pow_pcs a
  have h2 := lt_pow_pcs b
  have h3 : 1000000000 ^ (pcs b).length ≤ 1000000000 ^ (pcs a).length := Nat.pow_le_pow_right (by decide) h
  have h4 : (pcs a ++ [0]).length = (pcs a).length + 1 := by simp
  rw [h4, Nat.pow_succ] at s4
  have hd : d = 0 := by
    rcases Nat.eq_zero_or_pos d with h5 | h5
    · exact h5
    · have : d = 1 := by omega
      subst this
      omega
  subst hd
  have hv : val (addrow 0 (pcs a ++ [0]) (pcs b ++ List.replicate ((pcs a).length - (pcs b).length) 0)) = a + b := by
    rw [Nat.mul_zero, Nat.add_zero] at s4
    exact s4
  have ht := trim_f _ s2 (by rw [s1, h4]; omega)
  rw [hv] at ht
  have hp : (pcs (a + b)).length ≤ (pcs a).length + 1 := pcs_len_le (by rw [Nat.pow_succ]; omega)
  rw [e1, e2]
  simp only [List.nil_append, List.append_nil, List.length_nil] at hb
  refine Ev.bind hb (Ev.bind ht (Ev.bind (text_f _ (by omega)) (Ev.now _)))
theorem add_f (a b : Nat) (ha : Md a) (hb : Md b) : Ev (fun k => decimal_Add.f k (S a) (S b)) (S (a + b)) := by
  unfold decimal_Add.f
  refine Ev.bind (both_f a b) ?_
  by_cases h : Lib.nDigits a ≤ 18 ∧ Lib.nDigits b ≤ 18
  · have h1 := nDig_lt h.1
    have h2 := nDig_lt h.2
    have h3 : (10 : Nat) ^ 18 = 1000000000000000000 := by decide
    have e0 := of_f (a + b) (by omega)
    have e1 := uadd (a := a) (b := b) (by omega)
    simp only [if_pos h, if_true, e1, e0]
    exact Ev.now _
  · simp only [if_neg h, Bool.false_eq_true, if_false]
    refine Ev.bind (cut_f a (by have := ha.out; omega)) (Ev.bind (cut_f b (by have := hb.out; omega)) ?_)
    have l1 := ha.pcs
    have l2 := hb.pcs
    have c1 : (C (pcs a)).length = (pcs a).length := C_length _
    have c2 : (C (pcs b)).length = (pcs b).length := C_length _
    simp only [Option.bind_some, List.length_append, List.length_singleton, c1, c2]
    by_cases hlt : (pcs a).length < (pcs b).length
    · have e2 := wpred1 (a := (pcs b).length) ⟨by omega⟩
      have e3 : wrap64 (((pcs b).length : Int) - ((pcs a).length : Int)) = (((pcs b).length - (pcs a).length : Nat) : Int) := by rw [w64 (by omega) (by omega)]; omega
      have key := add_core b a (by omega) l2
      rw [Nat.add_comm b a] at key
      simp only [e2, e3, Int.toNat_natCast]
      clear e2 e3
      simp (disch := omega) only [if_pos]
      exact key
    · have e2 := wpred1 (a := (pcs a).length) ⟨by omega⟩
      have e3 : wrap64 (((pcs a).length : Int) - ((pcs b).length : Int)) = (((pcs a).length - (pcs b).length : Nat) : Int) := by rw [w64 (by omega) (by omega)]; omega
      have key := add_core a b (by omega) l1
      simp only [e2, e3, Int.toNat_natCast]
      clear e2 e3
      simp (disch := omega) only [if_pos, if_neg]
      exact key
theorem sub_core (a b : Nat) (h : b ≤ a) (ha : (pcs a).length ≤ 1000000) :
    Ev (fun k => (decimal_pieces_take.f k (C (pcs a) ++ [0]) (C (pcs b) ++ List.replicate ((pcs a).length - (pcs b).length) 0) 1 0).bind fun bt545 => ((decimal_pieces_trim.f k bt545.2).bind fun t547 => ((decimal_pieces_text.f k t547).bind fun t550 => (some (t550, 0))))) (S (a - b), (0 : Int)) := by
  have hlen := pcs_len_mono h
  have e1 : C (pcs a) ++ [0] = C (pcs a ++ [0]) := by rw [C_append]; rfl
  have e2 : C (pcs b) ++ List.replicate ((pcs a).length - (pcs b).length) 0 = C (pcs b ++ List.replicate ((pcs a).length - (pcs b).length) 0) := by rw [C_append, C_zeros]
  have hW : Ok (pcs a ++ [0]) := (ok_pcs a).append (Ok.cons (by decide) Ok.nil)
  have hQ : Ok (pcs b ++ List.replicate ((pcs a).length - (pcs b).length) 0) := (ok_pcs b).append (Ok.zeros _)
  have hl : (pcs a ++ [0]).length = (pcs b ++ List.replicate ((pcs a).length - (pcs b).length) 0).length + 1 := by simp; omega
  have hb := take_f [] (pcs a ++ [0]) [] (pcs b ++ List.replicate ((pcs a).length - (pcs b).length) 0) 1 (by decide) hl hW hQ ⟨by simp; omega⟩
  obtain ⟨s1, s2, s3, s4⟩ := subrow_spec 1 (by decide) _ _ 0 0 hl hW hQ (by decide) (by decide)
  rw [val_snoc, val_append, val_zeros, val_pcs, val_pcs, Nat.mul_zero, Nat.mul_zero] at s4
  simp only [Nat.add_zero, Nat.one_mul] at s4
  have h4 : (pcs a ++ [0]).length = (pcs a).length + 1 := by simp
  have h1 := val_lt s2
  rw [s1] at h1
  have hd : (subrow 1 0 0 (pcs a ++ [0]) (pcs b ++ List.replicate ((pcs a).length - (pcs b).length) 0)).2 = 0 := by
    rcases Nat.eq_zero_or_pos (subrow 1 0 0 (pcs a ++ [0]) (pcs b ++ List.replicate ((pcs a).length - (pcs b).length) 0)).2 with h5 | h5
    · exact h5
    · have h6 : (subrow 1 0 0 (pcs a ++ [0]) (pcs b ++ List.replicate ((pcs a).length - (pcs b).length) 0)).2 = 1 := by omega
      rw [h6, Nat.mul_one] at s4
      omega
  rw [hd, Nat.mul_zero, Nat.add_zero] at s4
  have hv : val (subrow 1 0 0 (pcs a ++ [0]) (pcs b ++ List.replicate ((pcs a).length - (pcs b).length) 0)).1 = a - b := by omega
  have ht := trim_f _ s2 (by rw [s1, h4]; omega)
  rw [hv] at ht
  have hp : (pcs (a - b)).length ≤ (pcs a).length := pcs_len_mono (Nat.sub_le _ _)
  rw [e1, e2]
  simp only [List.nil_append, List.append_nil, List.length_nil] at hb
  exact Ev.bind hb (Ev.bind ht (Ev.bind (text_f _ (by omega)) (Ev.now _)))
theorem sub_lt (a b : Nat) (h : a < b) (ha : Md a) (hb : Md b) : Ev (fun k => decimal_Sub.f k (S a) (S b)) ((⟨#[]⟩ : ByteArray), (3 : Int)) := by
  have h1 := ha.out
  have h2 := hb.out
  unfold decimal_Sub.f
  rw [compareS_f a b (by omega) (by omega), cmp, if_pos h]
  exact Ev.now _
theorem sub_f (a b : Nat) (h : b ≤ a) (ha : Md a) : Ev (fun k => decimal_Sub.f k (S a) (S b)) (S (a - b), (0 : Int)) := by
  have h1 := ha.out
  have hb : Md b := ⟨Nat.le_trans (nDig_mono h) ha.out⟩
  have h2 := hb.out
  unfold decimal_Sub.f
  rw [compareS_f a b (by omega) (by omega)]
  have hc : ¬ cmp a b < 0 := by unfold cmp; rw [if_neg (by omega)]; split <;> omega
  refine Ev.bind (Ev.now (cmp a b)) (Ev.neg hc (Ev.bind (both_f a b) ?_))
  by_cases h : Lib.nDigits a ≤ 18 ∧ Lib.nDigits b ≤ 18
  · have h1 := nDig_lt h.1
    have h3 : (10 : Nat) ^ 18 = 1000000000000000000 := by decide
    have e0 := of_f (a - b) (by omega)
    have e1 : IntKind.u64.wrap ((a : Int) - (b : Int)) = ((a - b : Nat) : Int) := by rw [u64w (by omega) (by omega)]; omega
    simp only [if_pos h, if_true, e1, e0]
    exact Ev.now _
  · simp only [if_neg h, Bool.false_eq_true, if_false]
    have l1 := ha.pcs
    have l2 := hb.pcs
    have l3 := pcs_len_mono (a := b) (b := a) (by omega)
    have c1 : (C (pcs a)).length = (pcs a).length := C_length _
    have c2 : (C (pcs b)).length = (pcs b).length := C_length _
    have key := sub_core a b (by omega) l1
    have s2 : Sm ((pcs a).length + 1) := ⟨by omega⟩
    have l4 : (C (pcs a) ++ [0]).length = (pcs a).length + 1 := by rw [List.length_append, c1]; rfl
    have e4 : wrap64 (wrap64 (((C (pcs a) ++ [0]).length : Int) - 1) - ((C (pcs b)).length : Int)) = (((pcs a).length - (pcs b).length : Nat) : Int) := by
      rw [l4, c2, wpred1 s2, wsub l3 s2]
    refine Ev.bind (cut_f a (by omega)) (Ev.pos (by omega) (Ev.bind (Ev.now (C (pcs a) ++ [0])) (Ev.bind (cut_f b (by omega)) (Ev.bind (cut_f b (by omega)) ?_))))
    rw [e4, Int.toNat_natCast]
    clear e4
    exact Ev.pos (by omega) (Ev.pos (by omega) key)
theorem mul_f (a b : Nat) (ha : Md a) (hb : Md b) : Ev (fun k => decimal_Mul.f k (S a) (S b)) (S (a * b)) := by
  have h1 := ha.out
  have h2 := hb.out
  unfold decimal_Mul.f
  have e1 := wadd (a := Lib.nDigits a) (b := Lib.nDigits b) ⟨by omega⟩
  rw [S_size, S_size, e1]
  clear e1
  have p1 := Lib.nDigits_pos a
  have p2 := Lib.nDigits_pos b
  by_cases h : Lib.nDigits a + Lib.nDigits b ≤ 18
  · simp (disch := omega) only [if_pos]
    refine Ev.bind (both_f a b) ?_
    have h3 := Lib.lt_pow_nDigits (a * b)
    have h4 := nDig_mul a b
    have h5 : a * b < 10 ^ 18 := nDig_lt (by omega)
    have h6 : (10 : Nat) ^ 18 = 1000000000000000000 := by decide
    have h7 : Lib.nDigits a ≤ 18 ∧ Lib.nDigits b ≤ 18 := ⟨by omega, by omega⟩
    have e0 := of_f (a * b) (by omega)
    have e2 := umul (a := a) (b := b) (by omega)
    simp only [if_pos h7, e2, e0]
    exact Ev.now _
  · simp (disch := omega) only [if_neg]
    have l1 := ha.pcs
    have l2 := hb.pcs
    have ht := times_f (pcs a) (pcs b) (ok_pcs a) (ok_pcs b) (by omega)
    rw [val_pcs, val_pcs] at ht
    have hp := pcs_len_mul a b
    exact Ev.bind (cut_f a (by omega)) (Ev.bind (cut_f b (by omega)) (Ev.bind ht (Ev.bind (text_f _ (by omega)) (Ev.now _))))
end Go.Proofs.YtcfddphiflmnlaaDoor.P

namespace Go.Proofs.YtcfddphiflmnlaaDoor.P
open Go.RowKit Go.Proofs.YtcfddphiflmnlaaDoorW.PrintWords
set_option maxRecDepth 100000 in
theorem known_ev : Ev (fun k => schismalaw01_known.f k) true := Ev.of (k := 200) (fun k => schismalaw01_known.mono k) (by decide +kernel)
end Go.Proofs.YtcfddphiflmnlaaDoor.P

namespace Go.Proofs.YtcfddphiflmnlaaDoor.P
open Go.RowKit Go.Proofs.YtcfddphiflmnlaaDoorW.PrintWords
theorem quick_l0 (s : ByteArray) (hs : s.size < 4611686018427387904) (hD : IsD s.data.toList) (hv : dv s.data.toList < 18446744073709551616) : ∀ (Q P : List UInt8), s.data.toList = P ++ Q →
    Ev (fun k => schismaref01_quick.l0 k s (dv P : Int) (P.length : Int)) ((dv s.data.toList : Int), true)
  | [], P, h => by
    rw [List.append_nil] at h
    have h1 := size_list s
    rw [h] at h1 ⊢
    refine Ev.step (f := fun _ => some ((dv P : Int), true)) (fun k => ?_) (Ev.now _)
    simp (disch := omega) only [schismaref01_quick.l0, if_neg]
  | c :: Q, P, h => by
    have h1 := size_mid s P Q c h
    have e1 := bt_mid s P Q c h
    have e3 := wsucc (a := P.length) ⟨by omega⟩
    have hb := dv_prefix1 P Q c
    rw [← h] at hb
    have e2 := dstep' (n := dv P) (hD c (by rw [h]; simp)) (by omega)
    refine Ev.step (f := fun k => schismaref01_quick.l0 k s (dv (P ++ [c]) : Int) ((P ++ [c]).length : Int)) (fun k => ?_) (quick_l0 s hs hD hv Q (P ++ [c]) (by rw [h]; simp))
    simp only [schismaref01_quick.l0, e1, e2, e3]
    clear e1 e2 e3
    simp (disch := omega) only [if_pos]
    rw [dv_snoc, List.length_append, List.length_singleton]
theorem quick_big {s : ByteArray} (hs : 18 < s.size) : Ev (fun k => schismaref01_quick.f k s) (0, false) := by
  unfold schismaref01_quick.f
  simp (disch := omega) only [if_pos]
  exact Ev.now _
theorem quick_small {n : Nat} (h : Lib.nDigits n ≤ 18) : Ev (fun k => schismaref01_quick.f k (S n)) ((n : Int), true) := by
  unfold schismaref01_quick.f
  have h1 := S_size n
  simp (disch := omega) only [if_neg]
  have h2 := nDig_lt h
  have h3 : (10 : Nat) ^ 18 = 1000000000000000000 := by decide
  have := quick_l0 (S n) (by omega) (S_dig n) (by rw [S_dv]; omega) (S n).data.toList [] rfl
  rw [S_dv] at this
  exact this
theorem rcompare_f (a b : Nat) : schismaref01_Compare.f (S a) (S b) = some (cmp a b) := by
  unfold schismaref01_Compare.f cmp
  rw [S_size, S_size]
  by_cases h : Lib.nDigits a = Lib.nDigits b
  · rw [if_pos (by omega)]
    by_cases h1 : a = b
    · rw [if_pos (S_eq_iff.2 h1), if_neg (by omega), if_neg (by omega)]
    · rw [if_neg (fun e => h1 (S_eq_iff.1 e))]
      by_cases h2 : a < b
      · rw [if_pos ((bless_S h).2 h2), if_pos h2]
      · rw [if_neg (fun e => h2 ((bless_S h).1 e)), if_neg h2, if_pos (by omega)]
  · rw [if_neg (by omega)]
    by_cases h2 : Lib.nDigits a < Lib.nDigits b
    · rw [if_pos (by omega), if_pos (dec_lt_of_len h2)]
    · have := dec_lt_of_len (a := b) (b := a) (by omega)
      rw [if_neg (by omega), if_neg (by omega), if_pos this]
theorem rof_f (n : Nat) (h : n < 18446744073709551616) : schismaref01_Of.f (n : Int) = some (S n) := by
  unfold schismaref01_Of.f
  rw [if_pos (by omega), Int.toNat_natCast]
  rfl
end Go.Proofs.YtcfddphiflmnlaaDoor.P

namespace Go.Proofs.YtcfddphiflmnlaaDoor.P
open Go.RowKit Go.Proofs.YtcfddphiflmnlaaDoorW.PrintWords
theorem make_end (acc : List UInt8) (hD : IsD acc) (hh : acc.head? ≠ some 48) : (if ((B8 acc).length : Int) = 0 then some (⟨#[48]⟩ : ByteArray) else some (strOfNums (B8 acc))) = some (S (dv acc)) := by
  rw [B8_length]
  rcases acc with _ | ⟨c, t⟩
  · rw [List.length_nil, if_pos (by rfl), zero_str]; rfl
  · rw [if_neg (by simp; omega), strOfNums_B8]
    congr 1
    refine S_of (s := ⟨(c :: t).toArray⟩) ⟨hD, ?_⟩
    rcases t with _ | ⟨d, t⟩
    · exact Or.inl rfl
    · exact Or.inr ⟨by simp, hh⟩
theorem make_digit {x : Int} (h0 : 0 ≤ x) : ∃ c : UInt8, (48 + Int.tmod x 10) % 256 = (c.toNat : Int) ∧ 48 ≤ c.toNat ∧ c.toNat ≤ 57 ∧ (c = 48 ↔ ¬ Int.tmod x 10 > 0) := by
  obtain ⟨n, rfl⟩ : ∃ n : Nat, x = n := ⟨x.toNat, by omega⟩
  have h1 := tmodn n 10
  have h2 : Int.tmod (n : Int) 10 = ((n % 10 : Nat) : Int) := h1
  rw [h2]
  have h3 : n % 10 < 10 := Nat.mod_lt _ (by decide)
  refine ⟨UInt8.ofNat (48 + n % 10), ?_, ?_, ?_, ?_⟩
  · rw [digit_toNat h3]; omega
  · rw [digit_toNat h3]; omega
  · rw [digit_toNat h3]; omega
  · constructor
    · intro e
      have := congrArg UInt8.toNat e
      rw [digit_toNat h3] at this
      have h48 : (48 : UInt8).toNat = 48 := rfl
      omega
    · intro e
      apply UInt8.toNat_inj.1
      rw [digit_toNat h3]
      have h48 : (48 : UInt8).toNat = 48 := rfl
      omega
theorem make_l0 (l : List Int) (hl : ∀ x, x ∈ l → 0 ≤ x) (hs : l.length < 4611686018427387904) : ∀ (Q P : List Int) (acc : List UInt8), l = P ++ Q → IsD acc → acc.head? ≠ some 48 → acc.length ≤ P.length → P.length ≤ 120 →
    ∃ n, n < 10 ^ l.length ∧ n < 10 ^ 120 ∧ Ev (fun k => schismalaw01_Make.l0 k l (B8 acc) (P.length : Int)) (S n)
  | [], P, acc, h, hD, hh, hp, hP => by
    have hll : l.length = P.length := by rw [h]; simp
    have h1 := dv_lt hD
    have h2 : 10 ^ acc.length ≤ 10 ^ l.length := Nat.pow_le_pow_right (by decide) (by omega)
    have h3 : 10 ^ acc.length ≤ 10 ^ 120 := Nat.pow_le_pow_right (by decide) (by omega)
    refine ⟨dv acc, by omega, by omega, ?_⟩
    refine Ev.step (f := fun k => schismalaw01_Make.j1 k l (B8 acc) (P.length : Int) false) (fun k => ?_) (Ev.step (f := fun _ => some (S (dv acc))) (fun k => ?_) (Ev.now _))
    · clear h2 h3
      simp (disch := omega) only [schismalaw01_Make.l0, if_neg]
    · simp only [schismalaw01_Make.j1, Bool.false_eq_true, if_false]
      exact make_end acc hD hh
  | x :: Q, P, acc, h, hD, hh, hp, hP => by
    have hll : l.length = P.length + (Q.length + 1) := by rw [h]; simp
    have h1 := dv_lt hD
    by_cases h120 : P.length = 120
    · have h2 : 10 ^ acc.length ≤ 10 ^ l.length := Nat.pow_le_pow_right (by decide) (by omega)
      have h3 : 10 ^ acc.length ≤ 10 ^ 120 := Nat.pow_le_pow_right (by decide) (by omega)
      refine ⟨dv acc, by omega, by omega, ?_⟩
      refine Ev.step (f := fun k => schismalaw01_Make.j1 k l (B8 acc) (P.length : Int) false) (fun k => ?_) (Ev.step (f := fun _ => some (S (dv acc))) (fun k => ?_) (Ev.now _))
      · clear h2 h3 h1
        have e9 : decide ((P.length : Int) < 120) = false := decide_eq_false_iff_not.2 (by omega)
        simp (disch := omega) only [schismalaw01_Make.l0, if_pos, e9]
      · simp only [schismalaw01_Make.j1, Bool.false_eq_true, if_false]
        exact make_end acc hD hh
    · have hx : 0 ≤ x := hl x (by rw [h]; simp)
      obtain ⟨c, e1, e2, e3, e4⟩ := make_digit hx
      have e5 : rd l (P.length : Int) = x := by rw [h]; simp [rd, List.getD_eq_getElem?_getD]
      have e6 := wsucc (a := P.length) ⟨by omega⟩
      have e7 : (B8 acc).length = acc.length := B8_length _
      have st : ∀ k, schismalaw01_Make.l0 (k + 1) l (B8 acc) (P.length : Int) = schismalaw01_Make.j1 k l (B8 acc) (P.length : Int) true := fun k => by
        clear e1 e4 h1 e5 e6
        have e9 : decide ((P.length : Int) < 120) = true := decide_eq_true (by omega)
        simp (disch := omega) only [schismalaw01_Make.l0, if_pos, e9]
      have ha : B8 acc ++ [(c.toNat : Int)] = B8 (acc ++ [c]) := by rw [B8_append]; rfl
      clear h1
      by_cases h0 : c = 48
      · have h00 := e4.1 h0
        rcases acc with _ | ⟨d, t⟩
        · obtain ⟨n, n1, n2, n3⟩ := make_l0 l hl hs Q (P ++ [x]) [] (by rw [h]; simp) IsD.nil (by simp) (by simp) (by simp; omega)
          refine ⟨n, n1, n2, Ev.step st (Ev.step (f := fun k => schismalaw01_Make.l0 k l (B8 []) ((P.length + 1 : Nat) : Int)) (fun k => ?_) (by simpa using n3))⟩
          simp only [schismalaw01_Make.j1, e5, e6, e1, if_true, if_neg h00]
          clear n1 n2 n3 e1 e4 h00 e5 e6 st
          have e8 : (B8 []).length = 0 := rfl
          simp (disch := omega) only [if_pos, if_neg]
        · obtain ⟨n, n1, n2, n3⟩ := make_l0 l hl hs Q (P ++ [x]) (d :: t ++ [c]) (by rw [h]; simp) (hD.append (IsD.cons ⟨e2, e3⟩ IsD.nil)) (by simpa using hh) (by simp at hp ⊢; omega) (by simp; omega)
          refine ⟨n, n1, n2, Ev.step st (Ev.step (f := fun k => schismalaw01_Make.l0 k l (B8 (d :: t ++ [c])) ((P.length + 1 : Nat) : Int)) (fun k => ?_) (by simpa using n3))⟩
          simp only [schismalaw01_Make.j1, e5, e6, e1, if_true, if_neg h00, ha]
          clear n1 n2 n3 e1 e4 h00 e5 e6 st
          have e8 : (d :: t).length = t.length + 1 := rfl
          rw [e8] at e7 hp
          simp (disch := omega) only [if_pos]
      · have h00 : Int.tmod x 10 > 0 := Decidable.byContradiction fun h9 => h0 (e4.2 h9)
        have hh2 : (acc ++ [c]).head? ≠ some 48 := by
          rcases acc with _ | ⟨d, t⟩
          · simpa using h0
          · simpa using hh
        obtain ⟨n, n1, n2, n3⟩ := make_l0 l hl hs Q (P ++ [x]) (acc ++ [c]) (by rw [h]; simp) (hD.append (IsD.cons ⟨e2, e3⟩ IsD.nil)) hh2 (by simp; omega) (by simp; omega)
        refine ⟨n, n1, n2, Ev.step st (Ev.step (f := fun k => schismalaw01_Make.l0 k l (B8 (acc ++ [c])) ((P.length + 1 : Nat) : Int)) (fun k => ?_) (by simpa using n3))⟩
        simp only [schismalaw01_Make.j1, e5, e6, e1, if_true, if_pos h00, ha]
        clear n1 n2 n3 e1 e4 h00 e5 e6 st
        simp (disch := omega) only [if_pos]
theorem make_f (l : List Int) (hl : ∀ x, x ∈ l → (Lit.int .u8 x).wf = true) (hs : l.length ≤ 140737488351232) :
    ∃ n, n < 10 ^ l.length ∧ n < 10 ^ 120 ∧ Ev (fun k => schismalaw01_Make.f k l) (S n) :=
  make_l0 l (fun x hx => (wf_u8 (hl x hx)).1) (by omega) l [] [] rfl IsD.nil (by simp) (by simp) (by simp)
end Go.Proofs.YtcfddphiflmnlaaDoor.P

namespace Go.Proofs.YtcfddphiflmnlaaDoor.P
open Go.RowKit Go.Proofs.YtcfddphiflmnlaaDoorW.PrintWords
theorem bt_S (n i : Nat) (h : i < Lib.nDigits n) : bt (S n) ((Lib.nDigits n - 1 - i : Nat) : Int) = ((48 + n / 10 ^ i % 10 : Nat) : Int) := by
  rw [← rd_bytesOf, bytesOf, S_list, Lib.decDigits_eq]
  simp only [rd, Int.toNat_natCast, List.getD_eq_getElem?_getD, List.map_map]
  rw [List.getElem?_map, List.getElem?_range (by omega)]
  simp only [Option.map_some, Option.getD_some, Function.comp, Lib.dg]
  rw [show Lib.nDigits n - 1 - (Lib.nDigits n - 1 - i) = i by omega, digit_toNat (Nat.mod_lt _ (by decide))]
theorem wsub1 {a b : Nat} (h : b < a) (hs : Sm a) : wrap64 (wrap64 ((a : Int) - 1) - (b : Int)) = ((a - 1 - b : Nat) : Int) := by
  have := hs.out
  rw [w64 (n := (a : Int) - 1) (by omega) (by omega), w64 (by omega) (by omega)]
  omega
theorem digit_f (n i : Nat) (h : Md n) : schismaref01_digit.f (S n) (i : Int) = some ((n / 10 ^ i % 10 : Nat) : Int) := by
  unfold schismaref01_digit.f
  rw [S_size]
  by_cases hi : i < Lib.nDigits n
  · have s1 : Sm (Lib.nDigits n) := ⟨by have := h.out; omega⟩
    have h3 : n / 10 ^ i % 10 < 10 := Nat.mod_lt _ (by decide)
    have e3 : (((48 + n / 10 ^ i % 10 : Nat) : Int) - 48) % 256 = ((n / 10 ^ i % 10 : Nat) : Int) := by omega
    rw [if_neg (by omega)]
    have e1 := wsub1 hi s1
    rw [e1, bt_S n i hi, e3]
    clear e1 e3
    rw [if_pos (by omega), if_pos (by omega)]
  · have h1 : n < 10 ^ i := Nat.lt_of_lt_of_le (Lib.lt_pow_nDigits n) (Nat.pow_le_pow_right (by decide) (by omega))
    rw [if_pos (by omega), Nat.div_eq_of_lt h1]
    rfl
theorem rtrim_end (Z Q : List UInt8) (hQ : Can Q) : strOfNums ((B8 (Z ++ Q)).drop (Z.length : Int).toNat) = S (dv Q) := by
  have e1 : (B8 (Z ++ Q)).drop (Z.length : Int).toNat = B8 Q := by
    rw [Int.toNat_natCast, B8_append, List.drop_left' (B8_length Z)]
  rw [e1, strOfNums_B8]
  exact S_of (s := ⟨Q.toArray⟩) hQ
theorem dv_zeros (Z Q : List UInt8) (h : ∀ c, c ∈ Z → c = 48) : dv (Z ++ Q) = dv Q := by
  induction Z with
  | nil => rfl
  | cons c Z ih =>
    have hc := h c (by simp)
    subst hc
    rw [List.cons_append, dv_cons, ih (fun c hc => h c (by simp [hc]))]
    have : (48 : UInt8).toNat - 48 = 0 := rfl
    rw [this, Nat.zero_mul, Nat.zero_add]
theorem rtrim_l0 (T : List UInt8) (hT : IsD T) (hs : T.length < 4611686018427387904) : ∀ (Q Z : List UInt8), T = Z ++ Q → Q ≠ [] → (∀ c, c ∈ Z → c = 48) → Ev (fun k => schismaref01_trim.l0 k (B8 T) (Z.length : Int)) (S (dv T))
  | [], _, _, h, _ => absurd rfl h
  | [c], Z, h, _, hZ => by
    have hl : (B8 T).length = Z.length + 1 := by rw [B8_length, h]; simp
    have hl' : T.length = Z.length + 1 := by rw [h]; simp
    have s1 : Sm (Z.length + 1) := ⟨by omega⟩
    have hc : Can [c] := ⟨by rw [h] at hT; exact hT.right, Or.inl rfl⟩
    have he := rtrim_end Z [c] hc
    rw [← dv_zeros Z [c] hZ, ← h] at he
    refine Ev.step (f := fun _ => some (S (dv T))) (fun k => ?_) (Ev.now _)
    have e1 := wpred1 s1
    simp only [schismaref01_trim.l0, he, hl, e1]
    clear e1
    simp (disch := omega) only [if_pos, if_neg]
  | c :: d :: Q, Z, h, _, hZ => by
    have hl : (B8 T).length = Z.length + Q.length + 2 := by rw [B8_length, h]; simp; omega
    have hl' : T.length = Z.length + Q.length + 2 := by rw [h]; simp; omega
    have s1 : Sm (Z.length + Q.length + 1 + 1) := ⟨by omega⟩
    have s2 : Sm Z.length := ⟨by omega⟩
    have e2 : rd (B8 T) (Z.length : Int) = (c.toNat : Int) := by rw [h, rd_B8 _ _ _ _ rfl]
    have e1 := wpred1 s1
    by_cases h48 : c = 48
    · have ih := rtrim_l0 T hT hs (d :: Q) (Z ++ [c]) (by rw [h]; simp) (by simp) (fun x hx => by
        rcases List.mem_append.1 hx with h1 | h1
        · exact hZ x h1
        · rw [List.mem_singleton.1 h1, h48])
      refine Ev.step (f := fun k => schismaref01_trim.l0 k (B8 T) ((Z.length + 1 : Nat) : Int)) (fun k => ?_) (by simpa using ih)
      have h48' : (c.toNat : Int) = 48 := by rw [h48]; rfl
      have e3 := wsucc s2
      simp only [schismaref01_trim.l0, e1, e2, e3, hl, h48', if_true]
      clear e1 e2 e3
      simp (disch := omega) only [if_pos]
    · have hc : Can (c :: d :: Q) := ⟨by rw [h] at hT; exact hT.right, Or.inr ⟨by simp, by simpa using h48⟩⟩
      have he := rtrim_end Z (c :: d :: Q) hc
      rw [← dv_zeros Z _ hZ, ← h] at he
      have h48' : ¬ (c.toNat : Int) = 48 := fun e => h48 (UInt8.toNat_inj.1 (by have : (48 : UInt8).toNat = 48 := rfl; omega))
      refine Ev.step (f := fun _ => some (S (dv T))) (fun k => ?_) (Ev.now _)
      simp only [schismaref01_trim.l0, e1, e2, hl, he]
      clear e1 e2
      simp (disch := omega) only [if_pos, if_neg]
theorem rtrim_f (T : List UInt8) (hT : IsD T) (h0 : T ≠ []) (hs : T.length < 4611686018427387904) : Ev (fun k => schismaref01_trim.f k (B8 T)) (S (dv T)) :=
  rtrim_l0 T hT hs T [] rfl h0 (fun _ h => by cases h)
theorem mod_step (x i : Nat) : x % 10 ^ (i + 1) = x % 10 ^ i + 10 ^ i * (x / 10 ^ i % 10) := by
  rw [Nat.pow_succ, Nat.mod_mul]
theorem put_zero (j : Nat) (T : List UInt8) (c : UInt8) : (List.replicate (j + 1) (0 : Int) ++ B8 T).set j (c.toNat : Int) = List.replicate j 0 ++ B8 (c :: T) := by
  rw [List.replicate_succ', List.append_assoc, List.singleton_append, setI _ _ _ _ _ (by simp)]
  rfl
theorem pd {d : Nat} (h : d < 10) : ((48 + d : Nat) : Int) % 256 = ((UInt8.ofNat (48 + d)).toNat : Int) := by
  rw [digit_toNat h]; omega
theorem isD_cons {d : Nat} (h : d < 10) {T : List UInt8} (hT : IsD T) : IsD (UInt8.ofNat (48 + d) :: T) := IsD.cons (by rw [digit_toNat h]; omega) hT
theorem dv_put {d : Nat} (h : d < 10) (T : List UInt8) : dv (UInt8.ofNat (48 + d) :: T) = d * 10 ^ T.length + dv T := by
  rw [dv_cons, digit_toNat h]; congr 2; omega
theorem radd_arith {x y c : Nat} (hx : x < 10) (hy : y < 10) (hc : c ≤ 1) :
    wrap64 (48 + Int.tmod (wrap64 (wrap64 ((x : Int) + (y : Int)) + (c : Int))) 10) = ((48 + (x + y + c) % 10 : Nat) : Int) ∧ wrap64 (Int.tdiv (wrap64 (wrap64 ((x : Int) + (y : Int)) + (c : Int))) 10) = (((x + y + c) / 10 : Nat) : Int) := by
  rw [wadd (a := x) (b := y) ⟨by omega⟩, wadd (a := x + y) (b := c) ⟨by omega⟩]
  have h1 : Int.tmod ((x + y + c : Nat) : Int) 10 = (((x + y + c) % 10 : Nat) : Int) := tmodn _ 10
  have h2 : Int.tdiv ((x + y + c : Nat) : Int) 10 = (((x + y + c) / 10 : Nat) : Int) := tdivn _ 10
  rw [h1, h2]
  exact ⟨by rw [w64 (by omega) (by omega)]; omega, wnat ⟨by omega⟩⟩
theorem radd_l0 (a b : Nat) (ha : Md a) (hb : Md b) (m : Nat) (hm : m ≤ 2000000) (h0 : 0 < m) (hab : a + b < 10 ^ m) : ∀ (j i : Nat) (T : List UInt8) (c : Nat), i + j = m → T.length = i → IsD T → c ≤ 1 → dv T + 10 ^ i * c = a % 10 ^ i + b % 10 ^ i →
    Ev (fun k => schismaref01_Add.l0 k (S a) (S b) (m : Int) (List.replicate j 0 ++ B8 T) (c : Int) (i : Int)) (S (a + b))
  | 0, i, T, c, hi, hl, hT, hc, hv => by
    have hi' : i = m := by omega
    subst hi'
    have h1 := dv_lt hT
    rw [hl] at h1
    rw [Nat.mod_eq_of_lt (show a < 10 ^ i by omega), Nat.mod_eq_of_lt (show b < 10 ^ i by omega)] at hv
    have hc0 : c = 0 := by
      rcases Nat.eq_zero_or_pos c with h2 | h2
      · exact h2
      · have h3 : c = 1 := by omega
        subst h3
        omega
    subst hc0
    have ht := rtrim_f T hT (by intro e; rw [e] at hl; simp at hl; omega) (by omega)
    rw [show dv T = a + b by omega] at ht
    refine Ev.step (f := fun k => (schismaref01_trim.f k (B8 T)).bind fun t => some t) (fun k => ?_) (Ev.bind ht (Ev.now _))
    simp (disch := omega) only [schismaref01_Add.l0, if_neg, List.replicate_zero, List.nil_append]
  | j + 1, i, T, c, hi, hl, hT, hc, hv => by
    have hx : a / 10 ^ i % 10 < 10 := Nat.mod_lt _ (by decide)
    have hy : b / 10 ^ i % 10 < 10 := Nat.mod_lt _ (by decide)
    have s1 : Sm m := ⟨by omega⟩
    have s2 : Sm i := ⟨by omega⟩
    have hmi : i < m := by omega
    have hj : m - 1 - i = j := by omega
    have d1 := digit_f a i ha
    have d2 := digit_f b i hb
    have hv2 : dv (UInt8.ofNat (48 + (a / 10 ^ i % 10 + b / 10 ^ i % 10 + c) % 10) :: T) + 10 ^ (i + 1) * ((a / 10 ^ i % 10 + b / 10 ^ i % 10 + c) / 10) = a % 10 ^ (i + 1) + b % 10 ^ (i + 1) := by
      rw [dv_put (Nat.mod_lt _ (by decide)), hl, mod_step, mod_step, Nat.pow_succ]
      generalize a / 10 ^ i % 10 = x at *
      generalize b / 10 ^ i % 10 = y at *
      generalize 10 ^ i = p at *
      have h5 := Nat.div_add_mod (x + y + c) 10
      generalize (x + y + c) % 10 = r at *
      generalize (x + y + c) / 10 = q at *
      have h6 : p * (10 * q + r) = p * (x + y + c) := by rw [h5]
      rw [Nat.mul_add, Nat.mul_add, Nat.mul_add, ← Nat.mul_assoc] at h6
      rw [Nat.mul_comm r p]
      omega
    have hc2 : (a / 10 ^ i % 10 + b / 10 ^ i % 10 + c) / 10 ≤ 1 := by omega
    have hr : (a / 10 ^ i % 10 + b / 10 ^ i % 10 + c) % 10 < 10 := Nat.mod_lt _ (by decide)
    have ih := radd_l0 a b ha hb m hm h0 hab j (i + 1) (UInt8.ofNat (48 + (a / 10 ^ i % 10 + b / 10 ^ i % 10 + c) % 10) :: T) _ (by omega) (by simp [hl]) (isD_cons hr hT) hc2 hv2
    have hll : (List.replicate (j + 1) (0 : Int) ++ B8 T).length = m := by rw [List.length_append, List.length_replicate, B8_length]; omega
    obtain ⟨e1, e2⟩ := radd_arith hx hy hc
    have e3 := wsub1 hmi s1
    have e4 := wsucc s2
    have e5 := pd hr
    have e6 := put_zero j T (UInt8.ofNat (48 + (a / 10 ^ i % 10 + b / 10 ^ i % 10 + c) % 10))
    rw [hj] at e3
    refine Ev.step (fun k => ?_) ih
    simp only [schismaref01_Add.l0, d1, d2, Option.bind_some, e1, e2, e3, e4, e5, Int.toNat_natCast, e6, hll]
    clear e1 e2 e3 e4 e5 e6 d1 d2 hv hv2 hab
    simp (disch := omega) only [if_pos]
theorem quick_f (n : Nat) : Ev (fun k => schismaref01_quick.f k (S n)) (if Lib.nDigits n ≤ 18 then ((n : Int), true) else (0, false)) := by
  by_cases h : Lib.nDigits n ≤ 18
  · rw [if_pos h]; exact quick_small h
  · rw [if_neg h]; exact quick_big (by rw [S_size]; omega)
theorem radd_long (a b : Nat) (ha : Md a) (hb : Md b) (x y : Int) : Ev (fun k => schismaref01_Add.j0 k (S a) (S b) x y false) (S (a + b)) := by
  have h1 := ha.out
  have h2 := hb.out
  obtain ⟨m, hm⟩ : ∃ m, m = (if Lib.nDigits a < Lib.nDigits b then Lib.nDigits b else Lib.nDigits a) := ⟨_, rfl⟩
  have hm1 : Lib.nDigits a ≤ m ∧ Lib.nDigits b ≤ m ∧ m ≤ 1000000 := by rw [hm]; split <;> omega
  have e1 : mx ((S a).size : Int) ((S b).size : Int) = (m : Int) := by
    rw [S_size, S_size, hm]
    unfold mx
    by_cases h : Lib.nDigits a < Lib.nDigits b
    · rw [if_pos h, if_pos (by omega)]
    · rw [if_neg h, if_neg (by omega)]
  have hab : a + b < 10 ^ (m + 1) := by
    have h3 := nDig_lt hm1.1
    have h4 := nDig_lt hm1.2.1
    rw [Nat.pow_succ]
    omega
  have key := radd_l0 a b ha hb (m + 1) (by omega) (by omega) hab (m + 1) 0 [] 0 (by omega) rfl IsD.nil (by omega) (by rw [Nat.pow_zero, Nat.mod_one, Nat.mod_one]; rfl)
  have s1 : Sm m := ⟨by omega⟩
  have e2 := wsucc s1
  refine Ev.step (fun k => ?_) key
  simp only [schismaref01_Add.j0, Bool.false_eq_true, if_false, e1, e2, Int.toNat_natCast]
  clear e1 e2 hab
  simp (disch := omega) only [if_pos]
  rw [show B8 [] = [] from rfl, List.append_nil]
  rfl
theorem radd_f (a b : Nat) (ha : Md a) (hb : Md b) : Ev (fun k => schismaref01_Add.f k (S a) (S b)) (S (a + b)) := by
  unfold schismaref01_Add.f
  refine Ev.bind (quick_f a) (Ev.bind (quick_f b) ?_)
  by_cases h1 : Lib.nDigits a ≤ 18
  · rw [if_pos h1]
    refine Ev.pos rfl ?_
    by_cases h2 : Lib.nDigits b ≤ 18
    · rw [if_pos h2]
      have k1 := nDig_lt h1
      have k2 := nDig_lt h2
      have k3 : (10 : Nat) ^ 18 = 1000000000000000000 := by decide
      have e0 := rof_f (a + b) (by omega)
      have e1 := uadd (a := a) (b := b) (by omega)
      refine Ev.step (f := fun _ => some (S (a + b))) (fun k => ?_) (Ev.now _)
      simp only [schismaref01_Add.j0, if_true, e1, e0, Option.bind_some]
    · rw [if_neg h2]
      exact radd_long a b ha hb _ _
  · rw [if_neg h1]
    exact Ev.neg (by decide) (radd_long a b ha hb _ _)
theorem rminus_lo {x y c : Nat} (hx : x < 10) (hy : y < 10) (hc : c ≤ 1) (h : x < y + c) : wrap64 (wrap64 ((x : Int) - (y : Int)) - (c : Int)) < 0 ∧ wrap64 (48 + wrap64 (wrap64 (wrap64 ((x : Int) - (y : Int)) - (c : Int)) + 10)) = ((48 + (x + 10 - y - c) : Nat) : Int) := by
  rw [w64 (n := (x : Int) - y) (by omega) (by omega), w64 (n := (x : Int) - y - c) (by omega) (by omega), w64 (n := (x : Int) - y - c + 10) (by omega) (by omega), w64 (by omega) (by omega)]
  omega
theorem rminus_hi {x y c : Nat} (hx : x < 10) (hy : y < 10) (hc : c ≤ 1) (h : ¬ x < y + c) : ¬ wrap64 (wrap64 ((x : Int) - (y : Int)) - (c : Int)) < 0 ∧ wrap64 (48 + wrap64 (wrap64 ((x : Int) - (y : Int)) - (c : Int))) = ((48 + (x - y - c) : Nat) : Int) := by
  rw [w64 (n := (x : Int) - y) (by omega) (by omega), w64 (n := (x : Int) - y - c) (by omega) (by omega), w64 (by omega) (by omega)]
  omega
theorem rminus_l0 (a b : Nat) (ha : Md a) (hba : b ≤ a) (m : Nat) (hm : m = Lib.nDigits a) : ∀ (j i : Nat) (T : List UInt8) (c : Nat), i + j = m → T.length = i → IsD T → c ≤ 1 → dv T + b % 10 ^ i = a % 10 ^ i + 10 ^ i * c →
    Ev (fun k => schismaref01_Minus.l0 k (S a) (S b) (m : Int) (List.replicate j 0 ++ B8 T) (c : Int) (i : Int)) (S (a - b))
  | 0, i, T, c, hi, hl, hT, hc, hv => by
    have hi' : i = m := by omega
    have hp := Lib.nDigits_pos a
    have hM := ha.out
    have h1 := dv_lt hT
    have h2 := Lib.lt_pow_nDigits a
    rw [← hm, ← hi'] at h2
    rw [hl] at h1
    rw [Nat.mod_eq_of_lt (show a < 10 ^ i by omega), Nat.mod_eq_of_lt (show b < 10 ^ i by omega)] at hv
    have hc0 : c = 0 := by
      rcases Nat.eq_zero_or_pos c with h2 | h2
      · exact h2
      · have h3 : c = 1 := by omega
        subst h3
        omega
    subst hc0
    have ht := rtrim_f T hT (by intro e; rw [e, List.length_nil] at hl; omega) (by omega)
    rw [show dv T = a - b by omega] at ht
    refine Ev.step (f := fun k => (schismaref01_trim.f k (B8 T)).bind fun t => some t) (fun k => ?_) (Ev.bind ht (Ev.now _))
    clear hv h1 h2
    simp (disch := omega) only [schismaref01_Minus.l0, if_neg, List.replicate_zero, List.nil_append]
  | j + 1, i, T, c, hi, hl, hT, hc, hv => by
    have hb : Md b := ⟨Nat.le_trans (nDig_mono hba) ha.out⟩
    have hM := ha.out
    have hx : a / 10 ^ i % 10 < 10 := Nat.mod_lt _ (by decide)
    have hy : b / 10 ^ i % 10 < 10 := Nat.mod_lt _ (by decide)
    have s1 : Sm m := ⟨by omega⟩
    have s2 : Sm i := ⟨by omega⟩
    have hmi : i < m := by omega
    have hj : m - 1 - i = j := by omega
    have d1 := digit_f a i ha
    have d2 := digit_f b i hb
    have hll : (List.replicate (j + 1) (0 : Int) ++ B8 T).length = m := by rw [List.length_append, List.length_replicate, B8_length]; omega
    have step : ∀ (r c2 : Nat), r < 10 → r + b / 10 ^ i % 10 + c = a / 10 ^ i % 10 + 10 * c2 → dv (UInt8.ofNat (48 + r) :: T) + b % 10 ^ (i + 1) = a % 10 ^ (i + 1) + 10 ^ (i + 1) * c2 := fun r c2 hr hrc => by
      rw [dv_put hr, hl, mod_step, mod_step, Nat.pow_succ]
      generalize a / 10 ^ i % 10 = x at *
      generalize b / 10 ^ i % 10 = y at *
      generalize 10 ^ i = p at *
      have h6 : p * (r + y + c) = p * (x + 10 * c2) := by rw [hrc]
      rw [Nat.mul_add, Nat.mul_add, Nat.mul_add, ← Nat.mul_assoc] at h6
      rw [Nat.mul_comm r p]
      omega
    by_cases h : a / 10 ^ i % 10 < b / 10 ^ i % 10 + c
    · have hr : a / 10 ^ i % 10 + 10 - b / 10 ^ i % 10 - c < 10 := by omega
      have ih := rminus_l0 a b ha hba m hm j (i + 1) (UInt8.ofNat (48 + (a / 10 ^ i % 10 + 10 - b / 10 ^ i % 10 - c)) :: T) 1 (by omega) (by simp [hl]) (isD_cons hr hT) (by omega) (step _ _ hr (by omega))
      have e5 := pd hr
      obtain ⟨e1, e2⟩ := rminus_lo hx hy hc h
      have e3 := wsub1 hmi s1
      have e4 := wsucc s2
      have e6 := put_zero j T (UInt8.ofNat (48 + (a / 10 ^ i % 10 + 10 - b / 10 ^ i % 10 - c)))
      rw [hj] at e3
      refine Ev.step (fun k => ?_) ih
      simp only [schismaref01_Minus.l0, d1, d2, Option.bind_some, if_pos e1, e2, e3, e4, e5, Int.toNat_natCast, e6, hll]
      clear e1 e2 e3 e4 e5 e6 d1 d2 hv step h hx hy hr ih
      simp (disch := omega) only [if_pos]
      rfl
    · have hr : a / 10 ^ i % 10 - b / 10 ^ i % 10 - c < 10 := by omega
      have ih := rminus_l0 a b ha hba m hm j (i + 1) (UInt8.ofNat (48 + (a / 10 ^ i % 10 - b / 10 ^ i % 10 - c)) :: T) 0 (by omega) (by simp [hl]) (isD_cons hr hT) (by omega) (step _ _ hr (by omega))
      have e5 := pd hr
      obtain ⟨e1, e2⟩ := rminus_hi hx hy hc h
      have e3 := wsub1 hmi s1
      have e4 := wsucc s2
      have e6 := put_zero j T (UInt8.ofNat (48 + (a / 10 ^ i % 10 - b / 10 ^ i % 10 - c)))
      rw [hj] at e3
      refine Ev.step (fun k => ?_) ih
      simp only [schismaref01_Minus.l0, d1, d2, Option.bind_some, if_neg e1, e2, e3, e4, e5, Int.toNat_natCast, e6, hll]
      clear e1 e2 e3 e4 e5 e6 d1 d2 hv step h hx hy hr ih
      simp (disch := omega) only [if_pos]
      rfl
theorem rminus_long (a b : Nat) (ha : Md a) (hba : b ≤ a) (x y : Int) : Ev (fun k => schismaref01_Minus.j0 k (S a) (S b) x y false) (S (a - b)) := by
  have h1 := ha.out
  have key := rminus_l0 a b ha hba _ rfl (Lib.nDigits a) 0 [] 0 (by omega) rfl IsD.nil (by omega) (by rw [Nat.pow_zero, Nat.mod_one, Nat.mod_one]; rfl)
  refine Ev.step (fun k => ?_) key
  simp only [schismaref01_Minus.j0, Bool.false_eq_true, if_false, S_size, Int.toNat_natCast]
  simp (disch := omega) only [if_pos]
  rw [show B8 [] = [] from rfl, List.append_nil]
  rfl
theorem rminus_f (a b : Nat) (ha : Md a) (hba : b ≤ a) : Ev (fun k => schismaref01_Minus.f k (S a) (S b)) (S (a - b)) := by
  unfold schismaref01_Minus.f
  refine Ev.bind (quick_f a) (Ev.bind (quick_f b) ?_)
  by_cases h1 : Lib.nDigits a ≤ 18
  · rw [if_pos h1]
    refine Ev.pos rfl ?_
    have h2 : Lib.nDigits b ≤ 18 := Nat.le_trans (nDig_mono hba) h1
    rw [if_pos h2]
    have k1 := nDig_lt h1
    have k2 := nDig_lt h2
    have k3 : (10 : Nat) ^ 18 = 1000000000000000000 := by decide
    have e0 := rof_f (a - b) (by omega)
    have e1 : IntKind.u64.wrap ((a : Int) - (b : Int)) = ((a - b : Nat) : Int) := by rw [u64w (by omega) (by omega)]; omega
    refine Ev.step (f := fun _ => some (S (a - b))) (fun k => ?_) (Ev.now _)
    simp only [schismaref01_Minus.j0, if_true, e1, e0, Option.bind_some]
  · rw [if_neg h1]
    exact Ev.neg (by decide) (rminus_long a b ha hba _ _)
end Go.Proofs.YtcfddphiflmnlaaDoor.P

namespace Go.Proofs.YtcfddphiflmnlaaDoor.P
open Go.RowKit Go.Proofs.YtcfddphiflmnlaaDoorW.PrintWords
theorem limbs_l1 (s : ByteArray) (acc : List Nat) (hacc : acc.length < 17592186044416) (e : Nat) (hs : s.size < 17592186044416) (A R : List UInt8) : ∀ (Q P : List UInt8) (r : List Int), s.data.toList = A ++ P ++ Q ++ R → e = A.length + P.length + Q.length → IsD (P ++ Q) → (P ++ Q).length ≤ 18 →
    Ev (fun k => schismaref01_limbs.l0 k s (C (acc ++ [dv (P ++ Q)])) (wrap64 ((e : Int) - 9))) r → Ev (fun k => schismaref01_limbs.l1 k s (C acc) (e : Int) (dv P : Int) ((A.length + P.length : Nat) : Int)) r
  | [], P, r, hd, he, _, _, h => by
    rw [List.append_nil] at h
    rw [List.length_nil, Nat.add_zero] at he
    have hl2 : (C acc).length = acc.length := C_length _
    refine Ev.step (fun k => ?_) h
    simp (disch := omega) only [schismaref01_limbs.l1, if_neg, if_pos]
    rw [C_append]
    rfl
  | c :: Q, P, r, hd, he, hD, hl, h => by
    have e0 : P ++ c :: Q = (P ++ [c]) ++ Q := by simp
    have hd1 : s.data.toList = (A ++ P) ++ c :: (Q ++ R) := by rw [hd]; simp
    have hsz := size_mid s (A ++ P) (Q ++ R) c hd1
    have hAP : (A ++ P).length = A.length + P.length := List.length_append
    rw [List.length_cons] at he
    have ih := limbs_l1 s acc hacc e hs A R Q (P ++ [c]) r (by rw [hd]; simp) (by rw [List.length_append, List.length_singleton]; omega) (by rw [← e0]; exact hD) (by rw [← e0]; exact hl) (by rw [← e0]; exact h)
    have s1 : Sm (A.length + P.length) := ⟨by omega⟩
    have hb := dv_bound c hD (by omega)
    have e1 := bt_mid s (A ++ P) (Q ++ R) c hd1
    rw [hAP] at e1 hsz
    have e2 := dstep' (hD c (by simp)) hb
    have e3 := wsucc s1
    refine Ev.step (fun k => ?_) ih
    simp only [schismaref01_limbs.l1, e1, e2, e3]
    clear e1 e2 e3 hb
    simp (disch := omega) only [if_pos]
    rw [dv_snoc, List.length_append, List.length_singleton, Nat.add_assoc]
theorem limbs_l0 (s : ByteArray) (hD : IsD s.data.toList) (hs : s.size < 17592186044416) : ∀ (m e : Nat) (acc : List Nat) (x : Int), e ≤ m → e ≤ s.size → (x = (e : Int) ∨ e = 0 ∧ x ≤ 0) → acc.length + e < 17592186044416 →
    ∃ L, Ok L ∧ val L = dv (s.data.toList.take e) ∧ L.length ≤ e ∧ Ev (fun k => schismaref01_limbs.l0 k s (C acc) x) (C (acc ++ L))
  | 0, e, acc, x, hm, _, hx, hl => by
    obtain rfl : e = 0 := by omega
    refine ⟨[], Ok.nil, by rw [List.take_zero]; rfl, Nat.le_refl _, Ev.step (f := fun _ => some (C (acc ++ []))) (fun k => ?_) (Ev.now _)⟩
    rw [List.append_nil]
    simp (disch := omega) only [schismaref01_limbs.l0, if_neg]
  | m + 1, e, acc, x, hm, hes, hx, hl => by
    rcases Nat.eq_zero_or_pos e with h0 | h0
    · obtain ⟨L, h1, h2, h3, h4⟩ := limbs_l0 s hD hs 0 e acc x (by omega) hes hx hl
      exact ⟨L, h1, h2, h3, h4⟩
    · obtain rfl : x = (e : Int) := by omega
      obtain ⟨st, hst⟩ : ∃ st, st = e - 9 := ⟨_, rfl⟩
      rw [size_list] at hes
      obtain ⟨h1, h2⟩ := chunk hes hst
      have hDs : IsD ((s.data.toList.take e).drop st) := (hD.take e).drop st
      have hdl := dv_lt hDs
      have hpow : 10 ^ ((s.data.toList.take e).drop st).length ≤ 10 ^ 9 := Nat.pow_le_pow_right (by decide) (by omega)
      have h9 : (10 : Nat) ^ 9 = 1000000000 := by decide
      obtain ⟨L, l1, l2, l3, l4⟩ := limbs_l0 s hD hs m st (acc ++ [dv ((s.data.toList.take e).drop st)]) ((e : Int) - 9) (by omega) (by rw [size_list]; omega) (by omega) (by rw [List.length_append, List.length_singleton]; omega)
      have hcat : s.data.toList = s.data.toList.take st ++ [] ++ (s.data.toList.take e).drop st ++ s.data.toList.drop e := by
        rw [List.append_nil]
        have h5 : s.data.toList.take st = (s.data.toList.take e).take st := by rw [List.take_take, Nat.min_eq_left (by omega)]
        rw [h5, List.take_append_drop, List.take_append_drop]
      have hlen : (s.data.toList.take st).length = st := by rw [List.length_take]; omega
      have hw : wrap64 ((e : Int) - 9) = (e : Int) - 9 := w64 (by omega) (by omega)
      have hmx : mx ((e : Int) - 9) 0 = (st : Int) := by clear hw; unfold mx; split <;> omega
      have key := limbs_l1 s acc (by omega) e hs (s.data.toList.take st) (s.data.toList.drop e) ((s.data.toList.take e).drop st) [] _ hcat (by rw [hlen, h2, List.length_nil]; clear hw hmx; omega) hDs (by rw [List.nil_append, h2]; clear hw hmx; omega) (by rw [List.nil_append, hw]; exact l4)
      refine ⟨dv ((s.data.toList.take e).drop st) :: L, Ok.cons (by clear hw hmx; omega) l1, by rw [h1, ← l2]; rfl, by rw [List.length_cons]; clear hw hmx; omega, ?_⟩
      rw [List.append_assoc] at key
      refine Ev.step (fun k => ?_) key
      rw [hlen]
      simp only [schismaref01_limbs.l0, hw, hmx]
      clear hw hmx hpow hdl l4
      simp (disch := omega) only [if_pos]
      rfl
theorem limbs_f (n : Nat) (h : Md n) : ∃ L, Ok L ∧ val L = n ∧ L.length ≤ 1000000 ∧ Ev (fun k => schismaref01_limbs.f k (S n)) (C L) := by
  have hM := h.out
  have hsz := S_size n
  obtain ⟨L, l1, l2, l3, l4⟩ := limbs_l0 (S n) (S_dig n) (by omega) (S n).size (S n).size [] ((S n).size : Int) (Nat.le_refl _) (Nat.le_refl _) (Or.inl rfl) (by rw [List.length_nil]; omega)
  rw [size_list, List.take_length, S_dv] at l2
  exact ⟨L, l1, l2, by omega, l4⟩
theorem join_idx {len k i r : Nat} (h : len = r + 1 + 9 * k + i) (hs : Sm len) : wrap64 (wrap64 (wrap64 ((len : Int) - 1) - wrap64 (9 * (k : Int))) - (i : Int)) = (r : Int) := by
  have := hs.out
  rw [w64 (n := (len : Int) - 1) (by omega) (by omega), w64 (n := 9 * (k : Int)) (by omega) (by omega), w64 (n := (len : Int) - 1 - 9 * (k : Int)) (by omega) (by omega), w64 (by omega) (by omega)]
  omega
theorem put_zero1 (j : Nat) (T : List UInt8) (c : UInt8) : (48 :: List.replicate (j + 1) (0 : Int) ++ B8 T).set (j + 1) (c.toNat : Int) = 48 :: List.replicate j 0 ++ B8 (c :: T) := by
  rw [List.cons_append, List.set_cons_succ, put_zero]
  rfl
theorem join_l1 (x0 : List Int) (k0 j0 : Nat) (r : ByteArray) : ∀ (c i n : Nat) (T : List UInt8), i + c = 9 → T.length = 9 * k0 + i → n < 10 ^ c → IsD T → Sm (j0 + 9 * k0 + 20) →
    (∀ T', T'.length = 9 * k0 + 9 → IsD T' → dv T' = dv T + 10 ^ T.length * n → Ev (fun k => schismaref01_join.l0 k x0 (48 :: List.replicate j0 0 ++ B8 T') ((k0 + 1 : Nat) : Int)) r) →
    Ev (fun k => schismaref01_join.l1 k x0 (48 :: List.replicate (j0 + c) 0 ++ B8 T) (k0 : Int) (n : Int) (i : Int)) r
  | 0, i, n, T, hi, hl, hn, hT, hs, h => by
    have hn0 : n = 0 := by simpa using hn
    have s1 : Sm k0 := hs.le (by omega)
    have key := h T (by omega) hT (by rw [hn0, Nat.mul_zero, Nat.add_zero])
    refine Ev.step (fun k => ?_) key
    have e1 := wsucc s1
    simp only [schismaref01_join.l1, e1, Nat.add_zero]
    clear e1
    simp (disch := omega) only [if_neg]
  | c + 1, i, n, T, hi, hl, hn, hT, hs, h => by
    have h9 : 10 ^ (c + 1) ≤ 10 ^ 9 := Nat.pow_le_pow_right (by decide) (by omega)
    have h99 : (10 : Nat) ^ 9 = 1000000000 := by decide
    have hn' : n / 10 < 10 ^ c := by rw [Nat.pow_succ] at hn; omega
    have hr : n % 10 < 10 := Nat.mod_lt _ (by decide)
    have ih := join_l1 x0 k0 j0 r c (i + 1) (n / 10) (UInt8.ofNat (48 + n % 10) :: T) (by omega) (by rw [List.length_cons]; omega) hn' (isD_cons hr hT) hs (fun T' t1 t2 t3 => h T' t1 t2 (by
      rw [t3, dv_put hr, List.length_cons, Nat.pow_succ]
      generalize 10 ^ T.length = p
      have h5 := Nat.div_add_mod n 10
      generalize n % 10 = a at *
      generalize n / 10 = b at *
      rw [← h5, Nat.mul_add, ← Nat.mul_assoc, Nat.mul_comm a p]
      omega))
    have s2 : Sm i := ⟨by omega⟩
    have s3 : n < 1000000000000000000 := by omega
    have hlen : (48 :: List.replicate (j0 + (c + 1)) (0 : Int) ++ B8 T).length = (j0 + c + 1) + 1 + 9 * k0 + i := by
      rw [List.length_append, List.length_cons, List.length_replicate, B8_length]; omega
    have s4 : Sm (48 :: List.replicate (j0 + (c + 1)) (0 : Int) ++ B8 T).length := hs.le (by omega)
    obtain ⟨e1, e2⟩ := tdig n s3
    have e3 := wsucc s2
    have e4 := join_idx hlen s4
    have e5 := put_zero1 (j0 + c) T (UInt8.ofNat (48 + n % 10))
    refine Ev.step (fun k => ?_) ih
    simp only [schismaref01_join.l1, e1, e2, e3, e4, Int.toNat_natCast]
    rw [show j0 + (c + 1) = j0 + c + 1 from rfl] at hlen ⊢
    rw [e5]
    clear e1 e2 e3 e4 e5 ih s4 h
    simp (disch := omega) only [if_pos]
theorem pow9 (k : Nat) : (10 : Nat) ^ (9 * k) = 1000000000 ^ k := by rw [Nat.pow_mul]
theorem join_l0 (L : List Nat) (hL : Ok L) (hs : Sm (9 * L.length + 30)) : ∀ (P2 P1 : List Nat) (T : List UInt8), L = P1 ++ P2 → T.length = 9 * P1.length → IsD T → dv T = val P1 →
    Ev (fun k => schismaref01_join.l0 k (C L) (48 :: List.replicate (9 * P2.length) 0 ++ B8 T) (P1.length : Int)) (S (val L))
  | [], P1, T, h, hl, hT, hv => by
    rw [List.append_nil] at h
    have e0 : 48 :: List.replicate (9 * ([] : List Nat).length) (0 : Int) ++ B8 T = B8 (48 :: T) := rfl
    have hz := dv_zeros [48] T (fun c hc => List.mem_singleton.1 hc)
    rw [List.singleton_append] at hz
    have h1 := hs.out
    have hll : L.length = P1.length := by rw [h]
    have ht := rtrim_f (48 :: T) (IsD.cons (by decide) hT) (by simp) (by rw [List.length_cons]; omega)
    rw [hz, hv, ← h] at ht
    have hC : (C L).length = L.length := C_length _
    rw [e0]
    refine Ev.step (f := fun k => (schismaref01_trim.f k (B8 (48 :: T))).bind fun t => some t) (fun k => ?_) (Ev.bind ht (Ev.now _))
    simp (disch := omega) only [schismaref01_join.l0, if_neg]
  | n :: P2, P1, T, h, hl, hT, hv => by
    have h1 := hs.out
    have hll : L.length = P1.length + (P2.length + 1) := by rw [h]; simp
    have hC : (C L).length = L.length := C_length _
    have hn : n < 1000000000 := by rw [h] at hL; exact hL.right.head
    have e1 : rd (C L) (P1.length : Int) = n := by rw [h, rd_at _ _ _ _ rfl]
    have key := join_l1 (C L) P1.length (9 * P2.length) (S (val L)) 9 0 n T (by omega) (by omega) hn hT (hs.le (by omega)) (fun T' t1 t2 t3 => by
      have := join_l0 L hL hs P2 (P1 ++ [n]) T' (by rw [h]; simp) (by rw [t1, List.length_append, List.length_singleton]; omega) t2 (by rw [t3, hv, val_snoc, hl, pow9])
      rw [List.length_append, List.length_singleton] at this
      exact this)
    refine Ev.step (fun k => ?_) key
    simp only [schismaref01_join.l0, e1]
    clear e1 key
    rw [List.length_cons, Nat.mul_add]
    simp (disch := omega) only [if_pos]
    rfl
theorem join_f (L : List Nat) (hL : Ok L) (hs : L.length ≤ 4000000) : Ev (fun k => schismaref01_join.f k (C L)) (S (val L)) := by
  have key := join_l0 L hL ⟨by omega⟩ L [] [] rfl rfl IsD.nil rfl
  have hC : (C L).length = L.length := C_length _
  have e1 : wrap64 (wrap64 (9 * ((C L).length : Int)) + 1) = ((9 * L.length + 1 : Nat) : Int) := by
    rw [hC, w64 (n := 9 * (L.length : Int)) (by omega) (by omega), w64 (by omega) (by omega)]; omega
  have e2 : (List.replicate (9 * L.length + 1) (0 : Int)).set (0 : Int).toNat 48 = 48 :: List.replicate (9 * L.length) 0 ++ B8 [] := by
    rw [List.replicate_succ]; simp [B8]
  have e3 : (List.replicate (9 * L.length + 1) (0 : Int)).length = 9 * L.length + 1 := List.length_replicate
  unfold schismaref01_join.f
  simp only [e1, Int.toNat_natCast, Option.bind_some, e3]
  rw [e2]
  clear e1 e2
  simp (disch := omega) only [if_pos]
  exact key
theorem mrow_arith' {a w b c : Nat} (ha : a < 1000000000) (hw : w < 1000000000) (hb : b < 1000000000) (hc : c < 1000000000) :
    IntKind.u64.wrap (IntKind.u64.wrap ((w : Int) + IntKind.u64.wrap ((a : Int) * (b : Int))) + (c : Int)) = ((c + (w + a * b) : Nat) : Int) := by
  rw [Int.add_comm]
  exact (mrow_arith ha hw hb hc).1
theorem rmul_in (k : Nat) (P1 P2 Q1 Q2 L R : List Nat) (w b i a c : Nat) (hP : P1.length = i) (hL : L.length = i + Q1.length) (ha : a < 1000000000) (hw : w < 1000000000) (hb : b < 1000000000) (hc : c < 1000000000) (hs : Sm (i + Q1.length)) (hs1 : Sm Q1.length) :
    schismaref01_Mul.l1 (k + 1) (C (P1 ++ a :: P2)) (C (Q1 ++ b :: Q2)) (C (L ++ w :: R)) (i : Int) (c : Int) (Q1.length : Int) =
      schismaref01_Mul.l1 k (C (P1 ++ a :: P2)) (C (Q1 ++ b :: Q2)) (C (L ++ ((c + (w + a * b)) % 1000000000) :: R)) (i : Int) (((c + (w + a * b)) / 1000000000 : Nat) : Int) ((Q1.length + 1 : Nat) : Int) := by
  have hl1 : (C (Q1 ++ b :: Q2)).length = Q1.length + (Q2.length + 1) := by rw [C_length]; simp
  have hl2 : (C (P1 ++ a :: P2)).length = i + (P2.length + 1) := by rw [C_length]; simp [hP]
  have hl0 : (C (L ++ w :: R)).length = i + Q1.length + (R.length + 1) := by rw [C_length]; simp [hL]
  obtain ⟨_, e4, _⟩ := mrow_arith ha hw hb hc
  have e3 := mrow_arith' ha hw hb hc
  have e1 := wadd hs
  have e2 := rd_at L R w (i + Q1.length) hL
  have e7 := rd_at Q1 Q2 b Q1.length rfl
  have e8 := rd_at P1 P2 a i hP
  have e5 := wsucc hs1
  have e6 := set_at L R w ((c + (w + a * b)) % 1000000000) _ hL
  simp only [schismaref01_Mul.l1, e1, e2, e7, e8, e3, tdiv9, tmod9, e4, e5, e6]
  clear e1 e2 e3 e4 e5 e6 e7 e8 ha hw hb hc hs hs1
  generalize (c + (w + a * b)) / 1000000000 = e'
  generalize (c + (w + a * b)) % 1000000000 = e
  simp (disch := omega) only [if_pos]
theorem rmul_out (k : Nat) (P Q L R : List Nat) (i c : Nat) (hL : L.length = i + Q.length) (hc : c < 1000000000) (hs : Sm (i + Q.length)) (hs1 : Sm i) :
    schismaref01_Mul.l1 (k + 1) (C P) (C Q) (C (L ++ 0 :: R)) (i : Int) (c : Int) (Q.length : Int) =
      schismaref01_Mul.l0 k (C P) (C Q) (C (L ++ c :: R)) ((i + 1 : Nat) : Int) := by
  have hl1 : (C Q).length = Q.length := C_length _
  have hl0 : (C (L ++ 0 :: R)).length = i + Q.length + (R.length + 1) := by rw [C_length]; simp [hL]
  have e2 := rd_at L R 0 (i + Q.length) hL
  have e3 : IntKind.u64.wrap (((0 : Nat) : Int) + (c : Int)) = (c : Int) := by rw [uadd (by omega), Nat.zero_add]
  have e1 := wadd hs
  have e5 := wsucc hs1
  have e6 := set_at L R 0 c _ hL
  simp only [schismaref01_Mul.l1, hl1, e1, e2, e3, e5, e6]
  clear e1 e2 e3 e5 e6 hs hs1
  simp (disch := omega) only [if_pos, if_neg]
theorem rmul_l1 (P1 P2 : List Nat) (a : Nat) (ha : a < 1000000000) {r : ByteArray} (i : Nat) (hP : P1.length = i) : ∀ (Q2 Q1 L W R : List Nat) (c : Nat), W.length = Q2.length → L.length = i + Q1.length → Ok W → Ok Q2 → c < 1000000000 → Sm (i + (Q1 ++ Q2).length) →
    Ev (fun k => schismaref01_Mul.l0 k (C (P1 ++ a :: P2)) (C (Q1 ++ Q2)) (C (L ++ mrow a c W Q2 ++ R)) ((i + 1 : Nat) : Int)) r →
    Ev (fun k => schismaref01_Mul.l1 k (C (P1 ++ a :: P2)) (C (Q1 ++ Q2)) (C (L ++ W ++ 0 :: R)) (i : Int) (c : Int) (Q1.length : Int)) r
  | [], Q1, L, [], R, c, _, hL, _, _, hc, hs, hr => by
    rw [List.append_nil] at hs hr ⊢
    rw [List.append_nil]
    exact Ev.step (fun k => rmul_out k _ Q1 L R i c hL hc hs (hs.le (by omega))) (by simpa [mrow] using hr)
  | [], _, _, _ :: _, _, _, h, _, _, _, _, _, _ => by simp at h
  | _ :: _, _, _, [], _, _, h, _, _, _, _, _, _ => by simp at h
  | b :: Q2, Q1, L, w :: W, R, c, hWQ, hL, hW, hQ, hc, hs, hr => by
    have e0 : L ++ w :: W ++ 0 :: R = L ++ w :: (W ++ 0 :: R) := by simp
    have hs1 : Sm (i + Q1.length) := hs.le (by simp)
    have ih := rmul_l1 P1 P2 a ha i hP Q2 (Q1 ++ [b]) (L ++ [(c + (w + a * b)) % 1000000000]) W R ((c + (w + a * b)) / 1000000000) (by simpa using hWQ) (by simp [hL]; omega) hW.tail hQ.tail (mrow_arith ha hW.head hQ.head hc).2.2 (hs.le (by simp)) (by simpa [mrow] using hr)
    rw [e0]
    exact Ev.step (fun k => rmul_in k P1 P2 Q1 Q2 L (W ++ 0 :: R) w b i a c hP hL ha hW.head hQ.head hc hs1 (hs1.le (by omega))) (by simpa using ih)
theorem rmul_l0 (Q : List Nat) (hQ : Ok Q) (hQl : Q.length ≤ 1000000) : ∀ (P2 P1 M : List Nat), Ok P2 → Ok M → M.length = P1.length + Q.length → val M = val P1 * val Q → (P1 ++ P2).length ≤ 1000000 →
    Ev (fun k => schismaref01_Mul.l0 k (C (P1 ++ P2)) (C Q) (C (M ++ List.replicate (P2.length + 1) 0)) (P1.length : Int)) (S (val (P1 ++ P2) * val Q))
  | [], P1, M, _, hM, hl, hv, hs => by
    rw [List.append_nil] at hs ⊢
    have hj := join_f (M ++ List.replicate (([] : List Nat).length + 1) 0) (hM.append (Ok.zeros _)) (by simp; omega)
    rw [val_append, val_zeros, Nat.mul_zero, Nat.add_zero, hv] at hj
    have hC : (C P1).length = P1.length := C_length _
    refine Ev.step (f := fun k => (schismaref01_join.f k (C (M ++ List.replicate (([] : List Nat).length + 1) 0))).bind fun t351 => (some t351)) (fun k => ?_) (Ev.bind hj (Ev.now _))
    simp (disch := omega) only [schismaref01_Mul.l0, if_neg]
  | a :: P2, P1, M, hP, hM, hl, hv, hs => by
    have ha := hP.head
    have hs2 : P1.length + (P2.length + 1) ≤ 1000000 := by simpa using hs
    obtain ⟨L, W, rfl, hL⟩ : ∃ L W, M = L ++ W ∧ L.length = P1.length := ⟨M.take P1.length, M.drop P1.length, (List.take_append_drop _ _).symm, by rw [List.length_take]; omega⟩
    have hW : W.length = Q.length := by simp [hL] at hl; omega
    obtain ⟨m1, m2, m3⟩ := mrow_spec a ha Q W 0 hW hM.right hQ (by omega)
    have ih := rmul_l0 Q hQ hQl P2 (P1 ++ [a]) (L ++ mrow a 0 W Q) hP.tail (hM.left.append m2) (by simp [m1, hL, hW]; omega) (by
      rw [val_append, hL] at hv
      rw [val_append, m3, val_snoc, Nat.add_zero, Nat.mul_add, ← Nat.add_assoc, hL, hv, Nat.add_mul, Nat.mul_assoc]) (by simpa using hs)
    have hC : (C (P1 ++ a :: P2)).length = P1.length + (P2.length + 1) := by rw [C_length]; simp
    have key := rmul_l1 P1 P2 a ha P1.length rfl Q [] L W (List.replicate (P2.length + 1) 0) 0 hW (by simp [hL]) hM.right hQ (by omega) ⟨by rw [List.nil_append]; omega⟩ (by simpa using ih)
    refine Ev.step (f := fun k => schismaref01_Mul.l1 k (C (P1 ++ a :: P2)) (C Q) (C (L ++ W ++ List.replicate ((a :: P2).length + 1) 0)) (P1.length : Int) 0 0) (fun k => ?_) ?_
    · simp (disch := omega) only [schismaref01_Mul.l0, if_pos]
    · simpa [List.replicate_succ] using key
theorem rmul_long (a b : Nat) (ha : Md a) (hb : Md b) (x y : Int) : Ev (fun k => schismaref01_Mul.j0 k (S a) (S b) x y false) (S (a * b)) := by
  obtain ⟨L, l1, l2, l3, l4⟩ := limbs_f a ha
  obtain ⟨M, m1, m2, m3, m4⟩ := limbs_f b hb
  have key := rmul_l0 M m1 m3 L [] (List.replicate M.length 0) l1 (Ok.zeros _) (by simp) (by simp [val, val_zeros]) (by simpa using l3)
  rw [List.nil_append, l2, m2] at key
  refine Ev.step (f := fun k => (schismaref01_limbs.f k (S a)).bind fun t342 => ((schismaref01_limbs.f k (S b)).bind fun t345 => (if 0 ≤ (wrap64 ((wrap64 ((t342.length : Int) + (t345.length : Int))) + 1)) then (if (wrap64 ((wrap64 ((t342.length : Int) + (t345.length : Int))) + 1) : Int).toNat ≤ 35184372088832 then (schismaref01_Mul.l0 k t342 t345 (List.replicate (wrap64 ((wrap64 ((t342.length : Int) + (t345.length : Int))) + 1) : Int).toNat 0) 0) else (none)) else (none)))) (fun k => ?_) (Ev.bind l4 (Ev.bind m4 ?_))
  · simp only [schismaref01_Mul.j0, Bool.false_eq_true, if_false]
  · have s1 : Sm (L.length + M.length) := ⟨by omega⟩
    have e2 : List.replicate (L.length + M.length + 1) (0 : Int) = C (List.replicate M.length 0 ++ List.replicate (L.length + 1) 0) := by
      rw [List.replicate_append_replicate, ← C_zeros, Nat.add_comm L.length, Nat.add_assoc]
    have e1 := wadd s1
    have e3 := wsucc s1
    simp only [C_length, e1, e3, Int.toNat_natCast]
    rw [e2]
    clear e1 e2 e3
    exact Ev.pos (by omega) (Ev.pos (by omega) key)
theorem rmul_f (a b : Nat) (ha : Md a) (hb : Md b) : Ev (fun k => schismaref01_Mul.f k (S a) (S b)) (S (a * b)) := by
  unfold schismaref01_Mul.f
  have h1 := ha.out
  have h2 := hb.out
  have p1 := Lib.nDigits_pos a
  have p2 := Lib.nDigits_pos b
  have s1 : Sm (Lib.nDigits a + Lib.nDigits b) := ⟨by omega⟩
  refine Ev.bind (quick_f a) (Ev.bind (quick_f b) ?_)
  by_cases q1 : Lib.nDigits a ≤ 18
  · rw [if_pos q1]
    refine Ev.pos rfl ?_
    by_cases q2 : Lib.nDigits b ≤ 18
    · rw [if_pos q2]
      refine Ev.pos rfl ?_
      have e1 := wadd s1
      rw [S_size, S_size, e1]
      clear e1
      by_cases h : Lib.nDigits a + Lib.nDigits b ≤ 18
      · rw [decide_eq_true (by omega)]
        have h4 := nDig_mul a b
        have h5 : a * b < 10 ^ 18 := nDig_lt (by omega)
        have h6 : (10 : Nat) ^ 18 = 1000000000000000000 := by decide
        have e0 := rof_f (a * b) (by omega)
        have e2 := umul (a := a) (b := b) (by omega)
        refine Ev.step (f := fun _ => some (S (a * b))) (fun k => ?_) (Ev.now _)
        simp only [schismaref01_Mul.j0, if_true, e2, e0, Option.bind_some]
      · rw [decide_eq_false (by omega)]
        exact rmul_long a b ha hb _ _
    · rw [if_neg q2]
      exact Ev.neg (by decide) (rmul_long a b ha hb _ _)
  · rw [if_neg q1]
    exact Ev.neg (by decide) (rmul_long a b ha hb _ _)
end Go.Proofs.YtcfddphiflmnlaaDoor.P

namespace Go.Proofs.YtcfddphiflmnlaaDoor.P
open Go.RowKit Go.Proofs.YtcfddphiflmnlaaDoorW.PrintWords
theorem few_f (l0 l1 l2 : List Int) : schismalaw01_few.f l0 l1 l2 = some (decide (l0.length ≤ 120 ∧ l1.length ≤ 120 ∧ l2.length ≤ 120)) := by
  unfold schismalaw01_few.f
  by_cases h0 : l0.length ≤ 120
  · rw [if_pos (by omega)]
    by_cases h1 : l1.length ≤ 120
    · rw [if_pos (by omega)]
      congr 1
      rw [decide_eq_decide]
      omega
    · rw [if_neg (by omega), decide_eq_false (by omega)]
  · rw [if_neg (by omega), decide_eq_false (by omega)]
theorem dig120 {n : Nat} (h : n < 10 ^ 120) : Lib.nDigits n ≤ 120 := nDig_le (by decide) h
theorem sub_any (a b : Nat) (ha : Md a) (hb : Md b) : Ev (fun k => decimal_Sub.f k (S a) (S b)) (if a < b then ((⟨#[]⟩ : ByteArray), (3 : Int)) else (S (a - b), (0 : Int))) := by
  by_cases h : a < b
  · rw [if_pos h]; exact sub_lt a b h ha hb
  · rw [if_neg h]; exact sub_f a b (by omega) ha
theorem cmp_neg (a b : Nat) : cmp a b < 0 ↔ a < b := by
  unfold cmp
  by_cases h : a < b
  · simp [h]
  · by_cases h2 : b < a
    · simp [h, h2]
    · simp [h, h2]
theorem S_ne_self (n : Nat) : ((S n).toList != (S n).toList) = false := by simp
theorem S_beq_self (n : Nat) : ((S n).toList == (S n).toList) = true := by simp
end Go.Proofs.YtcfddphiflmnlaaDoor.P

namespace Go.Proofs.YtcfddphiflmnlaaDoor.Pure
open Go.RowKit Go.Proofs.YtcfddphiflmnlaaDoor.P Go.Proofs.YtcfddphiflmnlaaDoorW.PrintWords Go.Proofs.YtcfddphiflmnlaaDoorW.PrintLast
theorem DecimalAdds : schismalaw01_DecimalAdds.Pure := by
  intro l m _ hl1 hl2 _ hm1 hm2
  refine Ev.rounds (Ev.bind known_ev (Ev.pos rfl ?_))
  rw [few_f]
  simp only [Option.bind_some]
  by_cases h : l.length ≤ 120 ∧ m.length ≤ 120 ∧ ([] : List Int).length ≤ 120
  · rw [decide_eq_true h]
    obtain ⟨a, a1, a2, a3⟩ := make_f l hl2 (by omega)
    obtain ⟨b, b1, b2, b3⟩ := make_f m hm2 (by omega)
    have da := dig120 a2
    have db := dig120 b2
    clear a1 a2 b1 b2
    have ha : Md a := ⟨by omega⟩
    have hb : Md b := ⟨by omega⟩
    refine Ev.step (f := fun k => (schismalaw01_Make.f k l).bind fun t554 => ((schismalaw01_Make.f k m).bind fun t555 => ((decimal_Sub.f k t554 t555).bind fun bt556 => ((decimal_Add.f k t554 t555).bind fun t558 => ((schismaref01_Add.f k t554 t555).bind fun t559 => (if t558.toList = t559.toList then ((decimal_Mul.f k t554 t555).bind fun t560 => ((schismaref01_Mul.f k t554 t555).bind fun t561 => (schismalaw01_DecimalAdds.j1 k t554 t555 bt556.1 bt556.2 (t560.toList != t561.toList)))) else (schismalaw01_DecimalAdds.j1 k t554 t555 bt556.1 bt556.2 true))))))) (fun k => ?_) ?_
    · simp only [schismalaw01_DecimalAdds.j0, Bool.not_true, Bool.false_eq_true, if_false]
    · refine Ev.bind a3 (Ev.bind b3 (Ev.bind (sub_any a b ha hb) (Ev.bind (add_f a b ha hb) (Ev.bind (radd_f a b ha hb) (Ev.pos rfl (Ev.bind (mul_f a b ha hb) (Ev.bind (rmul_f a b ha hb) ?_)))))))
      rw [S_ne_self]
      by_cases hab : a < b
      · rw [if_pos hab]
        refine Ev.step (f := fun _ => some true) (fun k => ?_) (Ev.now _)
        simp only [schismalaw01_DecimalAdds.j1, Bool.false_eq_true, if_false, rcompare_f, Option.bind_some]
        rw [if_pos ((cmp_neg a b).2 hab), if_pos (by rw [toList_data])]
        rfl
      · rw [if_neg hab]
        refine Ev.step (f := fun k => (schismaref01_Minus.f k (S a) (S b)).bind fun t563 => (some ((S (a - b)).toList == t563.toList))) (fun k => ?_) (Ev.bind (rminus_f a b ha (by omega)) (Ev.eq (Ev.now _) (S_beq_self _)))
        simp only [schismalaw01_DecimalAdds.j1, Bool.false_eq_true, if_false, rcompare_f, Option.bind_some]
        rw [if_neg (fun e => hab ((cmp_neg a b).1 e)), if_pos trivial]
  · rw [decide_eq_false h]
    refine Ev.step (f := fun k => (schismalaw01_known.f k).bind fun t => some t) (fun k => ?_) (Ev.bind known_ev (Ev.now _))
    simp only [schismalaw01_DecimalAdds.j0, Bool.not_false, if_true]
end Go.Proofs.YtcfddphiflmnlaaDoor.Pure
