/- The printed functions as operations on numbers, and the law's answer: true at every input. Conditions: those of each theorem; the law's own has the row's bounds alone. -/
import Derived.Laws.Bits64b
import Derived.Lib.BitFns
import Derived.Lib.ItoaNum
import Derived.Test.YtcfddphiflmnlaaDoorDecimalPowersF6
import Derived.Test.YtcfddphiflmnlaaDoorDecimalPowersWPlus

namespace Go.Proofs.YtcfddphiflmnlaaDoor.P
open Go.RowKit Go.Proofs.YtcfddphiflmnlaaDoorW.PrintWords
def val : List Nat → Nat
  | [] => 0
  | a :: l => a + 1000000000 * val l
def Ok (l : List Nat) : Prop := ∀ a, a ∈ l → a < 1000000000
def pcs (n : Nat) : List Nat := if h : n = 0 then [] else (n % 1000000000) :: pcs (n / 1000000000)
termination_by n
decreasing_by omega
theorem pcs_zero : pcs 0 = [] := by rw [pcs]; rfl
theorem pcs_pos {n : Nat} (h : n ≠ 0) : pcs n = (n % 1000000000) :: pcs (n / 1000000000) := by rw [pcs, dif_neg h]
theorem Ok.nil : Ok [] := fun _ h => by cases h
theorem Ok.cons {a : Nat} {l : List Nat} (ha : a < 1000000000) (hl : Ok l) : Ok (a :: l) := fun x hx => by
  rcases List.mem_cons.1 hx with rfl | hx
  · exact ha
  · exact hl x hx
theorem Ok.head {a : Nat} {l : List Nat} (h : Ok (a :: l)) : a < 1000000000 := h a List.mem_cons_self
theorem Ok.tail {a : Nat} {l : List Nat} (h : Ok (a :: l)) : Ok l := fun x hx => h x (List.mem_cons_of_mem _ hx)
theorem Ok.append {l m : List Nat} (hl : Ok l) (hm : Ok m) : Ok (l ++ m) := fun x hx => by
  rcases List.mem_append.1 hx with hx | hx
  · exact hl x hx
  · exact hm x hx
theorem Ok.left {l m : List Nat} (h : Ok (l ++ m)) : Ok l := fun x hx => h x (List.mem_append_left _ hx)
theorem Ok.right {l m : List Nat} (h : Ok (l ++ m)) : Ok m := fun x hx => h x (List.mem_append_right _ hx)
theorem Ok.take {l : List Nat} (h : Ok l) (i : Nat) : Ok (l.take i) := fun x hx => h x (List.mem_of_mem_take hx)
theorem Ok.drop {l : List Nat} (h : Ok l) (i : Nat) : Ok (l.drop i) := fun x hx => h x (List.mem_of_mem_drop hx)
theorem Ok.zeros (n : Nat) : Ok (List.replicate n 0) := fun x hx => by rw [(List.mem_replicate.1 hx).2]; omega
theorem Ok.getD {l : List Nat} (h : Ok l) (i : Nat) : l.getD i 0 < 1000000000 := by
  rw [List.getD_eq_getElem?_getD]
  by_cases hi : i < l.length
  · rw [List.getElem?_eq_getElem hi]; exact h _ (List.getElem_mem hi)
  · rw [List.getElem?_eq_none (by omega)]; simp
theorem ok_pcs (n : Nat) : Ok (pcs n) := by
  induction n using Nat.strongRecOn with
  | _ n ih =>
    by_cases h : n = 0
    · subst h; rw [pcs_zero]; exact Ok.nil
    · rw [pcs_pos h]; exact Ok.cons (by omega) (ih _ (by omega))
theorem val_pcs (n : Nat) : val (pcs n) = n := by
  induction n using Nat.strongRecOn with
  | _ n ih =>
    by_cases h : n = 0
    · subst h; rw [pcs_zero]; rfl
    · rw [pcs_pos h, val, ih _ (by omega)]; omega
theorem val_append (l m : List Nat) : val (l ++ m) = val l + 1000000000 ^ l.length * val m := by
  induction l with
  | nil => simp [val]
  | cons a l ih =>
    simp only [List.cons_append, val, ih, List.length_cons, Nat.pow_succ]
    rw [Nat.mul_add, Nat.add_assoc, ← Nat.mul_assoc, Nat.mul_comm 1000000000 (1000000000 ^ l.length)]
theorem val_snoc (l : List Nat) (a : Nat) : val (l ++ [a]) = val l + 1000000000 ^ l.length * a := by rw [val_append]; simp [val]
theorem val_zeros (n : Nat) : val (List.replicate n 0) = 0 := by
  induction n with
  | zero => rfl
  | succ n ih => rw [List.replicate_succ, val, ih]
theorem val_lt {l : List Nat} (h : Ok l) : val l < 1000000000 ^ l.length := by
  induction l with
  | nil => simp [val]
  | cons a l ih =>
    have h1 := h.head
    have h2 := ih h.tail
    simp only [val, List.length_cons, Nat.pow_succ]
    omega
theorem pcs_snoc : ∀ (l : List Nat) (a : Nat), Ok (l ++ [a]) → a ≠ 0 → pcs (val (l ++ [a])) = l ++ [a]
  | [], a, h, ha => by
    have := h.head
    have e : val ([] ++ [a]) = a := by simp [val]
    rw [e, pcs_pos ha, Nat.mod_eq_of_lt this, Nat.div_eq_of_lt this, pcs_zero]
    rfl
  | b :: l, a, h, ha => by
    have hb : b < 1000000000 := h.head
    have ih := pcs_snoc l a h.tail ha
    have hv : val (l ++ [a]) ≠ 0 := by
      intro e
      rw [e, pcs_zero] at ih
      exact absurd ih (by simp)
    have e : val (b :: l ++ [a]) = b + 1000000000 * val (l ++ [a]) := rfl
    rw [e, pcs_pos (by omega), show (b + 1000000000 * val (l ++ [a])) % 1000000000 = b by omega, show (b + 1000000000 * val (l ++ [a])) / 1000000000 = val (l ++ [a]) by omega, ih]
    rfl
theorem pcs_len_le {n k : Nat} (h : n < 1000000000 ^ k) : (pcs n).length ≤ k := by
  induction k generalizing n with
  | zero => rw [show n = 0 by simpa using h, pcs_zero]; simp
  | succ k ih =>
    by_cases h0 : n = 0
    · subst h0; rw [pcs_zero]; simp
    · rw [pcs_pos h0, List.length_cons]
      have := ih (n := n / 1000000000) (by rw [Nat.pow_succ] at h; omega)
      omega
theorem lt_pow_pcs (n : Nat) : n < 1000000000 ^ (pcs n).length := by
  have := val_lt (ok_pcs n)
  rwa [val_pcs] at this
theorem pcs_len_mono {a b : Nat} (h : a ≤ b) : (pcs a).length ≤ (pcs b).length := pcs_len_le (Nat.lt_of_le_of_lt h (lt_pow_pcs b))
theorem pcs_nil_iff {n : Nat} : pcs n = [] ↔ n = 0 := by
  constructor
  · intro h
    by_cases h0 : n = 0
    · exact h0
    · rw [pcs_pos h0] at h; cases h
  · rintro rfl; exact pcs_zero
theorem Ok.set {l : List Nat} (h : Ok l) (i x : Nat) (hx : x < 1000000000) : Ok (l.set i x) := fun a ha => by
  rcases List.mem_or_eq_of_mem_set ha with h1 | h1
  · exact h a h1
  · omega
def C (l : List Nat) : List Int := l.map fun n : Nat => (n : Int)
theorem C_nil : C [] = [] := rfl
theorem C_length (l : List Nat) : (C l).length = l.length := by simp [C]
theorem C_append (l m : List Nat) : C (l ++ m) = C l ++ C m := by simp [C]
theorem C_take (l : List Nat) (i : Nat) : (C l).take i = C (l.take i) := by simp [C, List.map_take]
theorem C_set (l : List Nat) (i x : Nat) : (C l).set i (x : Int) = C (l.set i x) := by simp [C, List.map_set]
theorem C_zeros (n : Nat) : List.replicate n (0 : Int) = C (List.replicate n 0) := by simp [C]
theorem rd_C (l : List Nat) (i : Nat) : rd (C l) (i : Int) = (l.getD i 0 : Nat) := by
  simp only [rd, C, Int.toNat_natCast, List.getD_eq_getElem?_getD, List.getElem?_map]
  cases l[i]? <;> simp
theorem w64 {n : Int} (h0 : -9223372036854775808 ≤ n) (h1 : n ≤ 9223372036854775807) : wrap64 n = n := by unfold wrap64; omega
theorem u64w {n : Int} (h0 : 0 ≤ n) (h1 : n ≤ 18446744073709551615) : IntKind.u64.wrap n = n := by rw [IntKind.wrap_u64]; omega
theorem u64n (n : Nat) (h : n < 18446744073709551616) : IntKind.u64.wrap (n : Int) = n := u64w (by omega) (by omega)
theorem tdivn (a b : Nat) : Int.tdiv (a : Int) (b : Int) = ((a / b : Nat) : Int) := (Int.ofNat_tdiv a b).symm
theorem tmodn (a b : Nat) : Int.tmod (a : Int) (b : Int) = ((a % b : Nat) : Int) := (Int.ofNat_tmod a b).symm
theorem tdiv9 (a : Nat) : Int.tdiv (a : Int) 1000000000 = ((a / 1000000000 : Nat) : Int) := tdivn a 1000000000
theorem tmod9 (a : Nat) : Int.tmod (a : Int) 1000000000 = ((a % 1000000000 : Nat) : Int) := tmodn a 1000000000
structure Sm (n : Nat) : Prop where
  out : n < 4611686018427387904
theorem Sm.le {a b : Nat} (h : Sm b) (hab : a ≤ b) : Sm a := ⟨Nat.lt_of_le_of_lt hab h.out⟩
theorem wadd {a b : Nat} (h : Sm (a + b)) : wrap64 ((a : Int) + (b : Int)) = ((a + b : Nat) : Int) := by have := h.out; rw [w64] <;> omega
theorem wsucc {a : Nat} (h : Sm a) : wrap64 ((a : Int) + 1) = ((a + 1 : Nat) : Int) := by have := h.out; rw [w64] <;> omega
theorem wpred1 {a : Nat} (h : Sm (a + 1)) : wrap64 (((a + 1 : Nat) : Int) - 1) = (a : Int) := by have := h.out; rw [w64] <;> omega
theorem wnat {a : Nat} (h : Sm a) : wrap64 (a : Int) = (a : Int) := by have := h.out; rw [w64] <;> omega
theorem usmall {n : Nat} (h : n < 1000000000000000000) : IntKind.u64.wrap (n : Int) = (n : Int) := u64n n (by omega)
theorem uadd {a b : Nat} (h : a + b < 18446744073709551616) : IntKind.u64.wrap ((a : Int) + (b : Int)) = ((a + b : Nat) : Int) := by rw [← Int.natCast_add]; exact u64n _ h
theorem umul {a b : Nat} (h : a * b < 18446744073709551616) : IntKind.u64.wrap ((a : Int) * (b : Int)) = ((a * b : Nat) : Int) := by rw [← Int.natCast_mul]; exact u64n _ h
end Go.Proofs.YtcfddphiflmnlaaDoor.P

namespace Go.Proofs.YtcfddphiflmnlaaDoor.P
open Go.RowKit Go.Proofs.YtcfddphiflmnlaaDoorW.PrintWords
theorem Ev.eq {α : Type} {g : Nat → Option α} {r r' : α} (h : Ev g r) (e : r = r') : Ev g r' := e ▸ h
theorem Ev.pos {α : Type} {p : Prop} [Decidable p] {g f : Nat → Option α} {r : α} (h : p) (k : Ev g r) : Ev (fun n => if p then g n else f n) r := by
  simp only [if_pos h]; exact k
theorem Ev.neg {α : Type} {p : Prop} [Decidable p] {g f : Nat → Option α} {r : α} (h : ¬ p) (k : Ev f r) : Ev (fun n => if p then g n else f n) r := by
  simp only [if_neg h]; exact k
theorem concat_of_len {α : Type} {l : List α} {n : Nat} (h : l.length = n + 1) : ∃ m a, l = m ++ [a] ∧ m.length = n := by
  rcases List.eq_nil_or_concat l with e | ⟨m, a, e⟩
  · subst e; simp at h
  · refine ⟨m, a, by simpa using e, ?_⟩
    subst e
    simpa using h
theorem getD_mid (l m : List Nat) (a : Nat) : (l ++ a :: m).getD l.length 0 = a := by
  simp [List.getD_eq_getElem?_getD]
theorem set_mid (l m : List Nat) (a b : Nat) : (l ++ a :: m).set l.length b = l ++ b :: m := by
  simp
theorem trim_l0 : ∀ (n : Nat) (l : List Nat), l.length = n → Ok l → n < 4611686018427387904 → Ev (fun k => decimal_pieces_trim.l0 k (C l)) (C (pcs (val l)))
  | 0, l, hl, _, _ => by
    obtain rfl := List.length_eq_zero_iff.1 hl
    refine Ev.step (f := fun _ => some []) (fun k => ?_) (Ev.eq (Ev.now _) ?_)
    · simp only [decimal_pieces_trim.l0, C_nil, List.length_nil]
      rfl
    · rw [show val [] = 0 from rfl, pcs_zero]; rfl
  | n + 1, l, hl, h, hn => by
    obtain ⟨m, a, rfl, hm⟩ := concat_of_len hl
    have h1 : (C (m ++ [a])).length = n + 1 := by rw [C_length]; exact hl
    have h3 : rd (C (m ++ [a])) (n : Int) = a := by rw [rd_C, ← hm, getD_mid]
    have h4 : wrap64 (((C (m ++ [a])).length : Int) - 1) = (n : Int) := by rw [h1, w64] <;> omega
    by_cases ha : a = 0
    · subst ha
      refine Ev.step (f := fun k => decimal_pieces_trim.l0 k (C m)) (fun k => ?_) (Ev.eq (trim_l0 n m hm h.left (by omega)) (by rw [val_snoc, Nat.mul_zero, Nat.add_zero]))
      simp (disch := omega) only [decimal_pieces_trim.l0, h4, h3, if_pos]
      congr 1
      rw [Int.toNat_natCast, C_take, ← hm, List.take_left]
    · refine Ev.step (f := fun _ => some (C (m ++ [a]))) (fun k => ?_) (Ev.eq (Ev.now _) (by rw [pcs_snoc m a h ha]))
      simp (disch := omega) only [decimal_pieces_trim.l0, h4, h3, if_pos, if_neg]
theorem trim_f (l : List Nat) (h : Ok l) (hl : l.length < 4611686018427387904) : Ev (fun k => decimal_pieces_trim.f k (C l)) (C (pcs (val l))) := by
  unfold decimal_pieces_trim.f
  exact trim_l0 _ l rfl h hl
end Go.Proofs.YtcfddphiflmnlaaDoor.P

namespace Go.Proofs.YtcfddphiflmnlaaDoor.P
open Go.RowKit Go.Proofs.YtcfddphiflmnlaaDoorW.PrintWords
theorem snoc_ind {α : Type} {p : List α → Prop} (nil : p []) (snoc : ∀ (l : List α) (a : α), p l → p (l ++ [a])) (l : List α) : p l := by
  have h : ∀ (n : Nat) (l : List α), l.length = n → p l := by
    intro n
    induction n with
    | zero => intro l hl; rw [List.length_eq_zero_iff.1 hl]; exact nil
    | succ n ih =>
      intro l hl
      rcases List.eq_nil_or_concat l with e | ⟨m, a, e⟩
      · rw [e] at hl; simp at hl
      · have e' : l = m ++ [a] := by simpa using e
        subst e'
        exact snoc m a (ih m (by simpa using hl))
  exact h _ l rfl
def dv (l : List UInt8) : Nat := l.foldl (fun n c => 10 * n + (c.toNat - 48)) 0
def IsD (l : List UInt8) : Prop := ∀ c, c ∈ l → 48 ≤ c.toNat ∧ c.toNat ≤ 57
def Can (l : List UInt8) : Prop := IsD l ∧ (l.length = 1 ∨ (1 < l.length ∧ l.head? ≠ some 48))
theorem dv_nil : dv [] = 0 := rfl
theorem dv_snoc (l : List UInt8) (c : UInt8) : dv (l ++ [c]) = 10 * dv l + (c.toNat - 48) := by simp [dv, List.foldl_append]
theorem dv_append (l m : List UInt8) : dv (l ++ m) = dv l * 10 ^ m.length + dv m := by
  induction m using snoc_ind with
  | nil => simp [dv_nil]
  | snoc m c ih =>
    rw [← List.append_assoc, dv_snoc, ih, dv_snoc, List.length_append, List.length_singleton, Nat.pow_succ, Nat.mul_add, ← Nat.mul_assoc (dv l), Nat.mul_comm _ 10]
    omega
theorem IsD.nil : IsD [] := fun _ h => by cases h
theorem IsD.cons {c : UInt8} {l : List UInt8} (h1 : 48 ≤ c.toNat ∧ c.toNat ≤ 57) (h2 : IsD l) : IsD (c :: l) := fun x hx => by
  rcases List.mem_cons.1 hx with rfl | hx
  · exact h1
  · exact h2 x hx
theorem IsD.left {l m : List UInt8} (h : IsD (l ++ m)) : IsD l := fun x hx => h x (List.mem_append_left _ hx)
theorem IsD.right {l m : List UInt8} (h : IsD (l ++ m)) : IsD m := fun x hx => h x (List.mem_append_right _ hx)
theorem IsD.append {l m : List UInt8} (hl : IsD l) (hm : IsD m) : IsD (l ++ m) := fun x hx => by
  rcases List.mem_append.1 hx with hx | hx
  · exact hl x hx
  · exact hm x hx
theorem IsD.take {l : List UInt8} (h : IsD l) (i : Nat) : IsD (l.take i) := fun x hx => h x (List.mem_of_mem_take hx)
theorem IsD.drop {l : List UInt8} (h : IsD l) (i : Nat) : IsD (l.drop i) := fun x hx => h x (List.mem_of_mem_drop hx)
theorem dv_lt {l : List UInt8} (h : IsD l) : dv l < 10 ^ l.length := by
  induction l using snoc_ind with
  | nil => simp [dv_nil]
  | snoc m c ih =>
    have h1 := ih h.left
    have h2 := h.right c (by simp)
    rw [dv_snoc, List.length_append, List.length_singleton, Nat.pow_succ]
    omega
theorem digit_toNat {d : Nat} (h : d < 10) : (UInt8.ofNat (48 + d)).toNat = 48 + d := by
  rw [UInt8.toNat_ofNat']
  omega
theorem digit_of {c : UInt8} (h : 48 ≤ c.toNat ∧ c.toNat ≤ 57) : UInt8.ofNat (48 + (c.toNat - 48)) = c := by
  rw [show 48 + (c.toNat - 48) = c.toNat by omega]
  exact UInt8.ofNat_toNat
theorem dec_small {n : Nat} (h : n < 10) : Lib.decDigits n = [UInt8.ofNat (48 + n)] := by rw [Lib.decDigits, dif_pos h]
theorem dec_big {n : Nat} (h : 10 ≤ n) : Lib.decDigits n = Lib.decDigits (n / 10) ++ [UInt8.ofNat (48 + n % 10)] := by rw [Lib.decDigits, dif_neg (by omega)]
theorem isD_dec (n : Nat) : IsD (Lib.decDigits n) := by
  induction n using Nat.strongRecOn with
  | _ n ih =>
    by_cases h : n < 10
    · rw [dec_small h]
      refine IsD.cons ?_ IsD.nil
      rw [digit_toNat h]; omega
    · rw [dec_big (by omega)]
      refine (ih _ (by omega)).append (IsD.cons ?_ IsD.nil)
      rw [digit_toNat (by omega)]; omega
theorem dv_dec (n : Nat) : dv (Lib.decDigits n) = n := by
  induction n using Nat.strongRecOn with
  | _ n ih =>
    by_cases h : n < 10
    · rw [dec_small h, show [UInt8.ofNat (48 + n)] = [] ++ [UInt8.ofNat (48 + n)] from rfl, dv_snoc, digit_toNat h, dv_nil]; omega
    · rw [dec_big (by omega), dv_snoc, ih _ (by omega), digit_toNat (by omega)]; omega
theorem dec_len_pos (n : Nat) : 0 < (Lib.decDigits n).length := by rw [Lib.decDigits_length]; exact Lib.nDigits_pos n
theorem dec_dv : ∀ (k : Nat) (l : List UInt8), l.length = k → Can l → Lib.decDigits (dv l) = l
  | 0, l, hl, h => by rcases h.2 with h | h <;> omega
  | 1, l, hl, h => by
    rcases l with _ | ⟨c, _ | ⟨d, t⟩⟩
    · simp at hl
    · have hc := h.1 c (by simp)
      have : dv [c] = c.toNat - 48 := by rw [show [c] = [] ++ [c] from rfl, dv_snoc, dv_nil]; omega
      rw [this, dec_small (by omega), digit_of hc]
    · simp at hl
  | k + 2, l, hl, h => by
    obtain ⟨m, c, rfl⟩ : ∃ m c, l = m ++ [c] := by
      rcases List.eq_nil_or_concat l with e | ⟨m, c, e⟩
      · subst e; simp at hl
      · exact ⟨m, c, by simpa using e⟩
    have hm : m.length = k + 1 := by simpa using hl
    have h2 : 1 < (m ++ [c]).length ∧ (m ++ [c]).head? ≠ some 48 := by
      rcases h.2 with h2 | h2
      · omega
      · exact h2
    have hh : m.head? ≠ some 48 := by
      have := h2.2
      rcases m with _ | ⟨a, t⟩
      · simp at hm
      · simpa using this
    have hc := h.1.right c (by simp)
    have hmc : Can m := ⟨h.1.left, by
      by_cases h3 : m.length = 1
      · exact Or.inl h3
      · exact Or.inr ⟨by omega, hh⟩⟩
    have ih := dec_dv (k + 1) m hm hmc
    have h0 : dv m ≠ 0 := by
      intro e
      rw [e] at ih
      have e1 : Lib.decDigits 0 = [48] := dec_small (by omega)
      rw [e1] at ih
      rw [← ih] at hh
      exact hh rfl
    rw [dv_snoc, dec_big (by omega), show (10 * dv m + (c.toNat - 48)) / 10 = dv m by omega, ih, show (10 * dv m + (c.toNat - 48)) % 10 = c.toNat - 48 by omega, digit_of hc]
theorem dec_inj {a b : Nat} (h : Lib.decDigits a = Lib.decDigits b) : a = b := by rw [← dv_dec a, h, dv_dec]
def S (n : Nat) : ByteArray := ⟨(Lib.decDigits n).toArray⟩
theorem S_list (n : Nat) : (S n).data.toList = Lib.decDigits n := by simp [S]
theorem S_size (n : Nat) : (S n).size = Lib.nDigits n := by simp [S, ByteArray.size, Lib.decDigits_length]
theorem S_of {s : ByteArray} (h : Can s.data.toList) : s = S (dv s.data.toList) := by
  rw [S, dec_dv _ _ rfl h]
theorem nDig_le {n k : Nat} (hk : 0 < k) (h : n < 10 ^ k) : Lib.nDigits n ≤ k := by
  induction k generalizing n with
  | zero => omega
  | succ k ih =>
    by_cases hn : n < 10
    · rw [Lib.nDigits_small hn]; omega
    · rw [Lib.nDigits_big hn]
      rcases Nat.eq_zero_or_pos k with h0 | h0
      · subst h0; simp at h; omega
      · have := ih (n := n / 10) h0 (by rw [Nat.pow_succ] at h; omega)
        omega
theorem pow_le_nDig {n k : Nat} (h : k + 1 < Lib.nDigits n + 1) (hk : 0 < k) : 10 ^ k ≤ n := by
  rcases Nat.lt_or_ge n (10 ^ k) with h1 | h1
  · have := nDig_le hk h1
    omega
  · exact h1
end Go.Proofs.YtcfddphiflmnlaaDoor.P

namespace Go.Proofs.YtcfddphiflmnlaaDoor.P
open Go.RowKit Go.Proofs.YtcfddphiflmnlaaDoorW.PrintWords
def rdig (n : Nat) : List UInt8 := (Lib.decDigits n).reverse
def dgs : Nat → Nat → List UInt8
  | 0, _ => []
  | j + 1, n => UInt8.ofNat (48 + n % 10) :: dgs j (n / 10)
theorem rdig_small {n : Nat} (h : n < 10) : rdig n = [UInt8.ofNat (48 + n)] := by rw [rdig, dec_small h]; rfl
theorem rdig_big {n : Nat} (h : 10 ≤ n) : rdig n = UInt8.ofNat (48 + n % 10) :: rdig (n / 10) := by
  rw [rdig, dec_big h, List.reverse_append]; rfl
theorem rdig_piece : ∀ (j n m : Nat), n < 10 ^ j → m ≠ 0 → rdig (n + 10 ^ j * m) = dgs j n ++ rdig m
  | 0, n, m, h, hm => by
    have : n = 0 := by simpa using h
    subst this
    simp [dgs]
  | j + 1, n, m, h, hm => by
    have e : 10 ^ (j + 1) = 10 * 10 ^ j := by rw [Nat.pow_succ, Nat.mul_comm]
    rw [e] at h ⊢
    have hp : 1 ≤ 10 ^ j * m := Nat.mul_pos (Nat.pow_pos (by decide)) (by omega)
    rw [Nat.mul_assoc, rdig_big (by omega), dgs, show (n + 10 * (10 ^ j * m)) / 10 = n / 10 + 10 ^ j * m by omega, show (n + 10 * (10 ^ j * m)) % 10 = n % 10 by omega, rdig_piece j (n / 10) m (by omega) hm]
    rfl
theorem dec_val_cons {n m : Nat} (h : n < 1000000000) (hm : m ≠ 0) : rdig (n + 1000000000 * m) = dgs 9 n ++ rdig m := rdig_piece 9 n m h hm
theorem dv_cons (c : UInt8) (l : List UInt8) : dv (c :: l) = (c.toNat - 48) * 10 ^ l.length + dv l := by
  have := dv_append [c] l
  rw [show dv [c] = c.toNat - 48 by rw [show [c] = [] ++ [c] from rfl, dv_snoc, dv_nil]; omega] at this
  exact this
end Go.Proofs.YtcfddphiflmnlaaDoor.P

namespace Go.Proofs.YtcfddphiflmnlaaDoor.P
open Go.RowKit Go.Proofs.YtcfddphiflmnlaaDoorW.PrintWords
def B8 (l : List UInt8) : List Int := l.map fun b => (b.toNat : Int)
theorem B8_length (l : List UInt8) : (B8 l).length = l.length := by simp [B8]
theorem B8_append (l m : List UInt8) : B8 (l ++ m) = B8 l ++ B8 m := by simp [B8]
theorem rd_B8 (P Q : List UInt8) (c : UInt8) (i : Nat) (h : P.length = i) : rd (B8 (P ++ c :: Q)) (i : Int) = (c.toNat : Int) := by
  subst h
  simp [rd, B8, List.getD_eq_getElem?_getD]
theorem extract_list (s : ByteArray) (a b : Nat) : (s.extract a b).data.toList = (s.data.toList.take b).drop a := by
  simp [List.drop_take]
theorem size_list (s : ByteArray) : s.size = s.data.toList.length := (data_length s).symm
theorem dstep {n : Nat} {c : UInt8} (hc : 48 ≤ c.toNat ∧ c.toNat ≤ 57) (hn : 10 * n + (c.toNat - 48) < 18446744073709551616) : IntKind.u64.wrap (IntKind.u64.wrap (10 * (n : Int)) + ((c.toNat : Int) - 48) % 256) = ((10 * n + (c.toNat - 48) : Nat) : Int) := by
  have h1 : ((c.toNat : Int) - 48) % 256 = ((c.toNat - 48 : Nat) : Int) := by omega
  rw [h1, show (10 : Int) * n = ((10 * n : Nat) : Int) by omega, u64n _ (by omega), uadd hn]
theorem dstep' {n : Nat} {c : UInt8} (hc : 48 ≤ c.toNat ∧ c.toNat ≤ 57) (hn : 10 * n + (c.toNat - 48) < 18446744073709551616) : IntKind.u64.wrap (IntKind.u64.wrap ((n : Int) * 10) + ((c.toNat : Int) - 48) % 256) = ((10 * n + (c.toNat - 48) : Nat) : Int) := by
  rw [Int.mul_comm]; exact dstep hc hn
theorem dv_bound {P Q : List UInt8} (c : UInt8) (h : IsD (P ++ c :: Q)) (hl : (P ++ c :: Q).length ≤ 19) : 10 * dv P + (c.toNat - 48) < 18446744073709551616 := by
  have h1 : IsD (P ++ [c]) := by
    have : P ++ c :: Q = (P ++ [c]) ++ Q := by simp
    rw [this] at h
    exact h.left
  have h2 := dv_lt h1
  have h3 : 10 ^ (P ++ [c]).length ≤ 10 ^ 19 := Nat.pow_le_pow_right (by decide) (by simp at hl ⊢; omega)
  rw [dv_snoc] at h2
  omega
theorem cut_step (k : Nat) (s : ByteArray) (acc : List Int) (e : Int) (P Q : List UInt8) (c : UInt8) (h : IsD (P ++ c :: Q)) (hl : (P ++ c :: Q).length ≤ 18) (n : Int) (hn : n = ((P ++ c :: Q).length : Nat)) :
    decimal_cut.l1 (k + 1) s acc e (dv P : Int) (B8 (P ++ c :: Q)) n (P.length : Int) = decimal_cut.l1 k s acc e (dv (P ++ [c]) : Int) (B8 (P ++ c :: Q)) n ((P ++ [c]).length : Int) := by
  have e1 := rd_B8 P Q c P.length rfl
  have e2 := dstep (h c (by simp)) (dv_bound c h (by omega))
  have e3 := wsucc (a := P.length) ⟨by simp at hl; omega⟩
  have hl2 : (B8 (P ++ c :: Q)).length = P.length + (Q.length + 1) := by rw [B8_length]; simp
  rw [show (P ++ c :: Q).length = P.length + (Q.length + 1) by simp] at hn
  simp only [decimal_cut.l1, e1, e2, e3]
  clear e1 e2 e3
  simp (disch := omega) only [if_pos]
  rw [dv_snoc, List.length_append, List.length_singleton]
theorem cut_l1 (s : ByteArray) (acc : List Nat) (e : Int) (hacc : acc.length < 17592186044416) : ∀ (Q P : List UInt8) (n : Int) (r : List Int), n = ((P ++ Q).length : Nat) → IsD (P ++ Q) → (P ++ Q).length ≤ 18 →
    Ev (fun k => decimal_cut.l0 k s (C (acc ++ [dv (P ++ Q)])) (wrap64 (e - 9))) r → Ev (fun k => decimal_cut.l1 k s (C acc) e (dv P : Int) (B8 (P ++ Q)) n (P.length : Int)) r
  | [], P, n, r, hn, _, _, h => by
    rw [List.append_nil] at h hn ⊢
    refine Ev.step (fun k => ?_) h
    have hl2 : (C acc).length = acc.length := C_length _
    simp (disch := omega) only [decimal_cut.l1, if_neg, if_pos]
    rw [C_append]
    rfl
  | c :: Q, P, n, r, hn, hD, hl, h => by
    have e0 : P ++ c :: Q = (P ++ [c]) ++ Q := by simp
    refine Ev.step (fun k => cut_step k s (C acc) e P Q c hD hl n hn) ?_
    rw [e0] at hn hD hl h ⊢
    exact cut_l1 s acc e hacc Q (P ++ [c]) n r hn hD hl h
theorem chunk {l : List UInt8} {e st : Nat} (he : e ≤ l.length) (hst : st = e - 9) : dv (l.take e) = dv ((l.take e).drop st) + 1000000000 * dv (l.take st) ∧ ((l.take e).drop st).length = e - st := by
  have hl : ((l.take e).drop st).length = e - st := by rw [List.length_drop, List.length_take]; omega
  refine ⟨?_, hl⟩
  have h1 := dv_append ((l.take e).take st) ((l.take e).drop st)
  rw [List.take_append_drop, List.take_take, Nat.min_eq_left (by omega), hl] at h1
  rw [h1]
  rcases Nat.eq_zero_or_pos st with h2 | h2
  · rw [h2, List.take_zero, dv_nil]; omega
  · rw [show e - st = 9 by omega]
    have : (10 : Nat) ^ 9 = 1000000000 := by decide
    rw [this, Nat.mul_comm]
    omega
theorem cut_l0 (s : ByteArray) (hD : IsD s.data.toList) : ∀ (m e : Nat) (acc : List Nat) (x : Int), e ≤ m → e ≤ s.size → (x = (e : Int) ∨ e = 0 ∧ x ≤ 0) → Ok acc → acc.length + e < 17592186044416 →
    Ev (fun k => decimal_cut.l0 k s (C acc) x) (C (pcs (val acc + 1000000000 ^ acc.length * dv (s.data.toList.take e))))
  | 0, e, acc, x, hm, _, hx, hacc, hl => by
    obtain rfl : e = 0 := by omega
    refine Ev.step (f := fun k => (decimal_pieces_trim.f k (C acc)).bind fun t => some t) (fun k => ?_) (Ev.eq (Ev.bind (trim_f acc hacc (by omega)) (Ev.now _)) ?_)
    · simp (disch := omega) only [decimal_cut.l0, if_neg]
    · rw [List.take_zero, dv_nil, Nat.mul_zero, Nat.add_zero]
  | m + 1, e, acc, x, hm, hs, hx, hacc, hl => by
    rcases Nat.eq_zero_or_pos e with h0 | h0
    · exact cut_l0 s hD 0 e acc x (by omega) hs hx hacc hl
    · obtain rfl : x = (e : Int) := by omega
      obtain ⟨st, hst⟩ : ∃ st, st = e - 9 := ⟨_, rfl⟩
      rw [size_list] at hs
      obtain ⟨h1, h2⟩ := chunk hs hst
      have hsub := extract_list s st e
      have hw : wrap64 ((e : Int) - 9) = (e : Int) - 9 := w64 (by omega) (by omega)
      have hmx : mx 0 ((e : Int) - 9) = (st : Int) := by unfold mx; split <;> omega
      have hDs : IsD ((s.data.toList.take e).drop st) := (hD.take e).drop st
      have hdl := dv_lt hDs
      have hpow : 10 ^ ((s.data.toList.take e).drop st).length ≤ 10 ^ 9 := Nat.pow_le_pow_right (by decide) (by omega)
      have h9 : (10 : Nat) ^ 9 = 1000000000 := by decide
      have ih := cut_l0 s hD m st (acc ++ [dv ((s.data.toList.take e).drop st)]) ((e : Int) - 9) (by omega) (by rw [size_list]; omega) (by omega) (hacc.append (Ok.cons (by omega) Ok.nil)) (by rw [List.length_append, List.length_singleton]; omega)
      have hv : val (acc ++ [dv ((s.data.toList.take e).drop st)]) + 1000000000 ^ (acc ++ [dv ((s.data.toList.take e).drop st)]).length * dv (s.data.toList.take st) = val acc + 1000000000 ^ acc.length * dv (s.data.toList.take e) := by
        rw [val_snoc, h1, List.length_append, List.length_singleton, Nat.pow_succ, Nat.mul_add, Nat.mul_assoc, Nat.add_assoc]
      rw [hv] at ih
      have key := cut_l1 s acc (e : Int) (by omega) ((s.data.toList.take e).drop st) [] ((((s.data.toList.take e).drop st).length : Nat) : Int) _ rfl hDs (by rw [List.nil_append]; omega) (by rw [List.nil_append, hw]; exact ih)
      refine Ev.step (fun k => ?_) key
      have hsz : (s.extract st e).size = e - st := by rw [size_list, hsub, h2]
      have hb : bytesOf (s.extract st e) = B8 ((s.data.toList.take e).drop st) := by rw [← hsub]; rfl
      have hsl : (s.size : Int) = (s.data.toList.length : Int) := by rw [size_list]
      simp only [decimal_cut.l0, hw, hmx, Int.toNat_natCast, hsz, hb, B8_length, Option.bind_some, hsl]
      clear hv ih key hw hmx hdl hpow hb hsub hD hDs
      simp (disch := omega) only [if_pos]
      rfl
theorem cut_of (s : ByteArray) (hD : IsD s.data.toList) (hs : s.size < 17592186044416) : Ev (fun k => decimal_cut.f k s) (C (pcs (dv s.data.toList))) := by
  have key := cut_l0 s hD s.size s.size [] (s.size : Int) (Nat.le_refl _) (Nat.le_refl _) (Or.inl rfl) Ok.nil (by simpa using hs)
  have e0 : val ([] : List Nat) + 1000000000 ^ ([] : List Nat).length * dv (s.data.toList.take s.size) = dv s.data.toList := by
    rw [size_list, List.take_length]; simp [val]
  rw [e0] at key
  have e1 : wrap64 ((s.size : Int) / 9) = (((s.size / 9 : Nat)) : Int) := by rw [w64 (by omega) (by omega)]; omega
  have e2 := wsucc (a := s.size / 9) ⟨by omega⟩
  unfold decimal_cut.f
  simp only [e1, e2, Int.toNat_natCast]
  clear e1 e2
  simp (disch := omega) only [if_pos]
  exact key
theorem cut_f (n : Nat) (hs : Lib.nDigits n < 17592186044416) : Ev (fun k => decimal_cut.f k (S n)) (C (pcs n)) := by
  have := cut_of (S n) (by rw [S_list]; exact isD_dec n) (by rw [S_size]; exact hs)
  rwa [S_list, dv_dec] at this
end Go.Proofs.YtcfddphiflmnlaaDoor.P

namespace Go.Proofs.YtcfddphiflmnlaaDoor.P
open Go.RowKit Go.Proofs.YtcfddphiflmnlaaDoorW.PrintWords
theorem toList_data (s : ByteArray) : s.toList = s.data.toList := ByteArray.toList_eq s
theorem bt_mid (s : ByteArray) (P Q : List UInt8) (c : UInt8) (h : s.data.toList = P ++ c :: Q) : bt s (P.length : Int) = (c.toNat : Int) := by
  rw [← rd_bytesOf, show bytesOf s = B8 s.data.toList from rfl, h, rd_B8 _ _ _ _ rfl]
theorem size_mid (s : ByteArray) (P Q : List UInt8) (c : UInt8) (h : s.data.toList = P ++ c :: Q) : s.size = P.length + (Q.length + 1) := by
  rw [size_list, h]; simp
def digB (c : UInt8) : Bool := decide (48 ≤ c.toNat ∧ c.toNat ≤ 57)
def canb (l : List UInt8) : Bool := l.all digB && (decide (l.length = 1) || (decide (1 < l.length) && (l.head? != some 48)))
theorem all_dig (l : List UInt8) : l.all digB = true ↔ IsD l := by
  simp [List.all_eq_true, digB, IsD]
theorem canb_iff (l : List UInt8) : canb l = true ↔ Can l := by
  unfold canb Can
  rw [Bool.and_eq_true, all_dig]
  simp
end Go.Proofs.YtcfddphiflmnlaaDoor.P

namespace Go.Proofs.YtcfddphiflmnlaaDoor.P
open Go.RowKit Go.Proofs.YtcfddphiflmnlaaDoorW.PrintWords
theorem dv_prefix (P Q : List UInt8) : dv P ≤ dv (P ++ Q) := by
  rw [dv_append]
  have : dv P * 1 ≤ dv P * 10 ^ Q.length := Nat.mul_le_mul_left _ (Nat.pow_pos (by decide))
  omega
theorem dv_prefix1 (P Q : List UInt8) (c : UInt8) : 10 * dv P + (c.toNat - 48) ≤ dv (P ++ c :: Q) := by
  have := dv_prefix (P ++ [c]) Q
  rw [dv_snoc] at this
  simpa using this
theorem S_dv (n : Nat) : dv (S n).data.toList = n := by rw [S_list, dv_dec]
theorem S_dig (n : Nat) : IsD (S n).data.toList := by rw [S_list]; exact isD_dec n
theorem nDig_lt {n : Nat} {k : Nat} (h : Lib.nDigits n ≤ k) : n < 10 ^ k := Nat.lt_of_lt_of_le (Lib.lt_pow_nDigits n) (Nat.pow_le_pow_right (by decide) h)
theorem S_eq_iff {a b : Nat} : (S a).toList = (S b).toList ↔ a = b := by
  rw [toList_data, toList_data, S_list, S_list]
  exact ⟨dec_inj, fun h => by rw [h]⟩
theorem parse_dig : ∀ (l : List UInt8) (acc : Nat), IsD l → Lib.parseUintM 18446744073709551615 acc l = if l = [] ∨ acc * 10 ^ l.length + dv l < 18446744073709551616 then .ok (acc * 10 ^ l.length + dv l) else .range
  | [], acc, _ => by simp [Lib.parseUintM, dv_nil]
  | c :: l, acc, h => by
    have hc := h c (by simp)
    have ih := parse_dig l (acc * 10 + (c.toNat - 48)) (IsD.right (l := [c]) h)
    have e : (acc * 10 + (c.toNat - 48)) * 10 ^ l.length + dv l = acc * 10 ^ (c :: l).length + dv (c :: l) := by
      rw [dv_cons, List.length_cons, Nat.pow_succ, Nat.add_mul, Nat.mul_assoc, Nat.mul_comm 10 (10 ^ l.length), Nat.add_assoc]
    have hp : 1 ≤ 10 ^ l.length := Nat.pow_pos (by decide)
    have hge : acc * 10 + (c.toNat - 48) ≤ acc * 10 ^ (c :: l).length + dv (c :: l) := by
      rw [← e]
      have : (acc * 10 + (c.toNat - 48)) * 1 ≤ (acc * 10 + (c.toNat - 48)) * 10 ^ l.length := Nat.mul_le_mul_left _ hp
      omega
    unfold Lib.parseUintM
    rw [if_pos hc]
    by_cases h1 : 1844674407370955162 ≤ acc
    · rw [if_pos h1, if_neg]
      rintro (h2 | h2)
      · cases h2
      · omega
    · rw [if_neg h1]
      by_cases h2 : 18446744073709551615 < acc * 10 + (c.toNat - 48)
      · rw [if_pos h2, if_neg]
        rintro (h3 | h3)
        · cases h3
        · omega
      · rw [if_neg h2, ih, e]
        by_cases h3 : acc * 10 ^ (c :: l).length + dv (c :: l) < 18446744073709551616
        · rw [if_pos (Or.inr h3), if_pos (Or.inr h3)]
        · have n1 : ¬ ((c :: l) = [] ∨ acc * 10 ^ (c :: l).length + dv (c :: l) < 18446744073709551616) := fun h4 => h4.elim (fun h5 => by cases h5) h3
          have n2 : ¬ (l = [] ∨ acc * 10 ^ (c :: l).length + dv (c :: l) < 18446744073709551616) := fun h4 => h4.elim (fun h5 => by
            rw [h5] at e h3
            rw [← e] at h3
            simp only [List.length_nil, Nat.pow_zero, dv_nil] at h3
            omega) h3
          rw [if_neg n1, if_neg n2]
theorem small_S (n : Nat) (hn : Lib.nDigits n ≤ 281474976710656) : decimal_Small.f (S n) = some (if n < 18446744073709551616 then ((n : Int), true) else (0, false)) := by
  unfold decimal_Small.f
  have hne : Lib.decDigits n ≠ [] := by have := dec_len_pos n; intro e; rw [e] at this; simp at this
  have h64 : (2 : Nat) ^ 64 - 1 = 18446744073709551615 := by decide
  rw [S_size, if_pos hn, S_list, Lib.parseUintB, if_neg hne, h64, parse_dig _ _ (isD_dec n), dv_dec, Nat.zero_mul, Nat.zero_add]
  by_cases h : n < 18446744073709551616
  · rw [if_pos (Or.inr h), if_pos h]
  · rw [if_neg (fun h1 => h1.elim hne h), if_neg h]
end Go.Proofs.YtcfddphiflmnlaaDoor.P

namespace Go.Proofs.YtcfddphiflmnlaaDoor.P
open Go.RowKit Go.Proofs.YtcfddphiflmnlaaDoorW.PrintWords
theorem strOfNums_B8 (l : List UInt8) : strOfNums (B8 l) = ⟨l.toArray⟩ := by
  have e : ((fun n : Int => UInt8.ofNat n.toNat) ∘ fun b : UInt8 => (b.toNat : Int)) = id := funext fun b => by simp
  rw [strOfNums, B8, List.map_map, e, List.map_id]
theorem zero_str : (⟨#[48]⟩ : ByteArray) = S 0 := S_of ((canb_iff _).1 (by decide))
theorem wf_u8 {x : Int} (h : (Lit.int .u8 x).wf = true) : 0 ≤ x ∧ x ≤ 255 := by
  have h1 : IntKind.u8.min = 0 := by decide
  have h2 : IntKind.u8.max = 255 := by decide
  simpa only [Lit.wf, h1, h2, Bool.and_eq_true, decide_eq_true_eq] using h
theorem wf_i64 {x : Int} (h : (Lit.int .i64 x).wf = true) : -9223372036854775808 ≤ x ∧ x ≤ 9223372036854775807 := by
  have h1 : IntKind.i64.min = -9223372036854775808 := by decide
  have h2 : IntKind.i64.max = 9223372036854775807 := by decide
  simpa only [Lit.wf, h1, h2, Bool.and_eq_true, decide_eq_true_eq] using h
end Go.Proofs.YtcfddphiflmnlaaDoor.P

namespace Go.Proofs.YtcfddphiflmnlaaDoor.P
open Go.RowKit Go.Proofs.YtcfddphiflmnlaaDoorW.PrintWords
theorem rd_at (L W : List Nat) (x : Nat) (i : Nat) (h : L.length = i) : rd (C (L ++ x :: W)) (i : Int) = x := by rw [rd_C, ← h, getD_mid]
theorem set_at (L W : List Nat) (x y : Nat) (i : Nat) (h : L.length = i) : (C (L ++ x :: W)).set (i : Int).toNat (y : Int) = C (L ++ y :: W) := by rw [Int.toNat_natCast, C_set, ← h, set_mid]
end Go.Proofs.YtcfddphiflmnlaaDoor.P

namespace Go.Proofs.YtcfddphiflmnlaaDoor.P
open Go.RowKit Go.Proofs.YtcfddphiflmnlaaDoorW.PrintWords
theorem rdI (L W : List Int) (x : Int) (i : Nat) (h : L.length = i) : rd (L ++ x :: W) (i : Int) = x := by
  subst h
  simp [rd, List.getD_eq_getElem?_getD]
theorem setI (L W : List Int) (x y : Int) (i : Nat) (h : L.length = i) : (L ++ x :: W).set i y = L ++ y :: W := by
  subst h
  simp
theorem ends_of {α : Type} {m : List α} (h : 2 ≤ m.length) : ∃ a w b, m = a :: (w ++ [b]) ∧ w.length + 2 = m.length := by
  rcases m with _ | ⟨a, t⟩
  · simp at h
  · rcases List.eq_nil_or_concat t with e | ⟨w, b, e⟩
    · subst e; simp at h
    · exact ⟨a, w, b, by rw [e]; simp, by rw [e]; simp⟩
theorem reverse_l0 : ∀ (n : Nat) (M L R : List Int), M.length = n → L.length = R.length → (L ++ M ++ R).length < 4611686018427387904 →
    Ev (fun k => slices_Reverse_byte_byte.l0 k (L ++ M ++ R) (L.length : Int) ((L.length : Int) + (M.length : Int) - 1)) (L ++ M.reverse ++ R) := by
  intro n
  induction n using Nat.strongRecOn with
  | _ n ih =>
    intro M L R hn hl hs
    by_cases h2 : 2 ≤ M.length
    · obtain ⟨a, w, b, rfl, hw⟩ := ends_of h2
      have hs2 := hs
      simp only [List.length_append] at hs2
      have e0 : L ++ a :: (w ++ [b]) ++ R = L ++ a :: (w ++ b :: R) := by simp
      have e0' : L ++ a :: (w ++ [b]) ++ R = (L ++ a :: w) ++ b :: R := by simp
      have e1 : rd (L ++ a :: (w ++ [b]) ++ R) (L.length : Int) = a := by rw [e0, rdI _ _ _ _ rfl]
      have e2 : rd (L ++ a :: (w ++ [b]) ++ R) ((L.length + w.length + 1 : Nat) : Int) = b := by rw [e0', rdI _ _ _ _ (by simp; omega)]
      have e3 : ((L ++ a :: (w ++ [b]) ++ R).set L.length b).set (L.length + w.length + 1) a = (L ++ [b]) ++ w ++ (a :: R) := by
        rw [e0, setI _ _ _ _ _ rfl, show L ++ b :: (w ++ b :: R) = (L ++ b :: w) ++ b :: R by simp, setI _ _ _ _ _ (by simp; omega)]
        simp
      have e4 : ((L.length : Int) + ((a :: (w ++ [b])).length : Int) - 1) = ((L.length + w.length + 1 : Nat) : Int) := by rw [← hw]; omega
      have e7 : (L ++ a :: (w ++ [b]) ++ R).length = L.length + (w.length + 2) + R.length := by simp; omega
      have key := ih w.length (by omega) w (L ++ [b]) (a :: R) rfl (by simp [hl]) (by simp only [List.length_append, List.length_cons, List.length_nil]; omega)
      have s1 : Sm L.length := ⟨by omega⟩
      have s2 : Sm (L.length + w.length + 1) := ⟨by omega⟩
      have e5 := wsucc s1
      have e6 := wpred1 s2
      have e8 : L ++ (a :: (w ++ [b])).reverse ++ R = (L ++ [b]) ++ w.reverse ++ (a :: R) := by simp
      rw [e8, e4]
      refine Ev.step (f := fun k => slices_Reverse_byte_byte.l0 k ((L ++ [b]) ++ w ++ (a :: R)) ((L.length + 1 : Nat) : Int) ((L.length + w.length : Nat) : Int)) (fun k => ?_) ?_
      · simp only [slices_Reverse_byte_byte.l0, e1, e2, e5, e6, Int.toNat_natCast, e3, e7]
        clear e1 e2 e3 e5 e6 e4 key ih
        simp (disch := omega) only [if_pos]
      · have e9 : (((L ++ [b]).length : Int) + (w.length : Int) - 1) = ((L.length + w.length : Nat) : Int) := by simp; omega
        rw [e9] at key
        simpa using key
    · refine Ev.step (f := fun _ => some (L ++ M ++ R)) (fun k => ?_) (Ev.eq (Ev.now _) ?_)
      · simp (disch := omega) only [slices_Reverse_byte_byte.l0, if_neg]
      · rcases M with _ | ⟨a, _ | ⟨b, t⟩⟩
        · rfl
        · rfl
        · simp at h2
theorem reverse_f (M : List Int) (hs : M.length < 4611686018427387904) : Ev (fun k => slices_Reverse_byte_byte.f k M) M.reverse := by
  have key := reverse_l0 M.length M [] [] rfl rfl (by simpa using hs)
  unfold slices_Reverse_byte_byte.f
  rw [w64 (by omega) (by omega)]
  simpa using key
theorem tdig (n : Nat) (h : n < 1000000000000000000) : (IntKind.u64.wrap (48 + Int.tmod (n : Int) 10)) % 256 = ((UInt8.ofNat (48 + n % 10)).toNat : Int) ∧ IntKind.u64.wrap (Int.tdiv (n : Int) 10) = ((n / 10 : Nat) : Int) := by
  have h1 : Int.tmod (n : Int) 10 = ((n % 10 : Nat) : Int) := tmodn n 10
  have h2 : Int.tdiv (n : Int) 10 = ((n / 10 : Nat) : Int) := tdivn n 10
  have h3 : n % 10 < 10 := Nat.mod_lt _ (by decide)
  refine ⟨?_, ?_⟩
  · rw [h1, u64w (by omega) (by omega), digit_toNat h3]; omega
  · rw [h2, usmall (by omega)]
theorem text_mid (p : List Int) (i : Nat) (hi : Sm (i + 1)) (hp : i + 1 < p.length) (r : ByteArray) : ∀ (c j n : Nat) (out : List UInt8), j + c = 9 → n < 1000000000 → out.length + c < 140737488355328 →
    Ev (fun k => decimal_pieces_text.l0 k p (B8 (out ++ dgs c n)) p (p.length : Int) ((i + 1 : Nat) : Int)) r → Ev (fun k => decimal_pieces_text.l1 k p (B8 out) (i : Int) (n : Int) (j : Int) p (p.length : Int) (i : Int)) r
  | 0, j, n, out, hj, hn, ho, h => by
    have e1 := wsucc (a := i) (hi.le (by omega))
    rw [dgs, List.append_nil] at h
    refine Ev.step (fun k => ?_) h
    simp only [decimal_pieces_text.l1, e1]
    clear e1
    simp (disch := omega) only [if_neg]
  | c + 1, j, n, out, hj, hn, ho, h => by
    have s1 : n < 1000000000000000000 := by omega
    have s2 : Sm j := ⟨by omega⟩
    have ih := text_mid p i hi hp r c (j + 1) (n / 10) (out ++ [UInt8.ofNat (48 + n % 10)]) (by omega) (by omega) (by simp; omega) (by simpa [dgs] using h)
    have e1 := wsucc (a := i) (hi.le (by omega))
    obtain ⟨e2, e3⟩ := tdig n s1
    have e4 := wsucc s2
    have e5 : B8 out ++ [((UInt8.ofNat (48 + n % 10)).toNat : Int)] = B8 (out ++ [UInt8.ofNat (48 + n % 10)]) := by rw [B8_append]; rfl
    have e6 : (B8 out).length = out.length := B8_length _
    refine Ev.step (fun k => ?_) ih
    simp only [decimal_pieces_text.l1, e1, e2, e3, e4, e5]
    clear e1 e2 e3 e4 e5
    simp (disch := omega) only [if_pos]
theorem text_last (p : List Int) (i : Nat) (hi : Sm (i + 1)) (hp : i + 1 = p.length) (r : ByteArray) : ∀ (c j n : Nat) (out : List UInt8), j + c = 9 → n < 10 ^ c → out.length + c < 140737488355328 →
    Ev (fun k => decimal_pieces_text.l0 k p (B8 (out ++ (if n = 0 then [] else rdig n))) p (p.length : Int) ((i + 1 : Nat) : Int)) r → Ev (fun k => decimal_pieces_text.l1 k p (B8 out) (i : Int) (n : Int) (j : Int) p (p.length : Int) (i : Int)) r
  | 0, j, n, out, hj, hn, ho, h => by
    have e1 := wsucc (a := i) (hi.le (by omega))
    have h0 : n = 0 := by simpa using hn
    subst h0
    rw [if_pos rfl, List.append_nil] at h
    refine Ev.step (fun k => ?_) h
    simp only [decimal_pieces_text.l1, e1]
    clear e1
    simp (disch := omega) only [if_neg]
  | c + 1, j, n, out, hj, hn, ho, h => by
    have h9 : 10 ^ (c + 1) ≤ 10 ^ 9 := Nat.pow_le_pow_right (by decide) (by omega)
    have h99 : (10 : Nat) ^ 9 = 1000000000 := by decide
    rw [h99] at h9
    by_cases h0 : n = 0
    · subst h0
      rw [if_pos rfl, List.append_nil] at h
      have e1 := wsucc (a := i) (hi.le (by omega))
      refine Ev.step (fun k => ?_) h
      simp only [decimal_pieces_text.l1, e1]
      clear e1 h9 hn
      simp (disch := omega) only [if_pos, if_neg]
    · have s1 : n < 1000000000000000000 := by omega
      have s2 : Sm j := ⟨by omega⟩
      have e5 : B8 out ++ [((UInt8.ofNat (48 + n % 10)).toNat : Int)] = B8 (out ++ [UInt8.ofNat (48 + n % 10)]) := by rw [B8_append]; rfl
      have e6 : (B8 out).length = out.length := B8_length _
      have e7 : UInt8.ofNat (48 + n % 10) :: (if n / 10 = 0 then [] else rdig (n / 10)) = if n = 0 then [] else rdig n := by
        rw [if_neg h0]
        by_cases h10 : n < 10
        · rw [if_pos (by omega), rdig_small h10, Nat.mod_eq_of_lt h10]
        · rw [if_neg (show ¬ n / 10 = 0 by omega), rdig_big (n := n) (by omega)]
      have hn' : n / 10 < 10 ^ c := by rw [Nat.pow_succ] at hn; omega
      have ih := text_last p i hi hp r c (j + 1) (n / 10) (out ++ [UInt8.ofNat (48 + n % 10)]) (by omega) hn' (by simp; omega) (by rw [List.append_assoc, List.singleton_append, e7]; exact h)
      have e1 := wsucc (a := i) (hi.le (by omega))
      obtain ⟨e2, e3⟩ := tdig n s1
      have e4 := wsucc s2
      refine Ev.step (fun k => ?_) ih
      simp only [decimal_pieces_text.l1, e1, e2, e3, e4, e5]
      clear e1 e2 e3 e4 e5 e7 hn hn' h9
      simp (disch := omega) only [if_pos, if_neg]
theorem text_l0 (p : List Nat) (hp : Ok p) (hs : p.length < 8796093022208) : ∀ (Q P : List Nat) (m : Nat) (out : List UInt8), p = P ++ Q → Q = pcs m → out.length = 9 * P.length →
    Ev (fun k => decimal_pieces_text.l0 k (C p) (B8 out) (C p) (p.length : Int) (P.length : Int)) ⟨(out ++ (if m = 0 then [] else rdig m)).reverse.toArray⟩
  | [], P, m, out, hpq, hm, ho => by
    have h0 : m = 0 := pcs_nil_iff.1 hm.symm
    have hl : p.length = P.length := by rw [hpq]; simp
    rw [if_pos h0, List.append_nil]
    have e1 : (B8 out).reverse = B8 out.reverse := by simp [B8]
    have key := reverse_f (B8 out) (by rw [B8_length]; omega)
    rw [e1] at key
    refine Ev.step (f := fun k => (slices_Reverse_byte_byte.f k (B8 out)).bind fun t141 => (some (strOfNums t141))) (fun k => ?_) (Ev.eq (Ev.bind key (Ev.now _)) (by rw [strOfNums_B8]))
    simp (disch := omega) only [decimal_pieces_text.l0, if_neg]
  | n :: Q, P, m, out, hpq, hm, ho => by
    have hl : p.length = P.length + (Q.length + 1) := by rw [hpq]; simp
    have h0 : m ≠ 0 := fun e => by rw [e, pcs_zero] at hm; cases hm
    rw [pcs_pos h0] at hm
    injection hm with hn hQ
    have e1 : rd (C p) (P.length : Int) = n := by rw [hpq, rd_at _ _ _ _ rfl]
    have hn9 : n < 1000000000 := by rw [hn]; exact Nat.mod_lt _ (by decide)
    have hmn : m = n + 1000000000 * (m / 1000000000) := by omega
    have hC : (C p).length = p.length := C_length _
    refine Ev.step (f := fun k => decimal_pieces_text.l1 k (C p) (B8 out) (P.length : Int) (n : Int) 0 (C p) ((C p).length : Int) (P.length : Int)) (fun k => ?_) ?_
    · simp only [decimal_pieces_text.l0, e1, hC]
      clear e1
      simp (disch := omega) only [if_pos]
    · rw [if_neg h0]
      by_cases hq : m / 1000000000 = 0
      · have hQ0 : Q = [] := by rw [hQ, hq, pcs_zero]
        subst hQ0
        have ih := text_l0 p hp hs [] (P ++ [n]) 0 (out ++ rdig m) (by rw [hpq]; simp) pcs_zero.symm
        have hmn' : m = n := by omega
        refine text_last (C p) P.length ⟨by omega⟩ (by rw [hC]; simpa using hl.symm) _ 9 0 n out (by omega) (by simpa using hn9) (by omega) ?_
        have hn0 : n ≠ 0 := by omega
        rw [if_neg hn0, hC, ← hmn']
        have e9 : (B8 (out ++ rdig m)).reverse = B8 (out ++ rdig m).reverse := by simp [B8]
        have hrl : (rdig m).length ≤ 9 := by rw [rdig, List.length_reverse, Lib.decDigits_length]; exact nDig_le (by decide) (by omega)
        have key := reverse_f (B8 (out ++ rdig m)) (by rw [B8_length, List.length_append]; omega)
        rw [e9] at key
        refine Ev.step (f := fun k => (slices_Reverse_byte_byte.f k (B8 (out ++ rdig m))).bind fun t141 => (some (strOfNums t141))) (fun k => ?_) (Ev.eq (Ev.bind key (Ev.now _)) (by rw [strOfNums_B8]))
        rw [List.length_nil] at hl
        simp (disch := omega) only [decimal_pieces_text.l0, if_neg]
      · have hQl : 1 ≤ Q.length := by
          rcases Q with _ | ⟨a, t⟩
          · exact absurd (pcs_nil_iff.1 hQ.symm) hq
          · simp
        have ih := text_l0 p hp hs Q (P ++ [n]) (m / 1000000000) (out ++ dgs 9 n) (by rw [hpq]; simp) hQ (by simp [dgs]; omega)
        refine text_mid (C p) P.length ⟨by omega⟩ (by rw [hC]; omega) _ 9 0 n out (by omega) hn9 (by omega) ?_
        rw [if_neg hq] at ih
        rw [hC]
        have e9 : rdig m = dgs 9 n ++ rdig (m / 1000000000) := by
          rw [← dec_val_cons hn9 hq, ← hmn]
        rw [e9, ← List.append_assoc]
        simpa using ih
theorem text_f (n : Nat) (hs : (pcs n).length < 8796093022208) : Ev (fun k => decimal_pieces_text.f k (C (pcs n))) (S n) := by
  unfold decimal_pieces_text.f
  have hC : (C (pcs n)).length = (pcs n).length := C_length _
  rw [hC]
  by_cases h0 : n = 0
  · subst h0
    have hz : (pcs 0).length = 0 := by rw [pcs_zero]; rfl
    simp (disch := omega) only [if_pos]
    rw [zero_str]
    exact Ev.now _
  · have hl : (pcs n).length ≠ 0 := fun e => h0 (pcs_nil_iff.1 (List.length_eq_zero_iff.1 e))
    have key := text_l0 (pcs n) (ok_pcs n) hs (pcs n) [] n [] rfl rfl rfl
    have e1 : wrap64 (9 * ((pcs n).length : Int)) = ((9 * (pcs n).length : Nat) : Int) := by rw [w64 (by omega) (by omega)]; omega
    have e2 : (⟨([] ++ (if n = 0 then [] else rdig n)).reverse.toArray⟩ : ByteArray) = S n := by
      rw [if_neg h0, List.nil_append, rdig, List.reverse_reverse]; rfl
    rw [e2] at key
    simp only [e1, Int.toNat_natCast]
    clear e1 e2
    simp (disch := omega) only [if_pos, if_neg]
    exact key
end Go.Proofs.YtcfddphiflmnlaaDoor.P

namespace Go.Proofs.YtcfddphiflmnlaaDoor.P
open Go.RowKit Go.Proofs.YtcfddphiflmnlaaDoorW.PrintWords
theorem mod_lt9 (n : Nat) : n % 1000000000 < 1000000000 := Nat.mod_lt _ (by decide)
end Go.Proofs.YtcfddphiflmnlaaDoor.P

namespace Go.Proofs.YtcfddphiflmnlaaDoor.P
open Go.RowKit Go.Proofs.YtcfddphiflmnlaaDoorW.PrintWords
def mrow (a : Nat) : Nat → List Nat → List Nat → List Nat
  | c, [], _ => [c]
  | c, _ :: _, [] => [c]
  | c, w :: W, b :: Q => ((c + (w + a * b)) % 1000000000) :: mrow a ((c + (w + a * b)) / 1000000000) W Q
theorem mrow_arith {a w b c : Nat} (ha : a < 1000000000) (hw : w < 1000000000) (hb : b < 1000000000) (hc : c < 1000000000) :
    IntKind.u64.wrap ((c : Int) + IntKind.u64.wrap ((w : Int) + IntKind.u64.wrap ((a : Int) * (b : Int)))) = ((c + (w + a * b) : Nat) : Int) ∧ IntKind.u64.wrap (((c + (w + a * b)) / 1000000000 : Nat) : Int) = (((c + (w + a * b)) / 1000000000 : Nat) : Int) ∧ (c + (w + a * b)) / 1000000000 < 1000000000 := by
  have h : a * b ≤ 999999999 * 999999999 := Nat.mul_le_mul (by omega) (by omega)
  refine ⟨?_, usmall (by omega), by omega⟩
  rw [umul (by omega), uadd (by omega), uadd (by omega)]
theorem mrow_spec (a : Nat) (ha : a < 1000000000) : ∀ (Q W : List Nat) (c : Nat), W.length = Q.length → Ok W → Ok Q → c < 1000000000 →
    (mrow a c W Q).length = W.length + 1 ∧ Ok (mrow a c W Q) ∧ val (mrow a c W Q) = val W + a * val Q + c
  | [], [], c, _, _, _, hc => ⟨rfl, Ok.cons hc Ok.nil, by simp [mrow, val]⟩
  | [], _ :: _, _, h, _, _, _ => by simp at h
  | _ :: _, [], _, h, _, _, _ => by simp at h
  | b :: Q, w :: W, c, h, hW, hQ, hc => by
    obtain ⟨_, _, m3⟩ := mrow_arith ha hW.head hQ.head hc
    obtain ⟨i1, i2, i3⟩ := mrow_spec a ha Q W ((c + (w + a * b)) / 1000000000) (by simpa using h) hW.tail hQ.tail m3
    refine ⟨by simp [mrow, i1], Ok.cons (mod_lt9 _) i2, ?_⟩
    simp only [mrow, val, i3]
    rw [Nat.mul_add a, Nat.mul_left_comm a 1000000000]
    generalize a * val Q = u
    generalize a * b = ab
    omega
theorem times_in (k : Nat) (Q1 Q2 L R : List Nat) (w b i a c : Nat) (p : List Int) (n m : Int) (hL : L.length = i + Q1.length) (ha : a < 1000000000) (hw : w < 1000000000) (hb : b < 1000000000) (hc : c < 1000000000) (hs : Sm (i + Q1.length)) (hs1 : Sm Q1.length) :
    decimal_pieces_times.l1 (k + 1) (C (Q1 ++ b :: Q2)) (C (L ++ w :: R)) (i : Int) (a : Int) (c : Int) p n m (C (Q1 ++ b :: Q2)) (((Q1 ++ b :: Q2).length : Nat) : Int) (Q1.length : Int) =
      decimal_pieces_times.l1 k (C (Q1 ++ b :: Q2)) (C (L ++ ((c + (w + a * b)) % 1000000000) :: R)) (i : Int) (a : Int) (((c + (w + a * b)) / 1000000000 : Nat) : Int) p n m (C (Q1 ++ b :: Q2)) (((Q1 ++ b :: Q2).length : Nat) : Int) ((Q1.length + 1 : Nat) : Int) := by
  have hl1 : (C (Q1 ++ b :: Q2)).length = Q1.length + (Q2.length + 1) := by rw [C_length]; simp
  have hl2 : (Q1 ++ b :: Q2).length = Q1.length + (Q2.length + 1) := by simp
  have hl0 : (C (L ++ w :: R)).length = i + Q1.length + (R.length + 1) := by rw [C_length]; simp [hL]
  obtain ⟨e3, e4, _⟩ := mrow_arith ha hw hb hc
  have e1 := wadd hs
  have e2 := rd_at L R w (i + Q1.length) hL
  have e7 := rd_at Q1 Q2 b Q1.length rfl
  have e5 := wsucc hs1
  have e6 := set_at L R w ((c + (w + a * b)) % 1000000000) _ hL
  simp only [decimal_pieces_times.l1, e1, e2, e7, e3, tdiv9, tmod9, e4, e5, e6]
  clear e1 e2 e3 e4 e5 e6 e7 ha hw hb hc hs hs1
  generalize (c + (w + a * b)) / 1000000000 = e'
  generalize (c + (w + a * b)) % 1000000000 = e
  simp (disch := omega) only [if_pos]
theorem times_out (k : Nat) (Q L R : List Nat) (z i a c : Nat) (p : List Int) (n : Int) (hL : L.length = i + Q.length) (hs : Sm (i + Q.length)) (hs1 : Sm i) :
    decimal_pieces_times.l1 (k + 1) (C Q) (C (L ++ z :: R)) (i : Int) (a : Int) (c : Int) p n (i : Int) (C Q) ((Q.length : Nat) : Int) (Q.length : Int) =
      decimal_pieces_times.l0 k (C Q) (C (L ++ c :: R)) p n ((i + 1 : Nat) : Int) := by
  have hl1 : (C Q).length = Q.length := C_length _
  have hl0 : (C (L ++ z :: R)).length = i + Q.length + (R.length + 1) := by rw [C_length]; simp [hL]
  have e1 := wadd hs
  have e5 := wsucc hs1
  have e6 := set_at L R z c _ hL
  simp only [decimal_pieces_times.l1, hl1, e1, e5, e6]
  clear e1 e5 e6 hs hs1
  simp (disch := omega) only [if_pos, if_neg]
theorem times_l1 (a : Nat) (ha : a < 1000000000) (p : List Int) (n : Int) {r : List Int} : ∀ (Q2 Q1 L W R : List Nat) (z i c : Nat), W.length = Q2.length → L.length = i + Q1.length → Ok W → Ok Q2 → c < 1000000000 → Sm (i + (Q1 ++ Q2).length) →
    Ev (fun k => decimal_pieces_times.l0 k (C (Q1 ++ Q2)) (C (L ++ mrow a c W Q2 ++ R)) p n ((i + 1 : Nat) : Int)) r →
    Ev (fun k => decimal_pieces_times.l1 k (C (Q1 ++ Q2)) (C (L ++ W ++ z :: R)) (i : Int) (a : Int) (c : Int) p n (i : Int) (C (Q1 ++ Q2)) (((Q1 ++ Q2).length : Nat) : Int) (Q1.length : Int)) r
  | [], Q1, L, [], R, z, i, c, _, hL, _, _, _, hs, hr => by
    rw [List.append_nil] at hs hr ⊢
    rw [List.append_nil]
    exact Ev.step (fun k => times_out k Q1 L R z i a c p n hL hs (hs.le (by omega))) (by simpa [mrow] using hr)
  | [], _, _, _ :: _, _, _, _, _, h, _, _, _, _, _, _ => by simp at h
  | _ :: _, _, _, [], _, _, _, _, h, _, _, _, _, _, _ => by simp at h
  | b :: Q2, Q1, L, w :: W, R, z, i, c, hWQ, hL, hW, hQ, hc, hs, hr => by
    have e0 : L ++ w :: W ++ z :: R = L ++ w :: (W ++ z :: R) := by simp
    have hs1 : Sm (i + Q1.length) := hs.le (by simp)
    have ih := times_l1 a ha p n Q2 (Q1 ++ [b]) (L ++ [(c + (w + a * b)) % 1000000000]) W R z i ((c + (w + a * b)) / 1000000000) (by simpa using hWQ) (by simp [hL]; omega) hW.tail hQ.tail (mrow_arith ha hW.head hQ.head hc).2.2 (hs.le (by simp)) (by simpa [mrow] using hr)
    rw [e0]
    exact Ev.step (fun k => times_in k Q1 Q2 L (W ++ z :: R) w b i a c p n i hL ha hW.head hQ.head hc hs1 (hs1.le (by omega))) (by simpa using ih)
theorem times_head (k : Nat) (P1 P2 : List Nat) (a : Nat) (q out : List Int) :
    decimal_pieces_times.l0 (k + 1) q out (C (P1 ++ a :: P2)) (((P1 ++ a :: P2).length : Nat) : Int) (P1.length : Int) =
      decimal_pieces_times.l1 k q out (P1.length : Int) (a : Int) 0 (C (P1 ++ a :: P2)) (((P1 ++ a :: P2).length : Nat) : Int) (P1.length : Int) q (q.length : Int) 0 := by
  have hl1 : (C (P1 ++ a :: P2)).length = P1.length + (P2.length + 1) := by rw [C_length]; simp
  have hl2 : (P1 ++ a :: P2).length = P1.length + (P2.length + 1) := by simp
  have e2 := rd_at P1 P2 a P1.length rfl
  simp only [decimal_pieces_times.l0, e2]
  clear e2
  simp (disch := omega) only [if_pos]
theorem times_l0 (Q : List Nat) (hQ : Ok Q) : ∀ (P2 P1 M : List Nat), Ok P2 → Ok M → M.length = P1.length + Q.length → val M = val P1 * val Q → Sm ((P1 ++ P2).length + Q.length) →
    Ev (fun k => decimal_pieces_times.l0 k (C Q) (C (M ++ List.replicate P2.length 0)) (C (P1 ++ P2)) (((P1 ++ P2).length : Nat) : Int) (P1.length : Int)) (C (pcs (val (P1 ++ P2) * val Q)))
  | [], P1, M, _, hM, hl, hv, hs => by
    have ht := trim_f M hM (by have := hs.out; simp at this; omega)
    refine Ev.step (f := fun k => (decimal_pieces_trim.f k (C M)).bind fun t163 => (some t163)) (fun k => ?_) (Ev.eq (Ev.bind ht (Ev.now _)) (by rw [hv, List.append_nil]))
    have h : ¬ (P1.length : Int) < ((P1.length : Nat) : Int) := by omega
    simp only [List.append_nil, List.length_nil, List.replicate_zero]
    simp only [decimal_pieces_times.l0, if_neg h]
  | a :: P2, P1, M, hP, hM, hl, hv, hs => by
    have ha := hP.head
    obtain ⟨L, W, rfl, hL⟩ : ∃ L W, M = L ++ W ∧ L.length = P1.length := ⟨M.take P1.length, M.drop P1.length, (List.take_append_drop _ _).symm, by rw [List.length_take]; omega⟩
    have hW : W.length = Q.length := by simp [hL] at hl; omega
    obtain ⟨m1, m2, m3⟩ := mrow_spec a ha Q W 0 hW hM.right hQ (by omega)
    have ih := times_l0 Q hQ P2 (P1 ++ [a]) (L ++ mrow a 0 W Q) hP.tail (hM.left.append m2) (by simp [m1, hL, hW]; omega) (by
      rw [val_append, hL] at hv
      rw [val_append, m3, val_snoc, Nat.add_zero, Nat.mul_add, ← Nat.add_assoc, hL, hv, Nat.add_mul, Nat.mul_assoc]) (hs.le (by simp))
    refine Ev.step (fun k => times_head k P1 P2 a (C Q) _) ?_
    have key := times_l1 a ha (C (P1 ++ a :: P2)) (((P1 ++ a :: P2).length : Nat) : Int) Q [] L W (List.replicate P2.length 0) 0 P1.length 0 hW (by simp [hL]) hM.right hQ (by omega) (hs.le (by simp)) (by simpa using ih)
    simpa [C_length, List.replicate_succ] using key
end Go.Proofs.YtcfddphiflmnlaaDoor.P

namespace Go.Proofs.YtcfddphiflmnlaaDoor.P
open Go.RowKit Go.Proofs.YtcfddphiflmnlaaDoorW.PrintWords
theorem times_f (P Q : List Nat) (hP : Ok P) (hQ : Ok Q) (h : P.length + Q.length < 17592186044416) :
    Ev (fun k => decimal_pieces_times.f k (C P) (C Q)) (C (pcs (val P * val Q))) := by
  have key := times_l0 Q hQ P [] (List.replicate Q.length 0) hP (fun a ha => by have := List.eq_of_mem_replicate ha; omega) (by simp) (by simp [val, val_zeros]) ⟨by simp; omega⟩
  have e1 := wadd (a := P.length) (b := Q.length) ⟨by omega⟩
  have e2 : List.replicate (P.length + Q.length) (0 : Int) = C (List.replicate Q.length 0 ++ List.replicate P.length 0) := by
    rw [List.replicate_append_replicate, ← C_zeros, Nat.add_comm]
  have key2 : Ev (fun k => decimal_pieces_times.l0 k (C Q) (C (List.replicate Q.length 0 ++ List.replicate P.length 0)) (C P) (P.length : Int) 0) (C (pcs (val P * val Q))) := by simpa using key
  unfold decimal_pieces_times.f
  simp only [C_length, e1, Int.toNat_natCast, e2]
  clear e1 e2 key
  simp (disch := omega) only [if_pos]
  exact key2
end Go.Proofs.YtcfddphiflmnlaaDoor.P

namespace Go.Proofs.YtcfddphiflmnlaaDoor.P
open Go.RowKit Go.Proofs.YtcfddphiflmnlaaDoorW.PrintWords
structure Md (n : Nat) : Prop where
  out : Lib.nDigits n ≤ 1000000
theorem pcs_len_nDig (n : Nat) : (pcs n).length ≤ Lib.nDigits n := by
  apply pcs_len_le
  refine Nat.lt_of_lt_of_le (Lib.lt_pow_nDigits n) ?_
  exact Nat.pow_le_pow_left (by decide) _
theorem Md.pcs {n : Nat} (h : Md n) : (pcs n).length ≤ 1000000 := Nat.le_trans (pcs_len_nDig n) h.out
theorem nDig_mul (a b : Nat) : Lib.nDigits (a * b) ≤ Lib.nDigits a + Lib.nDigits b := by
  refine nDig_le (by have := Lib.nDigits_pos a; omega) ?_
  rw [Nat.pow_add]
  exact Nat.mul_lt_mul'' (Lib.lt_pow_nDigits a) (Lib.lt_pow_nDigits b)
end Go.Proofs.YtcfddphiflmnlaaDoor.P

namespace Go.Proofs.YtcfddphiflmnlaaDoor.P
open Go.RowKit Go.Proofs.YtcfddphiflmnlaaDoorW.PrintWords
def blen (n : Nat) : Nat := if h : n = 0 then 0 else blen (n / 2) + 1
termination_by n
decreasing_by omega
theorem blen_zero : blen 0 = 0 := by rw [blen, dif_pos rfl]
theorem blen_pos {n : Nat} (h : n ≠ 0) : blen n = blen (n / 2) + 1 := by rw [blen, dif_neg h]
theorem lt_pow_blen (n : Nat) : n < 2 ^ blen n := by
  induction n using Nat.strongRecOn with
  | _ n ih =>
    by_cases h : n = 0
    · subst h; rw [blen_zero]; decide
    · rw [blen_pos h, Nat.pow_succ]
      have := ih (n / 2) (by omega)
      omega
theorem blen_le {n k : Nat} (h : n < 2 ^ k) : blen n ≤ k := by
  induction k generalizing n with
  | zero => rw [show n = 0 by simpa using h, blen_zero]; omega
  | succ k ih =>
    by_cases h0 : n = 0
    · subst h0; rw [blen_zero]; omega
    · rw [blen_pos h0]
      have := ih (n := n / 2) (by rw [Nat.pow_succ] at h; omega)
      omega
theorem pow_le_blen {n k : Nat} (h : k < blen n) : 2 ^ k ≤ n := by
  rcases Nat.lt_or_ge n (2 ^ k) with h1 | h1
  · have := blen_le h1; omega
  · exact h1
theorem blen_lib (f n : Nat) (h : n < 2 ^ f) : Lib.bitLenAux f n = blen n := by
  induction f generalizing n with
  | zero => rw [show n = 0 by simpa using h, blen_zero]; rfl
  | succ f ih =>
    by_cases h0 : n = 0
    · subst h0; rw [blen_zero]; simp [Lib.bitLenAux]
    · rw [blen_pos h0, Lib.bitLenAux, if_neg h0, ih (n / 2) (by rw [Nat.pow_succ] at h; omega), Nat.add_comm]
theorem len64_f (n : Nat) (h : n < 18446744073709551616) : bits_Len64.f (n : Int) = some ((blen n : Nat) : Int) := by
  unfold bits_Len64.f
  rw [if_pos (by omega), Int.toNat_natCast, Lib.bitLen, blen_lib 64 n h]
def val32 : List Nat → Nat
  | [] => 0
  | a :: l => a + 4294967296 * val32 l
def Ok32 (l : List Nat) : Prop := ∀ a, a ∈ l → a < 4294967296
theorem Ok32.nil : Ok32 [] := fun _ h => by cases h
theorem Ok32.cons {a : Nat} {l : List Nat} (ha : a < 4294967296) (hl : Ok32 l) : Ok32 (a :: l) := fun x hx => by
  rcases List.mem_cons.1 hx with rfl | hx
  · exact ha
  · exact hl x hx
theorem Ok32.head {a : Nat} {l : List Nat} (h : Ok32 (a :: l)) : a < 4294967296 := h a List.mem_cons_self
theorem Ok32.tail {a : Nat} {l : List Nat} (h : Ok32 (a :: l)) : Ok32 l := fun x hx => h x (List.mem_cons_of_mem _ hx)
def Top (l : List Nat) : Prop := ∀ m a, l = m ++ [a] → a ≠ 0
def brow : Nat → List Nat → List Nat
  | c, [] => if c = 0 then [] else [c]
  | c, w :: W => ((c + w * 1000000000) % 4294967296) :: brow ((c + w * 1000000000) / 4294967296) W
theorem brow_val : ∀ (W : List Nat) (c : Nat), val32 (brow c W) = val32 W * 1000000000 + c
  | [], c => by
    unfold brow
    by_cases h : c = 0
    · rw [if_pos h, h]; rfl
    · rw [if_neg h]; simp [val32]
  | w :: W, c => by
    have ih := brow_val W ((c + w * 1000000000) / 4294967296)
    simp only [brow, val32, ih]
    omega
theorem brow_ok : ∀ (W : List Nat) (c : Nat), c < 4294967296 → Ok32 W → Ok32 (brow c W)
  | [], c, hc, _ => by
    unfold brow
    by_cases h : c = 0
    · rw [if_pos h]; exact Ok32.nil
    · rw [if_neg h]; exact Ok32.cons hc Ok32.nil
  | w :: W, c, hc, hW => by
    have := hW.head
    exact Ok32.cons (Nat.mod_lt _ (by decide)) (brow_ok W _ (by omega) hW.tail)
theorem brow_nonempty : ∀ (W : List Nat) (c : Nat), W ≠ [] → brow c W ≠ []
  | [], _, h => absurd rfl h
  | _ :: _, _, _ => by simp [brow]
theorem brow_top : ∀ (W : List Nat) (c : Nat), Top W → Ok32 W → c < 4294967296 → Top (brow c W)
  | [], c, _, _, _ => by
    intro m a h
    unfold brow at h
    by_cases h0 : c = 0
    · rw [if_pos h0] at h
      cases m <;> cases h
    · rw [if_neg h0] at h
      rcases m with _ | ⟨x, m⟩
      · injection h with h1 _
        omega
      · simp at h
  | [w], c, hT, hW, hc => by
    have hw := hT [] w rfl
    intro m a h
    simp only [brow] at h
    by_cases h0 : (c + w * 1000000000) / 4294967296 = 0
    · rw [if_pos h0] at h
      rcases m with _ | ⟨x, m⟩
      · injection h with h1 _
        omega
      · simp at h
    · rw [if_neg h0] at h
      rcases m with _ | ⟨x, _ | ⟨y, m⟩⟩
      · simp at h
      · simp at h
        omega
      · simp at h
  | w :: x :: W, c, hT, hW, hc => by
    have := hW.head
    have ih := brow_top (x :: W) ((c + w * 1000000000) / 4294967296) (fun m a h => hT (w :: m) a (by rw [h]; rfl)) hW.tail (by omega)
    intro m a h
    rw [brow] at h
    rcases m with _ | ⟨y, m⟩
    · injection h with _ h2
      exact absurd h2 (brow_nonempty _ _ (by simp))
    · injection h with _ h2
      exact ih m a h2
theorem brow_len : ∀ (W : List Nat) (c : Nat), (brow c W).length ≤ W.length + 1
  | [], c => by
    unfold brow
    by_cases h : c = 0
    · rw [if_pos h]; simp
    · rw [if_neg h]; simp
  | w :: W, c => by
    have := brow_len W ((c + w * 1000000000) / 4294967296)
    simp only [brow, List.length_cons]
    omega
theorem val32_snoc (l : List Nat) (a : Nat) : val32 (l ++ [a]) = val32 l + 2 ^ (32 * l.length) * a := by
  induction l with
  | nil => simp [val32]
  | cons b l ih =>
    simp only [List.cons_append, val32, ih, List.length_cons]
    rw [show 32 * (l.length + 1) = 32 * l.length + 32 by omega, Nat.pow_add, Nat.mul_add, ← Nat.add_assoc, Nat.mul_comm (2 ^ (32 * l.length)) (2 ^ 32), Nat.mul_assoc]
theorem val32_lt {l : List Nat} (h : Ok32 l) : val32 l < 2 ^ (32 * l.length) := by
  induction l with
  | nil => simp [val32]
  | cons b l ih =>
    have h1 := h.head
    have h2 := ih h.tail
    simp only [val32, List.length_cons]
    rw [show 32 * (l.length + 1) = 32 * l.length + 32 by omega, Nat.pow_add]
    have : (2 : Nat) ^ 32 = 4294967296 := by decide
    rw [this]
    omega
theorem blen_val32 (l : List Nat) (a : Nat) (hl : Ok32 l) (ha : a ≠ 0) : blen (val32 (l ++ [a])) = 32 * l.length + blen a := by
  have h1 := val32_lt hl
  have h2 := lt_pow_blen a
  have h3 : 2 ^ (blen a - 1) ≤ a := pow_le_blen (by rw [blen_pos ha]; omega)
  have h4 : blen a = blen a - 1 + 1 := by rw [blen_pos ha]; omega
  rw [val32_snoc]
  apply Nat.le_antisymm
  · apply blen_le
    rw [Nat.pow_add]
    have : 2 ^ (32 * l.length) * (a + 1) ≤ 2 ^ (32 * l.length) * 2 ^ blen a := Nat.mul_le_mul_left _ h2
    rw [Nat.mul_add, Nat.mul_one] at this
    omega
  · have h5 : 2 ^ (32 * l.length) * 2 ^ (blen a - 1) ≤ 2 ^ (32 * l.length) * a := Nat.mul_le_mul_left _ h3
    rw [← Nat.pow_add] at h5
    have h6 : ¬ blen (val32 l + 2 ^ (32 * l.length) * a) ≤ 32 * l.length + (blen a - 1) := fun h7 => by
      have h8 := lt_pow_blen (val32 l + 2 ^ (32 * l.length) * a)
      have h9 : 2 ^ blen (val32 l + 2 ^ (32 * l.length) * a) ≤ 2 ^ (32 * l.length + (blen a - 1)) := Nat.pow_le_pow_right (by decide) h7
      omega
    omega
theorem b_arith {c w : Nat} (hc : c ≤ 1000000000) (hw : w < 4294967296) :
    IntKind.u64.wrap ((c : Int) + IntKind.u64.wrap ((w : Int) * 1000000000)) = ((c + w * 1000000000 : Nat) : Int) ∧ Go.bits .and .u64 ((c + w * 1000000000 : Nat) : Int) 4294967295 = (((c + w * 1000000000) % 4294967296 : Nat) : Int) ∧ ((c + w * 1000000000 : Nat) : Int) / 4294967296 = (((c + w * 1000000000) / 4294967296 : Nat) : Int) ∧ (c + w * 1000000000) / 4294967296 ≤ 1000000000 := by
  refine ⟨?_, ?_, ?_, ?_⟩
  · rw [show (1000000000 : Int) = ((1000000000 : Nat) : Int) from rfl, umul (by omega), uadd (by omega)]
  · rw [show (4294967295 : Int) = ((4294967295 : Nat) : Int) from rfl, bits_and_u64_nat _ _ (by omega) (by decide)]
    congr 1
    exact Nat.and_two_pow_sub_one_eq_mod _ 32
  · omega
  · omega
theorem bits_l1 (p : List Int) (i : Int) (hi : wrap64 (i - 1) = i - 1) {r : Int} : ∀ (W L : List Nat) (c : Nat), Ok32 W → c ≤ 1000000000 → (L ++ W).length ≤ 2000000 →
    Ev (fun k => decimal_Bits.l0 k (C (L ++ brow c W)) p (i - 1)) r → Ev (fun k => decimal_Bits.l1 k (C (L ++ W)) p i (c : Int) (((L ++ W).length : Nat) : Int) (L.length : Int)) r
  | [], L, c, _, _, hs, h => by
    rw [List.append_nil] at hs ⊢
    have hC : (C L).length = L.length := C_length _
    by_cases h0 : c = 0
    · subst h0
      rw [brow, if_pos rfl, List.append_nil] at h
      refine Ev.step (fun k => ?_) h
      simp only [decimal_Bits.l1, hi]
      clear hi
      simp (disch := omega) only [if_neg]
    · rw [brow, if_neg h0, C_append] at h
      refine Ev.step (fun k => ?_) h
      simp only [decimal_Bits.l1, hi]
      clear hi
      simp (disch := omega) only [if_neg, if_pos]
      rfl
  | w :: W, L, c, hW, hc, hs, h => by
    have hl2 : (L ++ w :: W).length = L.length + (W.length + 1) := by simp
    have hC : (C (L ++ w :: W)).length = L.length + (W.length + 1) := by rw [C_length, hl2]
    obtain ⟨e1, e2, e3, e4⟩ := b_arith hc hW.head
    have s1 : Sm L.length := ⟨by omega⟩
    have ih := bits_l1 p i hi W (L ++ [(c + w * 1000000000) % 4294967296]) ((c + w * 1000000000) / 4294967296) hW.tail e4 (by simp at hs ⊢; omega) (by simpa [brow] using h)
    have e5 := rd_at L W w L.length rfl
    have e6 := set_at L W w ((c + w * 1000000000) % 4294967296) L.length rfl
    have e7 := wsucc s1
    refine Ev.step (f := fun k => decimal_Bits.l1 k (C (L ++ ((c + w * 1000000000) % 4294967296) :: W)) p i (((c + w * 1000000000) / 4294967296 : Nat) : Int) (((L ++ w :: W).length : Nat) : Int) ((L.length + 1 : Nat) : Int)) (fun k => ?_) ?_
    · simp only [decimal_Bits.l1, e5, e1, e2, e3, e6, e7]
      clear e1 e2 e3 e4 e5 e6 e7 hi h ih
      simp (disch := omega) only [if_pos]
    · simpa using ih
theorem bits_l0 : ∀ (i : Nat) (P R : List Nat) (W : List Nat) (x : Int), P.length = i → x = (i : Int) - 1 → Ok P → Ok32 W → Top W → val32 W = val R → (P ++ R).length ≤ 1000000 → W.length ≤ R.length → val (P ++ R) ≠ 0 →
    Ev (fun k => decimal_Bits.l0 k (C W) (C (P ++ R)) x) ((blen (val (P ++ R)) : Nat) : Int)
  | 0, P, R, W, x, hP, hx, hOk, hW, hT, hv, hs, hl, h0 => by
    obtain rfl := List.length_eq_zero_iff.1 hP
    rw [List.nil_append] at h0 hs ⊢
    rcases List.eq_nil_or_concat W with e | ⟨m, a, e⟩
    · rw [e] at hv
      exact absurd hv.symm h0
    · have e' : W = m ++ [a] := by simpa using e
      subst e'
      have ha := hT m a rfl
      have hm : Ok32 m := fun y hy => hW y (by simp [hy])
      have ha2 : a < 4294967296 := hW a (by simp)
      have hml : (m ++ [a]).length = m.length + 1 := by simp
      have hC : (C (m ++ [a])).length = m.length + 1 := by rw [C_length, hml]
      have hb := blen_le (n := a) (k := 32) (by omega)
      have e5 := len64_f a (by omega)
      have e6 := blen_val32 m a hm ha
      rw [hv] at e6
      have e2 : rd (C (m ++ [a])) (m.length : Int) = a := rd_at m [] a m.length rfl
      have s1 : Sm (m.length + 1) := ⟨by omega⟩
      have e7 : wrap64 (wrap64 (32 * (m.length : Int)) + ((blen a : Nat) : Int)) = ((blen (val R) : Nat) : Int) := by
        rw [w64 (n := 32 * (m.length : Int)) (by omega) (by omega), w64 (by omega) (by omega), e6]
        omega
      refine Ev.step (f := fun _ => some ((blen (val R) : Nat) : Int)) (fun k => ?_) (Ev.now _)
      have e1 := wpred1 s1
      simp only [decimal_Bits.l0, hC, e1, e2, e5, Option.bind_some, e7]
      clear e1 e2 e5 e7 e6
      simp (disch := omega) only [if_neg, if_pos]
  | i + 1, P, R, W, x, hP, hx, hOk, hW, hT, hv, hs, hl, h0 => by
    obtain ⟨P, a, rfl, hP1⟩ := concat_of_len hP
    have ha : a < 1000000000 := hOk a (by simp)
    obtain rfl : x = (i : Int) := by omega
    have e0 : P ++ [a] ++ R = P ++ a :: R := by simp
    rw [e0] at h0 hs ⊢
    have hs2 : (P ++ a :: R).length = i + (R.length + 1) := by rw [List.length_append, List.length_cons, hP1]
    have ih := bits_l0 i P (a :: R) (brow a W) ((i : Int) - 1) hP1 rfl hOk.left (brow_ok W a (by omega) hW) (brow_top W a hT hW (by omega)) (by rw [brow_val, hv, val]; omega) hs (by have := brow_len W a; simp; omega) h0
    have e1 : rd (C (P ++ a :: R)) (i : Int) = a := rd_at P R a i hP1
    have hC : (C (P ++ a :: R)).length = i + (R.length + 1) := by rw [C_length, hs2]
    have hCW : (C W).length = W.length := C_length _
    have hw : wrap64 ((i : Int) - 1) = (i : Int) - 1 := w64 (by omega) (by omega)
    have key := bits_l1 (C (P ++ a :: R)) (i : Int) hw W [] a hW (by omega) (by rw [List.nil_append]; clear hw; omega) (by simpa using ih)
    rw [List.nil_append] at key
    refine Ev.step (f := fun k => decimal_Bits.l1 k (C W) (C (P ++ a :: R)) (i : Int) (a : Int) ((W.length : Nat) : Int) 0) (fun k => ?_) key
    simp only [decimal_Bits.l0, e1, hC, hCW]
    clear e1 hw key ih
    simp (disch := omega) only [if_pos]
theorem bits_f (n : Nat) (h : Md n) : Ev (fun k => decimal_Bits.f k (S n)) ((blen n : Nat) : Int) := by
  have hM := h.out
  unfold decimal_Bits.f
  rw [small_S n (by omega)]
  by_cases h64 : n < 18446744073709551616
  · rw [if_pos h64]
    have e := len64_f n h64
    refine Ev.bind (Ev.now ((n : Int), true)) (Ev.pos rfl ?_)
    rw [e]
    exact Ev.now _
  · rw [if_neg h64]
    refine Ev.bind (Ev.now ((0 : Int), false)) (Ev.neg (by decide) (Ev.bind (cut_f n (by omega)) ?_))
    have hp := h.pcs
    have hC : (C (pcs n)).length = (pcs n).length := C_length _
    have hw : wrap64 (((pcs n).length : Int) - 1) = ((pcs n).length : Int) - 1 := w64 (by omega) (by omega)
    have key := bits_l0 (pcs n).length (pcs n) [] [] (((pcs n).length : Int) - 1) rfl rfl (ok_pcs n) Ok32.nil (fun m a h => by cases m <;> cases h) rfl (by rw [List.append_nil]; exact hp) (Nat.le_refl _) (by rw [List.append_nil, val_pcs]; omega)
    rw [List.append_nil, val_pcs] at key
    rw [hC, hw]
    exact key
end Go.Proofs.YtcfddphiflmnlaaDoor.P

namespace Go.Proofs.YtcfddphiflmnlaaDoor.P
open Go.RowKit Go.Proofs.YtcfddphiflmnlaaDoorW.PrintWords
theorem one_str : (⟨#[49]⟩ : ByteArray) = S 1 := S_of ((canb_iff _).1 (by decide))
theorem S_is0 (n : Nat) : ((S n).toList = ([48] : List UInt8)) ↔ n = 0 := by
  have e : ([48] : List UInt8) = (S 0).toList := by rw [toList_data, S_list, dec_small (by decide)]; rfl
  rw [e, S_eq_iff]
theorem S_is1 (n : Nat) : ((S n).toList = ([49] : List UInt8)) ↔ n = 1 := by
  have e : ([49] : List UInt8) = (S 1).toList := by rw [toList_data, S_list, dec_small (by decide)]; rfl
  rw [e, S_eq_iff]
theorem S_beq1 (n : Nat) : ((S n).toList == ([49] : List UInt8)) = decide (n = 1) := by
  rw [Bool.eq_iff_iff, beq_iff_eq, S_is1, decide_eq_true_iff]
end Go.Proofs.YtcfddphiflmnlaaDoor.P

namespace Go.Proofs.YtcfddphiflmnlaaDoor.P
open Go.RowKit Go.Proofs.YtcfddphiflmnlaaDoorW.PrintWords
theorem and1 (n : Nat) (h : n < 9223372036854775808) : Go.bits .and .i64 (n : Int) 1 = ((n % 2 : Nat) : Int) := by
  have := bits_mask .i64 63 (by decide) (fun m h0 h1 => by rw [IntKind.wrap_i64]; omega) 1 (by decide) (n : Int) (by omega) (by omega)
  rw [show (2 : Int) ^ 1 - 1 = 1 from by decide] at this
  rw [this]
  omega
def fin (T : Nat) : ByteArray × Int := if 20000 < Lib.nDigits T then (⟨#[]⟩, 4) else (S T, 0)
theorem times_S (a b : Nat) (h : (pcs a).length + (pcs b).length < 17592186044416) : Ev (fun k => decimal_pieces_times.f k (C (pcs a)) (C (pcs b))) (C (pcs (a * b))) := by
  have := times_f (pcs a) (pcs b) (ok_pcs a) (ok_pcs b) h
  rwa [val_pcs, val_pcs] at this
theorem pow_half (q n : Nat) : (q * q) ^ n = q ^ (2 * n) := by rw [Nat.pow_mul, Nat.pow_two]
theorem le_pow1 {q n : Nat} (hq : 0 < q) (hn : 0 < n) : q ≤ q ^ n := by
  obtain ⟨m, rfl⟩ : ∃ m, n = m + 1 := ⟨n - 1, by omega⟩
  rw [Nat.pow_succ]
  have : 1 * q ≤ q ^ m * q := Nat.mul_le_mul_right _ (Nat.pow_pos hq)
  omega
theorem power_l0 : ∀ (m n o q T : Nat), n ≤ m → n < 9223372036854775808 → T = o * q ^ n → T ≠ 0 → (pcs T).length ≤ 1000000 →
    Ev (fun k => decimal_Power.l0 k (n : Int) (C (pcs o)) (C (pcs q))) (fin T)
  | 0, n, o, q, T, hm, hn, hT, h0, hl => by
    obtain rfl : n = 0 := by omega
    rw [Nat.pow_zero, Nat.mul_one] at hT
    subst hT
    have hsz := S_size T
    refine Ev.step (f := fun k => (decimal_pieces_text.f k (C (pcs T))).bind fun t267 => (if (t267.size : Int) > 20000 then (some ((⟨#[]⟩ : ByteArray), 4)) else (some (t267, 0)))) (fun k => ?_) (Ev.bind (text_f T (by omega)) ?_)
    · simp (disch := omega) only [decimal_Power.l0, if_neg]
    · unfold fin
      rw [hsz]
      by_cases h : 20000 < Lib.nDigits T
      · rw [if_pos h]; exact Ev.pos (by omega) (Ev.now _)
      · rw [if_neg h]; exact Ev.neg (by omega) (Ev.now _)
  | m + 1, n, o, q, T, hm, hn, hT, h0, hl => by
    rcases Nat.eq_zero_or_pos n with hz | hp
    · exact power_l0 0 n o q T (by omega) hn hT h0 hl
    · have ho : 0 < o := Nat.pos_of_ne_zero fun e => h0 (by rw [hT, e, Nat.zero_mul])
      have hq : 0 < q := Nat.pos_of_ne_zero fun e => h0 (by rw [hT, e, Nat.zero_pow hp, Nat.mul_zero])
      have hqn : 0 < q ^ n := Nat.pow_pos hq
      have hoT : o ≤ T := by rw [hT]; exact Nat.le_mul_of_pos_right _ hqn
      have hqT : q ≤ T := by rw [hT]; exact Nat.le_trans (le_pow1 hq hp) (Nat.le_mul_of_pos_left _ ho)
      have lo := pcs_len_mono hoT
      have lq := pcs_len_mono hqT
      have e1 := and1 n hn
      have e2 : (n : Int) / 2 = ((n / 2 : Nat) : Int) := by omega
      have t1 := times_S o q (by clear e1; omega)
      have t2 := times_S q q (by clear e1; omega)
      by_cases hodd : n % 2 = 1
      · rw [hodd] at e1
        by_cases h1 : 1 < n
        · have hT2 : T = o * q * (q * q) ^ (n / 2) := by
            have e : n = 2 * (n / 2) + 1 := by clear e1; omega
            rw [hT, pow_half, Nat.mul_assoc, Nat.mul_comm q, ← Nat.pow_succ, Nat.succ_eq_add_one, ← e]
          have ih := power_l0 m (n / 2) (o * q) (q * q) T (by clear e1; omega) (by clear e1; omega) hT2 h0 hl
          refine Ev.step (f := fun k => (decimal_pieces_times.f k (C (pcs o)) (C (pcs q))).bind fun t268 => (decimal_pieces_times.f k (C (pcs q)) (C (pcs q))).bind fun t271 => decimal_Power.l0 k ((n / 2 : Nat) : Int) t268 t271) (fun k => ?_) (Ev.bind t1 (Ev.bind t2 ih))
          simp only [decimal_Power.l0, e1, e2]
          clear e1 e2
          simp (disch := omega) only [if_pos]
        · have hn1 : n = 1 := by clear e1; omega
          have hT2 : T = o * q * q ^ 0 := by rw [hT, hn1, Nat.pow_one, Nat.pow_zero, Nat.mul_one]
          have ih := power_l0 m (n / 2) (o * q) q T (by clear e1; omega) (by clear e1; omega) (by rw [hT2, hn1]) h0 hl
          refine Ev.step (f := fun k => (decimal_pieces_times.f k (C (pcs o)) (C (pcs q))).bind fun t268 => decimal_Power.l0 k ((n / 2 : Nat) : Int) t268 (C (pcs q))) (fun k => ?_) (Ev.bind t1 ih)
          simp only [decimal_Power.l0, e1, e2]
          clear e1 e2
          simp (disch := omega) only [if_pos, if_neg]
      · have h2 : n % 2 = 0 := by clear e1; omega
        rw [h2] at e1
        have h1 : 1 < n := by clear e1; omega
        have hT2 : T = o * (q * q) ^ (n / 2) := by
          have e : 2 * (n / 2) = n := by clear e1; omega
          rw [hT, pow_half, e]
        have ih := power_l0 m (n / 2) o (q * q) T (by clear e1; omega) (by clear e1; omega) hT2 h0 hl
        refine Ev.step (f := fun k => (decimal_pieces_times.f k (C (pcs q)) (C (pcs q))).bind fun t274 => decimal_Power.l0 k ((n / 2 : Nat) : Int) (C (pcs o)) t274) (fun k => ?_) (Ev.bind t2 ih)
        simp only [decimal_Power.l0, e1, e2]
        clear e1 e2
        simp (disch := omega) only [if_pos, if_neg]
def powr (a n : Nat) : ByteArray × Int := if n = 0 ∨ a = 1 then (S 1, 0) else if a = 0 then (S 0, 0) else if 66439 / (blen a - 1) < n then (⟨#[]⟩, 4) else fin (a ^ n)
theorem power_len {a n : Nat} (ha : 2 ≤ a) (h : ¬ 66439 / (blen a - 1) < n) : (pcs (a ^ n)).length ≤ 1000000 := by
  have hb : 2 ≤ blen a := by
    rcases Nat.lt_or_ge (blen a) 2 with h1 | h1
    · have h2 := lt_pow_blen a
      have h3 : 2 ^ blen a ≤ 2 ^ 1 := Nat.pow_le_pow_right (by decide) (by omega)
      omega
    · exact h1
  have h1 : n * (blen a - 1) ≤ 66439 := by
    rw [← Nat.le_div_iff_mul_le (by omega)]
    omega
  obtain ⟨M, hM⟩ : ∃ M, M = 1000000 := ⟨_, rfl⟩
  rw [← hM]
  apply pcs_len_le
  have h2 : a ^ n ≤ (2 ^ blen a) ^ n := Nat.pow_le_pow_left (Nat.le_of_lt (lt_pow_blen a)) n
  rw [← Nat.pow_mul] at h2
  have h3 : blen a * n ≤ 2 * (n * (blen a - 1)) := by
    rw [← Nat.mul_assoc, Nat.mul_comm 2 n, Nat.mul_assoc, Nat.mul_comm (blen a)]
    exact Nat.mul_le_mul_left _ (by omega)
  have h4 : 2 ^ (blen a * n) < 2 ^ M := Nat.pow_lt_pow_right (by decide) (by omega)
  have h5 : 2 ^ M ≤ 1000000000 ^ M := Nat.pow_le_pow_left (by decide) _
  exact Nat.lt_of_le_of_lt h2 (Nat.lt_of_lt_of_le h4 h5)
theorem power_f (a n : Nat) (h : Md a) (hn : n < 9223372036854775808) : Ev (fun k => decimal_Power.f k (S a) (n : Int)) (powr a n) := by
  have hM := h.out
  unfold decimal_Power.f powr
  refine Ev.neg (by omega) ?_
  by_cases h0 : n = 0
  · refine Ev.pos (by omega) ?_
    rw [if_pos (Or.inl h0)]
    refine Ev.step (f := fun _ => some (S 1, 0)) (fun k => ?_) (Ev.now _)
    rw [decimal_Power.j0, if_pos rfl, one_str]
  · refine Ev.neg (by omega) ?_
    rw [S_beq1]
    by_cases h1 : a = 1
    · rw [decide_eq_true h1, if_pos (Or.inr h1)]
      refine Ev.step (f := fun _ => some (S 1, 0)) (fun k => ?_) (Ev.now _)
      rw [decimal_Power.j0, if_pos rfl, one_str]
    · rw [decide_eq_false h1, if_neg (fun e => e.elim h0 h1)]
      by_cases hz : a = 0
      · rw [if_pos hz]
        refine Ev.step (f := fun _ => some (S 0, 0)) (fun k => ?_) (Ev.now _)
        rw [decimal_Power.j0, if_neg (by decide), if_pos ((S_is0 a).2 hz), zero_str]
      · rw [if_neg hz]
        have hb : 2 ≤ blen a := by
          rw [blen_pos hz, blen_pos (by omega)]; omega
        have hb2 : blen a ≤ 4000000 := by
          obtain ⟨K, hK⟩ : ∃ K, K = 4000000 := ⟨_, rfl⟩
          rw [← hK]
          apply blen_le
          have h5 := Lib.lt_pow_nDigits a
          have h6 : 10 ^ Lib.nDigits a ≤ (2 ^ 4) ^ Lib.nDigits a := Nat.pow_le_pow_left (by decide) _
          rw [← Nat.pow_mul] at h6
          have h7 : 2 ^ (4 * Lib.nDigits a) ≤ 2 ^ K := Nat.pow_le_pow_right (by decide) (by omega)
          exact Nat.lt_of_lt_of_le h5 (Nat.le_trans h6 h7)
        have e1 : wrap64 (((blen a : Nat) : Int) - 1) = ((blen a - 1 : Nat) : Int) := by rw [w64 (by omega) (by omega)]; omega
        have e2 : Int.tdiv (66439 : Int) ((blen a - 1 : Nat) : Int) = ((66439 / (blen a - 1) : Nat) : Int) := tdivn 66439 _
        have hd : 66439 / (blen a - 1) ≤ 66439 := Nat.div_le_self _ _
        have e3 : wrap64 ((66439 / (blen a - 1) : Nat) : Int) = ((66439 / (blen a - 1) : Nat) : Int) := by clear e1 e2; exact wnat ⟨by omega⟩
        refine Ev.step (f := fun k => (decimal_Bits.f k (S a)).bind fun t260 => (if (wrap64 (t260 - 1)) = 0 then (none) else (if (n : Int) > (wrap64 (Int.tdiv (66439 : Int) (wrap64 (t260 - 1)))) then (some ((⟨#[]⟩ : ByteArray), 4)) else ((decimal_cut.f k (S a)).bind fun t264 => (decimal_Power.l0 k (n : Int) (([1] : List Int)) t264))))) (fun k => ?_) (Ev.bind (bits_f a h) ?_)
        · rw [decimal_Power.j0, if_neg (by decide), if_neg (fun e => hz ((S_is0 a).1 e))]
        · rw [e1, e2, e3]
          clear e1 e2 e3
          refine Ev.neg (by omega) ?_
          by_cases hlim : 66439 / (blen a - 1) < n
          · rw [if_pos hlim]
            exact Ev.pos (by omega) (Ev.now _)
          · rw [if_neg hlim]
            refine Ev.neg (by omega) (Ev.bind (cut_f a (by omega)) ?_)
            have e5 : ([1] : List Int) = C (pcs 1) := by rw [pcs_pos (by decide), Nat.div_eq_of_lt (by decide), pcs_zero]; rfl
            rw [e5]
            exact power_l0 n n 1 a (a ^ n) (Nat.le_refl _) hn (by rw [Nat.one_mul]) (Nat.ne_of_gt (Nat.pow_pos (by omega))) (power_len (by omega) hlim)
theorem power_neg (s : ByteArray) (n : Int) (h : n < 0) (k : Nat) : decimal_Power.f k s n = some ((⟨#[]⟩ : ByteArray), 3) := by
  unfold decimal_Power.f
  rw [if_pos h]
end Go.Proofs.YtcfddphiflmnlaaDoor.P

namespace Go.Proofs.YtcfddphiflmnlaaDoor.P
open Go.RowKit Go.Proofs.YtcfddphiflmnlaaDoorW.PrintWords
set_option maxRecDepth 100000 in
theorem known_ev : Ev (fun k => schismalaw01_known.f k) true := Ev.of (k := 200) (fun k => schismalaw01_known.mono k) (by decide +kernel)
end Go.Proofs.YtcfddphiflmnlaaDoor.P

namespace Go.Proofs.YtcfddphiflmnlaaDoor.P
open Go.RowKit Go.Proofs.YtcfddphiflmnlaaDoorW.PrintWords
theorem quick_l0 (s : ByteArray) (hs : s.size < 4611686018427387904) (hD : IsD s.data.toList) (hv : dv s.data.toList < 18446744073709551616) : ∀ (Q P : List UInt8), s.data.toList = P ++ Q →
    Ev (fun k => schismaref01_quick.l0 k s (dv P : Int) (P.length : Int)) ((dv s.data.toList : Int), true)
  | [], P, h => by
    rw [List.append_nil] at h
    have h1 := size_list s
    rw [h] at h1 ⊢
    refine Ev.step (f := fun _ => some ((dv P : Int), true)) (fun k => ?_) (Ev.now _)
    simp (disch := omega) only [schismaref01_quick.l0, if_neg]
  | c :: Q, P, h => by
    have h1 := size_mid s P Q c h
    have e1 := bt_mid s P Q c h
    have e3 := wsucc (a := P.length) ⟨by omega⟩
    have hb := dv_prefix1 P Q c
    rw [← h] at hb
    have e2 := dstep' (n := dv P) (hD c (by rw [h]; simp)) (by omega)
    refine Ev.step (f := fun k => schismaref01_quick.l0 k s (dv (P ++ [c]) : Int) ((P ++ [c]).length : Int)) (fun k => ?_) (quick_l0 s hs hD hv Q (P ++ [c]) (by rw [h]; simp))
    simp only [schismaref01_quick.l0, e1, e2, e3]
    clear e1 e2 e3
    simp (disch := omega) only [if_pos]
    rw [dv_snoc, List.length_append, List.length_singleton]
theorem quick_big {s : ByteArray} (hs : 18 < s.size) : Ev (fun k => schismaref01_quick.f k s) (0, false) := by
  unfold schismaref01_quick.f
  simp (disch := omega) only [if_pos]
  exact Ev.now _
theorem quick_small {n : Nat} (h : Lib.nDigits n ≤ 18) : Ev (fun k => schismaref01_quick.f k (S n)) ((n : Int), true) := by
  unfold schismaref01_quick.f
  have h1 := S_size n
  simp (disch := omega) only [if_neg]
  have h2 := nDig_lt h
  have h3 : (10 : Nat) ^ 18 = 1000000000000000000 := by decide
  have := quick_l0 (S n) (by omega) (S_dig n) (by rw [S_dv]; omega) (S n).data.toList [] rfl
  rw [S_dv] at this
  exact this
theorem rof_f (n : Nat) (h : n < 18446744073709551616) : schismaref01_Of.f (n : Int) = some (S n) := by
  unfold schismaref01_Of.f
  rw [if_pos (by omega), Int.toNat_natCast]
  rfl
end Go.Proofs.YtcfddphiflmnlaaDoor.P

namespace Go.Proofs.YtcfddphiflmnlaaDoor.P
open Go.RowKit Go.Proofs.YtcfddphiflmnlaaDoorW.PrintWords
theorem make_end (acc : List UInt8) (hD : IsD acc) (hh : acc.head? ≠ some 48) : (if ((B8 acc).length : Int) = 0 then some (⟨#[48]⟩ : ByteArray) else some (strOfNums (B8 acc))) = some (S (dv acc)) := by
  rw [B8_length]
  rcases acc with _ | ⟨c, t⟩
  · rw [List.length_nil, if_pos (by rfl), zero_str]; rfl
  · rw [if_neg (by simp; omega), strOfNums_B8]
    congr 1
    refine S_of (s := ⟨(c :: t).toArray⟩) ⟨hD, ?_⟩
    rcases t with _ | ⟨d, t⟩
    · exact Or.inl rfl
    · exact Or.inr ⟨by simp, hh⟩
theorem make_digit {x : Int} (h0 : 0 ≤ x) : ∃ c : UInt8, (48 + Int.tmod x 10) % 256 = (c.toNat : Int) ∧ 48 ≤ c.toNat ∧ c.toNat ≤ 57 ∧ (c = 48 ↔ ¬ Int.tmod x 10 > 0) := by
  obtain ⟨n, rfl⟩ : ∃ n : Nat, x = n := ⟨x.toNat, by omega⟩
  have h1 := tmodn n 10
  have h2 : Int.tmod (n : Int) 10 = ((n % 10 : Nat) : Int) := h1
  rw [h2]
  have h3 : n % 10 < 10 := Nat.mod_lt _ (by decide)
  refine ⟨UInt8.ofNat (48 + n % 10), ?_, ?_, ?_, ?_⟩
  · rw [digit_toNat h3]; omega
  · rw [digit_toNat h3]; omega
  · rw [digit_toNat h3]; omega
  · constructor
    · intro e
      have := congrArg UInt8.toNat e
      rw [digit_toNat h3] at this
      have h48 : (48 : UInt8).toNat = 48 := rfl
      omega
    · intro e
      apply UInt8.toNat_inj.1
      rw [digit_toNat h3]
      have h48 : (48 : UInt8).toNat = 48 := rfl
      omega
theorem make_l0 (l : List Int) (hl : ∀ x, x ∈ l → 0 ≤ x) (hs : l.length < 4611686018427387904) : ∀ (Q P : List Int) (acc : List UInt8), l = P ++ Q → IsD acc → acc.head? ≠ some 48 → acc.length ≤ P.length → P.length ≤ 120 →
    ∃ n, n < 10 ^ l.length ∧ n < 10 ^ 120 ∧ Ev (fun k => schismalaw01_Make.l0 k l (B8 acc) (P.length : Int)) (S n)
  | [], P, acc, h, hD, hh, hp, hP => by
    have hll : l.length = P.length := by rw [h]; simp
    have h1 := dv_lt hD
    have h2 : 10 ^ acc.length ≤ 10 ^ l.length := Nat.pow_le_pow_right (by decide) (by omega)
    have h3 : 10 ^ acc.length ≤ 10 ^ 120 := Nat.pow_le_pow_right (by decide) (by omega)
    refine ⟨dv acc, by omega, by omega, ?_⟩
    refine Ev.step (f := fun k => schismalaw01_Make.j1 k l (B8 acc) (P.length : Int) false) (fun k => ?_) (Ev.step (f := fun _ => some (S (dv acc))) (fun k => ?_) (Ev.now _))
    · clear h2 h3
      simp (disch := omega) only [schismalaw01_Make.l0, if_neg]
    · simp only [schismalaw01_Make.j1, Bool.false_eq_true, if_false]
      exact make_end acc hD hh
  | x :: Q, P, acc, h, hD, hh, hp, hP => by
    have hll : l.length = P.length + (Q.length + 1) := by rw [h]; simp
    have h1 := dv_lt hD
    by_cases h120 : P.length = 120
    · have h2 : 10 ^ acc.length ≤ 10 ^ l.length := Nat.pow_le_pow_right (by decide) (by omega)
      have h3 : 10 ^ acc.length ≤ 10 ^ 120 := Nat.pow_le_pow_right (by decide) (by omega)
      refine ⟨dv acc, by omega, by omega, ?_⟩
      refine Ev.step (f := fun k => schismalaw01_Make.j1 k l (B8 acc) (P.length : Int) false) (fun k => ?_) (Ev.step (f := fun _ => some (S (dv acc))) (fun k => ?_) (Ev.now _))
      · clear h2 h3 h1
        have e9 : decide ((P.length : Int) < 120) = false := decide_eq_false_iff_not.2 (by omega)
        simp (disch := omega) only [schismalaw01_Make.l0, if_pos, e9]
      · simp only [schismalaw01_Make.j1, Bool.false_eq_true, if_false]
        exact make_end acc hD hh
    · have hx : 0 ≤ x := hl x (by rw [h]; simp)
      obtain ⟨c, e1, e2, e3, e4⟩ := make_digit hx
      have e5 : rd l (P.length : Int) = x := by rw [h]; simp [rd, List.getD_eq_getElem?_getD]
      have e6 := wsucc (a := P.length) ⟨by omega⟩
      have e7 : (B8 acc).length = acc.length := B8_length _
      have st : ∀ k, schismalaw01_Make.l0 (k + 1) l (B8 acc) (P.length : Int) = schismalaw01_Make.j1 k l (B8 acc) (P.length : Int) true := fun k => by
        clear e1 e4 h1 e5 e6
        have e9 : decide ((P.length : Int) < 120) = true := decide_eq_true (by omega)
        simp (disch := omega) only [schismalaw01_Make.l0, if_pos, e9]
      have ha : B8 acc ++ [(c.toNat : Int)] = B8 (acc ++ [c]) := by rw [B8_append]; rfl
      clear h1
      by_cases h0 : c = 48
      · have h00 := e4.1 h0
        rcases acc with _ | ⟨d, t⟩
        · obtain ⟨n, n1, n2, n3⟩ := make_l0 l hl hs Q (P ++ [x]) [] (by rw [h]; simp) IsD.nil (by simp) (by simp) (by simp; omega)
          refine ⟨n, n1, n2, Ev.step st (Ev.step (f := fun k => schismalaw01_Make.l0 k l (B8 []) ((P.length + 1 : Nat) : Int)) (fun k => ?_) (by simpa using n3))⟩
          simp only [schismalaw01_Make.j1, e5, e6, e1, if_true, if_neg h00]
          clear n1 n2 n3 e1 e4 h00 e5 e6 st
          have e8 : (B8 []).length = 0 := rfl
          simp (disch := omega) only [if_pos, if_neg]
        · obtain ⟨n, n1, n2, n3⟩ := make_l0 l hl hs Q (P ++ [x]) (d :: t ++ [c]) (by rw [h]; simp) (hD.append (IsD.cons ⟨e2, e3⟩ IsD.nil)) (by simpa using hh) (by simp at hp ⊢; omega) (by simp; omega)
          refine ⟨n, n1, n2, Ev.step st (Ev.step (f := fun k => schismalaw01_Make.l0 k l (B8 (d :: t ++ [c])) ((P.length + 1 : Nat) : Int)) (fun k => ?_) (by simpa using n3))⟩
          simp only [schismalaw01_Make.j1, e5, e6, e1, if_true, if_neg h00, ha]
          clear n1 n2 n3 e1 e4 h00 e5 e6 st
          have e8 : (d :: t).length = t.length + 1 := rfl
          rw [e8] at e7 hp
          simp (disch := omega) only [if_pos]
      · have h00 : Int.tmod x 10 > 0 := Decidable.byContradiction fun h9 => h0 (e4.2 h9)
        have hh2 : (acc ++ [c]).head? ≠ some 48 := by
          rcases acc with _ | ⟨d, t⟩
          · simpa using h0
          · simpa using hh
        obtain ⟨n, n1, n2, n3⟩ := make_l0 l hl hs Q (P ++ [x]) (acc ++ [c]) (by rw [h]; simp) (hD.append (IsD.cons ⟨e2, e3⟩ IsD.nil)) hh2 (by simp; omega) (by simp; omega)
        refine ⟨n, n1, n2, Ev.step st (Ev.step (f := fun k => schismalaw01_Make.l0 k l (B8 (acc ++ [c])) ((P.length + 1 : Nat) : Int)) (fun k => ?_) (by simpa using n3))⟩
        simp only [schismalaw01_Make.j1, e5, e6, e1, if_true, if_pos h00, ha]
        clear n1 n2 n3 e1 e4 h00 e5 e6 st
        simp (disch := omega) only [if_pos]
theorem make_f (l : List Int) (hl : ∀ x, x ∈ l → (Lit.int .u8 x).wf = true) (hs : l.length ≤ 140737488351232) :
    ∃ n, n < 10 ^ l.length ∧ n < 10 ^ 120 ∧ Ev (fun k => schismalaw01_Make.f k l) (S n) :=
  make_l0 l (fun x hx => (wf_u8 (hl x hx)).1) (by omega) l [] [] rfl IsD.nil (by simp) (by simp) (by simp)
end Go.Proofs.YtcfddphiflmnlaaDoor.P

namespace Go.Proofs.YtcfddphiflmnlaaDoor.P
open Go.RowKit Go.Proofs.YtcfddphiflmnlaaDoorW.PrintWords
theorem rtrim_end (Z Q : List UInt8) (hQ : Can Q) : strOfNums ((B8 (Z ++ Q)).drop (Z.length : Int).toNat) = S (dv Q) := by
  have e1 : (B8 (Z ++ Q)).drop (Z.length : Int).toNat = B8 Q := by
    rw [Int.toNat_natCast, B8_append, List.drop_left' (B8_length Z)]
  rw [e1, strOfNums_B8]
  exact S_of (s := ⟨Q.toArray⟩) hQ
theorem dv_zeros (Z Q : List UInt8) (h : ∀ c, c ∈ Z → c = 48) : dv (Z ++ Q) = dv Q := by
  induction Z with
  | nil => rfl
  | cons c Z ih =>
    have hc := h c (by simp)
    subst hc
    rw [List.cons_append, dv_cons, ih (fun c hc => h c (by simp [hc]))]
    have : (48 : UInt8).toNat - 48 = 0 := rfl
    rw [this, Nat.zero_mul, Nat.zero_add]
theorem rtrim_l0 (T : List UInt8) (hT : IsD T) (hs : T.length < 4611686018427387904) : ∀ (Q Z : List UInt8), T = Z ++ Q → Q ≠ [] → (∀ c, c ∈ Z → c = 48) → Ev (fun k => schismaref01_trim.l0 k (B8 T) (Z.length : Int)) (S (dv T))
  | [], _, _, h, _ => absurd rfl h
  | [c], Z, h, _, hZ => by
    have hl : (B8 T).length = Z.length + 1 := by rw [B8_length, h]; simp
    have hl' : T.length = Z.length + 1 := by rw [h]; simp
    have s1 : Sm (Z.length + 1) := ⟨by omega⟩
    have hc : Can [c] := ⟨by rw [h] at hT; exact hT.right, Or.inl rfl⟩
    have he := rtrim_end Z [c] hc
    rw [← dv_zeros Z [c] hZ, ← h] at he
    refine Ev.step (f := fun _ => some (S (dv T))) (fun k => ?_) (Ev.now _)
    have e1 := wpred1 s1
    simp only [schismaref01_trim.l0, he, hl, e1]
    clear e1
    simp (disch := omega) only [if_pos, if_neg]
  | c :: d :: Q, Z, h, _, hZ => by
    have hl : (B8 T).length = Z.length + Q.length + 2 := by rw [B8_length, h]; simp; omega
    have hl' : T.length = Z.length + Q.length + 2 := by rw [h]; simp; omega
    have s1 : Sm (Z.length + Q.length + 1 + 1) := ⟨by omega⟩
    have s2 : Sm Z.length := ⟨by omega⟩
    have e2 : rd (B8 T) (Z.length : Int) = (c.toNat : Int) := by rw [h, rd_B8 _ _ _ _ rfl]
    have e1 := wpred1 s1
    by_cases h48 : c = 48
    · have ih := rtrim_l0 T hT hs (d :: Q) (Z ++ [c]) (by rw [h]; simp) (by simp) (fun x hx => by
        rcases List.mem_append.1 hx with h1 | h1
        · exact hZ x h1
        · rw [List.mem_singleton.1 h1, h48])
      refine Ev.step (f := fun k => schismaref01_trim.l0 k (B8 T) ((Z.length + 1 : Nat) : Int)) (fun k => ?_) (by simpa using ih)
      have h48' : (c.toNat : Int) = 48 := by rw [h48]; rfl
      have e3 := wsucc s2
      simp only [schismaref01_trim.l0, e1, e2, e3, hl, h48', if_true]
      clear e1 e2 e3
      simp (disch := omega) only [if_pos]
    · have hc : Can (c :: d :: Q) := ⟨by rw [h] at hT; exact hT.right, Or.inr ⟨by simp, by simpa using h48⟩⟩
      have he := rtrim_end Z (c :: d :: Q) hc
      rw [← dv_zeros Z _ hZ, ← h] at he
      have h48' : ¬ (c.toNat : Int) = 48 := fun e => h48 (UInt8.toNat_inj.1 (by have : (48 : UInt8).toNat = 48 := rfl; omega))
      refine Ev.step (f := fun _ => some (S (dv T))) (fun k => ?_) (Ev.now _)
      simp only [schismaref01_trim.l0, e1, e2, hl, he]
      clear e1 e2
      simp (disch := omega) only [if_pos, if_neg]
theorem rtrim_f (T : List UInt8) (hT : IsD T) (h0 : T ≠ []) (hs : T.length < 4611686018427387904) : Ev (fun k => schismaref01_trim.f k (B8 T)) (S (dv T)) :=
  rtrim_l0 T hT hs T [] rfl h0 (fun _ h => by cases h)
theorem put_zero (j : Nat) (T : List UInt8) (c : UInt8) : (List.replicate (j + 1) (0 : Int) ++ B8 T).set j (c.toNat : Int) = List.replicate j 0 ++ B8 (c :: T) := by
  rw [List.replicate_succ', List.append_assoc, List.singleton_append, setI _ _ _ _ _ (by simp)]
  rfl
theorem isD_cons {d : Nat} (h : d < 10) {T : List UInt8} (hT : IsD T) : IsD (UInt8.ofNat (48 + d) :: T) := IsD.cons (by rw [digit_toNat h]; omega) hT
theorem dv_put {d : Nat} (h : d < 10) (T : List UInt8) : dv (UInt8.ofNat (48 + d) :: T) = d * 10 ^ T.length + dv T := by
  rw [dv_cons, digit_toNat h]; congr 2; omega
theorem quick_f (n : Nat) : Ev (fun k => schismaref01_quick.f k (S n)) (if Lib.nDigits n ≤ 18 then ((n : Int), true) else (0, false)) := by
  by_cases h : Lib.nDigits n ≤ 18
  · rw [if_pos h]; exact quick_small h
  · rw [if_neg h]; exact quick_big (by rw [S_size]; omega)
end Go.Proofs.YtcfddphiflmnlaaDoor.P

namespace Go.Proofs.YtcfddphiflmnlaaDoor.P
open Go.RowKit Go.Proofs.YtcfddphiflmnlaaDoorW.PrintWords
theorem limbs_l1 (s : ByteArray) (acc : List Nat) (hacc : acc.length < 17592186044416) (e : Nat) (hs : s.size < 17592186044416) (A R : List UInt8) : ∀ (Q P : List UInt8) (r : List Int), s.data.toList = A ++ P ++ Q ++ R → e = A.length + P.length + Q.length → IsD (P ++ Q) → (P ++ Q).length ≤ 18 →
    Ev (fun k => schismaref01_limbs.l0 k s (C (acc ++ [dv (P ++ Q)])) (wrap64 ((e : Int) - 9))) r → Ev (fun k => schismaref01_limbs.l1 k s (C acc) (e : Int) (dv P : Int) ((A.length + P.length : Nat) : Int)) r
  | [], P, r, hd, he, _, _, h => by
    rw [List.append_nil] at h
    rw [List.length_nil, Nat.add_zero] at he
    have hl2 : (C acc).length = acc.length := C_length _
    refine Ev.step (fun k => ?_) h
    simp (disch := omega) only [schismaref01_limbs.l1, if_neg, if_pos]
    rw [C_append]
    rfl
  | c :: Q, P, r, hd, he, hD, hl, h => by
    have e0 : P ++ c :: Q = (P ++ [c]) ++ Q := by simp
    have hd1 : s.data.toList = (A ++ P) ++ c :: (Q ++ R) := by rw [hd]; simp
    have hsz := size_mid s (A ++ P) (Q ++ R) c hd1
    have hAP : (A ++ P).length = A.length + P.length := List.length_append
    rw [List.length_cons] at he
    have ih := limbs_l1 s acc hacc e hs A R Q (P ++ [c]) r (by rw [hd]; simp) (by rw [List.length_append, List.length_singleton]; omega) (by rw [← e0]; exact hD) (by rw [← e0]; exact hl) (by rw [← e0]; exact h)
    have s1 : Sm (A.length + P.length) := ⟨by omega⟩
    have hb := dv_bound c hD (by omega)
    have e1 := bt_mid s (A ++ P) (Q ++ R) c hd1
    rw [hAP] at e1 hsz
    have e2 := dstep' (hD c (by simp)) hb
    have e3 := wsucc s1
    refine Ev.step (fun k => ?_) ih
    simp only [schismaref01_limbs.l1, e1, e2, e3]
    clear e1 e2 e3 hb
    simp (disch := omega) only [if_pos]
    rw [dv_snoc, List.length_append, List.length_singleton, Nat.add_assoc]
theorem limbs_l0 (s : ByteArray) (hD : IsD s.data.toList) (hs : s.size < 17592186044416) : ∀ (m e : Nat) (acc : List Nat) (x : Int), e ≤ m → e ≤ s.size → (x = (e : Int) ∨ e = 0 ∧ x ≤ 0) → acc.length + e < 17592186044416 →
    ∃ L, Ok L ∧ val L = dv (s.data.toList.take e) ∧ L.length ≤ e ∧ Ev (fun k => schismaref01_limbs.l0 k s (C acc) x) (C (acc ++ L))
  | 0, e, acc, x, hm, _, hx, hl => by
    obtain rfl : e = 0 := by omega
    refine ⟨[], Ok.nil, by rw [List.take_zero]; rfl, Nat.le_refl _, Ev.step (f := fun _ => some (C (acc ++ []))) (fun k => ?_) (Ev.now _)⟩
    rw [List.append_nil]
    simp (disch := omega) only [schismaref01_limbs.l0, if_neg]
  | m + 1, e, acc, x, hm, hes, hx, hl => by
    rcases Nat.eq_zero_or_pos e with h0 | h0
    · obtain ⟨L, h1, h2, h3, h4⟩ := limbs_l0 s hD hs 0 e acc x (by omega) hes hx hl
      exact ⟨L, h1, h2, h3, h4⟩
    · obtain rfl : x = (e : Int) := by omega
      obtain ⟨st, hst⟩ : ∃ st, st = e - 9 := ⟨_, rfl⟩
      rw [size_list] at hes
      obtain ⟨h1, h2⟩ := chunk hes hst
      have hDs : IsD ((s.data.toList.take e).drop st) := (hD.take e).drop st
      have hdl := dv_lt hDs
      have hpow : 10 ^ ((s.data.toList.take e).drop st).length ≤ 10 ^ 9 := Nat.pow_le_pow_right (by decide) (by omega)
      have h9 : (10 : Nat) ^ 9 = 1000000000 := by decide
      obtain ⟨L, l1, l2, l3, l4⟩ := limbs_l0 s hD hs m st (acc ++ [dv ((s.data.toList.take e).drop st)]) ((e : Int) - 9) (by omega) (by rw [size_list]; omega) (by omega) (by rw [List.length_append, List.length_singleton]; omega)
      have hcat : s.data.toList = s.data.toList.take st ++ [] ++ (s.data.toList.take e).drop st ++ s.data.toList.drop e := by
        rw [List.append_nil]
        have h5 : s.data.toList.take st = (s.data.toList.take e).take st := by rw [List.take_take, Nat.min_eq_left (by omega)]
        rw [h5, List.take_append_drop, List.take_append_drop]
      have hlen : (s.data.toList.take st).length = st := by rw [List.length_take]; omega
      have hw : wrap64 ((e : Int) - 9) = (e : Int) - 9 := w64 (by omega) (by omega)
      have hmx : mx ((e : Int) - 9) 0 = (st : Int) := by clear hw; unfold mx; split <;> omega
      have key := limbs_l1 s acc (by omega) e hs (s.data.toList.take st) (s.data.toList.drop e) ((s.data.toList.take e).drop st) [] _ hcat (by rw [hlen, h2, List.length_nil]; clear hw hmx; omega) hDs (by rw [List.nil_append, h2]; clear hw hmx; omega) (by rw [List.nil_append, hw]; exact l4)
      refine ⟨dv ((s.data.toList.take e).drop st) :: L, Ok.cons (by clear hw hmx; omega) l1, by rw [h1, ← l2]; rfl, by rw [List.length_cons]; clear hw hmx; omega, ?_⟩
      rw [List.append_assoc] at key
      refine Ev.step (fun k => ?_) key
      rw [hlen]
      simp only [schismaref01_limbs.l0, hw, hmx]
      clear hw hmx hpow hdl l4
      simp (disch := omega) only [if_pos]
      rfl
theorem limbs_f (n : Nat) (h : Md n) : ∃ L, Ok L ∧ val L = n ∧ L.length ≤ 1000000 ∧ Ev (fun k => schismaref01_limbs.f k (S n)) (C L) := by
  have hM := h.out
  have hsz := S_size n
  obtain ⟨L, l1, l2, l3, l4⟩ := limbs_l0 (S n) (S_dig n) (by omega) (S n).size (S n).size [] ((S n).size : Int) (Nat.le_refl _) (Nat.le_refl _) (Or.inl rfl) (by rw [List.length_nil]; omega)
  rw [size_list, List.take_length, S_dv] at l2
  exact ⟨L, l1, l2, by omega, l4⟩
theorem join_idx {len k i r : Nat} (h : len = r + 1 + 9 * k + i) (hs : Sm len) : wrap64 (wrap64 (wrap64 ((len : Int) - 1) - wrap64 (9 * (k : Int))) - (i : Int)) = (r : Int) := by
  have := hs.out
  rw [w64 (n := (len : Int) - 1) (by omega) (by omega), w64 (n := 9 * (k : Int)) (by omega) (by omega), w64 (n := (len : Int) - 1 - 9 * (k : Int)) (by omega) (by omega), w64 (by omega) (by omega)]
  omega
theorem put_zero1 (j : Nat) (T : List UInt8) (c : UInt8) : (48 :: List.replicate (j + 1) (0 : Int) ++ B8 T).set (j + 1) (c.toNat : Int) = 48 :: List.replicate j 0 ++ B8 (c :: T) := by
  rw [List.cons_append, List.set_cons_succ, put_zero]
  rfl
theorem join_l1 (x0 : List Int) (k0 j0 : Nat) (r : ByteArray) : ∀ (c i n : Nat) (T : List UInt8), i + c = 9 → T.length = 9 * k0 + i → n < 10 ^ c → IsD T → Sm (j0 + 9 * k0 + 20) →
    (∀ T', T'.length = 9 * k0 + 9 → IsD T' → dv T' = dv T + 10 ^ T.length * n → Ev (fun k => schismaref01_join.l0 k x0 (48 :: List.replicate j0 0 ++ B8 T') ((k0 + 1 : Nat) : Int)) r) →
    Ev (fun k => schismaref01_join.l1 k x0 (48 :: List.replicate (j0 + c) 0 ++ B8 T) (k0 : Int) (n : Int) (i : Int)) r
  | 0, i, n, T, hi, hl, hn, hT, hs, h => by
    have hn0 : n = 0 := by simpa using hn
    have s1 : Sm k0 := hs.le (by omega)
    have key := h T (by omega) hT (by rw [hn0, Nat.mul_zero, Nat.add_zero])
    refine Ev.step (fun k => ?_) key
    have e1 := wsucc s1
    simp only [schismaref01_join.l1, e1, Nat.add_zero]
    clear e1
    simp (disch := omega) only [if_neg]
  | c + 1, i, n, T, hi, hl, hn, hT, hs, h => by
    have h9 : 10 ^ (c + 1) ≤ 10 ^ 9 := Nat.pow_le_pow_right (by decide) (by omega)
    have h99 : (10 : Nat) ^ 9 = 1000000000 := by decide
    have hn' : n / 10 < 10 ^ c := by rw [Nat.pow_succ] at hn; omega
    have hr : n % 10 < 10 := Nat.mod_lt _ (by decide)
    have ih := join_l1 x0 k0 j0 r c (i + 1) (n / 10) (UInt8.ofNat (48 + n % 10) :: T) (by omega) (by rw [List.length_cons]; omega) hn' (isD_cons hr hT) hs (fun T' t1 t2 t3 => h T' t1 t2 (by
      rw [t3, dv_put hr, List.length_cons, Nat.pow_succ]
      generalize 10 ^ T.length = p
      have h5 := Nat.div_add_mod n 10
      generalize n % 10 = a at *
      generalize n / 10 = b at *
      rw [← h5, Nat.mul_add, ← Nat.mul_assoc, Nat.mul_comm a p]
      omega))
    have s2 : Sm i := ⟨by omega⟩
    have s3 : n < 1000000000000000000 := by omega
    have hlen : (48 :: List.replicate (j0 + (c + 1)) (0 : Int) ++ B8 T).length = (j0 + c + 1) + 1 + 9 * k0 + i := by
      rw [List.length_append, List.length_cons, List.length_replicate, B8_length]; omega
    have s4 : Sm (48 :: List.replicate (j0 + (c + 1)) (0 : Int) ++ B8 T).length := hs.le (by omega)
    obtain ⟨e1, e2⟩ := tdig n s3
    have e3 := wsucc s2
    have e4 := join_idx hlen s4
    have e5 := put_zero1 (j0 + c) T (UInt8.ofNat (48 + n % 10))
    refine Ev.step (fun k => ?_) ih
    simp only [schismaref01_join.l1, e1, e2, e3, e4, Int.toNat_natCast]
    rw [show j0 + (c + 1) = j0 + c + 1 from rfl] at hlen ⊢
    rw [e5]
    clear e1 e2 e3 e4 e5 ih s4 h
    simp (disch := omega) only [if_pos]
theorem pow9 (k : Nat) : (10 : Nat) ^ (9 * k) = 1000000000 ^ k := by rw [Nat.pow_mul]
theorem join_l0 (L : List Nat) (hL : Ok L) (hs : Sm (9 * L.length + 30)) : ∀ (P2 P1 : List Nat) (T : List UInt8), L = P1 ++ P2 → T.length = 9 * P1.length → IsD T → dv T = val P1 →
    Ev (fun k => schismaref01_join.l0 k (C L) (48 :: List.replicate (9 * P2.length) 0 ++ B8 T) (P1.length : Int)) (S (val L))
  | [], P1, T, h, hl, hT, hv => by
    rw [List.append_nil] at h
    have e0 : 48 :: List.replicate (9 * ([] : List Nat).length) (0 : Int) ++ B8 T = B8 (48 :: T) := rfl
    have hz := dv_zeros [48] T (fun c hc => List.mem_singleton.1 hc)
    rw [List.singleton_append] at hz
    have h1 := hs.out
    have hll : L.length = P1.length := by rw [h]
    have ht := rtrim_f (48 :: T) (IsD.cons (by decide) hT) (by simp) (by rw [List.length_cons]; omega)
    rw [hz, hv, ← h] at ht
    have hC : (C L).length = L.length := C_length _
    rw [e0]
    refine Ev.step (f := fun k => (schismaref01_trim.f k (B8 (48 :: T))).bind fun t => some t) (fun k => ?_) (Ev.bind ht (Ev.now _))
    simp (disch := omega) only [schismaref01_join.l0, if_neg]
  | n :: P2, P1, T, h, hl, hT, hv => by
    have h1 := hs.out
    have hll : L.length = P1.length + (P2.length + 1) := by rw [h]; simp
    have hC : (C L).length = L.length := C_length _
    have hn : n < 1000000000 := by rw [h] at hL; exact hL.right.head
    have e1 : rd (C L) (P1.length : Int) = n := by rw [h, rd_at _ _ _ _ rfl]
    have key := join_l1 (C L) P1.length (9 * P2.length) (S (val L)) 9 0 n T (by omega) (by omega) hn hT (hs.le (by omega)) (fun T' t1 t2 t3 => by
      have := join_l0 L hL hs P2 (P1 ++ [n]) T' (by rw [h]; simp) (by rw [t1, List.length_append, List.length_singleton]; omega) t2 (by rw [t3, hv, val_snoc, hl, pow9])
      rw [List.length_append, List.length_singleton] at this
      exact this)
    refine Ev.step (fun k => ?_) key
    simp only [schismaref01_join.l0, e1]
    clear e1 key
    rw [List.length_cons, Nat.mul_add]
    simp (disch := omega) only [if_pos]
    rfl
theorem join_f (L : List Nat) (hL : Ok L) (hs : L.length ≤ 4000000) : Ev (fun k => schismaref01_join.f k (C L)) (S (val L)) := by
  have key := join_l0 L hL ⟨by omega⟩ L [] [] rfl rfl IsD.nil rfl
  have hC : (C L).length = L.length := C_length _
  have e1 : wrap64 (wrap64 (9 * ((C L).length : Int)) + 1) = ((9 * L.length + 1 : Nat) : Int) := by
    rw [hC, w64 (n := 9 * (L.length : Int)) (by omega) (by omega), w64 (by omega) (by omega)]; omega
  have e2 : (List.replicate (9 * L.length + 1) (0 : Int)).set (0 : Int).toNat 48 = 48 :: List.replicate (9 * L.length) 0 ++ B8 [] := by
    rw [List.replicate_succ]; simp [B8]
  have e3 : (List.replicate (9 * L.length + 1) (0 : Int)).length = 9 * L.length + 1 := List.length_replicate
  unfold schismaref01_join.f
  simp only [e1, Int.toNat_natCast, Option.bind_some, e3]
  rw [e2]
  clear e1 e2
  simp (disch := omega) only [if_pos]
  exact key
theorem mrow_arith' {a w b c : Nat} (ha : a < 1000000000) (hw : w < 1000000000) (hb : b < 1000000000) (hc : c < 1000000000) :
    IntKind.u64.wrap (IntKind.u64.wrap ((w : Int) + IntKind.u64.wrap ((a : Int) * (b : Int))) + (c : Int)) = ((c + (w + a * b) : Nat) : Int) := by
  rw [Int.add_comm]
  exact (mrow_arith ha hw hb hc).1
theorem rmul_in (k : Nat) (P1 P2 Q1 Q2 L R : List Nat) (w b i a c : Nat) (hP : P1.length = i) (hL : L.length = i + Q1.length) (ha : a < 1000000000) (hw : w < 1000000000) (hb : b < 1000000000) (hc : c < 1000000000) (hs : Sm (i + Q1.length)) (hs1 : Sm Q1.length) :
    schismaref01_Mul.l1 (k + 1) (C (P1 ++ a :: P2)) (C (Q1 ++ b :: Q2)) (C (L ++ w :: R)) (i : Int) (c : Int) (Q1.length : Int) =
      schismaref01_Mul.l1 k (C (P1 ++ a :: P2)) (C (Q1 ++ b :: Q2)) (C (L ++ ((c + (w + a * b)) % 1000000000) :: R)) (i : Int) (((c + (w + a * b)) / 1000000000 : Nat) : Int) ((Q1.length + 1 : Nat) : Int) := by
  have hl1 : (C (Q1 ++ b :: Q2)).length = Q1.length + (Q2.length + 1) := by rw [C_length]; simp
  have hl2 : (C (P1 ++ a :: P2)).length = i + (P2.length + 1) := by rw [C_length]; simp [hP]
  have hl0 : (C (L ++ w :: R)).length = i + Q1.length + (R.length + 1) := by rw [C_length]; simp [hL]
  obtain ⟨_, e4, _⟩ := mrow_arith ha hw hb hc
  have e3 := mrow_arith' ha hw hb hc
  have e1 := wadd hs
  have e2 := rd_at L R w (i + Q1.length) hL
  have e7 := rd_at Q1 Q2 b Q1.length rfl
  have e8 := rd_at P1 P2 a i hP
  have e5 := wsucc hs1
  have e6 := set_at L R w ((c + (w + a * b)) % 1000000000) _ hL
  simp only [schismaref01_Mul.l1, e1, e2, e7, e8, e3, tdiv9, tmod9, e4, e5, e6]
  clear e1 e2 e3 e4 e5 e6 e7 e8 ha hw hb hc hs hs1
  generalize (c + (w + a * b)) / 1000000000 = e'
  generalize (c + (w + a * b)) % 1000000000 = e
  simp (disch := omega) only [if_pos]
theorem rmul_out (k : Nat) (P Q L R : List Nat) (i c : Nat) (hL : L.length = i + Q.length) (hc : c < 1000000000) (hs : Sm (i + Q.length)) (hs1 : Sm i) :
    schismaref01_Mul.l1 (k + 1) (C P) (C Q) (C (L ++ 0 :: R)) (i : Int) (c : Int) (Q.length : Int) =
      schismaref01_Mul.l0 k (C P) (C Q) (C (L ++ c :: R)) ((i + 1 : Nat) : Int) := by
  have hl1 : (C Q).length = Q.length := C_length _
  have hl0 : (C (L ++ 0 :: R)).length = i + Q.length + (R.length + 1) := by rw [C_length]; simp [hL]
  have e2 := rd_at L R 0 (i + Q.length) hL
  have e3 : IntKind.u64.wrap (((0 : Nat) : Int) + (c : Int)) = (c : Int) := by rw [uadd (by omega), Nat.zero_add]
  have e1 := wadd hs
  have e5 := wsucc hs1
  have e6 := set_at L R 0 c _ hL
  simp only [schismaref01_Mul.l1, hl1, e1, e2, e3, e5, e6]
  clear e1 e2 e3 e5 e6 hs hs1
  simp (disch := omega) only [if_pos, if_neg]
theorem rmul_l1 (P1 P2 : List Nat) (a : Nat) (ha : a < 1000000000) {r : ByteArray} (i : Nat) (hP : P1.length = i) : ∀ (Q2 Q1 L W R : List Nat) (c : Nat), W.length = Q2.length → L.length = i + Q1.length → Ok W → Ok Q2 → c < 1000000000 → Sm (i + (Q1 ++ Q2).length) →
    Ev (fun k => schismaref01_Mul.l0 k (C (P1 ++ a :: P2)) (C (Q1 ++ Q2)) (C (L ++ mrow a c W Q2 ++ R)) ((i + 1 : Nat) : Int)) r →
    Ev (fun k => schismaref01_Mul.l1 k (C (P1 ++ a :: P2)) (C (Q1 ++ Q2)) (C (L ++ W ++ 0 :: R)) (i : Int) (c : Int) (Q1.length : Int)) r
  | [], Q1, L, [], R, c, _, hL, _, _, hc, hs, hr => by
    rw [List.append_nil] at hs hr ⊢
    rw [List.append_nil]
    exact Ev.step (fun k => rmul_out k _ Q1 L R i c hL hc hs (hs.le (by omega))) (by simpa [mrow] using hr)
  | [], _, _, _ :: _, _, _, h, _, _, _, _, _, _ => by simp at h
  | _ :: _, _, _, [], _, _, h, _, _, _, _, _, _ => by simp at h
  | b :: Q2, Q1, L, w :: W, R, c, hWQ, hL, hW, hQ, hc, hs, hr => by
    have e0 : L ++ w :: W ++ 0 :: R = L ++ w :: (W ++ 0 :: R) := by simp
    have hs1 : Sm (i + Q1.length) := hs.le (by simp)
    have ih := rmul_l1 P1 P2 a ha i hP Q2 (Q1 ++ [b]) (L ++ [(c + (w + a * b)) % 1000000000]) W R ((c + (w + a * b)) / 1000000000) (by simpa using hWQ) (by simp [hL]; omega) hW.tail hQ.tail (mrow_arith ha hW.head hQ.head hc).2.2 (hs.le (by simp)) (by simpa [mrow] using hr)
    rw [e0]
    exact Ev.step (fun k => rmul_in k P1 P2 Q1 Q2 L (W ++ 0 :: R) w b i a c hP hL ha hW.head hQ.head hc hs1 (hs1.le (by omega))) (by simpa using ih)
theorem rmul_l0 (Q : List Nat) (hQ : Ok Q) (hQl : Q.length ≤ 1000000) : ∀ (P2 P1 M : List Nat), Ok P2 → Ok M → M.length = P1.length + Q.length → val M = val P1 * val Q → (P1 ++ P2).length ≤ 1000000 →
    Ev (fun k => schismaref01_Mul.l0 k (C (P1 ++ P2)) (C Q) (C (M ++ List.replicate (P2.length + 1) 0)) (P1.length : Int)) (S (val (P1 ++ P2) * val Q))
  | [], P1, M, _, hM, hl, hv, hs => by
    rw [List.append_nil] at hs ⊢
    have hj := join_f (M ++ List.replicate (([] : List Nat).length + 1) 0) (hM.append (Ok.zeros _)) (by simp; omega)
    rw [val_append, val_zeros, Nat.mul_zero, Nat.add_zero, hv] at hj
    have hC : (C P1).length = P1.length := C_length _
    refine Ev.step (f := fun k => (schismaref01_join.f k (C (M ++ List.replicate (([] : List Nat).length + 1) 0))).bind fun t351 => (some t351)) (fun k => ?_) (Ev.bind hj (Ev.now _))
    simp (disch := omega) only [schismaref01_Mul.l0, if_neg]
  | a :: P2, P1, M, hP, hM, hl, hv, hs => by
    have ha := hP.head
    have hs2 : P1.length + (P2.length + 1) ≤ 1000000 := by simpa using hs
    obtain ⟨L, W, rfl, hL⟩ : ∃ L W, M = L ++ W ∧ L.length = P1.length := ⟨M.take P1.length, M.drop P1.length, (List.take_append_drop _ _).symm, by rw [List.length_take]; omega⟩
    have hW : W.length = Q.length := by simp [hL] at hl; omega
    obtain ⟨m1, m2, m3⟩ := mrow_spec a ha Q W 0 hW hM.right hQ (by omega)
    have ih := rmul_l0 Q hQ hQl P2 (P1 ++ [a]) (L ++ mrow a 0 W Q) hP.tail (hM.left.append m2) (by simp [m1, hL, hW]; omega) (by
      rw [val_append, hL] at hv
      rw [val_append, m3, val_snoc, Nat.add_zero, Nat.mul_add, ← Nat.add_assoc, hL, hv, Nat.add_mul, Nat.mul_assoc]) (by simpa using hs)
    have hC : (C (P1 ++ a :: P2)).length = P1.length + (P2.length + 1) := by rw [C_length]; simp
    have key := rmul_l1 P1 P2 a ha P1.length rfl Q [] L W (List.replicate (P2.length + 1) 0) 0 hW (by simp [hL]) hM.right hQ (by omega) ⟨by rw [List.nil_append]; omega⟩ (by simpa using ih)
    refine Ev.step (f := fun k => schismaref01_Mul.l1 k (C (P1 ++ a :: P2)) (C Q) (C (L ++ W ++ List.replicate ((a :: P2).length + 1) 0)) (P1.length : Int) 0 0) (fun k => ?_) ?_
    · simp (disch := omega) only [schismaref01_Mul.l0, if_pos]
    · simpa [List.replicate_succ] using key
theorem rmul_long (a b : Nat) (ha : Md a) (hb : Md b) (x y : Int) : Ev (fun k => schismaref01_Mul.j0 k (S a) (S b) x y false) (S (a * b)) := by
  obtain ⟨L, l1, l2, l3, l4⟩ := limbs_f a ha
  obtain ⟨M, m1, m2, m3, m4⟩ := limbs_f b hb
  have key := rmul_l0 M m1 m3 L [] (List.replicate M.length 0) l1 (Ok.zeros _) (by simp) (by simp [val, val_zeros]) (by simpa using l3)
  rw [List.nil_append, l2, m2] at key
  refine Ev.step (f := fun k => (schismaref01_limbs.f k (S a)).bind fun t342 => ((schismaref01_limbs.f k (S b)).bind fun t345 => (if 0 ≤ (wrap64 ((wrap64 ((t342.length : Int) + (t345.length : Int))) + 1)) then (if (wrap64 ((wrap64 ((t342.length : Int) + (t345.length : Int))) + 1) : Int).toNat ≤ 35184372088832 then (schismaref01_Mul.l0 k t342 t345 (List.replicate (wrap64 ((wrap64 ((t342.length : Int) + (t345.length : Int))) + 1) : Int).toNat 0) 0) else (none)) else (none)))) (fun k => ?_) (Ev.bind l4 (Ev.bind m4 ?_))
  · simp only [schismaref01_Mul.j0, Bool.false_eq_true, if_false]
  · have s1 : Sm (L.length + M.length) := ⟨by omega⟩
    have e2 : List.replicate (L.length + M.length + 1) (0 : Int) = C (List.replicate M.length 0 ++ List.replicate (L.length + 1) 0) := by
      rw [List.replicate_append_replicate, ← C_zeros, Nat.add_comm L.length, Nat.add_assoc]
    have e1 := wadd s1
    have e3 := wsucc s1
    simp only [C_length, e1, e3, Int.toNat_natCast]
    rw [e2]
    clear e1 e2 e3
    exact Ev.pos (by omega) (Ev.pos (by omega) key)
theorem rmul_f (a b : Nat) (ha : Md a) (hb : Md b) : Ev (fun k => schismaref01_Mul.f k (S a) (S b)) (S (a * b)) := by
  unfold schismaref01_Mul.f
  have h1 := ha.out
  have h2 := hb.out
  have p1 := Lib.nDigits_pos a
  have p2 := Lib.nDigits_pos b
  have s1 : Sm (Lib.nDigits a + Lib.nDigits b) := ⟨by omega⟩
  refine Ev.bind (quick_f a) (Ev.bind (quick_f b) ?_)
  by_cases q1 : Lib.nDigits a ≤ 18
  · rw [if_pos q1]
    refine Ev.pos rfl ?_
    by_cases q2 : Lib.nDigits b ≤ 18
    · rw [if_pos q2]
      refine Ev.pos rfl ?_
      have e1 := wadd s1
      rw [S_size, S_size, e1]
      clear e1
      by_cases h : Lib.nDigits a + Lib.nDigits b ≤ 18
      · rw [decide_eq_true (by omega)]
        have h4 := nDig_mul a b
        have h5 : a * b < 10 ^ 18 := nDig_lt (by omega)
        have h6 : (10 : Nat) ^ 18 = 1000000000000000000 := by decide
        have e0 := rof_f (a * b) (by omega)
        have e2 := umul (a := a) (b := b) (by omega)
        refine Ev.step (f := fun _ => some (S (a * b))) (fun k => ?_) (Ev.now _)
        simp only [schismaref01_Mul.j0, if_true, e2, e0, Option.bind_some]
      · rw [decide_eq_false (by omega)]
        exact rmul_long a b ha hb _ _
    · rw [if_neg q2]
      exact Ev.neg (by decide) (rmul_long a b ha hb _ _)
  · rw [if_neg q1]
    exact Ev.neg (by decide) (rmul_long a b ha hb _ _)
end Go.Proofs.YtcfddphiflmnlaaDoor.P

namespace Go.Proofs.YtcfddphiflmnlaaDoor.P
open Go.RowKit Go.Proofs.YtcfddphiflmnlaaDoorW.PrintWords
theorem S_beq_self (n : Nat) : ((S n).toList == (S n).toList) = true := by simp
end Go.Proofs.YtcfddphiflmnlaaDoor.P

namespace Go.Proofs.YtcfddphiflmnlaaDoor.P
open Go.RowKit Go.Proofs.YtcfddphiflmnlaaDoorW.PrintWords
theorem pow_lt_dig {a n : Nat} (ha : a < 10 ^ 20) (hn : 0 < n) : a ^ n < 10 ^ (20 * n) := by
  rw [Nat.pow_mul]
  exact Nat.pow_lt_pow_left ha (by omega)
theorem nDig_pow {a n : Nat} (ha : a < 10 ^ 20) : Lib.nDigits (a ^ n) ≤ 20 * n + 1 := by
  rcases Nat.eq_zero_or_pos n with h | h
  · subst h
    rw [Nat.pow_zero]
    exact Nat.le_of_eq (Lib.nDigits_small (by decide))
  · have := nDig_le (by omega) (pow_lt_dig ha h)
    omega
theorem blen_20 {a : Nat} (ha : a < 10 ^ 20) : blen a ≤ 67 := blen_le (Nat.lt_trans ha (by decide))
theorem powr_ok {a n : Nat} (ha : a < 10 ^ 20) (hn : n ≤ 40) : powr a n = (S (a ^ n), 0) := by
  have hb := blen_20 ha
  have hd := nDig_pow (n := n) ha
  clear ha
  unfold powr
  by_cases h0 : n = 0
  · subst h0; rw [if_pos (Or.inl rfl), Nat.pow_zero]
  · by_cases h1 : a = 1
    · subst h1; rw [if_pos (Or.inr rfl), Nat.one_pow]
    · rw [if_neg (fun e => e.elim h0 h1)]
      by_cases hz : a = 0
      · subst hz; rw [if_pos rfl, Nat.zero_pow (by omega)]
      · rw [if_neg hz]
        have hb2 : 2 ≤ blen a := by rw [blen_pos hz, blen_pos (by omega)]; omega
        have h5 : 40 ≤ 66439 / (blen a - 1) := by
          rw [Nat.le_div_iff_mul_le (by omega)]
          omega
        rw [if_neg (by omega), fin, if_neg (by omega)]
end Go.Proofs.YtcfddphiflmnlaaDoor.P

namespace Go.Proofs.YtcfddphiflmnlaaDoor.Pure
open Go.RowKit Go.Proofs.YtcfddphiflmnlaaDoor.P Go.Proofs.YtcfddphiflmnlaaDoorW.PrintWords Go.Proofs.YtcfddphiflmnlaaDoorW.PrintLast
theorem rpower_l0 (a n : Nat) (ha : a < 10 ^ 20) (hn : n ≤ 40) : ∀ (j i : Nat), i + j = n → Ev (fun k => schismaref01_Power.l0 k (S a) (n : Int) 1000 (S (a ^ i)) (i : Int)) (S (a ^ n), true)
  | 0, i, h => by
    obtain rfl : i = n := by omega
    refine Ev.step (f := fun _ => some (S (a ^ i), true)) (fun k => ?_) (Ev.now _)
    rw [schismaref01_Power.l0, if_neg (by omega)]
  | j + 1, i, h => by
    have d1 := nDig_pow (n := i) ha
    have d2 := nDig_pow (n := i + 1) ha
    have d3 := nDig_pow (n := 1) ha
    rw [Nat.pow_one] at d3
    have hm := rmul_f (a ^ i) a ⟨by omega⟩ ⟨by omega⟩
    rw [← Nat.pow_succ] at hm
    have hsz := S_size (a ^ (i + 1))
    have e1 := wsucc (a := i) ⟨by omega⟩
    refine Ev.step (f := fun k => (schismaref01_Mul.f k (S (a ^ i)) (S a)).bind fun t371 => (if (t371.size : Int) > 1000 then (some ((⟨#[]⟩ : ByteArray), false)) else (schismaref01_Power.l0 k (S a) (n : Int) 1000 t371 ((i + 1 : Nat) : Int)))) (fun k => ?_) (Ev.bind hm ?_)
    · rw [schismaref01_Power.l0, if_pos (by clear e1; omega), e1]
    · clear e1
      exact Ev.neg (by rw [hsz]; omega) (rpower_l0 a n ha hn j (i + 1) (by omega))
theorem rpower_f (a n : Nat) (ha : a < 10 ^ 20) (h : n ≤ 40 ∨ a = 0 ∨ a = 1) (hpos : n ≤ 40 ∨ 0 < n) : Ev (fun k => schismaref01_Power.f k (S a) (n : Int) 1000) (S (a ^ n), true) := by
  unfold schismaref01_Power.f
  by_cases h1 : a = 1
  · subst h1
    have key : Ev (fun k => schismaref01_Power.j0 k (S 1) (n : Int) 1000 true) (S (1 ^ n), true) := by
      refine Ev.step (f := fun _ => some (S (1 ^ n), true)) (fun k => ?_) (Ev.now _)
      rw [schismaref01_Power.j0, if_pos rfl, Nat.one_pow]
    have e : ((S 1).toList == ([49] : List UInt8)) = true := by rw [S_beq1]; rfl
    refine Ev.neg (fun h2 => absurd ((S_is0 1).1 h2) (by decide)) ?_
    rw [e]
    exact key
  · have e : ((S a).toList == ([49] : List UInt8)) = false := by rw [S_beq1]; exact decide_eq_false h1
    rw [e]
    by_cases hz : a = 0
    · subst hz
      refine Ev.pos ((S_is0 0).2 rfl) ?_
      by_cases hn : 0 < n
      · refine Ev.pos (by omega) ?_
        refine Ev.step (f := fun _ => some (S (0 ^ n), true)) (fun k => ?_) (Ev.now _)
        rw [schismaref01_Power.j0, if_pos rfl, Nat.zero_pow hn]
      · refine Ev.neg (by omega) ?_
        refine Ev.step (f := fun k => schismaref01_Power.l0 k (S 0) (n : Int) 1000 (S (0 ^ 0)) ((0 : Nat) : Int)) (fun k => ?_) (rpower_l0 0 n (by decide) (by omega) n 0 (by omega))
        rw [schismaref01_Power.j0, if_neg (by decide), one_str]
        rfl
    · refine Ev.neg (fun h2 => hz ((S_is0 a).1 h2)) ?_
      refine Ev.step (f := fun k => schismaref01_Power.l0 k (S a) (n : Int) 1000 (S (a ^ 0)) ((0 : Nat) : Int)) (fun k => ?_) (rpower_l0 a n ha (by omega) n 0 (by omega))
      rw [schismaref01_Power.j0, if_neg (by decide), one_str, Nat.pow_zero]
      rfl
theorem powr_long {a n : Nat} (ha : 2 ≤ a) (h : 20000 < (Lib.nDigits a - 1) * n ∨ 66439 < n) : powr a n = (⟨#[]⟩, 4) := by
  have hn : n ≠ 0 := by
    rcases h with h | h
    · intro e; rw [e] at h; omega
    · omega
  unfold powr
  rw [if_neg (fun e => e.elim hn (by omega)), if_neg (by omega)]
  by_cases hl : 66439 / (blen a - 1) < n
  · rw [if_pos hl]
  · rw [if_neg hl]
    have hd : 66439 / (blen a - 1) ≤ 66439 := Nat.div_le_self _ _
    rcases h with h | h
    · have hk : 0 < Lib.nDigits a - 1 := by
        rcases Nat.eq_zero_or_pos (Lib.nDigits a - 1) with h1 | h1
        · rw [h1, Nat.zero_mul] at h; omega
        · exact h1
      have h1 := pow_le_nDig (n := a) (k := Lib.nDigits a - 1) (by omega) hk
      have h2 := Nat.pow_le_pow_left h1 n
      rw [← Nat.pow_mul] at h2
      have h3 : 20000 < Lib.nDigits (a ^ n) := by
        rcases Nat.lt_or_ge 20000 (Lib.nDigits (a ^ n)) with h4 | h4
        · exact h4
        · have h5 := Lib.lt_pow_nDigits (a ^ n)
          have h6 : 10 ^ Lib.nDigits (a ^ n) ≤ 10 ^ ((Lib.nDigits a - 1) * n) := Nat.pow_le_pow_right (by decide) (by omega)
          omega
      rw [fin, if_pos h3]
    · omega
theorem few_ops (d n : Nat) (hd1 : 1 ≤ d) (hd : d ≤ 20) (hn : n < 9223372036854775808) (h : mx (wrap64 (wrap64 ((d : Int) - 1) * mn (n : Int) 30000)) (wrap64 (Int.tdiv (mn (n : Int) 100000) 4)) > 20000) : 20000 < (d - 1) * n ∨ 66439 < n := by
  obtain ⟨m, hm, hm1, hm2⟩ : ∃ m : Nat, mn (n : Int) 30000 = (m : Int) ∧ m ≤ n ∧ m ≤ 30000 := by
    unfold mn
    by_cases h1 : (30000 : Int) < n
    · exact ⟨30000, if_pos h1, by omega, by omega⟩
    · exact ⟨n, if_neg h1, by omega, by omega⟩
  obtain ⟨q, hq, hq1, hq2⟩ : ∃ q : Nat, mn (n : Int) 100000 = (q : Int) ∧ q ≤ n ∧ q ≤ 100000 := by
    unfold mn
    by_cases h1 : (100000 : Int) < n
    · exact ⟨100000, if_pos h1, by omega, by omega⟩
    · exact ⟨n, if_neg h1, by omega, by omega⟩
  have e1 : Int.tdiv (q : Int) 4 = ((q / 4 : Nat) : Int) := tdivn q 4
  have h5 : (d - 1) * m ≤ 19 * 30000 := Nat.mul_le_mul (by omega) hm2
  have h6 : (d - 1) * m ≤ (d - 1) * n := Nat.mul_le_mul_left _ hm1
  have e2 : ((d : Int) - 1) * (m : Int) = (((d - 1) * m : Nat) : Int) := by
    rw [Int.natCast_mul]; congr 1; omega
  rw [hm, hq, e1, w64 (n := (d : Int) - 1) (by omega) (by omega), e2, w64 (by omega) (by omega), w64 (by omega) (by omega)] at h
  unfold mx at h
  split at h <;> omega
theorem pw_head (k : Nat) (l : List Int) (n : Int) : schismalaw01_DecimalPowers.j0 (k + 1) l n false = (schismalaw01_Make.f k l).bind fun t374 => ((decimal_Power.f k t374 n).bind fun bt375 => (if n < 0 then (if bt375.1.toList = ([] : List UInt8) then (some (bt375.2 == 3)) else (some false)) else (if n ≤ 40 then (schismalaw01_DecimalPowers.j1 k n t374 bt375.1 bt375.2 true) else (if t374.toList = ([48] : List UInt8) then (schismalaw01_DecimalPowers.j1 k n t374 bt375.1 bt375.2 true) else (schismalaw01_DecimalPowers.j1 k n t374 bt375.1 bt375.2 (t374.toList == ([49] : List UInt8))))))) := by
  simp only [schismalaw01_DecimalPowers.j0, Bool.false_eq_true, if_false]
theorem pw_known (a n : Nat) (ha : a < 10 ^ 20) (h : n ≤ 40 ∨ a = 0 ∨ a = 1) (hp : powr a n = (S (a ^ n), 0)) : Ev (fun k => schismalaw01_DecimalPowers.j1 k (n : Int) (S a) (powr a n).1 (powr a n).2 true) true := by
  rw [hp]
  refine Ev.step (f := fun k => (schismaref01_Power.f k (S a) (n : Int) 1000).bind fun bt377 => (some ((S (a ^ n)).toList == bt377.1.toList))) (fun k => ?_) (Ev.bind (rpower_f a n ha h (by omega)) (Ev.eq (Ev.now _) (S_beq_self _)))
  simp only [schismalaw01_DecimalPowers.j1, if_true]
theorem DecimalPowers : schismalaw01_DecimalPowers.Pure := by
  intro l n _ hl1 hl2 hn
  obtain ⟨n0, n1⟩ := wf_i64 hn
  refine Ev.rounds (Ev.bind known_ev (Ev.pos rfl ?_))
  by_cases h : (l.length : Int) > 20
  · rw [decide_eq_true h]
    refine Ev.step (f := fun k => (schismalaw01_known.f k).bind fun t => some t) (fun k => ?_) (Ev.bind known_ev (Ev.now _))
    simp only [schismalaw01_DecimalPowers.j0, if_true]
  · rw [decide_eq_false h]
    obtain ⟨a, a1, _, a3⟩ := make_f l hl2 (by omega)
    have ha : a < 10 ^ 20 := Nat.lt_of_lt_of_le a1 (Nat.pow_le_pow_right (by decide) (by omega))
    have da : Lib.nDigits a ≤ 20 := nDig_le (by decide) ha
    have hM : Md a := ⟨by omega⟩
    refine Ev.step (fun k => pw_head k l n) (Ev.bind a3 ?_)
    by_cases hneg : n < 0
    · simp only [power_neg _ n hneg, Option.bind_some]
      refine Ev.pos hneg (Ev.pos (by rw [toList_data]) (Ev.eq (Ev.now _) rfl))
    · obtain ⟨m, rfl⟩ : ∃ m : Nat, n = m := ⟨n.toNat, by omega⟩
      have hm : m < 9223372036854775808 := by omega
      refine Ev.bind (power_f a m hM hm) (Ev.neg hneg ?_)
      by_cases h40 : m ≤ 40
      · exact Ev.pos (by omega) (pw_known a m ha (Or.inl h40) (powr_ok ha h40))
      · refine Ev.neg (by omega) ?_
        by_cases hz : a = 0
        · refine Ev.pos ((S_is0 a).2 hz) (pw_known a m ha (Or.inr (Or.inl hz)) ?_)
          subst hz
          unfold powr
          rw [if_neg (fun e => e.elim (by omega) (by decide)), if_pos rfl, Nat.zero_pow (by omega)]
        · refine Ev.neg (fun e => hz ((S_is0 a).1 e)) ?_
          rw [S_beq1]
          by_cases h1 : a = 1
          · rw [decide_eq_true h1]
            refine pw_known a m ha (Or.inr (Or.inr h1)) ?_
            subst h1
            unfold powr
            rw [if_pos (Or.inr rfl), Nat.one_pow]
          · rw [decide_eq_false h1]
            have hnd := Lib.nDigits_pos a
            by_cases hc : mx (wrap64 (wrap64 (((S a).size : Int) - 1) * mn (m : Int) 30000)) (wrap64 (Int.tdiv (mn (m : Int) 100000) 4)) > 20000
            · have hc2 := hc
              rw [S_size] at hc2
              have hlong := few_ops (Lib.nDigits a) m hnd da hm hc2
              rw [powr_long (by omega) hlong]
              refine Ev.step (f := fun _ => some true) (fun k => ?_) (Ev.now _)
              rw [schismalaw01_DecimalPowers.j1, if_neg (by decide), if_pos hc, if_pos (by rw [toList_data])]
              rfl
            · refine Ev.step (f := fun _ => some true) (fun k => ?_) (Ev.now _)
              rw [schismalaw01_DecimalPowers.j1, if_neg (by decide), if_neg hc]
end Go.Proofs.YtcfddphiflmnlaaDoor.Pure
