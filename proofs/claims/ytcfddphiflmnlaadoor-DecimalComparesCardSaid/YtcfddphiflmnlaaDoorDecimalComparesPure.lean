/- The printed functions as operations on numbers, and the law's answer: true at every input. Conditions: those of each theorem; the law's own has the row's bounds alone. -/
import Derived.Laws.Bits64b
import Derived.Lib.BitFns
import Derived.Lib.ItoaNum
import Derived.Test.YtcfddphiflmnlaaDoorDecimalComparesF6
import Derived.Test.YtcfddphiflmnlaaDoorDecimalComparesWPlus

namespace Go.Proofs.YtcfddphiflmnlaaDoor.P
open Go.RowKit Go.Proofs.YtcfddphiflmnlaaDoorW.PrintWords
def val : List Nat → Nat
  | [] => 0
  | a :: l => a + 1000000000 * val l
def Ok (l : List Nat) : Prop := ∀ a, a ∈ l → a < 1000000000
def pcs (n : Nat) : List Nat := if h : n = 0 then [] else (n % 1000000000) :: pcs (n / 1000000000)
termination_by n
decreasing_by omega
theorem pcs_zero : pcs 0 = [] := by rw [pcs]; rfl
theorem pcs_pos {n : Nat} (h : n ≠ 0) : pcs n = (n % 1000000000) :: pcs (n / 1000000000) := by rw [pcs, dif_neg h]
theorem Ok.nil : Ok [] := fun _ h => by cases h
theorem Ok.cons {a : Nat} {l : List Nat} (ha : a < 1000000000) (hl : Ok l) : Ok (a :: l) := fun x hx => by
  rcases List.mem_cons.1 hx with rfl | hx
  · exact ha
  · exact hl x hx
theorem Ok.head {a : Nat} {l : List Nat} (h : Ok (a :: l)) : a < 1000000000 := h a List.mem_cons_self
theorem Ok.tail {a : Nat} {l : List Nat} (h : Ok (a :: l)) : Ok l := fun x hx => h x (List.mem_cons_of_mem _ hx)
theorem Ok.append {l m : List Nat} (hl : Ok l) (hm : Ok m) : Ok (l ++ m) := fun x hx => by
  rcases List.mem_append.1 hx with hx | hx
  · exact hl x hx
  · exact hm x hx
theorem Ok.left {l m : List Nat} (h : Ok (l ++ m)) : Ok l := fun x hx => h x (List.mem_append_left _ hx)
theorem Ok.right {l m : List Nat} (h : Ok (l ++ m)) : Ok m := fun x hx => h x (List.mem_append_right _ hx)
theorem Ok.take {l : List Nat} (h : Ok l) (i : Nat) : Ok (l.take i) := fun x hx => h x (List.mem_of_mem_take hx)
theorem Ok.drop {l : List Nat} (h : Ok l) (i : Nat) : Ok (l.drop i) := fun x hx => h x (List.mem_of_mem_drop hx)
theorem Ok.getD {l : List Nat} (h : Ok l) (i : Nat) : l.getD i 0 < 1000000000 := by
  rw [List.getD_eq_getElem?_getD]
  by_cases hi : i < l.length
  · rw [List.getElem?_eq_getElem hi]; exact h _ (List.getElem_mem hi)
  · rw [List.getElem?_eq_none (by omega)]; simp
theorem ok_pcs (n : Nat) : Ok (pcs n) := by
  induction n using Nat.strongRecOn with
  | _ n ih =>
    by_cases h : n = 0
    · subst h; rw [pcs_zero]; exact Ok.nil
    · rw [pcs_pos h]; exact Ok.cons (by omega) (ih _ (by omega))
theorem val_pcs (n : Nat) : val (pcs n) = n := by
  induction n using Nat.strongRecOn with
  | _ n ih =>
    by_cases h : n = 0
    · subst h; rw [pcs_zero]; rfl
    · rw [pcs_pos h, val, ih _ (by omega)]; omega
theorem val_append (l m : List Nat) : val (l ++ m) = val l + 1000000000 ^ l.length * val m := by
  induction l with
  | nil => simp [val]
  | cons a l ih =>
    simp only [List.cons_append, val, ih, List.length_cons, Nat.pow_succ]
    rw [Nat.mul_add, Nat.add_assoc, ← Nat.mul_assoc, Nat.mul_comm 1000000000 (1000000000 ^ l.length)]
theorem val_snoc (l : List Nat) (a : Nat) : val (l ++ [a]) = val l + 1000000000 ^ l.length * a := by rw [val_append]; simp [val]
theorem pcs_snoc : ∀ (l : List Nat) (a : Nat), Ok (l ++ [a]) → a ≠ 0 → pcs (val (l ++ [a])) = l ++ [a]
  | [], a, h, ha => by
    have := h.head
    have e : val ([] ++ [a]) = a := by simp [val]
    rw [e, pcs_pos ha, Nat.mod_eq_of_lt this, Nat.div_eq_of_lt this, pcs_zero]
    rfl
  | b :: l, a, h, ha => by
    have hb : b < 1000000000 := h.head
    have ih := pcs_snoc l a h.tail ha
    have hv : val (l ++ [a]) ≠ 0 := by
      intro e
      rw [e, pcs_zero] at ih
      exact absurd ih (by simp)
    have e : val (b :: l ++ [a]) = b + 1000000000 * val (l ++ [a]) := rfl
    rw [e, pcs_pos (by omega), show (b + 1000000000 * val (l ++ [a])) % 1000000000 = b by omega, show (b + 1000000000 * val (l ++ [a])) / 1000000000 = val (l ++ [a]) by omega, ih]
    rfl
theorem pcs_len_le {n k : Nat} (h : n < 1000000000 ^ k) : (pcs n).length ≤ k := by
  induction k generalizing n with
  | zero => rw [show n = 0 by simpa using h, pcs_zero]; simp
  | succ k ih =>
    by_cases h0 : n = 0
    · subst h0; rw [pcs_zero]; simp
    · rw [pcs_pos h0, List.length_cons]
      have := ih (n := n / 1000000000) (by rw [Nat.pow_succ] at h; omega)
      omega
theorem Ok.set {l : List Nat} (h : Ok l) (i x : Nat) (hx : x < 1000000000) : Ok (l.set i x) := fun a ha => by
  rcases List.mem_or_eq_of_mem_set ha with h1 | h1
  · exact h a h1
  · omega
def C (l : List Nat) : List Int := l.map fun n : Nat => (n : Int)
theorem C_nil : C [] = [] := rfl
theorem C_length (l : List Nat) : (C l).length = l.length := by simp [C]
theorem C_append (l m : List Nat) : C (l ++ m) = C l ++ C m := by simp [C]
theorem C_take (l : List Nat) (i : Nat) : (C l).take i = C (l.take i) := by simp [C, List.map_take]
theorem C_set (l : List Nat) (i x : Nat) : (C l).set i (x : Int) = C (l.set i x) := by simp [C, List.map_set]
theorem rd_C (l : List Nat) (i : Nat) : rd (C l) (i : Int) = (l.getD i 0 : Nat) := by
  simp only [rd, C, Int.toNat_natCast, List.getD_eq_getElem?_getD, List.getElem?_map]
  cases l[i]? <;> simp
theorem w64 {n : Int} (h0 : -9223372036854775808 ≤ n) (h1 : n ≤ 9223372036854775807) : wrap64 n = n := by unfold wrap64; omega
theorem u64w {n : Int} (h0 : 0 ≤ n) (h1 : n ≤ 18446744073709551615) : IntKind.u64.wrap n = n := by rw [IntKind.wrap_u64]; omega
theorem u64n (n : Nat) (h : n < 18446744073709551616) : IntKind.u64.wrap (n : Int) = n := u64w (by omega) (by omega)
theorem tdivn (a b : Nat) : Int.tdiv (a : Int) (b : Int) = ((a / b : Nat) : Int) := (Int.ofNat_tdiv a b).symm
theorem tmodn (a b : Nat) : Int.tmod (a : Int) (b : Int) = ((a % b : Nat) : Int) := (Int.ofNat_tmod a b).symm
structure Sm (n : Nat) : Prop where
  out : n < 4611686018427387904
theorem wsucc {a : Nat} (h : Sm a) : wrap64 ((a : Int) + 1) = ((a + 1 : Nat) : Int) := by have := h.out; rw [w64] <;> omega
theorem wpred1 {a : Nat} (h : Sm (a + 1)) : wrap64 (((a + 1 : Nat) : Int) - 1) = (a : Int) := by have := h.out; rw [w64] <;> omega
theorem uadd {a b : Nat} (h : a + b < 18446744073709551616) : IntKind.u64.wrap ((a : Int) + (b : Int)) = ((a + b : Nat) : Int) := by rw [← Int.natCast_add]; exact u64n _ h
theorem umul {a b : Nat} (h : a * b < 18446744073709551616) : IntKind.u64.wrap ((a : Int) * (b : Int)) = ((a * b : Nat) : Int) := by rw [← Int.natCast_mul]; exact u64n _ h
end Go.Proofs.YtcfddphiflmnlaaDoor.P

namespace Go.Proofs.YtcfddphiflmnlaaDoor.P
open Go.RowKit Go.Proofs.YtcfddphiflmnlaaDoorW.PrintWords
theorem Ev.eq {α : Type} {g : Nat → Option α} {r r' : α} (h : Ev g r) (e : r = r') : Ev g r' := e ▸ h
theorem Ev.pos {α : Type} {p : Prop} [Decidable p] {g f : Nat → Option α} {r : α} (h : p) (k : Ev g r) : Ev (fun n => if p then g n else f n) r := by
  simp only [if_pos h]; exact k
theorem Ev.neg {α : Type} {p : Prop} [Decidable p] {g f : Nat → Option α} {r : α} (h : ¬ p) (k : Ev f r) : Ev (fun n => if p then g n else f n) r := by
  simp only [if_neg h]; exact k
theorem concat_of_len {α : Type} {l : List α} {n : Nat} (h : l.length = n + 1) : ∃ m a, l = m ++ [a] ∧ m.length = n := by
  rcases List.eq_nil_or_concat l with e | ⟨m, a, e⟩
  · subst e; simp at h
  · refine ⟨m, a, by simpa using e, ?_⟩
    subst e
    simpa using h
theorem getD_mid (l m : List Nat) (a : Nat) : (l ++ a :: m).getD l.length 0 = a := by
  simp [List.getD_eq_getElem?_getD]
theorem set_mid (l m : List Nat) (a b : Nat) : (l ++ a :: m).set l.length b = l ++ b :: m := by
  simp
theorem trim_l0 : ∀ (n : Nat) (l : List Nat), l.length = n → Ok l → n < 4611686018427387904 → Ev (fun k => decimal_pieces_trim.l0 k (C l)) (C (pcs (val l)))
  | 0, l, hl, _, _ => by
    obtain rfl := List.length_eq_zero_iff.1 hl
    refine Ev.step (f := fun _ => some []) (fun k => ?_) (Ev.eq (Ev.now _) ?_)
    · simp only [decimal_pieces_trim.l0, C_nil, List.length_nil]
      rfl
    · rw [show val [] = 0 from rfl, pcs_zero]; rfl
  | n + 1, l, hl, h, hn => by
    obtain ⟨m, a, rfl, hm⟩ := concat_of_len hl
    have h1 : (C (m ++ [a])).length = n + 1 := by rw [C_length]; exact hl
    have h3 : rd (C (m ++ [a])) (n : Int) = a := by rw [rd_C, ← hm, getD_mid]
    have h4 : wrap64 (((C (m ++ [a])).length : Int) - 1) = (n : Int) := by rw [h1, w64] <;> omega
    by_cases ha : a = 0
    · subst ha
      refine Ev.step (f := fun k => decimal_pieces_trim.l0 k (C m)) (fun k => ?_) (Ev.eq (trim_l0 n m hm h.left (by omega)) (by rw [val_snoc, Nat.mul_zero, Nat.add_zero]))
      simp (disch := omega) only [decimal_pieces_trim.l0, h4, h3, if_pos]
      congr 1
      rw [Int.toNat_natCast, C_take, ← hm, List.take_left]
    · refine Ev.step (f := fun _ => some (C (m ++ [a]))) (fun k => ?_) (Ev.eq (Ev.now _) (by rw [pcs_snoc m a h ha]))
      simp (disch := omega) only [decimal_pieces_trim.l0, h4, h3, if_pos, if_neg]
theorem trim_f (l : List Nat) (h : Ok l) (hl : l.length < 4611686018427387904) : Ev (fun k => decimal_pieces_trim.f k (C l)) (C (pcs (val l))) := by
  unfold decimal_pieces_trim.f
  exact trim_l0 _ l rfl h hl
def cmp (a b : Nat) : Int := if a < b then -1 else if b < a then 1 else 0
end Go.Proofs.YtcfddphiflmnlaaDoor.P

namespace Go.Proofs.YtcfddphiflmnlaaDoor.P
open Go.RowKit Go.Proofs.YtcfddphiflmnlaaDoorW.PrintWords
theorem rd_at (L W : List Nat) (x : Nat) (i : Nat) (h : L.length = i) : rd (C (L ++ x :: W)) (i : Int) = x := by rw [rd_C, ← h, getD_mid]
theorem set_at (L W : List Nat) (x y : Nat) (i : Nat) (h : L.length = i) : (C (L ++ x :: W)).set (i : Int).toNat (y : Int) = C (L ++ y :: W) := by rw [Int.toNat_natCast, C_set, ← h, set_mid]
end Go.Proofs.YtcfddphiflmnlaaDoor.P

namespace Go.Proofs.YtcfddphiflmnlaaDoor.P
open Go.RowKit Go.Proofs.YtcfddphiflmnlaaDoorW.PrintWords
end Go.Proofs.YtcfddphiflmnlaaDoor.P

namespace Go.Proofs.YtcfddphiflmnlaaDoor.P
open Go.RowKit Go.Proofs.YtcfddphiflmnlaaDoorW.PrintWords
end Go.Proofs.YtcfddphiflmnlaaDoor.P

namespace Go.Proofs.YtcfddphiflmnlaaDoor.P
open Go.RowKit Go.Proofs.YtcfddphiflmnlaaDoorW.PrintWords
end Go.Proofs.YtcfddphiflmnlaaDoor.P

namespace Go.Proofs.YtcfddphiflmnlaaDoor.P
open Go.RowKit Go.Proofs.YtcfddphiflmnlaaDoorW.PrintWords
end Go.Proofs.YtcfddphiflmnlaaDoor.P

namespace Go.Proofs.YtcfddphiflmnlaaDoor.P
open Go.RowKit Go.Proofs.YtcfddphiflmnlaaDoorW.PrintWords
end Go.Proofs.YtcfddphiflmnlaaDoor.P

namespace Go.Proofs.YtcfddphiflmnlaaDoor.P
open Go.RowKit Go.Proofs.YtcfddphiflmnlaaDoorW.PrintWords
theorem snoc_ind {α : Type} {p : List α → Prop} (nil : p []) (snoc : ∀ (l : List α) (a : α), p l → p (l ++ [a])) (l : List α) : p l := by
  have h : ∀ (n : Nat) (l : List α), l.length = n → p l := by
    intro n
    induction n with
    | zero => intro l hl; rw [List.length_eq_zero_iff.1 hl]; exact nil
    | succ n ih =>
      intro l hl
      rcases List.eq_nil_or_concat l with e | ⟨m, a, e⟩
      · rw [e] at hl; simp at hl
      · have e' : l = m ++ [a] := by simpa using e
        subst e'
        exact snoc m a (ih m (by simpa using hl))
  exact h _ l rfl
def dv (l : List UInt8) : Nat := l.foldl (fun n c => 10 * n + (c.toNat - 48)) 0
def IsD (l : List UInt8) : Prop := ∀ c, c ∈ l → 48 ≤ c.toNat ∧ c.toNat ≤ 57
def Can (l : List UInt8) : Prop := IsD l ∧ (l.length = 1 ∨ (1 < l.length ∧ l.head? ≠ some 48))
theorem dv_nil : dv [] = 0 := rfl
theorem dv_snoc (l : List UInt8) (c : UInt8) : dv (l ++ [c]) = 10 * dv l + (c.toNat - 48) := by simp [dv, List.foldl_append]
theorem dv_append (l m : List UInt8) : dv (l ++ m) = dv l * 10 ^ m.length + dv m := by
  induction m using snoc_ind with
  | nil => simp [dv_nil]
  | snoc m c ih =>
    rw [← List.append_assoc, dv_snoc, ih, dv_snoc, List.length_append, List.length_singleton, Nat.pow_succ, Nat.mul_add, ← Nat.mul_assoc (dv l), Nat.mul_comm _ 10]
    omega
theorem IsD.nil : IsD [] := fun _ h => by cases h
theorem IsD.cons {c : UInt8} {l : List UInt8} (h1 : 48 ≤ c.toNat ∧ c.toNat ≤ 57) (h2 : IsD l) : IsD (c :: l) := fun x hx => by
  rcases List.mem_cons.1 hx with rfl | hx
  · exact h1
  · exact h2 x hx
theorem IsD.left {l m : List UInt8} (h : IsD (l ++ m)) : IsD l := fun x hx => h x (List.mem_append_left _ hx)
theorem IsD.right {l m : List UInt8} (h : IsD (l ++ m)) : IsD m := fun x hx => h x (List.mem_append_right _ hx)
theorem IsD.append {l m : List UInt8} (hl : IsD l) (hm : IsD m) : IsD (l ++ m) := fun x hx => by
  rcases List.mem_append.1 hx with hx | hx
  · exact hl x hx
  · exact hm x hx
theorem IsD.take {l : List UInt8} (h : IsD l) (i : Nat) : IsD (l.take i) := fun x hx => h x (List.mem_of_mem_take hx)
theorem IsD.drop {l : List UInt8} (h : IsD l) (i : Nat) : IsD (l.drop i) := fun x hx => h x (List.mem_of_mem_drop hx)
theorem dv_lt {l : List UInt8} (h : IsD l) : dv l < 10 ^ l.length := by
  induction l using snoc_ind with
  | nil => simp [dv_nil]
  | snoc m c ih =>
    have h1 := ih h.left
    have h2 := h.right c (by simp)
    rw [dv_snoc, List.length_append, List.length_singleton, Nat.pow_succ]
    omega
theorem digit_toNat {d : Nat} (h : d < 10) : (UInt8.ofNat (48 + d)).toNat = 48 + d := by
  rw [UInt8.toNat_ofNat']
  omega
theorem digit_of {c : UInt8} (h : 48 ≤ c.toNat ∧ c.toNat ≤ 57) : UInt8.ofNat (48 + (c.toNat - 48)) = c := by
  rw [show 48 + (c.toNat - 48) = c.toNat by omega]
  exact UInt8.ofNat_toNat
theorem dec_small {n : Nat} (h : n < 10) : Lib.decDigits n = [UInt8.ofNat (48 + n)] := by rw [Lib.decDigits, dif_pos h]
theorem dec_big {n : Nat} (h : 10 ≤ n) : Lib.decDigits n = Lib.decDigits (n / 10) ++ [UInt8.ofNat (48 + n % 10)] := by rw [Lib.decDigits, dif_neg (by omega)]
theorem isD_dec (n : Nat) : IsD (Lib.decDigits n) := by
  induction n using Nat.strongRecOn with
  | _ n ih =>
    by_cases h : n < 10
    · rw [dec_small h]
      refine IsD.cons ?_ IsD.nil
      rw [digit_toNat h]; omega
    · rw [dec_big (by omega)]
      refine (ih _ (by omega)).append (IsD.cons ?_ IsD.nil)
      rw [digit_toNat (by omega)]; omega
theorem dv_dec (n : Nat) : dv (Lib.decDigits n) = n := by
  induction n using Nat.strongRecOn with
  | _ n ih =>
    by_cases h : n < 10
    · rw [dec_small h, show [UInt8.ofNat (48 + n)] = [] ++ [UInt8.ofNat (48 + n)] from rfl, dv_snoc, digit_toNat h, dv_nil]; omega
    · rw [dec_big (by omega), dv_snoc, ih _ (by omega), digit_toNat (by omega)]; omega
theorem dec_len_pos (n : Nat) : 0 < (Lib.decDigits n).length := by rw [Lib.decDigits_length]; exact Lib.nDigits_pos n
theorem dec_dv : ∀ (k : Nat) (l : List UInt8), l.length = k → Can l → Lib.decDigits (dv l) = l
  | 0, l, hl, h => by rcases h.2 with h | h <;> omega
  | 1, l, hl, h => by
    rcases l with _ | ⟨c, _ | ⟨d, t⟩⟩
    · simp at hl
    · have hc := h.1 c (by simp)
      have : dv [c] = c.toNat - 48 := by rw [show [c] = [] ++ [c] from rfl, dv_snoc, dv_nil]; omega
      rw [this, dec_small (by omega), digit_of hc]
    · simp at hl
  | k + 2, l, hl, h => by
    obtain ⟨m, c, rfl⟩ : ∃ m c, l = m ++ [c] := by
      rcases List.eq_nil_or_concat l with e | ⟨m, c, e⟩
      · subst e; simp at hl
      · exact ⟨m, c, by simpa using e⟩
    have hm : m.length = k + 1 := by simpa using hl
    have h2 : 1 < (m ++ [c]).length ∧ (m ++ [c]).head? ≠ some 48 := by
      rcases h.2 with h2 | h2
      · omega
      · exact h2
    have hh : m.head? ≠ some 48 := by
      have := h2.2
      rcases m with _ | ⟨a, t⟩
      · simp at hm
      · simpa using this
    have hc := h.1.right c (by simp)
    have hmc : Can m := ⟨h.1.left, by
      by_cases h3 : m.length = 1
      · exact Or.inl h3
      · exact Or.inr ⟨by omega, hh⟩⟩
    have ih := dec_dv (k + 1) m hm hmc
    have h0 : dv m ≠ 0 := by
      intro e
      rw [e] at ih
      have e1 : Lib.decDigits 0 = [48] := dec_small (by omega)
      rw [e1] at ih
      rw [← ih] at hh
      exact hh rfl
    rw [dv_snoc, dec_big (by omega), show (10 * dv m + (c.toNat - 48)) / 10 = dv m by omega, ih, show (10 * dv m + (c.toNat - 48)) % 10 = c.toNat - 48 by omega, digit_of hc]
theorem dec_inj {a b : Nat} (h : Lib.decDigits a = Lib.decDigits b) : a = b := by rw [← dv_dec a, h, dv_dec]
def S (n : Nat) : ByteArray := ⟨(Lib.decDigits n).toArray⟩
theorem S_list (n : Nat) : (S n).data.toList = Lib.decDigits n := by simp [S]
theorem S_size (n : Nat) : (S n).size = Lib.nDigits n := by simp [S, ByteArray.size, Lib.decDigits_length]
theorem S_of {s : ByteArray} (h : Can s.data.toList) : s = S (dv s.data.toList) := by
  rw [S, dec_dv _ _ rfl h]
theorem nDig_mono {a b : Nat} (h : a ≤ b) : Lib.nDigits a ≤ Lib.nDigits b := by
  induction b using Nat.strongRecOn generalizing a with
  | _ b ih =>
    by_cases hb : b < 10
    · rw [Lib.nDigits_small hb, Lib.nDigits_small (by omega)]; omega
    · rw [Lib.nDigits_big hb]
      by_cases ha : a < 10
      · rw [Lib.nDigits_small ha]; omega
      · rw [Lib.nDigits_big ha]
        have := ih (b / 10) (by omega) (a := a / 10) (by omega)
        omega
theorem nDig_le {n k : Nat} (hk : 0 < k) (h : n < 10 ^ k) : Lib.nDigits n ≤ k := by
  induction k generalizing n with
  | zero => omega
  | succ k ih =>
    by_cases hn : n < 10
    · rw [Lib.nDigits_small hn]; omega
    · rw [Lib.nDigits_big hn]
      rcases Nat.eq_zero_or_pos k with h0 | h0
      · subst h0; simp at h; omega
      · have := ih (n := n / 10) h0 (by rw [Nat.pow_succ] at h; omega)
        omega
theorem pow_le_nDig {n k : Nat} (h : k + 1 < Lib.nDigits n + 1) (hk : 0 < k) : 10 ^ k ≤ n := by
  rcases Nat.lt_or_ge n (10 ^ k) with h1 | h1
  · have := nDig_le hk h1
    omega
  · exact h1
end Go.Proofs.YtcfddphiflmnlaaDoor.P

namespace Go.Proofs.YtcfddphiflmnlaaDoor.P
open Go.RowKit Go.Proofs.YtcfddphiflmnlaaDoorW.PrintWords
theorem dv_cons (c : UInt8) (l : List UInt8) : dv (c :: l) = (c.toNat - 48) * 10 ^ l.length + dv l := by
  have := dv_append [c] l
  rw [show dv [c] = c.toNat - 48 by rw [show [c] = [] ++ [c] from rfl, dv_snoc, dv_nil]; omega] at this
  exact this
theorem lex_dv : ∀ (l m : List UInt8), l.length = m.length → IsD l → IsD m → (l < m ↔ dv l < dv m)
  | [], [], _, _, _ => by simp [dv_nil]
  | [], _ :: _, h, _, _ => by simp at h
  | _ :: _, [], h, _, _ => by simp at h
  | a :: l, b :: m, h, hl, hm => by
    have ha := hl a (by simp)
    have hb := hm b (by simp)
    have hl' : IsD l := IsD.right (l := [a]) hl
    have hm' : IsD m := IsD.right (l := [b]) hm
    have h' : l.length = m.length := by simpa using h
    have ih := lex_dv l m h' hl' hm'
    have k1 := dv_lt hl'
    have k2 := dv_lt hm'
    rw [dv_cons, dv_cons, List.cons_lt_cons_iff]
    rw [h'] at k1 ⊢
    constructor
    · rintro (h1 | ⟨rfl, h1⟩)
      · have h2 : a.toNat < b.toNat := h1
        have h3 : (a.toNat - 48 + 1) * 10 ^ m.length ≤ (b.toNat - 48) * 10 ^ m.length := Nat.mul_le_mul_right _ (by omega)
        rw [Nat.succ_mul] at h3
        omega
      · have := ih.1 h1
        omega
    · intro h1
      rcases Nat.lt_trichotomy a.toNat b.toNat with h2 | h2 | h2
      · exact Or.inl h2
      · have e : a = b := UInt8.toNat_inj.1 h2
        subst e
        exact Or.inr ⟨rfl, ih.2 (by omega)⟩
      · have h3 : (b.toNat - 48 + 1) * 10 ^ m.length ≤ (a.toNat - 48) * 10 ^ m.length := Nat.mul_le_mul_right _ (by omega)
        rw [Nat.succ_mul] at h3
        omega
theorem dec_lt_of_len {a b : Nat} (h : Lib.nDigits a < Lib.nDigits b) : a < b := by
  rcases Nat.lt_or_ge a b with h1 | h1
  · exact h1
  · have := nDig_mono h1
    omega
theorem dec_lex {a b : Nat} (h : Lib.nDigits a = Lib.nDigits b) : Lib.decDigits a < Lib.decDigits b ↔ a < b := by
  have := lex_dv (Lib.decDigits a) (Lib.decDigits b) (by rw [Lib.decDigits_length, Lib.decDigits_length, h]) (isD_dec a) (isD_dec b)
  rwa [dv_dec, dv_dec] at this
end Go.Proofs.YtcfddphiflmnlaaDoor.P

namespace Go.Proofs.YtcfddphiflmnlaaDoor.P
open Go.RowKit Go.Proofs.YtcfddphiflmnlaaDoorW.PrintWords
def B8 (l : List UInt8) : List Int := l.map fun b => (b.toNat : Int)
theorem B8_length (l : List UInt8) : (B8 l).length = l.length := by simp [B8]
theorem B8_append (l m : List UInt8) : B8 (l ++ m) = B8 l ++ B8 m := by simp [B8]
theorem rd_B8 (P Q : List UInt8) (c : UInt8) (i : Nat) (h : P.length = i) : rd (B8 (P ++ c :: Q)) (i : Int) = (c.toNat : Int) := by
  subst h
  simp [rd, B8, List.getD_eq_getElem?_getD]
theorem extract_list (s : ByteArray) (a b : Nat) : (s.extract a b).data.toList = (s.data.toList.take b).drop a := by
  simp [List.drop_take]
theorem size_list (s : ByteArray) : s.size = s.data.toList.length := (data_length s).symm
theorem dstep {n : Nat} {c : UInt8} (hc : 48 ≤ c.toNat ∧ c.toNat ≤ 57) (hn : 10 * n + (c.toNat - 48) < 18446744073709551616) : IntKind.u64.wrap (IntKind.u64.wrap (10 * (n : Int)) + ((c.toNat : Int) - 48) % 256) = ((10 * n + (c.toNat - 48) : Nat) : Int) := by
  have h1 : ((c.toNat : Int) - 48) % 256 = ((c.toNat - 48 : Nat) : Int) := by omega
  rw [h1, show (10 : Int) * n = ((10 * n : Nat) : Int) by omega, u64n _ (by omega), uadd hn]
theorem dstep' {n : Nat} {c : UInt8} (hc : 48 ≤ c.toNat ∧ c.toNat ≤ 57) (hn : 10 * n + (c.toNat - 48) < 18446744073709551616) : IntKind.u64.wrap (IntKind.u64.wrap ((n : Int) * 10) + ((c.toNat : Int) - 48) % 256) = ((10 * n + (c.toNat - 48) : Nat) : Int) := by
  rw [Int.mul_comm]; exact dstep hc hn
theorem dv_bound {P Q : List UInt8} (c : UInt8) (h : IsD (P ++ c :: Q)) (hl : (P ++ c :: Q).length ≤ 19) : 10 * dv P + (c.toNat - 48) < 18446744073709551616 := by
  have h1 : IsD (P ++ [c]) := by
    have : P ++ c :: Q = (P ++ [c]) ++ Q := by simp
    rw [this] at h
    exact h.left
  have h2 := dv_lt h1
  have h3 : 10 ^ (P ++ [c]).length ≤ 10 ^ 19 := Nat.pow_le_pow_right (by decide) (by simp at hl ⊢; omega)
  rw [dv_snoc] at h2
  omega
theorem cut_step (k : Nat) (s : ByteArray) (acc : List Int) (e : Int) (P Q : List UInt8) (c : UInt8) (h : IsD (P ++ c :: Q)) (hl : (P ++ c :: Q).length ≤ 18) (n : Int) (hn : n = ((P ++ c :: Q).length : Nat)) :
    decimal_cut.l1 (k + 1) s acc e (dv P : Int) (B8 (P ++ c :: Q)) n (P.length : Int) = decimal_cut.l1 k s acc e (dv (P ++ [c]) : Int) (B8 (P ++ c :: Q)) n ((P ++ [c]).length : Int) := by
  have e1 := rd_B8 P Q c P.length rfl
  have e2 := dstep (h c (by simp)) (dv_bound c h (by omega))
  have e3 := wsucc (a := P.length) ⟨by simp at hl; omega⟩
  have hl2 : (B8 (P ++ c :: Q)).length = P.length + (Q.length + 1) := by rw [B8_length]; simp
  rw [show (P ++ c :: Q).length = P.length + (Q.length + 1) by simp] at hn
  simp only [decimal_cut.l1, e1, e2, e3]
  clear e1 e2 e3
  simp (disch := omega) only [if_pos]
  rw [dv_snoc, List.length_append, List.length_singleton]
theorem cut_l1 (s : ByteArray) (acc : List Nat) (e : Int) (hacc : acc.length < 17592186044416) : ∀ (Q P : List UInt8) (n : Int) (r : List Int), n = ((P ++ Q).length : Nat) → IsD (P ++ Q) → (P ++ Q).length ≤ 18 →
    Ev (fun k => decimal_cut.l0 k s (C (acc ++ [dv (P ++ Q)])) (wrap64 (e - 9))) r → Ev (fun k => decimal_cut.l1 k s (C acc) e (dv P : Int) (B8 (P ++ Q)) n (P.length : Int)) r
  | [], P, n, r, hn, _, _, h => by
    rw [List.append_nil] at h hn ⊢
    refine Ev.step (fun k => ?_) h
    have hl2 : (C acc).length = acc.length := C_length _
    simp (disch := omega) only [decimal_cut.l1, if_neg, if_pos]
    rw [C_append]
    rfl
  | c :: Q, P, n, r, hn, hD, hl, h => by
    have e0 : P ++ c :: Q = (P ++ [c]) ++ Q := by simp
    refine Ev.step (fun k => cut_step k s (C acc) e P Q c hD hl n hn) ?_
    rw [e0] at hn hD hl h ⊢
    exact cut_l1 s acc e hacc Q (P ++ [c]) n r hn hD hl h
theorem chunk {l : List UInt8} {e st : Nat} (he : e ≤ l.length) (hst : st = e - 9) : dv (l.take e) = dv ((l.take e).drop st) + 1000000000 * dv (l.take st) ∧ ((l.take e).drop st).length = e - st := by
  have hl : ((l.take e).drop st).length = e - st := by rw [List.length_drop, List.length_take]; omega
  refine ⟨?_, hl⟩
  have h1 := dv_append ((l.take e).take st) ((l.take e).drop st)
  rw [List.take_append_drop, List.take_take, Nat.min_eq_left (by omega), hl] at h1
  rw [h1]
  rcases Nat.eq_zero_or_pos st with h2 | h2
  · rw [h2, List.take_zero, dv_nil]; omega
  · rw [show e - st = 9 by omega]
    have : (10 : Nat) ^ 9 = 1000000000 := by decide
    rw [this, Nat.mul_comm]
    omega
theorem cut_l0 (s : ByteArray) (hD : IsD s.data.toList) : ∀ (m e : Nat) (acc : List Nat) (x : Int), e ≤ m → e ≤ s.size → (x = (e : Int) ∨ e = 0 ∧ x ≤ 0) → Ok acc → acc.length + e < 17592186044416 →
    Ev (fun k => decimal_cut.l0 k s (C acc) x) (C (pcs (val acc + 1000000000 ^ acc.length * dv (s.data.toList.take e))))
  | 0, e, acc, x, hm, _, hx, hacc, hl => by
    obtain rfl : e = 0 := by omega
    refine Ev.step (f := fun k => (decimal_pieces_trim.f k (C acc)).bind fun t => some t) (fun k => ?_) (Ev.eq (Ev.bind (trim_f acc hacc (by omega)) (Ev.now _)) ?_)
    · simp (disch := omega) only [decimal_cut.l0, if_neg]
    · rw [List.take_zero, dv_nil, Nat.mul_zero, Nat.add_zero]
  | m + 1, e, acc, x, hm, hs, hx, hacc, hl => by
    rcases Nat.eq_zero_or_pos e with h0 | h0
    · exact cut_l0 s hD 0 e acc x (by omega) hs hx hacc hl
    · obtain rfl : x = (e : Int) := by omega
      obtain ⟨st, hst⟩ : ∃ st, st = e - 9 := ⟨_, rfl⟩
      rw [size_list] at hs
      obtain ⟨h1, h2⟩ := chunk hs hst
      have hsub := extract_list s st e
      have hw : wrap64 ((e : Int) - 9) = (e : Int) - 9 := w64 (by omega) (by omega)
      have hmx : mx 0 ((e : Int) - 9) = (st : Int) := by unfold mx; split <;> omega
      have hDs : IsD ((s.data.toList.take e).drop st) := (hD.take e).drop st
      have hdl := dv_lt hDs
      have hpow : 10 ^ ((s.data.toList.take e).drop st).length ≤ 10 ^ 9 := Nat.pow_le_pow_right (by decide) (by omega)
      have h9 : (10 : Nat) ^ 9 = 1000000000 := by decide
      have ih := cut_l0 s hD m st (acc ++ [dv ((s.data.toList.take e).drop st)]) ((e : Int) - 9) (by omega) (by rw [size_list]; omega) (by omega) (hacc.append (Ok.cons (by omega) Ok.nil)) (by rw [List.length_append, List.length_singleton]; omega)
      have hv : val (acc ++ [dv ((s.data.toList.take e).drop st)]) + 1000000000 ^ (acc ++ [dv ((s.data.toList.take e).drop st)]).length * dv (s.data.toList.take st) = val acc + 1000000000 ^ acc.length * dv (s.data.toList.take e) := by
        rw [val_snoc, h1, List.length_append, List.length_singleton, Nat.pow_succ, Nat.mul_add, Nat.mul_assoc, Nat.add_assoc]
      rw [hv] at ih
      have key := cut_l1 s acc (e : Int) (by omega) ((s.data.toList.take e).drop st) [] ((((s.data.toList.take e).drop st).length : Nat) : Int) _ rfl hDs (by rw [List.nil_append]; omega) (by rw [List.nil_append, hw]; exact ih)
      refine Ev.step (fun k => ?_) key
      have hsz : (s.extract st e).size = e - st := by rw [size_list, hsub, h2]
      have hb : bytesOf (s.extract st e) = B8 ((s.data.toList.take e).drop st) := by rw [← hsub]; rfl
      have hsl : (s.size : Int) = (s.data.toList.length : Int) := by rw [size_list]
      simp only [decimal_cut.l0, hw, hmx, Int.toNat_natCast, hsz, hb, B8_length, Option.bind_some, hsl]
      clear hv ih key hw hmx hdl hpow hb hsub hD hDs
      simp (disch := omega) only [if_pos]
      rfl
theorem cut_of (s : ByteArray) (hD : IsD s.data.toList) (hs : s.size < 17592186044416) : Ev (fun k => decimal_cut.f k s) (C (pcs (dv s.data.toList))) := by
  have key := cut_l0 s hD s.size s.size [] (s.size : Int) (Nat.le_refl _) (Nat.le_refl _) (Or.inl rfl) Ok.nil (by simpa using hs)
  have e0 : val ([] : List Nat) + 1000000000 ^ ([] : List Nat).length * dv (s.data.toList.take s.size) = dv s.data.toList := by
    rw [size_list, List.take_length]; simp [val]
  rw [e0] at key
  have e1 : wrap64 ((s.size : Int) / 9) = (((s.size / 9 : Nat)) : Int) := by rw [w64 (by omega) (by omega)]; omega
  have e2 := wsucc (a := s.size / 9) ⟨by omega⟩
  unfold decimal_cut.f
  simp only [e1, e2, Int.toNat_natCast]
  clear e1 e2
  simp (disch := omega) only [if_pos]
  exact key
theorem cut_f (n : Nat) (hs : Lib.nDigits n < 17592186044416) : Ev (fun k => decimal_cut.f k (S n)) (C (pcs n)) := by
  have := cut_of (S n) (by rw [S_list]; exact isD_dec n) (by rw [S_size]; exact hs)
  rwa [S_list, dv_dec] at this
end Go.Proofs.YtcfddphiflmnlaaDoor.P

namespace Go.Proofs.YtcfddphiflmnlaaDoor.P
open Go.RowKit Go.Proofs.YtcfddphiflmnlaaDoorW.PrintWords
theorem toList_data (s : ByteArray) : s.toList = s.data.toList := ByteArray.toList_eq s
theorem bt_mid (s : ByteArray) (P Q : List UInt8) (c : UInt8) (h : s.data.toList = P ++ c :: Q) : bt s (P.length : Int) = (c.toNat : Int) := by
  rw [← rd_bytesOf, show bytesOf s = B8 s.data.toList from rfl, h, rd_B8 _ _ _ _ rfl]
theorem size_mid (s : ByteArray) (P Q : List UInt8) (c : UInt8) (h : s.data.toList = P ++ c :: Q) : s.size = P.length + (Q.length + 1) := by
  rw [size_list, h]; simp
def digB (c : UInt8) : Bool := decide (48 ≤ c.toNat ∧ c.toNat ≤ 57)
def canb (l : List UInt8) : Bool := l.all digB && (decide (l.length = 1) || (decide (1 < l.length) && (l.head? != some 48)))
theorem all_dig (l : List UInt8) : l.all digB = true ↔ IsD l := by
  simp [List.all_eq_true, digB, IsD]
theorem canb_iff (l : List UInt8) : canb l = true ↔ Can l := by
  unfold canb Can
  rw [Bool.and_eq_true, all_dig]
  simp
set_option maxRecDepth 100000 in
theorem known_ev : Ev (fun k => schismalaw01_known.f k) true := Ev.of (k := 200) (fun k => schismalaw01_known.mono k) (by decide +kernel)
end Go.Proofs.YtcfddphiflmnlaaDoor.P

namespace Go.Proofs.YtcfddphiflmnlaaDoor.P
open Go.RowKit Go.Proofs.YtcfddphiflmnlaaDoorW.PrintWords
theorem dv_prefix (P Q : List UInt8) : dv P ≤ dv (P ++ Q) := by
  rw [dv_append]
  have : dv P * 1 ≤ dv P * 10 ^ Q.length := Nat.mul_le_mul_left _ (Nat.pow_pos (by decide))
  omega
theorem dv_prefix1 (P Q : List UInt8) (c : UInt8) : 10 * dv P + (c.toNat - 48) ≤ dv (P ++ c :: Q) := by
  have := dv_prefix (P ++ [c]) Q
  rw [dv_snoc] at this
  simpa using this
theorem quick_l0 (s : ByteArray) (hs : s.size < 4611686018427387904) (hD : IsD s.data.toList) (hv : dv s.data.toList < 18446744073709551616) : ∀ (Q P : List UInt8), s.data.toList = P ++ Q →
    Ev (fun k => schismaref01_quick.l0 k s (dv P : Int) (P.length : Int)) ((dv s.data.toList : Int), true)
  | [], P, h => by
    rw [List.append_nil] at h
    have h1 := size_list s
    rw [h] at h1 ⊢
    refine Ev.step (f := fun _ => some ((dv P : Int), true)) (fun k => ?_) (Ev.now _)
    simp (disch := omega) only [schismaref01_quick.l0, if_neg]
  | c :: Q, P, h => by
    have h1 := size_mid s P Q c h
    have e1 := bt_mid s P Q c h
    have e3 := wsucc (a := P.length) ⟨by omega⟩
    have hb := dv_prefix1 P Q c
    rw [← h] at hb
    have e2 := dstep' (n := dv P) (hD c (by rw [h]; simp)) (by omega)
    refine Ev.step (f := fun k => schismaref01_quick.l0 k s (dv (P ++ [c]) : Int) ((P ++ [c]).length : Int)) (fun k => ?_) (quick_l0 s hs hD hv Q (P ++ [c]) (by rw [h]; simp))
    simp only [schismaref01_quick.l0, e1, e2, e3]
    clear e1 e2 e3
    simp (disch := omega) only [if_pos]
    rw [dv_snoc, List.length_append, List.length_singleton]
theorem S_dv (n : Nat) : dv (S n).data.toList = n := by rw [S_list, dv_dec]
theorem S_dig (n : Nat) : IsD (S n).data.toList := by rw [S_list]; exact isD_dec n
theorem nDig_lt {n : Nat} {k : Nat} (h : Lib.nDigits n ≤ k) : n < 10 ^ k := Nat.lt_of_lt_of_le (Lib.lt_pow_nDigits n) (Nat.pow_le_pow_right (by decide) h)
theorem quick_big {s : ByteArray} (hs : 18 < s.size) : Ev (fun k => schismaref01_quick.f k s) (0, false) := by
  unfold schismaref01_quick.f
  simp (disch := omega) only [if_pos]
  exact Ev.now _
theorem quick_small {n : Nat} (h : Lib.nDigits n ≤ 18) : Ev (fun k => schismaref01_quick.f k (S n)) ((n : Int), true) := by
  unfold schismaref01_quick.f
  have h1 := S_size n
  simp (disch := omega) only [if_neg]
  have h2 := nDig_lt h
  have h3 : (10 : Nat) ^ 18 = 1000000000000000000 := by decide
  have := quick_l0 (S n) (by omega) (S_dig n) (by rw [S_dv]; omega) (S n).data.toList [] rfl
  rw [S_dv] at this
  exact this
theorem bless : ∀ (l m : List UInt8), Op.bytesLess l m = true ↔ l < m
  | [], [] => by simp [Op.bytesLess]
  | [], _ :: _ => by simp [Op.bytesLess]
  | _ :: _, [] => by simp [Op.bytesLess]
  | a :: l, b :: m => by
    rw [List.cons_lt_cons_iff]
    simp [Op.bytesLess, bless l m]
theorem bless_S {a b : Nat} (h : Lib.nDigits a = Lib.nDigits b) : Op.bytesLess (S a).toList (S b).toList = true ↔ a < b := by
  rw [bless, toList_data, toList_data, S_list, S_list, dec_lex h]
theorem S_eq_iff {a b : Nat} : (S a).toList = (S b).toList ↔ a = b := by
  rw [toList_data, toList_data, S_list, S_list]
  exact ⟨dec_inj, fun h => by rw [h]⟩
theorem rcompare_f (a b : Nat) : schismaref01_Compare.f (S a) (S b) = some (cmp a b) := by
  unfold schismaref01_Compare.f cmp
  rw [S_size, S_size]
  by_cases h : Lib.nDigits a = Lib.nDigits b
  · rw [if_pos (by omega)]
    by_cases h1 : a = b
    · rw [if_pos (S_eq_iff.2 h1), if_neg (by omega), if_neg (by omega)]
    · rw [if_neg (fun e => h1 (S_eq_iff.1 e))]
      by_cases h2 : a < b
      · rw [if_pos ((bless_S h).2 h2), if_pos h2]
      · rw [if_neg (fun e => h2 ((bless_S h).1 e)), if_neg h2, if_pos (by omega)]
  · rw [if_neg (by omega)]
    by_cases h2 : Lib.nDigits a < Lib.nDigits b
    · rw [if_pos (by omega), if_pos (dec_lt_of_len h2)]
    · have := dec_lt_of_len (a := b) (b := a) (by omega)
      rw [if_neg (by omega), if_neg (by omega), if_pos this]
theorem compareS_f (a b : Nat) (ha : Lib.nDigits a < 4611686018427387904) (hb : Lib.nDigits b < 4611686018427387904) : decimal_Compare.f (S a) (S b) = some (cmp a b) := by
  unfold decimal_Compare.f cmp
  rw [S_size, S_size]
  by_cases h : Lib.nDigits a = Lib.nDigits b
  · rw [if_pos (by omega)]
    by_cases h2 : a < b
    · rw [if_pos ((bless_S h).2 h2), if_pos h2]
    · rw [if_neg (fun e => h2 ((bless_S h).1 e)), if_neg h2]
      by_cases h3 : b < a
      · rw [if_pos ((bless_S h.symm).2 h3), if_pos h3]
      · rw [if_neg (fun e => h3 ((bless_S h.symm).1 e)), if_neg h3]
  · rw [if_neg (by omega), w64 (by omega) (by omega)]
    unfold mn mx
    by_cases h2 : Lib.nDigits a < Lib.nDigits b
    · rw [if_pos (dec_lt_of_len h2)]
      congr 1
      split <;> split <;> omega
    · have := dec_lt_of_len (a := b) (b := a) (by omega)
      rw [if_neg (show ¬ a < b by omega), if_pos this]
      congr 1
      split <;> split <;> omega
theorem parse_dig : ∀ (l : List UInt8) (acc : Nat), IsD l → Lib.parseUintM 18446744073709551615 acc l = if l = [] ∨ acc * 10 ^ l.length + dv l < 18446744073709551616 then .ok (acc * 10 ^ l.length + dv l) else .range
  | [], acc, _ => by simp [Lib.parseUintM, dv_nil]
  | c :: l, acc, h => by
    have hc := h c (by simp)
    have ih := parse_dig l (acc * 10 + (c.toNat - 48)) (IsD.right (l := [c]) h)
    have e : (acc * 10 + (c.toNat - 48)) * 10 ^ l.length + dv l = acc * 10 ^ (c :: l).length + dv (c :: l) := by
      rw [dv_cons, List.length_cons, Nat.pow_succ, Nat.add_mul, Nat.mul_assoc, Nat.mul_comm 10 (10 ^ l.length), Nat.add_assoc]
    have hp : 1 ≤ 10 ^ l.length := Nat.pow_pos (by decide)
    have hge : acc * 10 + (c.toNat - 48) ≤ acc * 10 ^ (c :: l).length + dv (c :: l) := by
      rw [← e]
      have : (acc * 10 + (c.toNat - 48)) * 1 ≤ (acc * 10 + (c.toNat - 48)) * 10 ^ l.length := Nat.mul_le_mul_left _ hp
      omega
    unfold Lib.parseUintM
    rw [if_pos hc]
    by_cases h1 : 1844674407370955162 ≤ acc
    · rw [if_pos h1, if_neg]
      rintro (h2 | h2)
      · cases h2
      · omega
    · rw [if_neg h1]
      by_cases h2 : 18446744073709551615 < acc * 10 + (c.toNat - 48)
      · rw [if_pos h2, if_neg]
        rintro (h3 | h3)
        · cases h3
        · omega
      · rw [if_neg h2, ih, e]
        by_cases h3 : acc * 10 ^ (c :: l).length + dv (c :: l) < 18446744073709551616
        · rw [if_pos (Or.inr h3), if_pos (Or.inr h3)]
        · have n1 : ¬ ((c :: l) = [] ∨ acc * 10 ^ (c :: l).length + dv (c :: l) < 18446744073709551616) := fun h4 => h4.elim (fun h5 => by cases h5) h3
          have n2 : ¬ (l = [] ∨ acc * 10 ^ (c :: l).length + dv (c :: l) < 18446744073709551616) := fun h4 => h4.elim (fun h5 => by
            rw [h5] at e h3
            rw [← e] at h3
            simp only [List.length_nil, Nat.pow_zero, dv_nil] at h3
            omega) h3
          rw [if_neg n1, if_neg n2]
theorem small_S (n : Nat) (hn : Lib.nDigits n ≤ 281474976710656) : decimal_Small.f (S n) = some (if n < 18446744073709551616 then ((n : Int), true) else (0, false)) := by
  unfold decimal_Small.f
  have hne : Lib.decDigits n ≠ [] := by have := dec_len_pos n; intro e; rw [e] at this; simp at this
  have h64 : (2 : Nat) ^ 64 - 1 = 18446744073709551615 := by decide
  rw [S_size, if_pos hn, S_list, Lib.parseUintB, if_neg hne, h64, parse_dig _ _ (isD_dec n), dv_dec, Nat.zero_mul, Nat.zero_add]
  by_cases h : n < 18446744073709551616
  · rw [if_pos (Or.inr h), if_pos h]
  · rw [if_neg (fun h1 => h1.elim hne h), if_neg h]
theorem rof_f (n : Nat) (h : n < 18446744073709551616) : schismaref01_Of.f (n : Int) = some (S n) := by
  unfold schismaref01_Of.f
  rw [if_pos (by omega), Int.toNat_natCast]
  rfl
end Go.Proofs.YtcfddphiflmnlaaDoor.P

namespace Go.Proofs.YtcfddphiflmnlaaDoor.P
open Go.RowKit Go.Proofs.YtcfddphiflmnlaaDoorW.PrintWords
theorem strOfNums_B8 (l : List UInt8) : strOfNums (B8 l) = ⟨l.toArray⟩ := by
  have e : ((fun n : Int => UInt8.ofNat n.toNat) ∘ fun b : UInt8 => (b.toNat : Int)) = id := funext fun b => by simp
  rw [strOfNums, B8, List.map_map, e, List.map_id]
theorem zero_str : (⟨#[48]⟩ : ByteArray) = S 0 := S_of ((canb_iff _).1 (by decide))
theorem make_end (acc : List UInt8) (hD : IsD acc) (hh : acc.head? ≠ some 48) : (if ((B8 acc).length : Int) = 0 then some (⟨#[48]⟩ : ByteArray) else some (strOfNums (B8 acc))) = some (S (dv acc)) := by
  rw [B8_length]
  rcases acc with _ | ⟨c, t⟩
  · rw [List.length_nil, if_pos (by rfl), zero_str]; rfl
  · rw [if_neg (by simp; omega), strOfNums_B8]
    congr 1
    refine S_of (s := ⟨(c :: t).toArray⟩) ⟨hD, ?_⟩
    rcases t with _ | ⟨d, t⟩
    · exact Or.inl rfl
    · exact Or.inr ⟨by simp, hh⟩
theorem make_digit {x : Int} (h0 : 0 ≤ x) : ∃ c : UInt8, (48 + Int.tmod x 10) % 256 = (c.toNat : Int) ∧ 48 ≤ c.toNat ∧ c.toNat ≤ 57 ∧ (c = 48 ↔ ¬ Int.tmod x 10 > 0) := by
  obtain ⟨n, rfl⟩ : ∃ n : Nat, x = n := ⟨x.toNat, by omega⟩
  have h1 := tmodn n 10
  have h2 : Int.tmod (n : Int) 10 = ((n % 10 : Nat) : Int) := h1
  rw [h2]
  have h3 : n % 10 < 10 := Nat.mod_lt _ (by decide)
  refine ⟨UInt8.ofNat (48 + n % 10), ?_, ?_, ?_, ?_⟩
  · rw [digit_toNat h3]; omega
  · rw [digit_toNat h3]; omega
  · rw [digit_toNat h3]; omega
  · constructor
    · intro e
      have := congrArg UInt8.toNat e
      rw [digit_toNat h3] at this
      have h48 : (48 : UInt8).toNat = 48 := rfl
      omega
    · intro e
      apply UInt8.toNat_inj.1
      rw [digit_toNat h3]
      have h48 : (48 : UInt8).toNat = 48 := rfl
      omega
theorem make_l0 (l : List Int) (hl : ∀ x, x ∈ l → 0 ≤ x) (hs : l.length < 4611686018427387904) : ∀ (Q P : List Int) (acc : List UInt8), l = P ++ Q → IsD acc → acc.head? ≠ some 48 → acc.length ≤ P.length → P.length ≤ 120 →
    ∃ n, n < 10 ^ l.length ∧ n < 10 ^ 120 ∧ Ev (fun k => schismalaw01_Make.l0 k l (B8 acc) (P.length : Int)) (S n)
  | [], P, acc, h, hD, hh, hp, hP => by
    have hll : l.length = P.length := by rw [h]; simp
    have h1 := dv_lt hD
    have h2 : 10 ^ acc.length ≤ 10 ^ l.length := Nat.pow_le_pow_right (by decide) (by omega)
    have h3 : 10 ^ acc.length ≤ 10 ^ 120 := Nat.pow_le_pow_right (by decide) (by omega)
    refine ⟨dv acc, by omega, by omega, ?_⟩
    refine Ev.step (f := fun k => schismalaw01_Make.j1 k l (B8 acc) (P.length : Int) false) (fun k => ?_) (Ev.step (f := fun _ => some (S (dv acc))) (fun k => ?_) (Ev.now _))
    · clear h2 h3
      simp (disch := omega) only [schismalaw01_Make.l0, if_neg]
    · simp only [schismalaw01_Make.j1, Bool.false_eq_true, if_false]
      exact make_end acc hD hh
  | x :: Q, P, acc, h, hD, hh, hp, hP => by
    have hll : l.length = P.length + (Q.length + 1) := by rw [h]; simp
    have h1 := dv_lt hD
    by_cases h120 : P.length = 120
    · have h2 : 10 ^ acc.length ≤ 10 ^ l.length := Nat.pow_le_pow_right (by decide) (by omega)
      have h3 : 10 ^ acc.length ≤ 10 ^ 120 := Nat.pow_le_pow_right (by decide) (by omega)
      refine ⟨dv acc, by omega, by omega, ?_⟩
      refine Ev.step (f := fun k => schismalaw01_Make.j1 k l (B8 acc) (P.length : Int) false) (fun k => ?_) (Ev.step (f := fun _ => some (S (dv acc))) (fun k => ?_) (Ev.now _))
      · clear h2 h3 h1
        have e9 : decide ((P.length : Int) < 120) = false := decide_eq_false_iff_not.2 (by omega)
        simp (disch := omega) only [schismalaw01_Make.l0, if_pos, e9]
      · simp only [schismalaw01_Make.j1, Bool.false_eq_true, if_false]
        exact make_end acc hD hh
    · have hx : 0 ≤ x := hl x (by rw [h]; simp)
      obtain ⟨c, e1, e2, e3, e4⟩ := make_digit hx
      have e5 : rd l (P.length : Int) = x := by rw [h]; simp [rd, List.getD_eq_getElem?_getD]
      have e6 := wsucc (a := P.length) ⟨by omega⟩
      have e7 : (B8 acc).length = acc.length := B8_length _
      have st : ∀ k, schismalaw01_Make.l0 (k + 1) l (B8 acc) (P.length : Int) = schismalaw01_Make.j1 k l (B8 acc) (P.length : Int) true := fun k => by
        clear e1 e4 h1 e5 e6
        have e9 : decide ((P.length : Int) < 120) = true := decide_eq_true (by omega)
        simp (disch := omega) only [schismalaw01_Make.l0, if_pos, e9]
      have ha : B8 acc ++ [(c.toNat : Int)] = B8 (acc ++ [c]) := by rw [B8_append]; rfl
      clear h1
      by_cases h0 : c = 48
      · have h00 := e4.1 h0
        rcases acc with _ | ⟨d, t⟩
        · obtain ⟨n, n1, n2, n3⟩ := make_l0 l hl hs Q (P ++ [x]) [] (by rw [h]; simp) IsD.nil (by simp) (by simp) (by simp; omega)
          refine ⟨n, n1, n2, Ev.step st (Ev.step (f := fun k => schismalaw01_Make.l0 k l (B8 []) ((P.length + 1 : Nat) : Int)) (fun k => ?_) (by simpa using n3))⟩
          simp only [schismalaw01_Make.j1, e5, e6, e1, if_true, if_neg h00]
          clear n1 n2 n3 e1 e4 h00 e5 e6 st
          have e8 : (B8 []).length = 0 := rfl
          simp (disch := omega) only [if_pos, if_neg]
        · obtain ⟨n, n1, n2, n3⟩ := make_l0 l hl hs Q (P ++ [x]) (d :: t ++ [c]) (by rw [h]; simp) (hD.append (IsD.cons ⟨e2, e3⟩ IsD.nil)) (by simpa using hh) (by simp at hp ⊢; omega) (by simp; omega)
          refine ⟨n, n1, n2, Ev.step st (Ev.step (f := fun k => schismalaw01_Make.l0 k l (B8 (d :: t ++ [c])) ((P.length + 1 : Nat) : Int)) (fun k => ?_) (by simpa using n3))⟩
          simp only [schismalaw01_Make.j1, e5, e6, e1, if_true, if_neg h00, ha]
          clear n1 n2 n3 e1 e4 h00 e5 e6 st
          have e8 : (d :: t).length = t.length + 1 := rfl
          rw [e8] at e7 hp
          simp (disch := omega) only [if_pos]
      · have h00 : Int.tmod x 10 > 0 := Decidable.byContradiction fun h9 => h0 (e4.2 h9)
        have hh2 : (acc ++ [c]).head? ≠ some 48 := by
          rcases acc with _ | ⟨d, t⟩
          · simpa using h0
          · simpa using hh
        obtain ⟨n, n1, n2, n3⟩ := make_l0 l hl hs Q (P ++ [x]) (acc ++ [c]) (by rw [h]; simp) (hD.append (IsD.cons ⟨e2, e3⟩ IsD.nil)) hh2 (by simp; omega) (by simp; omega)
        refine ⟨n, n1, n2, Ev.step st (Ev.step (f := fun k => schismalaw01_Make.l0 k l (B8 (acc ++ [c])) ((P.length + 1 : Nat) : Int)) (fun k => ?_) (by simpa using n3))⟩
        simp only [schismalaw01_Make.j1, e5, e6, e1, if_true, if_pos h00, ha]
        clear n1 n2 n3 e1 e4 h00 e5 e6 st
        simp (disch := omega) only [if_pos]
theorem wf_u8 {x : Int} (h : (Lit.int .u8 x).wf = true) : 0 ≤ x ∧ x ≤ 255 := by
  have h1 : IntKind.u8.min = 0 := by decide
  have h2 : IntKind.u8.max = 255 := by decide
  simpa only [Lit.wf, h1, h2, Bool.and_eq_true, decide_eq_true_eq] using h
theorem make_f (l : List Int) (hl : ∀ x, x ∈ l → (Lit.int .u8 x).wf = true) (hs : l.length ≤ 140737488351232) :
    ∃ n, n < 10 ^ l.length ∧ n < 10 ^ 120 ∧ Ev (fun k => schismalaw01_Make.f k l) (S n) :=
  make_l0 l (fun x hx => (wf_u8 (hl x hx)).1) (by omega) l [] [] rfl IsD.nil (by simp) (by simp) (by simp)
end Go.Proofs.YtcfddphiflmnlaaDoor.P

namespace Go.Proofs.YtcfddphiflmnlaaDoor.P
open Go.RowKit Go.Proofs.YtcfddphiflmnlaaDoorW.PrintWords
theorem setI (L W : List Int) (x y : Int) (i : Nat) (h : L.length = i) : (L ++ x :: W).set i y = L ++ y :: W := by
  subst h
  simp
end Go.Proofs.YtcfddphiflmnlaaDoor.P

namespace Go.Proofs.YtcfddphiflmnlaaDoor.P
open Go.RowKit Go.Proofs.YtcfddphiflmnlaaDoorW.PrintWords
structure Md (n : Nat) : Prop where
  out : Lib.nDigits n ≤ 1000000
theorem pcs_len_nDig (n : Nat) : (pcs n).length ≤ Lib.nDigits n := by
  apply pcs_len_le
  refine Nat.lt_of_lt_of_le (Lib.lt_pow_nDigits n) ?_
  exact Nat.pow_le_pow_left (by decide) _
theorem Md.pcs {n : Nat} (h : Md n) : (pcs n).length ≤ 1000000 := Nat.le_trans (pcs_len_nDig n) h.out
end Go.Proofs.YtcfddphiflmnlaaDoor.P

namespace Go.Proofs.YtcfddphiflmnlaaDoor.P
open Go.RowKit Go.Proofs.YtcfddphiflmnlaaDoorW.PrintWords
def blen (n : Nat) : Nat := if h : n = 0 then 0 else blen (n / 2) + 1
termination_by n
decreasing_by omega
theorem blen_zero : blen 0 = 0 := by rw [blen, dif_pos rfl]
theorem blen_pos {n : Nat} (h : n ≠ 0) : blen n = blen (n / 2) + 1 := by rw [blen, dif_neg h]
theorem lt_pow_blen (n : Nat) : n < 2 ^ blen n := by
  induction n using Nat.strongRecOn with
  | _ n ih =>
    by_cases h : n = 0
    · subst h; rw [blen_zero]; decide
    · rw [blen_pos h, Nat.pow_succ]
      have := ih (n / 2) (by omega)
      omega
theorem blen_le {n k : Nat} (h : n < 2 ^ k) : blen n ≤ k := by
  induction k generalizing n with
  | zero => rw [show n = 0 by simpa using h, blen_zero]; omega
  | succ k ih =>
    by_cases h0 : n = 0
    · subst h0; rw [blen_zero]; omega
    · rw [blen_pos h0]
      have := ih (n := n / 2) (by rw [Nat.pow_succ] at h; omega)
      omega
theorem pow_le_blen {n k : Nat} (h : k < blen n) : 2 ^ k ≤ n := by
  rcases Nat.lt_or_ge n (2 ^ k) with h1 | h1
  · have := blen_le h1; omega
  · exact h1
theorem blen_lib (f n : Nat) (h : n < 2 ^ f) : Lib.bitLenAux f n = blen n := by
  induction f generalizing n with
  | zero => rw [show n = 0 by simpa using h, blen_zero]; rfl
  | succ f ih =>
    by_cases h0 : n = 0
    · subst h0; rw [blen_zero]; simp [Lib.bitLenAux]
    · rw [blen_pos h0, Lib.bitLenAux, if_neg h0, ih (n / 2) (by rw [Nat.pow_succ] at h; omega), Nat.add_comm]
theorem len64_f (n : Nat) (h : n < 18446744073709551616) : bits_Len64.f (n : Int) = some ((blen n : Nat) : Int) := by
  unfold bits_Len64.f
  rw [if_pos (by omega), Int.toNat_natCast, Lib.bitLen, blen_lib 64 n h]
def val32 : List Nat → Nat
  | [] => 0
  | a :: l => a + 4294967296 * val32 l
def Ok32 (l : List Nat) : Prop := ∀ a, a ∈ l → a < 4294967296
theorem Ok32.nil : Ok32 [] := fun _ h => by cases h
theorem Ok32.cons {a : Nat} {l : List Nat} (ha : a < 4294967296) (hl : Ok32 l) : Ok32 (a :: l) := fun x hx => by
  rcases List.mem_cons.1 hx with rfl | hx
  · exact ha
  · exact hl x hx
theorem Ok32.head {a : Nat} {l : List Nat} (h : Ok32 (a :: l)) : a < 4294967296 := h a List.mem_cons_self
theorem Ok32.tail {a : Nat} {l : List Nat} (h : Ok32 (a :: l)) : Ok32 l := fun x hx => h x (List.mem_cons_of_mem _ hx)
def Top (l : List Nat) : Prop := ∀ m a, l = m ++ [a] → a ≠ 0
def brow : Nat → List Nat → List Nat
  | c, [] => if c = 0 then [] else [c]
  | c, w :: W => ((c + w * 1000000000) % 4294967296) :: brow ((c + w * 1000000000) / 4294967296) W
theorem brow_val : ∀ (W : List Nat) (c : Nat), val32 (brow c W) = val32 W * 1000000000 + c
  | [], c => by
    unfold brow
    by_cases h : c = 0
    · rw [if_pos h, h]; rfl
    · rw [if_neg h]; simp [val32]
  | w :: W, c => by
    have ih := brow_val W ((c + w * 1000000000) / 4294967296)
    simp only [brow, val32, ih]
    omega
theorem brow_ok : ∀ (W : List Nat) (c : Nat), c < 4294967296 → Ok32 W → Ok32 (brow c W)
  | [], c, hc, _ => by
    unfold brow
    by_cases h : c = 0
    · rw [if_pos h]; exact Ok32.nil
    · rw [if_neg h]; exact Ok32.cons hc Ok32.nil
  | w :: W, c, hc, hW => by
    have := hW.head
    exact Ok32.cons (Nat.mod_lt _ (by decide)) (brow_ok W _ (by omega) hW.tail)
theorem brow_nonempty : ∀ (W : List Nat) (c : Nat), W ≠ [] → brow c W ≠ []
  | [], _, h => absurd rfl h
  | _ :: _, _, _ => by simp [brow]
theorem brow_top : ∀ (W : List Nat) (c : Nat), Top W → Ok32 W → c < 4294967296 → Top (brow c W)
  | [], c, _, _, _ => by
    intro m a h
    unfold brow at h
    by_cases h0 : c = 0
    · rw [if_pos h0] at h
      cases m <;> cases h
    · rw [if_neg h0] at h
      rcases m with _ | ⟨x, m⟩
      · injection h with h1 _
        omega
      · simp at h
  | [w], c, hT, hW, hc => by
    have hw := hT [] w rfl
    intro m a h
    simp only [brow] at h
    by_cases h0 : (c + w * 1000000000) / 4294967296 = 0
    · rw [if_pos h0] at h
      rcases m with _ | ⟨x, m⟩
      · injection h with h1 _
        omega
      · simp at h
    · rw [if_neg h0] at h
      rcases m with _ | ⟨x, _ | ⟨y, m⟩⟩
      · simp at h
      · simp at h
        omega
      · simp at h
  | w :: x :: W, c, hT, hW, hc => by
    have := hW.head
    have ih := brow_top (x :: W) ((c + w * 1000000000) / 4294967296) (fun m a h => hT (w :: m) a (by rw [h]; rfl)) hW.tail (by omega)
    intro m a h
    rw [brow] at h
    rcases m with _ | ⟨y, m⟩
    · injection h with _ h2
      exact absurd h2 (brow_nonempty _ _ (by simp))
    · injection h with _ h2
      exact ih m a h2
theorem brow_len : ∀ (W : List Nat) (c : Nat), (brow c W).length ≤ W.length + 1
  | [], c => by
    unfold brow
    by_cases h : c = 0
    · rw [if_pos h]; simp
    · rw [if_neg h]; simp
  | w :: W, c => by
    have := brow_len W ((c + w * 1000000000) / 4294967296)
    simp only [brow, List.length_cons]
    omega
theorem val32_snoc (l : List Nat) (a : Nat) : val32 (l ++ [a]) = val32 l + 2 ^ (32 * l.length) * a := by
  induction l with
  | nil => simp [val32]
  | cons b l ih =>
    simp only [List.cons_append, val32, ih, List.length_cons]
    rw [show 32 * (l.length + 1) = 32 * l.length + 32 by omega, Nat.pow_add, Nat.mul_add, ← Nat.add_assoc, Nat.mul_comm (2 ^ (32 * l.length)) (2 ^ 32), Nat.mul_assoc]
theorem val32_lt {l : List Nat} (h : Ok32 l) : val32 l < 2 ^ (32 * l.length) := by
  induction l with
  | nil => simp [val32]
  | cons b l ih =>
    have h1 := h.head
    have h2 := ih h.tail
    simp only [val32, List.length_cons]
    rw [show 32 * (l.length + 1) = 32 * l.length + 32 by omega, Nat.pow_add]
    have : (2 : Nat) ^ 32 = 4294967296 := by decide
    rw [this]
    omega
theorem blen_val32 (l : List Nat) (a : Nat) (hl : Ok32 l) (ha : a ≠ 0) : blen (val32 (l ++ [a])) = 32 * l.length + blen a := by
  have h1 := val32_lt hl
  have h2 := lt_pow_blen a
  have h3 : 2 ^ (blen a - 1) ≤ a := pow_le_blen (by rw [blen_pos ha]; omega)
  have h4 : blen a = blen a - 1 + 1 := by rw [blen_pos ha]; omega
  rw [val32_snoc]
  apply Nat.le_antisymm
  · apply blen_le
    rw [Nat.pow_add]
    have : 2 ^ (32 * l.length) * (a + 1) ≤ 2 ^ (32 * l.length) * 2 ^ blen a := Nat.mul_le_mul_left _ h2
    rw [Nat.mul_add, Nat.mul_one] at this
    omega
  · have h5 : 2 ^ (32 * l.length) * 2 ^ (blen a - 1) ≤ 2 ^ (32 * l.length) * a := Nat.mul_le_mul_left _ h3
    rw [← Nat.pow_add] at h5
    have h6 : ¬ blen (val32 l + 2 ^ (32 * l.length) * a) ≤ 32 * l.length + (blen a - 1) := fun h7 => by
      have h8 := lt_pow_blen (val32 l + 2 ^ (32 * l.length) * a)
      have h9 : 2 ^ blen (val32 l + 2 ^ (32 * l.length) * a) ≤ 2 ^ (32 * l.length + (blen a - 1)) := Nat.pow_le_pow_right (by decide) h7
      omega
    omega
theorem b_arith {c w : Nat} (hc : c ≤ 1000000000) (hw : w < 4294967296) :
    IntKind.u64.wrap ((c : Int) + IntKind.u64.wrap ((w : Int) * 1000000000)) = ((c + w * 1000000000 : Nat) : Int) ∧ Go.bits .and .u64 ((c + w * 1000000000 : Nat) : Int) 4294967295 = (((c + w * 1000000000) % 4294967296 : Nat) : Int) ∧ ((c + w * 1000000000 : Nat) : Int) / 4294967296 = (((c + w * 1000000000) / 4294967296 : Nat) : Int) ∧ (c + w * 1000000000) / 4294967296 ≤ 1000000000 := by
  refine ⟨?_, ?_, ?_, ?_⟩
  · rw [show (1000000000 : Int) = ((1000000000 : Nat) : Int) from rfl, umul (by omega), uadd (by omega)]
  · rw [show (4294967295 : Int) = ((4294967295 : Nat) : Int) from rfl, bits_and_u64_nat _ _ (by omega) (by decide)]
    congr 1
    exact Nat.and_two_pow_sub_one_eq_mod _ 32
  · omega
  · omega
theorem bits_l1 (p : List Int) (i : Int) (hi : wrap64 (i - 1) = i - 1) {r : Int} : ∀ (W L : List Nat) (c : Nat), Ok32 W → c ≤ 1000000000 → (L ++ W).length ≤ 2000000 →
    Ev (fun k => decimal_Bits.l0 k (C (L ++ brow c W)) p (i - 1)) r → Ev (fun k => decimal_Bits.l1 k (C (L ++ W)) p i (c : Int) (((L ++ W).length : Nat) : Int) (L.length : Int)) r
  | [], L, c, _, _, hs, h => by
    rw [List.append_nil] at hs ⊢
    have hC : (C L).length = L.length := C_length _
    by_cases h0 : c = 0
    · subst h0
      rw [brow, if_pos rfl, List.append_nil] at h
      refine Ev.step (fun k => ?_) h
      simp only [decimal_Bits.l1, hi]
      clear hi
      simp (disch := omega) only [if_neg]
    · rw [brow, if_neg h0, C_append] at h
      refine Ev.step (fun k => ?_) h
      simp only [decimal_Bits.l1, hi]
      clear hi
      simp (disch := omega) only [if_neg, if_pos]
      rfl
  | w :: W, L, c, hW, hc, hs, h => by
    have hl2 : (L ++ w :: W).length = L.length + (W.length + 1) := by simp
    have hC : (C (L ++ w :: W)).length = L.length + (W.length + 1) := by rw [C_length, hl2]
    obtain ⟨e1, e2, e3, e4⟩ := b_arith hc hW.head
    have s1 : Sm L.length := ⟨by omega⟩
    have ih := bits_l1 p i hi W (L ++ [(c + w * 1000000000) % 4294967296]) ((c + w * 1000000000) / 4294967296) hW.tail e4 (by simp at hs ⊢; omega) (by simpa [brow] using h)
    have e5 := rd_at L W w L.length rfl
    have e6 := set_at L W w ((c + w * 1000000000) % 4294967296) L.length rfl
    have e7 := wsucc s1
    refine Ev.step (f := fun k => decimal_Bits.l1 k (C (L ++ ((c + w * 1000000000) % 4294967296) :: W)) p i (((c + w * 1000000000) / 4294967296 : Nat) : Int) (((L ++ w :: W).length : Nat) : Int) ((L.length + 1 : Nat) : Int)) (fun k => ?_) ?_
    · simp only [decimal_Bits.l1, e5, e1, e2, e3, e6, e7]
      clear e1 e2 e3 e4 e5 e6 e7 hi h ih
      simp (disch := omega) only [if_pos]
    · simpa using ih
theorem bits_l0 : ∀ (i : Nat) (P R : List Nat) (W : List Nat) (x : Int), P.length = i → x = (i : Int) - 1 → Ok P → Ok32 W → Top W → val32 W = val R → (P ++ R).length ≤ 1000000 → W.length ≤ R.length → val (P ++ R) ≠ 0 →
    Ev (fun k => decimal_Bits.l0 k (C W) (C (P ++ R)) x) ((blen (val (P ++ R)) : Nat) : Int)
  | 0, P, R, W, x, hP, hx, hOk, hW, hT, hv, hs, hl, h0 => by
    obtain rfl := List.length_eq_zero_iff.1 hP
    rw [List.nil_append] at h0 hs ⊢
    rcases List.eq_nil_or_concat W with e | ⟨m, a, e⟩
    · rw [e] at hv
      exact absurd hv.symm h0
    · have e' : W = m ++ [a] := by simpa using e
      subst e'
      have ha := hT m a rfl
      have hm : Ok32 m := fun y hy => hW y (by simp [hy])
      have ha2 : a < 4294967296 := hW a (by simp)
      have hml : (m ++ [a]).length = m.length + 1 := by simp
      have hC : (C (m ++ [a])).length = m.length + 1 := by rw [C_length, hml]
      have hb := blen_le (n := a) (k := 32) (by omega)
      have e5 := len64_f a (by omega)
      have e6 := blen_val32 m a hm ha
      rw [hv] at e6
      have e2 : rd (C (m ++ [a])) (m.length : Int) = a := rd_at m [] a m.length rfl
      have s1 : Sm (m.length + 1) := ⟨by omega⟩
      have e7 : wrap64 (wrap64 (32 * (m.length : Int)) + ((blen a : Nat) : Int)) = ((blen (val R) : Nat) : Int) := by
        rw [w64 (n := 32 * (m.length : Int)) (by omega) (by omega), w64 (by omega) (by omega), e6]
        omega
      refine Ev.step (f := fun _ => some ((blen (val R) : Nat) : Int)) (fun k => ?_) (Ev.now _)
      have e1 := wpred1 s1
      simp only [decimal_Bits.l0, hC, e1, e2, e5, Option.bind_some, e7]
      clear e1 e2 e5 e7 e6
      simp (disch := omega) only [if_neg, if_pos]
  | i + 1, P, R, W, x, hP, hx, hOk, hW, hT, hv, hs, hl, h0 => by
    obtain ⟨P, a, rfl, hP1⟩ := concat_of_len hP
    have ha : a < 1000000000 := hOk a (by simp)
    obtain rfl : x = (i : Int) := by omega
    have e0 : P ++ [a] ++ R = P ++ a :: R := by simp
    rw [e0] at h0 hs ⊢
    have hs2 : (P ++ a :: R).length = i + (R.length + 1) := by rw [List.length_append, List.length_cons, hP1]
    have ih := bits_l0 i P (a :: R) (brow a W) ((i : Int) - 1) hP1 rfl hOk.left (brow_ok W a (by omega) hW) (brow_top W a hT hW (by omega)) (by rw [brow_val, hv, val]; omega) hs (by have := brow_len W a; simp; omega) h0
    have e1 : rd (C (P ++ a :: R)) (i : Int) = a := rd_at P R a i hP1
    have hC : (C (P ++ a :: R)).length = i + (R.length + 1) := by rw [C_length, hs2]
    have hCW : (C W).length = W.length := C_length _
    have hw : wrap64 ((i : Int) - 1) = (i : Int) - 1 := w64 (by omega) (by omega)
    have key := bits_l1 (C (P ++ a :: R)) (i : Int) hw W [] a hW (by omega) (by rw [List.nil_append]; clear hw; omega) (by simpa using ih)
    rw [List.nil_append] at key
    refine Ev.step (f := fun k => decimal_Bits.l1 k (C W) (C (P ++ a :: R)) (i : Int) (a : Int) ((W.length : Nat) : Int) 0) (fun k => ?_) key
    simp only [decimal_Bits.l0, e1, hC, hCW]
    clear e1 hw key ih
    simp (disch := omega) only [if_pos]
theorem bits_f (n : Nat) (h : Md n) : Ev (fun k => decimal_Bits.f k (S n)) ((blen n : Nat) : Int) := by
  have hM := h.out
  unfold decimal_Bits.f
  rw [small_S n (by omega)]
  by_cases h64 : n < 18446744073709551616
  · rw [if_pos h64]
    have e := len64_f n h64
    refine Ev.bind (Ev.now ((n : Int), true)) (Ev.pos rfl ?_)
    rw [e]
    exact Ev.now _
  · rw [if_neg h64]
    refine Ev.bind (Ev.now ((0 : Int), false)) (Ev.neg (by decide) (Ev.bind (cut_f n (by omega)) ?_))
    have hp := h.pcs
    have hC : (C (pcs n)).length = (pcs n).length := C_length _
    have hw : wrap64 (((pcs n).length : Int) - 1) = ((pcs n).length : Int) - 1 := w64 (by omega) (by omega)
    have key := bits_l0 (pcs n).length (pcs n) [] [] (((pcs n).length : Int) - 1) rfl rfl (ok_pcs n) Ok32.nil (fun m a h => by cases m <;> cases h) rfl (by rw [List.append_nil]; exact hp) (Nat.le_refl _) (by rw [List.append_nil, val_pcs]; omega)
    rw [List.append_nil, val_pcs] at key
    rw [hC, hw]
    exact key
end Go.Proofs.YtcfddphiflmnlaaDoor.P

namespace Go.Proofs.YtcfddphiflmnlaaDoor.P
open Go.RowKit Go.Proofs.YtcfddphiflmnlaaDoorW.PrintWords
theorem S_is0 (n : Nat) : ((S n).toList = ([48] : List UInt8)) ↔ n = 0 := by
  have e : ([48] : List UInt8) = (S 0).toList := by rw [toList_data, S_list, dec_small (by decide)]; rfl
  rw [e, S_eq_iff]
end Go.Proofs.YtcfddphiflmnlaaDoor.P

namespace Go.Proofs.YtcfddphiflmnlaaDoor.P
open Go.RowKit Go.Proofs.YtcfddphiflmnlaaDoorW.PrintWords
end Go.Proofs.YtcfddphiflmnlaaDoor.P

namespace Go.Proofs.YtcfddphiflmnlaaDoor.P
open Go.RowKit Go.Proofs.YtcfddphiflmnlaaDoorW.PrintWords
theorem bt_S (n i : Nat) (h : i < Lib.nDigits n) : bt (S n) ((Lib.nDigits n - 1 - i : Nat) : Int) = ((48 + n / 10 ^ i % 10 : Nat) : Int) := by
  rw [← rd_bytesOf, bytesOf, S_list, Lib.decDigits_eq]
  simp only [rd, Int.toNat_natCast, List.getD_eq_getElem?_getD, List.map_map]
  rw [List.getElem?_map, List.getElem?_range (by omega)]
  simp only [Option.map_some, Option.getD_some, Function.comp, Lib.dg]
  rw [show Lib.nDigits n - 1 - (Lib.nDigits n - 1 - i) = i by omega, digit_toNat (Nat.mod_lt _ (by decide))]
theorem wsub1 {a b : Nat} (h : b < a) (hs : Sm a) : wrap64 (wrap64 ((a : Int) - 1) - (b : Int)) = ((a - 1 - b : Nat) : Int) := by
  have := hs.out
  rw [w64 (n := (a : Int) - 1) (by omega) (by omega), w64 (by omega) (by omega)]
  omega
theorem digit_f (n i : Nat) (h : Md n) : schismaref01_digit.f (S n) (i : Int) = some ((n / 10 ^ i % 10 : Nat) : Int) := by
  unfold schismaref01_digit.f
  rw [S_size]
  by_cases hi : i < Lib.nDigits n
  · have s1 : Sm (Lib.nDigits n) := ⟨by have := h.out; omega⟩
    have h3 : n / 10 ^ i % 10 < 10 := Nat.mod_lt _ (by decide)
    have e3 : (((48 + n / 10 ^ i % 10 : Nat) : Int) - 48) % 256 = ((n / 10 ^ i % 10 : Nat) : Int) := by omega
    rw [if_neg (by omega)]
    have e1 := wsub1 hi s1
    rw [e1, bt_S n i hi, e3]
    clear e1 e3
    rw [if_pos (by omega), if_pos (by omega)]
  · have h1 : n < 10 ^ i := Nat.lt_of_lt_of_le (Lib.lt_pow_nDigits n) (Nat.pow_le_pow_right (by decide) (by omega))
    rw [if_pos (by omega), Nat.div_eq_of_lt h1]
    rfl
theorem rtrim_end (Z Q : List UInt8) (hQ : Can Q) : strOfNums ((B8 (Z ++ Q)).drop (Z.length : Int).toNat) = S (dv Q) := by
  have e1 : (B8 (Z ++ Q)).drop (Z.length : Int).toNat = B8 Q := by
    rw [Int.toNat_natCast, B8_append, List.drop_left' (B8_length Z)]
  rw [e1, strOfNums_B8]
  exact S_of (s := ⟨Q.toArray⟩) hQ
theorem dv_zeros (Z Q : List UInt8) (h : ∀ c, c ∈ Z → c = 48) : dv (Z ++ Q) = dv Q := by
  induction Z with
  | nil => rfl
  | cons c Z ih =>
    have hc := h c (by simp)
    subst hc
    rw [List.cons_append, dv_cons, ih (fun c hc => h c (by simp [hc]))]
    have : (48 : UInt8).toNat - 48 = 0 := rfl
    rw [this, Nat.zero_mul, Nat.zero_add]
theorem rtrim_l0 (T : List UInt8) (hT : IsD T) (hs : T.length < 4611686018427387904) : ∀ (Q Z : List UInt8), T = Z ++ Q → Q ≠ [] → (∀ c, c ∈ Z → c = 48) → Ev (fun k => schismaref01_trim.l0 k (B8 T) (Z.length : Int)) (S (dv T))
  | [], _, _, h, _ => absurd rfl h
  | [c], Z, h, _, hZ => by
    have hl : (B8 T).length = Z.length + 1 := by rw [B8_length, h]; simp
    have hl' : T.length = Z.length + 1 := by rw [h]; simp
    have s1 : Sm (Z.length + 1) := ⟨by omega⟩
    have hc : Can [c] := ⟨by rw [h] at hT; exact hT.right, Or.inl rfl⟩
    have he := rtrim_end Z [c] hc
    rw [← dv_zeros Z [c] hZ, ← h] at he
    refine Ev.step (f := fun _ => some (S (dv T))) (fun k => ?_) (Ev.now _)
    have e1 := wpred1 s1
    simp only [schismaref01_trim.l0, he, hl, e1]
    clear e1
    simp (disch := omega) only [if_pos, if_neg]
  | c :: d :: Q, Z, h, _, hZ => by
    have hl : (B8 T).length = Z.length + Q.length + 2 := by rw [B8_length, h]; simp; omega
    have hl' : T.length = Z.length + Q.length + 2 := by rw [h]; simp; omega
    have s1 : Sm (Z.length + Q.length + 1 + 1) := ⟨by omega⟩
    have s2 : Sm Z.length := ⟨by omega⟩
    have e2 : rd (B8 T) (Z.length : Int) = (c.toNat : Int) := by rw [h, rd_B8 _ _ _ _ rfl]
    have e1 := wpred1 s1
    by_cases h48 : c = 48
    · have ih := rtrim_l0 T hT hs (d :: Q) (Z ++ [c]) (by rw [h]; simp) (by simp) (fun x hx => by
        rcases List.mem_append.1 hx with h1 | h1
        · exact hZ x h1
        · rw [List.mem_singleton.1 h1, h48])
      refine Ev.step (f := fun k => schismaref01_trim.l0 k (B8 T) ((Z.length + 1 : Nat) : Int)) (fun k => ?_) (by simpa using ih)
      have h48' : (c.toNat : Int) = 48 := by rw [h48]; rfl
      have e3 := wsucc s2
      simp only [schismaref01_trim.l0, e1, e2, e3, hl, h48', if_true]
      clear e1 e2 e3
      simp (disch := omega) only [if_pos]
    · have hc : Can (c :: d :: Q) := ⟨by rw [h] at hT; exact hT.right, Or.inr ⟨by simp, by simpa using h48⟩⟩
      have he := rtrim_end Z (c :: d :: Q) hc
      rw [← dv_zeros Z _ hZ, ← h] at he
      have h48' : ¬ (c.toNat : Int) = 48 := fun e => h48 (UInt8.toNat_inj.1 (by have : (48 : UInt8).toNat = 48 := rfl; omega))
      refine Ev.step (f := fun _ => some (S (dv T))) (fun k => ?_) (Ev.now _)
      simp only [schismaref01_trim.l0, e1, e2, hl, he]
      clear e1 e2
      simp (disch := omega) only [if_pos, if_neg]
theorem rtrim_f (T : List UInt8) (hT : IsD T) (h0 : T ≠ []) (hs : T.length < 4611686018427387904) : Ev (fun k => schismaref01_trim.f k (B8 T)) (S (dv T)) :=
  rtrim_l0 T hT hs T [] rfl h0 (fun _ h => by cases h)
theorem mod_step (x i : Nat) : x % 10 ^ (i + 1) = x % 10 ^ i + 10 ^ i * (x / 10 ^ i % 10) := by
  rw [Nat.pow_succ, Nat.mod_mul]
theorem put_zero (j : Nat) (T : List UInt8) (c : UInt8) : (List.replicate (j + 1) (0 : Int) ++ B8 T).set j (c.toNat : Int) = List.replicate j 0 ++ B8 (c :: T) := by
  rw [List.replicate_succ', List.append_assoc, List.singleton_append, setI _ _ _ _ _ (by simp)]
  rfl
theorem pd {d : Nat} (h : d < 10) : ((48 + d : Nat) : Int) % 256 = ((UInt8.ofNat (48 + d)).toNat : Int) := by
  rw [digit_toNat h]; omega
theorem isD_cons {d : Nat} (h : d < 10) {T : List UInt8} (hT : IsD T) : IsD (UInt8.ofNat (48 + d) :: T) := IsD.cons (by rw [digit_toNat h]; omega) hT
theorem dv_put {d : Nat} (h : d < 10) (T : List UInt8) : dv (UInt8.ofNat (48 + d) :: T) = d * 10 ^ T.length + dv T := by
  rw [dv_cons, digit_toNat h]; congr 2; omega
theorem quick_f (n : Nat) : Ev (fun k => schismaref01_quick.f k (S n)) (if Lib.nDigits n ≤ 18 then ((n : Int), true) else (0, false)) := by
  by_cases h : Lib.nDigits n ≤ 18
  · rw [if_pos h]; exact quick_small h
  · rw [if_neg h]; exact quick_big (by rw [S_size]; omega)
theorem rminus_lo {x y c : Nat} (hx : x < 10) (hy : y < 10) (hc : c ≤ 1) (h : x < y + c) : wrap64 (wrap64 ((x : Int) - (y : Int)) - (c : Int)) < 0 ∧ wrap64 (48 + wrap64 (wrap64 (wrap64 ((x : Int) - (y : Int)) - (c : Int)) + 10)) = ((48 + (x + 10 - y - c) : Nat) : Int) := by
  rw [w64 (n := (x : Int) - y) (by omega) (by omega), w64 (n := (x : Int) - y - c) (by omega) (by omega), w64 (n := (x : Int) - y - c + 10) (by omega) (by omega), w64 (by omega) (by omega)]
  omega
theorem rminus_hi {x y c : Nat} (hx : x < 10) (hy : y < 10) (hc : c ≤ 1) (h : ¬ x < y + c) : ¬ wrap64 (wrap64 ((x : Int) - (y : Int)) - (c : Int)) < 0 ∧ wrap64 (48 + wrap64 (wrap64 ((x : Int) - (y : Int)) - (c : Int))) = ((48 + (x - y - c) : Nat) : Int) := by
  rw [w64 (n := (x : Int) - y) (by omega) (by omega), w64 (n := (x : Int) - y - c) (by omega) (by omega), w64 (by omega) (by omega)]
  omega
theorem rminus_l0 (a b : Nat) (ha : Md a) (hba : b ≤ a) (m : Nat) (hm : m = Lib.nDigits a) : ∀ (j i : Nat) (T : List UInt8) (c : Nat), i + j = m → T.length = i → IsD T → c ≤ 1 → dv T + b % 10 ^ i = a % 10 ^ i + 10 ^ i * c →
    Ev (fun k => schismaref01_Minus.l0 k (S a) (S b) (m : Int) (List.replicate j 0 ++ B8 T) (c : Int) (i : Int)) (S (a - b))
  | 0, i, T, c, hi, hl, hT, hc, hv => by
    have hi' : i = m := by omega
    have hp := Lib.nDigits_pos a
    have hM := ha.out
    have h1 := dv_lt hT
    have h2 := Lib.lt_pow_nDigits a
    rw [← hm, ← hi'] at h2
    rw [hl] at h1
    rw [Nat.mod_eq_of_lt (show a < 10 ^ i by omega), Nat.mod_eq_of_lt (show b < 10 ^ i by omega)] at hv
    have hc0 : c = 0 := by
      rcases Nat.eq_zero_or_pos c with h2 | h2
      · exact h2
      · have h3 : c = 1 := by omega
        subst h3
        omega
    subst hc0
    have ht := rtrim_f T hT (by intro e; rw [e, List.length_nil] at hl; omega) (by omega)
    rw [show dv T = a - b by omega] at ht
    refine Ev.step (f := fun k => (schismaref01_trim.f k (B8 T)).bind fun t => some t) (fun k => ?_) (Ev.bind ht (Ev.now _))
    clear hv h1 h2
    simp (disch := omega) only [schismaref01_Minus.l0, if_neg, List.replicate_zero, List.nil_append]
  | j + 1, i, T, c, hi, hl, hT, hc, hv => by
    have hb : Md b := ⟨Nat.le_trans (nDig_mono hba) ha.out⟩
    have hM := ha.out
    have hx : a / 10 ^ i % 10 < 10 := Nat.mod_lt _ (by decide)
    have hy : b / 10 ^ i % 10 < 10 := Nat.mod_lt _ (by decide)
    have s1 : Sm m := ⟨by omega⟩
    have s2 : Sm i := ⟨by omega⟩
    have hmi : i < m := by omega
    have hj : m - 1 - i = j := by omega
    have d1 := digit_f a i ha
    have d2 := digit_f b i hb
    have hll : (List.replicate (j + 1) (0 : Int) ++ B8 T).length = m := by rw [List.length_append, List.length_replicate, B8_length]; omega
    have step : ∀ (r c2 : Nat), r < 10 → r + b / 10 ^ i % 10 + c = a / 10 ^ i % 10 + 10 * c2 → dv (UInt8.ofNat (48 + r) :: T) + b % 10 ^ (i + 1) = a % 10 ^ (i + 1) + 10 ^ (i + 1) * c2 := fun r c2 hr hrc => by
      rw [dv_put hr, hl, mod_step, mod_step, Nat.pow_succ]
      generalize a / 10 ^ i % 10 = x at *
      generalize b / 10 ^ i % 10 = y at *
      generalize 10 ^ i = p at *
      have h6 : p * (r + y + c) = p * (x + 10 * c2) := by rw [hrc]
      rw [Nat.mul_add, Nat.mul_add, Nat.mul_add, ← Nat.mul_assoc] at h6
      rw [Nat.mul_comm r p]
      omega
    by_cases h : a / 10 ^ i % 10 < b / 10 ^ i % 10 + c
    · have hr : a / 10 ^ i % 10 + 10 - b / 10 ^ i % 10 - c < 10 := by omega
      have ih := rminus_l0 a b ha hba m hm j (i + 1) (UInt8.ofNat (48 + (a / 10 ^ i % 10 + 10 - b / 10 ^ i % 10 - c)) :: T) 1 (by omega) (by simp [hl]) (isD_cons hr hT) (by omega) (step _ _ hr (by omega))
      have e5 := pd hr
      obtain ⟨e1, e2⟩ := rminus_lo hx hy hc h
      have e3 := wsub1 hmi s1
      have e4 := wsucc s2
      have e6 := put_zero j T (UInt8.ofNat (48 + (a / 10 ^ i % 10 + 10 - b / 10 ^ i % 10 - c)))
      rw [hj] at e3
      refine Ev.step (fun k => ?_) ih
      simp only [schismaref01_Minus.l0, d1, d2, Option.bind_some, if_pos e1, e2, e3, e4, e5, Int.toNat_natCast, e6, hll]
      clear e1 e2 e3 e4 e5 e6 d1 d2 hv step h hx hy hr ih
      simp (disch := omega) only [if_pos]
      rfl
    · have hr : a / 10 ^ i % 10 - b / 10 ^ i % 10 - c < 10 := by omega
      have ih := rminus_l0 a b ha hba m hm j (i + 1) (UInt8.ofNat (48 + (a / 10 ^ i % 10 - b / 10 ^ i % 10 - c)) :: T) 0 (by omega) (by simp [hl]) (isD_cons hr hT) (by omega) (step _ _ hr (by omega))
      have e5 := pd hr
      obtain ⟨e1, e2⟩ := rminus_hi hx hy hc h
      have e3 := wsub1 hmi s1
      have e4 := wsucc s2
      have e6 := put_zero j T (UInt8.ofNat (48 + (a / 10 ^ i % 10 - b / 10 ^ i % 10 - c)))
      rw [hj] at e3
      refine Ev.step (fun k => ?_) ih
      simp only [schismaref01_Minus.l0, d1, d2, Option.bind_some, if_neg e1, e2, e3, e4, e5, Int.toNat_natCast, e6, hll]
      clear e1 e2 e3 e4 e5 e6 d1 d2 hv step h hx hy hr ih
      simp (disch := omega) only [if_pos]
      rfl
theorem rminus_long (a b : Nat) (ha : Md a) (hba : b ≤ a) (x y : Int) : Ev (fun k => schismaref01_Minus.j0 k (S a) (S b) x y false) (S (a - b)) := by
  have h1 := ha.out
  have key := rminus_l0 a b ha hba _ rfl (Lib.nDigits a) 0 [] 0 (by omega) rfl IsD.nil (by omega) (by rw [Nat.pow_zero, Nat.mod_one, Nat.mod_one]; rfl)
  refine Ev.step (fun k => ?_) key
  simp only [schismaref01_Minus.j0, Bool.false_eq_true, if_false, S_size, Int.toNat_natCast]
  simp (disch := omega) only [if_pos]
  rw [show B8 [] = [] from rfl, List.append_nil]
  rfl
theorem rminus_f (a b : Nat) (ha : Md a) (hba : b ≤ a) : Ev (fun k => schismaref01_Minus.f k (S a) (S b)) (S (a - b)) := by
  unfold schismaref01_Minus.f
  refine Ev.bind (quick_f a) (Ev.bind (quick_f b) ?_)
  by_cases h1 : Lib.nDigits a ≤ 18
  · rw [if_pos h1]
    refine Ev.pos rfl ?_
    have h2 : Lib.nDigits b ≤ 18 := Nat.le_trans (nDig_mono hba) h1
    rw [if_pos h2]
    have k1 := nDig_lt h1
    have k2 := nDig_lt h2
    have k3 : (10 : Nat) ^ 18 = 1000000000000000000 := by decide
    have e0 := rof_f (a - b) (by omega)
    have e1 : IntKind.u64.wrap ((a : Int) - (b : Int)) = ((a - b : Nat) : Int) := by rw [u64w (by omega) (by omega)]; omega
    refine Ev.step (f := fun _ => some (S (a - b))) (fun k => ?_) (Ev.now _)
    simp only [schismaref01_Minus.j0, if_true, e1, e0, Option.bind_some]
  · rw [if_neg h1]
    exact Ev.neg (by decide) (rminus_long a b ha hba _ _)
end Go.Proofs.YtcfddphiflmnlaaDoor.P

namespace Go.Proofs.YtcfddphiflmnlaaDoor.P
open Go.RowKit Go.Proofs.YtcfddphiflmnlaaDoorW.PrintWords
end Go.Proofs.YtcfddphiflmnlaaDoor.P

namespace Go.Proofs.YtcfddphiflmnlaaDoor.P
open Go.RowKit Go.Proofs.YtcfddphiflmnlaaDoorW.PrintWords
theorem few_f (l0 l1 l2 : List Int) : schismalaw01_few.f l0 l1 l2 = some (decide (l0.length ≤ 120 ∧ l1.length ≤ 120 ∧ l2.length ≤ 120)) := by
  unfold schismalaw01_few.f
  by_cases h0 : l0.length ≤ 120
  · rw [if_pos (by omega)]
    by_cases h1 : l1.length ≤ 120
    · rw [if_pos (by omega)]
      congr 1
      rw [decide_eq_decide]
      omega
    · rw [if_neg (by omega), decide_eq_false (by omega)]
  · rw [if_neg (by omega), decide_eq_false (by omega)]
theorem dig120 {n : Nat} (h : n < 10 ^ 120) : Lib.nDigits n ≤ 120 := nDig_le (by decide) h
theorem cmp_neg (a b : Nat) : cmp a b < 0 ↔ a < b := by
  unfold cmp
  by_cases h : a < b
  · simp [h]
  · by_cases h2 : b < a
    · simp [h, h2]
    · simp [h, h2]
end Go.Proofs.YtcfddphiflmnlaaDoor.P

namespace Go.Proofs.YtcfddphiflmnlaaDoor.P
open Go.RowKit Go.Proofs.YtcfddphiflmnlaaDoorW.PrintWords
theorem dec_next {r d : Nat} (hd : d < 10) (hr : r ≠ 0) : Lib.decDigits (10 * r + d) = Lib.decDigits r ++ [UInt8.ofNat (48 + d)] := by
  rw [dec_big (by omega), show (10 * r + d) / 10 = r by omega, show (10 * r + d) % 10 = d by omega]
theorem put_next (T : List UInt8) (j : Nat) (c : UInt8) : (B8 T ++ List.replicate (j + 1) 0).set T.length (c.toNat : Int) = B8 (T ++ [c]) ++ List.replicate j 0 := by
  rw [List.replicate_succ, setI _ _ _ _ _ (B8_length T), B8_append, List.append_assoc]
  rfl
theorem rdiv_l1 (A b : Nat) (hb0 : b ≠ 0) (hb : Lib.nDigits b ≤ 100000) (out : List Int) (i : Nat) {r0 : ByteArray × ByteArray} (hs : Sm i) (hi : i < out.length) : ∀ (j v e : Nat), v / b = j → e + j ≤ 9 → Lib.nDigits v ≤ 100001 →
    Ev (fun k => schismaref01_DivMod.l0 k (S A) (S b) (S (v % b)) (out.set i ((48 + (e + j) : Nat) : Int)) ((i + 1 : Nat) : Int)) r0 → Ev (fun k => schismaref01_DivMod.l1 k (S A) (S b) (S v) out (i : Int) ((48 + e : Nat) : Int)) r0
  | 0, v, e, hv, he, hd, h => by
    have hlt : v < b := by
      rcases Nat.lt_or_ge v b with h1 | h1
      · exact h1
      · have := Nat.div_pos h1 (Nat.pos_of_ne_zero hb0); omega
    rw [Nat.mod_eq_of_lt hlt, Nat.add_zero] at h
    have e1 := wsucc hs
    refine Ev.step (fun k => ?_) h
    rw [schismaref01_DivMod.l1, rcompare_f, Option.bind_some, if_neg (by have := (cmp_neg v b).2 hlt; clear e1; omega), e1, Int.toNat_natCast]
    clear e1
    rw [if_pos (by omega), if_pos (by omega)]
  | j + 1, v, e, hv, he, hd, h => by
    have hge : b ≤ v := by
      rcases Nat.lt_or_ge v b with h1 | h1
      · rw [Nat.div_eq_of_lt h1] at hv; omega
      · exact h1
    have hbp := Nat.pos_of_ne_zero hb0
    have hv2 : (v - b) / b = j := by
      have h1 := Nat.add_div_right (v - b) hbp
      rw [Nat.sub_add_cancel hge] at h1
      omega
    have hm : (v - b) % b = v % b := by
      have h1 := Nat.add_mod_right (v - b) b
      rw [Nat.sub_add_cancel hge] at h1
      exact h1.symm
    have ih := rdiv_l1 A b hb0 hb out i hs hi j (v - b) (e + 1) hv2 (by omega) (Nat.le_trans (nDig_mono (Nat.sub_le _ _)) hd) (by rw [hm, show e + 1 + j = e + (j + 1) by omega]; exact h)
    have e2 : ((48 + e : Nat) : Int) + 1 = ((48 + (e + 1) : Nat) : Int) := by omega
    have e3 : ((48 + (e + 1) : Nat) : Int) % 256 = ((48 + (e + 1) : Nat) : Int) := by omega
    refine Ev.step (f := fun k => (schismaref01_Minus.f k (S v) (S b)).bind fun t419 => schismaref01_DivMod.l1 k (S A) (S b) t419 out (i : Int) ((48 + (e + 1) : Nat) : Int)) (fun k => ?_) (Ev.bind (rminus_f v b ⟨by omega⟩ hge) ih)
    have hc : cmp v b ≥ 0 := by
      have := fun h1 => (cmp_neg v b).1 h1
      rcases Int.lt_trichotomy (cmp v b) 0 with h1 | h1 | h1
      · have := this h1; omega
      · omega
      · omega
    rw [schismaref01_DivMod.l1, rcompare_f, Option.bind_some, if_pos hc, e2, e3]
theorem rdiv_l0 (A b : Nat) (hb0 : b ≠ 0) (hA : Lib.nDigits A ≤ 100000) (hb : Lib.nDigits b ≤ 100000) : ∀ (Q P : List UInt8) (T : List UInt8), (S A).data.toList = P ++ Q → T.length = P.length → IsD T → dv T = dv P / b →
    Ev (fun k => schismaref01_DivMod.l0 k (S A) (S b) (S (dv P % b)) (B8 T ++ List.replicate Q.length 0) (P.length : Int)) (S (A / b), S (A % b))
  | [], P, T, h, hl, hT, hv => by
    rw [List.append_nil] at h
    have hP : dv P = A := by rw [← h, S_dv]
    have hsz := S_size A
    have hPl : P.length = Lib.nDigits A := by rw [← h, ← hsz, size_list]
    have hp := Lib.nDigits_pos A
    have ht := rtrim_f T hT (by intro e; rw [e] at hl; simp at hl; omega) (by omega)
    rw [hv, hP] at ht
    rw [hP, List.length_nil, List.replicate_zero, List.append_nil]
    refine Ev.step (f := fun k => (schismaref01_trim.f k (B8 T)).bind fun t417 => (some (t417, S (A % b)))) (fun k => ?_) (Ev.bind ht (Ev.now _))
    rw [schismaref01_DivMod.l0, if_neg (by omega)]
  | c :: Q, P, T, h, hl, hT, hv => by
    have hsz := S_size A
    have hs1 := size_mid (S A) P Q c h
    have hD : IsD (P ++ c :: Q) := by rw [← h]; exact S_dig A
    have hc := hD c (by simp)
    have hd : c.toNat - 48 < 10 := by omega
    have hbp := Nat.pos_of_ne_zero hb0
    have hr : dv P % b < b := Nat.mod_lt _ hbp
    have hext : ((S A).extract P.length (P.length + 1)) = (⟨#[c]⟩ : ByteArray) := by
      have h1 := extract_list (S A) P.length (P.length + 1)
      rw [h] at h1
      have h2 : ((P ++ c :: Q).take (P.length + 1)).drop P.length = [c] := by
        rw [show P ++ c :: Q = (P ++ [c]) ++ Q by simp, List.take_left' (by simp), List.drop_left' rfl]
      rw [h2] at h1
      apply ByteArray.ext
      apply Array.toList_inj.1
      exact h1
    have hdvP : dv (P ++ [c]) = 10 * dv P + (c.toNat - 48) := dv_snoc P c
    obtain ⟨v, hv0⟩ : ∃ v, v = 10 * (dv P % b) + (c.toNat - 48) := ⟨_, rfl⟩
    obtain ⟨z, hz0⟩ : ∃ z, z = v / b := ⟨_, rfl⟩
    have hv1 : 10 * dv P + (c.toNat - 48) = v + b * (10 * (dv P / b)) := by
      have h1 := Nat.mod_add_div (dv P) b
      rw [Nat.mul_left_comm b 10]
      generalize b * (dv P / b) = u at h1 ⊢
      omega
    have hvl : v < 10 * b := by omega
    have hq : z < 10 := by rw [hz0, Nat.div_lt_iff_lt_mul hbp]; exact hvl
    have hq1 : dv (P ++ [c]) / b = 10 * (dv P / b) + z := by rw [hdvP, hv1, Nat.add_mul_div_left _ _ hbp, Nat.add_comm, hz0]
    have hm1 : dv (P ++ [c]) % b = v % b := by rw [hdvP, hv1, Nat.add_mul_mod_self_left]
    have hT2 : dv (T ++ [UInt8.ofNat (48 + z)]) = dv (P ++ [c]) / b := by
      rw [dv_snoc, digit_toNat hq, hv, hq1]; omega
    have ih := rdiv_l0 A b hb0 hA hb Q (P ++ [c]) (T ++ [UInt8.ofNat (48 + z)]) (by rw [h]; simp) (by simp [hl]) (hT.append (IsD.cons (by rw [digit_toNat hq]; omega) IsD.nil)) hT2
    rw [hm1] at ih
    have hdig : Lib.nDigits v ≤ 100001 := by
      obtain ⟨K, hK⟩ : ∃ K, K = 100000 := ⟨_, rfl⟩
      rw [← hK] at hb
      have h1 := nDig_lt hb
      have h2 : Lib.nDigits v ≤ K + 1 := nDig_le (by omega) (by rw [Nat.pow_succ]; omega)
      omega
    have hol : (B8 T ++ List.replicate (c :: Q).length (0 : Int)).length = P.length + (Q.length + 1) := by simp [B8_length, hl]
    have key := rdiv_l1 A b hb0 hb (B8 T ++ List.replicate (c :: Q).length 0) P.length (r0 := (S (A / b), S (A % b))) ⟨by omega⟩ (by rw [hol]; omega) z v 0 hz0.symm (by omega) hdig (by
      rw [Nat.zero_add, ← digit_toNat hq, List.length_cons, ← hl, put_next]
      simpa [hl] using ih)
    rw [Nat.add_zero] at key
    have e1 := wsucc (a := P.length) ⟨by omega⟩
    have jstep : ∀ k, schismaref01_DivMod.j2 (k + 1) (S A) (S b) (S v) (B8 T ++ List.replicate (c :: Q).length 0) (P.length : Int) = schismaref01_DivMod.l1 k (S A) (S b) (S v) (B8 T ++ List.replicate (c :: Q).length 0) (P.length : Int) ((48 : Nat) : Int) := fun k => by rw [schismaref01_DivMod.j2]; rfl
    have key2 := Ev.step (g := fun k => schismaref01_DivMod.j2 k (S A) (S b) (S v) (B8 T ++ List.replicate (c :: Q).length 0) (P.length : Int)) jstep key
    refine Ev.step (fun k => ?_) key2
    rw [schismaref01_DivMod.l0, e1, Int.toNat_natCast, Int.toNat_natCast, hext]
    clear e1 key key2 jstep ih
    have hone : (⟨#[c]⟩ : ByteArray).size = 1 := rfl
    by_cases hz : dv P % b = 0
    · have e2 : (⟨#[c]⟩ : ByteArray) = S v := by
        rw [hv0, hz, Nat.mul_zero, Nat.zero_add, S, dec_small hd, digit_of hc]
      rw [if_pos (by omega), if_pos ((S_is0 _).2 hz), if_pos (by omega), if_pos (by omega), if_pos (by omega), e2]
    · have e2 : S (dv P % b) ++ (⟨#[c]⟩ : ByteArray) = S v := by
        apply ByteArray.ext
        apply Array.toList_inj.1
        rw [hv0, S_list, dec_next hd hz, digit_of hc]
        simp [S]
      have hrs := S_size (dv P % b)
      have hrn := nDig_mono (Nat.le_of_lt hr)
      rw [if_pos (by omega), if_neg (fun e => hz ((S_is0 _).1 e)), if_pos (by omega), if_pos (by omega), if_pos (by omega), if_pos (by omega), e2]
theorem rdivmod_f (a b : Nat) (hb0 : b ≠ 0) (ha : Lib.nDigits a ≤ 100000) (hb : Lib.nDigits b ≤ 100000) : Ev (fun k => schismaref01_DivMod.f k (S a) (S b)) (S (a / b), S (a % b)) := by
  have long : ∀ x y : Int, Ev (fun k => schismaref01_DivMod.j0 k (S a) (S b) x y false) (S (a / b), S (a % b)) := fun x y => by
    have key := rdiv_l0 a b hb0 ha hb (S a).data.toList [] [] rfl rfl IsD.nil (by rw [dv_nil, Nat.zero_div])
    have hsz := S_size a
    have hl : (S a).data.toList.length = (S a).size := (size_list _).symm
    rw [dv_nil, Nat.zero_mod, hl] at key
    refine Ev.step (fun k => ?_) key
    rw [schismaref01_DivMod.j0, if_neg (by decide), if_pos (by omega), if_pos (by omega), Int.toNat_natCast, zero_str]
    rfl
  unfold schismaref01_DivMod.f
  refine Ev.bind (quick_f a) (Ev.bind (quick_f b) ?_)
  by_cases h1 : Lib.nDigits a ≤ 18
  · rw [if_pos h1]
    refine Ev.pos rfl ?_
    by_cases h2 : Lib.nDigits b ≤ 18
    · rw [if_pos h2]
      have k1 := nDig_lt h1
      have k2 := nDig_lt h2
      have k3 : (10 : Nat) ^ 18 = 1000000000000000000 := by decide
      have h4 : a / b ≤ a := Nat.div_le_self _ _
      have h5 : a % b < b := Nat.mod_lt _ (Nat.pos_of_ne_zero hb0)
      have e1 : IntKind.u64.wrap (Int.tdiv (a : Int) (b : Int)) = ((a / b : Nat) : Int) := by rw [tdivn, u64n _ (by omega)]
      have o1 := rof_f (a / b) (by clear e1; omega)
      have o2 := rof_f (a % b) (by clear e1; omega)
      refine Ev.step (f := fun _ => some (S (a / b), S (a % b))) (fun k => ?_) (Ev.now _)
      rw [schismaref01_DivMod.j0, if_pos rfl, if_neg (show ¬ (b : Int) = 0 by clear e1; omega)]
      simp only [e1, tmodn, o1, o2, Option.bind_some]
    · rw [if_neg h2]
      exact long _ _
  · rw [if_neg h1]
    exact Ev.neg (by decide) (long _ _)
theorem rbits_l1 : ∀ (m y n : Nat), y ≤ m → n + y < 4611686018427387904 → Ev (fun k => schismaref01_Bits.l1 k (n : Int) (y : Int)) ((n + blen y : Nat) : Int)
  | 0, y, n, hm, hs => by
    obtain rfl : y = 0 := by omega
    rw [blen_zero]
    refine Ev.step (f := fun _ => some ((n + 0 : Nat) : Int)) (fun k => ?_) (Ev.now _)
    rw [schismaref01_Bits.l1, if_neg (by omega)]
    rfl
  | m + 1, y, n, hm, hs => by
    by_cases h0 : y = 0
    · exact rbits_l1 0 y n (by omega) hs
    · have ih := rbits_l1 m (y / 2) (n + 1) (by omega) (by omega)
      have e0 : Int.tdiv (y : Int) 2 = ((y / 2 : Nat) : Int) := tdivn y 2
      have e1 := wsucc (a := n) ⟨by omega⟩
      have e2 : IntKind.u64.wrap ((y / 2 : Nat) : Int) = ((y / 2 : Nat) : Int) := by clear e1; exact u64n _ (by omega)
      rw [show n + 1 + blen (y / 2) = n + blen y by rw [blen_pos h0]; clear e1 e2; omega] at ih
      refine Ev.step (fun k => ?_) ih
      rw [schismaref01_Bits.l1, if_pos (by clear e1 e2; omega), e0, e1, e2]
theorem bits30_str : (⟨#[49, 48, 55, 51, 55, 52, 49, 56, 50, 52]⟩ : ByteArray) = S 1073741824 := S_of ((canb_iff _).1 (by decide))
theorem blen_shift : ∀ (j x : Nat), 2 ^ j ≤ x → blen x = j + blen (x / 2 ^ j)
  | 0, x, _ => by rw [Nat.pow_zero, Nat.div_one, Nat.zero_add]
  | j + 1, x, h => by
    rw [Nat.pow_succ] at h
    have h2 : 2 ^ j ≤ x / 2 := by omega
    have h0 : x ≠ 0 := by have : 0 < 2 ^ j := Nat.pow_pos (by decide); omega
    rw [blen_pos h0, blen_shift j (x / 2) h2, Nat.div_div_eq_div_mul, Nat.pow_succ, Nat.mul_comm 2]
    omega
theorem rbits_l0 : ∀ (m x n : Nat), Lib.nDigits x ≤ m → x < 10 ^ 120 → n + 30 * m ≤ 100000 → Ev (fun k => schismaref01_Bits.l0 k (S x) (n : Int)) ((n + blen x : Nat) : Int)
  | 0, x, n, hm, _, _ => by have := Lib.nDigits_pos x; omega
  | m + 1, x, n, hm, hx, hs => by
    have hd := dig120 hx
    by_cases h0 : x = 0
    · subst h0
      rw [blen_zero]
      refine Ev.step (f := fun _ => some ((n + 0 : Nat) : Int)) (fun k => ?_) (Ev.now _)
      rw [schismaref01_Bits.l0, if_pos ((S_is0 0).2 rfl)]
      rfl
    · refine Ev.step (f := fun k => (schismaref01_quick.f k (S x)).bind fun bt421 => (if bt421.2 = true then (schismaref01_Bits.l1 k (n : Int) bt421.1) else ((schismaref01_DivMod.f k (S x) (S 1073741824)).bind fun bt423 => (schismaref01_Bits.l0 k bt423.1 (wrap64 ((n : Int) + 30)))))) (fun k => ?_) (Ev.bind (quick_f x) ?_)
      · rw [schismaref01_Bits.l0, if_neg (fun e => h0 ((S_is0 x).1 e)), bits30_str]
      · by_cases h18 : Lib.nDigits x ≤ 18
        · rw [if_pos h18]
          have k1 := nDig_lt h18
          have k3 : (10 : Nat) ^ 18 = 1000000000000000000 := by decide
          exact Ev.pos rfl (rbits_l1 x x n (Nat.le_refl _) (by clear hx; omega))
        · rw [if_neg h18]
          have hbig : 10 ^ 18 ≤ x := pow_le_nDig (by omega) (by decide)
          have k3 : (10 : Nat) ^ 18 = 1000000000000000000 := by decide
          have hb30 : (2 : Nat) ^ 30 = 1073741824 := by decide
          have hsh := blen_shift 30 x (by clear hx; omega)
          rw [hb30] at hsh
          have hle : x / 1073741824 ≤ x := Nat.div_le_self _ _
          have hnd : Lib.nDigits (x / 1073741824) ≤ m := by
            have h5 : x / 1073741824 ≤ x / 10 := Nat.div_le_div_left (by decide) (by decide)
            have h6 := nDig_mono h5
            have h7 := Lib.nDigits_big (u := x) (by clear hx; omega)
            omega
          have ih := rbits_l0 m (x / 1073741824) (n + 30) hnd (Nat.lt_of_le_of_lt hle hx) (by omega)
          rw [show n + 30 + blen (x / 1073741824) = n + blen x by rw [hsh]; omega] at ih
          have e1 : wrap64 ((n : Int) + 30) = ((n + 30 : Nat) : Int) := by rw [w64 (by omega) (by omega)]; omega
          refine Ev.neg (by decide) (Ev.bind (rdivmod_f x 1073741824 (by decide) (by omega) (Nat.le_trans (nDig_le (k := 10) (by decide) (by decide)) (by decide))) ?_)
          rw [e1]
          exact ih
theorem rbits_f (x : Nat) (hx : x < 10 ^ 120) : Ev (fun k => schismaref01_Bits.f k (S x)) ((blen x : Nat) : Int) := by
  have hd := dig120 hx
  have := rbits_l0 (Lib.nDigits x) x 0 (Nat.le_refl _) hx (by omega)
  rw [Nat.zero_add] at this
  exact this
end Go.Proofs.YtcfddphiflmnlaaDoor.P

namespace Go.Proofs.YtcfddphiflmnlaaDoor.Pure
open Go.RowKit Go.Proofs.YtcfddphiflmnlaaDoor.P Go.Proofs.YtcfddphiflmnlaaDoorW.PrintWords Go.Proofs.YtcfddphiflmnlaaDoorW.PrintLast
theorem DecimalCompares : schismalaw01_DecimalCompares.Pure := by
  intro l m _ hl1 hl2 _ hm1 hm2
  refine Ev.rounds (Ev.bind known_ev (Ev.pos rfl ?_))
  rw [few_f]
  simp only [Option.bind_some]
  by_cases h : l.length ≤ 120 ∧ m.length ≤ 120 ∧ ([] : List Int).length ≤ 120
  · rw [decide_eq_true h]
    obtain ⟨a, a1, a2, a3⟩ := make_f l hl2 (by omega)
    obtain ⟨b, b1, b2, b3⟩ := make_f m hm2 (by omega)
    have da := dig120 a2
    have db := dig120 b2
    have rb := rbits_f a a2
    clear a1 a2 b1 b2
    have ha : Md a := ⟨by omega⟩
    have c1 := compareS_f a b (by omega) (by omega)
    have c2 := compareS_f a a (by omega) (by omega)
    have c3 : cmp a a = 0 := by unfold cmp; rw [if_neg (by omega), if_neg (by omega)]
    rw [c3] at c2
    refine Ev.step (f := fun k => (schismalaw01_Make.f k l).bind fun t428 => ((schismalaw01_Make.f k m).bind fun t429 => ((decimal_Compare.f t428 t429).bind fun t430 => ((schismaref01_Compare.f t428 t429).bind fun t431 => (if t430 = t431 then ((decimal_Compare.f t428 t428).bind fun t432 => (if t432 = 0 then ((decimal_Digits.f t428).bind fun t433 => (if t433 = (t428.size : Int) then ((decimal_Bits.f k t428).bind fun t434 => ((schismaref01_Bits.f k t428).bind fun t435 => (some (t434 == t435)))) else (some false))) else (some false))) else (some false)))))) (fun k => ?_) (Ev.bind a3 (Ev.bind b3 ?_))
    · simp only [schismalaw01_DecimalCompares.j0, Bool.not_true, Bool.false_eq_true, if_false]
    · simp only [c1, c2, rcompare_f, decimal_Digits.f, Option.bind_some, if_true]
      exact Ev.bind (bits_f a ha) (Ev.bind rb (Ev.eq (Ev.now _) (by simp)))
  · rw [decide_eq_false h]
    refine Ev.step (f := fun k => (schismalaw01_known.f k).bind fun t => some t) (fun k => ?_) (Ev.bind known_ev (Ev.now _))
    simp only [schismalaw01_DecimalCompares.j0, Bool.not_false, if_true]
end Go.Proofs.YtcfddphiflmnlaaDoor.Pure
