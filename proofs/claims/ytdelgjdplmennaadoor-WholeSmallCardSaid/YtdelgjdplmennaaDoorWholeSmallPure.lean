/- The printed functions as operations on numbers, and the law's answer: true at every input. Conditions: those of each theorem; the law's own has the row's bounds alone. -/
import Derived.Lib.ItoaLen
import Derived.Lib.ItoaMem
import Derived.Lib.ItoaNum
import Derived.Test.YtdelgjdplmennaaDoorWholeSmallSaid
import Derived.Test.YtdelgjdplmennaaDoorWholeSmallWPlus

namespace Go.Proofs.YtdelgjdplmennaaDoor.P
open Go.RowKit Go.Proofs.YtdelgjdplmennaaDoorW.PrintWords
def Ok (l : List Nat) : Prop := ∀ a, a ∈ l → a < 1000000000
theorem Ok.nil : Ok [] := fun _ h => by cases h
theorem Ok.cons {a : Nat} {l : List Nat} (ha : a < 1000000000) (hl : Ok l) : Ok (a :: l) := fun x hx => by
  rcases List.mem_cons.1 hx with rfl | hx
  · exact ha
  · exact hl x hx
theorem Ok.head {a : Nat} {l : List Nat} (h : Ok (a :: l)) : a < 1000000000 := h a List.mem_cons_self
theorem Ok.tail {a : Nat} {l : List Nat} (h : Ok (a :: l)) : Ok l := fun x hx => h x (List.mem_cons_of_mem _ hx)
theorem Ok.append {l m : List Nat} (hl : Ok l) (hm : Ok m) : Ok (l ++ m) := fun x hx => by
  rcases List.mem_append.1 hx with hx | hx
  · exact hl x hx
  · exact hm x hx
theorem Ok.left {l m : List Nat} (h : Ok (l ++ m)) : Ok l := fun x hx => h x (List.mem_append_left _ hx)
theorem Ok.right {l m : List Nat} (h : Ok (l ++ m)) : Ok m := fun x hx => h x (List.mem_append_right _ hx)
theorem Ok.take {l : List Nat} (h : Ok l) (i : Nat) : Ok (l.take i) := fun x hx => h x (List.mem_of_mem_take hx)
theorem Ok.drop {l : List Nat} (h : Ok l) (i : Nat) : Ok (l.drop i) := fun x hx => h x (List.mem_of_mem_drop hx)
theorem w64 {n : Int} (h0 : -9223372036854775808 ≤ n) (h1 : n ≤ 9223372036854775807) : wrap64 n = n := by unfold wrap64; omega
theorem tdivn (a b : Nat) : Int.tdiv (a : Int) (b : Int) = ((a / b : Nat) : Int) := (Int.ofNat_tdiv a b).symm
theorem tmodn (a b : Nat) : Int.tmod (a : Int) (b : Int) = ((a % b : Nat) : Int) := (Int.ofNat_tmod a b).symm
structure Sm (n : Nat) : Prop where
  out : n < 4611686018427387904
theorem wsucc {a : Nat} (h : Sm a) : wrap64 ((a : Int) + 1) = ((a + 1 : Nat) : Int) := by have := h.out; rw [w64] <;> omega
end Go.Proofs.YtdelgjdplmennaaDoor.P

namespace Go.Proofs.YtdelgjdplmennaaDoor.P
open Go.RowKit Go.Proofs.YtdelgjdplmennaaDoorW.PrintWords
theorem Ev.eq {α : Type} {g : Nat → Option α} {r r' : α} (h : Ev g r) (e : r = r') : Ev g r' := e ▸ h
theorem Ev.pos {α : Type} {p : Prop} [Decidable p] {g f : Nat → Option α} {r : α} (h : p) (k : Ev g r) : Ev (fun n => if p then g n else f n) r := by
  simp only [if_pos h]; exact k
theorem Ev.neg {α : Type} {p : Prop} [Decidable p] {g f : Nat → Option α} {r : α} (h : ¬ p) (k : Ev f r) : Ev (fun n => if p then g n else f n) r := by
  simp only [if_neg h]; exact k
end Go.Proofs.YtdelgjdplmennaaDoor.P

namespace Go.Proofs.YtdelgjdplmennaaDoor.P
open Go.RowKit Go.Proofs.YtdelgjdplmennaaDoorW.PrintWords
theorem snoc_ind {α : Type} {p : List α → Prop} (nil : p []) (snoc : ∀ (l : List α) (a : α), p l → p (l ++ [a])) (l : List α) : p l := by
  have h : ∀ (n : Nat) (l : List α), l.length = n → p l := by
    intro n
    induction n with
    | zero => intro l hl; rw [List.length_eq_zero_iff.1 hl]; exact nil
    | succ n ih =>
      intro l hl
      rcases List.eq_nil_or_concat l with e | ⟨m, a, e⟩
      · rw [e] at hl; simp at hl
      · have e' : l = m ++ [a] := by simpa using e
        subst e'
        exact snoc m a (ih m (by simpa using hl))
  exact h _ l rfl
def dv (l : List UInt8) : Nat := l.foldl (fun n c => 10 * n + (c.toNat - 48)) 0
def IsD (l : List UInt8) : Prop := ∀ c, c ∈ l → 48 ≤ c.toNat ∧ c.toNat ≤ 57
def Can (l : List UInt8) : Prop := IsD l ∧ (l.length = 1 ∨ (1 < l.length ∧ l.head? ≠ some 48))
theorem dv_nil : dv [] = 0 := rfl
theorem dv_snoc (l : List UInt8) (c : UInt8) : dv (l ++ [c]) = 10 * dv l + (c.toNat - 48) := by simp [dv, List.foldl_append]
theorem dv_append (l m : List UInt8) : dv (l ++ m) = dv l * 10 ^ m.length + dv m := by
  induction m using snoc_ind with
  | nil => simp [dv_nil]
  | snoc m c ih =>
    rw [← List.append_assoc, dv_snoc, ih, dv_snoc, List.length_append, List.length_singleton, Nat.pow_succ, Nat.mul_add, ← Nat.mul_assoc (dv l), Nat.mul_comm _ 10]
    omega
theorem IsD.nil : IsD [] := fun _ h => by cases h
theorem IsD.cons {c : UInt8} {l : List UInt8} (h1 : 48 ≤ c.toNat ∧ c.toNat ≤ 57) (h2 : IsD l) : IsD (c :: l) := fun x hx => by
  rcases List.mem_cons.1 hx with rfl | hx
  · exact h1
  · exact h2 x hx
theorem IsD.left {l m : List UInt8} (h : IsD (l ++ m)) : IsD l := fun x hx => h x (List.mem_append_left _ hx)
theorem IsD.right {l m : List UInt8} (h : IsD (l ++ m)) : IsD m := fun x hx => h x (List.mem_append_right _ hx)
theorem IsD.append {l m : List UInt8} (hl : IsD l) (hm : IsD m) : IsD (l ++ m) := fun x hx => by
  rcases List.mem_append.1 hx with hx | hx
  · exact hl x hx
  · exact hm x hx
theorem IsD.take {l : List UInt8} (h : IsD l) (i : Nat) : IsD (l.take i) := fun x hx => h x (List.mem_of_mem_take hx)
theorem IsD.drop {l : List UInt8} (h : IsD l) (i : Nat) : IsD (l.drop i) := fun x hx => h x (List.mem_of_mem_drop hx)
theorem dv_lt {l : List UInt8} (h : IsD l) : dv l < 10 ^ l.length := by
  induction l using snoc_ind with
  | nil => simp [dv_nil]
  | snoc m c ih =>
    have h1 := ih h.left
    have h2 := h.right c (by simp)
    rw [dv_snoc, List.length_append, List.length_singleton, Nat.pow_succ]
    omega
theorem digit_toNat {d : Nat} (h : d < 10) : (UInt8.ofNat (48 + d)).toNat = 48 + d := by
  rw [UInt8.toNat_ofNat']
  omega
theorem digit_of {c : UInt8} (h : 48 ≤ c.toNat ∧ c.toNat ≤ 57) : UInt8.ofNat (48 + (c.toNat - 48)) = c := by
  rw [show 48 + (c.toNat - 48) = c.toNat by omega]
  exact UInt8.ofNat_toNat
theorem dec_small {n : Nat} (h : n < 10) : Lib.decDigits n = [UInt8.ofNat (48 + n)] := by rw [Lib.decDigits, dif_pos h]
theorem dec_big {n : Nat} (h : 10 ≤ n) : Lib.decDigits n = Lib.decDigits (n / 10) ++ [UInt8.ofNat (48 + n % 10)] := by rw [Lib.decDigits, dif_neg (by omega)]
theorem isD_dec (n : Nat) : IsD (Lib.decDigits n) := by
  induction n using Nat.strongRecOn with
  | _ n ih =>
    by_cases h : n < 10
    · rw [dec_small h]
      refine IsD.cons ?_ IsD.nil
      rw [digit_toNat h]; omega
    · rw [dec_big (by omega)]
      refine (ih _ (by omega)).append (IsD.cons ?_ IsD.nil)
      rw [digit_toNat (by omega)]; omega
theorem dv_dec (n : Nat) : dv (Lib.decDigits n) = n := by
  induction n using Nat.strongRecOn with
  | _ n ih =>
    by_cases h : n < 10
    · rw [dec_small h, show [UInt8.ofNat (48 + n)] = [] ++ [UInt8.ofNat (48 + n)] from rfl, dv_snoc, digit_toNat h, dv_nil]; omega
    · rw [dec_big (by omega), dv_snoc, ih _ (by omega), digit_toNat (by omega)]; omega
theorem dec_len_pos (n : Nat) : 0 < (Lib.decDigits n).length := by rw [Lib.decDigits_length]; exact Lib.nDigits_pos n
theorem dec_dv : ∀ (k : Nat) (l : List UInt8), l.length = k → Can l → Lib.decDigits (dv l) = l
  | 0, l, hl, h => by rcases h.2 with h | h <;> omega
  | 1, l, hl, h => by
    rcases l with _ | ⟨c, _ | ⟨d, t⟩⟩
    · simp at hl
    · have hc := h.1 c (by simp)
      have : dv [c] = c.toNat - 48 := by rw [show [c] = [] ++ [c] from rfl, dv_snoc, dv_nil]; omega
      rw [this, dec_small (by omega), digit_of hc]
    · simp at hl
  | k + 2, l, hl, h => by
    obtain ⟨m, c, rfl⟩ : ∃ m c, l = m ++ [c] := by
      rcases List.eq_nil_or_concat l with e | ⟨m, c, e⟩
      · subst e; simp at hl
      · exact ⟨m, c, by simpa using e⟩
    have hm : m.length = k + 1 := by simpa using hl
    have h2 : 1 < (m ++ [c]).length ∧ (m ++ [c]).head? ≠ some 48 := by
      rcases h.2 with h2 | h2
      · omega
      · exact h2
    have hh : m.head? ≠ some 48 := by
      have := h2.2
      rcases m with _ | ⟨a, t⟩
      · simp at hm
      · simpa using this
    have hc := h.1.right c (by simp)
    have hmc : Can m := ⟨h.1.left, by
      by_cases h3 : m.length = 1
      · exact Or.inl h3
      · exact Or.inr ⟨by omega, hh⟩⟩
    have ih := dec_dv (k + 1) m hm hmc
    have h0 : dv m ≠ 0 := by
      intro e
      rw [e] at ih
      have e1 : Lib.decDigits 0 = [48] := dec_small (by omega)
      rw [e1] at ih
      rw [← ih] at hh
      exact hh rfl
    rw [dv_snoc, dec_big (by omega), show (10 * dv m + (c.toNat - 48)) / 10 = dv m by omega, ih, show (10 * dv m + (c.toNat - 48)) % 10 = c.toNat - 48 by omega, digit_of hc]
theorem nDig_le {n k : Nat} (hk : 0 < k) (h : n < 10 ^ k) : Lib.nDigits n ≤ k := by
  induction k generalizing n with
  | zero => omega
  | succ k ih =>
    by_cases hn : n < 10
    · rw [Lib.nDigits_small hn]; omega
    · rw [Lib.nDigits_big hn]
      rcases Nat.eq_zero_or_pos k with h0 | h0
      · subst h0; simp at h; omega
      · have := ih (n := n / 10) h0 (by rw [Nat.pow_succ] at h; omega)
        omega
end Go.Proofs.YtdelgjdplmennaaDoor.P

namespace Go.Proofs.YtdelgjdplmennaaDoor.P
open Go.RowKit Go.Proofs.YtdelgjdplmennaaDoorW.PrintWords
theorem dv_cons (c : UInt8) (l : List UInt8) : dv (c :: l) = (c.toNat - 48) * 10 ^ l.length + dv l := by
  have := dv_append [c] l
  rw [show dv [c] = c.toNat - 48 by rw [show [c] = [] ++ [c] from rfl, dv_snoc, dv_nil]; omega] at this
  exact this
end Go.Proofs.YtdelgjdplmennaaDoor.P

namespace Go.Proofs.YtdelgjdplmennaaDoor.P
open Go.RowKit Go.Proofs.YtdelgjdplmennaaDoorW.PrintWords
def B8 (l : List UInt8) : List Int := l.map fun b => (b.toNat : Int)
theorem rd_B8 (P Q : List UInt8) (c : UInt8) (i : Nat) (h : P.length = i) : rd (B8 (P ++ c :: Q)) (i : Int) = (c.toNat : Int) := by
  subst h
  simp [rd, B8, List.getD_eq_getElem?_getD]
theorem extract_list (s : ByteArray) (a b : Nat) : (s.extract a b).data.toList = (s.data.toList.take b).drop a := by
  simp [List.drop_take]
theorem size_list (s : ByteArray) : s.size = s.data.toList.length := (data_length s).symm
end Go.Proofs.YtdelgjdplmennaaDoor.P

namespace Go.Proofs.YtdelgjdplmennaaDoor.P
open Go.RowKit Go.Proofs.YtdelgjdplmennaaDoorW.PrintWords
theorem toList_data (s : ByteArray) : s.toList = s.data.toList := ByteArray.toList_eq s
theorem bt_mid (s : ByteArray) (P Q : List UInt8) (c : UInt8) (h : s.data.toList = P ++ c :: Q) : bt s (P.length : Int) = (c.toNat : Int) := by
  rw [← rd_bytesOf, show bytesOf s = B8 s.data.toList from rfl, h, rd_B8 _ _ _ _ rfl]
theorem size_mid (s : ByteArray) (P Q : List UInt8) (c : UInt8) (h : s.data.toList = P ++ c :: Q) : s.size = P.length + (Q.length + 1) := by
  rw [size_list, h]; simp
def digB (c : UInt8) : Bool := decide (48 ≤ c.toNat ∧ c.toNat ≤ 57)
theorem all_dig (l : List UInt8) : l.all digB = true ↔ IsD l := by
  simp [List.all_eq_true, digB, IsD]
end Go.Proofs.YtdelgjdplmennaaDoor.P

namespace Go.Proofs.YtdelgjdplmennaaDoor.P
open Go.RowKit Go.Proofs.YtdelgjdplmennaaDoorW.PrintWords
theorem dv_prefix (P Q : List UInt8) : dv P ≤ dv (P ++ Q) := by
  rw [dv_append]
  have : dv P * 1 ≤ dv P * 10 ^ Q.length := Nat.mul_le_mul_left _ (Nat.pow_pos (by decide))
  omega
theorem dv_prefix1 (P Q : List UInt8) (c : UInt8) : 10 * dv P + (c.toNat - 48) ≤ dv (P ++ c :: Q) := by
  have := dv_prefix (P ++ [c]) Q
  rw [dv_snoc] at this
  simpa using this
theorem parse_dig : ∀ (l : List UInt8) (acc : Nat), IsD l → Lib.parseUintM 18446744073709551615 acc l = if l = [] ∨ acc * 10 ^ l.length + dv l < 18446744073709551616 then .ok (acc * 10 ^ l.length + dv l) else .range
  | [], acc, _ => by simp [Lib.parseUintM, dv_nil]
  | c :: l, acc, h => by
    have hc := h c (by simp)
    have ih := parse_dig l (acc * 10 + (c.toNat - 48)) (IsD.right (l := [c]) h)
    have e : (acc * 10 + (c.toNat - 48)) * 10 ^ l.length + dv l = acc * 10 ^ (c :: l).length + dv (c :: l) := by
      rw [dv_cons, List.length_cons, Nat.pow_succ, Nat.add_mul, Nat.mul_assoc, Nat.mul_comm 10 (10 ^ l.length), Nat.add_assoc]
    have hp : 1 ≤ 10 ^ l.length := Nat.pow_pos (by decide)
    have hge : acc * 10 + (c.toNat - 48) ≤ acc * 10 ^ (c :: l).length + dv (c :: l) := by
      rw [← e]
      have : (acc * 10 + (c.toNat - 48)) * 1 ≤ (acc * 10 + (c.toNat - 48)) * 10 ^ l.length := Nat.mul_le_mul_left _ hp
      omega
    unfold Lib.parseUintM
    rw [if_pos hc]
    by_cases h1 : 1844674407370955162 ≤ acc
    · rw [if_pos h1, if_neg]
      rintro (h2 | h2)
      · cases h2
      · omega
    · rw [if_neg h1]
      by_cases h2 : 18446744073709551615 < acc * 10 + (c.toNat - 48)
      · rw [if_pos h2, if_neg]
        rintro (h3 | h3)
        · cases h3
        · omega
      · rw [if_neg h2, ih, e]
        by_cases h3 : acc * 10 ^ (c :: l).length + dv (c :: l) < 18446744073709551616
        · rw [if_pos (Or.inr h3), if_pos (Or.inr h3)]
        · have n1 : ¬ ((c :: l) = [] ∨ acc * 10 ^ (c :: l).length + dv (c :: l) < 18446744073709551616) := fun h4 => h4.elim (fun h5 => by cases h5) h3
          have n2 : ¬ (l = [] ∨ acc * 10 ^ (c :: l).length + dv (c :: l) < 18446744073709551616) := fun h4 => h4.elim (fun h5 => by
            rw [h5] at e h3
            rw [← e] at h3
            simp only [List.length_nil, Nat.pow_zero, dv_nil] at h3
            omega) h3
          rw [if_neg n1, if_neg n2]
end Go.Proofs.YtdelgjdplmennaaDoor.P

namespace Go.Proofs.YtdelgjdplmennaaDoor.P
open Go.RowKit Go.Proofs.YtdelgjdplmennaaDoorW.PrintWords
theorem strOfNums_B8 (l : List UInt8) : strOfNums (B8 l) = ⟨l.toArray⟩ := by
  have e : ((fun n : Int => UInt8.ofNat n.toNat) ∘ fun b : UInt8 => (b.toNat : Int)) = id := funext fun b => by simp
  rw [strOfNums, B8, List.map_map, e, List.map_id]
theorem wf_u8 {x : Int} (h : (Lit.int .u8 x).wf = true) : 0 ≤ x ∧ x ≤ 255 := by
  have h1 : IntKind.u8.min = 0 := by decide
  have h2 : IntKind.u8.max = 255 := by decide
  simpa only [Lit.wf, h1, h2, Bool.and_eq_true, decide_eq_true_eq] using h
end Go.Proofs.YtdelgjdplmennaaDoor.P

namespace Go.Proofs.YtdelgjdplmennaaDoor.P
open Go.RowKit Go.Proofs.YtdelgjdplmennaaDoorW.PrintWords
def Z (n : Int) : ByteArray := ⟨(Lib.itoa n).toArray⟩
theorem Z_list (n : Int) : (Z n).data.toList = Lib.itoa n := by simp [Z]
theorem itoa_n (u : Nat) : Lib.itoa (u : Int) = Lib.decDigits u := by unfold Lib.itoa; rw [if_neg (by omega)]; simp
theorem itoa_m (u : Nat) (h : 1 ≤ u) : Lib.itoa (-(u : Int)) = 45 :: Lib.decDigits u := by unfold Lib.itoa; rw [if_pos (by omega)]; simp
theorem parse_dec (n : Nat) (h : n < 18446744073709551616) : Lib.parseUintB 64 (Lib.decDigits n) = .ok n := by
  have hne : Lib.decDigits n ≠ [] := by have := dec_len_pos n; intro e; rw [e] at this; simp at this
  have h64 : (2 : Nat) ^ 64 - 1 = 18446744073709551615 := by decide
  rw [Lib.parseUintB, if_neg hne, h64, parse_dig _ _ (isD_dec n), dv_dec, Nat.zero_mul, Nat.zero_add, if_pos (Or.inr h)]
theorem dec_first (n : Nat) : ∃ c r, Lib.decDigits n = c :: r ∧ 48 ≤ c.toNat ∧ c.toNat ≤ 57 := by
  rcases e : Lib.decDigits n with _ | ⟨c, r⟩
  · have := dec_len_pos n; rw [e] at this; simp at this
  · exact ⟨c, r, rfl, (isD_dec n) c (by rw [e]; simp)⟩
theorem parse_itoa (n : Int) (h0 : -9223372036854775808 ≤ n) (h1 : n ≤ 9223372036854775807) : Lib.parseIntB 64 (Lib.itoa n) = .ok n := by
  have h63 : (2 : Nat) ^ (64 - 1) = 9223372036854775808 := by decide
  by_cases hn : n < 0
  · obtain ⟨u, rfl⟩ : ∃ u : Nat, n = -(u : Int) := ⟨n.natAbs, by omega⟩
    have h45 : (45 : UInt8).toNat = 45 := rfl
    rw [itoa_m u (by omega), Lib.parseIntB]
    simp only [h45, or_true, if_true, parse_dec u (by omega), h63, not_true, false_and, if_false, true_and]
    rw [if_neg (by omega)]
  · obtain ⟨u, rfl⟩ : ∃ u : Nat, n = (u : Int) := ⟨n.toNat, by omega⟩
    obtain ⟨c, r, e, c1, c2⟩ := dec_first u
    have hp := parse_dec u (by omega)
    rw [itoa_n, e] at *
    rw [Lib.parseIntB]
    have n2 : ¬ c.toNat = 45 := by omega
    have n3 : ¬ c.toNat = 43 := by omega
    simp only [h63, n2, n3, or_self, not_false_iff, true_and, false_and, if_false]
    rw [hp]
    show (if 9223372036854775808 ≤ u then Lib.NumEnd.range else Lib.NumEnd.ok (u : Int)) = _
    rw [if_neg (by omega)]
end Go.Proofs.YtdelgjdplmennaaDoor.P

namespace Go.Proofs.YtdelgjdplmennaaDoor.P
open Go.RowKit Go.Proofs.YtdelgjdplmennaaDoorW.PrintWords
def neg (l : List UInt8) : Bool := l.head? == some 45
def mag (l : List UInt8) : List UInt8 := if neg l then l.tail else l
def str (l : List UInt8) : ByteArray := ⟨l.toArray⟩
theorem str_list (l : List UInt8) : (str l).data.toList = l := by simp [str]
theorem str_self (s : ByteArray) : str s.data.toList = s := rfl
theorem str_size (l : List UInt8) : (str l).size = l.length := by rw [size_list, str_list]
theorem str_toList (l : List UInt8) : (str l).toList = l := by rw [toList_data, str_list]
theorem cut1 (s : ByteArray) : s.extract 1 s.size = str s.data.toList.tail := by
  have h := extract_list s 1 s.size
  rw [size_list, List.take_length, List.drop_one] at h
  apply ByteArray.ext
  apply Array.toList_inj.1
  rw [str_list, ← h, size_list]
theorem bt0 (s : ByteArray) (c : UInt8) (t : List UInt8) (h : s.data.toList = c :: t) : bt s 0 = (c.toNat : Int) := bt_mid s [] t c h
theorem c45 (c : UInt8) : (c.toNat : Int) = 45 ↔ c = 45 := by
  have h : (45 : UInt8).toNat = 45 := rfl
  constructor
  · intro e; exact UInt8.toNat_inj.1 (by omega)
  · intro e; rw [e]; rfl
theorem mag_le (l : List UInt8) : (mag l).length ≤ l.length := by
  unfold mag
  split
  · rw [List.length_tail]; omega
  · exact Nat.le_refl _
end Go.Proofs.YtdelgjdplmennaaDoor.P

namespace Go.Proofs.YtdelgjdplmennaaDoor.P
open Go.RowKit Go.Proofs.YtdelgjdplmennaaDoorW.PrintWords
theorem c48 (c : UInt8) : (c.toNat : Int) = 48 ↔ c = 48 := by
  have h : (48 : UInt8).toNat = 48 := rfl
  constructor
  · intro e; exact UInt8.toNat_inj.1 (by omega)
  · intro e; rw [e]; rfl
def core (m : List UInt8) : List UInt8 := if m.dropWhile (· == 48) = [] then [48] else m.dropWhile (· == 48)
def pz (n : Bool) (m : List UInt8) : ByteArray × Int := if 400 < (core m).length then (str [], 4) else if n = true ∧ core m ≠ [48] then (str (45 :: core m), 0) else (str (core m), 0)
def parsed (l : List UInt8) : ByteArray × Int := if l = [] then (str [], 13) else if mag l = [] then (str [], 15) else if (mag l).all digB = true then pz (neg l) (mag l) else (str [], 15)
theorem minus_str (u : List UInt8) : (⟨#[45]⟩ : ByteArray) ++ str u = str (45 :: u) := by
  apply ByteArray.ext
  apply Array.toList_inj.1
  rw [str_list]
  simp [str]
theorem core_one (c : UInt8) : core [c] = [c] := by
  unfold core
  by_cases h : c = 48
  · subst h; rfl
  · have : [c].dropWhile (· == 48) = [c] := List.dropWhile_cons_of_neg (by simpa using h)
    rw [this, if_neg (by simp)]
theorem core_zero (d : UInt8) (r : List UInt8) : core (48 :: d :: r) = core (d :: r) := by
  unfold core
  rw [List.dropWhile_cons_of_pos (by decide)]
theorem core_else (c : UInt8) (r : List UInt8) (h : c ≠ 48) : core (c :: r) = c :: r := by
  unfold core
  rw [List.dropWhile_cons_of_neg (by simpa using h), if_neg (by simp)]
theorem drop_first : ∀ (m : List UInt8) (c : UInt8) (r : List UInt8), m.dropWhile (· == 48) = c :: r → c ≠ 48
  | [], _, _, h => by simp at h
  | x :: m, c, r, h => by
    by_cases hx : x = 48
    · rw [List.dropWhile_cons_of_pos (by simpa using hx)] at h
      exact drop_first m c r h
    · rw [List.dropWhile_cons_of_neg (by simpa using hx)] at h
      injection h with h1 _
      rw [← h1]; exact hx
theorem drop_le : ∀ (m : List UInt8), (m.dropWhile (· == 48)).length ≤ m.length
  | [] => by simp
  | x :: m => by
    by_cases hx : x = 48
    · rw [List.dropWhile_cons_of_pos (by simpa using hx)]
      have := drop_le m
      rw [List.length_cons]; omega
    · rw [List.dropWhile_cons_of_neg (by simpa using hx)]
      exact Nat.le_refl _
theorem r2parse_j3 (n : Bool) (u : List UInt8) (hs : u.length < 4611686018427387904) : Ev (fun k => schismaref02_Parse.j3 k (str u) n) (if 400 < u.length then (str [], 4) else if n = true ∧ u ≠ [48] then (str (45 :: u), 0) else (str u, 0)) := by
  have hsz : (str u).size = u.length := str_size u
  refine Ev.step (f := fun _ => some (if 400 < u.length then (str [], 4) else if n = true ∧ u ≠ [48] then (str (45 :: u), 0) else (str u, 0))) (fun k => ?_) (Ev.now _)
  rw [schismaref02_Parse.j3, hsz, str_toList, minus_str]
  by_cases h4 : 400 < u.length
  · rw [if_pos h4, if_pos (by omega)]
    rfl
  · rw [if_neg h4, if_neg (by omega)]
    by_cases hn : n = true
    · rw [if_pos hn]
      by_cases hu : u = [48]
      · rw [if_pos hu, if_neg (fun h => h.2 hu)]
      · rw [if_neg hu, if_pos (by omega), if_pos ⟨hn, hu⟩]
    · rw [if_neg hn, if_neg (fun h => hn h.1)]
theorem r2parse_l1 (n : Bool) : ∀ (m : List UInt8), m ≠ [] → m.length < 4611686018427387904 → Ev (fun k => schismaref02_Parse.l1 k (str m) n) (pz n m)
  | [], h, _ => absurd rfl h
  | [c], _, hs => by
    have hsz : (str [c]).size = 1 := str_size [c]
    have key := r2parse_j3 n [c] hs
    unfold pz
    rw [core_one]
    refine Ev.step (fun k => ?_) key
    rw [schismaref02_Parse.l1, if_neg (by omega)]
  | c :: d :: r, _, hs => by
    have hsz : (str (c :: d :: r)).size = r.length + 2 := str_size _
    have e1 : bt (str (c :: d :: r)) 0 = (c.toNat : Int) := bt0 _ c (d :: r) (str_list _)
    by_cases hc : c = 48
    · have ih := r2parse_l1 n (d :: r) (by simp) (by rw [List.length_cons] at hs; omega)
      subst hc
      unfold pz at ih ⊢
      rw [core_zero]
      refine Ev.step (fun k => ?_) ih
      rw [schismaref02_Parse.l1, if_pos (by omega), if_pos (by omega), e1, if_pos (by rfl), if_pos (by omega), cut1, str_list]
      rfl
    · have key := r2parse_j3 n (c :: d :: r) hs
      unfold pz
      rw [core_else c (d :: r) hc]
      refine Ev.step (fun k => ?_) key
      rw [schismaref02_Parse.l1, if_pos (by omega), if_pos (by omega), e1, if_neg (fun h => hc ((c48 c).1 h))]
theorem r2parse_l0 (n : Bool) (m : List UInt8) (h0 : m ≠ []) (hs : m.length < 4611686018427387904) : ∀ (Q P : List UInt8), m = P ++ Q → IsD P →
    Ev (fun k => schismaref02_Parse.l0 k (str m) n (P.length : Int)) (if m.all digB = true then pz n m else (str [], 15))
  | [], P, h, hP => by
    rw [List.append_nil] at h
    have h1 : m.all digB = true := (all_dig m).2 (by rw [h]; exact hP)
    have h2 : m.length = P.length := by rw [h]
    have hsz : (str m).size = m.length := str_size m
    rw [if_pos h1]
    refine Ev.step (fun k => ?_) (r2parse_l1 n m h0 hs)
    rw [schismaref02_Parse.l0, if_neg (by omega)]
  | c :: Q, P, h, hP => by
    have h1 : m.length = P.length + (Q.length + 1) := by rw [h]; simp
    have e1 : bt (str m) (P.length : Int) = (c.toNat : Int) := bt_mid (str m) P Q c (by rw [str_list, h])
    have hsz : (str m).size = m.length := str_size m
    have e3 := wsucc (a := P.length) ⟨by omega⟩
    by_cases hc : 48 ≤ c.toNat ∧ c.toNat ≤ 57
    · refine Ev.step (f := fun k => schismaref02_Parse.l0 k (str m) n ((P.length + 1 : Nat) : Int)) (fun k => ?_) ?_
      · simp only [schismaref02_Parse.l0, e1, e3]
        clear e1 e3
        simp (disch := omega) only [if_pos, if_neg]
      · have := r2parse_l0 n m h0 hs Q (P ++ [c]) (by rw [h]; simp) (hP.append (IsD.cons hc IsD.nil))
        simpa using this
    · have hb : ¬ m.all digB = true := fun h2 => hc ((all_dig m).1 h2 c (by rw [h]; simp))
      rw [if_neg hb]
      refine Ev.step (f := fun _ => some (str [], 15)) (fun k => ?_) (Ev.now _)
      simp only [schismaref02_Parse.l0, e1, e3]
      clear e1 e3 hb
      by_cases h48 : c.toNat < 48
      · simp (disch := omega) only [if_pos]
        rfl
      · simp (disch := omega) only [if_pos, if_neg]
        rfl
theorem r2parse_j0 (n : Bool) (m : List UInt8) (hs : m.length < 4611686018427387904) : Ev (fun k => schismaref02_Parse.j0 k (str m) n) (if m = [] then (str [], 15) else if m.all digB = true then pz n m else (str [], 15)) := by
  by_cases h : m = []
  · rw [if_pos h]
    refine Ev.step (f := fun _ => some (str [], 15)) (fun k => ?_) (Ev.now _)
    rw [schismaref02_Parse.j0, str_toList, if_pos h]
    rfl
  · rw [if_neg h]
    refine Ev.step (fun k => ?_) (r2parse_l0 n m h hs m [] rfl IsD.nil)
    rw [schismaref02_Parse.j0, str_toList, if_neg h]
    rfl
theorem neg_cons (c : UInt8) (t : List UInt8) : neg (c :: t) = ((c.toNat : Int) == 45) := by
  unfold neg
  rw [List.head?_cons, Bool.eq_iff_iff, beq_iff_eq, beq_iff_eq, c45, Option.some_inj]
theorem r2parse_f (s : ByteArray) (hs : s.size < 4611686018427387904) : Ev (fun k => schismaref02_Parse.f k s) (parsed s.data.toList) := by
  have h1 := size_list s
  unfold schismaref02_Parse.f parsed
  rw [toList_data]
  have hm := mag_le s.data.toList
  have key := r2parse_j0 (neg s.data.toList) (mag s.data.toList) (by omega)
  rcases e : s.data.toList with _ | ⟨c, t⟩
  · rw [if_pos rfl]
    exact Ev.pos rfl (Ev.now _)
  · rw [e] at key
    rw [if_neg (by simp)]
    have hsz : s.size = t.length + 1 := by rw [h1, e]; rfl
    refine Ev.neg (by simp) (Ev.pos (by omega) ?_)
    rw [bt0 s c t e]
    by_cases hc : c = 45
    · subst hc
      refine Ev.pos (by rfl) (Ev.pos (by omega) ?_)
      rw [cut1, e]
      exact key
    · refine Ev.neg (fun h => hc ((c45 c).1 h)) ?_
      have hn : neg (c :: t) = false := by rw [neg_cons, beq_eq_false_iff_ne]; exact fun h => hc ((c45 c).1 h)
      have hm2 : mag (c :: t) = c :: t := by unfold mag; rw [hn]; rfl
      rw [← neg_cons c t]
      rw [hm2] at key
      have hs2 : s = str (c :: t) := by rw [← e]; exact (str_self s).symm
      rw [hs2, hm2]
      exact key
end Go.Proofs.YtdelgjdplmennaaDoor.P

namespace Go.Proofs.YtdelgjdplmennaaDoor.P
open Go.RowKit Go.Proofs.YtdelgjdplmennaaDoorW.PrintWords
end Go.Proofs.YtdelgjdplmennaaDoor.P

namespace Go.Proofs.YtdelgjdplmennaaDoor.P
open Go.RowKit Go.Proofs.YtdelgjdplmennaaDoorW.PrintWords
theorem isD_core {m : List UInt8} (h : IsD m) : IsD (core m) := by
  unfold core
  split
  · exact IsD.cons (by decide) IsD.nil
  · exact fun c hc => h c ((List.dropWhile_sublist _).subset hc)
theorem dv_drop : ∀ (m : List UInt8), dv (m.dropWhile (· == 48)) = dv m
  | [] => rfl
  | c :: m => by
    by_cases hc : c = 48
    · subst hc
      rw [List.dropWhile_cons_of_pos (by decide), dv_drop m, dv_cons]
      have : (48 : UInt8).toNat - 48 = 0 := rfl
      rw [this, Nat.zero_mul, Nat.zero_add]
    · rw [List.dropWhile_cons_of_neg (by simpa using hc)]
theorem dv_core (m : List UInt8) : dv (core m) = dv m := by
  unfold core
  split
  · rename_i h
    rw [← dv_drop m, h]; rfl
  · exact dv_drop m
theorem core_dec {m : List UInt8} (h : IsD m) : core m = Lib.decDigits (dv m) := by
  have hc : Can (core m) := by
    refine ⟨isD_core h, ?_⟩
    unfold core
    split
    · exact Or.inl rfl
    · rename_i hne
      rcases e : m.dropWhile (· == 48) with _ | ⟨c, _ | ⟨d, r⟩⟩
      · exact absurd e hne
      · exact Or.inl rfl
      · refine Or.inr ⟨by simp, ?_⟩
        rw [List.head?_cons]
        intro h2
        exact drop_first m c (d :: r) e (by simpa using h2)
  rw [← dec_dv _ _ rfl hc, dv_core]
def sgd (n : Bool) (u : Nat) : Int := if n = true then -(u : Int) else (u : Int)
theorem pz_Z (n : Bool) (m : List UInt8) (h : IsD m) (hl : (core m).length ≤ 400) : pz n m = (Z (sgd n (dv m)), 0) := by
  unfold pz
  rw [if_neg (by omega), core_dec h]
  unfold sgd Z
  by_cases hn : n = true
  · rw [if_pos hn]
    by_cases h0 : dv m = 0
    · rw [h0, if_neg (fun h2 => h2.2 (dec_small (by decide)))]
      rfl
    · have h48 : Lib.decDigits (dv m) ≠ [48] := fun e => h0 (by rw [← dv_dec (dv m), e]; rfl)
      rw [if_pos ⟨hn, h48⟩, itoa_m _ (by omega)]
      rfl
  · rw [if_neg hn, if_neg (fun h2 => hn h2.1), itoa_n]
    rfl
theorem parsed_digits (m : List UInt8) (h : IsD m) (h0 : m ≠ []) : parsed m = pz false m ∧ parsed (45 :: m) = pz true m := by
  have ha := (all_dig m).2 h
  rcases m with _ | ⟨c, t⟩
  · exact absurd rfl h0
  · have hc := h c (by simp)
    have hn : neg (c :: t) = false := by
      rw [neg_cons, beq_eq_false_iff_ne]; omega
    have hm : mag (c :: t) = c :: t := by unfold mag; rw [hn]; rfl
    constructor
    · unfold parsed
      rw [if_neg (by simp), hm, if_neg (by simp), if_pos ha, hn]
    · unfold parsed
      have hm2 : mag (45 :: c :: t) = c :: t := rfl
      have hn2 : neg (45 :: c :: t) = true := rfl
      rw [if_neg (by simp), hm2, if_neg (by simp), if_pos ha, hn2]
theorem core_len (m : List UInt8) (h0 : m ≠ []) : (core m).length ≤ m.length := by
  unfold core
  split
  · have : 0 < m.length := List.length_pos_iff.2 h0
    simp; omega
  · exact drop_le m
theorem make2_j1 (b : Bool) (l : List Int) (acc : List UInt8) (hD : IsD acc) (hl : acc.length ≤ 400) : Ev (fun k => schismalaw02_Make.j1 k (str acc) b l) (Z (sgd b (dv acc))) := by
  have one : (⟨#[48]⟩ : ByteArray) = str [48] := rfl
  have gen : ∀ m : List UInt8, IsD m → m ≠ [] → m.length ≤ 400 → dv m = dv acc → Ev (fun k => (schismaref02_Parse.f k (if b = true then str (45 :: m) else str m)).bind fun bt => (some bt.1)) (Z (sgd b (dv acc))) := fun m h1 h2 h3 h4 => by
    obtain ⟨p1, p2⟩ := parsed_digits m h1 h2
    have hc := core_len m h2
    by_cases hb : b = true
    · rw [if_pos hb]
      have key := r2parse_f (str (45 :: m)) (by rw [str_size, List.length_cons]; omega)
      rw [str_list, p2, pz_Z true m h1 (by omega), h4] at key
      exact Ev.bind key (Ev.eq (Ev.now _) (by rw [hb]))
    · rw [if_neg hb]
      have hb2 : b = false := by simpa using hb
      have key := r2parse_f (str m) (by rw [str_size]; omega)
      rw [str_list, p1, pz_Z false m h1 (by omega), h4] at key
      exact Ev.bind key (Ev.eq (Ev.now _) (by rw [hb2]))
  by_cases h0 : acc = []
  · have g := gen [48] (IsD.cons (by decide) IsD.nil) (by simp) (by decide) (by rw [h0]; rfl)
    refine Ev.step (fun k => ?_) g
    rw [schismalaw02_Make.j1, str_toList, if_pos h0, one, minus_str]
    by_cases hb : b = true
    · rw [if_pos hb, if_pos (by decide), if_pos hb]
    · rw [if_neg hb, if_neg hb]
  · have g := gen acc hD h0 hl rfl
    refine Ev.step (fun k => ?_) g
    have hsz : (str acc).size = acc.length := str_size acc
    rw [schismalaw02_Make.j1, str_toList, if_neg h0, minus_str]
    by_cases hb : b = true
    · rw [if_pos hb, if_pos (by omega), if_pos hb]
    · rw [if_neg hb, if_neg hb]
theorem digit_str {x : Int} (h0 : 0 ≤ x) : ∃ c : UInt8, (48 + Int.tmod x 10) % 256 = (c.toNat : Int) ∧ 48 ≤ c.toNat ∧ c.toNat ≤ 57 := by
  obtain ⟨n, rfl⟩ : ∃ n : Nat, x = n := ⟨x.toNat, by omega⟩
  have h2 : Int.tmod (n : Int) 10 = ((n % 10 : Nat) : Int) := tmodn n 10
  have h3 : n % 10 < 10 := Nat.mod_lt _ (by decide)
  refine ⟨UInt8.ofNat (48 + n % 10), ?_, ?_, ?_⟩
  · rw [h2, digit_toNat h3]; omega
  · rw [digit_toNat h3]; omega
  · rw [digit_toNat h3]; omega
theorem str_snoc (acc : List UInt8) (c : UInt8) : str acc ++ str [c] = str (acc ++ [c]) := by
  apply ByteArray.ext
  apply Array.toList_inj.1
  simp [str]
theorem make2_l0 (b : Bool) (l : List Int) (hl : ∀ x, x ∈ l → 0 ≤ x) (n : Nat) (hn : n ≤ 400) : ∀ (Q P : List Int) (acc : List UInt8), l = P ++ Q → IsD acc → acc.length = P.length → acc.length ≤ n →
    ∃ m : List UInt8, IsD m ∧ m.length ≤ n ∧ Ev (fun k => schismalaw02_Make.l0 k (n : Int) (str acc) (P.length : Int) b l) (Z (sgd b (dv m)))
  | [], P, acc, h, hD, hp, hq => by
    have hll : l.length = P.length := by rw [h]; simp
    refine ⟨acc, hD, hq, Ev.step (fun k => ?_) (make2_j1 b l acc hD (by omega))⟩
    rw [schismalaw02_Make.l0, if_neg (by omega)]
  | x :: Q, P, acc, h, hD, hp, hq => by
    have hll : l.length = P.length + (Q.length + 1) := by rw [h]; simp
    by_cases hend : P.length = n
    · refine ⟨acc, hD, hq, Ev.step (fun k => ?_) (make2_j1 b l acc hD (by omega))⟩
      rw [schismalaw02_Make.l0, if_pos (by omega), if_neg (by omega)]
    · have hx : 0 ≤ x := hl x (by rw [h]; simp)
      obtain ⟨c, e1, e2, e3⟩ := digit_str hx
      obtain ⟨m, m1, m2, m3⟩ := make2_l0 b l hl n hn Q (P ++ [x]) (acc ++ [c]) (by rw [h]; simp) (hD.append (IsD.cons ⟨e2, e3⟩ IsD.nil)) (by simp [hp]) (by rw [List.length_append, List.length_singleton]; omega)
      have e5 : rd l (P.length : Int) = x := by rw [h]; simp [rd, List.getD_eq_getElem?_getD]
      have e6 := wsucc (a := P.length) ⟨by omega⟩
      have e7 : strOfNums [(c.toNat : Int)] = str [c] := strOfNums_B8 [c]
      have hsz : (str acc).size = acc.length := str_size acc
      have hsz1 : (str [c]).size = 1 := str_size [c]
      refine ⟨m, m1, m2, Ev.step (f := fun k => schismalaw02_Make.l0 k (n : Int) (str (acc ++ [c])) ((P.length + 1 : Nat) : Int) b l) (fun k => ?_) (by simpa using m3)⟩
      simp only [schismalaw02_Make.l0, e5, e6, e1, Option.bind_some, e7, str_snoc]
      clear e1 e5 e6 m3
      simp (disch := omega) only [if_pos]
theorem make2_f (b : Bool) (l : List Int) (hl : ∀ x, x ∈ l → (Lit.int .u8 x).wf = true) (n : Nat) (hn : n ≤ 400) :
    ∃ u : Nat, u < 10 ^ n ∧ Ev (fun k => schismalaw02_Make.f k b l (n : Int)) (Z (sgd b u)) := by
  obtain ⟨m, m1, m2, m3⟩ := make2_l0 b l (fun x hx => (wf_u8 (hl x hx)).1) n hn l [] [] rfl IsD.nil rfl (by simp)
  exact ⟨dv m, Nat.lt_of_lt_of_le (dv_lt m1) (Nat.pow_le_pow_right (by decide) m2), m3⟩
end Go.Proofs.YtdelgjdplmennaaDoor.P

namespace Go.Proofs.YtdelgjdplmennaaDoor.P
open Go.RowKit Go.Proofs.YtdelgjdplmennaaDoorW.PrintWords
theorem parse_dec2 (n : Nat) : Lib.parseUintB 64 (Lib.decDigits n) = if n < 18446744073709551616 then .ok n else .range := by
  have hne : Lib.decDigits n ≠ [] := by have := dec_len_pos n; intro e; rw [e] at this; simp at this
  have h64 : (2 : Nat) ^ 64 - 1 = 18446744073709551615 := by decide
  rw [Lib.parseUintB, if_neg hne, h64, parse_dig _ _ (isD_dec n), dv_dec, Nat.zero_mul, Nat.zero_add]
  by_cases h : n < 18446744073709551616
  · rw [if_pos (Or.inr h), if_pos h]
  · rw [if_neg (fun h1 => h1.elim hne h), if_neg h]
def small64 (v : Int) : Int × Bool := if -9223372036854775808 ≤ v ∧ v ≤ 9223372036854775807 then (v, true) else (0, false)
theorem parse_itoa2 (v : Int) : Lib.parseIntB 64 (Lib.itoa v) = if -9223372036854775808 ≤ v ∧ v ≤ 9223372036854775807 then .ok v else .range := by
  have h63 : (2 : Nat) ^ (64 - 1) = 9223372036854775808 := by decide
  by_cases hi : -9223372036854775808 ≤ v ∧ v ≤ 9223372036854775807
  · rw [if_pos hi, parse_itoa v hi.1 hi.2]
  · rw [if_neg hi]
    by_cases hn : v < 0
    · obtain ⟨u, rfl⟩ : ∃ u : Nat, v = -(u : Int) := ⟨v.natAbs, by omega⟩
      have h45 : (45 : UInt8).toNat = 45 := rfl
      rw [itoa_m u (by omega), Lib.parseIntB]
      simp only [h45, or_true, if_true, parse_dec2, h63, not_true, false_and, if_false, true_and]
      by_cases h64 : u < 18446744073709551616
      · rw [if_pos h64]
        show (if 9223372036854775808 < u then Lib.NumEnd.range else Lib.NumEnd.ok (-(u : Int))) = _
        rw [if_pos (by omega)]
      · rw [if_neg h64]
    · obtain ⟨u, rfl⟩ : ∃ u : Nat, v = (u : Int) := ⟨v.toNat, by omega⟩
      obtain ⟨c, r, e, c1, c2⟩ := dec_first u
      have hp := parse_dec2 u
      rw [itoa_n, e] at *
      rw [Lib.parseIntB]
      have n2 : ¬ c.toNat = 45 := by omega
      have n3 : ¬ c.toNat = 43 := by omega
      simp only [h63, n2, n3, or_self, not_false_iff, true_and, false_and, if_false]
      rw [hp]
      by_cases h64 : u < 18446744073709551616
      · rw [if_pos h64]
        show (if 9223372036854775808 ≤ u then Lib.NumEnd.range else Lib.NumEnd.ok (u : Int)) = _
        rw [if_pos (by omega)]
      · rw [if_neg h64]
theorem Z_len (v : Int) : (Z v).size ≤ Lib.nDigits v.natAbs + 1 := by
  rw [size_list, Z_list]
  by_cases h : v < 0
  · obtain ⟨u, rfl⟩ : ∃ u : Nat, v = -(u : Int) := ⟨v.natAbs, by omega⟩
    have e : (-(u : Int)).natAbs = u := by omega
    rw [itoa_m u (by omega), e, List.length_cons, Lib.decDigits_length]
    exact Nat.le_refl _
  · obtain ⟨u, rfl⟩ : ∃ u : Nat, v = (u : Int) := ⟨v.toNat, by omega⟩
    have e : (u : Int).natAbs = u := by omega
    rw [itoa_n, e, Lib.decDigits_length]
    exact Nat.le_succ _
theorem wsmall_any (v : Int) (hd : Lib.nDigits v.natAbs ≤ 400) : whole_Small.f (Z v) = some (small64 v) := by
  have := Z_len v
  unfold whole_Small.f small64
  rw [if_pos (by omega), Z_list, parse_itoa2]
  by_cases hi : -9223372036854775808 ≤ v ∧ v ≤ 9223372036854775807
  · rw [if_pos hi, if_pos hi]
  · rw [if_neg hi, if_neg hi]
theorem sm_d {c : UInt8} (h : 48 ≤ c.toNat ∧ c.toNat ≤ 57) : wrap64 (wrap64 (c.toNat : Int) - 48) = ((c.toNat - 48 : Nat) : Int) := by
  rw [w64 (n := (c.toNat : Int)) (by omega) (by omega), w64 (by omega) (by omega)]; omega
theorem sm_lim (d : Nat) (h : d ≤ 9) : wrap64 (Int.tdiv (wrap64 ((-9223372036854775808) + (d : Int))) 10) = -(((9223372036854775808 - d) / 10 : Nat) : Int) := by
  have e1 : wrap64 ((-9223372036854775808) + (d : Int)) = -((9223372036854775808 - d : Nat) : Int) := by rw [w64 (by omega) (by omega)]; omega
  have e2 : Int.tdiv ((9223372036854775808 - d : Nat) : Int) 10 = (((9223372036854775808 - d) / 10 : Nat) : Int) := tdivn _ 10
  rw [e1, Int.neg_tdiv, e2]
  clear e1 e2
  rw [w64 (by omega) (by omega)]
theorem sm_next (p d : Nat) (hd : d ≤ 9) (h : 10 * p + d ≤ 9223372036854775808) : wrap64 (wrap64 (-(p : Int) * 10) - (d : Int)) = -((10 * p + d : Nat) : Int) := by
  rw [w64 (n := -(p : Int) * 10) (by omega) (by omega), w64 (by omega) (by omega)]; omega
def smres (mf : Bool) (u : Nat) : Int × Bool := if mf = true then (if u ≤ 9223372036854775808 then (-(u : Int), true) else (0, false)) else (if u < 9223372036854775808 then ((u : Int), true) else (0, false))
theorem r2small_l0 (s : ByteArray) (hs : s.size < 4611686018427387904) (H : List UInt8) (mf : Bool) (D : List UInt8) (hsD : s.data.toList = H ++ D) (hD : IsD D) : ∀ (Q P : List UInt8), D = P ++ Q → dv P ≤ 9223372036854775808 →
    Ev (fun k => schismaref02_Small.l0 k s ((H.length + P.length : Nat) : Int) mf (-(dv P : Int))) (smres mf (dv D))
  | [], P, h, hp => by
    rw [List.append_nil] at h
    have h1 := size_list s
    rw [hsD, List.length_append, h] at h1
    rw [h]
    refine Ev.step (f := fun _ => some (smres mf (dv P))) (fun k => ?_) (Ev.now _)
    rw [schismaref02_Small.l0, if_neg (by omega)]
    unfold smres
    by_cases hm : mf = true
    · rw [if_pos hm, if_pos hm, if_pos hp]
    · rw [if_neg hm, if_neg hm]
      by_cases h2 : dv P < 9223372036854775808
      · have e : wrap64 (-(-(dv P : Int))) = (dv P : Int) := by rw [w64 (by omega) (by omega)]; omega
        rw [if_neg (by omega), if_pos h2, e]
      · rw [if_pos (by omega), if_neg h2]
  | c :: Q, P, h, hp => by
    have hl : s.data.toList = (H ++ P) ++ c :: Q := by rw [hsD, h]; simp
    have h1 := size_mid s (H ++ P) Q c hl
    have hHP : (H ++ P).length = H.length + P.length := List.length_append
    have e1 := bt_mid s (H ++ P) Q c hl
    rw [hHP] at e1 h1
    have hc := hD c (by rw [h]; simp)
    have hd : c.toNat - 48 ≤ 9 := by omega
    have s1 : Sm (H.length + P.length) := ⟨by omega⟩
    have hpre := dv_prefix1 P Q c
    rw [← h] at hpre
    by_cases hf : 9223372036854775808 < 10 * dv P + (c.toNat - 48)
    · have hres : smres mf (dv D) = (0, false) := by
        unfold smres
        by_cases hm : mf = true
        · rw [if_pos hm, if_neg (by omega)]
        · rw [if_neg hm, if_neg (by omega)]
      rw [hres]
      have hlt : -(dv P : Int) < -(((9223372036854775808 - (c.toNat - 48)) / 10 : Nat) : Int) := by omega
      have g1 : ¬ ((c.toNat - 48 : Nat) : Int) < 0 := by omega
      have g2 : ¬ ((c.toNat - 48 : Nat) : Int) > 9 := by omega
      have g3 : ((H.length + P.length : Nat) : Int) < (s.size : Int) := by omega
      have g4 : 0 ≤ ((H.length + P.length : Nat) : Int) := by omega
      have e2 := sm_d hc
      have e3 := sm_lim (c.toNat - 48) hd
      refine Ev.step (f := fun _ => some (0, false)) (fun k => ?_) (Ev.now _)
      rw [schismaref02_Small.l0, if_pos g3, if_pos g4, e1, e2, if_neg g1, if_neg g2, e3, if_pos hlt]
    · have ih := r2small_l0 s hs H mf D hsD hD Q (P ++ [c]) (by rw [h]; simp) (by rw [dv_snoc]; omega)
      rw [dv_snoc, List.length_append, List.length_singleton, ← Nat.add_assoc] at ih
      have hlt : ¬ -(dv P : Int) < -(((9223372036854775808 - (c.toNat - 48)) / 10 : Nat) : Int) := by omega
      have g1 : ¬ ((c.toNat - 48 : Nat) : Int) < 0 := by omega
      have g2 : ¬ ((c.toNat - 48 : Nat) : Int) > 9 := by omega
      have g3 : ((H.length + P.length : Nat) : Int) < (s.size : Int) := by omega
      have g4 : 0 ≤ ((H.length + P.length : Nat) : Int) := by omega
      have e2 := sm_d hc
      have e3 := sm_lim (c.toNat - 48) hd
      have e4 := sm_next (dv P) (c.toNat - 48) hd (by clear e2 e3 e1; omega)
      have e5 := wsucc s1
      refine Ev.step (fun k => ?_) ih
      rw [schismaref02_Small.l0, if_pos g3, if_pos g4, e1, e2, if_neg g1, if_neg g2, e3, if_neg hlt, e4, e5]
theorem r2small_f (v : Int) (hd : Lib.nDigits v.natAbs ≤ 400) : Ev (fun k => schismaref02_Small.f k (Z v)) (small64 v) := by
  have hsz := Z_len v
  have h1 := size_list (Z v)
  unfold schismaref02_Small.f
  by_cases hn : v < 0
  · obtain ⟨u, rfl⟩ : ∃ u : Nat, v = -(u : Int) := ⟨v.natAbs, by omega⟩
    have hl : (Z (-(u : Int))).data.toList = 45 :: Lib.decDigits u := by rw [Z_list, itoa_m u (by omega)]
    have hp := dec_len_pos u
    rw [hl, List.length_cons] at h1
    have key := r2small_l0 (Z (-(u : Int))) (by omega) [45] true (Lib.decDigits u) hl (isD_dec u) (Lib.decDigits u) [] rfl (by decide)
    rw [dv_dec] at key
    have hres : smres true u = small64 (-(u : Int)) := by
      unfold smres small64
      rw [if_pos rfl]
      by_cases h : u ≤ 9223372036854775808
      · rw [if_pos h, if_pos (by omega)]
      · rw [if_neg h, if_neg (by omega)]
    rw [hres] at key
    refine Ev.pos (by omega) (Ev.pos (by omega) ?_)
    rw [bt0 _ 45 (Lib.decDigits u) hl]
    have hb : (((45 : UInt8).toNat : Int) == 45) = true := rfl
    rw [hb]
    have jstep : ∀ k, schismaref02_Small.j1 (k + 1) (Z (-(u : Int))) 1 = schismaref02_Small.l0 k (Z (-(u : Int))) ((([45] : List UInt8).length + ([] : List UInt8).length : Nat) : Int) true (-(dv [] : Int)) := fun k => by
      rw [schismaref02_Small.j1, if_neg (by omega)]
      rfl
    have key2 := Ev.step (g := fun k => schismaref02_Small.j1 k (Z (-(u : Int))) 1) jstep key
    exact Ev.step (fun k => by rw [schismaref02_Small.j0, if_pos rfl]) key2
  · obtain ⟨u, rfl⟩ : ∃ u : Nat, v = (u : Int) := ⟨v.toNat, by omega⟩
    have hl : (Z (u : Int)).data.toList = Lib.decDigits u := by rw [Z_list, itoa_n]
    obtain ⟨c, r, e, c1, c2⟩ := dec_first u
    have hp := dec_len_pos u
    rw [hl] at h1
    have key := r2small_l0 (Z (u : Int)) (by omega) [] false (Lib.decDigits u) (by rw [hl]; rfl) (isD_dec u) (Lib.decDigits u) [] rfl (by decide)
    rw [dv_dec] at key
    have hres : smres false u = small64 (u : Int) := by
      unfold smres small64
      rw [if_neg (by decide)]
      by_cases h : u < 9223372036854775808
      · rw [if_pos h, if_pos (by omega)]
      · rw [if_neg h, if_neg (by omega)]
    rw [hres] at key
    refine Ev.pos (by omega) (Ev.pos (by omega) ?_)
    rw [bt0 _ c r (by rw [hl, e])]
    have hb : ((c.toNat : Int) == 45) = false := by rw [beq_eq_false_iff_ne]; omega
    rw [hb]
    have jstep : ∀ k, schismaref02_Small.j1 (k + 1) (Z (u : Int)) 0 = schismaref02_Small.l0 k (Z (u : Int)) ((([] : List UInt8).length + ([] : List UInt8).length : Nat) : Int) false (-(dv [] : Int)) := fun k => by
      rw [schismaref02_Small.j1, if_neg (by omega)]
      rfl
    have key2 := Ev.step (g := fun k => schismaref02_Small.j1 k (Z (u : Int)) 0) jstep key
    exact Ev.step (fun k => by rw [schismaref02_Small.j0, if_neg (by decide)]) key2
end Go.Proofs.YtdelgjdplmennaaDoor.P

namespace Go.Proofs.YtdelgjdplmennaaDoor.Pure
open Go.RowKit Go.Proofs.YtdelgjdplmennaaDoor.P Go.Proofs.YtdelgjdplmennaaDoorW.PrintWords Go.Proofs.YtdelgjdplmennaaDoorW.PrintLast
set_option maxRecDepth 100000 in
theorem sknown_ev : Ev (fun k => schismalaw02_known.f k) true := Ev.of (k := 200) (fun k => schismalaw02_known.mono k) (by decide +kernel)
theorem WholeSmall : schismalaw02_WholeSmall.Pure := by
  intro b l _ hl _
  obtain ⟨u, u1, u2⟩ := make2_f b l hl 25 (by decide)
  have hd : Lib.nDigits (sgd b u).natAbs ≤ 400 := by
    have e : (sgd b u).natAbs = u := by
      unfold sgd
      by_cases hb : b = true
      · rw [if_pos hb]; omega
      · rw [if_neg hb]; omega
    rw [e]
    exact Nat.le_trans (nDig_le (by decide) u1) (by decide)
  refine Ev.rounds (Ev.bind sknown_ev (Ev.pos rfl (Ev.bind u2 ?_)))
  simp only [wsmall_any _ hd, Option.bind_some]
  exact Ev.bind (r2small_f _ hd) (Ev.pos rfl (Ev.eq (Ev.now _) (by simp)))
end Go.Proofs.YtdelgjdplmennaaDoor.Pure
