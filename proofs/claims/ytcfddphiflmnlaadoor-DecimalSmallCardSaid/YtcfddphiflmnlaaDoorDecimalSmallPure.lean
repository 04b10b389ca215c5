/- The printed functions as operations on numbers, and the law's answer: true at every input. Conditions: those of each theorem; the law's own has the row's bounds alone. -/
import Derived.Lib.ItoaNum
import Derived.Test.YtcfddphiflmnlaaDoorDecimalSmallF5
import Derived.Test.YtcfddphiflmnlaaDoorDecimalSmallWPlus

namespace Go.Proofs.YtcfddphiflmnlaaDoor.P
open Go.RowKit Go.Proofs.YtcfddphiflmnlaaDoorW.PrintWords
def Ok (l : List Nat) : Prop := ∀ a, a ∈ l → a < 1000000000
theorem Ok.nil : Ok [] := fun _ h => by cases h
theorem Ok.cons {a : Nat} {l : List Nat} (ha : a < 1000000000) (hl : Ok l) : Ok (a :: l) := fun x hx => by
  rcases List.mem_cons.1 hx with rfl | hx
  · exact ha
  · exact hl x hx
theorem Ok.head {a : Nat} {l : List Nat} (h : Ok (a :: l)) : a < 1000000000 := h a List.mem_cons_self
theorem Ok.append {l m : List Nat} (hl : Ok l) (hm : Ok m) : Ok (l ++ m) := fun x hx => by
  rcases List.mem_append.1 hx with hx | hx
  · exact hl x hx
  · exact hm x hx
theorem Ok.left {l m : List Nat} (h : Ok (l ++ m)) : Ok l := fun x hx => h x (List.mem_append_left _ hx)
theorem Ok.right {l m : List Nat} (h : Ok (l ++ m)) : Ok m := fun x hx => h x (List.mem_append_right _ hx)
theorem w64 {n : Int} (h0 : -9223372036854775808 ≤ n) (h1 : n ≤ 9223372036854775807) : wrap64 n = n := by unfold wrap64; omega
theorem u64w {n : Int} (h0 : 0 ≤ n) (h1 : n ≤ 18446744073709551615) : IntKind.u64.wrap n = n := by rw [IntKind.wrap_u64]; omega
theorem u64n (n : Nat) (h : n < 18446744073709551616) : IntKind.u64.wrap (n : Int) = n := u64w (by omega) (by omega)
theorem tmodn (a b : Nat) : Int.tmod (a : Int) (b : Int) = ((a % b : Nat) : Int) := (Int.ofNat_tmod a b).symm
structure Sm (n : Nat) : Prop where
  out : n < 4611686018427387904
theorem wsucc {a : Nat} (h : Sm a) : wrap64 ((a : Int) + 1) = ((a + 1 : Nat) : Int) := by have := h.out; rw [w64] <;> omega
theorem uadd {a b : Nat} (h : a + b < 18446744073709551616) : IntKind.u64.wrap ((a : Int) + (b : Int)) = ((a + b : Nat) : Int) := by rw [← Int.natCast_add]; exact u64n _ h
end Go.Proofs.YtcfddphiflmnlaaDoor.P

namespace Go.Proofs.YtcfddphiflmnlaaDoor.P
open Go.RowKit Go.Proofs.YtcfddphiflmnlaaDoorW.PrintWords
def cmp (a b : Nat) : Int := if a < b then -1 else if b < a then 1 else 0
end Go.Proofs.YtcfddphiflmnlaaDoor.P

namespace Go.Proofs.YtcfddphiflmnlaaDoor.P
open Go.RowKit Go.Proofs.YtcfddphiflmnlaaDoorW.PrintWords
theorem snoc_ind {α : Type} {p : List α → Prop} (nil : p []) (snoc : ∀ (l : List α) (a : α), p l → p (l ++ [a])) (l : List α) : p l := by
  have h : ∀ (n : Nat) (l : List α), l.length = n → p l := by
    intro n
    induction n with
    | zero => intro l hl; rw [List.length_eq_zero_iff.1 hl]; exact nil
    | succ n ih =>
      intro l hl
      rcases List.eq_nil_or_concat l with e | ⟨m, a, e⟩
      · rw [e] at hl; simp at hl
      · have e' : l = m ++ [a] := by simpa using e
        subst e'
        exact snoc m a (ih m (by simpa using hl))
  exact h _ l rfl
def dv (l : List UInt8) : Nat := l.foldl (fun n c => 10 * n + (c.toNat - 48)) 0
def IsD (l : List UInt8) : Prop := ∀ c, c ∈ l → 48 ≤ c.toNat ∧ c.toNat ≤ 57
def Can (l : List UInt8) : Prop := IsD l ∧ (l.length = 1 ∨ (1 < l.length ∧ l.head? ≠ some 48))
theorem dv_nil : dv [] = 0 := rfl
theorem dv_snoc (l : List UInt8) (c : UInt8) : dv (l ++ [c]) = 10 * dv l + (c.toNat - 48) := by simp [dv, List.foldl_append]
theorem dv_append (l m : List UInt8) : dv (l ++ m) = dv l * 10 ^ m.length + dv m := by
  induction m using snoc_ind with
  | nil => simp [dv_nil]
  | snoc m c ih =>
    rw [← List.append_assoc, dv_snoc, ih, dv_snoc, List.length_append, List.length_singleton, Nat.pow_succ, Nat.mul_add, ← Nat.mul_assoc (dv l), Nat.mul_comm _ 10]
    omega
theorem IsD.nil : IsD [] := fun _ h => by cases h
theorem IsD.cons {c : UInt8} {l : List UInt8} (h1 : 48 ≤ c.toNat ∧ c.toNat ≤ 57) (h2 : IsD l) : IsD (c :: l) := fun x hx => by
  rcases List.mem_cons.1 hx with rfl | hx
  · exact h1
  · exact h2 x hx
theorem IsD.left {l m : List UInt8} (h : IsD (l ++ m)) : IsD l := fun x hx => h x (List.mem_append_left _ hx)
theorem IsD.right {l m : List UInt8} (h : IsD (l ++ m)) : IsD m := fun x hx => h x (List.mem_append_right _ hx)
theorem IsD.append {l m : List UInt8} (hl : IsD l) (hm : IsD m) : IsD (l ++ m) := fun x hx => by
  rcases List.mem_append.1 hx with hx | hx
  · exact hl x hx
  · exact hm x hx
theorem dv_lt {l : List UInt8} (h : IsD l) : dv l < 10 ^ l.length := by
  induction l using snoc_ind with
  | nil => simp [dv_nil]
  | snoc m c ih =>
    have h1 := ih h.left
    have h2 := h.right c (by simp)
    rw [dv_snoc, List.length_append, List.length_singleton, Nat.pow_succ]
    omega
theorem digit_toNat {d : Nat} (h : d < 10) : (UInt8.ofNat (48 + d)).toNat = 48 + d := by
  rw [UInt8.toNat_ofNat']
  omega
theorem digit_of {c : UInt8} (h : 48 ≤ c.toNat ∧ c.toNat ≤ 57) : UInt8.ofNat (48 + (c.toNat - 48)) = c := by
  rw [show 48 + (c.toNat - 48) = c.toNat by omega]
  exact UInt8.ofNat_toNat
theorem dec_small {n : Nat} (h : n < 10) : Lib.decDigits n = [UInt8.ofNat (48 + n)] := by rw [Lib.decDigits, dif_pos h]
theorem dec_big {n : Nat} (h : 10 ≤ n) : Lib.decDigits n = Lib.decDigits (n / 10) ++ [UInt8.ofNat (48 + n % 10)] := by rw [Lib.decDigits, dif_neg (by omega)]
theorem isD_dec (n : Nat) : IsD (Lib.decDigits n) := by
  induction n using Nat.strongRecOn with
  | _ n ih =>
    by_cases h : n < 10
    · rw [dec_small h]
      refine IsD.cons ?_ IsD.nil
      rw [digit_toNat h]; omega
    · rw [dec_big (by omega)]
      refine (ih _ (by omega)).append (IsD.cons ?_ IsD.nil)
      rw [digit_toNat (by omega)]; omega
theorem dv_dec (n : Nat) : dv (Lib.decDigits n) = n := by
  induction n using Nat.strongRecOn with
  | _ n ih =>
    by_cases h : n < 10
    · rw [dec_small h, show [UInt8.ofNat (48 + n)] = [] ++ [UInt8.ofNat (48 + n)] from rfl, dv_snoc, digit_toNat h, dv_nil]; omega
    · rw [dec_big (by omega), dv_snoc, ih _ (by omega), digit_toNat (by omega)]; omega
theorem dec_len_pos (n : Nat) : 0 < (Lib.decDigits n).length := by rw [Lib.decDigits_length]; exact Lib.nDigits_pos n
theorem dec_dv : ∀ (k : Nat) (l : List UInt8), l.length = k → Can l → Lib.decDigits (dv l) = l
  | 0, l, hl, h => by rcases h.2 with h | h <;> omega
  | 1, l, hl, h => by
    rcases l with _ | ⟨c, _ | ⟨d, t⟩⟩
    · simp at hl
    · have hc := h.1 c (by simp)
      have : dv [c] = c.toNat - 48 := by rw [show [c] = [] ++ [c] from rfl, dv_snoc, dv_nil]; omega
      rw [this, dec_small (by omega), digit_of hc]
    · simp at hl
  | k + 2, l, hl, h => by
    obtain ⟨m, c, rfl⟩ : ∃ m c, l = m ++ [c] := by
      rcases List.eq_nil_or_concat l with e | ⟨m, c, e⟩
      · subst e; simp at hl
      · exact ⟨m, c, by simpa using e⟩
    have hm : m.length = k + 1 := by simpa using hl
    have h2 : 1 < (m ++ [c]).length ∧ (m ++ [c]).head? ≠ some 48 := by
      rcases h.2 with h2 | h2
      · omega
      · exact h2
    have hh : m.head? ≠ some 48 := by
      have := h2.2
      rcases m with _ | ⟨a, t⟩
      · simp at hm
      · simpa using this
    have hc := h.1.right c (by simp)
    have hmc : Can m := ⟨h.1.left, by
      by_cases h3 : m.length = 1
      · exact Or.inl h3
      · exact Or.inr ⟨by omega, hh⟩⟩
    have ih := dec_dv (k + 1) m hm hmc
    have h0 : dv m ≠ 0 := by
      intro e
      rw [e] at ih
      have e1 : Lib.decDigits 0 = [48] := dec_small (by omega)
      rw [e1] at ih
      rw [← ih] at hh
      exact hh rfl
    rw [dv_snoc, dec_big (by omega), show (10 * dv m + (c.toNat - 48)) / 10 = dv m by omega, ih, show (10 * dv m + (c.toNat - 48)) % 10 = c.toNat - 48 by omega, digit_of hc]
theorem dec_inj {a b : Nat} (h : Lib.decDigits a = Lib.decDigits b) : a = b := by rw [← dv_dec a, h, dv_dec]
def S (n : Nat) : ByteArray := ⟨(Lib.decDigits n).toArray⟩
theorem S_list (n : Nat) : (S n).data.toList = Lib.decDigits n := by simp [S]
theorem S_size (n : Nat) : (S n).size = Lib.nDigits n := by simp [S, ByteArray.size, Lib.decDigits_length]
theorem S_of {s : ByteArray} (h : Can s.data.toList) : s = S (dv s.data.toList) := by
  rw [S, dec_dv _ _ rfl h]
theorem nDig_mono {a b : Nat} (h : a ≤ b) : Lib.nDigits a ≤ Lib.nDigits b := by
  induction b using Nat.strongRecOn generalizing a with
  | _ b ih =>
    by_cases hb : b < 10
    · rw [Lib.nDigits_small hb, Lib.nDigits_small (by omega)]; omega
    · rw [Lib.nDigits_big hb]
      by_cases ha : a < 10
      · rw [Lib.nDigits_small ha]; omega
      · rw [Lib.nDigits_big ha]
        have := ih (b / 10) (by omega) (a := a / 10) (by omega)
        omega
theorem nDig_le {n k : Nat} (hk : 0 < k) (h : n < 10 ^ k) : Lib.nDigits n ≤ k := by
  induction k generalizing n with
  | zero => omega
  | succ k ih =>
    by_cases hn : n < 10
    · rw [Lib.nDigits_small hn]; omega
    · rw [Lib.nDigits_big hn]
      rcases Nat.eq_zero_or_pos k with h0 | h0
      · subst h0; simp at h; omega
      · have := ih (n := n / 10) h0 (by rw [Nat.pow_succ] at h; omega)
        omega
end Go.Proofs.YtcfddphiflmnlaaDoor.P

namespace Go.Proofs.YtcfddphiflmnlaaDoor.P
open Go.RowKit Go.Proofs.YtcfddphiflmnlaaDoorW.PrintWords
theorem dv_cons (c : UInt8) (l : List UInt8) : dv (c :: l) = (c.toNat - 48) * 10 ^ l.length + dv l := by
  have := dv_append [c] l
  rw [show dv [c] = c.toNat - 48 by rw [show [c] = [] ++ [c] from rfl, dv_snoc, dv_nil]; omega] at this
  exact this
theorem lex_dv : ∀ (l m : List UInt8), l.length = m.length → IsD l → IsD m → (l < m ↔ dv l < dv m)
  | [], [], _, _, _ => by simp [dv_nil]
  | [], _ :: _, h, _, _ => by simp at h
  | _ :: _, [], h, _, _ => by simp at h
  | a :: l, b :: m, h, hl, hm => by
    have ha := hl a (by simp)
    have hb := hm b (by simp)
    have hl' : IsD l := IsD.right (l := [a]) hl
    have hm' : IsD m := IsD.right (l := [b]) hm
    have h' : l.length = m.length := by simpa using h
    have ih := lex_dv l m h' hl' hm'
    have k1 := dv_lt hl'
    have k2 := dv_lt hm'
    rw [dv_cons, dv_cons, List.cons_lt_cons_iff]
    rw [h'] at k1 ⊢
    constructor
    · rintro (h1 | ⟨rfl, h1⟩)
      · have h2 : a.toNat < b.toNat := h1
        have h3 : (a.toNat - 48 + 1) * 10 ^ m.length ≤ (b.toNat - 48) * 10 ^ m.length := Nat.mul_le_mul_right _ (by omega)
        rw [Nat.succ_mul] at h3
        omega
      · have := ih.1 h1
        omega
    · intro h1
      rcases Nat.lt_trichotomy a.toNat b.toNat with h2 | h2 | h2
      · exact Or.inl h2
      · have e : a = b := UInt8.toNat_inj.1 h2
        subst e
        exact Or.inr ⟨rfl, ih.2 (by omega)⟩
      · have h3 : (b.toNat - 48 + 1) * 10 ^ m.length ≤ (a.toNat - 48) * 10 ^ m.length := Nat.mul_le_mul_right _ (by omega)
        rw [Nat.succ_mul] at h3
        omega
theorem dec_lt_of_len {a b : Nat} (h : Lib.nDigits a < Lib.nDigits b) : a < b := by
  rcases Nat.lt_or_ge a b with h1 | h1
  · exact h1
  · have := nDig_mono h1
    omega
theorem dec_lex {a b : Nat} (h : Lib.nDigits a = Lib.nDigits b) : Lib.decDigits a < Lib.decDigits b ↔ a < b := by
  have := lex_dv (Lib.decDigits a) (Lib.decDigits b) (by rw [Lib.decDigits_length, Lib.decDigits_length, h]) (isD_dec a) (isD_dec b)
  rwa [dv_dec, dv_dec] at this
end Go.Proofs.YtcfddphiflmnlaaDoor.P

namespace Go.Proofs.YtcfddphiflmnlaaDoor.P
open Go.RowKit Go.Proofs.YtcfddphiflmnlaaDoorW.PrintWords
def B8 (l : List UInt8) : List Int := l.map fun b => (b.toNat : Int)
theorem B8_length (l : List UInt8) : (B8 l).length = l.length := by simp [B8]
theorem B8_append (l m : List UInt8) : B8 (l ++ m) = B8 l ++ B8 m := by simp [B8]
theorem rd_B8 (P Q : List UInt8) (c : UInt8) (i : Nat) (h : P.length = i) : rd (B8 (P ++ c :: Q)) (i : Int) = (c.toNat : Int) := by
  subst h
  simp [rd, B8, List.getD_eq_getElem?_getD]
theorem size_list (s : ByteArray) : s.size = s.data.toList.length := (data_length s).symm
theorem dstep {n : Nat} {c : UInt8} (hc : 48 ≤ c.toNat ∧ c.toNat ≤ 57) (hn : 10 * n + (c.toNat - 48) < 18446744073709551616) : IntKind.u64.wrap (IntKind.u64.wrap (10 * (n : Int)) + ((c.toNat : Int) - 48) % 256) = ((10 * n + (c.toNat - 48) : Nat) : Int) := by
  have h1 : ((c.toNat : Int) - 48) % 256 = ((c.toNat - 48 : Nat) : Int) := by omega
  rw [h1, show (10 : Int) * n = ((10 * n : Nat) : Int) by omega, u64n _ (by omega), uadd hn]
theorem dstep' {n : Nat} {c : UInt8} (hc : 48 ≤ c.toNat ∧ c.toNat ≤ 57) (hn : 10 * n + (c.toNat - 48) < 18446744073709551616) : IntKind.u64.wrap (IntKind.u64.wrap ((n : Int) * 10) + ((c.toNat : Int) - 48) % 256) = ((10 * n + (c.toNat - 48) : Nat) : Int) := by
  rw [Int.mul_comm]; exact dstep hc hn
end Go.Proofs.YtcfddphiflmnlaaDoor.P

namespace Go.Proofs.YtcfddphiflmnlaaDoor.P
open Go.RowKit Go.Proofs.YtcfddphiflmnlaaDoorW.PrintWords
theorem toList_data (s : ByteArray) : s.toList = s.data.toList := ByteArray.toList_eq s
theorem bt_mid (s : ByteArray) (P Q : List UInt8) (c : UInt8) (h : s.data.toList = P ++ c :: Q) : bt s (P.length : Int) = (c.toNat : Int) := by
  rw [← rd_bytesOf, show bytesOf s = B8 s.data.toList from rfl, h, rd_B8 _ _ _ _ rfl]
theorem size_mid (s : ByteArray) (P Q : List UInt8) (c : UInt8) (h : s.data.toList = P ++ c :: Q) : s.size = P.length + (Q.length + 1) := by
  rw [size_list, h]; simp
def digB (c : UInt8) : Bool := decide (48 ≤ c.toNat ∧ c.toNat ≤ 57)
def canb (l : List UInt8) : Bool := l.all digB && (decide (l.length = 1) || (decide (1 < l.length) && (l.head? != some 48)))
theorem all_dig (l : List UInt8) : l.all digB = true ↔ IsD l := by
  simp [List.all_eq_true, digB, IsD]
theorem canb_iff (l : List UInt8) : canb l = true ↔ Can l := by
  unfold canb Can
  rw [Bool.and_eq_true, all_dig]
  simp
end Go.Proofs.YtcfddphiflmnlaaDoor.P

namespace Go.Proofs.YtcfddphiflmnlaaDoor.P
open Go.RowKit Go.Proofs.YtcfddphiflmnlaaDoorW.PrintWords
theorem dv_prefix (P Q : List UInt8) : dv P ≤ dv (P ++ Q) := by
  rw [dv_append]
  have : dv P * 1 ≤ dv P * 10 ^ Q.length := Nat.mul_le_mul_left _ (Nat.pow_pos (by decide))
  omega
theorem dv_prefix1 (P Q : List UInt8) (c : UInt8) : 10 * dv P + (c.toNat - 48) ≤ dv (P ++ c :: Q) := by
  have := dv_prefix (P ++ [c]) Q
  rw [dv_snoc] at this
  simpa using this
theorem S_dv (n : Nat) : dv (S n).data.toList = n := by rw [S_list, dv_dec]
theorem S_dig (n : Nat) : IsD (S n).data.toList := by rw [S_list]; exact isD_dec n
theorem nDig_lt {n : Nat} {k : Nat} (h : Lib.nDigits n ≤ k) : n < 10 ^ k := Nat.lt_of_lt_of_le (Lib.lt_pow_nDigits n) (Nat.pow_le_pow_right (by decide) h)
theorem bless : ∀ (l m : List UInt8), Op.bytesLess l m = true ↔ l < m
  | [], [] => by simp [Op.bytesLess]
  | [], _ :: _ => by simp [Op.bytesLess]
  | _ :: _, [] => by simp [Op.bytesLess]
  | a :: l, b :: m => by
    rw [List.cons_lt_cons_iff]
    simp [Op.bytesLess, bless l m]
theorem bless_S {a b : Nat} (h : Lib.nDigits a = Lib.nDigits b) : Op.bytesLess (S a).toList (S b).toList = true ↔ a < b := by
  rw [bless, toList_data, toList_data, S_list, S_list, dec_lex h]
theorem S_eq_iff {a b : Nat} : (S a).toList = (S b).toList ↔ a = b := by
  rw [toList_data, toList_data, S_list, S_list]
  exact ⟨dec_inj, fun h => by rw [h]⟩
theorem max_str : (⟨#[49, 56, 52, 52, 54, 55, 52, 52, 48, 55, 51, 55, 48, 57, 53, 53, 49, 54, 49, 53]⟩ : ByteArray) = S 18446744073709551615 :=
  S_of ((canb_iff _).1 (by decide))
theorem parse_dig : ∀ (l : List UInt8) (acc : Nat), IsD l → Lib.parseUintM 18446744073709551615 acc l = if l = [] ∨ acc * 10 ^ l.length + dv l < 18446744073709551616 then .ok (acc * 10 ^ l.length + dv l) else .range
  | [], acc, _ => by simp [Lib.parseUintM, dv_nil]
  | c :: l, acc, h => by
    have hc := h c (by simp)
    have ih := parse_dig l (acc * 10 + (c.toNat - 48)) (IsD.right (l := [c]) h)
    have e : (acc * 10 + (c.toNat - 48)) * 10 ^ l.length + dv l = acc * 10 ^ (c :: l).length + dv (c :: l) := by
      rw [dv_cons, List.length_cons, Nat.pow_succ, Nat.add_mul, Nat.mul_assoc, Nat.mul_comm 10 (10 ^ l.length), Nat.add_assoc]
    have hp : 1 ≤ 10 ^ l.length := Nat.pow_pos (by decide)
    have hge : acc * 10 + (c.toNat - 48) ≤ acc * 10 ^ (c :: l).length + dv (c :: l) := by
      rw [← e]
      have : (acc * 10 + (c.toNat - 48)) * 1 ≤ (acc * 10 + (c.toNat - 48)) * 10 ^ l.length := Nat.mul_le_mul_left _ hp
      omega
    unfold Lib.parseUintM
    rw [if_pos hc]
    by_cases h1 : 1844674407370955162 ≤ acc
    · rw [if_pos h1, if_neg]
      rintro (h2 | h2)
      · cases h2
      · omega
    · rw [if_neg h1]
      by_cases h2 : 18446744073709551615 < acc * 10 + (c.toNat - 48)
      · rw [if_pos h2, if_neg]
        rintro (h3 | h3)
        · cases h3
        · omega
      · rw [if_neg h2, ih, e]
        by_cases h3 : acc * 10 ^ (c :: l).length + dv (c :: l) < 18446744073709551616
        · rw [if_pos (Or.inr h3), if_pos (Or.inr h3)]
        · have n1 : ¬ ((c :: l) = [] ∨ acc * 10 ^ (c :: l).length + dv (c :: l) < 18446744073709551616) := fun h4 => h4.elim (fun h5 => by cases h5) h3
          have n2 : ¬ (l = [] ∨ acc * 10 ^ (c :: l).length + dv (c :: l) < 18446744073709551616) := fun h4 => h4.elim (fun h5 => by
            rw [h5] at e h3
            rw [← e] at h3
            simp only [List.length_nil, Nat.pow_zero, dv_nil] at h3
            omega) h3
          rw [if_neg n1, if_neg n2]
theorem small_S (n : Nat) (hn : Lib.nDigits n ≤ 281474976710656) : decimal_Small.f (S n) = some (if n < 18446744073709551616 then ((n : Int), true) else (0, false)) := by
  unfold decimal_Small.f
  have hne : Lib.decDigits n ≠ [] := by have := dec_len_pos n; intro e; rw [e] at this; simp at this
  have h64 : (2 : Nat) ^ 64 - 1 = 18446744073709551615 := by decide
  rw [S_size, if_pos hn, S_list, Lib.parseUintB, if_neg hne, h64, parse_dig _ _ (isD_dec n), dv_dec, Nat.zero_mul, Nat.zero_add]
  by_cases h : n < 18446744073709551616
  · rw [if_pos (Or.inr h), if_pos h]
  · rw [if_neg (fun h1 => h1.elim hne h), if_neg h]
theorem of_f (n : Nat) (h : n < 18446744073709551616) : decimal_Of.f (n : Int) = some (S n) := by
  unfold decimal_Of.f
  rw [if_pos (by omega), Int.toNat_natCast]
  rfl
end Go.Proofs.YtcfddphiflmnlaaDoor.P

namespace Go.Proofs.YtcfddphiflmnlaaDoor.P
open Go.RowKit Go.Proofs.YtcfddphiflmnlaaDoorW.PrintWords
theorem strOfNums_B8 (l : List UInt8) : strOfNums (B8 l) = ⟨l.toArray⟩ := by
  have e : ((fun n : Int => UInt8.ofNat n.toNat) ∘ fun b : UInt8 => (b.toNat : Int)) = id := funext fun b => by simp
  rw [strOfNums, B8, List.map_map, e, List.map_id]
theorem zero_str : (⟨#[48]⟩ : ByteArray) = S 0 := S_of ((canb_iff _).1 (by decide))
theorem wf_u8 {x : Int} (h : (Lit.int .u8 x).wf = true) : 0 ≤ x ∧ x ≤ 255 := by
  have h1 : IntKind.u8.min = 0 := by decide
  have h2 : IntKind.u8.max = 255 := by decide
  simpa only [Lit.wf, h1, h2, Bool.and_eq_true, decide_eq_true_eq] using h
theorem wf_u64 {x : Int} (h : (Lit.int .u64 x).wf = true) : 0 ≤ x ∧ x ≤ 18446744073709551615 := by
  have h1 : IntKind.u64.min = 0 := by decide
  have h2 : IntKind.u64.max = 18446744073709551615 := by decide
  simpa only [Lit.wf, h1, h2, Bool.and_eq_true, decide_eq_true_eq] using h
end Go.Proofs.YtcfddphiflmnlaaDoor.P

namespace Go.Proofs.YtcfddphiflmnlaaDoor.P
open Go.RowKit Go.Proofs.YtcfddphiflmnlaaDoorW.PrintWords
set_option maxRecDepth 100000 in
theorem known_ev : Ev (fun k => schismalaw01_known.f k) true := Ev.of (k := 200) (fun k => schismalaw01_known.mono k) (by decide +kernel)
end Go.Proofs.YtcfddphiflmnlaaDoor.P

namespace Go.Proofs.YtcfddphiflmnlaaDoor.P
open Go.RowKit Go.Proofs.YtcfddphiflmnlaaDoorW.PrintWords
theorem quick_l0 (s : ByteArray) (hs : s.size < 4611686018427387904) (hD : IsD s.data.toList) (hv : dv s.data.toList < 18446744073709551616) : ∀ (Q P : List UInt8), s.data.toList = P ++ Q →
    Ev (fun k => schismaref01_quick.l0 k s (dv P : Int) (P.length : Int)) ((dv s.data.toList : Int), true)
  | [], P, h => by
    rw [List.append_nil] at h
    have h1 := size_list s
    rw [h] at h1 ⊢
    refine Ev.step (f := fun _ => some ((dv P : Int), true)) (fun k => ?_) (Ev.now _)
    simp (disch := omega) only [schismaref01_quick.l0, if_neg]
  | c :: Q, P, h => by
    have h1 := size_mid s P Q c h
    have e1 := bt_mid s P Q c h
    have e3 := wsucc (a := P.length) ⟨by omega⟩
    have hb := dv_prefix1 P Q c
    rw [← h] at hb
    have e2 := dstep' (n := dv P) (hD c (by rw [h]; simp)) (by omega)
    refine Ev.step (f := fun k => schismaref01_quick.l0 k s (dv (P ++ [c]) : Int) ((P ++ [c]).length : Int)) (fun k => ?_) (quick_l0 s hs hD hv Q (P ++ [c]) (by rw [h]; simp))
    simp only [schismaref01_quick.l0, e1, e2, e3]
    clear e1 e2 e3
    simp (disch := omega) only [if_pos]
    rw [dv_snoc, List.length_append, List.length_singleton]
theorem rsmall_l0 (s : ByteArray) (hs : s.size < 4611686018427387904) (hD : IsD s.data.toList) (hv : dv s.data.toList < 18446744073709551616) : ∀ (Q P : List UInt8), s.data.toList = P ++ Q →
    Ev (fun k => schismaref01_Small.l0 k s (dv P : Int) (P.length : Int)) ((dv s.data.toList : Int), true)
  | [], P, h => by
    rw [List.append_nil] at h
    have h1 := size_list s
    rw [h] at h1 ⊢
    refine Ev.step (f := fun _ => some ((dv P : Int), true)) (fun k => ?_) (Ev.now _)
    simp (disch := omega) only [schismaref01_Small.l0, if_neg]
  | c :: Q, P, h => by
    have h1 := size_mid s P Q c h
    have e1 := bt_mid s P Q c h
    have e3 := wsucc (a := P.length) ⟨by omega⟩
    have hb := dv_prefix1 P Q c
    rw [← h] at hb
    have e2 := dstep' (n := dv P) (hD c (by rw [h]; simp)) (by omega)
    refine Ev.step (f := fun k => schismaref01_Small.l0 k s (dv (P ++ [c]) : Int) ((P ++ [c]).length : Int)) (fun k => ?_) (rsmall_l0 s hs hD hv Q (P ++ [c]) (by rw [h]; simp))
    simp only [schismaref01_Small.l0, e1, e2, e3]
    clear e1 e2 e3
    simp (disch := omega) only [if_pos]
    rw [dv_snoc, List.length_append, List.length_singleton]
theorem quick_big {s : ByteArray} (hs : 18 < s.size) : Ev (fun k => schismaref01_quick.f k s) (0, false) := by
  unfold schismaref01_quick.f
  simp (disch := omega) only [if_pos]
  exact Ev.now _
theorem quick_small {n : Nat} (h : Lib.nDigits n ≤ 18) : Ev (fun k => schismaref01_quick.f k (S n)) ((n : Int), true) := by
  unfold schismaref01_quick.f
  have h1 := S_size n
  simp (disch := omega) only [if_neg]
  have h2 := nDig_lt h
  have h3 : (10 : Nat) ^ 18 = 1000000000000000000 := by decide
  have := quick_l0 (S n) (by omega) (S_dig n) (by rw [S_dv]; omega) (S n).data.toList [] rfl
  rw [S_dv] at this
  exact this
theorem rcompare_f (a b : Nat) : schismaref01_Compare.f (S a) (S b) = some (cmp a b) := by
  unfold schismaref01_Compare.f cmp
  rw [S_size, S_size]
  by_cases h : Lib.nDigits a = Lib.nDigits b
  · rw [if_pos (by omega)]
    by_cases h1 : a = b
    · rw [if_pos (S_eq_iff.2 h1), if_neg (by omega), if_neg (by omega)]
    · rw [if_neg (fun e => h1 (S_eq_iff.1 e))]
      by_cases h2 : a < b
      · rw [if_pos ((bless_S h).2 h2), if_pos h2]
      · rw [if_neg (fun e => h2 ((bless_S h).1 e)), if_neg h2, if_pos (by omega)]
  · rw [if_neg (by omega)]
    by_cases h2 : Lib.nDigits a < Lib.nDigits b
    · rw [if_pos (by omega), if_pos (dec_lt_of_len h2)]
    · have := dec_lt_of_len (a := b) (b := a) (by omega)
      rw [if_neg (by omega), if_neg (by omega), if_pos this]
theorem rsmall_f (n : Nat) (hn : Lib.nDigits n < 4611686018427387904) : Ev (fun k => schismaref01_Small.f k (S n)) (if n < 18446744073709551616 then ((n : Int), true) else (0, false)) := by
  unfold schismaref01_Small.f
  have h1 := S_size n
  by_cases h : Lib.nDigits n ≤ 18
  · have h2 := nDig_lt h
    have h3 : (10 : Nat) ^ 18 = 1000000000000000000 := by decide
    refine Ev.bind (quick_small h) ?_
    rw [if_pos (show n < 18446744073709551616 by omega)]
    simp only [if_pos]
    exact Ev.now _
  · refine Ev.bind (quick_big (by omega)) ?_
    rw [max_str]
    simp only [rcompare_f, Option.bind_some, Bool.false_eq_true, if_false]
    have hc : ¬ cmp n 18446744073709551615 > 0 ↔ n < 18446744073709551616 := by
      unfold cmp
      by_cases h4 : n < 18446744073709551615
      · simp [h4]; omega
      · by_cases h5 : 18446744073709551615 < n
        · simp [h4, h5]; omega
        · simp [h4, h5]; omega
    by_cases h2 : n < 18446744073709551616
    · rw [if_pos h2]
      have key := rsmall_l0 (S n) (by omega) (S_dig n) (by rw [S_dv]; omega) (S n).data.toList [] rfl
      rw [S_dv] at key
      simp only [if_neg (hc.2 h2)]
      exact key
    · have h3 : cmp n 18446744073709551615 > 0 := by
        by_cases h4 : cmp n 18446744073709551615 > 0
        · exact h4
        · exact absurd (hc.1 h4) h2
      simp only [if_pos h3, if_neg h2]
      exact Ev.now _
theorem rof_f (n : Nat) (h : n < 18446744073709551616) : schismaref01_Of.f (n : Int) = some (S n) := by
  unfold schismaref01_Of.f
  rw [if_pos (by omega), Int.toNat_natCast]
  rfl
end Go.Proofs.YtcfddphiflmnlaaDoor.P

namespace Go.Proofs.YtcfddphiflmnlaaDoor.P
open Go.RowKit Go.Proofs.YtcfddphiflmnlaaDoorW.PrintWords
theorem make_end (acc : List UInt8) (hD : IsD acc) (hh : acc.head? ≠ some 48) : (if ((B8 acc).length : Int) = 0 then some (⟨#[48]⟩ : ByteArray) else some (strOfNums (B8 acc))) = some (S (dv acc)) := by
  rw [B8_length]
  rcases acc with _ | ⟨c, t⟩
  · rw [List.length_nil, if_pos (by rfl), zero_str]; rfl
  · rw [if_neg (by simp; omega), strOfNums_B8]
    congr 1
    refine S_of (s := ⟨(c :: t).toArray⟩) ⟨hD, ?_⟩
    rcases t with _ | ⟨d, t⟩
    · exact Or.inl rfl
    · exact Or.inr ⟨by simp, hh⟩
theorem make_digit {x : Int} (h0 : 0 ≤ x) : ∃ c : UInt8, (48 + Int.tmod x 10) % 256 = (c.toNat : Int) ∧ 48 ≤ c.toNat ∧ c.toNat ≤ 57 ∧ (c = 48 ↔ ¬ Int.tmod x 10 > 0) := by
  obtain ⟨n, rfl⟩ : ∃ n : Nat, x = n := ⟨x.toNat, by omega⟩
  have h1 := tmodn n 10
  have h2 : Int.tmod (n : Int) 10 = ((n % 10 : Nat) : Int) := h1
  rw [h2]
  have h3 : n % 10 < 10 := Nat.mod_lt _ (by decide)
  refine ⟨UInt8.ofNat (48 + n % 10), ?_, ?_, ?_, ?_⟩
  · rw [digit_toNat h3]; omega
  · rw [digit_toNat h3]; omega
  · rw [digit_toNat h3]; omega
  · constructor
    · intro e
      have := congrArg UInt8.toNat e
      rw [digit_toNat h3] at this
      have h48 : (48 : UInt8).toNat = 48 := rfl
      omega
    · intro e
      apply UInt8.toNat_inj.1
      rw [digit_toNat h3]
      have h48 : (48 : UInt8).toNat = 48 := rfl
      omega
theorem make_l0 (l : List Int) (hl : ∀ x, x ∈ l → 0 ≤ x) (hs : l.length < 4611686018427387904) : ∀ (Q P : List Int) (acc : List UInt8), l = P ++ Q → IsD acc → acc.head? ≠ some 48 → acc.length ≤ P.length → P.length ≤ 120 →
    ∃ n, n < 10 ^ l.length ∧ n < 10 ^ 120 ∧ Ev (fun k => schismalaw01_Make.l0 k l (B8 acc) (P.length : Int)) (S n)
  | [], P, acc, h, hD, hh, hp, hP => by
    have hll : l.length = P.length := by rw [h]; simp
    have h1 := dv_lt hD
    have h2 : 10 ^ acc.length ≤ 10 ^ l.length := Nat.pow_le_pow_right (by decide) (by omega)
    have h3 : 10 ^ acc.length ≤ 10 ^ 120 := Nat.pow_le_pow_right (by decide) (by omega)
    refine ⟨dv acc, by omega, by omega, ?_⟩
    refine Ev.step (f := fun k => schismalaw01_Make.j1 k l (B8 acc) (P.length : Int) false) (fun k => ?_) (Ev.step (f := fun _ => some (S (dv acc))) (fun k => ?_) (Ev.now _))
    · clear h2 h3
      simp (disch := omega) only [schismalaw01_Make.l0, if_neg]
    · simp only [schismalaw01_Make.j1, Bool.false_eq_true, if_false]
      exact make_end acc hD hh
  | x :: Q, P, acc, h, hD, hh, hp, hP => by
    have hll : l.length = P.length + (Q.length + 1) := by rw [h]; simp
    have h1 := dv_lt hD
    by_cases h120 : P.length = 120
    · have h2 : 10 ^ acc.length ≤ 10 ^ l.length := Nat.pow_le_pow_right (by decide) (by omega)
      have h3 : 10 ^ acc.length ≤ 10 ^ 120 := Nat.pow_le_pow_right (by decide) (by omega)
      refine ⟨dv acc, by omega, by omega, ?_⟩
      refine Ev.step (f := fun k => schismalaw01_Make.j1 k l (B8 acc) (P.length : Int) false) (fun k => ?_) (Ev.step (f := fun _ => some (S (dv acc))) (fun k => ?_) (Ev.now _))
      · clear h2 h3 h1
        have e9 : decide ((P.length : Int) < 120) = false := decide_eq_false_iff_not.2 (by omega)
        simp (disch := omega) only [schismalaw01_Make.l0, if_pos, e9]
      · simp only [schismalaw01_Make.j1, Bool.false_eq_true, if_false]
        exact make_end acc hD hh
    · have hx : 0 ≤ x := hl x (by rw [h]; simp)
      obtain ⟨c, e1, e2, e3, e4⟩ := make_digit hx
      have e5 : rd l (P.length : Int) = x := by rw [h]; simp [rd, List.getD_eq_getElem?_getD]
      have e6 := wsucc (a := P.length) ⟨by omega⟩
      have e7 : (B8 acc).length = acc.length := B8_length _
      have st : ∀ k, schismalaw01_Make.l0 (k + 1) l (B8 acc) (P.length : Int) = schismalaw01_Make.j1 k l (B8 acc) (P.length : Int) true := fun k => by
        clear e1 e4 h1 e5 e6
        have e9 : decide ((P.length : Int) < 120) = true := decide_eq_true (by omega)
        simp (disch := omega) only [schismalaw01_Make.l0, if_pos, e9]
      have ha : B8 acc ++ [(c.toNat : Int)] = B8 (acc ++ [c]) := by rw [B8_append]; rfl
      clear h1
      by_cases h0 : c = 48
      · have h00 := e4.1 h0
        rcases acc with _ | ⟨d, t⟩
        · obtain ⟨n, n1, n2, n3⟩ := make_l0 l hl hs Q (P ++ [x]) [] (by rw [h]; simp) IsD.nil (by simp) (by simp) (by simp; omega)
          refine ⟨n, n1, n2, Ev.step st (Ev.step (f := fun k => schismalaw01_Make.l0 k l (B8 []) ((P.length + 1 : Nat) : Int)) (fun k => ?_) (by simpa using n3))⟩
          simp only [schismalaw01_Make.j1, e5, e6, e1, if_true, if_neg h00]
          clear n1 n2 n3 e1 e4 h00 e5 e6 st
          have e8 : (B8 []).length = 0 := rfl
          simp (disch := omega) only [if_pos, if_neg]
        · obtain ⟨n, n1, n2, n3⟩ := make_l0 l hl hs Q (P ++ [x]) (d :: t ++ [c]) (by rw [h]; simp) (hD.append (IsD.cons ⟨e2, e3⟩ IsD.nil)) (by simpa using hh) (by simp at hp ⊢; omega) (by simp; omega)
          refine ⟨n, n1, n2, Ev.step st (Ev.step (f := fun k => schismalaw01_Make.l0 k l (B8 (d :: t ++ [c])) ((P.length + 1 : Nat) : Int)) (fun k => ?_) (by simpa using n3))⟩
          simp only [schismalaw01_Make.j1, e5, e6, e1, if_true, if_neg h00, ha]
          clear n1 n2 n3 e1 e4 h00 e5 e6 st
          have e8 : (d :: t).length = t.length + 1 := rfl
          rw [e8] at e7 hp
          simp (disch := omega) only [if_pos]
      · have h00 : Int.tmod x 10 > 0 := Decidable.byContradiction fun h9 => h0 (e4.2 h9)
        have hh2 : (acc ++ [c]).head? ≠ some 48 := by
          rcases acc with _ | ⟨d, t⟩
          · simpa using h0
          · simpa using hh
        obtain ⟨n, n1, n2, n3⟩ := make_l0 l hl hs Q (P ++ [x]) (acc ++ [c]) (by rw [h]; simp) (hD.append (IsD.cons ⟨e2, e3⟩ IsD.nil)) hh2 (by simp; omega) (by simp; omega)
        refine ⟨n, n1, n2, Ev.step st (Ev.step (f := fun k => schismalaw01_Make.l0 k l (B8 (acc ++ [c])) ((P.length + 1 : Nat) : Int)) (fun k => ?_) (by simpa using n3))⟩
        simp only [schismalaw01_Make.j1, e5, e6, e1, if_true, if_pos h00, ha]
        clear n1 n2 n3 e1 e4 h00 e5 e6 st
        simp (disch := omega) only [if_pos]
theorem make_f (l : List Int) (hl : ∀ x, x ∈ l → (Lit.int .u8 x).wf = true) (hs : l.length ≤ 140737488351232) :
    ∃ n, n < 10 ^ l.length ∧ n < 10 ^ 120 ∧ Ev (fun k => schismalaw01_Make.f k l) (S n) :=
  make_l0 l (fun x hx => (wf_u8 (hl x hx)).1) (by omega) l [] [] rfl IsD.nil (by simp) (by simp) (by simp)
end Go.Proofs.YtcfddphiflmnlaaDoor.P

namespace Go.Proofs.YtcfddphiflmnlaaDoor.Pure
open Go.RowKit Go.Proofs.YtcfddphiflmnlaaDoor.P Go.Proofs.YtcfddphiflmnlaaDoorW.PrintWords Go.Proofs.YtcfddphiflmnlaaDoorW.PrintLast
theorem nDig_120 {n : Nat} (h : n < 10 ^ 120) : Lib.nDigits n ≤ 120 := nDig_le (by decide) h
theorem DecimalSmall : schismalaw01_DecimalSmall.Pure := by
  intro a0 l h0 h1 h2 h3
  obtain ⟨u0, u1⟩ := wf_u64 h0
  obtain ⟨u, rfl⟩ : ∃ u : Nat, a0 = u := ⟨a0.toNat, by omega⟩
  refine Ev.rounds (Ev.bind known_ev ?_)
  simp only [if_true]
  by_cases h : (l.length : Int) > 120
  · rw [decide_eq_true h]
    refine Ev.step (f := fun k => (schismalaw01_known.f k).bind fun t => some t) (fun k => ?_) (Ev.bind known_ev (Ev.now _))
    simp only [schismalaw01_DecimalSmall.j0, if_true]
  · rw [decide_eq_false h]
    obtain ⟨n, n1, n2, n3⟩ := make_f l h3 (by omega)
    have hn := nDig_120 n2
    have hu : u < 18446744073709551616 := by omega
    have hu20 : Lib.nDigits u ≤ 20 := nDig_le (by decide) (Nat.lt_of_lt_of_le hu (by decide))
    clear n1 n2
    have c0 := of_f u hu
    have c1 := small_S u (by omega)
    have c2 := small_S n (by omega)
    have c3 := rsmall_f n (by omega)
    have c4 := rof_f u hu
    rw [if_pos hu] at c1
    refine Ev.step (f := fun k => (schismalaw01_Make.f k l).bind fun t306 => (schismaref01_Small.f k t306).bind fun bt309 => (decimal_Small.f t306).bind fun bt307 => if bt307.1 = bt309.1 then some (bt307.2 == bt309.2) else some false) (fun k => ?_) (Ev.bind n3 (Ev.bind c3 ?_))
    · simp only [schismalaw01_DecimalSmall.j0, Bool.false_eq_true, if_false, c0, c1, c4, Option.bind_some, if_true]
      rcases e1 : schismalaw01_Make.f k l with _ | t
      · rfl
      · simp only [Option.bind_some]
        rcases e2 : schismaref01_Small.f k t with _ | b
        · simp only [Option.bind_none, Option.bind_fun_none]
        · simp only [Option.bind_some]
    · simp only [c2, Option.bind_some, if_true, BEq.rfl]
      exact Ev.now _
end Go.Proofs.YtcfddphiflmnlaaDoor.Pure
