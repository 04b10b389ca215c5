/- The printed functions as operations on numbers, and the law's answer: true at every input. Conditions: those of each theorem; the law's own has the row's bounds alone. -/
import Derived.Lib.ItoaLen
import Derived.Lib.ItoaMem
import Derived.Lib.ItoaNum
import Derived.Test.YtdelgjdplmennaaDoorWholeOrdersSaid
import Derived.Test.YtdelgjdplmennaaDoorWholeOrdersWPlus

namespace Go.Proofs.YtdelgjdplmennaaDoor.P
open Go.RowKit Go.Proofs.YtdelgjdplmennaaDoorW.PrintWords
def Ok (l : List Nat) : Prop := ∀ a, a ∈ l → a < 1000000000
theorem Ok.nil : Ok [] := fun _ h => by cases h
theorem Ok.cons {a : Nat} {l : List Nat} (ha : a < 1000000000) (hl : Ok l) : Ok (a :: l) := fun x hx => by
  rcases List.mem_cons.1 hx with rfl | hx
  · exact ha
  · exact hl x hx
theorem Ok.head {a : Nat} {l : List Nat} (h : Ok (a :: l)) : a < 1000000000 := h a List.mem_cons_self
theorem Ok.tail {a : Nat} {l : List Nat} (h : Ok (a :: l)) : Ok l := fun x hx => h x (List.mem_cons_of_mem _ hx)
theorem Ok.append {l m : List Nat} (hl : Ok l) (hm : Ok m) : Ok (l ++ m) := fun x hx => by
  rcases List.mem_append.1 hx with hx | hx
  · exact hl x hx
  · exact hm x hx
theorem Ok.left {l m : List Nat} (h : Ok (l ++ m)) : Ok l := fun x hx => h x (List.mem_append_left _ hx)
theorem Ok.right {l m : List Nat} (h : Ok (l ++ m)) : Ok m := fun x hx => h x (List.mem_append_right _ hx)
theorem Ok.take {l : List Nat} (h : Ok l) (i : Nat) : Ok (l.take i) := fun x hx => h x (List.mem_of_mem_take hx)
theorem Ok.drop {l : List Nat} (h : Ok l) (i : Nat) : Ok (l.drop i) := fun x hx => h x (List.mem_of_mem_drop hx)
theorem w64 {n : Int} (h0 : -9223372036854775808 ≤ n) (h1 : n ≤ 9223372036854775807) : wrap64 n = n := by unfold wrap64; omega
theorem tmodn (a b : Nat) : Int.tmod (a : Int) (b : Int) = ((a % b : Nat) : Int) := (Int.ofNat_tmod a b).symm
structure Sm (n : Nat) : Prop where
  out : n < 4611686018427387904
theorem wsucc {a : Nat} (h : Sm a) : wrap64 ((a : Int) + 1) = ((a + 1 : Nat) : Int) := by have := h.out; rw [w64] <;> omega
end Go.Proofs.YtdelgjdplmennaaDoor.P

namespace Go.Proofs.YtdelgjdplmennaaDoor.P
open Go.RowKit Go.Proofs.YtdelgjdplmennaaDoorW.PrintWords
theorem Ev.eq {α : Type} {g : Nat → Option α} {r r' : α} (h : Ev g r) (e : r = r') : Ev g r' := e ▸ h
theorem Ev.pos {α : Type} {p : Prop} [Decidable p] {g f : Nat → Option α} {r : α} (h : p) (k : Ev g r) : Ev (fun n => if p then g n else f n) r := by
  simp only [if_pos h]; exact k
theorem Ev.neg {α : Type} {p : Prop} [Decidable p] {g f : Nat → Option α} {r : α} (h : ¬ p) (k : Ev f r) : Ev (fun n => if p then g n else f n) r := by
  simp only [if_neg h]; exact k
def cmp (a b : Nat) : Int := if a < b then -1 else if b < a then 1 else 0
end Go.Proofs.YtdelgjdplmennaaDoor.P

namespace Go.Proofs.YtdelgjdplmennaaDoor.P
open Go.RowKit Go.Proofs.YtdelgjdplmennaaDoorW.PrintWords
theorem snoc_ind {α : Type} {p : List α → Prop} (nil : p []) (snoc : ∀ (l : List α) (a : α), p l → p (l ++ [a])) (l : List α) : p l := by
  have h : ∀ (n : Nat) (l : List α), l.length = n → p l := by
    intro n
    induction n with
    | zero => intro l hl; rw [List.length_eq_zero_iff.1 hl]; exact nil
    | succ n ih =>
      intro l hl
      rcases List.eq_nil_or_concat l with e | ⟨m, a, e⟩
      · rw [e] at hl; simp at hl
      · have e' : l = m ++ [a] := by simpa using e
        subst e'
        exact snoc m a (ih m (by simpa using hl))
  exact h _ l rfl
def dv (l : List UInt8) : Nat := l.foldl (fun n c => 10 * n + (c.toNat - 48)) 0
def IsD (l : List UInt8) : Prop := ∀ c, c ∈ l → 48 ≤ c.toNat ∧ c.toNat ≤ 57
def Can (l : List UInt8) : Prop := IsD l ∧ (l.length = 1 ∨ (1 < l.length ∧ l.head? ≠ some 48))
theorem dv_nil : dv [] = 0 := rfl
theorem dv_snoc (l : List UInt8) (c : UInt8) : dv (l ++ [c]) = 10 * dv l + (c.toNat - 48) := by simp [dv, List.foldl_append]
theorem dv_append (l m : List UInt8) : dv (l ++ m) = dv l * 10 ^ m.length + dv m := by
  induction m using snoc_ind with
  | nil => simp [dv_nil]
  | snoc m c ih =>
    rw [← List.append_assoc, dv_snoc, ih, dv_snoc, List.length_append, List.length_singleton, Nat.pow_succ, Nat.mul_add, ← Nat.mul_assoc (dv l), Nat.mul_comm _ 10]
    omega
theorem IsD.nil : IsD [] := fun _ h => by cases h
theorem IsD.cons {c : UInt8} {l : List UInt8} (h1 : 48 ≤ c.toNat ∧ c.toNat ≤ 57) (h2 : IsD l) : IsD (c :: l) := fun x hx => by
  rcases List.mem_cons.1 hx with rfl | hx
  · exact h1
  · exact h2 x hx
theorem IsD.left {l m : List UInt8} (h : IsD (l ++ m)) : IsD l := fun x hx => h x (List.mem_append_left _ hx)
theorem IsD.right {l m : List UInt8} (h : IsD (l ++ m)) : IsD m := fun x hx => h x (List.mem_append_right _ hx)
theorem IsD.append {l m : List UInt8} (hl : IsD l) (hm : IsD m) : IsD (l ++ m) := fun x hx => by
  rcases List.mem_append.1 hx with hx | hx
  · exact hl x hx
  · exact hm x hx
theorem IsD.take {l : List UInt8} (h : IsD l) (i : Nat) : IsD (l.take i) := fun x hx => h x (List.mem_of_mem_take hx)
theorem IsD.drop {l : List UInt8} (h : IsD l) (i : Nat) : IsD (l.drop i) := fun x hx => h x (List.mem_of_mem_drop hx)
theorem dv_lt {l : List UInt8} (h : IsD l) : dv l < 10 ^ l.length := by
  induction l using snoc_ind with
  | nil => simp [dv_nil]
  | snoc m c ih =>
    have h1 := ih h.left
    have h2 := h.right c (by simp)
    rw [dv_snoc, List.length_append, List.length_singleton, Nat.pow_succ]
    omega
theorem digit_toNat {d : Nat} (h : d < 10) : (UInt8.ofNat (48 + d)).toNat = 48 + d := by
  rw [UInt8.toNat_ofNat']
  omega
theorem digit_of {c : UInt8} (h : 48 ≤ c.toNat ∧ c.toNat ≤ 57) : UInt8.ofNat (48 + (c.toNat - 48)) = c := by
  rw [show 48 + (c.toNat - 48) = c.toNat by omega]
  exact UInt8.ofNat_toNat
theorem dec_small {n : Nat} (h : n < 10) : Lib.decDigits n = [UInt8.ofNat (48 + n)] := by rw [Lib.decDigits, dif_pos h]
theorem dec_big {n : Nat} (h : 10 ≤ n) : Lib.decDigits n = Lib.decDigits (n / 10) ++ [UInt8.ofNat (48 + n % 10)] := by rw [Lib.decDigits, dif_neg (by omega)]
theorem isD_dec (n : Nat) : IsD (Lib.decDigits n) := by
  induction n using Nat.strongRecOn with
  | _ n ih =>
    by_cases h : n < 10
    · rw [dec_small h]
      refine IsD.cons ?_ IsD.nil
      rw [digit_toNat h]; omega
    · rw [dec_big (by omega)]
      refine (ih _ (by omega)).append (IsD.cons ?_ IsD.nil)
      rw [digit_toNat (by omega)]; omega
theorem dv_dec (n : Nat) : dv (Lib.decDigits n) = n := by
  induction n using Nat.strongRecOn with
  | _ n ih =>
    by_cases h : n < 10
    · rw [dec_small h, show [UInt8.ofNat (48 + n)] = [] ++ [UInt8.ofNat (48 + n)] from rfl, dv_snoc, digit_toNat h, dv_nil]; omega
    · rw [dec_big (by omega), dv_snoc, ih _ (by omega), digit_toNat (by omega)]; omega
theorem dec_len_pos (n : Nat) : 0 < (Lib.decDigits n).length := by rw [Lib.decDigits_length]; exact Lib.nDigits_pos n
theorem dec_dv : ∀ (k : Nat) (l : List UInt8), l.length = k → Can l → Lib.decDigits (dv l) = l
  | 0, l, hl, h => by rcases h.2 with h | h <;> omega
  | 1, l, hl, h => by
    rcases l with _ | ⟨c, _ | ⟨d, t⟩⟩
    · simp at hl
    · have hc := h.1 c (by simp)
      have : dv [c] = c.toNat - 48 := by rw [show [c] = [] ++ [c] from rfl, dv_snoc, dv_nil]; omega
      rw [this, dec_small (by omega), digit_of hc]
    · simp at hl
  | k + 2, l, hl, h => by
    obtain ⟨m, c, rfl⟩ : ∃ m c, l = m ++ [c] := by
      rcases List.eq_nil_or_concat l with e | ⟨m, c, e⟩
      · subst e; simp at hl
      · exact ⟨m, c, by simpa using e⟩
    have hm : m.length = k + 1 := by simpa using hl
    have h2 : 1 < (m ++ [c]).length ∧ (m ++ [c]).head? ≠ some 48 := by
      rcases h.2 with h2 | h2
      · omega
      · exact h2
    have hh : m.head? ≠ some 48 := by
      have := h2.2
      rcases m with _ | ⟨a, t⟩
      · simp at hm
      · simpa using this
    have hc := h.1.right c (by simp)
    have hmc : Can m := ⟨h.1.left, by
      by_cases h3 : m.length = 1
      · exact Or.inl h3
      · exact Or.inr ⟨by omega, hh⟩⟩
    have ih := dec_dv (k + 1) m hm hmc
    have h0 : dv m ≠ 0 := by
      intro e
      rw [e] at ih
      have e1 : Lib.decDigits 0 = [48] := dec_small (by omega)
      rw [e1] at ih
      rw [← ih] at hh
      exact hh rfl
    rw [dv_snoc, dec_big (by omega), show (10 * dv m + (c.toNat - 48)) / 10 = dv m by omega, ih, show (10 * dv m + (c.toNat - 48)) % 10 = c.toNat - 48 by omega, digit_of hc]
theorem dec_inj {a b : Nat} (h : Lib.decDigits a = Lib.decDigits b) : a = b := by rw [← dv_dec a, h, dv_dec]
def S (n : Nat) : ByteArray := ⟨(Lib.decDigits n).toArray⟩
theorem S_inj {a b : Nat} (h : S a = S b) : a = b := dec_inj (by simpa [S] using h)
theorem S_list (n : Nat) : (S n).data.toList = Lib.decDigits n := by simp [S]
theorem S_size (n : Nat) : (S n).size = Lib.nDigits n := by simp [S, ByteArray.size, Lib.decDigits_length]
theorem nDig_mono {a b : Nat} (h : a ≤ b) : Lib.nDigits a ≤ Lib.nDigits b := by
  induction b using Nat.strongRecOn generalizing a with
  | _ b ih =>
    by_cases hb : b < 10
    · rw [Lib.nDigits_small hb, Lib.nDigits_small (by omega)]; omega
    · rw [Lib.nDigits_big hb]
      by_cases ha : a < 10
      · rw [Lib.nDigits_small ha]; omega
      · rw [Lib.nDigits_big ha]
        have := ih (b / 10) (by omega) (a := a / 10) (by omega)
        omega
theorem nDig_le {n k : Nat} (hk : 0 < k) (h : n < 10 ^ k) : Lib.nDigits n ≤ k := by
  induction k generalizing n with
  | zero => omega
  | succ k ih =>
    by_cases hn : n < 10
    · rw [Lib.nDigits_small hn]; omega
    · rw [Lib.nDigits_big hn]
      rcases Nat.eq_zero_or_pos k with h0 | h0
      · subst h0; simp at h; omega
      · have := ih (n := n / 10) h0 (by rw [Nat.pow_succ] at h; omega)
        omega
end Go.Proofs.YtdelgjdplmennaaDoor.P

namespace Go.Proofs.YtdelgjdplmennaaDoor.P
open Go.RowKit Go.Proofs.YtdelgjdplmennaaDoorW.PrintWords
theorem dv_cons (c : UInt8) (l : List UInt8) : dv (c :: l) = (c.toNat - 48) * 10 ^ l.length + dv l := by
  have := dv_append [c] l
  rw [show dv [c] = c.toNat - 48 by rw [show [c] = [] ++ [c] from rfl, dv_snoc, dv_nil]; omega] at this
  exact this
theorem lex_dv : ∀ (l m : List UInt8), l.length = m.length → IsD l → IsD m → (l < m ↔ dv l < dv m)
  | [], [], _, _, _ => by simp [dv_nil]
  | [], _ :: _, h, _, _ => by simp at h
  | _ :: _, [], h, _, _ => by simp at h
  | a :: l, b :: m, h, hl, hm => by
    have ha := hl a (by simp)
    have hb := hm b (by simp)
    have hl' : IsD l := IsD.right (l := [a]) hl
    have hm' : IsD m := IsD.right (l := [b]) hm
    have h' : l.length = m.length := by simpa using h
    have ih := lex_dv l m h' hl' hm'
    have k1 := dv_lt hl'
    have k2 := dv_lt hm'
    rw [dv_cons, dv_cons, List.cons_lt_cons_iff]
    rw [h'] at k1 ⊢
    constructor
    · rintro (h1 | ⟨rfl, h1⟩)
      · have h2 : a.toNat < b.toNat := h1
        have h3 : (a.toNat - 48 + 1) * 10 ^ m.length ≤ (b.toNat - 48) * 10 ^ m.length := Nat.mul_le_mul_right _ (by omega)
        rw [Nat.succ_mul] at h3
        omega
      · have := ih.1 h1
        omega
    · intro h1
      rcases Nat.lt_trichotomy a.toNat b.toNat with h2 | h2 | h2
      · exact Or.inl h2
      · have e : a = b := UInt8.toNat_inj.1 h2
        subst e
        exact Or.inr ⟨rfl, ih.2 (by omega)⟩
      · have h3 : (b.toNat - 48 + 1) * 10 ^ m.length ≤ (a.toNat - 48) * 10 ^ m.length := Nat.mul_le_mul_right _ (by omega)
        rw [Nat.succ_mul] at h3
        omega
theorem dec_lt_of_len {a b : Nat} (h : Lib.nDigits a < Lib.nDigits b) : a < b := by
  rcases Nat.lt_or_ge a b with h1 | h1
  · exact h1
  · have := nDig_mono h1
    omega
theorem dec_lex {a b : Nat} (h : Lib.nDigits a = Lib.nDigits b) : Lib.decDigits a < Lib.decDigits b ↔ a < b := by
  have := lex_dv (Lib.decDigits a) (Lib.decDigits b) (by rw [Lib.decDigits_length, Lib.decDigits_length, h]) (isD_dec a) (isD_dec b)
  rwa [dv_dec, dv_dec] at this
end Go.Proofs.YtdelgjdplmennaaDoor.P

namespace Go.Proofs.YtdelgjdplmennaaDoor.P
open Go.RowKit Go.Proofs.YtdelgjdplmennaaDoorW.PrintWords
def B8 (l : List UInt8) : List Int := l.map fun b => (b.toNat : Int)
theorem rd_B8 (P Q : List UInt8) (c : UInt8) (i : Nat) (h : P.length = i) : rd (B8 (P ++ c :: Q)) (i : Int) = (c.toNat : Int) := by
  subst h
  simp [rd, B8, List.getD_eq_getElem?_getD]
theorem extract_list (s : ByteArray) (a b : Nat) : (s.extract a b).data.toList = (s.data.toList.take b).drop a := by
  simp [List.drop_take]
theorem size_list (s : ByteArray) : s.size = s.data.toList.length := (data_length s).symm
end Go.Proofs.YtdelgjdplmennaaDoor.P

namespace Go.Proofs.YtdelgjdplmennaaDoor.P
open Go.RowKit Go.Proofs.YtdelgjdplmennaaDoorW.PrintWords
theorem toList_data (s : ByteArray) : s.toList = s.data.toList := ByteArray.toList_eq s
theorem bt_mid (s : ByteArray) (P Q : List UInt8) (c : UInt8) (h : s.data.toList = P ++ c :: Q) : bt s (P.length : Int) = (c.toNat : Int) := by
  rw [← rd_bytesOf, show bytesOf s = B8 s.data.toList from rfl, h, rd_B8 _ _ _ _ rfl]
def digB (c : UInt8) : Bool := decide (48 ≤ c.toNat ∧ c.toNat ≤ 57)
theorem all_dig (l : List UInt8) : l.all digB = true ↔ IsD l := by
  simp [List.all_eq_true, digB, IsD]
end Go.Proofs.YtdelgjdplmennaaDoor.P

namespace Go.Proofs.YtdelgjdplmennaaDoor.P
open Go.RowKit Go.Proofs.YtdelgjdplmennaaDoorW.PrintWords
theorem bless : ∀ (l m : List UInt8), Op.bytesLess l m = true ↔ l < m
  | [], [] => by simp [Op.bytesLess]
  | [], _ :: _ => by simp [Op.bytesLess]
  | _ :: _, [] => by simp [Op.bytesLess]
  | a :: l, b :: m => by
    rw [List.cons_lt_cons_iff]
    simp [Op.bytesLess, bless l m]
theorem bless_S {a b : Nat} (h : Lib.nDigits a = Lib.nDigits b) : Op.bytesLess (S a).toList (S b).toList = true ↔ a < b := by
  rw [bless, toList_data, toList_data, S_list, S_list, dec_lex h]
theorem compareS_f (a b : Nat) (ha : Lib.nDigits a < 4611686018427387904) (hb : Lib.nDigits b < 4611686018427387904) : decimal_Compare.f (S a) (S b) = some (cmp a b) := by
  unfold decimal_Compare.f cmp
  rw [S_size, S_size]
  by_cases h : Lib.nDigits a = Lib.nDigits b
  · rw [if_pos (by omega)]
    by_cases h2 : a < b
    · rw [if_pos ((bless_S h).2 h2), if_pos h2]
    · rw [if_neg (fun e => h2 ((bless_S h).1 e)), if_neg h2]
      by_cases h3 : b < a
      · rw [if_pos ((bless_S h.symm).2 h3), if_pos h3]
      · rw [if_neg (fun e => h3 ((bless_S h.symm).1 e)), if_neg h3]
  · rw [if_neg (by omega), w64 (by omega) (by omega)]
    unfold mn mx
    by_cases h2 : Lib.nDigits a < Lib.nDigits b
    · rw [if_pos (dec_lt_of_len h2)]
      congr 1
      split <;> split <;> omega
    · have := dec_lt_of_len (a := b) (b := a) (by omega)
      rw [if_neg (show ¬ a < b by omega), if_pos this]
      congr 1
      split <;> split <;> omega
end Go.Proofs.YtdelgjdplmennaaDoor.P

namespace Go.Proofs.YtdelgjdplmennaaDoor.P
open Go.RowKit Go.Proofs.YtdelgjdplmennaaDoorW.PrintWords
theorem strOfNums_B8 (l : List UInt8) : strOfNums (B8 l) = ⟨l.toArray⟩ := by
  have e : ((fun n : Int => UInt8.ofNat n.toNat) ∘ fun b : UInt8 => (b.toNat : Int)) = id := funext fun b => by simp
  rw [strOfNums, B8, List.map_map, e, List.map_id]
theorem wf_u8 {x : Int} (h : (Lit.int .u8 x).wf = true) : 0 ≤ x ∧ x ≤ 255 := by
  have h1 : IntKind.u8.min = 0 := by decide
  have h2 : IntKind.u8.max = 255 := by decide
  simpa only [Lit.wf, h1, h2, Bool.and_eq_true, decide_eq_true_eq] using h
end Go.Proofs.YtdelgjdplmennaaDoor.P

namespace Go.Proofs.YtdelgjdplmennaaDoor.P
open Go.RowKit Go.Proofs.YtdelgjdplmennaaDoorW.PrintWords
def Z (n : Int) : ByteArray := ⟨(Lib.itoa n).toArray⟩
theorem Z_list (n : Int) : (Z n).data.toList = Lib.itoa n := by simp [Z]
theorem itoa_n (u : Nat) : Lib.itoa (u : Int) = Lib.decDigits u := by unfold Lib.itoa; rw [if_neg (by omega)]; simp
theorem itoa_m (u : Nat) (h : 1 ≤ u) : Lib.itoa (-(u : Int)) = 45 :: Lib.decDigits u := by unfold Lib.itoa; rw [if_pos (by omega)]; simp
theorem dec_first (n : Nat) : ∃ c r, Lib.decDigits n = c :: r ∧ 48 ≤ c.toNat ∧ c.toNat ≤ 57 := by
  rcases e : Lib.decDigits n with _ | ⟨c, r⟩
  · have := dec_len_pos n; rw [e] at this; simp at this
  · exact ⟨c, r, rfl, (isD_dec n) c (by rw [e]; simp)⟩
end Go.Proofs.YtdelgjdplmennaaDoor.P

namespace Go.Proofs.YtdelgjdplmennaaDoor.P
open Go.RowKit Go.Proofs.YtdelgjdplmennaaDoorW.PrintWords
def neg (l : List UInt8) : Bool := l.head? == some 45
def mag (l : List UInt8) : List UInt8 := if neg l then l.tail else l
def str (l : List UInt8) : ByteArray := ⟨l.toArray⟩
theorem str_list (l : List UInt8) : (str l).data.toList = l := by simp [str]
theorem str_self (s : ByteArray) : str s.data.toList = s := rfl
theorem str_size (l : List UInt8) : (str l).size = l.length := by rw [size_list, str_list]
theorem str_toList (l : List UInt8) : (str l).toList = l := by rw [toList_data, str_list]
theorem cut1 (s : ByteArray) : s.extract 1 s.size = str s.data.toList.tail := by
  have h := extract_list s 1 s.size
  rw [size_list, List.take_length, List.drop_one] at h
  apply ByteArray.ext
  apply Array.toList_inj.1
  rw [str_list, ← h, size_list]
theorem bt0 (s : ByteArray) (c : UInt8) (t : List UInt8) (h : s.data.toList = c :: t) : bt s 0 = (c.toNat : Int) := bt_mid s [] t c h
theorem c45 (c : UInt8) : (c.toNat : Int) = 45 ↔ c = 45 := by
  have h : (45 : UInt8).toNat = 45 := rfl
  constructor
  · intro e; exact UInt8.toNat_inj.1 (by omega)
  · intro e; rw [e]; rfl
theorem mag_le (l : List UInt8) : (mag l).length ≤ l.length := by
  unfold mag
  split
  · rw [List.length_tail]; omega
  · exact Nat.le_refl _
theorem split_f (s : ByteArray) : whole_split.f s = some (neg s.data.toList, str (mag s.data.toList)) := by
  unfold whole_split.f
  have h1 := size_list s
  rcases e : s.data.toList with _ | ⟨c, t⟩
  · rw [e, List.length_nil] at h1
    rw [if_neg (by omega)]
    have : s = str [] := by rw [← e]; exact (str_self s).symm
    rw [this]
    rfl
  · rw [e, List.length_cons] at h1
    rw [if_pos (by omega), if_pos (by omega), bt0 s c t e]
    by_cases hc : c = 45
    · subst hc
      rw [if_pos (by rfl), if_pos (by omega), cut1, e]
      rfl
    · rw [if_neg (fun h => hc ((c45 c).1 h))]
      have hn : neg (c :: t) = false := by
        unfold neg
        rw [List.head?_cons, beq_eq_false_iff_ne]
        intro h; exact hc (by simpa using h)
      have hs : s = str (c :: t) := by rw [← e]; exact (str_self s).symm
      rw [hn, mag, hn, if_neg (by decide)]
      congr 2
theorem digits_f (s : ByteArray) : schismaref02_digits.f s = some (str (mag s.data.toList)) := by
  have h := split_f s
  unfold whole_split.f at h
  unfold schismaref02_digits.f
  by_cases h0 : (s.size : Int) > 0
  · rw [if_pos h0, if_pos h0] at h ⊢
    by_cases h45 : bt s 0 = 45
    · rw [if_pos h45, if_pos (by omega)] at h ⊢
      injection h with h
      injection h with _ h2
      rw [h2]
    · rw [if_neg h45] at h ⊢
      injection h with h
      injection h with _ h2
      rw [← h2]
  · rw [if_neg h0] at h ⊢
    injection h with h
    injection h with _ h2
    rw [← h2]
end Go.Proofs.YtdelgjdplmennaaDoor.P

namespace Go.Proofs.YtdelgjdplmennaaDoor.P
open Go.RowKit Go.Proofs.YtdelgjdplmennaaDoorW.PrintWords
theorem c48 (c : UInt8) : (c.toNat : Int) = 48 ↔ c = 48 := by
  have h : (48 : UInt8).toNat = 48 := rfl
  constructor
  · intro e; exact UInt8.toNat_inj.1 (by omega)
  · intro e; rw [e]; rfl
def core (m : List UInt8) : List UInt8 := if m.dropWhile (· == 48) = [] then [48] else m.dropWhile (· == 48)
def pz (n : Bool) (m : List UInt8) : ByteArray × Int := if 400 < (core m).length then (str [], 4) else if n = true ∧ core m ≠ [48] then (str (45 :: core m), 0) else (str (core m), 0)
def parsed (l : List UInt8) : ByteArray × Int := if l = [] then (str [], 13) else if mag l = [] then (str [], 15) else if (mag l).all digB = true then pz (neg l) (mag l) else (str [], 15)
theorem minus_str (u : List UInt8) : (⟨#[45]⟩ : ByteArray) ++ str u = str (45 :: u) := by
  apply ByteArray.ext
  apply Array.toList_inj.1
  rw [str_list]
  simp [str]
theorem core_one (c : UInt8) : core [c] = [c] := by
  unfold core
  by_cases h : c = 48
  · subst h; rfl
  · have : [c].dropWhile (· == 48) = [c] := List.dropWhile_cons_of_neg (by simpa using h)
    rw [this, if_neg (by simp)]
theorem core_zero (d : UInt8) (r : List UInt8) : core (48 :: d :: r) = core (d :: r) := by
  unfold core
  rw [List.dropWhile_cons_of_pos (by decide)]
theorem core_else (c : UInt8) (r : List UInt8) (h : c ≠ 48) : core (c :: r) = c :: r := by
  unfold core
  rw [List.dropWhile_cons_of_neg (by simpa using h), if_neg (by simp)]
theorem drop_first : ∀ (m : List UInt8) (c : UInt8) (r : List UInt8), m.dropWhile (· == 48) = c :: r → c ≠ 48
  | [], _, _, h => by simp at h
  | x :: m, c, r, h => by
    by_cases hx : x = 48
    · rw [List.dropWhile_cons_of_pos (by simpa using hx)] at h
      exact drop_first m c r h
    · rw [List.dropWhile_cons_of_neg (by simpa using hx)] at h
      injection h with h1 _
      rw [← h1]; exact hx
theorem drop_le : ∀ (m : List UInt8), (m.dropWhile (· == 48)).length ≤ m.length
  | [] => by simp
  | x :: m => by
    by_cases hx : x = 48
    · rw [List.dropWhile_cons_of_pos (by simpa using hx)]
      have := drop_le m
      rw [List.length_cons]; omega
    · rw [List.dropWhile_cons_of_neg (by simpa using hx)]
      exact Nat.le_refl _
theorem r2parse_j3 (n : Bool) (u : List UInt8) (hs : u.length < 4611686018427387904) : Ev (fun k => schismaref02_Parse.j3 k (str u) n) (if 400 < u.length then (str [], 4) else if n = true ∧ u ≠ [48] then (str (45 :: u), 0) else (str u, 0)) := by
  have hsz : (str u).size = u.length := str_size u
  refine Ev.step (f := fun _ => some (if 400 < u.length then (str [], 4) else if n = true ∧ u ≠ [48] then (str (45 :: u), 0) else (str u, 0))) (fun k => ?_) (Ev.now _)
  rw [schismaref02_Parse.j3, hsz, str_toList, minus_str]
  by_cases h4 : 400 < u.length
  · rw [if_pos h4, if_pos (by omega)]
    rfl
  · rw [if_neg h4, if_neg (by omega)]
    by_cases hn : n = true
    · rw [if_pos hn]
      by_cases hu : u = [48]
      · rw [if_pos hu, if_neg (fun h => h.2 hu)]
      · rw [if_neg hu, if_pos (by omega), if_pos ⟨hn, hu⟩]
    · rw [if_neg hn, if_neg (fun h => hn h.1)]
theorem r2parse_l1 (n : Bool) : ∀ (m : List UInt8), m ≠ [] → m.length < 4611686018427387904 → Ev (fun k => schismaref02_Parse.l1 k (str m) n) (pz n m)
  | [], h, _ => absurd rfl h
  | [c], _, hs => by
    have hsz : (str [c]).size = 1 := str_size [c]
    have key := r2parse_j3 n [c] hs
    unfold pz
    rw [core_one]
    refine Ev.step (fun k => ?_) key
    rw [schismaref02_Parse.l1, if_neg (by omega)]
  | c :: d :: r, _, hs => by
    have hsz : (str (c :: d :: r)).size = r.length + 2 := str_size _
    have e1 : bt (str (c :: d :: r)) 0 = (c.toNat : Int) := bt0 _ c (d :: r) (str_list _)
    by_cases hc : c = 48
    · have ih := r2parse_l1 n (d :: r) (by simp) (by rw [List.length_cons] at hs; omega)
      subst hc
      unfold pz at ih ⊢
      rw [core_zero]
      refine Ev.step (fun k => ?_) ih
      rw [schismaref02_Parse.l1, if_pos (by omega), if_pos (by omega), e1, if_pos (by rfl), if_pos (by omega), cut1, str_list]
      rfl
    · have key := r2parse_j3 n (c :: d :: r) hs
      unfold pz
      rw [core_else c (d :: r) hc]
      refine Ev.step (fun k => ?_) key
      rw [schismaref02_Parse.l1, if_pos (by omega), if_pos (by omega), e1, if_neg (fun h => hc ((c48 c).1 h))]
theorem r2parse_l0 (n : Bool) (m : List UInt8) (h0 : m ≠ []) (hs : m.length < 4611686018427387904) : ∀ (Q P : List UInt8), m = P ++ Q → IsD P →
    Ev (fun k => schismaref02_Parse.l0 k (str m) n (P.length : Int)) (if m.all digB = true then pz n m else (str [], 15))
  | [], P, h, hP => by
    rw [List.append_nil] at h
    have h1 : m.all digB = true := (all_dig m).2 (by rw [h]; exact hP)
    have h2 : m.length = P.length := by rw [h]
    have hsz : (str m).size = m.length := str_size m
    rw [if_pos h1]
    refine Ev.step (fun k => ?_) (r2parse_l1 n m h0 hs)
    rw [schismaref02_Parse.l0, if_neg (by omega)]
  | c :: Q, P, h, hP => by
    have h1 : m.length = P.length + (Q.length + 1) := by rw [h]; simp
    have e1 : bt (str m) (P.length : Int) = (c.toNat : Int) := bt_mid (str m) P Q c (by rw [str_list, h])
    have hsz : (str m).size = m.length := str_size m
    have e3 := wsucc (a := P.length) ⟨by omega⟩
    by_cases hc : 48 ≤ c.toNat ∧ c.toNat ≤ 57
    · refine Ev.step (f := fun k => schismaref02_Parse.l0 k (str m) n ((P.length + 1 : Nat) : Int)) (fun k => ?_) ?_
      · simp only [schismaref02_Parse.l0, e1, e3]
        clear e1 e3
        simp (disch := omega) only [if_pos, if_neg]
      · have := r2parse_l0 n m h0 hs Q (P ++ [c]) (by rw [h]; simp) (hP.append (IsD.cons hc IsD.nil))
        simpa using this
    · have hb : ¬ m.all digB = true := fun h2 => hc ((all_dig m).1 h2 c (by rw [h]; simp))
      rw [if_neg hb]
      refine Ev.step (f := fun _ => some (str [], 15)) (fun k => ?_) (Ev.now _)
      simp only [schismaref02_Parse.l0, e1, e3]
      clear e1 e3 hb
      by_cases h48 : c.toNat < 48
      · simp (disch := omega) only [if_pos]
        rfl
      · simp (disch := omega) only [if_pos, if_neg]
        rfl
theorem r2parse_j0 (n : Bool) (m : List UInt8) (hs : m.length < 4611686018427387904) : Ev (fun k => schismaref02_Parse.j0 k (str m) n) (if m = [] then (str [], 15) else if m.all digB = true then pz n m else (str [], 15)) := by
  by_cases h : m = []
  · rw [if_pos h]
    refine Ev.step (f := fun _ => some (str [], 15)) (fun k => ?_) (Ev.now _)
    rw [schismaref02_Parse.j0, str_toList, if_pos h]
    rfl
  · rw [if_neg h]
    refine Ev.step (fun k => ?_) (r2parse_l0 n m h hs m [] rfl IsD.nil)
    rw [schismaref02_Parse.j0, str_toList, if_neg h]
    rfl
theorem neg_cons (c : UInt8) (t : List UInt8) : neg (c :: t) = ((c.toNat : Int) == 45) := by
  unfold neg
  rw [List.head?_cons, Bool.eq_iff_iff, beq_iff_eq, beq_iff_eq, c45, Option.some_inj]
theorem r2parse_f (s : ByteArray) (hs : s.size < 4611686018427387904) : Ev (fun k => schismaref02_Parse.f k s) (parsed s.data.toList) := by
  have h1 := size_list s
  unfold schismaref02_Parse.f parsed
  rw [toList_data]
  have hm := mag_le s.data.toList
  have key := r2parse_j0 (neg s.data.toList) (mag s.data.toList) (by omega)
  rcases e : s.data.toList with _ | ⟨c, t⟩
  · rw [if_pos rfl]
    exact Ev.pos rfl (Ev.now _)
  · rw [e] at key
    rw [if_neg (by simp)]
    have hsz : s.size = t.length + 1 := by rw [h1, e]; rfl
    refine Ev.neg (by simp) (Ev.pos (by omega) ?_)
    rw [bt0 s c t e]
    by_cases hc : c = 45
    · subst hc
      refine Ev.pos (by rfl) (Ev.pos (by omega) ?_)
      rw [cut1, e]
      exact key
    · refine Ev.neg (fun h => hc ((c45 c).1 h)) ?_
      have hn : neg (c :: t) = false := by rw [neg_cons, beq_eq_false_iff_ne]; exact fun h => hc ((c45 c).1 h)
      have hm2 : mag (c :: t) = c :: t := by unfold mag; rw [hn]; rfl
      rw [← neg_cons c t]
      rw [hm2] at key
      have hs2 : s = str (c :: t) := by rw [← e]; exact (str_self s).symm
      rw [hs2, hm2]
      exact key
end Go.Proofs.YtdelgjdplmennaaDoor.P

namespace Go.Proofs.YtdelgjdplmennaaDoor.P
open Go.RowKit Go.Proofs.YtdelgjdplmennaaDoorW.PrintWords
end Go.Proofs.YtdelgjdplmennaaDoor.P

namespace Go.Proofs.YtdelgjdplmennaaDoor.P
open Go.RowKit Go.Proofs.YtdelgjdplmennaaDoorW.PrintWords
theorem isD_core {m : List UInt8} (h : IsD m) : IsD (core m) := by
  unfold core
  split
  · exact IsD.cons (by decide) IsD.nil
  · exact fun c hc => h c ((List.dropWhile_sublist _).subset hc)
theorem dv_drop : ∀ (m : List UInt8), dv (m.dropWhile (· == 48)) = dv m
  | [] => rfl
  | c :: m => by
    by_cases hc : c = 48
    · subst hc
      rw [List.dropWhile_cons_of_pos (by decide), dv_drop m, dv_cons]
      have : (48 : UInt8).toNat - 48 = 0 := rfl
      rw [this, Nat.zero_mul, Nat.zero_add]
    · rw [List.dropWhile_cons_of_neg (by simpa using hc)]
theorem dv_core (m : List UInt8) : dv (core m) = dv m := by
  unfold core
  split
  · rename_i h
    rw [← dv_drop m, h]; rfl
  · exact dv_drop m
theorem core_dec {m : List UInt8} (h : IsD m) : core m = Lib.decDigits (dv m) := by
  have hc : Can (core m) := by
    refine ⟨isD_core h, ?_⟩
    unfold core
    split
    · exact Or.inl rfl
    · rename_i hne
      rcases e : m.dropWhile (· == 48) with _ | ⟨c, _ | ⟨d, r⟩⟩
      · exact absurd e hne
      · exact Or.inl rfl
      · refine Or.inr ⟨by simp, ?_⟩
        rw [List.head?_cons]
        intro h2
        exact drop_first m c (d :: r) e (by simpa using h2)
  rw [← dec_dv _ _ rfl hc, dv_core]
def sgd (n : Bool) (u : Nat) : Int := if n = true then -(u : Int) else (u : Int)
theorem pz_Z (n : Bool) (m : List UInt8) (h : IsD m) (hl : (core m).length ≤ 400) : pz n m = (Z (sgd n (dv m)), 0) := by
  unfold pz
  rw [if_neg (by omega), core_dec h]
  unfold sgd Z
  by_cases hn : n = true
  · rw [if_pos hn]
    by_cases h0 : dv m = 0
    · rw [h0, if_neg (fun h2 => h2.2 (dec_small (by decide)))]
      rfl
    · have h48 : Lib.decDigits (dv m) ≠ [48] := fun e => h0 (by rw [← dv_dec (dv m), e]; rfl)
      rw [if_pos ⟨hn, h48⟩, itoa_m _ (by omega)]
      rfl
  · rw [if_neg hn, if_neg (fun h2 => hn h2.1), itoa_n]
    rfl
theorem parsed_digits (m : List UInt8) (h : IsD m) (h0 : m ≠ []) : parsed m = pz false m ∧ parsed (45 :: m) = pz true m := by
  have ha := (all_dig m).2 h
  rcases m with _ | ⟨c, t⟩
  · exact absurd rfl h0
  · have hc := h c (by simp)
    have hn : neg (c :: t) = false := by
      rw [neg_cons, beq_eq_false_iff_ne]; omega
    have hm : mag (c :: t) = c :: t := by unfold mag; rw [hn]; rfl
    constructor
    · unfold parsed
      rw [if_neg (by simp), hm, if_neg (by simp), if_pos ha, hn]
    · unfold parsed
      have hm2 : mag (45 :: c :: t) = c :: t := rfl
      have hn2 : neg (45 :: c :: t) = true := rfl
      rw [if_neg (by simp), hm2, if_neg (by simp), if_pos ha, hn2]
theorem core_len (m : List UInt8) (h0 : m ≠ []) : (core m).length ≤ m.length := by
  unfold core
  split
  · have : 0 < m.length := List.length_pos_iff.2 h0
    simp; omega
  · exact drop_le m
theorem make2_j1 (b : Bool) (l : List Int) (acc : List UInt8) (hD : IsD acc) (hl : acc.length ≤ 400) : Ev (fun k => schismalaw02_Make.j1 k (str acc) b l) (Z (sgd b (dv acc))) := by
  have one : (⟨#[48]⟩ : ByteArray) = str [48] := rfl
  have gen : ∀ m : List UInt8, IsD m → m ≠ [] → m.length ≤ 400 → dv m = dv acc → Ev (fun k => (schismaref02_Parse.f k (if b = true then str (45 :: m) else str m)).bind fun bt => (some bt.1)) (Z (sgd b (dv acc))) := fun m h1 h2 h3 h4 => by
    obtain ⟨p1, p2⟩ := parsed_digits m h1 h2
    have hc := core_len m h2
    by_cases hb : b = true
    · rw [if_pos hb]
      have key := r2parse_f (str (45 :: m)) (by rw [str_size, List.length_cons]; omega)
      rw [str_list, p2, pz_Z true m h1 (by omega), h4] at key
      exact Ev.bind key (Ev.eq (Ev.now _) (by rw [hb]))
    · rw [if_neg hb]
      have hb2 : b = false := by simpa using hb
      have key := r2parse_f (str m) (by rw [str_size]; omega)
      rw [str_list, p1, pz_Z false m h1 (by omega), h4] at key
      exact Ev.bind key (Ev.eq (Ev.now _) (by rw [hb2]))
  by_cases h0 : acc = []
  · have g := gen [48] (IsD.cons (by decide) IsD.nil) (by simp) (by decide) (by rw [h0]; rfl)
    refine Ev.step (fun k => ?_) g
    rw [schismalaw02_Make.j1, str_toList, if_pos h0, one, minus_str]
    by_cases hb : b = true
    · rw [if_pos hb, if_pos (by decide), if_pos hb]
    · rw [if_neg hb, if_neg hb]
  · have g := gen acc hD h0 hl rfl
    refine Ev.step (fun k => ?_) g
    have hsz : (str acc).size = acc.length := str_size acc
    rw [schismalaw02_Make.j1, str_toList, if_neg h0, minus_str]
    by_cases hb : b = true
    · rw [if_pos hb, if_pos (by omega), if_pos hb]
    · rw [if_neg hb, if_neg hb]
theorem digit_str {x : Int} (h0 : 0 ≤ x) : ∃ c : UInt8, (48 + Int.tmod x 10) % 256 = (c.toNat : Int) ∧ 48 ≤ c.toNat ∧ c.toNat ≤ 57 := by
  obtain ⟨n, rfl⟩ : ∃ n : Nat, x = n := ⟨x.toNat, by omega⟩
  have h2 : Int.tmod (n : Int) 10 = ((n % 10 : Nat) : Int) := tmodn n 10
  have h3 : n % 10 < 10 := Nat.mod_lt _ (by decide)
  refine ⟨UInt8.ofNat (48 + n % 10), ?_, ?_, ?_⟩
  · rw [h2, digit_toNat h3]; omega
  · rw [digit_toNat h3]; omega
  · rw [digit_toNat h3]; omega
theorem str_snoc (acc : List UInt8) (c : UInt8) : str acc ++ str [c] = str (acc ++ [c]) := by
  apply ByteArray.ext
  apply Array.toList_inj.1
  simp [str]
theorem make2_l0 (b : Bool) (l : List Int) (hl : ∀ x, x ∈ l → 0 ≤ x) (n : Nat) (hn : n ≤ 400) : ∀ (Q P : List Int) (acc : List UInt8), l = P ++ Q → IsD acc → acc.length = P.length → acc.length ≤ n →
    ∃ m : List UInt8, IsD m ∧ m.length ≤ n ∧ Ev (fun k => schismalaw02_Make.l0 k (n : Int) (str acc) (P.length : Int) b l) (Z (sgd b (dv m)))
  | [], P, acc, h, hD, hp, hq => by
    have hll : l.length = P.length := by rw [h]; simp
    refine ⟨acc, hD, hq, Ev.step (fun k => ?_) (make2_j1 b l acc hD (by omega))⟩
    rw [schismalaw02_Make.l0, if_neg (by omega)]
  | x :: Q, P, acc, h, hD, hp, hq => by
    have hll : l.length = P.length + (Q.length + 1) := by rw [h]; simp
    by_cases hend : P.length = n
    · refine ⟨acc, hD, hq, Ev.step (fun k => ?_) (make2_j1 b l acc hD (by omega))⟩
      rw [schismalaw02_Make.l0, if_pos (by omega), if_neg (by omega)]
    · have hx : 0 ≤ x := hl x (by rw [h]; simp)
      obtain ⟨c, e1, e2, e3⟩ := digit_str hx
      obtain ⟨m, m1, m2, m3⟩ := make2_l0 b l hl n hn Q (P ++ [x]) (acc ++ [c]) (by rw [h]; simp) (hD.append (IsD.cons ⟨e2, e3⟩ IsD.nil)) (by simp [hp]) (by rw [List.length_append, List.length_singleton]; omega)
      have e5 : rd l (P.length : Int) = x := by rw [h]; simp [rd, List.getD_eq_getElem?_getD]
      have e6 := wsucc (a := P.length) ⟨by omega⟩
      have e7 : strOfNums [(c.toNat : Int)] = str [c] := strOfNums_B8 [c]
      have hsz : (str acc).size = acc.length := str_size acc
      have hsz1 : (str [c]).size = 1 := str_size [c]
      refine ⟨m, m1, m2, Ev.step (f := fun k => schismalaw02_Make.l0 k (n : Int) (str (acc ++ [c])) ((P.length + 1 : Nat) : Int) b l) (fun k => ?_) (by simpa using m3)⟩
      simp only [schismalaw02_Make.l0, e5, e6, e1, Option.bind_some, e7, str_snoc]
      clear e1 e5 e6 m3
      simp (disch := omega) only [if_pos]
theorem make2_f (b : Bool) (l : List Int) (hl : ∀ x, x ∈ l → (Lit.int .u8 x).wf = true) (n : Nat) (hn : n ≤ 400) :
    ∃ u : Nat, u < 10 ^ n ∧ Ev (fun k => schismalaw02_Make.f k b l (n : Int)) (Z (sgd b u)) := by
  obtain ⟨m, m1, m2, m3⟩ := make2_l0 b l (fun x hx => (wf_u8 (hl x hx)).1) n hn l [] [] rfl IsD.nil rfl (by simp)
  exact ⟨dv m, Nat.lt_of_lt_of_le (dv_lt m1) (Nat.pow_le_pow_right (by decide) m2), m3⟩
def sgn (v : Int) : Int := if v = 0 then 0 else if v < 0 then -1 else 1
theorem Z_nat (u : Nat) : Z (u : Int) = S u := by unfold Z S; rw [itoa_n]
theorem Z_neg (u : Nat) (h : 1 ≤ u) : Z (-(u : Int)) = str (45 :: Lib.decDigits u) := by unfold Z; rw [itoa_m u h]; rfl
theorem neg_Z (v : Int) : neg (Z v).data.toList = decide (v < 0) ∧ str (mag (Z v).data.toList) = S v.natAbs := by
  by_cases h : v < 0
  · obtain ⟨u, rfl⟩ : ∃ u : Nat, v = -(u : Int) := ⟨v.natAbs, by omega⟩
    rw [Z_neg u (by omega), str_list, decide_eq_true h]
    have e : (-(u : Int)).natAbs = u := by omega
    rw [e]
    exact ⟨rfl, rfl⟩
  · obtain ⟨u, rfl⟩ : ∃ u : Nat, v = (u : Int) := ⟨v.toNat, by omega⟩
    obtain ⟨c, r, e, c1, c2⟩ := dec_first u
    have hn : neg (S u).data.toList = false := by
      rw [S_list, e, neg_cons, beq_eq_false_iff_ne]; omega
    rw [Z_nat, decide_eq_false h, hn]
    refine ⟨rfl, ?_⟩
    unfold mag
    rw [hn, if_neg (by decide), str_self]
    rfl
theorem split_Z (v : Int) : whole_split.f (Z v) = some (decide (v < 0), S v.natAbs) := by
  rw [split_f, (neg_Z v).1, (neg_Z v).2]
theorem digits_Z (v : Int) : schismaref02_digits.f (Z v) = some (S v.natAbs) := by
  rw [digits_f, (neg_Z v).2]
theorem Z_first (v : Int) : ∃ c t, (Z v).data.toList = c :: t ∧ (c = 45 ↔ v < 0) := by
  rw [Z_list]
  by_cases h : v < 0
  · obtain ⟨u, rfl⟩ : ∃ u : Nat, v = -(u : Int) := ⟨v.natAbs, by omega⟩
    exact ⟨45, Lib.decDigits u, itoa_m u (by omega), fun _ => h, fun _ => rfl⟩
  · obtain ⟨u, rfl⟩ : ∃ u : Nat, v = (u : Int) := ⟨v.toNat, by omega⟩
    obtain ⟨c, r, e, c1, c2⟩ := dec_first u
    refine ⟨c, r, by rw [itoa_n, e], fun h2 => ?_, fun h2 => absurd h2 h⟩
    rw [h2] at c1
    exact absurd c1 (by decide)
theorem itoa_inj {a b : Int} (h : Lib.itoa a = Lib.itoa b) : a = b := by
  have ha := neg_Z a
  have hb := neg_Z b
  rw [Z_list] at ha hb
  rw [h] at ha
  have h1 : decide (a < 0) = decide (b < 0) := ha.1.symm.trans hb.1
  have h2 := S_inj (ha.2.symm.trans hb.2)
  rw [decide_eq_decide] at h1
  omega
theorem Z_is0 (v : Int) : (Z v).toList = ([48] : List UInt8) ↔ v = 0 := by
  rw [toList_data, Z_list]
  have e : Lib.itoa 0 = [48] := by
    have := itoa_n 0
    rw [dec_small (by decide)] at this
    exact this
  rw [← e]
  exact ⟨itoa_inj, fun h => by rw [h]⟩
theorem wsign_f (v : Int) : whole_Sign.f (Z v) = some (sgn v) := by
  obtain ⟨c, t, e, hc⟩ := Z_first v
  have h1 := size_list (Z v)
  rw [e, List.length_cons] at h1
  unfold whole_Sign.f sgn
  by_cases h0 : v = 0
  · rw [if_pos ((Z_is0 v).2 h0), if_pos h0]
  · rw [if_neg (fun h => h0 ((Z_is0 v).1 h)), if_neg h0, if_pos (by omega), bt0 (Z v) c t e]
    by_cases hn : v < 0
    · rw [if_pos hn, if_pos ((c45 c).2 (hc.2 hn))]
    · rw [if_neg hn, if_neg (fun h => hn (hc.1 ((c45 c).1 h)))]
theorem r2sign_f (v : Int) : schismaref02_Sign.f (Z v) = some (sgn v) := wsign_f v
theorem side_f (v : Int) : schismaref02_side.f (Z v) = some (if v < 0 then -1 else 1) := by
  unfold schismaref02_side.f
  rw [r2sign_f, Option.bind_some]
  unfold sgn
  by_cases h0 : v = 0
  · rw [if_pos h0, if_neg (by decide), if_neg (by omega)]
  · rw [if_neg h0]
    by_cases hn : v < 0
    · rw [if_pos hn, if_pos (by decide)]
    · rw [if_neg hn, if_neg (by decide)]
theorem join_Z (n : Bool) (u : Nat) (hs : Lib.nDigits u < 4611686018427387904) : whole_join.f n (S u) = some (Z (sgd n u)) := by
  unfold whole_join.f sgd
  have h0 : (S u).toList = ([48] : List UInt8) ↔ u = 0 := by
    have := Z_is0 (u : Int)
    rw [Z_nat] at this
    exact this.trans ⟨fun h => by omega, fun h => by omega⟩
  have hsz := S_size u
  by_cases hn : n = true
  · rw [if_pos hn, if_pos hn]
    by_cases hu : u = 0
    · subst hu
      rw [if_pos (h0.2 rfl)]
      rfl
    · rw [if_neg (fun h => hu (h0.1 h)), if_pos (by omega), Z_neg u (by omega)]
      congr 1
  · rw [if_neg hn, if_neg hn, Z_nat]
theorem wneg_f (v : Int) (hs : Lib.nDigits v.natAbs < 4611686018427387904) : whole_Neg.f (Z v) = some (Z (-v)) := by
  unfold whole_Neg.f
  rw [split_Z, Option.bind_some, join_Z _ _ hs, Option.bind_some]
  congr 2
  unfold sgd
  by_cases h : v < 0
  · rw [decide_eq_true h]; simp; omega
  · rw [decide_eq_false h]; simp; omega
theorem wabs_f (v : Int) : whole_Abs.f (Z v) = some (S v.natAbs) := by
  unfold whole_Abs.f
  rw [split_Z]
  rfl
theorem r2abs_f (v : Int) : schismaref02_Abs.f (Z v) = some (S v.natAbs) := by
  unfold schismaref02_Abs.f
  rw [digits_Z]
  rfl
end Go.Proofs.YtdelgjdplmennaaDoor.P

namespace Go.Proofs.YtdelgjdplmennaaDoor.Pure
open Go.RowKit Go.Proofs.YtdelgjdplmennaaDoor.P Go.Proofs.YtdelgjdplmennaaDoorW.PrintWords Go.Proofs.YtdelgjdplmennaaDoorW.PrintLast
set_option maxRecDepth 100000 in
theorem oknown_ev : Ev (fun k => schismalaw02_known.f k) true := Ev.of (k := 200) (fun k => schismalaw02_known.mono k) (by decide +kernel)
def zcmp (a b : Int) : Int := if sgn a = sgn b then (if a < 0 then cmp b.natAbs a.natAbs else cmp a.natAbs b.natAbs) else if sgn a < sgn b then -1 else 1
theorem wcompare_f (a b : Int) (ha : Lib.nDigits a.natAbs < 4611686018427387904) (hb : Lib.nDigits b.natAbs < 4611686018427387904) : whole_Compare.f (Z a) (Z b) = some (zcmp a b) := by
  unfold whole_Compare.f zcmp
  rw [wsign_f, wsign_f]
  simp only [Option.bind_some]
  by_cases h : sgn a = sgn b
  · rw [if_pos h, if_pos h, split_Z, split_Z]
    simp only [Option.bind_some]
    by_cases hn : a < 0
    · rw [if_pos (decide_eq_true hn), if_pos hn, compareS_f _ _ hb ha]
      rfl
    · rw [if_neg (by simpa using hn), if_neg hn, compareS_f _ _ ha hb]
      rfl
  · rw [if_neg h, if_neg h]
    by_cases h2 : sgn a < sgn b
    · rw [if_pos h2, if_pos h2]
    · rw [if_neg h2, if_neg h2]
theorem cmp_range (a b : Nat) : cmp a b = -1 ∨ cmp a b = 0 ∨ cmp a b = 1 := by
  unfold cmp
  by_cases h : a < b
  · rw [if_pos h]; exact Or.inl rfl
  · rw [if_neg h]
    by_cases h2 : b < a
    · rw [if_pos h2]; exact Or.inr (Or.inr rfl)
    · rw [if_neg h2]; exact Or.inr (Or.inl rfl)
theorem cmp_swap (a b : Nat) : cmp b a = -cmp a b := by
  unfold cmp
  by_cases h : a < b
  · have h3 : ¬ b < a := by omega
    simp [h, h3]
  · by_cases h2 : b < a
    · simp [h, h2]
    · simp [h, h2]
theorem w_side (s x : Int) (hs : s = 1 ∨ s = -1) (hx : x = -1 ∨ x = 0 ∨ x = 1) : wrap64 (x * s) = x * s := by
  rcases hs with rfl | rfl <;> rcases hx with rfl | rfl | rfl <;> exact w64 (by decide) (by decide)
theorem r2compare_f (a b : Int) : schismaref02_Compare.f (Z a) (Z b) = some (zcmp a b) := by
  unfold schismaref02_Compare.f zcmp
  rw [r2sign_f, r2sign_f]
  simp only [Option.bind_some]
  by_cases h : sgn a = sgn b
  · rw [if_pos h, if_pos h, digits_Z, digits_Z]
    simp only [Option.bind_some, S_size, side_f]
    have hs : (if a < 0 then -1 else 1 : Int) = 1 ∨ (if a < 0 then -1 else 1 : Int) = -1 := by
      by_cases hn : a < 0
      · rw [if_pos hn]; exact Or.inr rfl
      · rw [if_neg hn]; exact Or.inl rfl
    have fin1 : ∀ x : Int, x = cmp a.natAbs b.natAbs → some (wrap64 (x * (if a < 0 then -1 else 1 : Int))) = some (if a < 0 then cmp b.natAbs a.natAbs else cmp a.natAbs b.natAbs) := fun x hx => by
      rw [w_side _ _ hs (by rw [hx]; exact cmp_range _ _), hx, cmp_swap]
      congr 1
      by_cases hn : a < 0
      · rw [if_pos hn, if_pos hn]; omega
      · rw [if_neg hn, if_neg hn]; omega
    by_cases hl : Lib.nDigits a.natAbs = Lib.nDigits b.natAbs
    · rw [if_pos (by omega)]
      by_cases h1 : a.natAbs < b.natAbs
      · rw [if_pos ((bless_S hl).2 h1)]
        exact fin1 (-1) (by unfold cmp; rw [if_pos h1])
      · rw [if_neg (fun e => h1 ((bless_S hl).1 e))]
        by_cases h2 : b.natAbs < a.natAbs
        · rw [if_pos ((bless_S hl.symm).2 h2)]
          exact fin1 1 (by unfold cmp; rw [if_neg h1, if_pos h2])
        · rw [if_neg (fun e => h2 ((bless_S hl.symm).1 e))]
          exact fin1 0 (by unfold cmp; rw [if_neg h1, if_neg h2])
    · rw [if_neg (by omega)]
      by_cases hlt : Lib.nDigits a.natAbs < Lib.nDigits b.natAbs
      · rw [if_pos (by omega)]
        exact fin1 (-1) (by unfold cmp; rw [if_pos (dec_lt_of_len hlt)])
      · have h3 := dec_lt_of_len (a := b.natAbs) (b := a.natAbs) (by omega)
        rw [if_neg (by omega)]
        exact fin1 1 (by unfold cmp; rw [if_neg (by omega), if_pos h3])
  · rw [if_neg h, if_neg h]
    by_cases h2 : sgn a < sgn b
    · rw [if_pos h2, if_pos h2]
    · rw [if_neg h2, if_neg h2]
theorem r2neg_f (v : Int) (hs : Lib.nDigits v.natAbs < 4611686018427387904) : schismaref02_Neg.f (Z v) = some (Z (-v)) := by
  unfold schismaref02_Neg.f
  rw [r2sign_f]
  simp only [Option.bind_some]
  obtain ⟨c, t, e, hc⟩ := Z_first v
  have h1 := size_list (Z v)
  rw [e, List.length_cons] at h1
  by_cases hn : v < 0
  · have h2 : sgn v < 0 := by unfold sgn; rw [if_neg (by omega), if_pos hn]; decide
    rw [if_pos h2, if_pos (by omega), cut1]
    obtain ⟨u, rfl⟩ : ∃ u : Nat, v = -(u : Int) := ⟨v.natAbs, by omega⟩
    rw [Z_neg u (by omega), str_list, show (-(-(u : Int))) = (u : Int) by omega, Z_nat]
    rfl
  · have h2 : ¬ sgn v < 0 := by
      unfold sgn
      by_cases h0 : v = 0
      · rw [if_pos h0]; decide
      · rw [if_neg h0, if_neg hn]; decide
    rw [if_neg h2]
    obtain ⟨u, rfl⟩ : ∃ u : Nat, v = (u : Int) := ⟨v.toNat, by omega⟩
    by_cases h0 : u = 0
    · subst h0
      have h3 : sgn ((0 : Nat) : Int) = 0 := rfl
      rw [if_pos h3]
      rfl
    · have h3 : ¬ sgn (u : Int) = 0 := by unfold sgn; rw [if_neg (by omega), if_neg hn]; decide
      have hsz : (Z (u : Int)).size = Lib.nDigits u := by rw [Z_nat, S_size]
      have e2 : (u : Int).natAbs = u := by omega
      rw [e2] at hs
      rw [if_neg h3, if_pos (by omega), Z_neg u (by omega), Z_nat]
      congr 1
theorem dig400 {u n : Nat} (h : u < 10 ^ n) (h0 : 0 < n) (hn : n ≤ 400) : Lib.nDigits u ≤ 400 := Nat.le_trans (nDig_le h0 h) hn
theorem sgd_abs (b : Bool) (u : Nat) : (sgd b u).natAbs = u := by
  unfold sgd
  by_cases hb : b = true
  · rw [if_pos hb]; omega
  · rw [if_neg hb]; omega
theorem WholeOrders : schismalaw02_WholeOrders.Pure := by
  intro b l _ hl c m _ hm _
  obtain ⟨u, u1, u2⟩ := make2_f b l hl 80 (by decide)
  obtain ⟨v, v1, v2⟩ := make2_f c m hm 80 (by decide)
  have du : Lib.nDigits (sgd b u).natAbs < 4611686018427387904 := by rw [sgd_abs]; have := dig400 u1 (by decide) (by decide); omega
  have dv' : Lib.nDigits (sgd c v).natAbs < 4611686018427387904 := by rw [sgd_abs]; have := dig400 v1 (by decide) (by decide); omega
  refine Ev.rounds (Ev.bind oknown_ev (Ev.pos rfl (Ev.bind u2 (Ev.bind v2 ?_))))
  simp only [wsign_f, r2sign_f, Option.bind_some, if_true, wcompare_f _ _ du dv', r2compare_f, wneg_f _ du, r2neg_f _ du, wabs_f, r2abs_f, BEq.rfl]
  exact Ev.now _
end Go.Proofs.YtdelgjdplmennaaDoor.Pure
