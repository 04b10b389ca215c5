/- The printed functions as operations on numbers, and the law's answer: true at every input. Conditions: those of each theorem; the law's own has the row's bounds alone. -/
import Derived.Lib.ItoaLen
import Derived.Lib.ItoaMem
import Derived.Lib.ItoaNum
import Derived.Test.YtdelgjdplmennaaDoorWholeChecksF7
import Derived.Test.YtdelgjdplmennaaDoorWholeChecksWPlus

namespace Go.Proofs.YtdelgjdplmennaaDoor.P
open Go.RowKit Go.Proofs.YtdelgjdplmennaaDoorW.PrintWords
def Ok (l : List Nat) : Prop := ∀ a, a ∈ l → a < 1000000000
theorem Ok.nil : Ok [] := fun _ h => by cases h
theorem Ok.cons {a : Nat} {l : List Nat} (ha : a < 1000000000) (hl : Ok l) : Ok (a :: l) := fun x hx => by
  rcases List.mem_cons.1 hx with rfl | hx
  · exact ha
  · exact hl x hx
theorem Ok.head {a : Nat} {l : List Nat} (h : Ok (a :: l)) : a < 1000000000 := h a List.mem_cons_self
theorem Ok.tail {a : Nat} {l : List Nat} (h : Ok (a :: l)) : Ok l := fun x hx => h x (List.mem_cons_of_mem _ hx)
theorem Ok.append {l m : List Nat} (hl : Ok l) (hm : Ok m) : Ok (l ++ m) := fun x hx => by
  rcases List.mem_append.1 hx with hx | hx
  · exact hl x hx
  · exact hm x hx
theorem Ok.right {l m : List Nat} (h : Ok (l ++ m)) : Ok m := fun x hx => h x (List.mem_append_right _ hx)
theorem Ok.take {l : List Nat} (h : Ok l) (i : Nat) : Ok (l.take i) := fun x hx => h x (List.mem_of_mem_take hx)
theorem Ok.drop {l : List Nat} (h : Ok l) (i : Nat) : Ok (l.drop i) := fun x hx => h x (List.mem_of_mem_drop hx)
theorem w64 {n : Int} (h0 : -9223372036854775808 ≤ n) (h1 : n ≤ 9223372036854775807) : wrap64 n = n := by unfold wrap64; omega
structure Sm (n : Nat) : Prop where
  out : n < 4611686018427387904
theorem wsucc {a : Nat} (h : Sm a) : wrap64 ((a : Int) + 1) = ((a + 1 : Nat) : Int) := by have := h.out; rw [w64] <;> omega
end Go.Proofs.YtdelgjdplmennaaDoor.P

namespace Go.Proofs.YtdelgjdplmennaaDoor.P
open Go.RowKit Go.Proofs.YtdelgjdplmennaaDoorW.PrintWords
theorem Ev.eq {α : Type} {g : Nat → Option α} {r r' : α} (h : Ev g r) (e : r = r') : Ev g r' := e ▸ h
theorem Ev.pos {α : Type} {p : Prop} [Decidable p] {g f : Nat → Option α} {r : α} (h : p) (k : Ev g r) : Ev (fun n => if p then g n else f n) r := by
  simp only [if_pos h]; exact k
theorem Ev.neg {α : Type} {p : Prop} [Decidable p] {g f : Nat → Option α} {r : α} (h : ¬ p) (k : Ev f r) : Ev (fun n => if p then g n else f n) r := by
  simp only [if_neg h]; exact k
end Go.Proofs.YtdelgjdplmennaaDoor.P

namespace Go.Proofs.YtdelgjdplmennaaDoor.P
open Go.RowKit Go.Proofs.YtdelgjdplmennaaDoorW.PrintWords
theorem snoc_ind {α : Type} {p : List α → Prop} (nil : p []) (snoc : ∀ (l : List α) (a : α), p l → p (l ++ [a])) (l : List α) : p l := by
  have h : ∀ (n : Nat) (l : List α), l.length = n → p l := by
    intro n
    induction n with
    | zero => intro l hl; rw [List.length_eq_zero_iff.1 hl]; exact nil
    | succ n ih =>
      intro l hl
      rcases List.eq_nil_or_concat l with e | ⟨m, a, e⟩
      · rw [e] at hl; simp at hl
      · have e' : l = m ++ [a] := by simpa using e
        subst e'
        exact snoc m a (ih m (by simpa using hl))
  exact h _ l rfl
def dv (l : List UInt8) : Nat := l.foldl (fun n c => 10 * n + (c.toNat - 48)) 0
def IsD (l : List UInt8) : Prop := ∀ c, c ∈ l → 48 ≤ c.toNat ∧ c.toNat ≤ 57
theorem dv_nil : dv [] = 0 := rfl
theorem dv_snoc (l : List UInt8) (c : UInt8) : dv (l ++ [c]) = 10 * dv l + (c.toNat - 48) := by simp [dv, List.foldl_append]
theorem dv_append (l m : List UInt8) : dv (l ++ m) = dv l * 10 ^ m.length + dv m := by
  induction m using snoc_ind with
  | nil => simp [dv_nil]
  | snoc m c ih =>
    rw [← List.append_assoc, dv_snoc, ih, dv_snoc, List.length_append, List.length_singleton, Nat.pow_succ, Nat.mul_add, ← Nat.mul_assoc (dv l), Nat.mul_comm _ 10]
    omega
theorem IsD.nil : IsD [] := fun _ h => by cases h
theorem IsD.cons {c : UInt8} {l : List UInt8} (h1 : 48 ≤ c.toNat ∧ c.toNat ≤ 57) (h2 : IsD l) : IsD (c :: l) := fun x hx => by
  rcases List.mem_cons.1 hx with rfl | hx
  · exact h1
  · exact h2 x hx
theorem IsD.right {l m : List UInt8} (h : IsD (l ++ m)) : IsD m := fun x hx => h x (List.mem_append_right _ hx)
theorem IsD.append {l m : List UInt8} (hl : IsD l) (hm : IsD m) : IsD (l ++ m) := fun x hx => by
  rcases List.mem_append.1 hx with hx | hx
  · exact hl x hx
  · exact hm x hx
theorem IsD.take {l : List UInt8} (h : IsD l) (i : Nat) : IsD (l.take i) := fun x hx => h x (List.mem_of_mem_take hx)
theorem IsD.drop {l : List UInt8} (h : IsD l) (i : Nat) : IsD (l.drop i) := fun x hx => h x (List.mem_of_mem_drop hx)
theorem digit_toNat {d : Nat} (h : d < 10) : (UInt8.ofNat (48 + d)).toNat = 48 + d := by
  rw [UInt8.toNat_ofNat']
  omega
theorem dec_small {n : Nat} (h : n < 10) : Lib.decDigits n = [UInt8.ofNat (48 + n)] := by rw [Lib.decDigits, dif_pos h]
theorem dec_big {n : Nat} (h : 10 ≤ n) : Lib.decDigits n = Lib.decDigits (n / 10) ++ [UInt8.ofNat (48 + n % 10)] := by rw [Lib.decDigits, dif_neg (by omega)]
theorem isD_dec (n : Nat) : IsD (Lib.decDigits n) := by
  induction n using Nat.strongRecOn with
  | _ n ih =>
    by_cases h : n < 10
    · rw [dec_small h]
      refine IsD.cons ?_ IsD.nil
      rw [digit_toNat h]; omega
    · rw [dec_big (by omega)]
      refine (ih _ (by omega)).append (IsD.cons ?_ IsD.nil)
      rw [digit_toNat (by omega)]; omega
theorem dv_dec (n : Nat) : dv (Lib.decDigits n) = n := by
  induction n using Nat.strongRecOn with
  | _ n ih =>
    by_cases h : n < 10
    · rw [dec_small h, show [UInt8.ofNat (48 + n)] = [] ++ [UInt8.ofNat (48 + n)] from rfl, dv_snoc, digit_toNat h, dv_nil]; omega
    · rw [dec_big (by omega), dv_snoc, ih _ (by omega), digit_toNat (by omega)]; omega
theorem dec_len_pos (n : Nat) : 0 < (Lib.decDigits n).length := by rw [Lib.decDigits_length]; exact Lib.nDigits_pos n
end Go.Proofs.YtdelgjdplmennaaDoor.P

namespace Go.Proofs.YtdelgjdplmennaaDoor.P
open Go.RowKit Go.Proofs.YtdelgjdplmennaaDoorW.PrintWords
theorem dv_cons (c : UInt8) (l : List UInt8) : dv (c :: l) = (c.toNat - 48) * 10 ^ l.length + dv l := by
  have := dv_append [c] l
  rw [show dv [c] = c.toNat - 48 by rw [show [c] = [] ++ [c] from rfl, dv_snoc, dv_nil]; omega] at this
  exact this
end Go.Proofs.YtdelgjdplmennaaDoor.P

namespace Go.Proofs.YtdelgjdplmennaaDoor.P
open Go.RowKit Go.Proofs.YtdelgjdplmennaaDoorW.PrintWords
def B8 (l : List UInt8) : List Int := l.map fun b => (b.toNat : Int)
theorem rd_B8 (P Q : List UInt8) (c : UInt8) (i : Nat) (h : P.length = i) : rd (B8 (P ++ c :: Q)) (i : Int) = (c.toNat : Int) := by
  subst h
  simp [rd, B8, List.getD_eq_getElem?_getD]
theorem extract_list (s : ByteArray) (a b : Nat) : (s.extract a b).data.toList = (s.data.toList.take b).drop a := by
  simp [List.drop_take]
theorem size_list (s : ByteArray) : s.size = s.data.toList.length := (data_length s).symm
end Go.Proofs.YtdelgjdplmennaaDoor.P

namespace Go.Proofs.YtdelgjdplmennaaDoor.P
open Go.RowKit Go.Proofs.YtdelgjdplmennaaDoorW.PrintWords
theorem toList_data (s : ByteArray) : s.toList = s.data.toList := ByteArray.toList_eq s
theorem bt_mid (s : ByteArray) (P Q : List UInt8) (c : UInt8) (h : s.data.toList = P ++ c :: Q) : bt s (P.length : Int) = (c.toNat : Int) := by
  rw [← rd_bytesOf, show bytesOf s = B8 s.data.toList from rfl, h, rd_B8 _ _ _ _ rfl]
theorem size_mid (s : ByteArray) (P Q : List UInt8) (c : UInt8) (h : s.data.toList = P ++ c :: Q) : s.size = P.length + (Q.length + 1) := by
  rw [size_list, h]; simp
def digB (c : UInt8) : Bool := decide (48 ≤ c.toNat ∧ c.toNat ≤ 57)
def canb (l : List UInt8) : Bool := l.all digB && (decide (l.length = 1) || (decide (1 < l.length) && (l.head? != some 48)))
theorem all_dig (l : List UInt8) : l.all digB = true ↔ IsD l := by
  simp [List.all_eq_true, digB, IsD]
theorem canon_bad {P Q : List UInt8} {c : UInt8} (h : ¬ (48 ≤ c.toNat ∧ c.toNat ≤ 57)) : canb (P ++ c :: Q) = false := by
  have : digB c = false := by simpa [digB] using h
  simp [canb, List.all_append, this]
theorem canon_end (s : ByteArray) (h : IsD s.data.toList) : (if (s.size : Int) = 1 then some true else if (s.size : Int) > 1 then (if 0 < (s.size : Int) then some (bt s 0 != 48) else none) else some false) = some (canb s.data.toList) := by
  have h1 := size_list s
  have h2 := (all_dig s.data.toList).2 h
  unfold canb
  rw [h2, ← h1]
  by_cases e1 : s.size = 1
  · simp [e1]
  · by_cases e2 : 1 < s.size
    · rw [if_neg (by omega), if_pos (by omega), if_pos (by omega)]
      rcases e : s.data.toList with _ | ⟨c, t⟩
      · rw [e, List.length_nil] at h1; omega
      · have e3 := bt_mid s [] t c e
        have e4 : bt s 0 = (c.toNat : Int) := e3
        rw [e4]
        have e5 : ((c.toNat : Int) != 48) = (some c != some (48 : UInt8)) := by
          rw [Bool.eq_iff_iff]
          simp only [bne_iff_ne, ne_eq, Option.some.injEq]
          constructor
          · intro h3 h4; subst h4; exact h3 rfl
          · intro h3 h4
            apply h3
            apply UInt8.toNat_inj.1
            have : (48 : UInt8).toNat = 48 := rfl
            omega
        simp [e1, e2, e5]
    · rw [if_neg (by omega), if_neg (by omega)]
      simp [e1, e2]
theorem canonical_l0 (s : ByteArray) (hs : s.size < 4611686018427387904) : ∀ (Q P : List UInt8), s.data.toList = P ++ Q → IsD P →
    Ev (fun k => decimal_Canonical.l0 k s (bytesOf s) (s.size : Int) (P.length : Int)) (canb s.data.toList)
  | [], P, h, hP => by
    rw [List.append_nil] at h
    have h1 := size_list s
    rw [h] at h1
    refine Ev.step (f := fun _ => some (canb s.data.toList)) (fun k => ?_) (Ev.now _)
    have := canon_end s (by rw [h]; exact hP)
    simp (disch := omega) only [decimal_Canonical.l0, if_neg]
    exact this
  | c :: Q, P, h, hP => by
    have h1 := size_mid s P Q c h
    have e1 : rd (bytesOf s) (P.length : Int) = (c.toNat : Int) := by rw [rd_bytesOf, bt_mid s P Q c h]
    have e2 : (bytesOf s).length = s.size := bytesOf_length s
    have e3 := wsucc (a := P.length) ⟨by omega⟩
    by_cases hc : 48 ≤ c.toNat ∧ c.toNat ≤ 57
    · refine Ev.step (f := fun k => decimal_Canonical.l0 k s (bytesOf s) (s.size : Int) ((P.length + 1 : Nat) : Int)) (fun k => ?_) ?_
      · simp only [decimal_Canonical.l0, e1, e2, e3]
        clear e1 e2 e3
        simp (disch := omega) only [if_pos, if_neg]
      · have := canonical_l0 s hs Q (P ++ [c]) (by rw [h]; simp) (hP.append (IsD.cons hc IsD.nil))
        simpa using this
    · refine Ev.step (f := fun _ => some false) (fun k => ?_) (Ev.eq (Ev.now _) (by rw [h, canon_bad hc]))
      simp only [decimal_Canonical.l0, e1, e2, e3]
      clear e1 e2 e3
      by_cases h48 : c.toNat < 48
      · simp (disch := omega) only [if_pos]
      · simp (disch := omega) only [if_pos, if_neg]
theorem canonical_f (s : ByteArray) (hs : s.size < 4611686018427387904) : Ev (fun k => decimal_Canonical.f k s) (canb s.data.toList) := by
  unfold decimal_Canonical.f
  have := canonical_l0 s hs s.data.toList [] rfl IsD.nil
  simp (disch := omega) only [if_pos, Option.bind_some, bytesOf_length]
  exact this
theorem check_f (s : ByteArray) (hs : s.size < 4611686018427387904) : Ev (fun k => decimal_Check.f k s) (if canb s.data.toList = true ∧ s.size ≤ 400 then 0 else 2) := by
  unfold decimal_Check.f
  refine Ev.bind (canonical_f s hs) ?_
  by_cases h : canb s.data.toList = true
  · rw [h]
    by_cases h4 : s.size ≤ 400
    · simp (disch := omega) only [if_pos, if_neg, h4, and_self]
      exact Ev.now _
    · simp (disch := omega) only [if_pos, if_neg, h4, and_false]
      exact Ev.now _
  · simp only [h, if_neg, false_and]
    exact Ev.now _
end Go.Proofs.YtdelgjdplmennaaDoor.P

namespace Go.Proofs.YtdelgjdplmennaaDoor.P
open Go.RowKit Go.Proofs.YtdelgjdplmennaaDoorW.PrintWords
theorem parse_dig : ∀ (l : List UInt8) (acc : Nat), IsD l → Lib.parseUintM 18446744073709551615 acc l = if l = [] ∨ acc * 10 ^ l.length + dv l < 18446744073709551616 then .ok (acc * 10 ^ l.length + dv l) else .range
  | [], acc, _ => by simp [Lib.parseUintM, dv_nil]
  | c :: l, acc, h => by
    have hc := h c (by simp)
    have ih := parse_dig l (acc * 10 + (c.toNat - 48)) (IsD.right (l := [c]) h)
    have e : (acc * 10 + (c.toNat - 48)) * 10 ^ l.length + dv l = acc * 10 ^ (c :: l).length + dv (c :: l) := by
      rw [dv_cons, List.length_cons, Nat.pow_succ, Nat.add_mul, Nat.mul_assoc, Nat.mul_comm 10 (10 ^ l.length), Nat.add_assoc]
    have hp : 1 ≤ 10 ^ l.length := Nat.pow_pos (by decide)
    have hge : acc * 10 + (c.toNat - 48) ≤ acc * 10 ^ (c :: l).length + dv (c :: l) := by
      rw [← e]
      have : (acc * 10 + (c.toNat - 48)) * 1 ≤ (acc * 10 + (c.toNat - 48)) * 10 ^ l.length := Nat.mul_le_mul_left _ hp
      omega
    unfold Lib.parseUintM
    rw [if_pos hc]
    by_cases h1 : 1844674407370955162 ≤ acc
    · rw [if_pos h1, if_neg]
      rintro (h2 | h2)
      · cases h2
      · omega
    · rw [if_neg h1]
      by_cases h2 : 18446744073709551615 < acc * 10 + (c.toNat - 48)
      · rw [if_pos h2, if_neg]
        rintro (h3 | h3)
        · cases h3
        · omega
      · rw [if_neg h2, ih, e]
        by_cases h3 : acc * 10 ^ (c :: l).length + dv (c :: l) < 18446744073709551616
        · rw [if_pos (Or.inr h3), if_pos (Or.inr h3)]
        · have n1 : ¬ ((c :: l) = [] ∨ acc * 10 ^ (c :: l).length + dv (c :: l) < 18446744073709551616) := fun h4 => h4.elim (fun h5 => by cases h5) h3
          have n2 : ¬ (l = [] ∨ acc * 10 ^ (c :: l).length + dv (c :: l) < 18446744073709551616) := fun h4 => h4.elim (fun h5 => by
            rw [h5] at e h3
            rw [← e] at h3
            simp only [List.length_nil, Nat.pow_zero, dv_nil] at h3
            omega) h3
          rw [if_neg n1, if_neg n2]
end Go.Proofs.YtdelgjdplmennaaDoor.P

namespace Go.Proofs.YtdelgjdplmennaaDoor.P
open Go.RowKit Go.Proofs.YtdelgjdplmennaaDoorW.PrintWords
theorem wf_i64 {x : Int} (h : (Lit.int .i64 x).wf = true) : -9223372036854775808 ≤ x ∧ x ≤ 9223372036854775807 := by
  have h1 : IntKind.i64.min = -9223372036854775808 := by decide
  have h2 : IntKind.i64.max = 9223372036854775807 := by decide
  simpa only [Lit.wf, h1, h2, Bool.and_eq_true, decide_eq_true_eq] using h
end Go.Proofs.YtdelgjdplmennaaDoor.P

namespace Go.Proofs.YtdelgjdplmennaaDoor.P
open Go.RowKit Go.Proofs.YtdelgjdplmennaaDoorW.PrintWords
def Z (n : Int) : ByteArray := ⟨(Lib.itoa n).toArray⟩
theorem Z_list (n : Int) : (Z n).data.toList = Lib.itoa n := by simp [Z]
theorem itoa_n (u : Nat) : Lib.itoa (u : Int) = Lib.decDigits u := by unfold Lib.itoa; rw [if_neg (by omega)]; simp
theorem itoa_m (u : Nat) (h : 1 ≤ u) : Lib.itoa (-(u : Int)) = 45 :: Lib.decDigits u := by unfold Lib.itoa; rw [if_pos (by omega)]; simp
theorem parse_dec (n : Nat) (h : n < 18446744073709551616) : Lib.parseUintB 64 (Lib.decDigits n) = .ok n := by
  have hne : Lib.decDigits n ≠ [] := by have := dec_len_pos n; intro e; rw [e] at this; simp at this
  have h64 : (2 : Nat) ^ 64 - 1 = 18446744073709551615 := by decide
  rw [Lib.parseUintB, if_neg hne, h64, parse_dig _ _ (isD_dec n), dv_dec, Nat.zero_mul, Nat.zero_add, if_pos (Or.inr h)]
theorem dec_first (n : Nat) : ∃ c r, Lib.decDigits n = c :: r ∧ 48 ≤ c.toNat ∧ c.toNat ≤ 57 := by
  rcases e : Lib.decDigits n with _ | ⟨c, r⟩
  · have := dec_len_pos n; rw [e] at this; simp at this
  · exact ⟨c, r, rfl, (isD_dec n) c (by rw [e]; simp)⟩
theorem parse_itoa (n : Int) (h0 : -9223372036854775808 ≤ n) (h1 : n ≤ 9223372036854775807) : Lib.parseIntB 64 (Lib.itoa n) = .ok n := by
  have h63 : (2 : Nat) ^ (64 - 1) = 9223372036854775808 := by decide
  by_cases hn : n < 0
  · obtain ⟨u, rfl⟩ : ∃ u : Nat, n = -(u : Int) := ⟨n.natAbs, by omega⟩
    have h45 : (45 : UInt8).toNat = 45 := rfl
    rw [itoa_m u (by omega), Lib.parseIntB]
    simp only [h45, or_true, if_true, parse_dec u (by omega), h63, not_true, false_and, if_false, true_and]
    rw [if_neg (by omega)]
  · obtain ⟨u, rfl⟩ : ∃ u : Nat, n = (u : Int) := ⟨n.toNat, by omega⟩
    obtain ⟨c, r, e, c1, c2⟩ := dec_first u
    have hp := parse_dec u (by omega)
    rw [itoa_n, e] at *
    rw [Lib.parseIntB]
    have n2 : ¬ c.toNat = 45 := by omega
    have n3 : ¬ c.toNat = 43 := by omega
    simp only [h63, n2, n3, or_self, not_false_iff, true_and, false_and, if_false]
    rw [hp]
    show (if 9223372036854775808 ≤ u then Lib.NumEnd.range else Lib.NumEnd.ok (u : Int)) = _
    rw [if_neg (by omega)]
end Go.Proofs.YtdelgjdplmennaaDoor.P

namespace Go.Proofs.YtdelgjdplmennaaDoor.P
open Go.RowKit Go.Proofs.YtdelgjdplmennaaDoorW.PrintWords
def neg (l : List UInt8) : Bool := l.head? == some 45
def mag (l : List UInt8) : List UInt8 := if neg l then l.tail else l
def str (l : List UInt8) : ByteArray := ⟨l.toArray⟩
theorem str_list (l : List UInt8) : (str l).data.toList = l := by simp [str]
theorem str_self (s : ByteArray) : str s.data.toList = s := rfl
theorem str_size (l : List UInt8) : (str l).size = l.length := by rw [size_list, str_list]
theorem str_toList (l : List UInt8) : (str l).toList = l := by rw [toList_data, str_list]
theorem cut1 (s : ByteArray) : s.extract 1 s.size = str s.data.toList.tail := by
  have h := extract_list s 1 s.size
  rw [size_list, List.take_length, List.drop_one] at h
  apply ByteArray.ext
  apply Array.toList_inj.1
  rw [str_list, ← h, size_list]
theorem bt0 (s : ByteArray) (c : UInt8) (t : List UInt8) (h : s.data.toList = c :: t) : bt s 0 = (c.toNat : Int) := bt_mid s [] t c h
theorem c45 (c : UInt8) : (c.toNat : Int) = 45 ↔ c = 45 := by
  have h : (45 : UInt8).toNat = 45 := rfl
  constructor
  · intro e; exact UInt8.toNat_inj.1 (by omega)
  · intro e; rw [e]; rfl
theorem mag_le (l : List UInt8) : (mag l).length ≤ l.length := by
  unfold mag
  split
  · rw [List.length_tail]; omega
  · exact Nat.le_refl _
theorem split_f (s : ByteArray) : whole_split.f s = some (neg s.data.toList, str (mag s.data.toList)) := by
  unfold whole_split.f
  have h1 := size_list s
  rcases e : s.data.toList with _ | ⟨c, t⟩
  · rw [e, List.length_nil] at h1
    rw [if_neg (by omega)]
    have : s = str [] := by rw [← e]; exact (str_self s).symm
    rw [this]
    rfl
  · rw [e, List.length_cons] at h1
    rw [if_pos (by omega), if_pos (by omega), bt0 s c t e]
    by_cases hc : c = 45
    · subst hc
      rw [if_pos (by rfl), if_pos (by omega), cut1, e]
      rfl
    · rw [if_neg (fun h => hc ((c45 c).1 h))]
      have hn : neg (c :: t) = false := by
        unfold neg
        rw [List.head?_cons, beq_eq_false_iff_ne]
        intro h; exact hc (by simpa using h)
      have hs : s = str (c :: t) := by rw [← e]; exact (str_self s).symm
      rw [hn, mag, hn, if_neg (by decide)]
      congr 2
def rightb (l : List UInt8) : Bool := !(neg l && mag l == [48]) && (canb (mag l) && decide ((mag l).length ≤ 400))
theorem wcheck_f (s : ByteArray) (hs : s.size < 4611686018427387904) : Ev (fun k => whole_Check.f k s) (if rightb s.data.toList = true then 0 else 2) := by
  have hm := mag_le s.data.toList
  rw [← size_list] at hm
  have hc := check_f (str (mag s.data.toList)) (by rw [str_size]; omega)
  rw [str_list, str_size] at hc
  unfold whole_Check.f
  rw [split_f]
  have fin0 : ∀ b : Bool, b = true ∨ (b = false) → (∀ h : (b && mag s.data.toList == [48]) = false, Ev (fun k => (decimal_Check.f k (str (mag s.data.toList))).bind fun t444 => (if t444 = 0 then (some (0 : Int)) else (some 2))) (if (!(b && mag s.data.toList == [48]) && (canb (mag s.data.toList) && decide ((mag s.data.toList).length ≤ 400))) = true then 0 else 2)) := fun b _ h => by
    rw [h]
    refine Ev.bind hc ?_
    by_cases h2 : canb (mag s.data.toList) = true ∧ (mag s.data.toList).length ≤ 400
    · rw [if_pos h2]
      have e2 : (!false && (canb (mag s.data.toList) && decide ((mag s.data.toList).length ≤ 400))) = true := by
        rw [h2.1, decide_eq_true h2.2]; rfl
      rw [if_pos e2]
      exact Ev.pos rfl (Ev.now _)
    · rw [if_neg h2]
      have e2 : ¬ (!false && (canb (mag s.data.toList) && decide ((mag s.data.toList).length ≤ 400))) = true := by
        intro h3
        rw [Bool.not_false, Bool.true_and, Bool.and_eq_true, decide_eq_true_eq] at h3
        exact h2 h3
      rw [if_neg e2]
      exact Ev.neg (by decide) (Ev.now _)
  refine Ev.bind (Ev.now (neg s.data.toList, str (mag s.data.toList))) ?_
  unfold rightb
  by_cases hn : neg s.data.toList = true
  · refine Ev.pos hn ?_
    by_cases h0 : mag s.data.toList = [48]
    · refine Ev.pos (by show (str (mag s.data.toList)).toList = [48]; rw [str_toList, h0]) ?_
      rw [hn, h0]
      exact Ev.now _
    · refine Ev.neg (by show ¬ (str (mag s.data.toList)).toList = [48]; rw [str_toList]; exact h0) ?_
      exact fin0 _ (by rw [hn]; exact Or.inl rfl) (by rw [hn, Bool.true_and, beq_eq_false_iff_ne]; exact h0)
  · have hn2 : neg s.data.toList = false := by simpa using hn
    refine Ev.neg hn ?_
    exact fin0 _ (by rw [hn2]; exact Or.inr rfl) (by rw [hn2]; rfl)
theorem canon_end2 (s : ByteArray) (h : IsD s.data.toList) : (if (s.size : Int) > 0 then (if 0 < (s.size : Int) then (if bt s 0 = 48 then some ((s.size : Int) == 1) else some true) else none) else some false) = some (canb s.data.toList) := by
  have h1 := size_list s
  have h2 := (all_dig s.data.toList).2 h
  unfold canb
  rw [h2]
  rcases e : s.data.toList with _ | ⟨c, t⟩
  · rw [e, List.length_nil] at h1
    rw [if_neg (by omega)]
    rfl
  · rw [e, List.length_cons] at h1
    rw [if_pos (by omega), if_pos (by omega), bt0 s c t e]
    have h48 : (48 : UInt8).toNat = 48 := rfl
    by_cases hc : c = 48
    · subst hc
      rw [if_pos (by rfl), h1]
      rcases t with _ | ⟨d, t⟩
      · rfl
      · simp
        omega
    · rw [if_neg (fun h3 => hc (UInt8.toNat_inj.1 (by omega)))]
      have e3 : ((c :: t).head? != some 48) = true := by
        rw [List.head?_cons, bne_iff_ne]
        intro h3; exact hc (by simpa using h3)
      rw [e3]
      rcases t with _ | ⟨d, t⟩
      · rfl
      · simp
theorem r2canon_l0 (s : ByteArray) (hs : s.size < 4611686018427387904) : ∀ (Q P : List UInt8), s.data.toList = P ++ Q → IsD P →
    Ev (fun k => schismaref02_Canonical.l0 k s (P.length : Int)) (canb s.data.toList)
  | [], P, h, hP => by
    rw [List.append_nil] at h
    have h1 := size_list s
    rw [h] at h1
    refine Ev.step (f := fun _ => some (canb s.data.toList)) (fun k => ?_) (Ev.now _)
    have := canon_end2 s (by rw [h]; exact hP)
    rw [schismaref02_Canonical.l0, if_neg (by omega)]
    exact this
  | c :: Q, P, h, hP => by
    have h1 := size_mid s P Q c h
    have e1 := bt_mid s P Q c h
    have e3 := wsucc (a := P.length) ⟨by omega⟩
    by_cases hc : 48 ≤ c.toNat ∧ c.toNat ≤ 57
    · refine Ev.step (f := fun k => schismaref02_Canonical.l0 k s ((P.length + 1 : Nat) : Int)) (fun k => ?_) ?_
      · simp only [schismaref02_Canonical.l0, e1, e3]
        clear e1 e3
        simp (disch := omega) only [if_pos, if_neg]
      · have := r2canon_l0 s hs Q (P ++ [c]) (by rw [h]; simp) (hP.append (IsD.cons hc IsD.nil))
        simpa using this
    · refine Ev.step (f := fun _ => some false) (fun k => ?_) (Ev.eq (Ev.now _) (by rw [h, canon_bad hc]))
      simp only [schismaref02_Canonical.l0, e1, e3]
      clear e1 e3
      by_cases h48 : c.toNat < 48
      · simp (disch := omega) only [if_pos]
      · simp (disch := omega) only [if_pos, if_neg]
theorem r2canon_j1 (s : ByteArray) (hs : s.size < 4611686018427387904) : Ev (fun k => schismaref02_Canonical.j1 k s) (canb s.data.toList) :=
  Ev.step (fun k => by rw [schismaref02_Canonical.j1]; rfl) (r2canon_l0 s hs s.data.toList [] rfl IsD.nil)
theorem r2canon_f (s : ByteArray) (hs : s.size < 4611686018427387904) : Ev (fun k => schismaref02_Canonical.f k s) (!(neg s.data.toList && mag s.data.toList == [48]) && canb (mag s.data.toList)) := by
  have h1 := size_list s
  have plain : neg s.data.toList = false → Ev (fun k => schismaref02_Canonical.j0 k s false) (!(neg s.data.toList && mag s.data.toList == [48]) && canb (mag s.data.toList)) := fun hn => by
    have hm : mag s.data.toList = s.data.toList := by unfold mag; rw [hn]; rfl
    rw [hn, hm]
    exact Ev.step (fun k => by rw [schismaref02_Canonical.j0, if_neg (by decide)]) (r2canon_j1 s hs)
  unfold schismaref02_Canonical.f
  rcases e : s.data.toList with _ | ⟨c, t⟩
  · rw [e, List.length_nil] at h1
    have := plain (by rw [e]; rfl)
    rw [e] at this
    exact Ev.neg (by omega) this
  · have hsz : s.size = t.length + 1 := by rw [h1, e]; rfl
    refine Ev.pos (by omega) (Ev.pos (by omega) ?_)
    rw [bt0 s c t e]
    by_cases hc : c = 45
    · subst hc
      have hb : (((45 : UInt8).toNat : Int) == 45) = true := rfl
      have hn : neg (45 :: t) = true := rfl
      have hm : mag (45 :: t) = t := rfl
      rw [hb, hn, hm]
      by_cases ht : t = [48]
      · refine Ev.step (f := fun _ => some false) (fun k => ?_) (Ev.eq (Ev.now _) (by rw [ht]; rfl))
        rw [schismaref02_Canonical.j0, if_pos rfl, if_pos (by omega), cut1, e, if_pos (by rw [str_toList]; exact ht)]
      · have hb2 : (t == [48]) = false := by rw [beq_eq_false_iff_ne]; exact ht
        have := r2canon_j1 (str t) (by rw [str_size]; omega)
        rw [str_list] at this
        rw [hb2]
        refine Ev.step (fun k => ?_) this
        rw [schismaref02_Canonical.j0, if_pos rfl, if_pos (by omega), cut1, e, if_neg (by rw [str_toList]; exact ht)]
        rfl
    · have hb : ((c.toNat : Int) == 45) = false := by rw [beq_eq_false_iff_ne]; exact fun h => hc ((c45 c).1 h)
      have hn : neg (c :: t) = false := by
        unfold neg
        rw [List.head?_cons, beq_eq_false_iff_ne]
        intro h; exact hc (by simpa using h)
      have := plain (by rw [e]; exact hn)
      rw [e] at this
      rw [hb]
      exact this
theorem digits_f (s : ByteArray) : schismaref02_digits.f s = some (str (mag s.data.toList)) := by
  have h := split_f s
  unfold whole_split.f at h
  unfold schismaref02_digits.f
  by_cases h0 : (s.size : Int) > 0
  · rw [if_pos h0, if_pos h0] at h ⊢
    by_cases h45 : bt s 0 = 45
    · rw [if_pos h45, if_pos (by omega)] at h ⊢
      injection h with h
      injection h with _ h2
      rw [h2]
    · rw [if_neg h45] at h ⊢
      injection h with h
      injection h with _ h2
      rw [← h2]
  · rw [if_neg h0] at h ⊢
    injection h with h
    injection h with _ h2
    rw [← h2]
theorem right_f (s : ByteArray) (hs : s.size < 4611686018427387904) : Ev (fun k => schismaref02_Right.f k s) (rightb s.data.toList) := by
  unfold schismaref02_Right.f rightb
  refine Ev.bind (r2canon_f s hs) ?_
  rw [digits_f]
  rcases h : (!(neg s.data.toList && mag s.data.toList == [48]) && canb (mag s.data.toList)) with _ | _
  · refine Ev.neg (by decide) (Ev.eq (Ev.now _) ?_)
    rw [← Bool.and_assoc, h]; rfl
  · refine Ev.pos rfl (Ev.eq (Ev.now _) ?_)
    rw [← Bool.and_assoc, h, Bool.true_and]
    rw [decide_eq_decide, str_size]
    omega
theorem itoa_f (n : Int) (h0 : -9223372036854775808 ≤ n) (h1 : n ≤ 9223372036854775807) : strconv_Itoa.f n = some (Z n) := by
  unfold strconv_Itoa.f
  rw [if_pos ⟨h0, h1⟩]
  rfl
theorem wof_f (n : Int) (h0 : -9223372036854775808 ≤ n) (h1 : n ≤ 9223372036854775807) : whole_Of.f n = some (Z n) := by
  unfold whole_Of.f
  rw [itoa_f n h0 h1]
  rfl
theorem r2of_f (n : Int) (h0 : -9223372036854775808 ≤ n) (h1 : n ≤ 9223372036854775807) : schismaref02_Of.f n = some (Z n) := by
  unfold schismaref02_Of.f
  rw [itoa_f n h0 h1]
  rfl
theorem Z_size (n : Int) (h0 : -9223372036854775808 ≤ n) (h1 : n ≤ 9223372036854775807) : (Z n).size ≤ 21 := by
  rw [size_list, Z_list]
  exact Lib.itoa_length_le n h0 h1
theorem wsmall_f (n : Int) (h0 : -9223372036854775808 ≤ n) (h1 : n ≤ 9223372036854775807) : whole_Small.f (Z n) = some (n, true) := by
  have := Z_size n h0 h1
  unfold whole_Small.f
  rw [if_pos (by omega), Z_list, parse_itoa n h0 h1]
end Go.Proofs.YtdelgjdplmennaaDoor.P

namespace Go.Proofs.YtdelgjdplmennaaDoor.Pure
open Go.RowKit Go.Proofs.YtdelgjdplmennaaDoor.P Go.Proofs.YtdelgjdplmennaaDoorW.PrintWords Go.Proofs.YtdelgjdplmennaaDoorW.PrintLast
set_option maxRecDepth 100000 in
theorem wknown_ev : Ev (fun k => schismalaw02_known.f k) true := Ev.of (k := 200) (fun k => schismalaw02_known.mono k) (by decide +kernel)
theorem checks_j1 (s : ByteArray) (n x : Int) (h0 : -9223372036854775808 ≤ n) (h1 : n ≤ 9223372036854775807) (hc : Ev (fun k => whole_Check.f k s) x) : Ev (fun k => schismalaw02_WholeChecks.j1 k s n x) true := by
  refine Ev.step (f := fun k => (whole_Check.f k s).bind fun t453 => (if t453 = x then some true else some false)) (fun k => ?_) (Ev.bind hc (Ev.pos rfl (Ev.now _)))
  rw [schismalaw02_WholeChecks.j1]
  simp only [wof_f n h0 h1, r2of_f n h0 h1, wsmall_f n h0 h1, Option.bind_some, if_true, BEq.rfl]
theorem WholeChecks : schismalaw02_WholeChecks.Pure := by
  intro s n hs hn
  obtain ⟨n0, n1⟩ := wf_i64 hn
  refine Ev.rounds (Ev.bind wknown_ev (Ev.pos rfl ?_))
  by_cases h : (s.size : Int) > 420
  · rw [decide_eq_true h]
    refine Ev.step (f := fun k => (schismalaw02_known.f k).bind fun t => some t) (fun k => ?_) (Ev.bind wknown_ev (Ev.now _))
    rw [schismalaw02_WholeChecks.j0, if_pos rfl]
  · rw [decide_eq_false h]
    have hc := wcheck_f s (by omega)
    refine Ev.step (f := fun k => (schismaref02_Right.f k s).bind fun t449 => (if t449 = true then (schismalaw02_WholeChecks.j1 k s n 0) else (schismalaw02_WholeChecks.j1 k s n 2))) (fun k => ?_) (Ev.bind (right_f s (by omega)) ?_)
    · rw [schismalaw02_WholeChecks.j0, if_neg (by decide)]
    · by_cases hr : rightb s.data.toList = true
      · rw [if_pos hr] at hc
        exact Ev.pos hr (checks_j1 s n 0 n0 n1 hc)
      · rw [if_neg hr] at hc
        exact Ev.neg hr (checks_j1 s n 2 n0 n1 hc)
end Go.Proofs.YtdelgjdplmennaaDoor.Pure
