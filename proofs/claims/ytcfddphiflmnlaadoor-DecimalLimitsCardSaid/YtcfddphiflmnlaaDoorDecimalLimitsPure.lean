/- The printed functions as operations on numbers, and the law's answer: true at every input. Conditions: those of each theorem; the law's own has the row's bounds alone. -/
import Derived.Lib.ItoaNum
import Derived.Test.YtcfddphiflmnlaaDoorDecimalLimitsF5
import Derived.Test.YtcfddphiflmnlaaDoorDecimalLimitsWPlus

namespace Go.Proofs.YtcfddphiflmnlaaDoor.P
open Go.RowKit Go.Proofs.YtcfddphiflmnlaaDoorW.PrintWords
def Ok (l : List Nat) : Prop := ∀ a, a ∈ l → a < 1000000000
theorem Ok.nil : Ok [] := fun _ h => by cases h
theorem Ok.cons {a : Nat} {l : List Nat} (ha : a < 1000000000) (hl : Ok l) : Ok (a :: l) := fun x hx => by
  rcases List.mem_cons.1 hx with rfl | hx
  · exact ha
  · exact hl x hx
theorem Ok.head {a : Nat} {l : List Nat} (h : Ok (a :: l)) : a < 1000000000 := h a List.mem_cons_self
theorem Ok.append {l m : List Nat} (hl : Ok l) (hm : Ok m) : Ok (l ++ m) := fun x hx => by
  rcases List.mem_append.1 hx with hx | hx
  · exact hl x hx
  · exact hm x hx
theorem Ok.set {l : List Nat} (h : Ok l) (i x : Nat) (hx : x < 1000000000) : Ok (l.set i x) := fun a ha => by
  rcases List.mem_or_eq_of_mem_set ha with h1 | h1
  · exact h a h1
  · omega
theorem w64 {n : Int} (h0 : -9223372036854775808 ≤ n) (h1 : n ≤ 9223372036854775807) : wrap64 n = n := by unfold wrap64; omega
theorem tmodn (a b : Nat) : Int.tmod (a : Int) (b : Int) = ((a % b : Nat) : Int) := (Int.ofNat_tmod a b).symm
structure Sm (n : Nat) : Prop where
  out : n < 4611686018427387904
theorem wsucc {a : Nat} (h : Sm a) : wrap64 ((a : Int) + 1) = ((a + 1 : Nat) : Int) := by have := h.out; rw [w64] <;> omega
end Go.Proofs.YtcfddphiflmnlaaDoor.P

namespace Go.Proofs.YtcfddphiflmnlaaDoor.P
open Go.RowKit Go.Proofs.YtcfddphiflmnlaaDoorW.PrintWords
theorem Ev.eq {α : Type} {g : Nat → Option α} {r r' : α} (h : Ev g r) (e : r = r') : Ev g r' := e ▸ h
end Go.Proofs.YtcfddphiflmnlaaDoor.P

namespace Go.Proofs.YtcfddphiflmnlaaDoor.P
open Go.RowKit Go.Proofs.YtcfddphiflmnlaaDoorW.PrintWords
def IsD (l : List UInt8) : Prop := ∀ c, c ∈ l → 48 ≤ c.toNat ∧ c.toNat ≤ 57
def Can (l : List UInt8) : Prop := IsD l ∧ (l.length = 1 ∨ (1 < l.length ∧ l.head? ≠ some 48))
theorem IsD.nil : IsD [] := fun _ h => by cases h
theorem IsD.cons {c : UInt8} {l : List UInt8} (h1 : 48 ≤ c.toNat ∧ c.toNat ≤ 57) (h2 : IsD l) : IsD (c :: l) := fun x hx => by
  rcases List.mem_cons.1 hx with rfl | hx
  · exact h1
  · exact h2 x hx
theorem IsD.append {l m : List UInt8} (hl : IsD l) (hm : IsD m) : IsD (l ++ m) := fun x hx => by
  rcases List.mem_append.1 hx with hx | hx
  · exact hl x hx
  · exact hm x hx
end Go.Proofs.YtcfddphiflmnlaaDoor.P

namespace Go.Proofs.YtcfddphiflmnlaaDoor.P
open Go.RowKit Go.Proofs.YtcfddphiflmnlaaDoorW.PrintWords
end Go.Proofs.YtcfddphiflmnlaaDoor.P

namespace Go.Proofs.YtcfddphiflmnlaaDoor.P
open Go.RowKit Go.Proofs.YtcfddphiflmnlaaDoorW.PrintWords
def B8 (l : List UInt8) : List Int := l.map fun b => (b.toNat : Int)
theorem rd_B8 (P Q : List UInt8) (c : UInt8) (i : Nat) (h : P.length = i) : rd (B8 (P ++ c :: Q)) (i : Int) = (c.toNat : Int) := by
  subst h
  simp [rd, B8, List.getD_eq_getElem?_getD]
theorem size_list (s : ByteArray) : s.size = s.data.toList.length := (data_length s).symm
end Go.Proofs.YtcfddphiflmnlaaDoor.P

namespace Go.Proofs.YtcfddphiflmnlaaDoor.P
open Go.RowKit Go.Proofs.YtcfddphiflmnlaaDoorW.PrintWords
theorem bt_mid (s : ByteArray) (P Q : List UInt8) (c : UInt8) (h : s.data.toList = P ++ c :: Q) : bt s (P.length : Int) = (c.toNat : Int) := by
  rw [← rd_bytesOf, show bytesOf s = B8 s.data.toList from rfl, h, rd_B8 _ _ _ _ rfl]
theorem size_mid (s : ByteArray) (P Q : List UInt8) (c : UInt8) (h : s.data.toList = P ++ c :: Q) : s.size = P.length + (Q.length + 1) := by
  rw [size_list, h]; simp
def digB (c : UInt8) : Bool := decide (48 ≤ c.toNat ∧ c.toNat ≤ 57)
def canb (l : List UInt8) : Bool := l.all digB && (decide (l.length = 1) || (decide (1 < l.length) && (l.head? != some 48)))
theorem all_dig (l : List UInt8) : l.all digB = true ↔ IsD l := by
  simp [List.all_eq_true, digB, IsD]
theorem canb_iff (l : List UInt8) : canb l = true ↔ Can l := by
  unfold canb Can
  rw [Bool.and_eq_true, all_dig]
  simp
theorem canon_bad {P Q : List UInt8} {c : UInt8} (h : ¬ (48 ≤ c.toNat ∧ c.toNat ≤ 57)) : canb (P ++ c :: Q) = false := by
  have : digB c = false := by simpa [digB] using h
  simp [canb, List.all_append, this]
theorem canon_end (s : ByteArray) (h : IsD s.data.toList) : (if (s.size : Int) = 1 then some true else if (s.size : Int) > 1 then (if 0 < (s.size : Int) then some (bt s 0 != 48) else none) else some false) = some (canb s.data.toList) := by
  have h1 := size_list s
  have h2 := (all_dig s.data.toList).2 h
  unfold canb
  rw [h2, ← h1]
  by_cases e1 : s.size = 1
  · simp [e1]
  · by_cases e2 : 1 < s.size
    · rw [if_neg (by omega), if_pos (by omega), if_pos (by omega)]
      rcases e : s.data.toList with _ | ⟨c, t⟩
      · rw [e, List.length_nil] at h1; omega
      · have e3 := bt_mid s [] t c e
        have e4 : bt s 0 = (c.toNat : Int) := e3
        rw [e4]
        have e5 : ((c.toNat : Int) != 48) = (some c != some (48 : UInt8)) := by
          rw [Bool.eq_iff_iff]
          simp only [bne_iff_ne, ne_eq, Option.some.injEq]
          constructor
          · intro h3 h4; subst h4; exact h3 rfl
          · intro h3 h4
            apply h3
            apply UInt8.toNat_inj.1
            have : (48 : UInt8).toNat = 48 := rfl
            omega
        simp [e1, e2, e5]
    · rw [if_neg (by omega), if_neg (by omega)]
      simp [e1, e2]
theorem canonical_l0 (s : ByteArray) (hs : s.size < 4611686018427387904) : ∀ (Q P : List UInt8), s.data.toList = P ++ Q → IsD P →
    Ev (fun k => decimal_Canonical.l0 k s (bytesOf s) (s.size : Int) (P.length : Int)) (canb s.data.toList)
  | [], P, h, hP => by
    rw [List.append_nil] at h
    have h1 := size_list s
    rw [h] at h1
    refine Ev.step (f := fun _ => some (canb s.data.toList)) (fun k => ?_) (Ev.now _)
    have := canon_end s (by rw [h]; exact hP)
    simp (disch := omega) only [decimal_Canonical.l0, if_neg]
    exact this
  | c :: Q, P, h, hP => by
    have h1 := size_mid s P Q c h
    have e1 : rd (bytesOf s) (P.length : Int) = (c.toNat : Int) := by rw [rd_bytesOf, bt_mid s P Q c h]
    have e2 : (bytesOf s).length = s.size := bytesOf_length s
    have e3 := wsucc (a := P.length) ⟨by omega⟩
    by_cases hc : 48 ≤ c.toNat ∧ c.toNat ≤ 57
    · refine Ev.step (f := fun k => decimal_Canonical.l0 k s (bytesOf s) (s.size : Int) ((P.length + 1 : Nat) : Int)) (fun k => ?_) ?_
      · simp only [decimal_Canonical.l0, e1, e2, e3]
        clear e1 e2 e3
        simp (disch := omega) only [if_pos, if_neg]
      · have := canonical_l0 s hs Q (P ++ [c]) (by rw [h]; simp) (hP.append (IsD.cons hc IsD.nil))
        simpa using this
    · refine Ev.step (f := fun _ => some false) (fun k => ?_) (Ev.eq (Ev.now _) (by rw [h, canon_bad hc]))
      simp only [decimal_Canonical.l0, e1, e2, e3]
      clear e1 e2 e3
      by_cases h48 : c.toNat < 48
      · simp (disch := omega) only [if_pos]
      · simp (disch := omega) only [if_pos, if_neg]
theorem canonical_f (s : ByteArray) (hs : s.size < 4611686018427387904) : Ev (fun k => decimal_Canonical.f k s) (canb s.data.toList) := by
  unfold decimal_Canonical.f
  have := canonical_l0 s hs s.data.toList [] rfl IsD.nil
  simp (disch := omega) only [if_pos, Option.bind_some, bytesOf_length]
  exact this
theorem check_f (s : ByteArray) (hs : s.size < 4611686018427387904) : Ev (fun k => decimal_Check.f k s) (if canb s.data.toList = true ∧ s.size ≤ 400 then 0 else 2) := by
  unfold decimal_Check.f
  refine Ev.bind (canonical_f s hs) ?_
  by_cases h : canb s.data.toList = true
  · rw [h]
    by_cases h4 : s.size ≤ 400
    · simp (disch := omega) only [if_pos, if_neg, h4, and_self]
      exact Ev.now _
    · simp (disch := omega) only [if_pos, if_neg, h4, and_false]
      exact Ev.now _
  · simp only [h, if_neg, false_and]
    exact Ev.now _
end Go.Proofs.YtcfddphiflmnlaaDoor.P

namespace Go.Proofs.YtcfddphiflmnlaaDoor.P
open Go.RowKit Go.Proofs.YtcfddphiflmnlaaDoorW.PrintWords
end Go.Proofs.YtcfddphiflmnlaaDoor.P

namespace Go.Proofs.YtcfddphiflmnlaaDoor.P
open Go.RowKit Go.Proofs.YtcfddphiflmnlaaDoorW.PrintWords
theorem strOfNums_B8 (l : List UInt8) : strOfNums (B8 l) = ⟨l.toArray⟩ := by
  have e : ((fun n : Int => UInt8.ofNat n.toNat) ∘ fun b : UInt8 => (b.toNat : Int)) = id := funext fun b => by simp
  rw [strOfNums, B8, List.map_map, e, List.map_id]
theorem wf_u8 {x : Int} (h : (Lit.int .u8 x).wf = true) : 0 ≤ x ∧ x ≤ 255 := by
  have h1 : IntKind.u8.min = 0 := by decide
  have h2 : IntKind.u8.max = 255 := by decide
  simpa only [Lit.wf, h1, h2, Bool.and_eq_true, decide_eq_true_eq] using h
end Go.Proofs.YtcfddphiflmnlaaDoor.P

namespace Go.Proofs.YtcfddphiflmnlaaDoor.P
open Go.RowKit Go.Proofs.YtcfddphiflmnlaaDoorW.PrintWords
set_option maxRecDepth 100000 in
theorem known_ev : Ev (fun k => schismalaw01_known.f k) true := Ev.of (k := 200) (fun k => schismalaw01_known.mono k) (by decide +kernel)
end Go.Proofs.YtcfddphiflmnlaaDoor.P

namespace Go.Proofs.YtcfddphiflmnlaaDoor.P
open Go.RowKit Go.Proofs.YtcfddphiflmnlaaDoorW.PrintWords
end Go.Proofs.YtcfddphiflmnlaaDoor.P

namespace Go.Proofs.YtcfddphiflmnlaaDoor.P
open Go.RowKit Go.Proofs.YtcfddphiflmnlaaDoorW.PrintWords
end Go.Proofs.YtcfddphiflmnlaaDoor.P

namespace Go.Proofs.YtcfddphiflmnlaaDoor.Pure
open Go.RowKit Go.Proofs.YtcfddphiflmnlaaDoor.P Go.Proofs.YtcfddphiflmnlaaDoorW.PrintWords Go.Proofs.YtcfddphiflmnlaaDoorW.PrintLast
theorem nines (n : Nat) : B8 (List.replicate n 57) = List.replicate n 57 := by simp [B8]
theorem nines_can {n : Nat} (h : 2 ≤ n) : canb (List.replicate n 57) = true := by
  rw [canb_iff]
  refine ⟨fun c hc => ?_, Or.inr ⟨by simp; omega, ?_⟩⟩
  · rw [(List.mem_replicate.1 hc).2]; decide
  · rcases n with _ | n
    · omega
    · rw [List.replicate_succ]; simp
theorem zero_nines_can {n : Nat} (h : 1 ≤ n) : canb (48 :: List.replicate n 57) = false := by
  rcases e : canb (48 :: List.replicate n 57) with _ | _
  · rfl
  · have := (canb_iff _).1 e
    rcases this.2 with h1 | h1
    · simp at h1; omega
    · exact absurd rfl h1.2
theorem limits_end (n : Nat) (h0 : 395 ≤ n) (h1 : n ≤ 405) : Ev (fun k => schismalaw01_DecimalLimits.l0 k (n : Int) (List.replicate n 57) (n : Int)) true := by
  have hs : strOfNums (List.replicate n 57) = ⟨(List.replicate n 57).toArray⟩ := by rw [← nines, strOfNums_B8]
  have hl : (⟨(List.replicate n (57 : UInt8)).toArray⟩ : ByteArray).data.toList = List.replicate n 57 := rfl
  generalize (⟨(List.replicate n (57 : UInt8)).toArray⟩ : ByteArray) = s at hs hl
  have hsz : s.size = n := by rw [size_list, hl]; simp
  have c1 := canonical_f s (by omega)
  have c2 := check_f s (by omega)
  have hl3 : ((⟨#[48]⟩ : ByteArray) ++ s).data.toList = 48 :: List.replicate n 57 := by simp [hl]
  have hs3 : ((⟨#[48]⟩ : ByteArray) ++ s).size = n + 1 := by rw [size_list, hl3]; simp
  have c3 := check_f ((⟨#[48]⟩ : ByteArray) ++ s) (by omega)
  rw [hl3, zero_nines_can (by omega)] at c3
  rw [hl, nines_can (by omega)] at c1 c2
  simp only [Bool.false_eq_true, false_and, if_false] at c3
  simp only [true_and, hsz] at c2
  refine Ev.step (f := fun k => ((decimal_Canonical.f k s).bind fun t391 => (if t391 = true then ((decimal_Check.f k ((⟨#[48]⟩ : ByteArray) ++ s)).bind fun t392 => (schismalaw01_DecimalLimits.j1 k (n : Int) s (t392 != 2))) else (schismalaw01_DecimalLimits.j1 k (n : Int) s true)))) (fun k => ?_) (Ev.bind c1 ?_)
  · simp only [schismalaw01_DecimalLimits.l0, hs, decimal_Digits.f, Option.bind_some, hsz]
    clear c1 c2 c3
    simp (disch := omega) only [if_neg, if_pos, if_true]
  · simp only [if_true]
    refine Ev.bind c3 ?_
    rw [show ((2 : Int) != 2) = false from rfl]
    by_cases h4 : n ≤ 400
    · rw [if_pos h4] at c2
      refine Ev.step (f := fun k => (decimal_Check.f k s).bind fun t394 => (some (t394 == 0))) (fun k => ?_) (Ev.bind c2 (Ev.now _))
      clear c1 c2 c3
      simp (disch := omega) only [schismalaw01_DecimalLimits.j1, Bool.false_eq_true, if_false, if_neg]
    · rw [if_neg h4] at c2
      refine Ev.step (f := fun k => (decimal_Check.f k s).bind fun t394 => (some (t394 == 2))) (fun k => ?_) (Ev.bind c2 (Ev.now _))
      clear c1 c2 c3
      simp (disch := omega) only [schismalaw01_DecimalLimits.j1, Bool.false_eq_true, if_false, if_pos]
theorem limits_l0 (n : Nat) (h0 : 395 ≤ n) (h1 : n ≤ 405) : ∀ (j i : Nat), i + j = n → Ev (fun k => schismalaw01_DecimalLimits.l0 k (n : Int) (List.replicate i 57 ++ List.replicate j 0) (i : Int)) true
  | 0, i, h => by
    obtain rfl : i = n := by omega
    simpa using limits_end i h0 h1
  | j + 1, i, h => by
    refine Ev.step (f := fun k => schismalaw01_DecimalLimits.l0 k (n : Int) (List.replicate (i + 1) 57 ++ List.replicate j 0) ((i + 1 : Nat) : Int)) (fun k => ?_) (limits_l0 n h0 h1 j (i + 1) (by omega))
    have e1 := wsucc (a := i) ⟨by omega⟩
    have e2 : (List.replicate i (57 : Int) ++ List.replicate (j + 1) 0).set i 57 = List.replicate (i + 1) 57 ++ List.replicate j 0 := by
      rw [List.replicate_succ, List.set_append_right _ _ (by simp), List.length_replicate, Nat.sub_self, List.set_cons_zero, List.replicate_succ', List.append_assoc]
      rfl
    have e3 : (List.replicate i (57 : Int) ++ List.replicate (j + 1) 0).length = n := by simp; omega
    simp only [schismalaw01_DecimalLimits.l0, e1, Int.toNat_natCast, e2, e3]
    clear e1 e2 e3
    simp (disch := omega) only [if_pos]
theorem DecimalLimits : schismalaw01_DecimalLimits.Pure := by
  intro a0 h0
  obtain ⟨u0, u1⟩ := wf_u8 h0
  obtain ⟨u, rfl⟩ : ∃ u : Nat, a0 = u := ⟨a0.toNat, by omega⟩
  refine Ev.rounds (Ev.bind known_ev ?_)
  have e1 : Int.tmod (u : Int) 11 = ((u % 11 : Nat) : Int) := tmodn u 11
  have e2 : wrap64 (395 + wrap64 ((u % 11 : Nat) : Int)) = ((395 + u % 11 : Nat) : Int) := by
    rw [w64 (n := ((u % 11 : Nat) : Int)) (by omega) (by omega), w64 (by omega) (by omega)]; omega
  have key := limits_l0 (395 + u % 11) (by omega) (by omega) (395 + u % 11) 0 (by omega)
  simp only [if_true, e1, e2, Int.toNat_natCast]
  clear e1 e2
  simp (disch := omega) only [if_pos]
  simpa using key
end Go.Proofs.YtcfddphiflmnlaaDoor.Pure
