/- The printed functions as operations on numbers, and the law's answer: true at every input. Conditions: those of each theorem; the law's own has the row's bounds alone. -/
import Derived.Lib.ItoaNum
import Derived.Test.YtcfddphiflmnlaaDoorDecimalFormsF5
import Derived.Test.YtcfddphiflmnlaaDoorDecimalFormsWPlus

namespace Go.Proofs.YtcfddphiflmnlaaDoor.P
open Go.RowKit Go.Proofs.YtcfddphiflmnlaaDoorW.PrintWords
def Ok (l : List Nat) : Prop := ∀ a, a ∈ l → a < 1000000000
theorem Ok.nil : Ok [] := fun _ h => by cases h
theorem Ok.cons {a : Nat} {l : List Nat} (ha : a < 1000000000) (hl : Ok l) : Ok (a :: l) := fun x hx => by
  rcases List.mem_cons.1 hx with rfl | hx
  · exact ha
  · exact hl x hx
theorem Ok.head {a : Nat} {l : List Nat} (h : Ok (a :: l)) : a < 1000000000 := h a List.mem_cons_self
theorem Ok.append {l m : List Nat} (hl : Ok l) (hm : Ok m) : Ok (l ++ m) := fun x hx => by
  rcases List.mem_append.1 hx with hx | hx
  · exact hl x hx
  · exact hm x hx
theorem w64 {n : Int} (h0 : -9223372036854775808 ≤ n) (h1 : n ≤ 9223372036854775807) : wrap64 n = n := by unfold wrap64; omega
structure Sm (n : Nat) : Prop where
  out : n < 4611686018427387904
theorem wsucc {a : Nat} (h : Sm a) : wrap64 ((a : Int) + 1) = ((a + 1 : Nat) : Int) := by have := h.out; rw [w64] <;> omega
end Go.Proofs.YtcfddphiflmnlaaDoor.P

namespace Go.Proofs.YtcfddphiflmnlaaDoor.P
open Go.RowKit Go.Proofs.YtcfddphiflmnlaaDoorW.PrintWords
theorem Ev.eq {α : Type} {g : Nat → Option α} {r r' : α} (h : Ev g r) (e : r = r') : Ev g r' := e ▸ h
end Go.Proofs.YtcfddphiflmnlaaDoor.P

namespace Go.Proofs.YtcfddphiflmnlaaDoor.P
open Go.RowKit Go.Proofs.YtcfddphiflmnlaaDoorW.PrintWords
def IsD (l : List UInt8) : Prop := ∀ c, c ∈ l → 48 ≤ c.toNat ∧ c.toNat ≤ 57
theorem IsD.nil : IsD [] := fun _ h => by cases h
theorem IsD.cons {c : UInt8} {l : List UInt8} (h1 : 48 ≤ c.toNat ∧ c.toNat ≤ 57) (h2 : IsD l) : IsD (c :: l) := fun x hx => by
  rcases List.mem_cons.1 hx with rfl | hx
  · exact h1
  · exact h2 x hx
theorem IsD.append {l m : List UInt8} (hl : IsD l) (hm : IsD m) : IsD (l ++ m) := fun x hx => by
  rcases List.mem_append.1 hx with hx | hx
  · exact hl x hx
  · exact hm x hx
end Go.Proofs.YtcfddphiflmnlaaDoor.P

namespace Go.Proofs.YtcfddphiflmnlaaDoor.P
open Go.RowKit Go.Proofs.YtcfddphiflmnlaaDoorW.PrintWords
end Go.Proofs.YtcfddphiflmnlaaDoor.P

namespace Go.Proofs.YtcfddphiflmnlaaDoor.P
open Go.RowKit Go.Proofs.YtcfddphiflmnlaaDoorW.PrintWords
def B8 (l : List UInt8) : List Int := l.map fun b => (b.toNat : Int)
theorem rd_B8 (P Q : List UInt8) (c : UInt8) (i : Nat) (h : P.length = i) : rd (B8 (P ++ c :: Q)) (i : Int) = (c.toNat : Int) := by
  subst h
  simp [rd, B8, List.getD_eq_getElem?_getD]
theorem size_list (s : ByteArray) : s.size = s.data.toList.length := (data_length s).symm
end Go.Proofs.YtcfddphiflmnlaaDoor.P

namespace Go.Proofs.YtcfddphiflmnlaaDoor.P
open Go.RowKit Go.Proofs.YtcfddphiflmnlaaDoorW.PrintWords
theorem bt_mid (s : ByteArray) (P Q : List UInt8) (c : UInt8) (h : s.data.toList = P ++ c :: Q) : bt s (P.length : Int) = (c.toNat : Int) := by
  rw [← rd_bytesOf, show bytesOf s = B8 s.data.toList from rfl, h, rd_B8 _ _ _ _ rfl]
theorem size_mid (s : ByteArray) (P Q : List UInt8) (c : UInt8) (h : s.data.toList = P ++ c :: Q) : s.size = P.length + (Q.length + 1) := by
  rw [size_list, h]; simp
def digB (c : UInt8) : Bool := decide (48 ≤ c.toNat ∧ c.toNat ≤ 57)
def canb (l : List UInt8) : Bool := l.all digB && (decide (l.length = 1) || (decide (1 < l.length) && (l.head? != some 48)))
theorem all_dig (l : List UInt8) : l.all digB = true ↔ IsD l := by
  simp [List.all_eq_true, digB, IsD]
theorem canon_bad {P Q : List UInt8} {c : UInt8} (h : ¬ (48 ≤ c.toNat ∧ c.toNat ≤ 57)) : canb (P ++ c :: Q) = false := by
  have : digB c = false := by simpa [digB] using h
  simp [canb, List.all_append, this]
theorem canon_end (s : ByteArray) (h : IsD s.data.toList) : (if (s.size : Int) = 1 then some true else if (s.size : Int) > 1 then (if 0 < (s.size : Int) then some (bt s 0 != 48) else none) else some false) = some (canb s.data.toList) := by
  have h1 := size_list s
  have h2 := (all_dig s.data.toList).2 h
  unfold canb
  rw [h2, ← h1]
  by_cases e1 : s.size = 1
  · simp [e1]
  · by_cases e2 : 1 < s.size
    · rw [if_neg (by omega), if_pos (by omega), if_pos (by omega)]
      rcases e : s.data.toList with _ | ⟨c, t⟩
      · rw [e, List.length_nil] at h1; omega
      · have e3 := bt_mid s [] t c e
        have e4 : bt s 0 = (c.toNat : Int) := e3
        rw [e4]
        have e5 : ((c.toNat : Int) != 48) = (some c != some (48 : UInt8)) := by
          rw [Bool.eq_iff_iff]
          simp only [bne_iff_ne, ne_eq, Option.some.injEq]
          constructor
          · intro h3 h4; subst h4; exact h3 rfl
          · intro h3 h4
            apply h3
            apply UInt8.toNat_inj.1
            have : (48 : UInt8).toNat = 48 := rfl
            omega
        simp [e1, e2, e5]
    · rw [if_neg (by omega), if_neg (by omega)]
      simp [e1, e2]
theorem canonical_l0 (s : ByteArray) (hs : s.size < 4611686018427387904) : ∀ (Q P : List UInt8), s.data.toList = P ++ Q → IsD P →
    Ev (fun k => decimal_Canonical.l0 k s (bytesOf s) (s.size : Int) (P.length : Int)) (canb s.data.toList)
  | [], P, h, hP => by
    rw [List.append_nil] at h
    have h1 := size_list s
    rw [h] at h1
    refine Ev.step (f := fun _ => some (canb s.data.toList)) (fun k => ?_) (Ev.now _)
    have := canon_end s (by rw [h]; exact hP)
    simp (disch := omega) only [decimal_Canonical.l0, if_neg]
    exact this
  | c :: Q, P, h, hP => by
    have h1 := size_mid s P Q c h
    have e1 : rd (bytesOf s) (P.length : Int) = (c.toNat : Int) := by rw [rd_bytesOf, bt_mid s P Q c h]
    have e2 : (bytesOf s).length = s.size := bytesOf_length s
    have e3 := wsucc (a := P.length) ⟨by omega⟩
    by_cases hc : 48 ≤ c.toNat ∧ c.toNat ≤ 57
    · refine Ev.step (f := fun k => decimal_Canonical.l0 k s (bytesOf s) (s.size : Int) ((P.length + 1 : Nat) : Int)) (fun k => ?_) ?_
      · simp only [decimal_Canonical.l0, e1, e2, e3]
        clear e1 e2 e3
        simp (disch := omega) only [if_pos, if_neg]
      · have := canonical_l0 s hs Q (P ++ [c]) (by rw [h]; simp) (hP.append (IsD.cons hc IsD.nil))
        simpa using this
    · refine Ev.step (f := fun _ => some false) (fun k => ?_) (Ev.eq (Ev.now _) (by rw [h, canon_bad hc]))
      simp only [decimal_Canonical.l0, e1, e2, e3]
      clear e1 e2 e3
      by_cases h48 : c.toNat < 48
      · simp (disch := omega) only [if_pos]
      · simp (disch := omega) only [if_pos, if_neg]
theorem canonical_f (s : ByteArray) (hs : s.size < 4611686018427387904) : Ev (fun k => decimal_Canonical.f k s) (canb s.data.toList) := by
  unfold decimal_Canonical.f
  have := canonical_l0 s hs s.data.toList [] rfl IsD.nil
  simp (disch := omega) only [if_pos, Option.bind_some, bytesOf_length]
  exact this
theorem check_f (s : ByteArray) (hs : s.size < 4611686018427387904) : Ev (fun k => decimal_Check.f k s) (if canb s.data.toList = true ∧ s.size ≤ 400 then 0 else 2) := by
  unfold decimal_Check.f
  refine Ev.bind (canonical_f s hs) ?_
  by_cases h : canb s.data.toList = true
  · rw [h]
    by_cases h4 : s.size ≤ 400
    · simp (disch := omega) only [if_pos, if_neg, h4, and_self]
      exact Ev.now _
    · simp (disch := omega) only [if_pos, if_neg, h4, and_false]
      exact Ev.now _
  · simp only [h, if_neg, false_and]
    exact Ev.now _
end Go.Proofs.YtcfddphiflmnlaaDoor.P

namespace Go.Proofs.YtcfddphiflmnlaaDoor.P
open Go.RowKit Go.Proofs.YtcfddphiflmnlaaDoorW.PrintWords
theorem rcanonical_l0 (s : ByteArray) (hs : s.size < 4611686018427387904) : ∀ (Q P : List UInt8), s.data.toList = P ++ Q → IsD P →
    Ev (fun k => schismaref01_Canonical.l0 k s (P.length : Int)) (canb s.data.toList)
  | [], P, h, hP => by
    rw [List.append_nil] at h
    have h1 := size_list s
    rw [h] at h1
    refine Ev.step (f := fun _ => some (canb s.data.toList)) (fun k => ?_) (Ev.now _)
    have := canon_end s (by rw [h]; exact hP)
    simp (disch := omega) only [schismaref01_Canonical.l0, if_neg]
    exact this
  | c :: Q, P, h, hP => by
    have h1 := size_mid s P Q c h
    have e1 := bt_mid s P Q c h
    have e3 := wsucc (a := P.length) ⟨by omega⟩
    by_cases hc : 48 ≤ c.toNat ∧ c.toNat ≤ 57
    · refine Ev.step (f := fun k => schismaref01_Canonical.l0 k s ((P.length + 1 : Nat) : Int)) (fun k => ?_) ?_
      · simp only [schismaref01_Canonical.l0, e1, e3]
        clear e1 e3
        simp (disch := omega) only [if_pos, if_neg]
      · have := rcanonical_l0 s hs Q (P ++ [c]) (by rw [h]; simp) (hP.append (IsD.cons hc IsD.nil))
        simpa using this
    · refine Ev.step (f := fun _ => some false) (fun k => ?_) (Ev.eq (Ev.now _) (by rw [h, canon_bad hc]))
      simp only [schismaref01_Canonical.l0, e1, e3]
      clear e1 e3
      by_cases h48 : c.toNat < 48
      · simp (disch := omega) only [if_pos]
      · simp (disch := omega) only [if_pos, if_neg]
theorem rcanonical_f (s : ByteArray) (hs : s.size < 4611686018427387904) : Ev (fun k => schismaref01_Canonical.f k s) (canb s.data.toList) :=
  rcanonical_l0 s hs s.data.toList [] rfl IsD.nil
set_option maxRecDepth 100000 in
theorem known_ev : Ev (fun k => schismalaw01_known.f k) true := Ev.of (k := 200) (fun k => schismalaw01_known.mono k) (by decide +kernel)
end Go.Proofs.YtcfddphiflmnlaaDoor.P

namespace Go.Proofs.YtcfddphiflmnlaaDoor.Pure
open Go.RowKit Go.Proofs.YtcfddphiflmnlaaDoor.P Go.Proofs.YtcfddphiflmnlaaDoorW.PrintWords Go.Proofs.YtcfddphiflmnlaaDoorW.PrintLast
theorem DecimalForms : schismalaw01_DecimalForms.Pure := by
  intro s hs
  refine Ev.rounds (Ev.bind known_ev ?_)
  simp only [if_true]
  by_cases h : (s.size : Int) > 500
  · rw [decide_eq_true h]
    refine Ev.step (f := fun k => (schismalaw01_known.f k).bind fun t => some t) (fun k => ?_) (Ev.bind known_ev (Ev.now _))
    simp only [schismalaw01_DecimalForms.j0, if_true]
  · rw [decide_eq_false h]
    have c0 := rcanonical_f s (by omega)
    have c1 := check_f s (by omega)
    have c2 := canonical_f s (by omega)
    refine Ev.step (f := fun k => (schismaref01_Canonical.f k s).bind fun t382 => ((decimal_Check.f k s).bind fun t383 => ((decimal_Canonical.f k s).bind fun t384 => (if (t384 != t382) = true then (some false) else (if t382 = true then (if (s.size : Int) ≤ 400 then (some (t383 == 0)) else (some (t383 == 2))) else (some (t383 == 2))))))) (fun k => ?_) (Ev.bind c0 (Ev.bind c1 (Ev.bind c2 ?_)))
    · simp only [schismalaw01_DecimalForms.j0, Bool.false_eq_true, if_false]
    · refine Ev.eq (Ev.congr (f := fun _ => some true) (fun k => ?_) (Ev.now _)) rfl
      rcases hc : canb s.data.toList with _ | _
      · simp
      · by_cases h4 : s.size ≤ 400
        · have h5 : (s.size : Int) ≤ 400 := by omega
          simp [h4, h5]
        · have h5 : ¬ (s.size : Int) ≤ 400 := by omega
          simp [h4, h5]
end Go.Proofs.YtcfddphiflmnlaaDoor.Pure
