/- The printed functions as operations on numbers, and the law's answer: true at every input. Conditions: those of each theorem; the law's own has the row's bounds alone. -/
import Derived.Lib.ItoaLen
import Derived.Lib.ItoaMem
import Derived.Lib.ItoaNum
import Derived.Test.YtdelgjdplmennaaDoorWholeParsesF6
import Derived.Test.YtdelgjdplmennaaDoorWholeParsesWPlus

namespace Go.Proofs.YtdelgjdplmennaaDoor.P
open Go.RowKit Go.Proofs.YtdelgjdplmennaaDoorW.PrintWords
def Ok (l : List Nat) : Prop := ∀ a, a ∈ l → a < 1000000000
theorem Ok.nil : Ok [] := fun _ h => by cases h
theorem Ok.cons {a : Nat} {l : List Nat} (ha : a < 1000000000) (hl : Ok l) : Ok (a :: l) := fun x hx => by
  rcases List.mem_cons.1 hx with rfl | hx
  · exact ha
  · exact hl x hx
theorem Ok.head {a : Nat} {l : List Nat} (h : Ok (a :: l)) : a < 1000000000 := h a List.mem_cons_self
theorem Ok.tail {a : Nat} {l : List Nat} (h : Ok (a :: l)) : Ok l := fun x hx => h x (List.mem_cons_of_mem _ hx)
theorem Ok.append {l m : List Nat} (hl : Ok l) (hm : Ok m) : Ok (l ++ m) := fun x hx => by
  rcases List.mem_append.1 hx with hx | hx
  · exact hl x hx
  · exact hm x hx
theorem Ok.take {l : List Nat} (h : Ok l) (i : Nat) : Ok (l.take i) := fun x hx => h x (List.mem_of_mem_take hx)
theorem Ok.drop {l : List Nat} (h : Ok l) (i : Nat) : Ok (l.drop i) := fun x hx => h x (List.mem_of_mem_drop hx)
theorem w64 {n : Int} (h0 : -9223372036854775808 ≤ n) (h1 : n ≤ 9223372036854775807) : wrap64 n = n := by unfold wrap64; omega
structure Sm (n : Nat) : Prop where
  out : n < 4611686018427387904
theorem wsucc {a : Nat} (h : Sm a) : wrap64 ((a : Int) + 1) = ((a + 1 : Nat) : Int) := by have := h.out; rw [w64] <;> omega
end Go.Proofs.YtdelgjdplmennaaDoor.P

namespace Go.Proofs.YtdelgjdplmennaaDoor.P
open Go.RowKit Go.Proofs.YtdelgjdplmennaaDoorW.PrintWords
theorem Ev.eq {α : Type} {g : Nat → Option α} {r r' : α} (h : Ev g r) (e : r = r') : Ev g r' := e ▸ h
theorem Ev.pos {α : Type} {p : Prop} [Decidable p] {g f : Nat → Option α} {r : α} (h : p) (k : Ev g r) : Ev (fun n => if p then g n else f n) r := by
  simp only [if_pos h]; exact k
theorem Ev.neg {α : Type} {p : Prop} [Decidable p] {g f : Nat → Option α} {r : α} (h : ¬ p) (k : Ev f r) : Ev (fun n => if p then g n else f n) r := by
  simp only [if_neg h]; exact k
end Go.Proofs.YtdelgjdplmennaaDoor.P

namespace Go.Proofs.YtdelgjdplmennaaDoor.P
open Go.RowKit Go.Proofs.YtdelgjdplmennaaDoorW.PrintWords
def IsD (l : List UInt8) : Prop := ∀ c, c ∈ l → 48 ≤ c.toNat ∧ c.toNat ≤ 57
theorem IsD.nil : IsD [] := fun _ h => by cases h
theorem IsD.cons {c : UInt8} {l : List UInt8} (h1 : 48 ≤ c.toNat ∧ c.toNat ≤ 57) (h2 : IsD l) : IsD (c :: l) := fun x hx => by
  rcases List.mem_cons.1 hx with rfl | hx
  · exact h1
  · exact h2 x hx
theorem IsD.append {l m : List UInt8} (hl : IsD l) (hm : IsD m) : IsD (l ++ m) := fun x hx => by
  rcases List.mem_append.1 hx with hx | hx
  · exact hl x hx
  · exact hm x hx
theorem IsD.take {l : List UInt8} (h : IsD l) (i : Nat) : IsD (l.take i) := fun x hx => h x (List.mem_of_mem_take hx)
theorem IsD.drop {l : List UInt8} (h : IsD l) (i : Nat) : IsD (l.drop i) := fun x hx => h x (List.mem_of_mem_drop hx)
end Go.Proofs.YtdelgjdplmennaaDoor.P

namespace Go.Proofs.YtdelgjdplmennaaDoor.P
open Go.RowKit Go.Proofs.YtdelgjdplmennaaDoorW.PrintWords
end Go.Proofs.YtdelgjdplmennaaDoor.P

namespace Go.Proofs.YtdelgjdplmennaaDoor.P
open Go.RowKit Go.Proofs.YtdelgjdplmennaaDoorW.PrintWords
def B8 (l : List UInt8) : List Int := l.map fun b => (b.toNat : Int)
theorem rd_B8 (P Q : List UInt8) (c : UInt8) (i : Nat) (h : P.length = i) : rd (B8 (P ++ c :: Q)) (i : Int) = (c.toNat : Int) := by
  subst h
  simp [rd, B8, List.getD_eq_getElem?_getD]
theorem extract_list (s : ByteArray) (a b : Nat) : (s.extract a b).data.toList = (s.data.toList.take b).drop a := by
  simp [List.drop_take]
theorem size_list (s : ByteArray) : s.size = s.data.toList.length := (data_length s).symm
end Go.Proofs.YtdelgjdplmennaaDoor.P

namespace Go.Proofs.YtdelgjdplmennaaDoor.P
open Go.RowKit Go.Proofs.YtdelgjdplmennaaDoorW.PrintWords
theorem toList_data (s : ByteArray) : s.toList = s.data.toList := ByteArray.toList_eq s
theorem bt_mid (s : ByteArray) (P Q : List UInt8) (c : UInt8) (h : s.data.toList = P ++ c :: Q) : bt s (P.length : Int) = (c.toNat : Int) := by
  rw [← rd_bytesOf, show bytesOf s = B8 s.data.toList from rfl, h, rd_B8 _ _ _ _ rfl]
def digB (c : UInt8) : Bool := decide (48 ≤ c.toNat ∧ c.toNat ≤ 57)
theorem all_dig (l : List UInt8) : l.all digB = true ↔ IsD l := by
  simp [List.all_eq_true, digB, IsD]
end Go.Proofs.YtdelgjdplmennaaDoor.P

namespace Go.Proofs.YtdelgjdplmennaaDoor.P
open Go.RowKit Go.Proofs.YtdelgjdplmennaaDoorW.PrintWords
end Go.Proofs.YtdelgjdplmennaaDoor.P

namespace Go.Proofs.YtdelgjdplmennaaDoor.P
open Go.RowKit Go.Proofs.YtdelgjdplmennaaDoorW.PrintWords
end Go.Proofs.YtdelgjdplmennaaDoor.P

namespace Go.Proofs.YtdelgjdplmennaaDoor.P
open Go.RowKit Go.Proofs.YtdelgjdplmennaaDoorW.PrintWords
end Go.Proofs.YtdelgjdplmennaaDoor.P

namespace Go.Proofs.YtdelgjdplmennaaDoor.P
open Go.RowKit Go.Proofs.YtdelgjdplmennaaDoorW.PrintWords
def neg (l : List UInt8) : Bool := l.head? == some 45
def mag (l : List UInt8) : List UInt8 := if neg l then l.tail else l
def str (l : List UInt8) : ByteArray := ⟨l.toArray⟩
theorem str_list (l : List UInt8) : (str l).data.toList = l := by simp [str]
theorem str_self (s : ByteArray) : str s.data.toList = s := rfl
theorem str_size (l : List UInt8) : (str l).size = l.length := by rw [size_list, str_list]
theorem str_toList (l : List UInt8) : (str l).toList = l := by rw [toList_data, str_list]
theorem cut1 (s : ByteArray) : s.extract 1 s.size = str s.data.toList.tail := by
  have h := extract_list s 1 s.size
  rw [size_list, List.take_length, List.drop_one] at h
  apply ByteArray.ext
  apply Array.toList_inj.1
  rw [str_list, ← h, size_list]
theorem bt0 (s : ByteArray) (c : UInt8) (t : List UInt8) (h : s.data.toList = c :: t) : bt s 0 = (c.toNat : Int) := bt_mid s [] t c h
theorem c45 (c : UInt8) : (c.toNat : Int) = 45 ↔ c = 45 := by
  have h : (45 : UInt8).toNat = 45 := rfl
  constructor
  · intro e; exact UInt8.toNat_inj.1 (by omega)
  · intro e; rw [e]; rfl
theorem mag_le (l : List UInt8) : (mag l).length ≤ l.length := by
  unfold mag
  split
  · rw [List.length_tail]; omega
  · exact Nat.le_refl _
end Go.Proofs.YtdelgjdplmennaaDoor.P

namespace Go.Proofs.YtdelgjdplmennaaDoor.P
open Go.RowKit Go.Proofs.YtdelgjdplmennaaDoorW.PrintWords
theorem c48 (c : UInt8) : (c.toNat : Int) = 48 ↔ c = 48 := by
  have h : (48 : UInt8).toNat = 48 := rfl
  constructor
  · intro e; exact UInt8.toNat_inj.1 (by omega)
  · intro e; rw [e]; rfl
def core (m : List UInt8) : List UInt8 := if m.dropWhile (· == 48) = [] then [48] else m.dropWhile (· == 48)
def pz (n : Bool) (m : List UInt8) : ByteArray × Int := if 400 < (core m).length then (str [], 4) else if n = true ∧ core m ≠ [48] then (str (45 :: core m), 0) else (str (core m), 0)
def parsed (l : List UInt8) : ByteArray × Int := if l = [] then (str [], 13) else if mag l = [] then (str [], 15) else if (mag l).all digB = true then pz (neg l) (mag l) else (str [], 15)
theorem minus_str (u : List UInt8) : (⟨#[45]⟩ : ByteArray) ++ str u = str (45 :: u) := by
  apply ByteArray.ext
  apply Array.toList_inj.1
  rw [str_list]
  simp [str]
theorem core_one (c : UInt8) : core [c] = [c] := by
  unfold core
  by_cases h : c = 48
  · subst h; rfl
  · have : [c].dropWhile (· == 48) = [c] := List.dropWhile_cons_of_neg (by simpa using h)
    rw [this, if_neg (by simp)]
theorem core_zero (d : UInt8) (r : List UInt8) : core (48 :: d :: r) = core (d :: r) := by
  unfold core
  rw [List.dropWhile_cons_of_pos (by decide)]
theorem core_else (c : UInt8) (r : List UInt8) (h : c ≠ 48) : core (c :: r) = c :: r := by
  unfold core
  rw [List.dropWhile_cons_of_neg (by simpa using h), if_neg (by simp)]
theorem drop_first : ∀ (m : List UInt8) (c : UInt8) (r : List UInt8), m.dropWhile (· == 48) = c :: r → c ≠ 48
  | [], _, _, h => by simp at h
  | x :: m, c, r, h => by
    by_cases hx : x = 48
    · rw [List.dropWhile_cons_of_pos (by simpa using hx)] at h
      exact drop_first m c r h
    · rw [List.dropWhile_cons_of_neg (by simpa using hx)] at h
      injection h with h1 _
      rw [← h1]; exact hx
theorem drop_le : ∀ (m : List UInt8), (m.dropWhile (· == 48)).length ≤ m.length
  | [] => by simp
  | x :: m => by
    by_cases hx : x = 48
    · rw [List.dropWhile_cons_of_pos (by simpa using hx)]
      have := drop_le m
      rw [List.length_cons]; omega
    · rw [List.dropWhile_cons_of_neg (by simpa using hx)]
      exact Nat.le_refl _
theorem trim0 (m : List UInt8) : strings_TrimLeft.f (str m) (⟨#[48]⟩ : ByteArray) = some (str (m.dropWhile (· == 48))) := by
  unfold strings_TrimLeft.f
  rw [if_pos (by decide), str_list]
  rfl
theorem join_f2 (n : Bool) (u : List UInt8) (hu : u ≠ [48]) (hs : u.length < 4611686018427387904) : whole_join.f n (str u) = some (if n = true then str (45 :: u) else str u) := by
  unfold whole_join.f
  rw [str_toList, str_size, minus_str]
  by_cases h : n = true
  · rw [if_pos h, if_pos h, if_neg hu, if_pos (by omega)]
  · rw [if_neg h, if_neg h]
theorem wparse_end (n : Bool) (m : List UInt8) (hs : m.length < 4611686018427387904) : ((strings_TrimLeft.f (str m) (⟨#[48]⟩ : ByteArray)).bind fun t106 => (if t106.toList = ([] : List UInt8) then (some ((⟨#[48]⟩ : ByteArray), (0 : Int))) else (if (t106.size : Int) > 400 then (some ((⟨#[]⟩ : ByteArray), 4)) else ((whole_join.f n t106).bind fun t107 => (some (t107, 0)))))) = some (pz n m) := by
  rw [trim0, Option.bind_some, str_toList, str_size]
  have hl := drop_le m
  have hf := drop_first m
  unfold pz core
  generalize m.dropWhile (· == 48) = t at hl hf
  rcases t with _ | ⟨c, r⟩
  · rw [if_pos rfl, if_pos rfl, if_neg (by decide), if_neg (fun h => h.2 rfl)]
    rfl
  · have hne : (c :: r) ≠ [48] := fun h => hf c r rfl (by injection h)
    have hnil : ¬ (c :: r) = [] := by simp
    simp only [if_neg hnil]
    by_cases h4 : 400 < (c :: r).length
    · rw [if_pos h4, if_pos (by omega)]
      rfl
    · rw [if_neg h4, if_neg (by omega), join_f2 n _ hne (by omega), Option.bind_some]
      by_cases hn : n = true
      · rw [if_pos hn, if_pos ⟨hn, hne⟩]
      · rw [if_neg hn, if_neg (fun h => hn h.1)]
theorem wparse_l0 (n : Bool) (m : List UInt8) (hs : m.length < 4611686018427387904) : ∀ (Q P : List UInt8), m = P ++ Q → IsD P →
    Ev (fun k => whole_Parse.l0 k (str m) n (m.length : Int) (P.length : Int)) (if m.all digB = true then pz n m else (str [], 15))
  | [], P, h, hP => by
    rw [List.append_nil] at h
    have h1 : m.all digB = true := (all_dig m).2 (by rw [h]; exact hP)
    have h2 : m.length = P.length := by rw [h]
    rw [if_pos h1]
    refine Ev.step (f := fun _ => some (pz n m)) (fun k => ?_) (Ev.now _)
    rw [whole_Parse.l0, if_neg (by omega)]
    exact wparse_end n m hs
  | c :: Q, P, h, hP => by
    have h1 : m.length = P.length + (Q.length + 1) := by rw [h]; simp
    have e1 : bt (str m) (P.length : Int) = (c.toNat : Int) := bt_mid (str m) P Q c (by rw [str_list, h])
    have hsz : (str m).size = m.length := str_size m
    have e3 := wsucc (a := P.length) ⟨by omega⟩
    by_cases hc : 48 ≤ c.toNat ∧ c.toNat ≤ 57
    · refine Ev.step (f := fun k => whole_Parse.l0 k (str m) n (m.length : Int) ((P.length + 1 : Nat) : Int)) (fun k => ?_) ?_
      · simp only [whole_Parse.l0, e1, e3]
        clear e1 e3
        simp (disch := omega) only [if_pos, if_neg]
      · have := wparse_l0 n m hs Q (P ++ [c]) (by rw [h]; simp) (hP.append (IsD.cons hc IsD.nil))
        simpa using this
    · have hb : ¬ m.all digB = true := fun h2 => hc ((all_dig m).1 h2 c (by rw [h]; simp))
      rw [if_neg hb]
      refine Ev.step (f := fun _ => some (str [], 15)) (fun k => ?_) (Ev.now _)
      simp only [whole_Parse.l0, e1, e3]
      clear e1 e3 hb
      by_cases h48 : c.toNat < 48
      · simp (disch := omega) only [if_pos]
        rfl
      · simp (disch := omega) only [if_pos, if_neg]
        rfl
theorem r2parse_j3 (n : Bool) (u : List UInt8) (hs : u.length < 4611686018427387904) : Ev (fun k => schismaref02_Parse.j3 k (str u) n) (if 400 < u.length then (str [], 4) else if n = true ∧ u ≠ [48] then (str (45 :: u), 0) else (str u, 0)) := by
  have hsz : (str u).size = u.length := str_size u
  refine Ev.step (f := fun _ => some (if 400 < u.length then (str [], 4) else if n = true ∧ u ≠ [48] then (str (45 :: u), 0) else (str u, 0))) (fun k => ?_) (Ev.now _)
  rw [schismaref02_Parse.j3, hsz, str_toList, minus_str]
  by_cases h4 : 400 < u.length
  · rw [if_pos h4, if_pos (by omega)]
    rfl
  · rw [if_neg h4, if_neg (by omega)]
    by_cases hn : n = true
    · rw [if_pos hn]
      by_cases hu : u = [48]
      · rw [if_pos hu, if_neg (fun h => h.2 hu)]
      · rw [if_neg hu, if_pos (by omega), if_pos ⟨hn, hu⟩]
    · rw [if_neg hn, if_neg (fun h => hn h.1)]
theorem r2parse_l1 (n : Bool) : ∀ (m : List UInt8), m ≠ [] → m.length < 4611686018427387904 → Ev (fun k => schismaref02_Parse.l1 k (str m) n) (pz n m)
  | [], h, _ => absurd rfl h
  | [c], _, hs => by
    have hsz : (str [c]).size = 1 := str_size [c]
    have key := r2parse_j3 n [c] hs
    unfold pz
    rw [core_one]
    refine Ev.step (fun k => ?_) key
    rw [schismaref02_Parse.l1, if_neg (by omega)]
  | c :: d :: r, _, hs => by
    have hsz : (str (c :: d :: r)).size = r.length + 2 := str_size _
    have e1 : bt (str (c :: d :: r)) 0 = (c.toNat : Int) := bt0 _ c (d :: r) (str_list _)
    by_cases hc : c = 48
    · have ih := r2parse_l1 n (d :: r) (by simp) (by rw [List.length_cons] at hs; omega)
      subst hc
      unfold pz at ih ⊢
      rw [core_zero]
      refine Ev.step (fun k => ?_) ih
      rw [schismaref02_Parse.l1, if_pos (by omega), if_pos (by omega), e1, if_pos (by rfl), if_pos (by omega), cut1, str_list]
      rfl
    · have key := r2parse_j3 n (c :: d :: r) hs
      unfold pz
      rw [core_else c (d :: r) hc]
      refine Ev.step (fun k => ?_) key
      rw [schismaref02_Parse.l1, if_pos (by omega), if_pos (by omega), e1, if_neg (fun h => hc ((c48 c).1 h))]
theorem r2parse_l0 (n : Bool) (m : List UInt8) (h0 : m ≠ []) (hs : m.length < 4611686018427387904) : ∀ (Q P : List UInt8), m = P ++ Q → IsD P →
    Ev (fun k => schismaref02_Parse.l0 k (str m) n (P.length : Int)) (if m.all digB = true then pz n m else (str [], 15))
  | [], P, h, hP => by
    rw [List.append_nil] at h
    have h1 : m.all digB = true := (all_dig m).2 (by rw [h]; exact hP)
    have h2 : m.length = P.length := by rw [h]
    have hsz : (str m).size = m.length := str_size m
    rw [if_pos h1]
    refine Ev.step (fun k => ?_) (r2parse_l1 n m h0 hs)
    rw [schismaref02_Parse.l0, if_neg (by omega)]
  | c :: Q, P, h, hP => by
    have h1 : m.length = P.length + (Q.length + 1) := by rw [h]; simp
    have e1 : bt (str m) (P.length : Int) = (c.toNat : Int) := bt_mid (str m) P Q c (by rw [str_list, h])
    have hsz : (str m).size = m.length := str_size m
    have e3 := wsucc (a := P.length) ⟨by omega⟩
    by_cases hc : 48 ≤ c.toNat ∧ c.toNat ≤ 57
    · refine Ev.step (f := fun k => schismaref02_Parse.l0 k (str m) n ((P.length + 1 : Nat) : Int)) (fun k => ?_) ?_
      · simp only [schismaref02_Parse.l0, e1, e3]
        clear e1 e3
        simp (disch := omega) only [if_pos, if_neg]
      · have := r2parse_l0 n m h0 hs Q (P ++ [c]) (by rw [h]; simp) (hP.append (IsD.cons hc IsD.nil))
        simpa using this
    · have hb : ¬ m.all digB = true := fun h2 => hc ((all_dig m).1 h2 c (by rw [h]; simp))
      rw [if_neg hb]
      refine Ev.step (f := fun _ => some (str [], 15)) (fun k => ?_) (Ev.now _)
      simp only [schismaref02_Parse.l0, e1, e3]
      clear e1 e3 hb
      by_cases h48 : c.toNat < 48
      · simp (disch := omega) only [if_pos]
        rfl
      · simp (disch := omega) only [if_pos, if_neg]
        rfl
theorem r2parse_j0 (n : Bool) (m : List UInt8) (hs : m.length < 4611686018427387904) : Ev (fun k => schismaref02_Parse.j0 k (str m) n) (if m = [] then (str [], 15) else if m.all digB = true then pz n m else (str [], 15)) := by
  by_cases h : m = []
  · rw [if_pos h]
    refine Ev.step (f := fun _ => some (str [], 15)) (fun k => ?_) (Ev.now _)
    rw [schismaref02_Parse.j0, str_toList, if_pos h]
    rfl
  · rw [if_neg h]
    refine Ev.step (fun k => ?_) (r2parse_l0 n m h hs m [] rfl IsD.nil)
    rw [schismaref02_Parse.j0, str_toList, if_neg h]
    rfl
theorem neg_cons (c : UInt8) (t : List UInt8) : neg (c :: t) = ((c.toNat : Int) == 45) := by
  unfold neg
  rw [List.head?_cons, Bool.eq_iff_iff, beq_iff_eq, beq_iff_eq, c45, Option.some_inj]
theorem r2parse_f (s : ByteArray) (hs : s.size < 4611686018427387904) : Ev (fun k => schismaref02_Parse.f k s) (parsed s.data.toList) := by
  have h1 := size_list s
  unfold schismaref02_Parse.f parsed
  rw [toList_data]
  have hm := mag_le s.data.toList
  have key := r2parse_j0 (neg s.data.toList) (mag s.data.toList) (by omega)
  rcases e : s.data.toList with _ | ⟨c, t⟩
  · rw [if_pos rfl]
    exact Ev.pos rfl (Ev.now _)
  · rw [e] at key
    rw [if_neg (by simp)]
    have hsz : s.size = t.length + 1 := by rw [h1, e]; rfl
    refine Ev.neg (by simp) (Ev.pos (by omega) ?_)
    rw [bt0 s c t e]
    by_cases hc : c = 45
    · subst hc
      refine Ev.pos (by rfl) (Ev.pos (by omega) ?_)
      rw [cut1, e]
      exact key
    · refine Ev.neg (fun h => hc ((c45 c).1 h)) ?_
      have hn : neg (c :: t) = false := by rw [neg_cons, beq_eq_false_iff_ne]; exact fun h => hc ((c45 c).1 h)
      have hm2 : mag (c :: t) = c :: t := by unfold mag; rw [hn]; rfl
      rw [← neg_cons c t]
      rw [hm2] at key
      have hs2 : s = str (c :: t) := by rw [← e]; exact (str_self s).symm
      rw [hs2, hm2]
      exact key
end Go.Proofs.YtdelgjdplmennaaDoor.P

namespace Go.Proofs.YtdelgjdplmennaaDoor.P
open Go.RowKit Go.Proofs.YtdelgjdplmennaaDoorW.PrintWords
theorem prefix_f (s : ByteArray) : strings_CutPrefix.f s (⟨#[45]⟩ : ByteArray) = some (str (mag s.data.toList), neg s.data.toList) := by
  have h1 := size_list s
  have p1 : (⟨#[45]⟩ : ByteArray).size = 1 := rfl
  have p2 : (⟨#[45]⟩ : ByteArray).toList = [45] := by rw [toList_data]
  have hp : stringslite_HasPrefix.f s (⟨#[45]⟩ : ByteArray) = some (neg s.data.toList) := by
    unfold stringslite_HasPrefix.f
    rw [p1]
    rcases e : s.data.toList with _ | ⟨c, t⟩
    · rw [e, List.length_nil] at h1
      rw [if_neg (by omega)]
      rfl
    · rw [e, List.length_cons] at h1
      have hx := extract_list s 0 1
      rw [e] at hx
      have hx2 : (s.extract 0 1).data.toList = [c] := by rw [hx]; rfl
      rw [if_pos (by omega), if_pos (by omega), if_pos (by omega), toList_data, p2]
      have e0 : ((1 : Nat) : Int).toNat = 1 := rfl
      rw [e0, hx2]
      congr 1
      unfold neg
      rw [List.head?_cons, Bool.eq_iff_iff, beq_iff_eq, beq_iff_eq, Option.some_inj]
      constructor
      · intro h; injection h
      · intro h; rw [h]
  unfold strings_CutPrefix.f stringslite_CutPrefix.f
  rw [hp, p1]
  simp only [Option.bind_some]
  by_cases hn : neg s.data.toList = true
  · have hs : 1 ≤ s.size := by
      rcases e : s.data.toList with _ | ⟨c, t⟩
      · rw [e] at hn; exact absurd hn (by decide)
      · rw [h1, e, List.length_cons]; omega
    have e0 : ((1 : Nat) : Int).toNat = 1 := rfl
    rw [if_pos hn, if_pos (by omega), if_pos (by omega), e0, cut1]
    simp only [Option.bind_some]
    unfold mag
    rw [if_pos hn, hn]
  · have hn2 : neg s.data.toList = false := by simpa using hn
    rw [if_neg hn]
    simp only [Option.bind_some]
    unfold mag
    rw [if_neg hn, hn2]
    rfl
theorem wparse_f (s : ByteArray) (hs : s.size < 4611686018427387904) : Ev (fun k => whole_Parse.f k s) (parsed s.data.toList) := by
  have hm := mag_le s.data.toList
  rw [← size_list] at hm
  unfold whole_Parse.f parsed
  rw [toList_data, prefix_f]
  by_cases h0 : s.data.toList = []
  · rw [if_pos h0]
    exact Ev.pos h0 (Ev.now _)
  · rw [if_neg h0]
    refine Ev.neg h0 (Ev.bind (Ev.now (str (mag s.data.toList), neg s.data.toList)) ?_)
    by_cases h1 : mag s.data.toList = []
    · rw [if_pos h1]
      exact Ev.pos (by show (str (mag s.data.toList)).toList = []; rw [str_toList]; exact h1) (Ev.now _)
    · rw [if_neg h1]
      refine Ev.neg (by show ¬ (str (mag s.data.toList)).toList = []; rw [str_toList]; exact h1) ?_
      have key := wparse_l0 (neg s.data.toList) (mag s.data.toList) (by omega) (mag s.data.toList) [] rfl IsD.nil
      rw [str_size]
      exact key
end Go.Proofs.YtdelgjdplmennaaDoor.P

namespace Go.Proofs.YtdelgjdplmennaaDoor.Pure
open Go.RowKit Go.Proofs.YtdelgjdplmennaaDoor.P Go.Proofs.YtdelgjdplmennaaDoorW.PrintWords Go.Proofs.YtdelgjdplmennaaDoorW.PrintLast
set_option maxRecDepth 100000 in
theorem pknown_ev : Ev (fun k => schismalaw02_known.f k) true := Ev.of (k := 200) (fun k => schismalaw02_known.mono k) (by decide +kernel)
theorem WholeParses : schismalaw02_WholeParses.Pure := by
  intro s hs
  refine Ev.rounds (Ev.bind pknown_ev (Ev.pos rfl ?_))
  by_cases h : (s.size : Int) > 420
  · rw [decide_eq_true h]
    refine Ev.step (f := fun k => (schismalaw02_known.f k).bind fun t => some t) (fun k => ?_) (Ev.bind pknown_ev (Ev.now _))
    rw [schismalaw02_WholeParses.j0, if_pos rfl]
  · rw [decide_eq_false h]
    refine Ev.step (f := fun k => (whole_Parse.f k s).bind fun bt458 => ((schismaref02_Parse.f k s).bind fun bt460 => (if bt458.1.toList = bt460.1.toList then (some (bt458.2 == bt460.2)) else (some false)))) (fun k => ?_) (Ev.bind (wparse_f s (by omega)) (Ev.bind (r2parse_f s (by omega)) (Ev.pos rfl (Ev.eq (Ev.now _) (by simp)))))
    rw [schismalaw02_WholeParses.j0, if_neg (by decide)]
end Go.Proofs.YtdelgjdplmennaaDoor.Pure
