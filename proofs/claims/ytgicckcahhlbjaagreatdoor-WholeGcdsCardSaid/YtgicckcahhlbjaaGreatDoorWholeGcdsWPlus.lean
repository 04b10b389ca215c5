/- Words of the walks, as the kit's print wrote them for this seat, and contracts of Go's library: those that this claim names. Conditions: those of each theorem. -/
import Derived.Test.YtgicckcahhlbjaaGreatDoorWholeGcdsWMore
import Derived.Laws.MakeOwn
import Derived.Lib.ConvBytes

namespace Go.Proofs.YtgicckcahhlbjaaGreatDoorW.PrintWords
open Go.RowKit
namespace Kd
section
variable {P : Program} {ops : Array Oper} {rest : List Oper} {o : Oper} {a : Act} {Q : Exit → Act → World → Prop} {α : Type}
theorem R_makec (d : Kd α) {w0 W : World} (base e : Nat) (hgd : o.guard = none) {N : Tmp} (_hd : o.dst = some N) (t : TypeId) (x y : Operand) (ho : o.op = .makeSlice t x y) (n : Int) (hx : a.eval x = .int .i64 0) (hy : a.eval y = .int .i64 n)
    (ht : P.underlying t = some (.slice e)) (z : Value) (bytes : Nat) (hinfo : (P.info? e).map (fun i => (i.zero, i.size, i.bytes)) = some (some z, d.sz, bytes))
    (hb0 : 0 < bytes) {ok : Nat → Prop} (hfresh : ok W.heap.size) (h0 : 0 ≤ n) (hl : n.toNat * bytes ≤ 281474976710656) (HB : Below base w0 W) (hbase : base ≤ W.heap.size)
    (h : ∀ v1 w1, d.R e w1 base ok v1 ([] : List α) → Below base w0 w1 → W.grownBy w1 none → (∃ b, v1.ownBlock = some b ∧ W.heap.size ≤ b) → wpList P ops Q rest (a.put o.dst v1) w1) :
    wpList P ops Q (o :: rest) a W := by
  obtain ⟨m, rfl⟩ := Int.eq_ofNat_of_zero_le h0
  simp only [Int.toNat_natCast] at hl
  obtain ⟨i0, hi, hzz⟩ := Option.map_eq_some_iff.1 hinfo
  simp only [Prod.mk.injEq] at hzz
  obtain ⟨hz0, hz1, hz2⟩ := hzz
  have hm : m ≤ 281474976710656 := Nat.le_trans (Nat.le_mul_of_pos_right _ hb0) hl
  obtain ⟨w1, hr, hown, hg⟩ := run_make_own (P := P) W base t e i0 z d.sz ht hi hz0 hz1 .i64 .i64 m (by rw [hz2, Nat.mul_comm]; exact hl) (by simp [maxLen]; omega) hbase
  refine event_run hgd (v := .slice (some ⟨W.heap.size, 0, none⟩) 0 m) (w1 := w1) (by simp [execOp, ho, hx, hy, hr]) (h _ _ ⟨fun k hk => ?_, [], hown, Reps.none _ _⟩ (HB.grown hg hbase (fun k hk => by simp at hk)) hg ⟨W.heap.size, by simp [Value.ownBlock], Nat.le_refl _⟩)
  have : W.heap.size = k := by simpa [Value.ownBlock] using hk
  subst this
  exact hfresh
theorem bytes_kept (W W' : World) (e : TypeId) (s : ByteArray) (hs : s.size ≤ 9223372036854775807) (hW : ∀ k, W.heap.size ≤ k → k < (Lib.bytesWorld W e s).heap.size → W'.heap[k]? = (Lib.bytesWorld W e s).heap[k]?) :
    ReadsInt W' .u8 (some ⟨W.heap.size, 0, none⟩) s.size (bytesOf s) := by
  obtain ⟨h1, h2, h3⟩ := bytes_reads W e s hs
  refine ⟨h1, h2, fun hn => ?_⟩
  obtain ⟨ad, he, hc⟩ := h3 hn
  refine ⟨ad, he, fun j hj => ?_⟩
  obtain rfl : (⟨W.heap.size, 0, none⟩ : Addr) = ad := by injection he
  have hb := hc j hj
  rw [← hb]
  rw [add_plain]
  exact World.cell?_of_block (w := Lib.bytesWorld W e s) (w' := W') (hW W.heap.size (Nat.le_refl _) (by rw [Lib.bytesWorld_size]; omega))
theorem V_bytes {w0 W : World} (base e : Nat) (hgd : o.guard = none) {N : Tmp} (_hd : o.dst = some N) (src dst : TypeId) (x : Operand) (ho : o.op = .convert src dst x) (s : ByteArray) (hx : a.eval x = .string s)
    {u : TypeDesc} (hsrc : P.underlying src = some u) (hdst : P.underlying dst = some (.slice e)) (hel : P.underlying e = some (.int .u8)) (hs : s.size ≤ 9223372036854775807)
    {ok : Nat → Prop} (hok : ∀ k, W.heap.size ≤ k → ok k) (HB : Below base w0 W) (hbase : base ≤ W.heap.size)
    (h : ∀ v1 w1, V (Kd.int .u8) e w1 base ok v1 (bytesOf s) → Below base w0 w1 → W.grownBy w1 none → (∃ b, v1.ownBlock = some b ∧ W.heap.size ≤ b) → wpList P ops Q rest (a.put o.dst v1) w1) :
    wpList P ops Q (o :: rest) a W := by
  have hB : Below W.heap.size W (Lib.bytesWorld W e s) := bytes_below (Below.refl _ _) (Nat.le_refl _) e s
  have hr := print_bytes (P := P) src dst e hsrc hdst hel s W
  have hcap : s.size ≤ grownCap W s.size 0 e := grownCap_ge W s.size 0 e
  refine event_run hgd (v := .slice (some ⟨W.heap.size, 0, none⟩) s.size (grownCap W s.size 0 e)) (w1 := Lib.bytesWorld W e s) (by simp [execOp, ho, hx, hr]) (h _ _ ?_ (HB.trans (hB.mono hbase)) (grown_of_below hB none) ⟨W.heap.size, by simp [Value.ownBlock], Nat.le_refl _⟩)
  have hl := bytesOf_length s
  refine ⟨some ⟨W.heap.size, 0, none⟩, grownCap W s.size 0 e, by rw [hl], by rw [hl]; exact hcap, ?_⟩
  intro W' hW
  rw [hl]
  exact C_of_reads (h1 := fun _ => rfl) (bytes_kept W W' e s hs (fun k hk hlt => hW k (hok k hk) hlt))
end
end Kd
theorem bytesLess_swap : ∀ x y : List UInt8, Op.bytesLess y x = !(Op.bytesLess x y || x == y)
  | [], [] => by simp [Op.bytesLess]
  | [], b :: y => by simp [Op.bytesLess]
  | a :: x, [] => by simp [Op.bytesLess]
  | a :: x, b :: y => by
    have ih := bytesLess_swap x y
    simp only [Op.bytesLess]
    rw [ih]
    have hab : (a == b) = decide (a.toNat = b.toNat) := by rw [Bool.eq_iff_iff, beq_iff_eq, decide_eq_true_iff]; exact UInt8.toNat_inj.symm
    have hba : (b == a) = decide (a.toNat = b.toNat) := by rw [Bool.eq_iff_iff, beq_iff_eq, decide_eq_true_iff]; exact (eq_comm.trans UInt8.toNat_inj.symm)
    have hxy : (a :: x == b :: y) = (decide (a.toNat = b.toNat) && x == y) := by rw [← hab]; rfl
    have h1 : decide (b < a) = decide (b.toNat < a.toNat) := by simp [UInt8.lt_iff_toNat_lt]
    have h2 : decide (a < b) = decide (a.toNat < b.toNat) := by simp [UInt8.lt_iff_toNat_lt]
    rw [hxy, hab, hba, h1, h2]
    by_cases c1 : a.toNat < b.toNat
    · have c2 : ¬ b.toNat < a.toNat := by omega
      have c3 : ¬ a.toNat = b.toNat := by omega
      simp [c1, c2, c3]
    · by_cases c2 : b.toNat < a.toNat
      · have c3 : ¬ a.toNat = b.toNat := by omega
        simp [c1, c2, c3]
      · have c3 : a.toNat = b.toNat := by omega
        simp [c3]
theorem neq_bools {α : Type} [BEq α] (a b : α) : (a != b) = !(a == b) := rfl
theorem gtr_text (t : TypeId) (a b : ByteArray) : binOp .gtr t (.string a) (.string b) = pure (.bool (Op.bytesLess b.toList a.toList)) := by
  rw [bytesLess_swap a.toList b.toList]
  simp [binOp, Op.stringOp]
end Go.Proofs.YtgicckcahhlbjaaGreatDoorW.PrintWords
