/- Words of the walks, as the kit's print wrote them for this seat, and contracts of Go's library: those that this claim names. Conditions: those of each theorem. -/
import Derived.Test.YtcfddphiflmnlaaDoorDecimalDividesShelf
import Derived.Test.YtcfddphiflmnlaaDoorDecimalDividesWPlus
import Derived.Lib.Walk
import Derived.Lib.ItoaMem
import Derived.Lib.AppendIntMem
import Derived.WalkKit
import Derived.BigCall
import Derived.BigGuard

namespace Go.Proofs.YtcfddphiflmnlaaDoor.P
open Go.RowKit Go.Sort Go.Lib Go.Proofs.YtcfddphiflmnlaaDoorW.PrintWords
structure Tab (w : World) : Prop where
  tab : Lib.TabIs Tryd.prog w "internal/strconv.uint64pow10" .u64 Lib.pow10Tab
  rng : ∃ ev, w.cell? ⟨2, 0, none⟩ = some ev ∧ (ev = .nilIface ∨ ∃ te pe, ev = .iface te pe)
theorem Tab.below {w W : World} (h : Tab w) (hb : Below w.heap.size w W) : Tab W := by
  obtain ⟨h1, ev, h2, h3⟩ := h
  exact ⟨Lib.tabBelow_of_tabIs h1 W hb, ev, pw_cell_below hb h2, h3⟩
theorem grow_below (w : World) (k : Nat) (os : Array Obj) : Below w.heap.size w (grow (w.drewN k) os) := by
  refine ⟨rfl, rfl, rfl, by simp [grow, World.drewN], fun i hi => ?_⟩
  have : i < (w.drewN k).heap.size := hi
  simp [grow, Array.getElem?_append, World.drewN, hi]
theorem holds_zero0 (w : World) (T : TypeId) (nd : Nat) (hs : nd ≤ 24) : Holds (fun (b : UInt8) => Value.int .u8 (b.toNat : Int)) (w.alloc (.cells zeros24 T)) w.heap.size 0 (Array.replicate nd (0 : UInt8)) := fun j hj => by
  have hj' : j < nd := by simpa using hj
  refine ⟨?_, World.frozen?_alloc_new _ _ _ _⟩
  rw [World.cell?_alloc_new, zeros24_at _ (by omega), getElem!_pos _ j hj]
  simp
theorem fin_zero (w : World) (o : Obj) (dk : Array UInt8) (k : Nat) : ∃ os, (putRow (fun (b : UInt8) => Value.int .u8 (b.toNat : Int)) (w.alloc o) w.heap.size 0 dk).drewN k = grow (w.drewN k) os := by
  rw [alloc_eq_grow]
  obtain ⟨os', _, e⟩ := putRow_grow_new (fun (b : UInt8) => Value.int .u8 (b.toNat : Int)) w #[o] w.heap.size 0 dk (Nat.le_refl _)
  exact ⟨os', by rw [e]; rfl⟩
set_option maxHeartbeats 6400000 in
set_option maxRecDepth 100000 in
theorem FormatUint_10 (u : Nat) (hu64 : u < 18446744073709551616) (w : World) (htab : Lib.TabIs Tryd.prog w "internal/strconv.uint64pow10" .u64 Lib.pow10Tab) :
    Calls Tryd.prog 59 #[.int .u64 u, .int .i64 10] w fun e w' => e = .returned (.string ⟨(Lib.decDigits u).toArray⟩) ∧ ∃ k os, w' = grow (w.drewN k) os := by
  by_cases hs : u < 100
  · go_enter Tryd.func59, Tryd.ntmps59
    go_wp2_with (go_at_call 64; refine (Tryd.internal_strconv_small u hs _).mono ?_; rintro e w' ⟨rfl, rfl⟩)
    go_ret
    exact ⟨rfl, 0, #[], by simp [World.drewN_zero]⟩
  · have hu1 : 1 ≤ u := by omega
    have hnd20 : Lib.nDigits u ≤ 20 := by have := Lib.numDigits_eq u hu1 hu64; split at this <;> omega
    have hb3 : Lib.nDigits u ≤ 24 := by omega
    have hal : Tryd.prog.arrayLen 84 = 24 := by simp [Program.arrayLen, Tryd.underlying84]
    have hsl1 : ∀ W, (Instr.sliceAt 84 (.pointer (some ⟨w.heap.size, 0, none⟩)) none (some (.int .i64 (Lib.nDigits u : Int))) none).run Tryd.prog W = .ok (.slice (some ⟨w.heap.size, 0, none⟩) (Lib.nDigits u) 24) W := fun W => by
      rw [run_sliceAt_array_h W 84 ⟨w.heap.size, 0, none⟩ (by simp [Program.arrayLen, Program.elem, Tryd.underlying84]) .i64 (Lib.nDigits u : Int) (by omega) (by rw [hal]; omega)]
      go_simp
    have hH0 := holds_zero0 w 84 (Lib.nDigits u) (by omega)
    have hfmt := Tryd.internal_strconv_formatBase10 w.heap.size 0 24 u (Array.replicate (Lib.nDigits u) 0) (w.alloc (.cells Lib.zeros24 84)) hH0 (by rw [Array.size_replicate]; exact Lib.lt_pow_nDigits u) hu64 (by rw [Array.size_replicate]; omega)
    rw [Array.size_replicate] at hfmt
    have HH0 := Lib.hid hH0
    clear hH0 hal
    go_enter Tryd.func59, Tryd.ntmps59
    go_wp2_with (go_at_call 65; refine (Tryd.internal_strconv_numDigits u hu1 hu64 _ (Lib.tabIs_alloc htab _)).mono ?_; rintro e w' ⟨rfl, rfl⟩)
    go_at_call 66
    refine hfmt.mono ?_
    rintro e w' ⟨rfl, k, v', dk, rfl, hF⟩
    have hcv : (convert 23 9 (.slice (some ⟨w.heap.size, 0, none⟩) (Lib.nDigits u) 24)).run Tryd.prog ((putRow (fun (b : UInt8) => Value.int .u8 (b.toNat : Int)) (w.alloc (.cells Lib.zeros24 84)) w.heap.size 0 dk).drewN k) = .ok (.string ⟨(Lib.decDigits u).toArray⟩) ((putRow (fun (b : UInt8) => Value.int .u8 (b.toNat : Int)) (w.alloc (.cells Lib.zeros24 84)) w.heap.size 0 dk).drewN k) := by
      have h := run_convert_bytes_back (P := Tryd.prog) ((putRow (fun (b : UInt8) => Value.int .u8 (b.toNat : Int)) (w.alloc (.cells Lib.zeros24 84)) w.heap.size 0 dk).drewN k) 23 9 5 ⟨w.heap.size, 0, none⟩ 24 (Lib.decDigits u) Tryd.underlying23 Tryd.underlying5 Tryd.underlying9 (fun j hj => by
        rw [Lib.row_is_numeral hF j hj, Lib.add_plain, World.cell?_drewN]
        exact cell?_putRow (fun (b : UInt8) => Value.int .u8 (b.toNat : Int)) _ w.heap.size 0 _ dk HH0.out (by rw [hF.size, Array.size_replicate]) j (by rw [hF.size]; rw [Lib.decDigits_length] at hj; exact hj))
      rw [Lib.decDigits_length] at h
      exact h
    go_wp2
    go_ret
    obtain ⟨os, eo⟩ := fin_zero w (.cells Lib.zeros24 84) dk k
    exact ⟨rfl, k, os, eo⟩
def decimal_Of.f (a0 : Int) : Option ByteArray := if 0 ≤ a0 ∧ a0 < 18446744073709551616 then some ⟨(Lib.decDigits a0.toNat).toArray⟩ else none
set_option maxRecDepth 100000 in
theorem decimal_Of.calls (a0 : Int) (r : ByteArray) (w : World) (hT : Tab w) (h : decimal_Of.f a0 = some r) : Calls Tryd.prog 14 #[.int .u64 a0] w fun e w' => e = .returned (.string r) ∧ Below w.heap.size w w' := by
  unfold decimal_Of.f at h
  split at h
  · rename_i ha
    obtain ⟨u, rfl⟩ : ∃ u : Nat, a0 = u := ⟨a0.toNat, by omega⟩
    obtain rfl := Option.some.inj h
    have hu : u < 18446744073709551616 := by omega
    have HT := Aside0.mk hT
    clear hT h ha
    go_enter Tryd.func14, Tryd.ntmps14
    go_wp2_with (go_at_call 41; go_enter Tryd.func41, Tryd.ntmps41)
    go_wp2_with (go_at_call 59; refine (FormatUint_10 u hu _ HT.out.tab).mono ?_; rintro e w' ⟨rfl, k, os, rfl⟩)
    go_ret
    exact ⟨by simp, grow_below _ _ _⟩
  · cases h
def decimal_Small.f (a0 : ByteArray) : Option (Int × Bool) :=
  if a0.size ≤ 281474976710656 then
    match Lib.parseUintB 64 a0.data.toList with
    | .ok u => some ((u : Int), true)
    | .range => some (0, false)
    | _ => none
  else none
theorem bytesWorld_below (w : World) (e : TypeId) (s : ByteArray) : Below w.heap.size w (Lib.bytesWorld w e s) := bytes_below (Below.refl _ _) (Nat.le_refl _) e s
set_option maxRecDepth 100000 in
theorem decimal_Small.calls (a0 : ByteArray) (r1 : Int) (r2 : Bool) (w : World) (hT : Tab w) (h : decimal_Small.f a0 = some (r1, r2)) : Calls Tryd.prog 15 #[.string a0] w fun e w' => e = .returned (.tuple #[.int .u64 r1, .bool r2]) ∧ Below w.heap.size w w' := by
  unfold decimal_Small.f at h
  split at h
  · rename_i hs
    have HT := Aside0.mk hT
    have HS := Aside0.mk hs
    clear hT hs
    split at h
    · rename_i u hu
      simp only [Option.some.injEq, Prod.mk.injEq] at h
      obtain ⟨rfl, rfl⟩ := h
      have HU := Aside0.mk hu
      clear hu
      go_enter Tryd.func15, Tryd.ntmps15
      go_wp2_with (go_at_call 42; refine (Tryd.strconv_ParseUint_10_at64_ok a0 (by have := HS.out; omega) u HU.out _).mono ?_; rintro e w' ⟨rfl, hw⟩)
      have HB := Aside0.mk (show Below w.heap.size w w' by
        rcases hw with rfl | rfl
        · exact Below.refl _ _
        · exact bytesWorld_below _ _ _)
      clear hw
      go_wp2
      go_ret2
      exact ⟨rfl, HB.out⟩
    · rename_i hu
      simp only [Option.some.injEq, Prod.mk.injEq] at h
      obtain ⟨rfl, rfl⟩ := h
      obtain ⟨ev, hv, hev⟩ := HT.out.rng
      have HU := Aside0.mk hu
      have HV := Aside0.mk hv
      have HE := Aside0.mk hev
      clear hu hv hev
      go_enter Tryd.func15, Tryd.ntmps15
      go_wp2_with (go_at_call 42; refine (Tryd.strconv_ParseUint_10_at64_range a0 HS.out HU.out ev _ HV.out HE.out).mono ?_; rintro e w' ⟨N, rfl, _, _, hb⟩)
      have HB := Aside0.mk hb
      clear hb
      go_wp2
      go_ret2
      exact ⟨rfl, HB.out⟩
    · cases h
  · cases h
def bits_Len64.f (a0 : Int) : Option Int := if 0 ≤ a0 ∧ a0 ≤ 18446744073709551615 then some (Lib.bitLen a0.toNat) else none
theorem bits_Len64.calls (a0 : Int) (r : Int) (w : World) (h : bits_Len64.f a0 = some r) : Calls Tryd.prog 55 #[.int .u64 a0] w fun e w' => e = .returned (.int .i64 r) ∧ Drawn0 w w' := by
  unfold bits_Len64.f at h
  split at h
  · rename_i ha
    obtain rfl := Option.some.inj h
    exact (Tryd.bits_Len64 a0 w ha.1 ha.2).mono fun e w' ⟨h1, h2⟩ => ⟨h1, by rw [h2]; exact Drawn0.refl _⟩
  · cases h
def OfRow (u : Nat) (w w' : World) (i : Nat) (cs : Array Value) : Prop :=
  cs.size = 20 ∧ w'.heap[w.heap.size]? = some (.cells cs 58 (0, 0)) ∧ Below w.heap.size w w' ∧ ∀ j, j < i → cs[19 - j]? = some (.int .u8 ((Lib.dg u j).toNat : Int))
theorem OfRow.cell {u : Nat} {w w' : World} {i : Nat} {cs : Array Value} (h : OfRow u w w' i cs) (q : Nat) (hq : q < 20) : ∃ v, w'.cell? ⟨w.heap.size, q, none⟩ = some v := by
  obtain ⟨h1, h2, _, _⟩ := h
  exact ⟨cs[q]'(by omega), by simp [World.cell?, h2, h1, hq]⟩
theorem OfRow.free {u : Nat} {w w' : World} {i : Nat} {cs : Array Value} (h : OfRow u w w' i cs) (q : Nat) : w'.frozen? ⟨w.heap.size, q, none⟩ = false := by
  obtain ⟨h1, h2, _, _⟩ := h
  simp [World.frozen?, h2]
theorem OfRow.put {u : Nat} {w w' : World} {i q n : Nat} {cs : Array Value} (h : OfRow u w w' i cs) (hq : q + 1 + i = 20) (hn : n = u / 10 ^ i) :
    OfRow u w (w'.setCell ⟨w.heap.size, q, none⟩ (.int .u8 (48 + (n : Int) % 10))) (i + 1) (cs.setIfInBounds q (.int .u8 (48 + (n : Int) % 10))) := by
  obtain ⟨h1, h2, h3, h4⟩ := h
  refine ⟨by simpa using h1, blk_set h2 q _, below_set h3 (Nat.le_refl _), fun j hj => ?_⟩
  by_cases hji : j = i
  · subst hji
    rw [show 19 - j = q by omega, Array.getElem?_setIfInBounds]
    rw [if_pos rfl, if_pos (by omega)]
    congr 2
    rw [hn]
    simp only [Lib.dg]
    have : (UInt8.ofNat (48 + u / 10 ^ j % 10)).toNat = 48 + u / 10 ^ j % 10 := by simp; omega
    rw [this]
    omega
  · rw [Array.getElem?_setIfInBounds, if_neg (by omega)]
    exact h4 j (by omega)
theorem OfRow.text {u : Nat} {w w' : World} {i q : Nat} {cs : Array Value} (h : OfRow u w w' i cs) (hq : q + i = 20) (hi : i = Lib.nDigits u) :
    (convert 23 26 (.slice (some ⟨w.heap.size, q, none⟩) (20 - q) (20 - q))).run Tryd.prog w' = .ok (.string ⟨(Lib.decDigits u).toArray⟩) w' := by
  obtain ⟨h1, h2, h3, h4⟩ := h
  have hl : (Lib.decDigits u).length = 20 - q := by rw [Lib.decDigits_length]; omega
  have h := run_convert_bytes_back (P := Tryd.prog) w' 23 26 5 ⟨w.heap.size, q, none⟩ (20 - q) (Lib.decDigits u) Tryd.underlying23 Tryd.underlying5 Tryd.underlying26 (fun j hj => by
    rw [Lib.add_plain, blk_cell h2]
    have e := h4 (i - 1 - j) (by omega)
    rw [show q + j = 19 - (i - 1 - j) by omega, e]
    simp only [Lib.decDigits_eq u, List.getElem_map, List.getElem_range]
    rw [← hi])
  rw [hl] at h
  exact h
theorem nDigits_le : ∀ (k u : Nat), u < 10 ^ (k + 1) → Lib.nDigits u ≤ k + 1
  | 0, u, h => by rw [Lib.nDigits_small (by simpa using h)]; omega
  | k + 1, u, h => by
    by_cases h9 : u < 10
    · rw [Lib.nDigits_small h9]; omega
    · rw [Lib.nDigits_big h9]
      have := nDigits_le k (u / 10) (by rw [Nat.pow_succ] at h; omega)
      omega
theorem ref_Of_end {u i n : Nat} (hi : i < Lib.nDigits u) (hn : n = u / 10 ^ i) : n / 10 = 0 ↔ i + 1 = Lib.nDigits u := by
  have e : n / 10 = u / 10 ^ (i + 1) := by rw [hn, Nat.div_div_eq_div_mul, Nat.pow_succ]
  rw [e]
  have hp : 0 < 10 ^ (i + 1) := Nat.pow_pos (by decide)
  constructor
  · intro h
    have := nDigits_le i u (by rcases Nat.div_eq_zero_iff.1 h with h | h <;> omega)
    omega
  · intro h
    rw [h]
    exact Nat.div_eq_zero_iff.2 (.inr (Lib.lt_pow_nDigits u))
set_option maxHeartbeats 1000000 in
set_option maxRecDepth 100000 in
theorem ref_Of (u : Nat) (hu : u < 18446744073709551616) (w : World) : Calls Tryd.prog 18 #[.int .u64 u] w fun e w' => e = .returned (.string ⟨(Lib.decDigits u).toArray⟩) ∧ Below w.heap.size w w' := by
  have hnd : Aside0 (Lib.nDigits u ≤ 20) := ⟨by
    by_cases h1 : 1 ≤ u
    · have := Lib.numDigits_eq u h1 hu
      split at this <;> omega
    · rw [Lib.nDigits_small (by omega)]
      omega⟩
  have hpos : Aside0 (1 ≤ Lib.nDigits u) := ⟨Lib.nDigits_pos u⟩
  have hal : Aside0 (Tryd.prog.arrayLen 58 = 20) := ⟨by simp [Program.arrayLen, Tryd.underlying58]⟩
  go_enter Tryd.func18, Tryd.ntmps18
  go_wp2
  go_loopg [0, 4] (Lib.nDigits u) (fun kq v0 v4 w' => ∃ (i q n : Nat) (cs : Array Value), v0 = .int .u64 (n : Int) ∧ v4 = .int .i64 ((q : Int) + 1) ∧ Aside0 (i < Lib.nDigits u ∧ kq + i = Lib.nDigits u) ∧ Aside0 (q + 1 + i = 20) ∧ Aside0 (n = u / 10 ^ i) ∧ Aside0 (OfRow u w w' i cs))
  case atStart =>
    refine ⟨0, 19, u, Lib.zeros24.extract 0 20, rfl, rfl, ⟨by have := hpos.out; omega, by omega⟩, ⟨by omega⟩, ⟨by simp⟩, ⟨rfl, ?_, ?_, fun j hj => by omega⟩⟩
    · exact heap_alloc_new w _
    · exact below_alloc (Below.refl _ _) _
  case round =>
    obtain ⟨i, q, n, cs, rfl, rfl, HI, HQ, HN, HR⟩ := hrel
    have hq19 : q < 20 := by have := HQ.out; omega
    obtain ⟨cv, hcell⟩ := HR.out.cell q hq19
    have hfree := HR.out.free q
    have hn64 : n < 18446744073709551616 := by rw [HN.out]; exact Nat.lt_of_le_of_lt (Nat.div_le_self _ _) hu
    have hR2 := Aside0.mk (HR.out.put HQ.out HN.out)
    have hE := Aside0.mk (ref_Of_end HI.out.1 HN.out)
    by_cases hz : n / 10 = 0
    · have hend := hE.out.1 hz
      have hcv := hR2.out.text (q := q) (by have := HQ.out; omega) hend
      have hsl : ∀ W, (Instr.sliceAt 58 (.pointer (some ⟨w.heap.size, 0, none⟩)) (some (.int .i64 (q : Int))) none none).run Tryd.prog W = .ok (.slice (some ⟨w.heap.size, q, none⟩) (20 - q) (20 - q)) W := fun W => by
        rw [run_sliceAt_array_l W 58 ⟨w.heap.size, 0, none⟩ (by simp [Program.arrayLen, Program.elem, Tryd.underlying58]) .i64 (q : Int) (by omega) (by rw [hal.out]; omega), hal.out]
        go_simp
        omega
      have HEnd := Aside0.mk hend
      clear hend
      go_wp2
      go_ret
      exact ⟨rfl, hR2.out.2.2.1⟩
    · have hend : ¬ i + 1 = Lib.nDigits u := fun h => hz (hE.out.2 h)
      have HEnd := Aside0.mk hend
      clear hend
      cases gk with
      | zero => exact absurd HI.out.2 (by have := HI.out.1; omega)
      | succ g1 =>
        obtain ⟨q1, rfl⟩ : ∃ q1, q = q1 + 1 := ⟨q - 1, by have := HQ.out; have := HI.out; have := hnd.out; have := HEnd.out; omega⟩
        go_wp2
        go_roundg g1
        case measure => have := HI.out; omega
        case rel => exact ⟨i + 1, q1, n / 10, _, by simp, by simp, ⟨by have := HI.out; have := HEnd.out; omega, by have := HI.out; omega⟩, ⟨by have := HQ.out; omega⟩, ⟨by rw [HN.out, Nat.div_div_eq_div_mul, Nat.pow_succ]⟩, ⟨by simpa using hR2.out⟩⟩
def schismaref01_Of.f (a0 : Int) : Option ByteArray := if 0 ≤ a0 ∧ a0 < 18446744073709551616 then some ⟨(Lib.decDigits a0.toNat).toArray⟩ else none
theorem schismaref01_Of.calls (a0 : Int) (r : ByteArray) (w : World) (h : schismaref01_Of.f a0 = some r) : Calls Tryd.prog 18 #[.int .u64 a0] w fun e w' => e = .returned (.string r) ∧ Below w.heap.size w w' := by
  unfold schismaref01_Of.f at h
  split at h
  · rename_i ha
    obtain ⟨u, rfl⟩ : ∃ u : Nat, a0 = u := ⟨a0.toNat, by omega⟩
    obtain rfl := Option.some.inj h
    exact (ref_Of u (by omega) w).mono fun e w' ⟨h1, h2⟩ => ⟨by rw [h1]; simp, h2⟩
  · cases h
end Go.Proofs.YtcfddphiflmnlaaDoor.P
