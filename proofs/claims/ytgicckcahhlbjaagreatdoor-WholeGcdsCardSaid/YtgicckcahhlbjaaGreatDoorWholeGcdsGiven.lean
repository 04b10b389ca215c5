/- Words of the walks, as the kit's print wrote them for this seat, and contracts of Go's library: those that this claim names. Conditions: those of each theorem. -/
import Derived.Test.YtgicckcahhlbjaaGreatDoorWholeGcdsShelf
import Derived.Test.YtgicckcahhlbjaaGreatDoorWholeGcdsWPlus
import Derived.Lib.Walk
import Derived.Lib.ItoaMem
import Derived.Lib.AppendIntMem
import Derived.WalkKit
import Derived.BigCall
import Derived.BigGuard

namespace Go.Proofs.YtgicckcahhlbjaaGreatDoor.P
open Go.RowKit Go.Sort Go.Lib Go.Proofs.YtgicckcahhlbjaaGreatDoorW.PrintWords
structure Tab (w : World) : Prop where
  tab : Lib.TabIs Tryz.prog w "internal/strconv.uint64pow10" .u64 Lib.pow10Tab
  rng : ∃ ev, w.cell? ⟨1, 0, none⟩ = some ev ∧ (ev = .nilIface ∨ ∃ te pe, ev = .iface te pe)
theorem Tab.below {w W : World} (h : Tab w) (hb : Below w.heap.size w W) : Tab W := by
  obtain ⟨h1, ev, h2, h3⟩ := h
  exact ⟨Lib.tabBelow_of_tabIs h1 W hb, ev, pw_cell_below hb h2, h3⟩
theorem grow_below (w : World) (k : Nat) (os : Array Obj) : Below w.heap.size w (grow (w.drewN k) os) := by
  refine ⟨rfl, rfl, rfl, by simp [grow, World.drewN], fun i hi => ?_⟩
  have : i < (w.drewN k).heap.size := hi
  simp [grow, Array.getElem?_append, World.drewN, hi]
theorem holds_zero0 (w : World) (T : TypeId) (nd : Nat) (hs : nd ≤ 24) : Holds (fun (b : UInt8) => Value.int .u8 (b.toNat : Int)) (w.alloc (.cells zeros24 T)) w.heap.size 0 (Array.replicate nd (0 : UInt8)) := fun j hj => by
  have hj' : j < nd := by simpa using hj
  refine ⟨?_, World.frozen?_alloc_new _ _ _ _⟩
  rw [World.cell?_alloc_new, zeros24_at _ (by omega), getElem!_pos _ j hj]
  simp
theorem fin_zero (w : World) (o : Obj) (dk : Array UInt8) (k : Nat) : ∃ os, (putRow (fun (b : UInt8) => Value.int .u8 (b.toNat : Int)) (w.alloc o) w.heap.size 0 dk).drewN k = grow (w.drewN k) os := by
  rw [alloc_eq_grow]
  obtain ⟨os', _, e⟩ := putRow_grow_new (fun (b : UInt8) => Value.int .u8 (b.toNat : Int)) w #[o] w.heap.size 0 dk (Nat.le_refl _)
  exact ⟨os', by rw [e]; rfl⟩
set_option maxHeartbeats 6400000 in
set_option maxRecDepth 100000 in
theorem FormatUint_10 (u : Nat) (hu64 : u < 18446744073709551616) (w : World) (htab : Lib.TabIs Tryz.prog w "internal/strconv.uint64pow10" .u64 Lib.pow10Tab) :
    Calls Tryz.prog 101 #[.int .u64 u, .int .i64 10] w fun e w' => e = .returned (.string ⟨(Lib.decDigits u).toArray⟩) ∧ ∃ k os, w' = grow (w.drewN k) os := by
  by_cases hs : u < 100
  · go_enter Tryz.func101, Tryz.ntmps101
    go_wp2_with (go_at_call 105; refine (Tryz.internal_strconv_small u hs _).mono ?_; rintro e w' ⟨rfl, rfl⟩)
    go_ret
    exact ⟨rfl, 0, #[], by simp [World.drewN_zero]⟩
  · have hu1 : 1 ≤ u := by omega
    have hnd20 : Lib.nDigits u ≤ 20 := by have := Lib.numDigits_eq u hu1 hu64; split at this <;> omega
    have hb3 : Lib.nDigits u ≤ 24 := by omega
    have hal : Tryz.prog.arrayLen 124 = 24 := by simp [Program.arrayLen, Tryz.underlying124]
    have hsl1 : ∀ W, (Instr.sliceAt 124 (.pointer (some ⟨w.heap.size, 0, none⟩)) none (some (.int .i64 (Lib.nDigits u : Int))) none).run Tryz.prog W = .ok (.slice (some ⟨w.heap.size, 0, none⟩) (Lib.nDigits u) 24) W := fun W => by
      rw [run_sliceAt_array_h W 124 ⟨w.heap.size, 0, none⟩ (by simp [Program.arrayLen, Program.elem, Tryz.underlying124]) .i64 (Lib.nDigits u : Int) (by omega) (by rw [hal]; omega)]
      go_simp
    have hH0 := holds_zero0 w 124 (Lib.nDigits u) (by omega)
    have hfmt := Tryz.internal_strconv_formatBase10 w.heap.size 0 24 u (Array.replicate (Lib.nDigits u) 0) (w.alloc (.cells Lib.zeros24 124)) hH0 (by rw [Array.size_replicate]; exact Lib.lt_pow_nDigits u) hu64 (by rw [Array.size_replicate]; omega)
    rw [Array.size_replicate] at hfmt
    have HH0 := Lib.hid hH0
    clear hH0 hal
    go_enter Tryz.func101, Tryz.ntmps101
    go_wp2_with (go_at_call 106; refine (Tryz.internal_strconv_numDigits u hu1 hu64 _ (Lib.tabIs_alloc htab _)).mono ?_; rintro e w' ⟨rfl, rfl⟩)
    go_at_call 107
    refine hfmt.mono ?_
    rintro e w' ⟨rfl, k, v', dk, rfl, hF⟩
    have hcv : (convert 22 9 (.slice (some ⟨w.heap.size, 0, none⟩) (Lib.nDigits u) 24)).run Tryz.prog ((putRow (fun (b : UInt8) => Value.int .u8 (b.toNat : Int)) (w.alloc (.cells Lib.zeros24 124)) w.heap.size 0 dk).drewN k) = .ok (.string ⟨(Lib.decDigits u).toArray⟩) ((putRow (fun (b : UInt8) => Value.int .u8 (b.toNat : Int)) (w.alloc (.cells Lib.zeros24 124)) w.heap.size 0 dk).drewN k) := by
      have h := run_convert_bytes_back (P := Tryz.prog) ((putRow (fun (b : UInt8) => Value.int .u8 (b.toNat : Int)) (w.alloc (.cells Lib.zeros24 124)) w.heap.size 0 dk).drewN k) 22 9 5 ⟨w.heap.size, 0, none⟩ 24 (Lib.decDigits u) Tryz.underlying22 Tryz.underlying5 Tryz.underlying9 (fun j hj => by
        rw [Lib.row_is_numeral hF j hj, Lib.add_plain, World.cell?_drewN]
        exact cell?_putRow (fun (b : UInt8) => Value.int .u8 (b.toNat : Int)) _ w.heap.size 0 _ dk HH0.out (by rw [hF.size, Array.size_replicate]) j (by rw [hF.size]; rw [Lib.decDigits_length] at hj; exact hj))
      rw [Lib.decDigits_length] at h
      exact h
    go_wp2
    go_ret
    obtain ⟨os, eo⟩ := fin_zero w (.cells Lib.zeros24 124) dk k
    exact ⟨rfl, k, os, eo⟩
def decimal_Of.f (a0 : Int) : Option ByteArray := if 0 ≤ a0 ∧ a0 < 18446744073709551616 then some ⟨(Lib.decDigits a0.toNat).toArray⟩ else none
set_option maxRecDepth 100000 in
theorem decimal_Of.calls (a0 : Int) (r : ByteArray) (w : World) (hT : Tab w) (h : decimal_Of.f a0 = some r) : Calls Tryz.prog 69 #[.int .u64 a0] w fun e w' => e = .returned (.string r) ∧ Below w.heap.size w w' := by
  unfold decimal_Of.f at h
  split at h
  · rename_i ha
    obtain ⟨u, rfl⟩ : ∃ u : Nat, a0 = u := ⟨a0.toNat, by omega⟩
    obtain rfl := Option.some.inj h
    have hu : u < 18446744073709551616 := by omega
    have HT := Aside0.mk hT
    clear hT h ha
    go_enter Tryz.func69, Tryz.ntmps69
    go_wp2_with (go_at_call 88; go_enter Tryz.func88, Tryz.ntmps88)
    go_wp2_with (go_at_call 101; refine (FormatUint_10 u hu _ HT.out.tab).mono ?_; rintro e w' ⟨rfl, k, os, rfl⟩)
    go_ret
    exact ⟨by simp, grow_below _ _ _⟩
  · cases h
def decimal_Small.f (a0 : ByteArray) : Option (Int × Bool) :=
  if a0.size ≤ 281474976710656 then
    match Lib.parseUintB 64 a0.data.toList with
    | .ok u => some ((u : Int), true)
    | .range => some (0, false)
    | _ => none
  else none
theorem bytesWorld_below (w : World) (e : TypeId) (s : ByteArray) : Below w.heap.size w (Lib.bytesWorld w e s) := bytes_below (Below.refl _ _) (Nat.le_refl _) e s
set_option maxRecDepth 100000 in
theorem decimal_Small.calls (a0 : ByteArray) (r1 : Int) (r2 : Bool) (w : World) (hT : Tab w) (h : decimal_Small.f a0 = some (r1, r2)) : Calls Tryz.prog 82 #[.string a0] w fun e w' => e = .returned (.tuple #[.int .u64 r1, .bool r2]) ∧ Below w.heap.size w w' := by
  unfold decimal_Small.f at h
  split at h
  · rename_i hs
    have HT := Aside0.mk hT
    have HS := Aside0.mk hs
    clear hT hs
    split at h
    · rename_i u hu
      simp only [Option.some.injEq, Prod.mk.injEq] at h
      obtain ⟨rfl, rfl⟩ := h
      have HU := Aside0.mk hu
      clear hu
      go_enter Tryz.func82, Tryz.ntmps82
      go_wp2_with (go_at_call 94; refine (Tryz.strconv_ParseUint_10_at64_ok a0 (by have := HS.out; omega) u HU.out _).mono ?_; rintro e w' ⟨rfl, hw⟩)
      have HB := Aside0.mk (show Below w.heap.size w w' by
        rcases hw with rfl | rfl
        · exact Below.refl _ _
        · exact bytesWorld_below _ _ _)
      clear hw
      go_wp2
      go_ret2
      exact ⟨rfl, HB.out⟩
    · rename_i hu
      simp only [Option.some.injEq, Prod.mk.injEq] at h
      obtain ⟨rfl, rfl⟩ := h
      obtain ⟨ev, hv, hev⟩ := HT.out.rng
      have HU := Aside0.mk hu
      have HV := Aside0.mk hv
      have HE := Aside0.mk hev
      clear hu hv hev
      go_enter Tryz.func82, Tryz.ntmps82
      go_wp2_with (go_at_call 94; refine (Tryz.strconv_ParseUint_10_at64_range a0 HS.out HU.out ev _ HV.out HE.out).mono ?_; rintro e w' ⟨N, rfl, _, _, hb⟩)
      have HB := Aside0.mk hb
      clear hb
      go_wp2
      go_ret2
      exact ⟨rfl, HB.out⟩
    · cases h
  · cases h
def bits_Len64.f (a0 : Int) : Option Int := if 0 ≤ a0 ∧ a0 ≤ 18446744073709551615 then some (Lib.bitLen a0.toNat) else none
theorem bits_Len64.calls (a0 : Int) (r : Int) (w : World) (h : bits_Len64.f a0 = some r) : Calls Tryz.prog 83 #[.int .u64 a0] w fun e w' => e = .returned (.int .i64 r) ∧ Drawn0 w w' := by
  unfold bits_Len64.f at h
  split at h
  · rename_i ha
    obtain rfl := Option.some.inj h
    exact (Tryz.bits_Len64 a0 w ha.1 ha.2).mono fun e w' ⟨h1, h2⟩ => ⟨h1, by rw [h2]; exact Drawn0.refl _⟩
  · cases h
def strconv_Itoa.f (a0 : Int) : Option ByteArray := if -9223372036854775808 ≤ a0 ∧ a0 ≤ 9223372036854775807 then some ⟨(Lib.itoa a0).toArray⟩ else none
theorem strconv_Itoa.calls (a0 : Int) (r : ByteArray) (w : World) (hT : Tab w) (h : strconv_Itoa.f a0 = some r) : Calls Tryz.prog 64 #[.int .i64 a0] w fun e w' => e = .returned (.string r) ∧ Below w.heap.size w w' := by
  unfold strconv_Itoa.f at h
  split at h
  · rename_i ha
    obtain rfl := Option.some.inj h
    exact (Tryz.strconv_Itoa a0 ha.1 ha.2 w hT.tab).mono fun e w' ⟨h1, k, os, h2⟩ => ⟨h1, by rw [h2]; exact grow_below _ _ _⟩
  · cases h
def strings_TrimLeft.f (a0 a1 : ByteArray) : Option ByteArray := if a1.data.size = 1 ∧ (a1.data.getD 0 0).toNat < 128 then some ⟨(Lib.trimLeftB a0.data.toList (a1.data.getD 0 0)).toArray⟩ else none
theorem strings_TrimLeft.calls (a0 a1 : ByteArray) (r : ByteArray) (w : World) (h : strings_TrimLeft.f a0 a1 = some r) : Calls Tryz.prog 58 #[.string a0, .string a1] w fun e w' => e = .returned (.string r) ∧ Below w.heap.size w w' := by
  unfold strings_TrimLeft.f at h
  split at h
  · rename_i ha
    obtain rfl := Option.some.inj h
    obtain ⟨c, rfl⟩ : ∃ c, a1 = ⟨#[c]⟩ := by
      obtain ⟨⟨l⟩⟩ := a1
      have hl : l.length = 1 := by simpa using ha.1
      match l, hl with
      | [c], _ => exact ⟨c, rfl⟩
    exact (Tryz.strings_TrimLeft_one a0 c ha.2 w).mono fun e w' ⟨h1, h2⟩ => ⟨h1, by rw [h2]; exact Below.refl _ _⟩
  · cases h
def whole_little.f (a0 : ByteArray) (a1 : Int) : Option (Int × Bool) :=
  if (a0.size : Int) > a1 then some (0, false)
  else if a0.size ≤ 9223372036854775806 then
    match Lib.atoiAll a0.data.toList with
    | .ok v => some (v, true)
    | _ => none
  else none
set_option maxRecDepth 100000 in
theorem whole_little.calls (a0 : ByteArray) (a1 : Int) (r1 : Int) (r2 : Bool) (w : World) (h : whole_little.f a0 a1 = some (r1, r2)) : Calls Tryz.prog 40 #[.string a0, .int .i64 a1] w fun e w' => e = .returned (.tuple #[.int .i64 r1, .bool r2]) ∧ Below w.heap.size w w' := by
  unfold whole_little.f at h
  split at h
  · rename_i hl
    simp only [Option.some.injEq, Prod.mk.injEq] at h
    obtain ⟨rfl, rfl⟩ := h
    have hl0 : a1 < (a0.size : Int) := hl
    have HB := Aside0.mk (Below.refl w.heap.size w)
    clear hl
    go_enter Tryz.func40, Tryz.ntmps40
    go_wp2
    go_ret2
    exact ⟨rfl, HB.out⟩
  · rename_i hl
    have hl0 : (a0.size : Int) ≤ a1 := by omega
    have hl1 : ¬ a1 < (a0.size : Int) := by omega
    clear hl
    split at h
    · rename_i hs
      have HS := Aside0.mk hs
      clear hs
      split at h
      · rename_i v hv
        simp only [Option.some.injEq, Prod.mk.injEq] at h
        obtain ⟨rfl, rfl⟩ := h
        have HV := Aside0.mk hv
        clear hv
        go_enter Tryz.func40, Tryz.ntmps40
        go_wp2_with (go_at_call 67; refine (Tryz.strconv_Atoi_ok a0 HS.out v HV.out _).mono ?_; rintro e w' ⟨rfl, hw⟩)
        have HB := Aside0.mk (show Below w.heap.size w w' by
          rcases hw with rfl | ⟨t, rfl⟩
          · exact Below.refl _ _
          · exact bytesWorld_below _ _ _)
        clear hw
        go_wp2
        repeat (go_quiet (fail); try go_wp2)
        go_ret2
        exact ⟨rfl, by repeat (first | exact HB.out | apply pw_below_drewN)⟩
      · cases h
    · cases h
end Go.Proofs.YtgicckcahhlbjaaGreatDoor.P
