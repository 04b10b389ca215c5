/- The row of the law WholeGcds, and its tied card: for every input the law returns true and its arguments read as before. No condition but the row's own (the listed variables read as the program's text lays them). -/
import Derived.Test.YtgicckcahhlbjaaGreatDoorWholeGcdsBase
import Derived.Test.YtgicckcahhlbjaaGreatDoorCards
import Derived.Test.YtgicckcahhlbjaaGreatDoorTie
import Derived.Test.YtgicckcahhlbjaaGreatDoorWholeGcdsPure
import Derived.WalkKit
import Derived.ProofKit
import Derived.OpenShut
import Derived.ShutString
import Derived.ChangeOld
import Derived.Below
import Derived.SizedLaws
import Derived.SevenTiedAt
import Derived.Lib.SmallJoins
import Derived.ChangeArms
import Derived.Test.YtgicckcahhlbjaaGreatDoorWholeGcdsWSized
namespace Go.Proofs.YtgicckcahhlbjaaGreatDoor.wholeGcds
open Go.Lib Go.ChangeShapes Go.WideShapes Go.ChangeAt Go.RowKit Go.Joins
open Go.ChangeMaps (open_string shut_string)
open Base
set_option linter.unusedVariables false
open Go.Proofs.YtgicckcahhlbjaaGreatDoorW.PrintWords in
theorem walk (Q : P.w_WholeGcds.Pure) (b0 : Bool) (a0 : Option Addr) (len0 cap0 : Nat) (z0 : List Int) (b1 : Bool) (a1 : Option Addr) (len1 cap1 : Nat) (z1 : List Int) (b2 : Bool) (a2 : Option Addr) (len2 cap2 : Nat) (z2 : List Int) (w : World) (w0 : IsRow .u8 w a0 len0 cap0 z0) (w1 : IsRow .u8 w a1 len1 cap1 z1) (w2 : IsRow .u8 w a2 len2 cap2 z2) (hT : P.Tab w) :
    Calls Tryz.prog 6 #[.agg #[.bool b0, .slice a0 len0 cap0], .agg #[.bool b1, .slice a1 len1 cap1], .agg #[.bool b2, .slice a2 len2 cap2]] w fun e w' => e = .returned (.bool true) ∧ Below w.heap.size w w' := by
  obtain ⟨l0, rfl, hr0, hm0, hw0, hc0⟩ := ReadsInt.ofRowC w0
  obtain ⟨l1, rfl, hr1, hm1, hw1, hc1⟩ := ReadsInt.ofRowC w1
  obtain ⟨l2, rfl, hr2, hm2, hw2, hc2⟩ := ReadsInt.ofRowC w2
  obtain ⟨k, h⟩ := Q b0 l0 hm0 hw0 b1 l1 hm1 hw1 b2 l2 hm2 hw2 ()
  refine (P.w_WholeGcds.calls (hT := hT) k b0 _ _ l0 b1 _ _ l1 b2 _ _ l2 true w (Kd.C_of_reads (d := (0 : Int)) (h1 := fun _ => rfl) hr0) hc0 (Kd.C_of_reads (d := (0 : Int)) (h1 := fun _ => rfl) hr1) hc1 (Kd.C_of_reads (d := (0 : Int)) (h1 := fun _ => rfl) hr2) hc2 h).mono ?_
  rintro e w' ⟨rfl, hd⟩
  exact ⟨rfl, hd⟩
set_option maxRecDepth 100000 in
theorem lifted (os : Os) (started : os.Started) (H : Type) (enc : TypeId × Value → H) :
    ReturnsInHanded {} Tryz.checked os 6 .any (fun w args => (Rows.wholeGcdsSpec.pre enc Tryz.prog Tryz.f6 Rows.wholeGcdsRow.domain false w args ∧ laidMetH Tryz.prog laid w) ∧ sizedMet enc Tryz.prog Tryz.f6 (OpenSpec.ofChange Rows.wholeGcdsSpec) false w args)
      (Rows.wholeGcdsSpec.post enc Tryz.prog Tryz.f6 false true false false) := by
  refine returnsInHanded_of_change_and (C := Tryz.checked) (X := fun w _ => laidMetH Tryz.prog laid w) (fun _ _ _ hh h => h.of_heap hh) own started (by kernel_rfl) Tryz.func6
    (ChangeSpec.witness_shaped (enc := enc) (C := Tryz.checked) (os := os) (X := fun w _ => laidMetH Tryz.prog laid w) false (World.laidAll Tryz.prog os laid) #[.agg #[.bool false, .slice none 0 0], .agg #[.bool false, .slice none 0 0], .agg #[.bool false, .slice none 0 0]] 8 (World.laidAll_os _ _ _)
      (wit_shaped os) (by kernel_rfl) (by kernel_rfl) (by kernel_rfl) (wit_met os _)) ?_
  intro W base args ds gs before hval0 hW hcnd hsz0 hL _
  have hT := tab_of_laid hL
  have hsz : (DataW.weightsEach Tryz.prog (Tryz.f6.params.toList ++ Rows.wholeGcdsSpec.plain.varTypes Tryz.prog) (ds ++ gs)).all (· ≤ reachBytes) = true := hsz0
  have hval : ∀ (j : Nat) t v, Tryz.f6.params[j]? = some t → args[j]? = some v → Value.okWide Tryz.prog W .any base t v := hval0
  have hW' := hW
  obtain ⟨p, q, hA0, hV, rfl, hfz, hnd⟩ := hW
  have hA : DataW.TrodAll enc Tryz.prog W 0 (fun _ => true) true Tryz.f6.params.toList args.toList ds p := hA0
  rw [Tryz.params6] at hA hval hsz
  obtain ⟨v0, vs0, d0, ds0, p0, q0, hargs, rfl, rfl, h0, r0⟩ := trodAll_cons hA
  obtain ⟨v1, vs1, d1, ds1, p1, q1, rfl, rfl, rfl, h1, r1⟩ := trodAll_cons r0
  obtain ⟨v2, vs2, d2, ds2, p2, q2, rfl, rfl, rfl, h2, r2⟩ := trodAll_cons r1
  obtain ⟨rfl, rfl, rfl⟩ := trodAll_nil r2
  obtain rfl : args = #[v0, v1, v2] := by cases args; simp_all
  obtain ⟨rfl, rfl⟩ := trodVars_none hV
  have k0 := h0
  obtain ⟨b0, s0, yb0, ys0, m0, rfl, rfl, rfl, hb0, hs0⟩ := open_agg2 Tryz.underlying24 (by kernel_rfl) (by kernel_rfl) (hval 0 24 v0 rfl rfl) h0
  have lt0 : ∀ x ∈ yb0.2 ++ ys0.2, x.block < W.heap.size := by obtain ⟨m, hm⟩ := k0; exact DataW.trod_lt m _ _ _ hm
  obtain ⟨c0, eb0, _⟩ := DataW.trod_bool Tryz.underlying4 hb0
  obtain rfl : b0 = .bool c0 := by simpa using eb0
  obtain ⟨a0, len0, cap0, z0, es0, w0⟩ : ∃ a len cap zs, s0 = Value.slice a len cap ∧ IsRow .u8 W a len cap zs := by
    rcases open_ints Tryz.underlying22 Tryz.underlying5 (by kernel_rfl) hs0 with ⟨hcs, _⟩ | ⟨x, l, c, zs, hcs, _, hl, hm, hz, _, hcell, hwz⟩
    · exact ⟨none, 0, 0, [], by simpa using hcs, .inl ⟨rfl, rfl, rfl, rfl⟩⟩
    · exact ⟨some x, l, c, zs, by simpa using hcs, .inr ⟨_, rfl, hl, hm, by simpa using hz, hcell, hwz⟩⟩
  subst es0
  have k1 := h1
  obtain ⟨b1, s1, yb1, ys1, m1, rfl, rfl, rfl, hb1, hs1⟩ := open_agg2 Tryz.underlying24 (by kernel_rfl) (by kernel_rfl) (hval 1 24 v1 rfl rfl) h1
  have lt1 : ∀ x ∈ yb1.2 ++ ys1.2, x.block < W.heap.size := by obtain ⟨m, hm⟩ := k1; exact DataW.trod_lt m _ _ _ hm
  obtain ⟨c1, eb1, _⟩ := DataW.trod_bool Tryz.underlying4 hb1
  obtain rfl : b1 = .bool c1 := by simpa using eb1
  obtain ⟨a1, len1, cap1, z1, es1, w1⟩ : ∃ a len cap zs, s1 = Value.slice a len cap ∧ IsRow .u8 W a len cap zs := by
    rcases open_ints Tryz.underlying22 Tryz.underlying5 (by kernel_rfl) hs1 with ⟨hcs, _⟩ | ⟨x, l, c, zs, hcs, _, hl, hm, hz, _, hcell, hwz⟩
    · exact ⟨none, 0, 0, [], by simpa using hcs, .inl ⟨rfl, rfl, rfl, rfl⟩⟩
    · exact ⟨some x, l, c, zs, by simpa using hcs, .inr ⟨_, rfl, hl, hm, by simpa using hz, hcell, hwz⟩⟩
  subst es1
  have k2 := h2
  obtain ⟨b2, s2, yb2, ys2, m2, rfl, rfl, rfl, hb2, hs2⟩ := open_agg2 Tryz.underlying24 (by kernel_rfl) (by kernel_rfl) (hval 2 24 v2 rfl rfl) h2
  have lt2 : ∀ x ∈ yb2.2 ++ ys2.2, x.block < W.heap.size := by obtain ⟨m, hm⟩ := k2; exact DataW.trod_lt m _ _ _ hm
  obtain ⟨c2, eb2, _⟩ := DataW.trod_bool Tryz.underlying4 hb2
  obtain rfl : b2 = .bool c2 := by simpa using eb2
  obtain ⟨a2, len2, cap2, z2, es2, w2⟩ : ∃ a len cap zs, s2 = Value.slice a len cap ∧ IsRow .u8 W a len cap zs := by
    rcases open_ints Tryz.underlying22 Tryz.underlying5 (by kernel_rfl) hs2 with ⟨hcs, _⟩ | ⟨x, l, c, zs, hcs, _, hl, hm, hz, _, hcell, hwz⟩
    · exact ⟨none, 0, 0, [], by simpa using hcs, .inl ⟨rfl, rfl, rfl, rfl⟩⟩
    · exact ⟨some x, l, c, zs, by simpa using hcs, .inr ⟨_, rfl, hl, hm, by simpa using hz, hcell, hwz⟩⟩
  subst es2
  clear hA0 hval0 hsz0 hsz
  refine (walk Pure.WholeGcds c0 a0 len0 cap0 z0 c1 a1 len1 cap1 z1 c2 a2 len2 cap2 z2 W w0 w1 w2 hT).mono fun e W' ⟨he, bel⟩ => ?_
  subst he
  exact ⟨_, rfl, _, _, _, [], _, [], hW', trodAll_mk1 (shut_bool Tryz.underlying4 _), (trodAll_cons_mk (Below.trod laidOut (by kernel_rfl) (of_decide_eq_true (by kernel_rfl)) k0 bel lt0) (trodAll_cons_mk (Below.trod laidOut (by kernel_rfl) (of_decide_eq_true (by kernel_rfl)) k1 bel lt1) (trodAll_cons_mk (Below.trod laidOut (by kernel_rfl) (of_decide_eq_true (by kernel_rfl)) k2 bel lt2) trodAll_mk0))), rfl, bel.frame _, fun h => by cases h⟩
theorem over : Rows.wholeGcdsRow.holds Tryz.pinned (OpenSpec.ofChange Rows.wholeGcdsSpec) :=
  OpenClaim.holds_of_wide 6 Tryz.f6 rfl rfl rfl rfl rfl rfl rfl ⟨rfl, rfl, rfl, rfl, rfl⟩ rfl rfl rfl rfl rfl (by kernel_rfl) Tryz.func6 (by kernel_rfl)
    (of_decide_eq_true (by kernel_rfl)) (by unfold Func.isWrapper; first | (rw [if_pos (by decide +kernel)]; kernel_rfl) | (rw [if_neg (by decide +kernel)]; exact ⟨rfl, rfl⟩))
    (fun os started H enc _ => lifted os started H enc)
theorem card_holds : Rows.WholeGcdsCardSaid :=
  Claim7.holds_tied_plain_at .later [] [.data, .data, .data, .data, .sentinel, .sentinel, .pinned] true (true, "cf26e91b3542dc6788e45833fd4f1993d2593309a7cc6f3039c72a42ccb7e73f") true over (fun _ h => by cases h) (by kernel_rfl) (fun _ h => by cases h) wholeGcds_row_tie rfl ⟨rfl, rfl⟩ (by kernel_rfl) rfl
    (fun f fn hf hfn => by
      obtain rfl : f = 6 := Option.some.inj ((show Tryz.prog.funcNamed "schisma/schismalaw02.WholeGcds" = some 6 by kernel_rfl).symm.trans hf) |>.symm
      obtain rfl : fn = Tryz.f6 := (Option.some.inj (Tryz.func6.symm.trans hfn)).symm
      exact ⟨by kernel_rfl, fun j t ht => by
        rw [Tryz.params6] at ht
        have hm : t ∈ [24, 24, 24] := by simpa using Array.mem_of_getElem? ht
        have hall : ([24, 24, 24].all fun u => !Tryz.prog.wantsStandIn u) = true := by kernel_rfl
        exact (show Tryz.prog.wantsStandIn t = false by simpa using List.all_eq_true.1 hall t hm)⟩)
    (by kernel_rfl)
#print axioms card_holds
end Go.Proofs.YtgicckcahhlbjaaGreatDoor.wholeGcds
namespace Go.Proofs.YtgicckcahhlbjaaGreatDoor
theorem wholeGcds_card_holds : Rows.WholeGcdsCardSaid := wholeGcds.card_holds
end Go.Proofs.YtgicckcahhlbjaaGreatDoor
