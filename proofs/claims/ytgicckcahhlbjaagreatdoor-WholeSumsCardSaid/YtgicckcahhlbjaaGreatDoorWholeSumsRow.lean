/- The row of the law WholeSums, and its tied card: for every input the law returns true and its arguments read as before. No condition but the row's own (the listed variables read as the program's text lays them). -/
import Derived.Test.YtgicckcahhlbjaaGreatDoorWholeSumsBase
import Derived.Test.YtgicckcahhlbjaaGreatDoorCards
import Derived.Test.YtgicckcahhlbjaaGreatDoorTie
import Derived.Test.YtgicckcahhlbjaaGreatDoorWholeSumsPure
import Derived.WalkKit
import Derived.ProofKit
import Derived.OpenShut
import Derived.ShutString
import Derived.ChangeOld
import Derived.Below
import Derived.SizedLaws
import Derived.SevenTiedAt
import Derived.Lib.SmallJoins
import Derived.ChangeArms
import Derived.Test.YtgicckcahhlbjaaGreatDoorWholeSumsWSized
import Derived.Deep.SlicePairs
namespace Go.Proofs.YtgicckcahhlbjaaGreatDoor.wholeSums
open Go.Lib Go.ChangeShapes Go.WideShapes Go.ChangeAt Go.RowKit Go.Joins
open Go.ChangeMaps (open_string shut_string)
open Base
set_option linter.unusedVariables false
open Go.Proofs.YtgicckcahhlbjaaGreatDoorW.PrintWords in
theorem open_nums2 {H : Type} {enc : TypeId × Value → H} {W : World} {cs : List Value} {a : Option Addr} {len cap : Nat} {y : DataW H × List MemPlace} (hc : cs = [.slice a len cap]) (h : ∃ fuel, DataW.trod enc Tryz.prog W 0 (fun _ => true) true fuel 34 cs = some y) :
    ∃ l : List P.S24, len = l.length ∧ l.length ≤ cap ∧ Kd.C P.k24 W a l.length l ∧ ∀ x ∈ l, x.f1.length ≤ maxLen ∧ ∀ y ∈ x.f1, (Lit.int .u8 y).wf = true := by
  subst hc
  obtain ⟨fuel, hf⟩ := h
  rcases Deep.open_slice_pairs Tryz.underlying34 Tryz.underlying24 (by kernel_rfl) rfl rfl (by kernel_rfl) (by kernel_rfl) hf with ⟨hcs, _⟩ | ⟨ad, n, c, m, f, V0, V1, D0, D1, P0, P1, hcs, _, hl, hm, hmm, _, hx⟩
  · injection hcs with hcs _
    injection hcs with e1 e2 e3
    subst e1 e2 e3
    exact ⟨[], rfl, Nat.le_refl _, ⟨rfl, by decide, fun h => absurd h (by decide)⟩, fun x hx => by cases hx⟩
  · injection hcs with hcs _
    injection hcs with e1 e2 e3
    subst e1 e2 e3
    rw [if_pos rfl] at hmm
    have each : ∀ i, i < len → ∃ s : P.S24, V0 i = .bool s.f0 ∧ (∃ A c, V1 i = .slice A s.f1.length c ∧ s.f1.length ≤ c ∧ (Kd.int .u8).C W A s.f1.length s.f1) ∧ s.f1.length ≤ maxLen ∧ ∀ y ∈ s.f1, (Lit.int .u8 y).wf = true := fun i hi => by
      obtain ⟨h1, h2, h3, h4⟩ := hx i (by omega)
      obtain ⟨b, eb, _⟩ := DataW.trod_bool Tryz.underlying4 h3
      have eb2 : V0 i = .bool b := by simpa using eb
      obtain ⟨A, l, c2, zs, e2, w2⟩ : ∃ a len cap zs, V1 i = Value.slice a len cap ∧ IsRow .u8 W a len cap zs := by
        rcases open_ints Tryz.underlying22 Tryz.underlying5 (by kernel_rfl) h4 with ⟨hcs, _⟩ | ⟨x, l, c, zs, hcs, _, hl, hm, hz, _, hcell, hwz⟩
        · exact ⟨none, 0, 0, [], by simpa using hcs, .inl ⟨rfl, rfl, rfl, rfl⟩⟩
        · exact ⟨some x, l, c, zs, by simpa using hcs, .inr ⟨_, rfl, hl, hm, by simpa using hz, hcell, hwz⟩⟩
      obtain ⟨t, rfl, hr, hm2, hw, hc2⟩ := ReadsInt.ofRowC w2
      exact ⟨⟨b, t⟩, eb2, ⟨A, c2, e2, hc2, Kd.C_of_reads (d := (0 : Int)) (h1 := fun _ => rfl) hr⟩, hm2, hw⟩
    haveI : Inhabited P.S24 := ⟨P.z24⟩
    obtain ⟨g, hg⟩ := Deep.choose_lt each
    have hlen : ((List.range len).map g).length = len := by simp
    refine ⟨(List.range len).map g, hlen.symm, by rw [hlen]; exact hl, ?_, fun x hx => ?_⟩
    · refine ⟨rfl, ?_, fun _ => ⟨ad, rfl, fun j p hp => ?_⟩⟩
      · rw [hlen]
        have : maxLen ≤ 9223372036854775807 := by decide
        omega
      · obtain ⟨hlt, e⟩ := List.getElem?_eq_some_iff.1 hp
        have hj : j < len := by rw [hlen] at hlt; exact hlt
        obtain rfl : g j = p := by simpa using e
        obtain ⟨e0, ⟨A, c, e1, hc1, hr⟩, _⟩ := hg j hj
        obtain ⟨x1, x2, _, _⟩ := hx j (by omega)
        refine ⟨[V0 j, V1 j], rfl, by rw [e0, e1]; exact P.k24_mk W (g j) hc1 hr, fun i u hu => ?_⟩
        match i, hu with
        | 0, hu =>
          obtain rfl : V0 j = u := Option.some.inj hu
          exact x1
        | 1, hu =>
          obtain rfl : V1 j = u := Option.some.inj hu
          exact x2
        | i + 2, hu => simp at hu
    · obtain ⟨i, hi, rfl⟩ := List.mem_map.1 hx
      exact (hg i (List.mem_range.1 hi)).2.2
open Go.Proofs.YtgicckcahhlbjaaGreatDoorW.PrintWords in
theorem walk (Q : P.schismalaw02_WholeSums.Pure) (b0 : Bool) (a0 : Option Addr) (len0 cap0 : Nat) (z0 : List Int) (b1 : Bool) (a1 : Option Addr) (len1 cap1 : Nat) (z1 : List Int) (a2 : Option Addr) (cap2 : Nat) (l2 : List P.S24) (w : World) (w0 : IsRow .u8 w a0 len0 cap0 z0) (w1 : IsRow .u8 w a1 len1 cap1 z1) (x2 : l2.length ≤ cap2) (y2 : Kd.C P.k24 w a2 l2.length l2) (n2 : ∀ x ∈ l2, x.f1.length ≤ maxLen ∧ ∀ y ∈ x.f1, (Lit.int .u8 y).wf = true) (hT : P.Tab w) :
    Calls Tryz.prog 4 #[.agg #[.bool b0, .slice a0 len0 cap0], .agg #[.bool b1, .slice a1 len1 cap1], .slice a2 l2.length cap2] w fun e w' => e = .returned (.bool true) ∧ Below w.heap.size w w' := by
  obtain ⟨l0, rfl, hr0, hm0, hw0, hc0⟩ := ReadsInt.ofRowC w0
  obtain ⟨l1, rfl, hr1, hm1, hw1, hc1⟩ := ReadsInt.ofRowC w1
  obtain ⟨k, h⟩ := Q b0 l0 hm0 hw0 b1 l1 hm1 hw1 l2 n2 ()
  refine (P.schismalaw02_WholeSums.calls (hT := hT) k b0 _ _ l0 b1 _ _ l1 _ _ l2 true w (Kd.C_of_reads (d := (0 : Int)) (h1 := fun _ => rfl) hr0) hc0 (Kd.C_of_reads (d := (0 : Int)) (h1 := fun _ => rfl) hr1) hc1 y2 x2 h).mono ?_
  rintro e w' ⟨rfl, hd⟩
  exact ⟨rfl, hd⟩
set_option maxRecDepth 100000 in
theorem lifted (os : Os) (started : os.Started) (H : Type) (enc : TypeId × Value → H) :
    ReturnsInHanded {} Tryz.checked os 4 .any (fun w args => (Rows.wholeSumsSpec.pre enc Tryz.prog Tryz.f4 Rows.wholeSumsRow.domain false w args ∧ laidMetH Tryz.prog laid w) ∧ sizedMet enc Tryz.prog Tryz.f4 (OpenSpec.ofChange Rows.wholeSumsSpec) false w args)
      (Rows.wholeSumsSpec.post enc Tryz.prog Tryz.f4 false true false false) := by
  refine returnsInHanded_of_change_and (C := Tryz.checked) (X := fun w _ => laidMetH Tryz.prog laid w) (fun _ _ _ hh h => h.of_heap hh) own started (by kernel_rfl) Tryz.func4
    (ChangeSpec.witness_shaped (enc := enc) (C := Tryz.checked) (os := os) (X := fun w _ => laidMetH Tryz.prog laid w) false (World.laidAll Tryz.prog os laid) #[.agg #[.bool false, .slice none 0 0], .agg #[.bool false, .slice none 0 0], .slice none 0 0] 8 (World.laidAll_os _ _ _)
      (wit_shaped os) (by kernel_rfl) (by kernel_rfl) (by kernel_rfl) (wit_met os _)) ?_
  intro W base args ds gs before hval0 hW hcnd hsz0 hL _
  have hT := tab_of_laid hL
  have hsz : (DataW.weightsEach Tryz.prog (Tryz.f4.params.toList ++ Rows.wholeSumsSpec.plain.varTypes Tryz.prog) (ds ++ gs)).all (· ≤ reachBytes) = true := hsz0
  have hval : ∀ (j : Nat) t v, Tryz.f4.params[j]? = some t → args[j]? = some v → Value.okWide Tryz.prog W .any base t v := hval0
  have hW' := hW
  obtain ⟨p, q, hA0, hV, rfl, hfz, hnd⟩ := hW
  have hA : DataW.TrodAll enc Tryz.prog W 0 (fun _ => true) true Tryz.f4.params.toList args.toList ds p := hA0
  rw [Tryz.params4] at hA hval hsz
  obtain ⟨v0, vs0, d0, ds0, p0, q0, hargs, rfl, rfl, h0, r0⟩ := trodAll_cons hA
  obtain ⟨v1, vs1, d1, ds1, p1, q1, rfl, rfl, rfl, h1, r1⟩ := trodAll_cons r0
  obtain ⟨v2, vs2, d2, ds2, p2, q2, rfl, rfl, rfl, h2, r2⟩ := trodAll_cons r1
  obtain ⟨rfl, rfl, rfl⟩ := trodAll_nil r2
  obtain rfl : args = #[v0, v1, v2] := by cases args; simp_all
  obtain ⟨rfl, rfl⟩ := trodVars_none hV
  have k0 := h0
  obtain ⟨b0, s0, yb0, ys0, m0, rfl, rfl, rfl, hb0, hs0⟩ := open_agg2 Tryz.underlying24 (by kernel_rfl) (by kernel_rfl) (hval 0 24 v0 rfl rfl) h0
  have lt0 : ∀ x ∈ yb0.2 ++ ys0.2, x.block < W.heap.size := by obtain ⟨m, hm⟩ := k0; exact DataW.trod_lt m _ _ _ hm
  obtain ⟨c0, eb0, _⟩ := DataW.trod_bool Tryz.underlying4 hb0
  obtain rfl : b0 = .bool c0 := by simpa using eb0
  obtain ⟨a0, len0, cap0, z0, es0, w0⟩ : ∃ a len cap zs, s0 = Value.slice a len cap ∧ IsRow .u8 W a len cap zs := by
    rcases open_ints Tryz.underlying22 Tryz.underlying5 (by kernel_rfl) hs0 with ⟨hcs, _⟩ | ⟨x, l, c, zs, hcs, _, hl, hm, hz, _, hcell, hwz⟩
    · exact ⟨none, 0, 0, [], by simpa using hcs, .inl ⟨rfl, rfl, rfl, rfl⟩⟩
    · exact ⟨some x, l, c, zs, by simpa using hcs, .inr ⟨_, rfl, hl, hm, by simpa using hz, hcell, hwz⟩⟩
  subst es0
  have k1 := h1
  obtain ⟨b1, s1, yb1, ys1, m1, rfl, rfl, rfl, hb1, hs1⟩ := open_agg2 Tryz.underlying24 (by kernel_rfl) (by kernel_rfl) (hval 1 24 v1 rfl rfl) h1
  have lt1 : ∀ x ∈ yb1.2 ++ ys1.2, x.block < W.heap.size := by obtain ⟨m, hm⟩ := k1; exact DataW.trod_lt m _ _ _ hm
  obtain ⟨c1, eb1, _⟩ := DataW.trod_bool Tryz.underlying4 hb1
  obtain rfl : b1 = .bool c1 := by simpa using eb1
  obtain ⟨a1, len1, cap1, z1, es1, w1⟩ : ∃ a len cap zs, s1 = Value.slice a len cap ∧ IsRow .u8 W a len cap zs := by
    rcases open_ints Tryz.underlying22 Tryz.underlying5 (by kernel_rfl) hs1 with ⟨hcs, _⟩ | ⟨x, l, c, zs, hcs, _, hl, hm, hz, _, hcell, hwz⟩
    · exact ⟨none, 0, 0, [], by simpa using hcs, .inl ⟨rfl, rfl, rfl, rfl⟩⟩
    · exact ⟨some x, l, c, zs, by simpa using hcs, .inr ⟨_, rfl, hl, hm, by simpa using hz, hcell, hwz⟩⟩
  subst es1
  obtain ⟨a2, len2, cap2, rfl⟩ := okWide_slice Tryz.underlying34 (hval 2 34 v2 rfl rfl)
  have k2 := h2
  have lt2 : ∀ x ∈ p2, x.block < W.heap.size := by obtain ⟨m, hm⟩ := k2; exact DataW.trod_lt m _ _ _ hm
  obtain ⟨l2, rfl, x2, y2, n2⟩ := open_nums2 (a := a2) (len := len2) (cap := cap2) (by simp [Value.cells]) h2
  clear hA0 hval0 hsz0 hsz
  refine (walk Pure.WholeSums c0 a0 len0 cap0 z0 c1 a1 len1 cap1 z1 a2 cap2 l2 W w0 w1 x2 y2 n2 hT).mono fun e W' ⟨he, bel⟩ => ?_
  subst he
  exact ⟨_, rfl, _, _, _, [], _, [], hW', trodAll_mk1 (shut_bool Tryz.underlying4 _), (trodAll_cons_mk (Below.trod laidOut (by kernel_rfl) (of_decide_eq_true (by kernel_rfl)) k0 bel lt0) (trodAll_cons_mk (Below.trod laidOut (by kernel_rfl) (of_decide_eq_true (by kernel_rfl)) k1 bel lt1) (trodAll_cons_mk (Below.trod laidOut (by kernel_rfl) (of_decide_eq_true (by kernel_rfl)) k2 bel lt2) trodAll_mk0))), rfl, bel.frame _, fun h => by cases h⟩
theorem over : Rows.wholeSumsRow.holds Tryz.pinned (OpenSpec.ofChange Rows.wholeSumsSpec) :=
  OpenClaim.holds_of_wide 4 Tryz.f4 rfl rfl rfl rfl rfl rfl rfl ⟨rfl, rfl, rfl, rfl, rfl⟩ rfl rfl rfl rfl rfl (by kernel_rfl) Tryz.func4 (by kernel_rfl)
    (of_decide_eq_true (by kernel_rfl)) (by unfold Func.isWrapper; first | (rw [if_pos (by decide +kernel)]; kernel_rfl) | (rw [if_neg (by decide +kernel)]; exact ⟨rfl, rfl⟩))
    (fun os started H enc _ => lifted os started H enc)
theorem card_holds : Rows.WholeSumsCardSaid :=
  Claim7.holds_tied_plain_at .later [] [.data, .data, .data, .data, .sentinel, .sentinel, .pinned] true (true, "cf26e91b3542dc6788e45833fd4f1993d2593309a7cc6f3039c72a42ccb7e73f") true over (fun _ h => by cases h) (by kernel_rfl) (fun _ h => by cases h) wholeSums_row_tie rfl ⟨rfl, rfl⟩ (by kernel_rfl) rfl
    (fun f fn hf hfn => by
      obtain rfl : f = 4 := Option.some.inj ((show Tryz.prog.funcNamed "schisma/schismalaw02.WholeSums" = some 4 by kernel_rfl).symm.trans hf) |>.symm
      obtain rfl : fn = Tryz.f4 := (Option.some.inj (Tryz.func4.symm.trans hfn)).symm
      exact ⟨by kernel_rfl, fun j t ht => by
        rw [Tryz.params4] at ht
        have hm : t ∈ [24, 24, 34] := by simpa using Array.mem_of_getElem? ht
        have hall : ([24, 24, 34].all fun u => !Tryz.prog.wantsStandIn u) = true := by kernel_rfl
        exact (show Tryz.prog.wantsStandIn t = false by simpa using List.all_eq_true.1 hall t hm)⟩)
    (by kernel_rfl)
#print axioms card_holds
end Go.Proofs.YtgicckcahhlbjaaGreatDoor.wholeSums
namespace Go.Proofs.YtgicckcahhlbjaaGreatDoor
theorem wholeSums_card_holds : Rows.WholeSumsCardSaid := wholeSums.card_holds
end Go.Proofs.YtgicckcahhlbjaaGreatDoor
