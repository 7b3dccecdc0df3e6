/-
  The law WaterfallMany of layer 17 returns true for all numbers of claims, agreements, tiers and parts; conditions: those of the given card.
-/
import Derived.Test.YtnimgfnknlkkdaaGreatDoorK9
import Derived.Test.YtnimgfnknlkkdaaGreatDoorK10
import Derived.Test.YtnimgfnknlkkdaaGreatDoorCards
import Derived.Test.YtnimgfnknlkkdaaGreatDoorTie
import Derived.SevenTiedAt
set_option linter.unusedVariables false
set_option linter.unusedSimpArgs false
open Go
namespace Go.Proofs.YtnimgfnknlkkdaaGreatDoor.H
open Go Go.RowKit Go.ChangeShapes Go.WideShapes Go.ChangeAt
/-! The row and the card of WaterfallMany. -/
abbrev arg4 : Array Value := #[.int .u8 0, .int .u8 0, .int .u8 0, .int .u8 0]
theorem u8_nat {a : Int} (h : (Lit.int .u8 a).wf = true) : ∃ n : Nat, a = n ∧ n < 256 := by
  have h2 : 0 ≤ a ∧ a < 256 := by
    have e1 : IntKind.u8.min = 0 := by decide
    have e2 : IntKind.u8.max = 255 := by decide
    simp [Lit.wf] at h
    omega
  exact ⟨a.toNat, by omega, by omega⟩
set_option maxRecDepth 100000 in
theorem many_witness (os : Os) {H : Type} (enc : TypeId × Value → H) :
    (OpenSpec.ofChange Rows.waterfallManySpec).preRow enc Tryz.prog Tryz.f4 Rows.waterfallManyRow.domain false Rows.waterfallManyRow.laid ((laidWorld os).forCall (fun _ _ => 0) ⟨#[], arg4, []⟩).memory arg4 := by
  have hw : (DataW.whole enc Tryz.prog ((laidWorld os).forCall (fun _ _ => 0) ⟨#[], arg4, []⟩).memory Tryz.f4.params.toList (OpenSpec.ofChange Rows.waterfallManySpec).vars false arg4.toList 8).map (fun x => (x.1, x.2.1)) =
      some ([.lit (.int .u8 0), .lit (.int .u8 0), .lit (.int .u8 0), .lit (.int .u8 0)], []) := by kernel_rfl
  obtain ⟨⟨x1, x2, x3⟩, hx, hx1⟩ := Option.map_eq_some_iff.1 hw
  simp only [Prod.mk.injEq] at hx1
  obtain ⟨rfl, rfl⟩ := hx1
  exact OpenSpec.preRow_of_cond 8 hx (by kernel_rfl) (fun k hk => by cases hk) (by kernel_rfl) (laid_met os _)
set_option maxRecDepth 100000 in
set_option maxHeartbeats 2000000 in
theorem many_lifted (os : Os) (started : os.Started) (H : Type) (enc : TypeId × Value → H) (F : Stop.Interp) :
    ReturnsInHanded {} Tryz.checked os 4 .any ((OpenSpec.ofChange Rows.waterfallManySpec).preRow enc Tryz.prog Tryz.f4 Rows.waterfallManyRow.domain false Rows.waterfallManyRow.laid) (((OpenSpec.ofChange Rows.waterfallManySpec).at F).post enc Tryz.prog Tryz.f4 false true false false) := by
  refine returnsInHanded_of_row (C := Tryz.checked) (s := OpenSpec.ofChange Rows.waterfallManySpec) own started (by kernel_rfl) Tryz.func4
    (witness_row_atRef (enc := enc) (C := Tryz.checked) false (laidWorld os) arg4 rfl (by kernel_rfl) (by kernel_rfl) (by kernel_rfl) (many_witness os enc)) ?_
  intro W base args ds gs before hval0 hW hcnd0 _ _ hL _ _
  have hval : ∀ (j : Nat) t v, Tryz.f4.params[j]? = some t → args[j]? = some v → Value.okWide Tryz.prog W .any base t v := hval0
  have hW' := hW
  obtain ⟨p, q, hA0, hV0, rfl, _, _⟩ := hW
  have hA : DataW.TrodAll enc Tryz.prog W 0 (fun _ => true) true Tryz.f4.params.toList args.toList ds p := hA0
  rw [Tryz.params4] at hA hval
  obtain ⟨v0, vs0, d0, ds0, p0, q0, hargs, rfl, rfl, h0, r0⟩ := trodAll_cons hA
  obtain ⟨v1, vs1, d1, ds1, p1, q1, rfl, rfl, rfl, h1, r1⟩ := trodAll_cons r0
  obtain ⟨v2, vs2, d2, ds2, p2, q2, rfl, rfl, rfl, h2, r2⟩ := trodAll_cons r1
  obtain ⟨v3, vs3, d3, ds3, p3, q3, rfl, rfl, rfl, h3, r3⟩ := trodAll_cons r2
  obtain ⟨rfl, rfl, rfl⟩ := trodAll_nil r3
  obtain rfl : args = #[v0, v1, v2, v3] := by cases args; simp_all
  obtain ⟨rfl, rfl⟩ := trodVars_none hV0
  obtain ⟨a0, rfl, rfl, rfl, w0⟩ := open_int Tryz.underlying5 (hval 0 5 v0 rfl rfl) h0
  obtain ⟨a1, rfl, rfl, rfl, w1⟩ := open_int Tryz.underlying5 (hval 1 5 v1 rfl rfl) h1
  obtain ⟨a2, rfl, rfl, rfl, w2⟩ := open_int Tryz.underlying5 (hval 2 5 v2 rfl rfl) h2
  obtain ⟨a3, rfl, rfl, rfl, w3⟩ := open_int Tryz.underlying5 (hval 3 5 v3 rfl rfl) h3
  obtain ⟨n0, rfl, l0⟩ := u8_nat w0
  obtain ⟨n1, rfl, l1⟩ := u8_nat w1
  obtain ⟨n2, rfl, l2⟩ := u8_nat w2
  obtain ⟨n3, rfl, l3⟩ := u8_nat w3
  clear hA0 hV0 hval0 hcnd0
  refine (lw_Many n0 n1 n2 n3 l0 l1 l2 l3 W).mono ?_
  rintro e W' ⟨rfl, bel⟩
  exact ⟨_, rfl, _, _, _, [], _, [], hW', trodAll_mk1 (shut_bool Tryz.underlying4 _), (trodAll_cons_mk (shut_int Tryz.underlying5 w0) (trodAll_cons_mk (shut_int Tryz.underlying5 w1) (trodAll_cons_mk (shut_int Tryz.underlying5 w2) (trodAll_cons_mk (shut_int Tryz.underlying5 w3) trodAll_mk0)))), rfl, bel.frame _, fun h => by cases h⟩
theorem many_named : Tryz.pinned.checked.prog.funcNamed Rows.waterfallManyRow.func = some 4 := by kernel_rfl
theorem many_closed : joinedFacts Tryz.pinned.checked.prog 4 Tryz.f4 (OpenSpec.ofChange Rows.waterfallManySpec).bare Rows.waterfallManyRow = true := by kernel_rfl
theorem many_inst : Tryz.f4.isInstance Tryz.pinned.checked.prog Rows.waterfallManyRow.origin Rows.waterfallManyRow.targs := of_decide_eq_true (by kernel_rfl)
theorem many_wrap : Tryz.f4.isWrapper Tryz.pinned.checked.prog Rows.waterfallManyRow.wrapper Rows.waterfallManyRow.mainSum := by
  unfold Func.isWrapper
  rw [if_neg (of_decide_eq_false (by kernel_rfl))]
  exact ⟨rfl, rfl⟩
theorem many_holds : Rows.WaterfallManySaid :=
  OpenClaim.holds_of_cond 4 Tryz.f4 rfl rfl rfl rfl rfl rfl rfl ⟨rfl, rfl, rfl, rfl, rfl⟩ rfl rfl rfl rfl rfl many_named Tryz.func4 many_closed many_inst many_wrap
    (fun os started H enc _ F0 => by rw [OpenClaim.pre_eq_preRow]; exact many_lifted os started H enc F0)
theorem many_card : Rows.WaterfallManyCardSaid :=
  Claim7.holds_tied_plain_at .later [] [.data, .pinned] true (true, "d2362538f607dd3377fbd714a877a16ca05b7c2931fa5081f22a16991587249c") false
    many_holds (fun _ h => by cases h) (by kernel_rfl) (fun _ h => by cases h) waterfallMany_row_tie rfl ⟨rfl, rfl⟩ (by kernel_rfl) rfl
    (fun f fn hf hfn => by
      obtain rfl : f = 4 := Option.some.inj ((show Tryz.prog.funcNamed "insolvency/insolvencylaw17.WaterfallMany" = some 4 by kernel_rfl).symm.trans hf) |>.symm
      obtain rfl : fn = Tryz.f4 := (Option.some.inj (Tryz.func4.symm.trans hfn)).symm
      exact ⟨by kernel_rfl, fun j t ht => by
        rw [Tryz.params4] at ht
        have h3 : t = 5 := by
          rcases j with _ | _ | _ | _ | j
          · simpa using ht.symm
          · simpa using ht.symm
          · simpa using ht.symm
          · simpa using ht.symm
          · simp at ht
        subst h3
        exact (show Tryz.prog.wantsStandIn 5 = false by kernel_rfl)⟩)
    (by kernel_rfl)
end Go.Proofs.YtnimgfnknlkkdaaGreatDoor.H
namespace Go.Proofs.YtnimgfnknlkkdaaGreatDoor
theorem waterfallMany_holds : Rows.WaterfallManyCardSaid := H.many_card
#print axioms waterfallMany_holds
end Go.Proofs.YtnimgfnknlkkdaaGreatDoor
