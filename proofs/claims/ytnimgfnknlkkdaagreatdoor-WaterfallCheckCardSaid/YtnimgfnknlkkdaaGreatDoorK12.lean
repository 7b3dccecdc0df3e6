/-
  The law WaterfallCheck of layer 17 returns true for every estate: the program's waterfall.Check and the document's CheckEstate give the same code; conditions: those of the given card.
-/
import Derived.Test.YtnimgfnknlkkdaaGreatDoorK11
import Derived.Test.YtnimgfnknlkkdaaGreatDoorCards
import Derived.Test.YtnimgfnknlkkdaaGreatDoorTie
import Derived.SevenTiedAt
set_option linter.unusedVariables false
set_option linter.unusedSimpArgs false
open Go
namespace Go.Proofs.YtnimgfnknlkkdaaGreatDoor.H
open Go Go.RowKit Go.ChangeShapes Go.WideShapes Go.ChangeAt
/-! The row and the card of WaterfallCheck. -/
noncomputable abbrev arg0 : Array Value := #[.agg #[.bool false, .string ⟨#[]⟩, .string ⟨#[]⟩, .slice none 0 0, .slice none 0 0]]
set_option maxRecDepth 100000 in
theorem check_witness (os : Os) {H : Type} (enc : TypeId × Value → H) :
    (OpenSpec.ofChange Rows.waterfallCheckSpec).preRow enc Tryz.prog Tryz.f3 Rows.waterfallCheckRow.domain false Rows.waterfallCheckRow.laid ((laidWorld os).forCall (fun _ _ => 0) ⟨#[], arg0, []⟩).memory arg0 := by
  have hw : (DataW.whole enc Tryz.prog ((laidWorld os).forCall (fun _ _ => 0) ⟨#[], arg0, []⟩).memory Tryz.f3.params.toList (OpenSpec.ofChange Rows.waterfallCheckSpec).vars false arg0.toList 8).map (fun x => (x.1, x.2.1)) =
      some ([.agg [.agg [.lit (.bool false), .lit (.string []), .lit (.string [])], .nil, .nil]], []) := by kernel_rfl
  obtain ⟨⟨x1, x2, x3⟩, hx, hx1⟩ := Option.map_eq_some_iff.1 hw
  simp only [Prod.mk.injEq] at hx1
  obtain ⟨rfl, rfl⟩ := hx1
  exact OpenSpec.preRow_of_cond 8 hx (by kernel_rfl) (fun k hk => by cases hk) (by kernel_rfl) (laid_met os _)
set_option maxRecDepth 100000 in
set_option maxHeartbeats 2000000 in
theorem check_lifted (os : Os) (started : os.Started) (H : Type) (enc : TypeId × Value → H) (F : Stop.Interp) :
    ReturnsInHanded {} Tryz.checked os 3 .any ((OpenSpec.ofChange Rows.waterfallCheckSpec).preRow enc Tryz.prog Tryz.f3 Rows.waterfallCheckRow.domain false Rows.waterfallCheckRow.laid) (((OpenSpec.ofChange Rows.waterfallCheckSpec).at F).post enc Tryz.prog Tryz.f3 false true false false) := by
  refine returnsInHanded_of_row (C := Tryz.checked) (s := OpenSpec.ofChange Rows.waterfallCheckSpec) own started (by kernel_rfl) Tryz.func3
    (witness_row_atRef (enc := enc) (C := Tryz.checked) false (laidWorld os) arg0 rfl (by kernel_rfl) (by kernel_rfl) (by kernel_rfl) (check_witness os enc)) ?_
  intro W base args ds gs before hval0 hW hcnd0 _ _ hL _ _
  have hval : ∀ (j : Nat) t v, Tryz.f3.params[j]? = some t → args[j]? = some v → Value.okWide Tryz.prog W .any base t v := hval0
  have hW' := hW
  obtain ⟨p, q, hA0, hV0, rfl, _, _⟩ := hW
  have hA : DataW.TrodAll enc Tryz.prog W 0 (fun _ => true) true Tryz.f3.params.toList args.toList ds p := hA0
  rw [Tryz.params3] at hA hval
  obtain ⟨v0, d0, rfl, rfl, h0⟩ := trodAll_one hA
  obtain ⟨rfl, rfl⟩ := trodVars_none hV0
  have k0 := h0
  have lt0 : ∀ x ∈ p, x.block < W.heap.size := by obtain ⟨m, hm⟩ := k0; exact DataW.trod_lt m _ _ _ hm
  obtain ⟨cash, cs, gs, A, c, B, d, rfl, hR⟩ := open_Estate (hval 0 27 v0 rfl rfl) h0
  clear hA0 hV0 hval0 hcnd0
  refine (lw_WaterfallCheck cash cs gs A c B d W hR).mono ?_
  rintro e W' ⟨rfl, bel⟩
  have e1 : ((OpenSpec.ofChange Rows.waterfallCheckSpec).at F).fn H ([d0] ++ []) = { results := [.lit (.bool true)], args := [d0] } := rfl
  exact ⟨_, rfl, _, _, _, [], _, [], hW', trodAll_mk1 (shut_bool Tryz.underlying4 _), trodAll_mk1 (Below.trod laidOut (by kernel_rfl) (of_decide_eq_true (by kernel_rfl)) k0 bel lt0), rfl, bel.frame _, fun h => by cases h⟩
theorem check_named : Tryz.pinned.checked.prog.funcNamed Rows.waterfallCheckRow.func = some 3 := by kernel_rfl
theorem check_closed : joinedFacts Tryz.pinned.checked.prog 3 Tryz.f3 (OpenSpec.ofChange Rows.waterfallCheckSpec).bare Rows.waterfallCheckRow = true := by kernel_rfl
theorem check_inst : Tryz.f3.isInstance Tryz.pinned.checked.prog Rows.waterfallCheckRow.origin Rows.waterfallCheckRow.targs := of_decide_eq_true (by kernel_rfl)
theorem check_wrap : Tryz.f3.isWrapper Tryz.pinned.checked.prog Rows.waterfallCheckRow.wrapper Rows.waterfallCheckRow.mainSum := by
  unfold Func.isWrapper
  rw [if_neg (of_decide_eq_false (by kernel_rfl))]
  exact ⟨rfl, rfl⟩
theorem check_holds : Rows.WaterfallCheckSaid :=
  OpenClaim.holds_of_cond 3 Tryz.f3 rfl rfl rfl rfl rfl rfl rfl ⟨rfl, rfl, rfl, rfl, rfl⟩ rfl rfl rfl rfl rfl check_named Tryz.func3 check_closed check_inst check_wrap
    (fun os started H enc _ F0 => by rw [OpenClaim.pre_eq_preRow]; exact check_lifted os started H enc F0)
theorem check_card : Rows.WaterfallCheckCardSaid :=
  Claim7.holds_tied_plain_at .later [] [.data, .pinned] true (true, "d2362538f607dd3377fbd714a877a16ca05b7c2931fa5081f22a16991587249c") false
    check_holds (fun _ h => by cases h) (by kernel_rfl) (fun _ h => by cases h) waterfallCheck_row_tie rfl ⟨rfl, rfl⟩ (by kernel_rfl) rfl
    (fun f fn hf hfn => by
      obtain rfl : f = 3 := Option.some.inj ((show Tryz.prog.funcNamed "insolvency/insolvencylaw17.WaterfallCheck" = some 3 by kernel_rfl).symm.trans hf) |>.symm
      obtain rfl : fn = Tryz.f3 := (Option.some.inj (Tryz.func3.symm.trans hfn)).symm
      exact ⟨by kernel_rfl, fun j t ht => by
        rw [Tryz.params3] at ht
        have h3 : t = 27 := by
          rcases j with _ | j
          · simpa using ht.symm
          · simp at ht
        subst h3
        exact (show Tryz.prog.wantsStandIn 27 = false by kernel_rfl)⟩)
    (by kernel_rfl)
end Go.Proofs.YtnimgfnknlkkdaaGreatDoor.H
namespace Go.Proofs.YtnimgfnknlkkdaaGreatDoor
theorem waterfallCheck_holds : Rows.WaterfallCheckCardSaid := H.check_card
#print axioms waterfallCheck_holds
end Go.Proofs.YtnimgfnknlkkdaaGreatDoor
