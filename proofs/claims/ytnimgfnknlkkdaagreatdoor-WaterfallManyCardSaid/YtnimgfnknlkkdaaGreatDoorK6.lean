import Derived.Test.YtnimgfnknlkkdaaGreatDoorK5
import Derived.Lib.BufferMore
import Derived.Test.YtnimgfnknlkkdaaGreatDoorK4
set_option linter.unusedVariables false
set_option linter.unusedSimpArgs false
open Go
namespace Go.Proofs.YtnimgfnknlkkdaaGreatDoor.H
open Go Go.RowKit Go.Proofs.YtnimgfnknlkkdaaGreatDoorW.PrintWords Go.Proofs.YtnimgfnknlkkdaaGreatDoorW.PrintLast Go.Proofs.YtnimgfnknlkkdaaGreatDoorW.PrintMore Go.Proofs.YtnimgfnknlkkdaaGreatDoor.Num
attribute [local go_sem] hideOp
/-! lay -/
def amAt (cs : List ClaimV) (i : Nat) : List Rat := (amounts cs).take i ++ List.replicate (cs.length - i) 0
theorem amAt_len (cs : List ClaimV) {i : Nat} (h : i ≤ cs.length) : (amAt cs i).length = cs.length := by
  simp [amAt, amounts]
  omega
theorem amAt_succ (cs : List ClaimV) {i : Nat} (h : i < cs.length) : amAt cs (i + 1) = (amAt cs i).set i (rdC cs i).amount.q := by
  have hl : (amounts cs).length = cs.length := by simp [amounts]
  apply List.ext_getElem?
  intro k
  rw [List.getElem?_set]
  unfold amAt
  rw [List.getElem?_append, List.getElem?_append, List.getElem?_take, List.getElem?_take, List.getElem?_replicate, List.getElem?_replicate]
  simp only [List.length_take, List.length_append, List.length_replicate, hl]
  have e : (amounts cs)[i]? = some (rdC cs i).amount.q := by
    rw [amounts, List.getElem?_map, rdC, List.getD_eq_getElem?_getD, List.getElem?_eq_getElem h]
    rfl
  repeat' split
  all_goals first | omega | rfl | skip
  all_goals (try (subst_vars; first | exact e | (exfalso; omega)))

theorem kWT_E : ∀ q, q ∈ 124 :: kWTier.E → q ≠ 127 := by
  intro q hq
  have h : q ∈ ([124, 169] : List Nat) := hq
  revert h
  simp
  omega
theorem results_p2 {fn : Func} {p : Tmp} (h : fn.results = #[.cell p 127]) (tmps : Array Value) (w : World) (g : Nat) {a b : Value} (hp : tmps.getD p undef = .pointer (some ⟨g, 0, none⟩))
    (h0 : w.cell? ⟨g, 0, none⟩ = some a) (h1 : w.cell? ⟨g, 1, none⟩ = some b) : (results fn tmps).run Tryz.prog w = .ok (.agg #[a, b]) w := by
  have hp' : tmps[p]?.getD undef = .pointer (some ⟨g, 0, none⟩) := by simpa using hp
  simp only [results, h]
  simp [Sem.run_bind, Result.andThen, asAddr, hp']
  go_simp
theorem amAt_end (cs : List ClaimV) : amAt cs cs.length = amounts cs := by
  have hl : (amounts cs).length = cs.length := by simp [amounts]
  rw [amAt, Nat.sub_self, ← hl, List.take_length]
  simp
set_option maxRecDepth 100000 in
set_option maxHeartbeats 1000000 in
theorem w_lay (cash : RatF) (cs : List ClaimV) (gs : List (List (List PartV))) (A : Option Addr) (c : Nat) (B : Option Addr) (d : Nat) (ts : List (List PartV)) (T : Option Addr) (tc : Nat) (w : World) (hR : ReadsE w cash cs gs A c B d) (hT : kTier.C w T ts.length ts) (htc : ts.length ≤ tc) (hk : LayOk cs ts) :
    Calls Tryz.prog 82 #[EV cash A cs.length c B gs.length d, .agg #[.slice T ts.length tc]] w fun e w' => ∃ v u, e = .returned (.agg #[v, u]) ∧ kPool.M w' w.heap.size (fun _ => True) (layP cs ts) [v, u] ∧ Below w.heap.size w w' := by
  have MB := Aside0.mk (fun (w' : World) h => w_members ts T tc w' h htc hk.nf)
  have HR := Aside0.mk hR
  have HT := Aside0.mk hT
  have HK := Aside0.mk hk
  have hm1 := hR.rc.2.1
  have hm2 := hT.2.1
  have hnc := hk.nc
  have HLP := Lib.hid (show layP cs ts = ⟨memL ts, (ladAt (amounts cs) ts ts.length).2 ++ [lastAt (ladAt (amounts cs) ts ts.length).1 (memL ts) (memL ts).length]⟩ from rfl)
  clear hR hT hk
  unfold EV
  generalize layP cs ts = out at *
  generalize cash.neg = neg0 at *
  generalize cash.num = num0 at *
  generalize cash.den = den0 at *
  obtain ⟨t1, t2, t3, tB⟩ := three w (.cells #[.bool neg0, .string num0, .string den0, .slice A cs.length c, .slice B gs.length d] 27) (.cells #[.slice T ts.length tc] 35) (.cells #[.slice none 0 0, .slice none 0 0] 127) 0
  rw [show ∀ w : World, w.drewN 0 = w from fun _ => rfl] at t1 t2 t3 tB
  have N1 := Lib.hid t1
  have N2 := Lib.hid t2
  have N3 := Lib.hid t3
  have NB := Aside0.mk tB
  have b0 := blk_cell t2 0
  clear t1 t2 t3 tB
  go_enter Tryz.func82, Tryz.ntmps82
  go_wp2_with (fail)
  obtain ⟨wl, hwl⟩ : ∃ wl, wl = (((w.alloc (.cells #[.bool neg0, .string num0, .string den0, .slice A cs.length c, .slice B gs.length d] 27)).alloc (.cells #[.slice T ts.length tc] 35)).alloc (.cells #[.slice none 0 0, .slice none 0 0] 127)) := ⟨_, rfl⟩
  rw [← hwl] at N1 N2 N3 NB
  rw [← hwl]
  clear hwl b0
  refine (MB.out _ (Kd.C_below HT.out NB.out)).mono ?_
  rintro e w1 ⟨v1, rfl, hm, hb1⟩
  have M1 := Lib.hid (heap_b hb1 N1.out)
  have M2 := Lib.hid (heap_b hb1 N2.out)
  have M3 := Lib.hid (heap_b hb1 N3.out)
  have MF := Aside0.mk (below_s hb1 NB.out)
  obtain ⟨A7, c7, rfl⟩ := Kd.R_slice hm
  have HM := Aside0.mk (Kd.R_lower hm NB.out.size)
  clear hm hb1 N1 N2 N3 NB MB
  have h4 := below_alloc (Below.refl w1.heap.size w1) (.cells #[.slice A7 (memL ts).length c7, .slice none 0 0] 127)
  have L4 := Lib.hid (heap_new w1 (.cells #[.slice A7 (memL ts).length c7, .slice none 0 0] 127))
  have L1 := Lib.hid (heap_b h4 M1.out)
  have L2 := Lib.hid (heap_b h4 M2.out)
  have L3 := Lib.hid (heap_b h4 M3.out)
  have LF := Aside0.mk (below_s h4 MF.out)
  have LM := Aside0.mk (Kd.R_below HM.out h4)
  have a0 := blk_cell L1.out 3
  have hgw := Lib.hid (show w.heap.size + 2 < w1.heap.size from blk_lt M3.out)
  clear h4 M1 M2 M3 MF HM
  have MK0 := Aside0.mk (fun (W : World) (base : Nat) => kQ_zero W base (fun _ => False))
  go_wp2_with (at_make; refine Kd.R_make kQ w.heap.size 23 rfl (N := 24) rfl 45 _ _ rfl cs.length (by rfl) (by rfl) Tryz.underlying45 _ 40 infoQ rfl (by decide) (by decide) 0 (ok := fun _ => True) (okp := fun _ => False) (MK0.out _ _) (fun _ hk => hk.elim) trivial (by omega) (by omega) LF.out LF.out.size ?_; intro v3 w3 ho3 hb3 hg3 hat3; have P1 := Lib.hid ((hg3.block _ (blk_lt L1.out) (by simp)).trans L1.out); have e1 := blk_cell P1.out 3)
  obtain ⟨A6, c6, rfl⟩ : ∃ A c, v3 = .slice A cs.length c := (by obtain ⟨A, c, h⟩ := Kd.R_slice ho3; exact ⟨A, c, by rw [h, List.length_replicate, Int.toNat_natCast]⟩)
  rw [Int.toNat_natCast] at ho3
  have P2 := Lib.hid ((hg3.block _ (blk_lt L2.out) (by simp)).trans L2.out)
  have P3 := Lib.hid ((hg3.block _ (blk_lt L3.out) (by simp)).trans L3.out)
  have P4 := Lib.hid ((hg3.block _ (blk_lt L4.out) (by simp)).trans L4.out)
  have PM := Aside0.mk (Kd.R_grown LM.out hg3 (fun k _ => by simp))
  obtain ⟨gp, hgp⟩ : ∃ gp, gp = w1.heap.size := ⟨_, rfl⟩
  rw [← hgp] at P4
  have hgpw := Lib.hid (show w.heap.size + 2 < gp by rw [hgp]; exact hgw.out)
  rw [← hgp]
  clear hgp
  have F0 := Aside0.mk (Fr.refl (gr := gp) (v := .slice A6 cs.length c6) hb3)
  have R0 := Aside0.mk (show kQ.R 23 w3 w.heap.size (fun _ => True) (.slice A6 cs.length c6) (amAt cs 0) by rw [amAt]; simpa using ho3)
  have ne2 := Aside0.mk (Kd.R_ne R0.out P2.out (by decide))
  have ne3 := Aside0.mk (Kd.R_ne R0.out P3.out (by decide))
  have ne4 := Aside0.mk (Kd.R_ne R0.out P4.out (by decide))
  have RLT := Aside0.mk (Kd.R_lt R0.out)
  have ne5 := Aside0.mk (Kd.R_ne PM.out P3.out (by decide))
  have PMK := Aside0.mk (show ∀ k, (Value.slice A7 (memL ts).length c7).ownBlock = some k → k < w3.heap.size ∧ k ≠ gp ∧ some k ≠ (Value.slice A6 cs.length c6).ownBlock from fun k hk => by
    obtain ⟨cells, hc1⟩ := Kd.R_typed PM.out k hk
    refine ⟨Kd.R_lt PM.out k hk, fun e => ?_, fun e => ?_⟩
    · rw [e, P4.out] at hc1
      injection hc1 with hc1
      injection hc1 with _ h _
      revert h
      decide
    · obtain ⟨cells2, hc2⟩ := Kd.R_typed R0.out k e.symm
      rw [hc1] at hc2
      injection hc2 with hc2
      injection hc2 with _ h _
      revert h
      decide)
  have GM := Aside0.mk (fun (w' : World) (h : Fr w w3 gp (.slice A6 cs.length c6) w') => Kd.R_mono (Kd.R_step (Kd.R_tight rfl PM.out) (fun k hk hlt => h.2.2 k (PMK.out k hk.symm).1 (PMK.out k hk.symm).2.1 (PMK.out k hk.symm).2.2)) (ok' := fun _ => True) (fun _ _ => trivial))
  clear ho3 hb3 hg3 hat3 L1 L2 L3 L4 LF LM a0 e1 MK0
  go_loopw [28] (fun v28 w' => ∃ i : Nat, i ≤ cs.length ∧ v28 = .int .i64 i ∧ Aside0 (kQ.R 23 w' w.heap.size (fun _ => True) (.slice A6 cs.length c6) (amAt cs i)) ∧ Aside0 (w'.heap[gp]? = some (.cells #[.slice A7 (memL ts).length c7, .slice none 0 0] 127)) ∧ Aside0 (Fr w w3 gp (.slice A6 cs.length c6) w')) (fun v28 _ => cs.length - (intOf v28).toNat)
  case atStart => exact ⟨0, Nat.zero_le _, rfl, R0, ⟨P4.out⟩, F0⟩
  case round =>
    clear R0 F0
    obtain ⟨i, hi, rfl, hO, hG, hF⟩ := hrel
    rcases Nat.lt_or_ge i cs.length with hlt | hge
    · obtain ⟨ad, rfl, x0, x1, x2, x3, x4⟩ := at_Claim (HR.out.below hF.out.1).rc hlt
      have hp0 : (0 : Int) ≤ (i : Int) := by omega
      have hp1 : (i : Int) < (cs.length : Int) := by omega
      have hal := amAt_len cs hi
      have has := Lib.hid (amAt_succ cs hlt)
      have AZ := Lib.hid (fun w' => addz (rdC cs i).amount w' (HK.out.am _ (rdC_mem hlt)))
      simp only [RQ] at AZ
      obtain ⟨zS, hzS⟩ : ∃ s, s = canS (rdC cs i).amount.q := ⟨_, rfl⟩
      obtain ⟨zN, hzN⟩ : ∃ s, s = canN (rdC cs i).amount.q := ⟨_, rfl⟩
      obtain ⟨zD, hzD⟩ : ∃ s, s = canD (rdC cs i).amount.q := ⟨_, rfl⟩
      rw [← hzS, ← hzN, ← hzD] at AZ
      have HZ := Lib.hid (And.intro hzS (And.intro hzN hzD))
      clear hzS hzN hzD
      obtain ⟨g, cap, hv, hg1, hg2, -⟩ := Kd.R_form hO.out (by rw [hal]; omega)
      injection hv with hv1 hv2 hv3
      subst hv1
      generalize (rdC cs i).amount.neg = pS at *
      generalize (rdC cs i).amount.num = pN at *
      generalize (rdC cs i).amount.den = pD at *
      generalize (rdC cs i).holder = ph at *
      generalize (rdC cs i).rank = pr at *
      have h3 := below_alloc (Below.refl wr.heap.size wr) (.cells #[.int .i64 ph, .int .i64 pr, .bool pS, .string pN, .string pD] 50)
      have P5 := heap_new wr (.cells #[.int .i64 ph, .int .i64 pr, .bool pS, .string pN, .string pD] 50)
      obtain ⟨s0, s1, s2, s3, s4⟩ := cells5 P5
      have QF := Aside0.mk (hF.out.below h3)
      have QO := Aside0.mk (Kd.R_below hO.out h3)
      have QG := Aside0.mk (heap_b h3 hG.out)
      have hggp : gp ≠ g := fun e => ne4.out (by rw [e]; simp [Value.ownBlock])
      clear hO hF h3 P5 hv2 hv3 hG
      go_wp2_with (go_at_call 24; refine (AZ.out _).mono ?_; rintro e w4 ⟨rfl, hb4⟩; have QF4 := Aside0.mk (QF.out.below hb4); have QO4 := Aside0.mk (Kd.R_below QO.out hb4); have QG4 := Aside0.mk (heap_b hb4 QG.out); obtain ⟨⟨k0, k1, k2⟩, k3, k4, k5⟩ := R_getq QO4.out (show i < (amAt cs i).length by rw [hal]; exact hlt); clear hb4)
      go_roundw
      case measure => simp [intOf]; omega
      case rel =>
        refine ⟨i + 1, hlt, by go_num, ?_, ⟨by rw [heap_far _ hggp, heap_far _ hggp, heap_far _ hggp]; exact QG4.out⟩, ⟨((QF4.out.set (.inr (by simp [Value.ownBlock])) hg1 _ _).set (.inr (by simp [Value.ownBlock])) hg1 _ _).set (.inr (by simp [Value.ownBlock])) hg1 _ _⟩⟩
        rw [has.out]
        have h9 := R_putq QO4.out (show i < (amAt cs i).length by rw [hal]; exact hlt) (rdC cs i).amount.q
        rw [← HZ.out.1, ← HZ.out.2.1, ← HZ.out.2.2] at h9
        exact ⟨h9⟩
    · obtain rfl : i = cs.length := by omega
      rw [amAt_end] at hO
      have c2 := Lib.hid (hF.out.2.blk P2.out (by have := hgpw.out; omega) ne2.out)
      have a0 := blk_cell c2.out 0
      have HLR := Lib.hid (ladAt_len (amounts cs) ts)
      have hal : (amounts cs).length = cs.length := by simp [amounts]
      have R1 := Aside0.mk (show kQ.R 23 wr w.heap.size (fun _ => True) (.slice A6 cs.length c6) (ladAt (amounts cs) ts 0).1 from hO.out)
      go_wp2
      clear a0 c2
      go_loopw [44] (fun v44 w' => ∃ (j : Nat) (u : Value), j ≤ ts.length ∧ v44 = .int .i64 j ∧ Aside0 (kQ.R 23 w' w.heap.size (fun _ => True) (.slice A6 cs.length c6) (ladAt (amounts cs) ts j).1) ∧ Aside0 (w'.heap[gp]? = some (.cells #[.slice A7 (memL ts).length c7, u] 127)) ∧ Aside0 (kWTier.R 124 w' w.heap.size (fun _ => True) u (ladAt (amounts cs) ts j).2 ∧ ∀ k, u.ownBlock = some k → w3.heap.size ≤ k) ∧ Aside0 (Fr w w3 gp (.slice A6 cs.length c6) w')) (fun v44 _ => ts.length - (intOf v44).toNat)
      case atStart => exact ⟨0, _, Nat.zero_le _, rfl, R1, hG, ⟨Kd.R_nil _ _ _ _ _, fun k hk => by simp [Value.ownBlock] at hk⟩, hF⟩
      case round =>
        clear R1 hO hF hG
        obtain ⟨j, u, hj, rfl, hO, hG, hU, hF⟩ := hrel
        rcases Nat.lt_or_ge j ts.length with hlt | hge
        · obtain ⟨ad, pv, rfl, x0, A8, c8, rfl, hc8, hC8⟩ := at_row HT.out hlt
          replace x0 := pw_cell_below hF.out.1 x0
          have hp0 : (0 : Int) ≤ (j : Int) := by omega
          have hp1 : (j : Int) < (ts.length : Int) := by omega
          have HC8 := Aside0.mk hC8
          have hpx := hC8.2.1
          clear hC8 hc8
          have h3 := below_alloc (Below.refl wr.heap.size wr) (.cells #[.slice none 0 0, .bool false, .string ⟨#[]⟩, .string ⟨#[]⟩] 124)
          have P5 := Lib.hid (heap_new wr (.cells #[.slice none 0 0, .bool false, .string ⟨#[]⟩, .string ⟨#[]⟩] 124))
          have QF := Aside0.mk (hF.out.below h3)
          have QO := Aside0.mk (Kd.R_below hO.out h3)
          have QG := Aside0.mk (heap_b h3 hG.out)
          have hty := Kd.R_typed hO.out
          have QU := Aside0.mk (show kWTier.R 124 (wr.alloc (.cells #[.slice none 0 0, .bool false, .string ⟨#[]⟩, .string ⟨#[]⟩] 124)) w.heap.size (fun k => k < wr.heap.size ∧ some k ≠ (Value.slice A6 cs.length c6).ownBlock) u (ladAt (amounts cs) ts j).2 from Kd.R_below (Kd.R_mono (Kd.R_bound hU.out.1) (fun k hk => ⟨hk.2.2.1, fun e => by
            obtain ⟨q, hq, cells, hce⟩ := hk.2.2.2
            obtain ⟨cells2, hce2⟩ := hty k e.symm
            rw [hce] at hce2
            have hq2 : q ∈ ([124, 169] : List Nat) := hq
            injection hce2 with hce2
            injection hce2 with _ hce3 _
            subst hce3
            revert hq2
            decide⟩)) h3)
          have QUO := Aside0.mk hU.out.2
          clear hty
          have hg0 := Lib.hid (show w3.heap.size ≤ wr.heap.size from hF.out.2.1)
          have hgg := Lib.hid (blk_lt hG.out)
          have hsz4 := Lib.hid (size_new wr (.cells #[.slice none 0 0, .bool false, .string ⟨#[]⟩, .string ⟨#[]⟩] 124))
          clear hO hF hG hU h3
          obtain ⟨g, hgw2⟩ : ∃ g, g = wr.heap.size := ⟨_, rfl⟩
          obtain ⟨wt, hwt⟩ : ∃ wt, wt = wr.alloc (.cells #[.slice none 0 0, .bool false, .string ⟨#[]⟩, .string ⟨#[]⟩] 124) := ⟨_, rfl⟩
          go_wp2
          rw [← hwt, ← hgw2] at P5 hsz4
          rw [← hwt] at QF QO QG QU
          rw [← hgw2] at QU hg0 hgg
          rw [← hwt, ← hgw2]
          clear hwt hgw2 x0
          have ST0 := Aside0.mk (show TierSt w w3 wt gp g (.slice A6 cs.length c6) (tierAt (ladAt (amounts cs) ts j).1 (rowAt ts j) 0).1 (tierAt (ladAt (amounts cs) ts j).1 (rowAt ts j) 0).2 (.slice none 0 0) wt from ⟨QO.out, by rw [P5.out]; show _ = some (Obj.cells #[_, .bool (canS 0), .string (canN 0), .string (canD 0)] _); rw [can_zero.1, can_zero.2.1, can_zero.2.2], Kd.R_nil _ _ _ _ _, fun k hk => by simp [Value.ownBlock] at hk, QF.out, fun _ _ _ => rfl, RLT.out, hg0.out, by have := hgg.out; have := hgpw.out; omega⟩)
          have HCP := Aside0.mk (HK.out.caps _ (rowAt_mem hlt))
          have HRG := Aside0.mk (HK.out.rng _ (rowAt_mem hlt))
          have HST := Aside0.mk (HK.out.st j hlt)
          have HCQ := Aside0.mk (HK.out.capq j hlt)
          have HNP := Lib.hid (HK.out.np _ (rowAt_mem hlt))
          have HLS := Lib.hid (ladAt_succ (amounts cs) ts hlt)
          have HL0 := Lib.hid (show (ladAt (amounts cs) ts j).1.length = cs.length by rw [HLR.out]; exact hal)
          have HLJ := Lib.hid (ladAt_tiers (amounts cs) ts hj)
          clear QF QO P5
          generalize ladAt (amounts cs) ts j = lj at *
          generalize rowAt ts j = ps at *
          go_loopw [50] (fun v50 w' => ∃ (i : Nat) (tv : Value), i ≤ ps.length ∧ v50 = .int .i64 i ∧ Aside0 (TierSt w w3 wt gp g (.slice A6 cs.length c6) (tierAt lj.1 ps i).1 (tierAt lj.1 ps i).2 tv w')) (fun v50 _ => ps.length - (intOf v50).toNat)
          case atStart => exact ⟨0, _, Nat.zero_le _, rfl, ST0⟩
          case round =>
            clear ST0
            obtain ⟨i, tv, hi, rfl, hS⟩ := hrel
            rcases Nat.lt_or_ge i ps.length with hlt2 | hge2
            · obtain ⟨ad2, rfl, x0, x1, x2, x3, x4⟩ := at_Part (Kd.C_below HC8.out hS.out.fr.1) hlt2
              have hp2 : (0 : Int) ≤ (i : Int) := by omega
              have hp3 : (i : Int) < (ps.length : Int) := by omega
              obtain ⟨ho1, ho2⟩ := HST.out i hi
              have hcp := HCP.out _ (rdP_mem hlt2)
              have hrg := HRG.out _ (rdP_mem hlt2)
              have hcq := HCQ.out i hlt2
              have hts := tierAt_succ lj.1 ps hlt2
              have hln := tierAt_len lj.1 ps i
              have hpn := tierAt_parts lj.1 ps hi
              rw [HL0.out] at hln
              generalize tierAt lj.1 ps i = st at *
              generalize rdP ps i = x at *
              have hb3 := below_alloc (Below.refl wr.heap.size wr) (.cells #[.int .i64 x.claim, .bool x.capped, .bool x.cap.neg, .string x.cap.num, .string x.cap.den] 38)
              have P5 := Lib.hid (heap_new wr (.cells #[.int .i64 x.claim, .bool x.capped, .bool x.cap.neg, .string x.cap.num, .string x.cap.den] 38))
              have QS := Aside0.mk (hS.out.below hb3)
              obtain ⟨s0, s1, s2, s3, s4⟩ := cells5 P5.out
              have hpl : st.2.parts.length ≤ 1099511627776 := by rw [hpn]; have := HNP.out; omega
              have hg8x := Lib.hid (blk_lt hS.out.cell)
              have hownx := Lib.hid (Kd.R_lt hS.out.parts)
              clear hS hb3
              by_cases hcl : x.claim = -1
              · have hst : tierAt lj.1 ps (i + 1) = (st.1, st.2.add (-1) x.cap.q) := by rw [hts, stepL, if_pos hcl]
                have HTS := Lib.hid hst
                have AZ := Lib.hid (fun w' => addz x.cap w' hcp)
                have TA := Aside0.mk (fun (w' : World) (h : TierSt w w3 wt gp g (.slice A6 cs.length c6) st.1 st.2 tv w') => h.add (-1) x.cap.q hcp.q ho2 hpl)
                simp only [RQ] at AZ TA
                clear hts hst hcq hrg hcp ho1 ho2 hln hpn hpl
                rw [hcl] at s0 x0 P5 QS
                have hcl2 := Lib.hid hcl
                clear hcl
                generalize x.cap.q = q at *
                generalize x.claim = pc at *
                generalize x.capped = pb at *
                generalize x.cap.neg = pS at *
                generalize x.cap.num = pN at *
                generalize x.cap.den = pD at *
                generalize canS q = qS at *
                generalize canN q = qN at *
                generalize canD q = qD at *
                go_wp2_with (first | (go_at_call 24; refine (AZ.out _).mono ?_; rintro e w4 ⟨rfl, hb4⟩; have QS4 := Aside0.mk (QS.out.below hb4); clear hb4) | (go_at_call 81; refine (TA.out _ QS4.out).mono ?_; rintro e w5 ⟨rfl, hsz5, ⟨tv5, hst5⟩, -⟩; have QS5 := Aside0.mk hst5; clear hst5))
                go_roundw
                case measure => simp [intOf]; omega
                case rel => exact ⟨i + 1, tv5, hlt2, by go_num, by rw [HTS.out]; exact QS5⟩
              · have hcl3 := hrg.resolve_left hcl
                obtain ⟨p, hp⟩ : ∃ p : Nat, x.claim = (p : Int) := ⟨x.claim.toNat, by omega⟩
                have hpl2 : p < st.1.length := by rw [hln]; omega
                have hst : tierAt lj.1 ps (i + 1) = (st.1.set p (rdQ st.1 p - capOf st.1 x), st.2.add p (capOf st.1 x)) := by rw [hts, stepL, if_neg hcl, hp, Int.toNat_natCast]
                have HTS := Lib.hid hst
                have hcap : capOf st.1 x = if x.capped then minQ (rdQ st.1 p) x.cap.q else rdQ st.1 p := by rw [capOf, hp, Int.toNat_natCast]
                have hel := ho1 _ (rdQ_mem' hpl2)
                have hcq2 := hcq hcl
                have MN := Lib.hid (fun w' => minf (rdQ st.1 p) x.cap w' hel hcp)
                have SU := Lib.hid (fun w' => sub_q (rdQ st.1 p) (capOf st.1 x) w' hel hcq2)
                have TA := Aside0.mk (fun (w' : World) (h : TierSt w w3 wt gp g (.slice A6 cs.length c6) (st.1.set p (rdQ st.1 p - capOf st.1 x)) st.2 tv w') => h.add p (capOf st.1 x) hcq2 ho2 hpl)
                simp only [RQ] at MN SU TA
                have hg8 := blk_lt QS.out.cell
                obtain ⟨gr, cap8, hv, hgr1, hgr2, -⟩ := Kd.R_form QS.out.rest (by omega)
                injection hv with hv1 hv2 hv3
                subst hv1
                clear hv2 hv3
                have hq1 : (p : Int) < (cs.length : Int) := by omega
                have hq0 : (0 : Int) ≤ (p : Int) := by omega
                have TP := Aside0.mk (fun (w' : World) (h : TierSt w w3 wt gp g (.slice (some ⟨gr, 0, none⟩) cs.length c6) st.1 st.2 tv w') => h.put hpl2 (rdQ st.1 p - capOf st.1 x))
                have GQ := Aside0.mk (fun (w' : World) (h : TierSt w w3 wt gp g (.slice (some ⟨gr, 0, none⟩) cs.length c6) st.1 st.2 tv w') => R_getq h.rest hpl2)
                rw [hp] at s0 x0 P5 QS
                have hpn1 : ((p : Int) == -1) = false := by simp
                have hpn2 := Lib.hid hp
                generalize capOf st.1 x = cap at *
                generalize rdQ st.1 p = el at *
                generalize hmq : minQ el x.cap.q = mq at *
                generalize el - cap = df at *
                have HCAP := Lib.hid hcap
                clear hts hst hcq hrg hcp ho1 ho2 hln hpn hpl hcl hcl3 hp hmq hcap hel hcq2
                generalize x.claim = pc at *
                generalize x.capped = pb at *
                generalize x.cap.neg = pS at *
                generalize x.cap.num = pN at *
                generalize x.cap.den = pD at *
                obtain ⟨zS, hzS⟩ : ∃ s, s = canS cap := ⟨_, rfl⟩
                obtain ⟨zN, hzN⟩ : ∃ s, s = canN cap := ⟨_, rfl⟩
                obtain ⟨zD, hzD⟩ : ∃ s, s = canD cap := ⟨_, rfl⟩
                rw [← hzS, ← hzN, ← hzD] at SU TA
                have HZ := Lib.hid (And.intro hzS (And.intro hzN hzD))
                clear hzS hzN hzD
                generalize canS df = dS at *
                generalize canN df = dN at *
                generalize canD df = dD at *
                generalize heS : canS el = eS at *
                generalize heN : canN el = eN at *
                generalize heD : canD el = eD at *
                have HE := Lib.hid (And.intro heS (And.intro heN heD))
                clear heS heN heD
                obtain ⟨wq, hwq⟩ : ∃ wq, wq = wr.alloc (.cells #[.int .i64 p, .bool pb, .bool pS, .string pN, .string pD] 38) := ⟨_, rfl⟩
                rw [← hwq] at QS P5
                have h5 := below_alloc (Below.refl wq.heap.size wq) (.cells #[.bool eS, .string eN, .string eD] 23)
                have T6 := Lib.hid (heap_new wq (.cells #[.bool eS, .string eN, .string eD] 23))
                have T5 := Lib.hid (heap_b h5 P5.out)
                have TS := Aside0.mk (QS.out.below h5)
                have hg6 := Lib.hid (show g < wr.heap.size from hg8x.out)
                have hqs := Lib.hid (show wq.heap.size = wr.heap.size + 1 by rw [hwq]; exact size_new _ _)
                obtain ⟨⟨k0, k1, k2⟩, -⟩ := GQ.out _ QS.out
                obtain ⟨m0, m1, m2, m3, m4⟩ := cells5 T5.out
                rw [hwq] at k0 k1 k2 m0 m1 m2 m3 m4
                go_upto_if 68 with (fail)
                rw [← hwq]
                obtain ⟨wA, hwA⟩ : ∃ wA, wA = wq.alloc (.cells #[.bool eS, .string eN, .string eD] 23) := ⟨_, rfl⟩
                rw [hqs.out] at T6
                rw [← hwA] at T6 T5 TS
                rw [← hwA]
                clear hwA h5 P5 s0 s1 s2 s3 s4 k0 k1 k2 m0 m1 m2 m3 m4 x0 x1 x2 x3 x4
                have hb14 : some (wr.heap.size + 1) ≠ tv.ownBlock := fun e => by have := hownx.out _ e.symm; omega
                have hg14 : g < wr.heap.size + 1 := by have := hg6.out; omega
                go_cut [] (fun wc => Aside0 (TierSt w w3 wt gp g (.slice (some ⟨gr, 0, none⟩) cs.length c6) st.1 st.2 tv wc) ∧ Aside0 (wc.heap[wr.heap.size]? = some (.cells #[.int .i64 p, .bool pb, .bool pS, .string pN, .string pD] 38)) ∧ Aside0 (wc.heap[wr.heap.size + 1]? = some (.cells #[.bool zS, .string zN, .string zD] 23)))
                case first =>
                  rcases hpb : pb with _ | _
                  · have he : cap = el := by rw [HCAP.out, hpb]; rfl
                    have z1 : zS = eS := by rw [HZ.out.1, he]; exact HE.out.1
                    have z2 : zN = eN := by rw [HZ.out.2.1, he]; exact HE.out.2.1
                    have z3 : zD = eD := by rw [HZ.out.2.2, he]; exact HE.out.2.2
                    have HZZ := Lib.hid (And.intro z1 (And.intro z2 z3))
                    have T5b := Lib.hid (show wA.heap[wr.heap.size]? = some (.cells #[.int .i64 p, .bool false, .bool pS, .string pN, .string pD] 38) by rw [← hpb]; exact T5.out)
                    clear z1 z2 z3 he hwq T5
                    subst hpb
                    go_wp2
                    go_meet
                    case rel => exact ⟨TS, ⟨T5b.out⟩, by rw [HZZ.out.1, HZZ.out.2.1, HZZ.out.2.2]; exact ⟨T6.out⟩⟩
                  · have he : cap = mq := by rw [HCAP.out, hpb]; rfl
                    rw [← he, ← HZ.out.1, ← HZ.out.2.1, ← HZ.out.2.2] at MN
                    have T5b := Lib.hid (show wA.heap[wr.heap.size]? = some (.cells #[.int .i64 p, .bool true, .bool pS, .string pN, .string pD] 38) by rw [← hpb]; exact T5.out)
                    obtain ⟨m0, m1, m2, m3, m4⟩ := cells5 T5b.out
                    obtain ⟨⟨n0, n1, n2⟩, -⟩ := cells3 T6.out
                    clear he hwq T5 HCAP
                    subst hpb
                    go_wp2_with (go_at_call 29; refine (MN.out _).mono ?_; rintro e w4 ⟨rfl, hb4⟩; have U5 := Lib.hid (heap_b hb4 T5b.out); have U6 := Lib.hid (heap_b hb4 T6.out); have US := Aside0.mk (TS.out.below hb4); obtain ⟨⟨o0, o1, o2⟩, o3, o4, o5⟩ := cells3 U6.out; clear hb4)
                    go_meet
                    case rel =>
                      have hne5 : wr.heap.size ≠ wr.heap.size + 1 := by omega
                      exact ⟨⟨((US.out.far hg14 hb14 _ _).far hg14 hb14 _ _).far hg14 hb14 _ _⟩, ⟨by rw [heap_far _ hne5, heap_far _ hne5, heap_far _ hne5]; exact U5.out⟩, ⟨set3 U6.out _ _ _⟩⟩
                case rest =>
                  obtain ⟨⟨hS⟩, ⟨h5⟩, ⟨h6⟩⟩ := hcut
                  have VS := Aside0.mk hS
                  have S0 := Lib.hid (And.intro (cells5 h5).1 (cells3 h6).1)
                  obtain ⟨⟨k0, k1, k2⟩, k3, k4, k5⟩ := GQ.out _ hS
                  have k0d : wc.drew.cell? ⟨gr, p * 3, none⟩ = _ := k0
                  have k1d : wc.drew.cell? ⟨gr, p * 3 + 1, none⟩ = _ := k1
                  have k2d : wc.drew.cell? ⟨gr, p * 3 + 2, none⟩ = _ := k2
                  have hgr5 := hS.rlt gr (by simp [Value.ownBlock])
                  have hgr6 := hS.glt
                  have hgr7 := hg6.out
                  have hn1 : gr ≠ wr.heap.size := by omega
                  have hn2 : gr ≠ wr.heap.size + 1 := by omega
                  clear hS h5 h6 k0 k1 k2 k3 k4 k5 T6 T5 TS MN HCAP hwq QS hgr5 hgr6 hgr7
                  go_wp2_with (fail)
                  conv => enter [2, 2, 1, 2, 2, 2, 2, 2, 2, 2, 1]; change hideOp _
                  go_region_held3 (fun w' => w'.cell? ⟨wr.heap.size, 0, none⟩ = some (.int .i64 p) ∧ (w'.cell? ⟨wr.heap.size + 1, 0, none⟩ = some (.bool zS) ∧ w'.cell? ⟨wr.heap.size + 1, 1, none⟩ = some (.string zN) ∧ w'.cell? ⟨wr.heap.size + 1, 2, none⟩ = some (.string zD)))
                    (first | exact keepR S0.out (pw_below_drewN (Below.refl _ _) 1) | exact keepR (by assumption) (by assumption) | exact keepRS hn1 hn2 (by assumption) rfl)
                    (first | (go_at_call 34; refine (SU.out _).mono ?_; rintro e w4 ⟨rfl, hb4⟩; have US := Aside0.mk ((VS.out.below (pw_below_drewN (Below.refl _ _) 1)).below hb4); obtain ⟨⟨o0, o1, o2⟩, o3, o4, o5⟩ := GQ.out _ US.out))
                  rename_i hS9
                  have XS := Aside0.mk (TP.out _ US.out)
                  obtain ⟨q0, q1, q2, q3⟩ := hS9
                  go_wp2_with (go_at_call 81; refine (TA.out _ XS.out).mono ?_; rintro e w5 ⟨rfl, hsz5, ⟨tv5, hst5⟩, -⟩; have QS5 := Aside0.mk hst5; clear hst5)
                  go_roundw
                  case measure => simp [intOf]; omega
                  case rel => exact ⟨i + 1, tv5, hlt2, by go_num, by rw [HTS.out]; exact QS5⟩
            · obtain rfl : i = ps.length := by omega
              have hls := HLS.out
              rw [show stepT lj ps = ((tierAt lj.1 ps ps.length).1, lj.2 ++ [(tierAt lj.1 ps ps.length).2]) from rfl] at hls
              have HLS2 := Lib.hid hls
              have HVS := Aside0.mk hS.out
              clear HLS hls
              generalize tierAt lj.1 ps ps.length = st at *
              have UU := Aside0.mk (Kd.R_mono (Kd.R_step QU.out (fun k hk hlt => HVS.out.old k hk.1 hk.2)) (ok' := fun _ => True) (fun _ _ => trivial))
              have hgpg := hgg.out
              have UG := Lib.hid ((HVS.out.old gp hgg.out ne4.out).trans QG.out)
              obtain ⟨Au, cu, rfl⟩ := Kd.R_slice UU.out
              obtain ⟨A9, c9, rfl⟩ := Kd.R_slice HVS.out.parts
              have hug : ∀ k, (Value.slice Au lj.2.length cu).ownBlock = some k → k < g := fun k hk => (QU.out.1 k hk).1
              have HUG := Aside0.mk hug
              have HMM := Aside0.mk (show kWTier.M wr w.heap.size (fun k => some k = (Value.slice A9 st.2.parts.length c9).ownBlock) st.2 [.slice A9 st.2.parts.length c9, .bool (canS st.2.sum), .string (canN st.2.sum), .string (canD st.2.sum)] from ⟨[_], _, rfl, ⟨_, rfl, Kd.R_tight rfl HVS.out.parts⟩, kQ_mk _ _ _ _⟩)
              have HOK := Aside0.mk (show ∀ k, some k = (Value.slice A9 st.2.parts.length c9).ownBlock → True ∧ some k ≠ (Value.slice Au lj.2.length cu).ownBlock from fun k hk => ⟨trivial, fun e => by
                have h1 := HVS.out.own k hk.symm
                have h2 := hug k e.symm
                omega⟩)
              have hbd : (lj.2.length + 1) * 64 ≤ 140737488355328 := by rw [HLJ.out]; have hnt := HK.out.nt; omega
              have hwfr := HVS.out.fr.1
              have HFW := Aside0.mk hwfr
              have hguo : some gp ≠ (Value.slice Au lj.2.length cu).ownBlock := Kd.R_ne UU.out UG.out (by decide)
              have e0 := blk_cell UG.out 1
              obtain ⟨⟨n0, n1, n2, n3⟩, -⟩ := cells4 HVS.out.cell
              have hws := hwfr.size
              clear hwfr hug hS
              go_wp2_with (at_builtin; refine Kd.R_append kWTier w.heap.size rfl _ _ 88 124 _ 64 rfl Tryz.underlying88 infoWTier rfl (by decide) (by decide) (.slice Au lj.2.length cu) lj.2 st.2 [.slice A9 st.2.parts.length c9, .bool (canS st.2.sum), .string (canN st.2.sum), .string (canD st.2.sum)] (fun _ => True) (fun k => some k = (Value.slice A9 st.2.parts.length c9).ownBlock) (by rfl) (by rfl) HMM.out HOK.out (fun _ _ => trivial) UU.out HFW.out hws hbd ?_; intro v3 w3' ho3 hb3 hg3 hat3; obtain ⟨A0, n0', rfl⟩ : ∃ A c, v3 = .slice A (lj.2.length + 1) c := (by obtain ⟨A, c, h⟩ := Kd.R_slice ho3; exact ⟨A, c, by rw [h, List.length_append]; rfl⟩); have G3 := Lib.hid ((hg3.block gp (blk_lt UG.out) hguo).trans UG.out); have f0 := blk_cell G3.out 1; have f1 := blk_frozen G3.out 1; have HO3 := Aside0.mk ho3; have HB3 := Aside0.mk hb3; have HG3 := Aside0.mk hg3; have HT3 := Aside0.mk hat3; clear ho3 hb3 hg3 hat3)
              have hwg : w.heap.size ≤ gp := by have := hgpw.out; omega
              have hfr3 : Fr w w3 gp (.slice A6 cs.length c6) w3' := ⟨HB3.out, Nat.le_trans HVS.out.fr.2.1 HG3.out.size, fun i i1 i2 i3 => (HG3.out.block i (Nat.lt_of_lt_of_le i1 HVS.out.fr.2.1) (fun e => by have := QUO.out i e.symm; omega)).trans (HVS.out.fr.2.2 i i1 i2 i3)⟩
              go_roundw
              case measure => simp [intOf]; omega
              case rel =>
                refine ⟨j + 1, .slice A0 (lj.2.length + 1) n0', hlt, by go_num, ?_, ⟨?_⟩, ⟨?_, fun k hk => ?_⟩, ⟨hfr3.set (.inl rfl) hwg _ _⟩⟩
                · rw [HLS2.out]
                  exact ⟨R_setfar rfl (Kd.R_grown (Kd.R_tight rfl HVS.out.rest) HG3.out (fun k hk e => (QU.out.1 k e.symm).2 hk)) ne4.out _ _⟩
                · rw [blk_set G3.out 1]
                  rfl
                · rw [HLS2.out]
                  exact Kd.R_set HO3.out G3.out kWT_E 1 _
                · rcases HT3.out with h | ⟨b, h, hb⟩
                  · exact QUO.out k (by rw [← h]; exact hk)
                  · rw [h] at hk
                    injection hk with hk
                    have := HVS.out.fr.2.1
                    omega
        · obtain rfl : j = ts.length := by omega
          have hHL := HK.out.last
          have HLA := Aside0.mk hHL
          have HRE := Aside0.mk HK.out.rest
          have HMR := Aside0.mk HK.out.mrng
          have HNM := Lib.hid HK.out.nm
          have hnm2 : (memL ts).length ≤ 9223372036854775807 := by have := HNM.out; omega
          have HL0 := Lib.hid (show (ladAt (amounts cs) ts ts.length).1.length = cs.length by rw [HLR.out]; exact hal)
          have HLJ := Lib.hid (ladAt_tiers (amounts cs) ts (Nat.le_refl _))
          have hnt := Lib.hid HK.out.nt
          have hn30 := hF.out.2.blk P3.out (by have := hgpw.out; omega) ne3.out
          have hG3 := hG.out
          have b0 := blk_cell hG3 0
          have h3 := below_alloc (Below.refl wr.heap.size wr) (.cells #[.slice none 0 0, .bool false, .string ⟨#[]⟩, .string ⟨#[]⟩] 124)
          have P5 := Lib.hid (heap_new wr (.cells #[.slice none 0 0, .bool false, .string ⟨#[]⟩, .string ⟨#[]⟩] 124))
          have QF := Aside0.mk (hF.out.below h3)
          have QO := Aside0.mk (Kd.R_below hO.out h3)
          have QG := Aside0.mk (heap_b h3 hG.out)
          have hn3 := Lib.hid (heap_b h3 hn30)
          clear hn30
          have b1 := blk_cell QG.out 0
          have hty := Kd.R_typed hO.out
          have QU := Aside0.mk (show kWTier.R 124 (wr.alloc (.cells #[.slice none 0 0, .bool false, .string ⟨#[]⟩, .string ⟨#[]⟩] 124)) w.heap.size (fun k => k < wr.heap.size ∧ some k ≠ (Value.slice A6 cs.length c6).ownBlock) u (ladAt (amounts cs) ts ts.length).2 from Kd.R_below (Kd.R_mono (Kd.R_bound hU.out.1) (fun k hk => ⟨hk.2.2.1, fun e => by
            obtain ⟨q, hq, cells, hce⟩ := hk.2.2.2
            obtain ⟨cells2, hce2⟩ := hty k e.symm
            rw [hce] at hce2
            have hq2 : q ∈ ([124, 169] : List Nat) := hq
            injection hce2 with hce2
            injection hce2 with _ hce3 _
            subst hce3
            revert hq2
            decide⟩)) h3)
          have QUO := Aside0.mk hU.out.2
          have hg0 := Lib.hid (show w3.heap.size ≤ wr.heap.size from hF.out.2.1)
          have hgg := Lib.hid (blk_lt hG.out)
          clear hO hF hG hU h3 hty hG3
          obtain ⟨g, hgw2⟩ : ∃ g, g = wr.heap.size := ⟨_, rfl⟩
          obtain ⟨wt, hwt⟩ : ∃ wt, wt = wr.alloc (.cells #[.slice none 0 0, .bool false, .string ⟨#[]⟩, .string ⟨#[]⟩] 124) := ⟨_, rfl⟩
          go_wp2
          rw [← hwt, ← hgw2] at P5
          rw [← hwt] at QF QO QG QU hn3
          rw [← hgw2] at QU hg0 hgg
          rw [← hwt, ← hgw2]
          clear hwt hgw2 b0 b1 hHL
          have ST0 := Aside0.mk (show TierSt w w3 wt gp g (.slice A6 cs.length c6) (ladAt (amounts cs) ts ts.length).1 (lastAt (ladAt (amounts cs) ts ts.length).1 (memL ts) 0) (.slice none 0 0) wt from ⟨QO.out, by rw [P5.out]; show _ = some (Obj.cells #[_, .bool (canS 0), .string (canN 0), .string (canD 0)] _); rw [can_zero.1, can_zero.2.1, can_zero.2.2], Kd.R_nil _ _ _ _ _, fun k hk => by simp [Value.ownBlock] at hk, QF.out, fun _ _ _ => rfl, RLT.out, hg0.out, by have := hgg.out; have := hgpw.out; omega⟩)
          clear QF QO P5
          generalize ladAt (amounts cs) ts ts.length = lj at *
          generalize memL ts = ms at *
          go_loopw [99] (fun v99 w' => ∃ (i : Nat) (tv : Value), i ≤ ms.length ∧ v99 = .int .i64 i ∧ Aside0 (TierSt w w3 wt gp g (.slice A6 cs.length c6) lj.1 (lastAt lj.1 ms i) tv w')) (fun v99 _ => ms.length - (intOf v99).toNat)
          case atStart => exact ⟨0, _, Nat.zero_le _, rfl, ST0⟩
          case round =>
            clear ST0
            obtain ⟨i, tv, hi, rfl, hS⟩ := hrel
            have hgm := GM.out _ hS.out.fr
            rcases Nat.lt_or_ge i ms.length with hlt2 | hge2
            · obtain ⟨-, -, hmC⟩ := Kd.R_reads' hgm
              obtain ⟨ad2, rfl, x0⟩ := C_word hmC (i : Int) (by omega) (by omega)
              rw [Int.toNat_natCast] at x0
              have hp2 : (0 : Int) ≤ (i : Int) := by omega
              have hp3 : (i : Int) < (ms.length : Int) := by omega
              obtain ⟨q1, q2⟩ := HMR.out (rd ms (i : Int)) (rd_mem' hlt2)
              have hls := lastAt_succ lj.1 ms hlt2
              obtain ⟨p, hp⟩ : ∃ p : Nat, rd ms (i : Int) = (p : Int) := ⟨(rd ms (i : Int)).toNat, by omega⟩
              rw [hp] at x0 q1 q2 hls
              rw [Int.toNat_natCast] at hls
              have HLS := Lib.hid hls
              have hpl2 : p < lj.1.length := by rw [HL0.out]; omega
              have hpn := lastAt_parts lj.1 ms hi
              have hpl : (lastAt lj.1 ms i).parts.length ≤ 1099511627776 := by rw [hpn]; have := HNM.out; omega
              obtain ⟨gr, cap8, hv, hgr1, hgr2, -⟩ := Kd.R_form hS.out.rest (by omega)
              injection hv with hv1 hv2 hv3
              subst hv1
              clear hv2 hv3
              obtain ⟨⟨k0, k1, k2⟩, -⟩ := R_getq hS.out.rest hpl2
              have TA := Aside0.mk (hS.out.add p (rdQ lj.1 p) (HRE.out _ (rdQ_mem' hpl2)) (HLA.out i hi) hpl)
              simp only [RQ] at TA
              clear hls hpn hpl hmC hgm hp
              generalize rdQ lj.1 p = el at *
              generalize canS el = eS at *
              generalize canN el = eN at *
              generalize canD el = eD at *
              go_wp2_with (go_at_call 81; refine TA.out.mono ?_; rintro e w5 ⟨rfl, hsz5, ⟨tv5, hst5⟩, -⟩; have QS5 := Aside0.mk hst5; clear hst5)
              go_roundw
              case measure => simp [intOf]; omega
              case rel => exact ⟨i + 1, tv5, hlt2, by go_num, by rw [HLS.out]; exact QS5⟩
            · obtain rfl : i = ms.length := by omega
              have HGM := Aside0.mk hgm
              have HVS := Aside0.mk hS.out
              clear hS hgm
              generalize lastAt lj.1 ms ms.length = st at *
              have UU := Aside0.mk (Kd.R_mono (Kd.R_step QU.out (fun k hk hlt => HVS.out.old k hk.1 hk.2)) (ok' := fun _ => True) (fun _ _ => trivial))
              have hgpg := hgg.out
              have UG := Lib.hid ((HVS.out.old gp hgg.out ne4.out).trans QG.out)
              have hb2 : w.heap.size + 1 + 1 < g := by have := hgpw.out; omega
              have UB := Lib.hid ((HVS.out.old _ hb2 ne3.out).trans hn3.out)
              obtain ⟨Au, cu, rfl⟩ := Kd.R_slice UU.out
              obtain ⟨A9, c9, rfl⟩ := Kd.R_slice HVS.out.parts
              have hug : ∀ k, (Value.slice Au lj.2.length cu).ownBlock = some k → k < g := fun k hk => (QU.out.1 k hk).1
              have HMM := Aside0.mk (show kWTier.M wr w.heap.size (fun k => some k = (Value.slice A9 st.parts.length c9).ownBlock) st [.slice A9 st.parts.length c9, .bool (canS st.sum), .string (canN st.sum), .string (canD st.sum)] from ⟨[_], _, rfl, ⟨_, rfl, Kd.R_tight rfl HVS.out.parts⟩, kQ_mk _ _ _ _⟩)
              have HOK := Aside0.mk (show ∀ k, some k = (Value.slice A9 st.parts.length c9).ownBlock → True ∧ some k ≠ (Value.slice Au lj.2.length cu).ownBlock from fun k hk => ⟨trivial, fun e => by
                have h1 := HVS.out.own k hk.symm
                have h2 := hug k e.symm
                omega⟩)
              have hbd : (lj.2.length + 1) * 64 ≤ 140737488355328 := by rw [HLJ.out]; have := hnt.out; omega
              have hwfr := HVS.out.fr.1
              have HFW := Aside0.mk hwfr
              have hguo : some gp ≠ (Value.slice Au lj.2.length cu).ownBlock := Kd.R_ne UU.out UG.out (by decide)
              have hbuo : some (w.heap.size + 1 + 1) ≠ (Value.slice Au lj.2.length cu).ownBlock := Kd.R_ne UU.out UB.out (by decide)
              have e0 := blk_cell UG.out 1
              obtain ⟨⟨n0, n1, n2, n3⟩, -⟩ := cells4 HVS.out.cell
              have hws := hwfr.size
              have hgb : gp ≠ w.heap.size + 1 + 1 := by have := hgpw.out; omega
              have hbg := hgb.symm
              clear hwfr hug
              go_wp2_with (at_builtin; refine Kd.R_append kWTier w.heap.size rfl _ _ 88 124 _ 64 rfl Tryz.underlying88 infoWTier rfl (by decide) (by decide) (.slice Au lj.2.length cu) lj.2 st [.slice A9 st.parts.length c9, .bool (canS st.sum), .string (canN st.sum), .string (canD st.sum)] (fun _ => True) (fun k => some k = (Value.slice A9 st.parts.length c9).ownBlock) (by rfl) (by rfl) HMM.out HOK.out (fun _ _ => trivial) UU.out HFW.out hws hbd ?_; intro v3 w3' ho3 hb3 hg3 hat3; obtain ⟨A0, n0', rfl⟩ : ∃ A c, v3 = .slice A (lj.2.length + 1) c := (by obtain ⟨A, c, h⟩ := Kd.R_slice ho3; exact ⟨A, c, by rw [h, List.length_append]; rfl⟩); have G3 := Lib.hid ((hg3.block gp (blk_lt UG.out) hguo).trans UG.out); have B3 := Lib.hid ((hg3.block _ (blk_lt UB.out) hbuo).trans UB.out); have f0 := blk_cell G3.out 1; have f1 := blk_frozen G3.out 1; have f2 := blk_cell G3.out 0; have y0 := blk_cell B3.out 0; have y1 := blk_cell B3.out 1; have y2 := blk_frozen B3.out 0; have y3 := blk_frozen B3.out 1; have HO3 := Aside0.mk ho3; have HB3 := Aside0.mk hb3; have HG3 := Aside0.mk hg3; clear ho3 hb3 hg3 hat3)
              have hwg : w.heap.size ≤ gp := by have := hgpw.out; omega
              have hwb : w.heap.size ≤ w.heap.size + 1 + 1 := by omega
              have hm3 := Kd.R_grown (Kd.R_tight rfl HGM.out) HG3.out (fun k hk e => by
                have h1 := (PMK.out k hk.symm).1
                have h2 := QUO.out k e.symm
                omega)
              have hmg : some gp ≠ (Value.slice A7 ms.length c7).ownBlock := fun e => (PMK.out gp e.symm).2.1 rfl
              refine bodyPost_ret (v := .agg #[.slice A7 ms.length c7, .slice A0 (lj.2.length + 1) n0']) ?_ rfl ⟨_, _, rfl, ?_, below_set (below_set (below_set HB3.out hwg) hwb) hwb⟩
              · exact results_p2 rfl _ _ (w.heap.size + 1 + 1) rfl (by go_simp) (by go_simp)
              · rw [HLP.out]
                refine ⟨[_], [_], rfl, ⟨_, rfl, ?_⟩, ⟨_, rfl, ?_⟩⟩
                · exact R_setfar rfl (R_setfar rfl (R_setfar rfl hm3 hmg _ _) ne5.out _ _) ne5.out _ _
                · have bb := blk_far B3.out (p := ⟨gp, 1, none⟩) hbg (.slice A0 (lj.2.length + 1) n0')
                  exact Kd.R_set (Kd.R_set (Kd.R_set HO3.out G3.out kWT_E 1 _) bb kWT_E 0 _) (blk_set bb 0 _) kWT_E 1 _
end Go.Proofs.YtnimgfnknlkkdaaGreatDoor.H
set_option linter.unusedVariables false
set_option linter.unusedSimpArgs false
open Go
namespace Go.Proofs.YtnimgfnknlkkdaaGreatDoor.H
open Go Go.RowKit Go.Proofs.YtnimgfnknlkkdaaGreatDoorW.PrintWords Go.Proofs.YtnimgfnknlkkdaaGreatDoorW.PrintLast Go.Proofs.YtnimgfnknlkkdaaGreatDoorW.PrintMore Go.Proofs.YtnimgfnknlkkdaaGreatDoor.Num
/-! (*tier).add at an element of a row of tiers. -/
theorem S_tier_add {w0 w1 : World} {gs n cap : Nat} {rl : List TierV} (hS : Kd.S kWTier 124 w1 w0.heap.size (fun _ => True) (.slice (some ⟨gs, 0, none⟩) n cap) rl) (hB : Below w0.heap.size w0 w1) {i : Nat} (hi : i < rl.length) (cl : Int) (x : Rat) (hx : OkQ x) (hs : OkQ (rdT rl i).sum) (hl : (rdT rl i).parts.length ≤ 1099511627776) :
    Calls Tryz.prog 81 #[.pointer (some ⟨gs, i * 4, none⟩), .int .i64 cl, RQ x] w1 fun e w2 => e = .returned (.tuple #[]) ∧ Below w0.heap.size w0 w2 ∧ w1.heap.size ≤ w2.heap.size ∧ Kd.S kWTier 124 w2 w0.heap.size (fun _ => True) (.slice (some ⟨gs, 0, none⟩) n cap) (rl.set i ((rdT rl i).add cl x)) ∧
      ∀ (k : Nat) (cells : Array Value) (t : TypeId), w1.heap[k]? = some (.cells cells t (0, 0)) → t ≠ 124 → t ≠ 169 → w2.heap[k]? = w1.heap[k]? := by
  have hn := (Kd.S_reads' hS).1
  have hbase := Kd.S_base hS gs (by simp [Value.ownBlock])
  obtain ⟨cells, hcells⟩ := Kd.S_typed hS gs (by simp [Value.ownBlock])
  obtain ⟨oki, c, hcl, hM, hcc, hoki, hH⟩ := Kd.S_lend hS zWTier (i : Int) (by omega) (by omega)
  rw [Int.toNat_natCast] at hM hcc
  obtain ⟨c0, c1, rfl, ⟨tv, rfl, hR⟩, hq⟩ := hM
  obtain rfl := kQ_open (kQ.K_of_M hq)
  have hgv : some gs ≠ tv.ownBlock := fun e => (hoki gs (hR.1 gs e.symm)).2 rfl
  have k0 : w1.cell? ⟨gs, i * 4, none⟩ = some tv := hcc 0 _ rfl
  have k1 : w1.cell? ⟨gs, i * 4 + 1, none⟩ = _ := hcc 1 _ rfl
  have k2 : w1.cell? ⟨gs, i * 4 + 2, none⟩ = _ := hcc 2 _ rfl
  have k3 : w1.cell? ⟨gs, i * 4 + 3, none⟩ = _ := hcc 3 _ rfl
  have hsz := hB.size
  have htyp := Kd.R_typed hR
  refine (w_add (rdT rl i) cl x gs (i * 4) tv w0 w1 ⟨k0, k1, k2, k3⟩ (fun j => blk_frozen hcells j) (Kd.R_mono hR (fun _ _ => trivial)) hbase hgv hB hx hs hl).mono ?_
  rintro e w2 ⟨he, hb, hsz2, A, c, hp, hown, hsame⟩
  refine ⟨he, hb, hsz2, ?_, fun k o t ht h1 h2 => ?_⟩
  · have h1 := (Kd.H_seg (Kd.H_widen hH) (by omega) (by omega) (j := 0) (seg := [.slice A ((rdT rl i).add cl x).parts.length c, .bool (canS ((rdT rl i).add cl x).sum), .string (canN ((rdT rl i).add cl x).sum), .string (canD ((rdT rl i).add cl x).sum)]) (by show 0 + 4 ≤ 4; omega) (by intro q hq; simp at hq; rcases hq with rfl | rfl | rfl | rfl <;> rfl)).1
    have h2 := Kd.H_step (w1 := w2) h1 (fun k _ hk hlt => by
      rw [(setCells_same gs _ _ w1).2.2.2] at hlt
      rw [Int.toNat_natCast]
      exact hsame k hlt (fun e => hk (.inl (hR.1 k e.symm))))
    have h3 := Kd.H_back h2 (x' := (rdT rl i).add cl x) (okp := fun k => some k = (Value.slice A ((rdT rl i).add cl x).parts.length c).ownBlock) ⟨[_], _, rfl, ⟨_, rfl, Kd.R_tight rfl hp⟩, kQ_mk _ _ _ _⟩ (fun k hk => by
      rcases hown with h | ⟨b, h, hbb⟩
      · exact .inl (hR.1 k (by rw [← h]; exact hk.symm))
      · rw [h] at hk
        injection hk with hk
        exact .inr ⟨trivial, by omega⟩)
    rw [Int.toNat_natCast] at h3
    exact h3
  · have hne : k ≠ gs := fun e => by
      rw [e, hcells] at ht
      injection ht with ht
      injection ht with _ ht _
      exact h1 ht.symm
    rw [hsame k (blk_lt ht) (fun e => by
      obtain ⟨cells2, h5⟩ := htyp k e.symm
      rw [ht] at h5
      injection h5 with h5
      injection h5 with _ h5 _
      exact h2 h5), setCells_far _ _ _ hne]
end Go.Proofs.YtnimgfnknlkkdaaGreatDoor.H
set_option linter.unusedVariables false
set_option linter.unusedSimpArgs false
open Go
namespace Go.Proofs.YtnimgfnknlkkdaaGreatDoor.H
open Go Go.RowKit Go.Proofs.YtnimgfnknlkkdaaGreatDoorW.PrintWords Go.Proofs.YtnimgfnknlkkdaaGreatDoorW.PrintLast Go.Proofs.YtnimgfnknlkkdaaGreatDoorW.PrintMore Go.Proofs.YtnimgfnknlkkdaaGreatDoor.Num
theorem kWT_zero (W : World) (base : Nat) : kWTier.M W base (fun _ => False) zWTier [.slice none 0 0, .bool false, .string ⟨#[]⟩, .string ⟨#[]⟩] := ⟨[_], _, rfl, ⟨_, rfl, Kd.R_nil _ _ _ _ _⟩, by
  have h := kQ_mk W base (fun _ => False) 0
  rw [can_zero.1, can_zero.2.1, can_zero.2.2] at h
  exact h⟩
/-- make(ladder, 8). -/
theorem made_ranks : ∃ RC : Array Value, ∀ (W : World) (base : Nat), base ≤ W.heap.size → (Instr.makeSlice 88 (.int .i64 8) (.int .i64 8)).run Tryz.prog W = .ok (.slice (some ⟨W.heap.size, 0, none⟩) 8 8) (W.alloc (.cells RC 124)) ∧ Kd.S kWTier 124 (W.alloc (.cells RC 124)) base (fun _ => True) (.slice (some ⟨W.heap.size, 0, none⟩) 8 8) (List.replicate 8 zWTier) := by
  obtain ⟨i0, hi, hzz⟩ := Option.map_eq_some_iff.1 infoWTier
  simp only [Prod.mk.injEq] at hzz
  obtain ⟨hz0, hz1, hz2⟩ := hzz
  refine ⟨madeCells (Value.agg #[.slice none 0 0, .bool false, .string ⟨#[]⟩, .string ⟨#[]⟩]).cells (8 * 4), fun W base hb => ⟨?_, ?_⟩⟩
  · have hr := run_make (P := Tryz.prog) W 88 124 i0 _ Tryz.underlying88 hi hz0 .i64 .i64 8 8 (by omega) (by omega) (by rw [hz2]; omega) (by omega)
    rw [hz1] at hr
    exact hr
  · refine Kd.S_bare ⟨fun _ _ => trivial, ?_⟩
    have h := OwnRow.lit (R := (Kd.bare kWTier).M (W.alloc (.cells (madeCells (Value.agg #[.slice none 0 0, .bool false, .string ⟨#[]⟩, .string ⟨#[]⟩]).cells (8 * 4)) 124)) base (fun k => True ∧ some k ≠ (Value.slice (some ⟨W.heap.size, 0, none⟩) 8 8).ownBlock)) (e := 124) (size := 4) (ps := List.replicate 8 zWTier) W base (inner := (madeCells (Value.agg #[.slice none 0 0, .bool false, .string ⟨#[]⟩, .string ⟨#[]⟩]).cells (8 * 4)).toList) (Kd.reps_made (z := .agg #[.slice none 0 0, .bool false, .string ⟨#[]⟩, .string ⟨#[]⟩]) (size := 4) rfl (by decide) (kWT_zero _ _) 8) hb (by simp)
    rw [Array.toArray_toList, List.length_replicate] at h
    exact h
end Go.Proofs.YtnimgfnknlkkdaaGreatDoor.H
set_option linter.unusedVariables false
set_option linter.unusedSimpArgs false
open Go
namespace Go.Proofs.YtnimgfnknlkkdaaGreatDoor.H
open Go Go.RowKit Go.Proofs.YtnimgfnknlkkdaaGreatDoorW.PrintWords Go.Proofs.YtnimgfnknlkkdaaGreatDoorW.PrintLast Go.Proofs.YtnimgfnknlkkdaaGreatDoorW.PrintMore Go.Proofs.YtnimgfnknlkkdaaGreatDoor.Num
/-! slices.Clone over numbers, (Layout).take -/
theorem R_empty {α : Type} (d : Kd α) (W : World) (base : Nat) (e : TypeId) (hb : base ≤ W.heap.size) : d.R e (W.alloc (.cells #[] e)) base (fun _ => True) (.slice (some ⟨W.heap.size, 0, none⟩) 0 0) [] :=
  ⟨fun _ _ => trivial, OwnRow.lit W base (Reps.none _ _) hb (Nat.zero_le _)⟩
set_option maxRecDepth 100000 in
set_option maxHeartbeats 1000000 in
theorem slices_Clone_q (l : List Rat) (A : Option Addr) (c : Nat) (w : World) (hC : kQ.C w A l.length l) (hc : l.length ≤ c) (hn : l.length ≤ 1099511627776) :
    Calls Tryz.prog 118 #[.slice A l.length c] w fun e w' => ∃ v, e = .returned v ∧ kQ.R 23 w' w.heap.size (fun _ => True) v l ∧ Below w.heap.size w w' := by
  cases A with
  | none =>
    obtain rfl : l = [] := by
      rcases hC with ⟨h1, h2, h3⟩
      rcases Nat.eq_zero_or_pos l.length with h | h
      · exact List.length_eq_zero_iff.1 h
      · obtain ⟨ad, e, -⟩ := h3 h
        cases e
    go_enter Tryz.func118, Tryz.ntmps118
    have hE : ∀ w : World, (binOp .eql 45 (.slice none ([] : List Rat).length c) (.slice none 0 0)).run Tryz.prog w = .ok (.bool true) w := fun w => Go.Lib.run_eql_slice_nil_nil w _ _ Tryz.underlying45
    simp only [List.length_nil] at hE
    go_wp2
    go_ret
    exact ⟨_, rfl, Kd.R_nil _ _ _ _ _, Below.refl _ _⟩
  | some ad =>
    have hE : ∀ w : World, (binOp .eql 45 (.slice (some ad) l.length c) (.slice none 0 0)).run Tryz.prog w = .ok (.bool false) w := fun w => Go.Lib.run_eql_slice_some_nil w _ _ _ Tryz.underlying45
    have HC := Aside0.mk hC
    have HE := Aside0.mk (R_empty kQ w w.heap.size 23 (Nat.le_refl _))
    have HB := Aside0.mk (below_alloc (Below.refl w.heap.size w) (.cells #[] 23))
    clear hC
    go_enter Tryz.func118, Tryz.ntmps118
    go_wp2_with (at_builtin; go_loud (refine Kd.R_append_rows kQ (Rr := kQ.K w) w.heap.size rfl _ _ 45 23 _ 40 rfl Tryz.underlying45 infoQ rfl (by decide) (by decide) _ [] l (some ad) l.length c (fun _ => True) (fun _ => False) (by rfl) (by rfl) HE.out (Kd.C_below HC.out HB.out) (fun x cs hK => by rw [kQ_open hK]; exact kQ_mk _ _ _ x) (fun _ hk => hk.elim) (fun _ _ => trivial) HB.out HB.out.size (by simp; omega) ?_); intro v3 w3 ho3 hb3 hg3 hat3)
    go_ret
    exact ⟨_, rfl, ho3, hb3⟩
end Go.Proofs.YtnimgfnknlkkdaaGreatDoor.H
set_option linter.unusedVariables false
set_option linter.unusedSimpArgs false
open Go
namespace Go.Proofs.YtnimgfnknlkkdaaGreatDoor.H
open Go Go.RowKit Go.Proofs.YtnimgfnknlkkdaaGreatDoorW.PrintWords Go.Proofs.YtnimgfnknlkkdaaGreatDoorW.PrintLast Go.Proofs.YtnimgfnknlkkdaaGreatDoorW.PrintMore Go.Proofs.YtnimgfnknlkkdaaGreatDoor.Num
attribute [local go_sem] hideOp
/-! (pool).total -/
def totalOf (ms : List Int) (l : List Rat) : Rat := ms.foldl (fun s i => s + rdQ l i.toNat) 0
theorem totalOf_succ (ms : List Int) (l : List Rat) {i : Nat} (h : i < ms.length) : totalOf (ms.take (i + 1)) l = totalOf (ms.take i) l + rdQ l (rd ms (i : Int)).toNat := by
  rw [totalOf, List.take_succ_eq_append_getElem h, List.foldl_append, rd, Int.toNat_natCast, List.getD_eq_getElem?_getD, List.getElem?_eq_getElem h]
  rfl
theorem rd_mem {ms : List Int} {i : Nat} (h : i < ms.length) : rd ms (i : Int) ∈ ms := by
  rw [rd, Int.toNat_natCast, List.getD_eq_getElem?_getD, List.getElem?_eq_getElem h]
  exact List.getElem_mem h
theorem rdQ_mem {l : List Rat} {i : Nat} (h : i < l.length) : rdQ l i ∈ l := by
  rw [rdQ, List.getD_eq_getElem?_getD, List.getElem?_eq_getElem h]
  exact List.getElem_mem h
theorem keepQ {w0 w1 w2 : World} {p0 p1 p2 : Addr} {v0 v1 v2 : Value} (h : (w1.cell? p0 = some v0 ∧ w1.cell? p1 = some v1 ∧ w1.cell? p2 = some v2) ∧ Aside0 (Below w0.heap.size w0 w1)) (hb : Below w1.heap.size w1 w2) :
    (w2.cell? p0 = some v0 ∧ w2.cell? p1 = some v1 ∧ w2.cell? p2 = some v2) ∧ Aside0 (Below w0.heap.size w0 w2) :=
  ⟨⟨pw_cell_below hb h.1.1, pw_cell_below hb h.1.2.1, pw_cell_below hb h.1.2.2⟩, ⟨below_step h.2.out hb⟩⟩
theorem keepSQ {w0 w1 W : World} {p0 p1 p2 : Addr} {g2 : Nat} {v0 v1 v2 x y z : Value} (hy : w0.cell? p0 = some v0 ∧ w0.cell? p1 = some v1 ∧ w0.cell? p2 = some v2) (hB : w0.heap.size ≤ g2) (h : (w1.cell? p0 = some v0 ∧ w1.cell? p1 = some v1 ∧ w1.cell? p2 = some v2) ∧ Aside0 (Below w0.heap.size w0 w1))
    (hW : W = ((w1.setCell ⟨g2, 0, none⟩ x).setCell ⟨g2, 1, none⟩ y).setCell ⟨g2, 2, none⟩ z) :
    (W.cell? p0 = some v0 ∧ W.cell? p1 = some v1 ∧ W.cell? p2 = some v2) ∧ Aside0 (Below w0.heap.size w0 W) := by
  subst hW
  have hb : Below w0.heap.size w0 (((w1.setCell ⟨g2, 0, none⟩ x).setCell ⟨g2, 1, none⟩ y).setCell ⟨g2, 2, none⟩ z) := below_set (below_set (below_set h.2.out hB) hB) hB
  exact ⟨⟨pw_cell_below hb hy.1, pw_cell_below hb hy.2.1, pw_cell_below hb hy.2.2⟩, ⟨hb⟩⟩
set_option maxRecDepth 100000 in
set_option maxHeartbeats 1000000 in
theorem w_total (ms : List Int) (l : List Rat) (A : Option Addr) (c : Nat) (A2 : Option Addr) (n2 c2 : Nat) (B : Option Addr) (d : Nat) (w : World) (hM : (Kd.int .i64).C w A ms.length ms) (hmc : ms.length ≤ c) (hL : kQ.C w B l.length l) (hlc : l.length ≤ d)
    (hmem : ∀ i ∈ ms, 0 ≤ i ∧ i < (l.length : Int)) (hl : ∀ x ∈ l, OkQ x) (ht : ∀ k, k ≤ ms.length → OkQ (totalOf (ms.take k) l)) :
    Calls Tryz.prog 85 #[.agg #[.slice A ms.length c, .slice A2 n2 c2], .slice B l.length d] w fun e w' => e = .returned (RQ (totalOf ms l)) ∧ Below w.heap.size w w' := by
  have HM := Aside0.mk hM
  have HL := Aside0.mk hL
  have hmx := hM.2.1
  have HMEM := Aside0.mk hmem
  have HOL := Aside0.mk hl
  have HT := Aside0.mk ht
  have TS := Aside0.mk (fun (i : Nat) (h : i < ms.length) => totalOf_succ ms l h)
  have T0 := Lib.hid (show totalOf (ms.take 0) l = 0 by rw [List.take_zero]; rfl)
  have TE := Lib.hid (show totalOf (ms.take ms.length) l = totalOf ms l by rw [List.take_length])
  obtain ⟨z1, z2, z3⟩ := can_zero
  have Z := Lib.hid (And.intro z1 (And.intro z2 z3))
  clear hM hL hmem hl ht z1 z2 z3
  simp only [RQ]
  generalize totalOf ms l = tot at *
  obtain ⟨tS, htS⟩ : ∃ s, s = canS tot := ⟨_, rfl⟩
  obtain ⟨tN, htN⟩ : ∃ s, s = canN tot := ⟨_, rfl⟩
  obtain ⟨tD, htD⟩ : ∃ s, s = canD tot := ⟨_, rfl⟩
  rw [← htS, ← htN, ← htD]
  have HTT := Lib.hid (And.intro htS (And.intro htN htD))
  clear htS htN htD
  have T3 := three w (.cells #[.slice A ms.length c, .slice A2 n2 c2] 127) (.cells #[.bool false, .string ⟨#[]⟩, .string ⟨#[]⟩] 23) (.cells #[.bool false, .string ⟨#[]⟩, .string ⟨#[]⟩] 23) 0
  rw [show ∀ w : World, w.drewN 0 = w from fun _ => rfl] at T3
  obtain ⟨t1, t2, t3, tB⟩ := T3
  have N1 := Lib.hid t1
  have N2 := Lib.hid t2
  have N3 := Lib.hid t3
  have NB := Aside0.mk tB
  have a0 := blk_cell t1 0
  have a1 := blk_cell t1 1
  clear t1 t2 t3 tB
  go_enter Tryz.func85, Tryz.ntmps85
  go_wp2_with (fail)
  obtain ⟨wl, hwl⟩ : ∃ wl, wl = (((w.alloc (.cells #[.slice A ms.length c, .slice A2 n2 c2] 127)).alloc (.cells #[.bool false, .string ⟨#[]⟩, .string ⟨#[]⟩] 23)).alloc (.cells #[.bool false, .string ⟨#[]⟩, .string ⟨#[]⟩] 23)) := ⟨_, rfl⟩
  rw [← hwl] at N1 N2 N3 NB
  rw [← hwl]
  clear hwl a0 a1 N1
  go_loopw [12] (fun v12 w' => ∃ i : Nat, i ≤ ms.length ∧ v12 = .int .i64 i ∧ Aside0 (w'.heap[w.heap.size + 1 + 1]? = some (.cells #[.bool (canS (totalOf (ms.take i) l)), .string (canN (totalOf (ms.take i) l)), .string (canD (totalOf (ms.take i) l))] 23)) ∧ Aside0 (w'.heap[w.heap.size + 1]? = some (.cells #[.bool false, .string ⟨#[]⟩, .string ⟨#[]⟩] 23)) ∧ Aside0 (Below w.heap.size w w')) (fun v12 _ => ms.length - (intOf v12).toNat)
  case atStart => exact ⟨0, Nat.zero_le _, rfl, by rw [T0.out, Z.out.1, Z.out.2.1, Z.out.2.2]; exact ⟨N3.out⟩, ⟨N2.out⟩, NB⟩
  case round =>
    clear N2 N3 NB T0 Z
    obtain ⟨i, hi, rfl, hX, hY, hF⟩ := hrel
    rcases Nat.lt_or_ge i ms.length with hlt | hge
    · obtain ⟨ad, rfl, x0⟩ := C_word (Kd.C_below HM.out hF.out) (i : Int) (by omega) (by omega)
      rw [Int.toNat_natCast] at x0
      have hp0 : (0 : Int) ≤ (i : Int) := by omega
      have hp1 : (i : Int) < (ms.length : Int) := by omega
      obtain ⟨q1, q2⟩ := HMEM.out _ (rd_mem hlt)
      have hts := TS.out i hlt
      obtain ⟨p, hp⟩ : ∃ p : Nat, rd ms (i : Int) = (p : Int) := ⟨(rd ms (i : Int)).toNat, by omega⟩
      rw [hp] at x0 q1 q2 hts
      rw [Int.toNat_natCast] at hts
      have hpl : p < l.length := by omega
      obtain ⟨bd, rfl, y0, y1, y2⟩ := at_Q HL.out hpl
      have Y := Lib.hid (And.intro y0 (And.intro y1 y2))
      have AD := Lib.hid (fun w => add_q (totalOf (ms.take i) l) (rdQ l p) w (HT.out i hi) (HOL.out _ (rdQ_mem hpl)))
      rw [← hts] at AD
      simp only [RQ] at AD
      have HP := Lib.hid hp
      have HTS := Lib.hid hts
      obtain ⟨zS, hzS⟩ : ∃ s, s = canS (totalOf (ms.take (i + 1)) l) := ⟨_, rfl⟩
      obtain ⟨zN, hzN⟩ : ∃ s, s = canN (totalOf (ms.take (i + 1)) l) := ⟨_, rfl⟩
      obtain ⟨zD, hzD⟩ : ∃ s, s = canD (totalOf (ms.take (i + 1)) l) := ⟨_, rfl⟩
      rw [← hzS, ← hzN, ← hzD] at AD
      have HZ := Lib.hid (And.intro hzS (And.intro hzN hzD))
      clear hzS hzN hzD hp hts HTS HP
      generalize rdQ l p = y at *
      generalize totalOf (ms.take i) l = s at *
      generalize canS y = yS at *
      generalize canN y = yN at *
      generalize canD y = yD at *
      generalize canS s = sS at *
      generalize canN s = sN at *
      generalize canD s = sD at *
      have S0 := Lib.hid (And.intro (And.intro (pw_cell_below hF.out y0) (And.intro (pw_cell_below hF.out y1) (pw_cell_below hF.out y2))) hF)
      have HX := Lib.hid hX.out
      have HY := Lib.hid hY.out
      obtain ⟨⟨b0, b1, b2⟩, b3, b4, b5⟩ := cells3 HX.out
      clear y0 y1 y2 hX hY hF
      go_wp2_with (fail)
      conv => enter [2, 2, 1, 1]; change hideOp _
      go_region_held3 (fun w' => (w'.cell? (bd.add (p * 3)) = some (.bool yS) ∧ w'.cell? ⟨(bd.add (p * 3)).block, (bd.add (p * 3)).off + 1, none⟩ = some (.string yN) ∧ w'.cell? ⟨(bd.add (p * 3)).block, (bd.add (p * 3)).off + 2, none⟩ = some (.string yD)) ∧ Aside0 (Below w.heap.size w w'))
        (first | exact keepQ S0.out (pw_below_drewN (Below.refl _ _) 1) | exact keepQ (by assumption) (by assumption) | exact keepSQ Y.out (Nat.le_add_right _ 2) (by assumption) rfl)
        (first | (go_at_call 24; refine (AD.out _).mono ?_; rintro e w2 ⟨rfl, hb2⟩; have QX := Lib.hid (heap_b hb2 (show wr.drew.heap[w.heap.size + 1 + 1]? = _ from HX.out)); have QY := Lib.hid (heap_b hb2 (show wr.drew.heap[w.heap.size + 1]? = _ from HY.out)); obtain ⟨⟨c0, c1, c2⟩, c3, c4, c5⟩ := cells3 QX.out))
      rename_i hS9
      go_wp2
      go_roundw
      case measure => simp [intOf]; omega
      case rel => exact ⟨i + 1, hlt, by go_num, by rw [← HZ.out.1, ← HZ.out.2.1, ← HZ.out.2.2]; exact ⟨set3 QX.out _ _ _⟩, ⟨by rw [heap_far _ (by omega), heap_far _ (by omega), heap_far _ (by omega)]; exact QY.out⟩, hS9.2⟩
    · obtain rfl : i = ms.length := by omega
      rw [TE.out, ← HTT.out.1, ← HTT.out.2.1, ← HTT.out.2.2] at hX
      have HX := Lib.hid hX.out
      have HY := Lib.hid hY.out
      obtain ⟨⟨b0, b1, b2⟩, b3, b4, b5⟩ := cells3 HX.out
      obtain ⟨⟨d0, d1, d2⟩, d3, d4, d5⟩ := cells3 HY.out
      clear hX hY
      go_wp2
      refine bodyPost_ret (v := RV tS tN tD) ?_ rfl ⟨rfl, ?_⟩
      · exact results_q rfl _ _ (w.heap.size + 1) rfl (by go_simp) (by go_simp) (by go_simp)
      · exact below_set (below_set (below_set hF.out (Nat.le_add_right _ 1)) (Nat.le_add_right _ 1)) (Nat.le_add_right _ 1)
end Go.Proofs.YtnimgfnknlkkdaaGreatDoor.H
set_option linter.unusedVariables false
set_option linter.unusedSimpArgs false
open Go
namespace Go.Proofs.YtnimgfnknlkkdaaGreatDoor.H
open Go Go.RowKit Go.Proofs.YtnimgfnknlkkdaaGreatDoorW.PrintWords Go.Proofs.YtnimgfnknlkkdaaGreatDoorW.PrintLast Go.Proofs.YtnimgfnknlkkdaaGreatDoorW.PrintMore Go.Proofs.YtnimgfnknlkkdaaGreatDoor.Num
/-! (Layout).take -/
def zeros (l : List Rat) (ms : List Int) : List Rat := ms.foldl (fun l i => l.set i.toNat 0) l
def flatM (ps : List PoolV) (j : Nat) : List Int := ((ps.take j).map PoolV.members).flatten
theorem zeros_append (l : List Rat) (a b : List Int) : zeros l (a ++ b) = zeros (zeros l a) b := List.foldl_append
theorem zeros_len : ∀ (ms : List Int) (l : List Rat), (zeros l ms).length = l.length
  | [], _ => rfl
  | i :: ms, l => by
    show (zeros (l.set i.toNat 0) ms).length = _
    rw [zeros_len ms, List.length_set]
theorem zeros_succ (l : List Rat) (ms : List Int) {i : Nat} (h : i < ms.length) : zeros l (ms.take (i + 1)) = (zeros l (ms.take i)).set (rd ms (i : Int)).toNat 0 := by
  rw [zeros, List.take_succ_eq_append_getElem h, List.foldl_append, rd, Int.toNat_natCast, List.getD_eq_getElem?_getD, List.getElem?_eq_getElem h]
  rfl
theorem rdPool_mem {ps : List PoolV} {i : Nat} (h : i < ps.length) : rdPool ps i ∈ ps := by
  rw [rdPool, List.getD_eq_getElem?_getD, List.getElem?_eq_getElem h]
  exact List.getElem_mem h
theorem flatM_succ (ps : List PoolV) {j : Nat} (h : j < ps.length) : flatM ps (j + 1) = flatM ps j ++ (rdPool ps j).members := by
  rw [flatM, List.take_succ_eq_append_getElem h, List.map_append, List.flatten_append, flatM, rdPool, List.getD_eq_getElem?_getD, List.getElem?_eq_getElem h]
  simp
set_option maxRecDepth 100000 in
set_option maxHeartbeats 1000000 in
theorem w_take (ps : List PoolV) (l : List Rat) (n : Nat) (tot : Rat) (A1 : Option Addr) (n1 c1 : Nat) (B : Option Addr) (d : Nat) (A : Option Addr) (c : Nat) (w : World) (hP : kPool.C w B ps.length ps) (hd : ps.length ≤ d) (hC : kQ.C w A l.length l) (hc : l.length ≤ c) (hn : l.length ≤ 1099511627776) (hm : ∀ p ∈ ps, ∀ i ∈ p.members, 0 ≤ i ∧ i < (l.length : Int)) :
    Calls Tryz.prog 83 #[.agg #[.int .i64 n, .slice A1 n1 c1, .slice B ps.length d, .bool (canS tot), .string (canN tot), .string (canD tot)], .slice A l.length c] w fun e w' => ∃ gr v, e = .returned (.pointer (some ⟨gr, 0, none⟩)) ∧ OwnR w' w.heap.size gr v ⟨zeros l (flatM ps ps.length), 0⟩ ∧ Below w.heap.size w w' := by
  have CL := Aside0.mk (fun (w' : World) h => slices_Clone_q l A c w' h hc hn)
  have HC := Aside0.mk hC
  have HP := Aside0.mk hP
  have HM := Aside0.mk hm
  have hmx := hP.2.1
  have t1 := heap_new w (.cells #[.int .i64 n, .slice A1 n1 c1, .slice B ps.length d, .bool (canS tot), .string (canN tot), .string (canD tot)] 91)
  have N1 := Lib.hid t1
  have NB := Aside0.mk (below_alloc (Below.refl w.heap.size w) (.cells #[.int .i64 n, .slice A1 n1 c1, .slice B ps.length d, .bool (canS tot), .string (canN tot), .string (canD tot)] 91))
  have Z := Lib.hid can_zero
  clear hC hP hm t1
  generalize canS tot = tS at *
  generalize canN tot = tN at *
  generalize canD tot = tD at *
  go_enter Tryz.func83, Tryz.ntmps83
  go_wp2_with (fail)
  obtain ⟨wl, hwl⟩ : ∃ wl, wl = (w.alloc (.cells #[.int .i64 n, .slice A1 n1 c1, .slice B ps.length d, .bool tS, .string tN, .string tD] 91)) := ⟨_, rfl⟩
  rw [← hwl] at N1 NB
  rw [← hwl]
  clear hwl
  refine (CL.out _ (Kd.C_below HC.out NB.out)).mono ?_
  rintro e w1 ⟨v1, rfl, hr1, hb1⟩
  obtain ⟨A3, n3, rfl⟩ := Kd.R_slice hr1
  have M1 := heap_b hb1 N1.out
  have h4 := below_alloc (Below.refl w1.heap.size w1) (.cells #[.slice A3 l.length n3, .bool false, .string ⟨#[]⟩, .string ⟨#[]⟩] 133)
  have M2 := heap_b h4 M1
  have e0 := blk_cell M2 2
  have hws := NB.out.size
  have HB4 := Aside0.mk (below_s h4 (below_s hb1 NB.out))
  have HO4 := Aside0.mk (show OwnR (w1.alloc (.cells #[.slice A3 l.length n3, .bool false, .string ⟨#[]⟩, .string ⟨#[]⟩] 133)) w.heap.size w1.heap.size (.slice A3 l.length n3) ⟨l, 0⟩ from ⟨by rw [heap_new, show (ResV.mk l 0).reserve = 0 from rfl, Z.out.1, Z.out.2.1, Z.out.2.2], by have := hb1.size; omega, Kd.R_lower (Kd.R_below hr1 h4) (by omega)⟩)
  clear h4 M1 M2 hr1 hb1 CL N1 NB
  go_wp2
  obtain ⟨gr, hgr⟩ : ∃ gr, gr = w1.heap.size := ⟨_, rfl⟩
  obtain ⟨wo, hwo⟩ : ∃ wo, wo = (w1.alloc (.cells #[.slice A3 l.length n3, .bool false, .string ⟨#[]⟩, .string ⟨#[]⟩] 133)) := ⟨_, rfl⟩
  rw [← hgr, ← hwo] at HO4
  rw [← hwo] at HB4
  rw [← hgr, ← hwo]
  clear hgr hwo e0 hws
  go_loopw [17] (fun v17 w' => ∃ j : Nat, j ≤ ps.length ∧ v17 = .int .i64 j ∧ Aside0 (OwnR w' w.heap.size gr (.slice A3 l.length n3) ⟨zeros l (flatM ps j), 0⟩) ∧ Aside0 (Below w.heap.size w w')) (fun v17 _ => ps.length - (intOf v17).toNat)
  case atStart => exact ⟨0, Nat.zero_le _, rfl, HO4, HB4⟩
  case round =>
    clear HO4 HB4
    obtain ⟨j, hj, rfl, hO, hF⟩ := hrel
    rcases Nat.lt_or_ge j ps.length with hlt | hge
    · obtain ⟨ad, v, u, rfl, ⟨A4, c4, rfl, hc4, hC4⟩, ⟨A5, c5, rfl, hc5, hC5⟩, x0, x1⟩ := at_Pool HP.out hlt
      replace x0 := pw_cell_below hF.out x0
      replace x1 := pw_cell_below hF.out x1
      have HC4 := Aside0.mk hC4
      have hpx := hC4.2.1
      have hp0 : (0 : Int) ≤ (j : Int) := by omega
      have hp1 : (j : Int) < (ps.length : Int) := by omega
      have HMJ := Aside0.mk (HM.out _ (rdPool_mem hlt))
      have HZJ := Lib.hid (show zeros l (flatM ps (j + 1)) = zeros (zeros l (flatM ps j)) (rdPool ps j).members by rw [flatM_succ ps hlt, zeros_append])
      have HLJ := Lib.hid (zeros_len (flatM ps j) l)
      clear hC4 hC5 hc5
      generalize (rdPool ps j).members = ms at *
      generalize (rdPool ps j).ladder.length = n5 at *
      generalize zeros l (flatM ps j) = lj at *
      have h3 := below_alloc (Below.refl wr.heap.size wr) (.cells #[.slice A4 ms.length c4, .slice A5 n5 c5] 127)
      have P1 := heap_new wr (.cells #[.slice A4 ms.length c4, .slice A5 n5 c5] 127)
      have a0 := blk_cell P1 0
      have PF := Aside0.mk (below_s h3 hF.out)
      have PO := Aside0.mk (hO.out.below h3)
      clear P1 h3 hF hO
      go_wp2
      obtain ⟨wp, hwp⟩ : ∃ wp, wp = wr.alloc (.cells #[.slice A4 ms.length c4, .slice A5 n5 c5] 127) := ⟨_, rfl⟩
      rw [← hwp] at PF PO
      rw [← hwp]
      clear hwp a0 x0 x1
      go_loopw [24] (fun v24 w' => ∃ i : Nat, i ≤ ms.length ∧ v24 = .int .i64 i ∧ Aside0 (OwnR w' w.heap.size gr (.slice A3 l.length n3) ⟨zeros lj (ms.take i), 0⟩) ∧ Aside0 (Below w.heap.size w w')) (fun v24 _ => ms.length - (intOf v24).toNat)
      case atStart => exact ⟨0, Nat.zero_le _, rfl, PO, PF⟩
      case round =>
        clear PO PF
        obtain ⟨i, hi, rfl, hO, hF⟩ := hrel
        rcases Nat.lt_or_ge i ms.length with hlt2 | hge2
        · obtain ⟨ad2, rfl, x0⟩ := C_word (Kd.C_below HC4.out hF.out) (i : Int) (by omega) (by omega)
          rw [Int.toNat_natCast] at x0
          have hp2 : (0 : Int) ≤ (i : Int) := by omega
          have hp3 : (i : Int) < (ms.length : Int) := by omega
          obtain ⟨q1, q2⟩ := HMJ.out _ (rd_mem hlt2)
          have hzs := zeros_succ lj ms hlt2
          obtain ⟨p, hp⟩ : ∃ p : Nat, rd ms (i : Int) = (p : Int) := ⟨(rd ms (i : Int)).toNat, by omega⟩
          rw [hp] at x0 q1 q2 hzs
          rw [Int.toNat_natCast] at hzs
          have HZS := Lib.hid hzs
          have hpl : p < (zeros lj (ms.take i)).length := by rw [zeros_len, HLJ.out]; omega
          have HOO := Aside0.mk hO.out
          obtain ⟨g1, g2, g3⟩ := hO.out
          have hll : (zeros lj (ms.take i)).length = l.length := by rw [zeros_len, HLJ.out]
          generalize zeros lj (ms.take i) = lc at *
          obtain ⟨g, cap, hv, hg1, hg2, -⟩ := Kd.R_form g3 (by show 0 < lc.length; omega)
          injection hv with hv1 hv2 hv3
          subst hv1
          have hst := OwnR.store (r := ⟨lc, 0⟩) g1 g2 g3 hpl 0
          obtain ⟨c9, hcl, hM9, hcc, hff⟩ := Kd.R_elem g3 (0 : Rat) (p : Int) (by omega) (by omega)
          obtain rfl := kQ_open (kQ.K_of_M hM9)
          rw [Int.toNat_natCast] at hcc hff
          have k0 : wr.cell? ⟨g, p * 3, none⟩ = _ := hcc 0 _ rfl
          have k1 : wr.cell? ⟨g, p * 3 + 1, none⟩ = _ := hcc 1 _ rfl
          have k2 : wr.cell? ⟨g, p * 3 + 2, none⟩ = _ := hcc 2 _ rfl
          have f0 : wr.frozen? ⟨g, p * 3, none⟩ = _ := hff 0
          have f1 : wr.frozen? ⟨g, p * 3 + 1, none⟩ = _ := hff 1
          have f2 : wr.frozen? ⟨g, p * 3 + 2, none⟩ = _ := hff 2
          have m0 := (cells4 g1).1.1
          rw [Z.out.1, Z.out.2.1, Z.out.2.2] at hst
          have HST := Aside0.mk hst
          clear hst hcc hff g1 g3 hO hM9 hcl hp hzs HOO hll hv2 hv3
          go_wp2
          go_roundw
          case measure => simp [intOf]; omega
          case rel => exact ⟨i + 1, hlt2, by go_num, by rw [HZS.out]; exact ⟨HST.out.1⟩, ⟨below_set (below_set (below_set hF.out hg1) hg1) hg1⟩⟩
        · obtain rfl : i = ms.length := by omega
          rw [List.take_length] at hO
          go_wp2
          go_roundw
          case measure => simp [intOf]; omega
          case rel => exact ⟨j + 1, hlt, by go_num, by rw [HZJ.out]; exact hO, hF⟩
    · obtain rfl : j = ps.length := by omega
      go_wp2
      go_ret
      exact ⟨gr, _, rfl, hO.out, hF.out⟩
end Go.Proofs.YtnimgfnknlkkdaaGreatDoor.H
set_option linter.unusedVariables false
set_option linter.unusedSimpArgs false
open Go
namespace Go.Proofs.YtnimgfnknlkkdaaGreatDoor.H
open Go Go.RowKit Go.Proofs.YtnimgfnknlkkdaaGreatDoorW.PrintWords Go.Proofs.YtnimgfnknlkkdaaGreatDoorW.PrintLast Go.Proofs.YtnimgfnknlkkdaaGreatDoorW.PrintMore Go.Proofs.YtnimgfnknlkkdaaGreatDoor.Num
/-! (Layout).Deliver -/
structure LayV where
  count : Nat
  ranks : List TierV
  pools : List PoolV
  total : Rat
def grossOf (L : LayV) (m : Rat) : List Rat := ((zerosQ L.count).adds (paysOf L.ranks m)).claims
def deliverAll (ps : List PoolV) (g : List Rat) (j : Nat) (r : ResV) : ResV := (ps.take j).foldl (fun r p => r.adds (paysOf p.ladder (totalOf p.members g))) r
def takeOf (L : LayV) (m : Rat) : ResV := ⟨zeros (grossOf L m) (flatM L.pools L.pools.length), 0⟩
def deliverOf (L : LayV) (m : Rat) : ResV := deliverAll L.pools (grossOf L m) L.pools.length (takeOf L m)
theorem deliverAll_succ (ps : List PoolV) (g : List Rat) (r : ResV) {j : Nat} (h : j < ps.length) : deliverAll ps g (j + 1) r = (deliverAll ps g j r).adds (paysOf (rdPool ps j).ladder (totalOf (rdPool ps j).members g)) := by
  rw [deliverAll, List.take_succ_eq_append_getElem h, List.foldl_append, rdPool, List.getD_eq_getElem?_getD, List.getElem?_eq_getElem h]
  rfl
theorem add_len (r : ResV) (c : Int) (x : Rat) : (r.add c x).claims.length = r.claims.length := by
  unfold ResV.add
  split
  · rfl
  · exact List.length_set
theorem adds_len : ∀ (xs : List (Int × Rat)) (r : ResV), (r.adds xs).claims.length = r.claims.length
  | [], _ => rfl
  | a :: xs, r => (adds_len xs (r.add a.1 a.2)).trans (add_len r a.1 a.2)
theorem gross_len (L : LayV) (m : Rat) : (grossOf L m).length = L.count := by rw [grossOf, adds_len]; exact List.length_replicate
structure DelOk (L : LayV) (m : Rat) : Prop where
  n : L.count ≤ 1099511627776
  gross : PayOk (zerosQ L.count) L.ranks m
  okg : ∀ x ∈ grossOf L m, OkQ x
  mem : ∀ p ∈ L.pools, ∀ i ∈ p.members, 0 ≤ i ∧ i < (L.count : Int)
  tots : ∀ p ∈ L.pools, ∀ k, k ≤ p.members.length → OkQ (totalOf (p.members.take k) (grossOf L m))
  pays : ∀ j, j < L.pools.length → PayOk (deliverAll L.pools (grossOf L m) j (takeOf L m)) (rdPool L.pools j).ladder (totalOf (rdPool L.pools j).members (grossOf L m))
/-- A layout's value, its rows read. -/
def IsLay (w : World) (v : Value) (L : LayV) : Prop := ∃ A c B d, v = .agg #[.int .i64 L.count, .slice A L.ranks.length c, .slice B L.pools.length d, .bool (canS L.total), .string (canN L.total), .string (canD L.total)] ∧ L.ranks.length ≤ c ∧ L.pools.length ≤ d ∧ kWTier.C w A L.ranks.length L.ranks ∧ kPool.C w B L.pools.length L.pools
theorem IsLay.below {w w1 : World} {v : Value} {L : LayV} (h : IsLay w v L) (hb : Below w.heap.size w w1) : IsLay w1 v L := by
  obtain ⟨A, c, B, d, h0, h1, h2, h3, h4⟩ := h
  exact ⟨A, c, B, d, h0, h1, h2, Kd.C_below h3 hb, Kd.C_below h4 hb⟩
theorem keepD {w0 w1 w2 : World} {p0 p1 : Addr} {v0 v1 : Value} (h : w1.cell? p0 = some v0 ∧ w1.cell? p1 = some v1 ∧ Aside0 (Below w0.heap.size w0 w1)) (hb : Below w1.heap.size w1 w2) :
    w2.cell? p0 = some v0 ∧ w2.cell? p1 = some v1 ∧ Aside0 (Below w0.heap.size w0 w2) := ⟨pw_cell_below hb h.1, pw_cell_below hb h.2.1, ⟨below_s hb h.2.2.out⟩⟩
theorem keepDF {w0 w1 w2 : World} {g gr : Nat} {v v0 v1 : Value} (h : w1.cell? ⟨g, 0, none⟩ = some v0 ∧ w1.cell? ⟨g, 1, none⟩ = some v1 ∧ Aside0 (Below w0.heap.size w0 w1)) (hf : Fr w0 w1 gr v w2) (h1 : g ≠ gr) (h2 : some g ≠ v.ownBlock) :
    w2.cell? ⟨g, 0, none⟩ = some v0 ∧ w2.cell? ⟨g, 1, none⟩ = some v1 ∧ Aside0 (Below w0.heap.size w0 w2) := ⟨cell_keepBut hf.2 h.1 h1 h2, cell_keepBut hf.2 h.2.1 h1 h2, ⟨hf.1⟩⟩
theorem keepE {w0 w1 w2 : World} {p0 p1 p2 p3 : Addr} {v0 v1 v2 v3 : Value} (h : (w1.cell? p0 = some v0 ∧ w1.cell? p1 = some v1 ∧ w1.cell? p2 = some v2 ∧ w1.cell? p3 = some v3) ∧ Aside0 (Below w0.heap.size w0 w1)) (hb : Below w1.heap.size w1 w2) :
    (w2.cell? p0 = some v0 ∧ w2.cell? p1 = some v1 ∧ w2.cell? p2 = some v2 ∧ w2.cell? p3 = some v3) ∧ Aside0 (Below w0.heap.size w0 w2) := ⟨⟨pw_cell_below hb h.1.1, pw_cell_below hb h.1.2.1, pw_cell_below hb h.1.2.2.1, pw_cell_below hb h.1.2.2.2⟩, ⟨below_s hb h.2.out⟩⟩
theorem keepES {w0 w1 W : World} {g g2 : Nat} {v0 v1 v2 v3 x y z : Value} (hg : g ≠ g2) (hB : w0.heap.size ≤ g2) (h : (w1.cell? ⟨g, 0, none⟩ = some v0 ∧ w1.cell? ⟨g, 1, none⟩ = some v1 ∧ w1.cell? ⟨g, 2, none⟩ = some v2 ∧ w1.cell? ⟨g, 3, none⟩ = some v3) ∧ Aside0 (Below w0.heap.size w0 w1))
    (hW : W = ((w1.setCell ⟨g2, 0, none⟩ x).setCell ⟨g2, 1, none⟩ y).setCell ⟨g2, 2, none⟩ z) :
    (W.cell? ⟨g, 0, none⟩ = some v0 ∧ W.cell? ⟨g, 1, none⟩ = some v1 ∧ W.cell? ⟨g, 2, none⟩ = some v2 ∧ W.cell? ⟨g, 3, none⟩ = some v3) ∧ Aside0 (Below w0.heap.size w0 W) := by
  subst hW
  obtain ⟨⟨h1, h2, h3, h4⟩, h7⟩ := h
  have hg' : g2 ≠ g := hg.symm
  refine ⟨⟨?_, ?_, ?_, ?_⟩, ⟨below_set (below_set (below_set h7.out hB) hB) hB⟩⟩ <;> simp [World.cell?_setCell_other, hg, hg', h1, h2, h3, h4]
set_option maxRecDepth 100000 in
set_option maxHeartbeats 1000000 in
theorem w_LDeliver (L : LayV) (lv : Value) (m : Rat) (w : World) (hL : IsLay w lv L) (hk : DelOk L m) :
    Calls Tryz.prog 48 #[lv, RQ m] w fun e w' => ∃ v, e = .returned (.tuple #[v, RQ (deliverOf L m).reserve]) ∧ kQ.R 23 w' w.heap.size (fun _ => True) v (deliverOf L m).claims ∧ Below w.heap.size w w' := by
  obtain ⟨A, c, B, d, rfl, hc, hd, hA, hB⟩ := hL
  have GR := Aside0.mk (fun (w' : World) h => w_LGross L.count L.ranks m L.total A c B L.pools.length d w' hk.n h hc hk.gross)
  rw [show ((zerosQ L.count).adds (paysOf L.ranks m)).claims = grossOf L m from rfl] at GR
  have hgl := gross_len L m
  have TK := Aside0.mk (fun (A' : Option Addr) (c' : Nat) (w' : World) h1 h2 h3 => w_take L.pools (grossOf L m) L.count L.total A L.ranks.length c B d A' c' w' h1 hd h2 h3 (by rw [hgl]; exact hk.n) (by rw [hgl]; exact hk.mem))
  rw [show ResV.mk (zeros (grossOf L m) (flatM L.pools L.pools.length)) 0 = takeOf L m from rfl] at TK
  have HK := Aside0.mk hk
  have HA := Aside0.mk hA
  have HBB := Aside0.mk hB
  have hmx := hB.2.1
  have HDL := Lib.hid (show deliverOf L m = deliverAll L.pools (grossOf L m) L.pools.length (takeOf L m) from rfl)
  have HMEM := Aside0.mk (show ∀ p ∈ L.pools, ∀ i ∈ p.members, 0 ≤ i ∧ i < ((grossOf L m).length : Int) by rw [hgl]; exact hk.mem)
  have HTOT := Aside0.mk hk.tots
  have HPAY := Aside0.mk hk.pays
  have HOG := Aside0.mk hk.okg
  clear hA hB hgl hk HK
  obtain ⟨t1, t2, t3, tB⟩ := three w (.cells #[.int .i64 L.count, .slice A L.ranks.length c, .slice B L.pools.length d, .bool (canS L.total), .string (canN L.total), .string (canD L.total)] 91) (.cells #[.bool (canS m), .string (canN m), .string (canD m)] 23) (.cells #[.bool false, .string ⟨#[]⟩, .string ⟨#[]⟩] 23) 0
  rw [show ∀ w : World, w.drewN 0 = w from fun _ => rfl] at t1 t2 t3 tB
  have N1 := Lib.hid t1
  have N2 := Lib.hid t2
  have N3 := Lib.hid t3
  have NB := Aside0.mk tB
  clear t1 t2 t3 tB
  simp only [RQ] at GR ⊢
  generalize takeOf L m = r0 at *
  generalize grossOf L m = g at *
  generalize deliverOf L m = out at *
  generalize L.ranks = ranks at *
  generalize L.pools = ps at *
  generalize L.count = n at *
  generalize L.total = tot at *
  generalize canS tot = tS at *
  generalize canN tot = tN at *
  generalize canD tot = tD at *
  generalize canS m = mS at *
  generalize canN m = mN at *
  generalize canD m = mD at *
  go_enter Tryz.func48, Tryz.ntmps48
  obtain ⟨wl, hwl⟩ : ∃ wl, wl = (((w.alloc (.cells #[.int .i64 n, .slice A ranks.length c, .slice B ps.length d, .bool tS, .string tN, .string tD] 91)).alloc (.cells #[.bool mS, .string mN, .string mD] 23)).alloc (.cells #[.bool false, .string ⟨#[]⟩, .string ⟨#[]⟩] 23)) := ⟨_, rfl⟩
  rw [← hwl] at N1 N2 N3 NB
  have a0 := blk_cell N1.out 0
  have a1 := blk_cell N1.out 1
  have a2 := blk_cell N1.out 2
  have a3 := blk_cell N1.out 3
  have a4 := blk_cell N1.out 4
  have a5 := blk_cell N1.out 5
  obtain ⟨⟨b0, b1, b2⟩, -⟩ := cells3 N2.out
  simp only [hwl] at a0 a1 a2 a3 a4 a5 b0 b1 b2
  go_wp2_with (fail)
  rw [← hwl]
  clear hwl a0 a1 a2 a3 a4 a5 b0 b1 b2
  refine (GR.out _ (Kd.C_below HA.out NB.out)).mono ?_
  rintro e w1 ⟨v1, rfl, hr1, hb1⟩
  obtain ⟨A3, n3, rfl, hn3, hC3⟩ := Kd.R_reads hr1
  have M1 := Lib.hid (heap_b hb1 N1.out)
  have M3 := Lib.hid (heap_b hb1 N3.out)
  have MB := Aside0.mk (below_s hb1 NB.out)
  have HG := Aside0.mk hC3
  have a0 := blk_cell M1.out 0
  have a1 := blk_cell M1.out 1
  have a2 := blk_cell M1.out 2
  have a3 := blk_cell M1.out 3
  have a4 := blk_cell M1.out 4
  have a5 := blk_cell M1.out 5
  clear N1 N2 N3 NB hr1 hC3 hb1 GR
  go_wp2_with (fail)
  refine (TK.out A3 n3 w1 (Kd.C_below HBB.out MB.out) HG.out hn3).mono ?_
  rintro e w2 ⟨gr, v, rfl, hO2, hb2⟩
  have HPC := Aside0.mk (Kd.C_below HBB.out MB.out)
  have L1 := Lib.hid (heap_b hb2 M1.out)
  have L3 := Lib.hid (heap_b hb2 M3.out)
  have hsz3 := Lib.hid (blk_lt M3.out)
  have HB2 := Aside0.mk hb2
  have HO2 := Aside0.mk hO2
  obtain ⟨A6, c6, rfl⟩ := Kd.R_slice hO2.2.2
  clear a0 a1 a2 a3 a4 a5 hO2 hb2 TK HBB HA M1
  have a2 := blk_cell L1.out 2
  go_wp2
  clear a2
  go_loopw [19] (fun v19 w' => ∃ j : Nat, j ≤ ps.length ∧ v19 = .int .i64 j ∧ Aside0 (OwnR w' w1.heap.size gr (.slice A6 r0.claims.length c6) (deliverAll ps g j r0)) ∧ Aside0 (Below w1.heap.size w1 w')) (fun v19 _ => ps.length - (intOf v19).toNat)
  case atStart => exact ⟨0, Nat.zero_le _, rfl, HO2, HB2⟩
  case round =>
    clear HO2 HB2
    obtain ⟨j, hj, rfl, hO, hF⟩ := hrel
    rcases Nat.lt_or_ge j ps.length with hlt | hge
    · obtain ⟨ad, v, u, rfl, ⟨A4, c4, rfl, hc4, hC4⟩, ⟨A5, c5, rfl, hc5, hC5⟩, x0, x1⟩ := at_Pool HPC.out hlt
      replace x0 := pw_cell_below hF.out x0
      replace x1 := pw_cell_below hF.out x1
      have hp0 : (0 : Int) ≤ (j : Int) := by omega
      have hp1 : (j : Int) < (ps.length : Int) := by omega
      have HSU := Lib.hid (deliverAll_succ ps g r0 hlt)
      have TT := Aside0.mk (fun (w' : World) (hb : Below w1.heap.size w1 w') => w_total (rdPool ps j).members g A4 c4 A5 (rdPool ps j).ladder.length c5 A3 n3 w' (Kd.C_below hC4 hb) hc4 (Kd.C_below HG.out hb) hn3 (HMEM.out _ (rdPool_mem hlt)) HOG.out (HTOT.out _ (rdPool_mem hlt)))
      have PY := Aside0.mk (fun (w' : World) h1 h2 => w_pay (deliverAll ps g j r0) (rdPool ps j).ladder (totalOf (rdPool ps j).members g) A5 c5 gr (.slice A6 r0.claims.length c6) w1 w' h1 h2 hC5 hc5 (HPAY.out j hlt))
      simp only [RQ] at TT PY
      clear hC4 hC5
      generalize paysOf (rdPool ps j).ladder (totalOf (rdPool ps j).members g) = pys at *
      generalize totalOf (rdPool ps j).members g = tq at *
      generalize (rdPool ps j).members.length = n4 at *
      generalize (rdPool ps j).ladder.length = n5 at *
      generalize deliverAll ps g j r0 = rj at *
      generalize canS tq = qS at *
      generalize canN tq = qN at *
      generalize canD tq = qD at *
      have h3 := below_alloc (Below.refl wr.heap.size wr) (.cells #[.slice A4 n4 c4, .slice A5 n5 c5] 127)
      have P1 := heap_new wr (.cells #[.slice A4 n4 c4, .slice A5 n5 c5] 127)
      have PF := Aside0.mk (below_s h3 hF.out)
      have PO := Aside0.mk (hO.out.below h3)
      have hlt3 := hO.out.lt
      have hp3 : wr.heap.size ≠ gr := by have := hlt3.1; omega
      have hp4 := Aside0.mk (own_ne_lt hlt3.2 (Nat.le_refl _))
      clear h3 hF hO hlt3
      go_wp2_with (fail)
      obtain ⟨ws, hws⟩ : ∃ ws, ws = wr.alloc (.cells #[.slice A4 n4 c4, .slice A5 n5 c5] 127) := ⟨_, rfl⟩
      rw [← hws] at P1 PF PO
      rw [← hws]
      clear hws x0 x1
      have S0 := Lib.hid (And.intro (blk_cell P1 0) (And.intro (blk_cell P1 1) PF))
      clear P1
      go_region_held3 (fun w' => w'.cell? ⟨wr.heap.size, 0, none⟩ = some (.slice A4 n4 c4) ∧ w'.cell? ⟨wr.heap.size, 1, none⟩ = some (.slice A5 n5 c5) ∧ Aside0 (Below w1.heap.size w1 w'))
        (first | exact keepD S0.out (pw_below_drewN (Below.refl _ _) 1) | exact keepD (by assumption) (by assumption) | exact keepDF (by assumption) (by assumption) hp3 hp4.out)
        (first | (go_at_call 85; refine (TT.out _ (PF.out.trans (pw_below_drewN (Below.refl _ _) 1))).mono ?_; rintro e w3 ⟨rfl, hb3⟩; have PO3 := Aside0.mk ((PO.out.below (pw_below_drewN (Below.refl _ _) 1)).below hb3); have PF3 := Aside0.mk (below_s hb3 (below_drew PF.out))) | (go_at_call 84; refine (PY.out _ PO3.out PF3.out).mono ?_; rintro e w4 ⟨rfl, ho4, hf4⟩; have PO4 := Aside0.mk ho4; clear ho4))
      rename_i hS9
      go_wp2
      go_roundw
      case measure => simp [intOf]; omega
      case rel => exact ⟨j + 1, hlt, by go_num, by rw [HSU.out]; exact PO4, hS9.2.2⟩
    · obtain rfl : j = ps.length := by omega
      rw [← HDL.out] at hO
      obtain ⟨g1, g2, g3⟩ := hO.out
      have HR := Aside0.mk g3
      have HLT := hO.out.lt
      obtain ⟨s0, s1, s2, s3⟩ := (cells4 g1).1
      have HFW := Aside0.mk (below_s hF.out MB.out)
      have S0 := Lib.hid (And.intro (And.intro s0 (And.intro s1 (And.intro s2 s3))) HFW)
      obtain ⟨⟨d0, d1, d2⟩, d3, d4, d5⟩ := cells3 (heap_b hF.out M3.out)
      have hne : gr ≠ w.heap.size + 1 + 1 := by have := hsz3.out; omega
      have hne2 : some (w.heap.size + 1 + 1) ≠ (Value.slice A6 r0.claims.length c6).ownBlock := fun e => by
        have := Kd.R_base g3 _ e.symm
        have := hsz3.out
        omega
      have hws := MB.out.size
      obtain ⟨rS, hrS⟩ : ∃ s, s = canS out.reserve := ⟨_, rfl⟩
      obtain ⟨rN, hrN⟩ : ∃ s, s = canN out.reserve := ⟨_, rfl⟩
      obtain ⟨rD, hrD⟩ : ∃ s, s = canD out.reserve := ⟨_, rfl⟩
      rw [← hrS, ← hrN, ← hrD] at S0
      have HRR := Lib.hid (And.intro hrS (And.intro hrN hrD))
      clear hO hF g1 g3 HLT s0 s1 s2 s3 hrS hrN hrD
      go_wp2_with (fail)
      go_region_held3 (fun w' => (w'.cell? ⟨gr, 0, none⟩ = some (.slice A6 r0.claims.length c6) ∧ w'.cell? ⟨gr, 1, none⟩ = some (.bool rS) ∧ w'.cell? ⟨gr, 2, none⟩ = some (.string rN) ∧ w'.cell? ⟨gr, 3, none⟩ = some (.string rD)) ∧ Aside0 (Below w.heap.size w w'))
        (first | exact keepE S0.out (pw_below_drewN (Below.refl _ _) 1) | exact keepES hne (by omega) (by assumption) rfl)
        (fail)
      rename_i hS9
      go_wp2_with (fail)
      refine bodyPost_ret (v := .tuple #[.slice A6 r0.claims.length c6, RV rS rN rD]) ?_ rfl ⟨_, by rw [HRR.out.1, HRR.out.2.1, HRR.out.2.2], ?_, hS9.2.out⟩
      · exact results_tq rfl _ _ (w.heap.size + 1 + 1) rfl (by rfl) (by go_simp) (by go_simp) (by go_simp)
      · exact Kd.R_lower (R_setfar rfl (R_setfar rfl (R_setfar rfl (Kd.R_drew HR.out) hne2 _ _) hne2 _ _) hne2 _ _) hws
end Go.Proofs.YtnimgfnknlkkdaaGreatDoor.H
