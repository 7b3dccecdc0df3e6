import Derived.Test.YtnimgfnknlkkdaaGreatDoorK9
import Derived.Test.YtnimgfnknlkkdaaGreatDoorK7
import Derived.Deep.Slices
import Derived.Deep.Strs
import Derived.ProofKit
set_option linter.unusedVariables false
set_option linter.unusedSimpArgs false
open Go
namespace Go.Proofs.YtnimgfnknlkkdaaGreatDoor.H
open Go Go.RowKit Go.Proofs.YtnimgfnknlkkdaaGreatDoorW.PrintWords Go.Proofs.YtnimgfnknlkkdaaGreatDoorW.PrintLast Go.Proofs.YtnimgfnknlkkdaaGreatDoorW.PrintMore Go.Proofs.YtnimgfnknlkkdaaGreatDoor.Num
set_option maxRecDepth 100000 in
set_option maxHeartbeats 1000000 in
theorem ref_CheckEstate (cash : RatF) (cs : List ClaimV) (gs : List (List (List PartV))) (A : Option Addr) (c : Nat) (B : Option Addr) (d : Nat) (w : World) (hR : ReadsE w cash cs gs A c B d) (hS : ShortE cash cs gs) :
    Calls Tryz.prog 17 #[EV cash A cs.length c B gs.length d] w fun e w' => e = .returned (.int .i64 (estErr cash cs gs)) ∧ Below w.heap.size w w' := by
  have HR := Aside0.mk hR
  have HS := Aside0.mk hS
  have hm1 := hR.rc.2.1
  have hm2 := hR.rg.2.1
  have SC := Lib.hid (fun w => ref_Sign cash.neg cash.num cash.den w hS.cash.1 hS.cash.2)
  have hsg : (rq cash.neg cash.num cash.den).num.sign = cash.sg := rfl
  rw [hsg] at SC
  have HE0 := Lib.hid (show estErr cash cs gs = if 24 < cs.length ∨ 12 < gs.length then 2 else if cash.sg < 0 then 7 else if firstErr (cs.map claimErr) ≠ 0 then firstErr (cs.map claimErr) else firstErr ((List.range gs.length).map (fun k => agrErr cs.length (takenB gs k) (rowAt gs k))) from rfl)
  clear hsg hR hS
  unfold EV
  generalize estErr cash cs gs = r at *
  generalize cash.sg = sg0 at *
  generalize hn0 : cash.neg = neg0 at *
  generalize hn1 : cash.num = num0 at *
  generalize hn2 : cash.den = den0 at *
  have HCN := Lib.hid (And.intro hn0 (And.intro hn1 hn2))
  clear hn0 hn1 hn2
  by_cases h24 : 24 < cs.length
  · have g : (24 : Int) < (cs.length : Int) := by omega
    have R := Lib.hid (show r = 2 by rw [HE0.out, if_pos (.inl h24)])
    clear h24 HE0
    go_enter Tryz.func17, Tryz.ntmps17
    go_wp2
    go_ret
    exact ⟨ret_i R.out.symm, below_alloc (Below.refl _ _) _⟩
  by_cases h12 : 12 < gs.length
  · have g : ¬ (24 : Int) < (cs.length : Int) := by omega
    have g2 : (12 : Int) < (gs.length : Int) := by omega
    have R := Lib.hid (show r = 2 by rw [HE0.out, if_pos (.inr h12)])
    clear h24 h12 HE0
    go_enter Tryz.func17, Tryz.ntmps17
    go_wp2
    go_ret
    exact ⟨ret_i R.out.symm, below_alloc (Below.refl _ _) _⟩
  have g : ¬ (24 : Int) < (cs.length : Int) := by omega
  have g2 : ¬ (12 : Int) < (gs.length : Int) := by omega
  have HE1 := Lib.hid (show r = if sg0 < 0 then 7 else if firstErr (cs.map claimErr) ≠ 0 then firstErr (cs.map claimErr) else firstErr ((List.range gs.length).map (fun k => agrErr cs.length (takenB gs k) (rowAt gs k))) by rw [HE0.out, if_neg (by omega)])
  have hcl : cs.length ≤ 24 := by omega
  have hgl : gs.length ≤ 12 := by omega
  have HX0 := Aside0.mk (heap_new w (.cells #[.bool neg0, .string num0, .string den0, .slice A cs.length c, .slice B gs.length d] 27))
  have HW0 := Aside0.mk (below_alloc (Below.refl w.heap.size w) (.cells #[.bool neg0, .string num0, .string den0, .slice A cs.length c, .slice B gs.length d] 27))
  clear h24 h12 HE0
  by_cases hs0 : sg0 < 0
  · have R := Lib.hid (show r = 7 by rw [HE1.out, if_pos hs0])
    clear HE1
    go_enter Tryz.func17, Tryz.ntmps17
    go_wp2_with (go_at_call 44; refine (SC.out _).mono ?_; rintro e w2 ⟨rfl, hb2⟩; have HBW2 := Aside0.mk (below_s hb2 HW0.out); clear hb2)
    go_ret
    exact ⟨ret_i R.out.symm, HBW2.out⟩
  have HE := Lib.hid (show r = if firstErr (cs.map claimErr) ≠ 0 then firstErr (cs.map claimErr) else firstErr ((List.range gs.length).map (fun k => agrErr cs.length (takenB gs k) (rowAt gs k))) by rw [HE1.out, if_neg hs0])
  clear HE1
  go_enter Tryz.func17, Tryz.ntmps17
  go_wp2_with (go_at_call 44; refine (SC.out _).mono ?_; rintro e w2 ⟨rfl, hb2⟩; have HBW2 := Aside0.mk (below_s hb2 HW0.out); have HBX2 := Aside0.mk (heap_b hb2 HX0.out); obtain ⟨a0, a1, a2, a3, a4⟩ := cells5 HBX2.out; clear hb2)
  clear hs0 HW0 HX0 g g2
  go_loopw [3] (fun v30 w' => ∃ i : Nat, i ≤ cs.length ∧ v30 = .int .i64 i ∧ Aside0 (∀ k, k < i → claimErr (rdC cs k) = 0) ∧ Aside0 (w'.heap[w.heap.size]? = some (.cells #[.bool neg0, .string num0, .string den0, .slice A cs.length c, .slice B gs.length d] 27)) ∧ Aside0 (Below w.heap.size w w')) (fun v30 _ => cs.length - (intOf v30).toNat)
  case atStart => exact ⟨0, Nat.zero_le _, rfl, ⟨fun k hk => by omega⟩, HBX2, HBW2⟩
  case round =>
    clear HBX2 HBW2 a0 a1 a2 a3 a4
    obtain ⟨i, hi, rfl, hA, hX, hb⟩ := hrel
    obtain ⟨a0, a1, a2, a3, a4⟩ := cells5 hX.out
    rcases Nat.lt_or_ge i cs.length with hlt | hge
    · obtain ⟨ad, rfl, x0, x1, x2, x3, x4⟩ := at_Claim (HR.out.below hb.out).rc hlt
      have hp0 : (0 : Int) ≤ (i : Int) := by omega
      have hp1 : (i : Int) < (cs.length : Int) := by omega
      have PA := Aside0.mk (fun h => firstErr_map_at (f := claimErr) (d := zClaim) hlt hA.out h)
      obtain ⟨s1, s2⟩ := HS.out.cl _ (rdC_mem hlt)
      obtain ⟨p, hpp⟩ : ∃ p, p = rdC cs i := ⟨_, rfl⟩
      rw [show cs.getD i zClaim = rdC cs i from rfl] at PA
      rw [← hpp] at x0 x1 x2 x3 x4 PA s1 s2
      have HPP := Lib.hid hpp.symm
      clear hpp
      have HP := Lib.hid (show claimErr p = (if p.holder < -1 ∨ 8 ≤ p.holder then 19 else if p.rank < 0 ∨ 7 < p.rank then 1 else if p.amount.sg < 0 then 7 else 0) from rfl)
      have SG := Lib.hid (fun w => ref_Sign p.amount.neg p.amount.num p.amount.den w s1 s2)
      have hsg : (rq p.amount.neg p.amount.num p.amount.den).num.sign = p.amount.sg := rfl
      rw [hsg] at SG
      clear s1 s2 hsg
      have HBW := Aside0.mk (below_alloc hb.out (.cells #[.int .i64 p.holder, .int .i64 p.rank, .bool p.amount.neg, .string p.amount.num, .string p.amount.den] 50))
      have HBX := Aside0.mk (heap_old (o := .cells #[.int .i64 p.holder, .int .i64 p.rank, .bool p.amount.neg, .string p.amount.num, .string p.amount.den] 50) hX.out)
      clear hb hX
      generalize p.holder = ph at *
      generalize p.rank = pr at *
      generalize p.amount.sg = sg at *
      generalize p.amount.neg = neg at *
      generalize p.amount.num = num at *
      generalize p.amount.den = den at *
      by_cases h1 : ph < -1
      · have R := Lib.hid (show claimErr p = 19 by rw [HP.out]; simp [h1])
        clear HP
        go_wp2
        go_ret
        exact ⟨ret_i (by rw [HE.out, PA.out (by rw [R.out]; decide), if_pos (by rw [R.out]; decide), R.out]), HBW.out⟩
      by_cases h2 : 8 ≤ ph
      · have R := Lib.hid (show claimErr p = 19 by rw [HP.out]; simp [h1, h2])
        clear HP
        go_wp2
        go_ret
        exact ⟨ret_i (by rw [HE.out, PA.out (by rw [R.out]; decide), if_pos (by rw [R.out]; decide), R.out]), HBW.out⟩
      by_cases h3 : pr < 0
      · have R := Lib.hid (show claimErr p = 1 by rw [HP.out]; simp [h1, h2, h3])
        clear HP
        go_wp2
        go_ret
        exact ⟨ret_i (by rw [HE.out, PA.out (by rw [R.out]; decide), if_pos (by rw [R.out]; decide), R.out]), HBW.out⟩
      by_cases h4 : 7 < pr
      · have R := Lib.hid (show claimErr p = 1 by rw [HP.out]; simp [h1, h2, h3, h4])
        clear HP
        go_wp2
        go_ret
        exact ⟨ret_i (by rw [HE.out, PA.out (by rw [R.out]; decide), if_pos (by rw [R.out]; decide), R.out]), HBW.out⟩
      by_cases h5 : sg < 0
      · have R := Lib.hid (show claimErr p = 7 by rw [HP.out]; simp [h1, h2, h3, h4, h5])
        clear HP
        go_wp2_with (go_at_call 44; refine (SG.out _).mono ?_; rintro e w2 ⟨rfl, hb2⟩; have HBW2 := Aside0.mk (below_s hb2 HBW.out); have HBX2 := Aside0.mk (heap_b hb2 HBX.out); clear HBW hb2 HBX)
        go_ret
        exact ⟨ret_i (by rw [HE.out, PA.out (by rw [R.out]; decide), if_pos (by rw [R.out]; decide), R.out]), HBW2.out⟩
      · have R := Lib.hid (show claimErr p = 0 by rw [HP.out]; simp [h1, h2, h3, h4, h5])
        clear HP
        go_wp2_with (go_at_call 44; refine (SG.out _).mono ?_; rintro e w2 ⟨rfl, hb2⟩; have HBW2 := Aside0.mk (below_s hb2 HBW.out); have HBX2 := Aside0.mk (heap_b hb2 HBX.out); clear HBW hb2 HBX)
        go_roundw
        case measure => simp [intOf]; omega
        case rel => exact ⟨i + 1, hlt, by go_num, ⟨fun k hk => by
          rcases Nat.lt_or_ge k i with h2 | h2
          · exact hA.out k h2
          · obtain rfl : k = i := by omega
            rw [HPP.out]; exact R.out⟩, HBX2, HBW2⟩
    · obtain rfl : i = cs.length := by omega
      have HE2 := Lib.hid (show r = firstErr ((List.range gs.length).map (fun k => agrErr cs.length (takenB gs k) (rowAt gs k))) by rw [HE.out, if_neg (by rw [firstErr_map_zero (d := zClaim) hA.out]; simp)])
      clear HE hA
      obtain ⟨wo, hwo⟩ : ∃ wo, wo = wr := ⟨_, rfl⟩
      subst hwo
      go_wp2
      go_loopw [5] (fun v5 w' => ∃ (j : Nat), j ≤ gs.length ∧ v5 = .int .i64 j ∧ Aside0 (∀ k, k < j → agrErr cs.length (takenB gs k) (rowAt gs k) = 0) ∧ Aside0 (w'.heap[w.heap.size]? = some (.cells #[.bool neg0, .string num0, .string den0, .slice A cs.length c, .slice B gs.length d] 27)) ∧ Aside0 (Below w.heap.size w w')) (fun v5 _ => gs.length - (intOf v5).toNat)
      case atStart => exact ⟨0, Nat.zero_le _, rfl, ⟨fun k hk => by omega⟩, hX, hb⟩
      case round =>
        clear hX hb a0 a1 a2 a3 a4
        obtain ⟨j, hj, rfl, hA, hX, hb⟩ := hrel
        obtain ⟨a0, a1, a2, a3, a4⟩ := cells5 hX.out
        rcases Nat.lt_or_ge j gs.length with hlt | hge
        · have PA := Aside0.mk (fun h => agrs_at (f := fun k => agrErr cs.length (takenB gs k) (rowAt gs k)) hlt hA.out h)
          have AG := Lib.hid (ref_agreement cash cs gs A c B d j wr (HR.out.below hb.out) hlt (HS.out.ag _ (rowAt_mem hlt)).2)
          unfold EV at AG
          rw [HCN.out.1, HCN.out.2.1, HCN.out.2.2] at AG
          generalize hE : agrErr cs.length (takenB gs j) (rowAt gs j) = E at *
          have HEE := Lib.hid hE
          clear hE
          by_cases hE0 : E = 0
          · have g : (E != 0) = false := by simp [hE0]
            have HE0 := Lib.hid hE0
            clear hE0
            go_wp2_with (go_at_call 45; refine AG.out.mono ?_; rintro e w2 ⟨rfl, hb2⟩; have HBW2 := Aside0.mk (below_s hb2 hb.out); have HBX2 := Aside0.mk (heap_b hb2 hX.out); clear hb2)
            go_roundw
            case measure => simp [intOf]; omega
            case rel => exact ⟨j + 1, hlt, by go_num, ⟨fun k hk => by
              rcases Nat.lt_or_ge k j with h2 | h2
              · exact hA.out k h2
              · obtain rfl : k = j := by omega
                rw [HEE.out]; exact HE0.out⟩, HBX2, HBW2⟩
          · have g : (E != 0) = true := by simp [hE0]
            have R := Lib.hid (show r = E by rw [HE2.out, PA.out hE0])
            clear hE0
            go_wp2_with (go_at_call 45; refine AG.out.mono ?_; rintro e w2 ⟨rfl, hb2⟩; have HBW2 := Aside0.mk (below_s hb2 hb.out); clear hb2)
            go_ret
            exact ⟨ret_i R.out.symm, HBW2.out⟩
        · obtain rfl : j = gs.length := by omega
          have R := Lib.hid (show r = 0 by rw [HE2.out]; exact agrs_zero hA.out)
          go_wp2
          go_ret
          exact ⟨ret_i R.out.symm, hb.out⟩
end Go.Proofs.YtnimgfnknlkkdaaGreatDoor.H
set_option linter.unusedVariables false
set_option linter.unusedSimpArgs false
open Go
namespace Go.Proofs.YtnimgfnknlkkdaaGreatDoor.H
open Go Go.RowKit Go.Proofs.YtnimgfnknlkkdaaGreatDoorW.PrintWords Go.Proofs.YtnimgfnknlkkdaaGreatDoorW.PrintLast Go.Proofs.YtnimgfnknlkkdaaGreatDoorW.PrintMore Go.Proofs.YtnimgfnknlkkdaaGreatDoor.Num
/-! law 17: WaterfallCheck -/
theorem few_small {r : RatF} (h : r.few) : r.small 549755813888 := ⟨Nat.le_trans h.1 (by decide), Nat.le_trans h.2 (by decide)⟩
theorem flatten_len {α : Type} : ∀ (ts : List (List α)), (∀ k, k < ts.length → (rowAt ts k).length ≤ 30) → ts.flatten.length ≤ 30 * ts.length
  | [], _ => by simp
  | t :: ts, h => by
    have h0 := h 0 (by simp)
    have h1 := flatten_len ts (fun k hk => h (k + 1) (by simp; omega))
    rw [List.flatten_cons, List.length_append, List.length_cons]
    have h2 : t.length ≤ 30 := h0
    omega
theorem mem_rowAt {α : Type} {ts : List (List α)} {p : List α} (h : p ∈ ts) : ∃ k, k < ts.length ∧ rowAt ts k = p := by
  obtain ⟨k, hk, e⟩ := List.getElem_of_mem h
  exact ⟨k, hk, by rw [rowAt, List.getD_eq_getElem?_getD, List.getElem?_eq_getElem hk, Option.getD_some, e]⟩
theorem FewE.short {cash : RatF} {cs : List ClaimV} {gs : List (List (List PartV))} (h : FewE cash cs gs) : ShortE cash cs gs := by
  refine ⟨few_small h.cash, fun c hc => ?_, fun g hg => ⟨?_, fun q hq => ?_⟩⟩
  · obtain ⟨i, hi, e⟩ := List.getElem_of_mem hc
    have h1 := h.cl i hi
    rw [rdC, List.getD_eq_getElem?_getD, List.getElem?_eq_getElem hi, Option.getD_some, e] at h1
    exact few_small h1
  · obtain ⟨j, hj, e⟩ := mem_rowAt hg
    have h1 := h.np j hj
    have h2 := h.nt j hj
    rw [e] at h1 h2
    have h3 := flatten_len g h1
    omega
  · obtain ⟨j, hj, e⟩ := mem_rowAt hg
    have h1 := h.cap j hj
    rw [e] at h1
    obtain ⟨p, hp, hqp⟩ := List.mem_flatten.1 hq
    obtain ⟨k, hk, e2⟩ := mem_rowAt hp
    have h2 := h1 k hk
    rw [e2] at h2
    obtain ⟨i, hi, e3⟩ := List.getElem_of_mem hqp
    have h3 := h2 i hi
    rw [rdP, List.getD_eq_getElem?_getD, List.getElem?_eq_getElem hi, Option.getD_some, e3] at h3
    exact few_small h3
set_option maxRecDepth 100000 in
set_option maxHeartbeats 1000000 in
theorem lw_WaterfallCheck (cash : RatF) (cs : List ClaimV) (gs : List (List (List PartV))) (A : Option Addr) (c : Nat) (B : Option Addr) (d : Nat) (w : World) (hR : ReadsE w cash cs gs A c B d) :
    Calls Tryz.prog 3 #[EV cash A cs.length c B gs.length d] w fun e w' => e = .returned (.bool true) ∧ Below w.heap.size w w' := by
  have FW := Aside0.mk (fun (w' : World) (hb : Below w.heap.size w w') => lw_Few cash cs gs A c B d w' (hR.below hb))
  have AW := Lib.hid (fun w' => lw_awake w')
  have C1 := Aside0.mk (fun (w' : World) (hb : Below w.heap.size w w') (hS : ShortE cash cs gs) => w_Check cash cs gs A c B d w' (hR.below hb) hS)
  have C2 := Aside0.mk (fun (w' : World) (hb : Below w.heap.size w w') (hS : ShortE cash cs gs) => ref_CheckEstate cash cs gs A c B d w' (hR.below hb) hS)
  clear hR
  simp only [EV] at FW C1 C2 ⊢
  have SH := Lib.hid (fun (h : FewE cash cs gs) => h.short)
  generalize estErr cash cs gs = code at *
  have N1 := Lib.hid (heap_new w (.cells #[.bool cash.neg, .string cash.num, .string cash.den, .slice A cs.length c, .slice B gs.length d] 27))
  have NB := Aside0.mk (below_alloc (Below.refl w.heap.size w) (.cells #[.bool cash.neg, .string cash.num, .string cash.den, .slice A cs.length c, .slice B gs.length d] 27))
  generalize cash.neg = neg0 at *
  generalize cash.num = num0 at *
  generalize cash.den = den0 at *
  obtain ⟨wz, hwz⟩ : ∃ wz, wz = w.alloc (.cells #[.bool neg0, .string num0, .string den0, .slice A cs.length c, .slice B gs.length d] 27) := ⟨_, rfl⟩
  rw [← hwz] at N1 NB
  go_enter Tryz.func3, Tryz.ntmps3
  go_wp2_with (fail)
  rw [← hwz]
  clear hwz
  refine (FW.out _ NB.out).mono ?_
  rintro e w1 ⟨⟨b, rfl, hbt⟩, hb1⟩
  have M1 := Lib.hid (heap_b hb1 N1.out)
  have MB := Aside0.mk (below_s hb1 NB.out)
  have HBT := Lib.hid hbt
  clear hb1 N1 NB FW hbt
  cases b
  · go_wp2_with (fail)
    refine (AW.out _).mono ?_
    rintro e w2 ⟨rfl, hb2⟩
    go_wp2_with (fail)
    go_ret
    exact ⟨rfl, below_s hb2 MB.out⟩
  · have hS := SH.out (HBT.out rfl)
    have D1 := Aside0.mk (fun (w' : World) (hb : Below w.heap.size w w') => C1.out w' hb hS)
    have D2 := Aside0.mk (fun (w' : World) (hb : Below w.heap.size w w') => C2.out w' hb hS)
    clear HBT SH C1 C2 hS
    have S0 := Lib.hid (cells5 M1.out)
    go_wp2_with (fail)
    go_region_held3 (fun w' => w'.cell? ⟨w.heap.size, 0, none⟩ = some (.bool neg0) ∧ w'.cell? ⟨w.heap.size, 1, none⟩ = some (.string num0) ∧ w'.cell? ⟨w.heap.size, 2, none⟩ = some (.string den0) ∧ w'.cell? ⟨w.heap.size, 3, none⟩ = some (.slice A cs.length c) ∧ w'.cell? ⟨w.heap.size, 4, none⟩ = some (.slice B gs.length d))
      (first | exact keepV S0.out (pw_below_drewN (Below.refl _ _) 1) | exact cells5 L2.out | exact cells5 L3.out | exact cells5 L4.out)
      (first
        | (go_at_call 15; refine (AW.out _).mono ?_; rintro e w2 ⟨rfl, hb2⟩; have L2 := Lib.hid (heap_b hb2 (show w1.drew.heap[w.heap.size]? = _ from M1.out)); have LB := Aside0.mk (below_s hb2 (below_drew MB.out)); clear hb2)
        | (go_at_call 16; refine (D1.out _ LB.out).mono ?_; rintro e w3 ⟨rfl, hb3⟩; have L3 := Lib.hid (heap_b hb3 L2.out); have KB := Aside0.mk (below_s hb3 LB.out); clear hb3)
        | (go_at_call 17; refine (D2.out _ KB.out).mono ?_; rintro e w4 ⟨rfl, hb4⟩; have L4 := Lib.hid (heap_b hb4 L3.out); have JB := Aside0.mk (below_s hb4 KB.out); clear hb4))
    go_wp2_with (fail)
    go_ret
    exact ⟨rfl, JB.out⟩
end Go.Proofs.YtnimgfnknlkkdaaGreatDoor.H
set_option linter.unusedVariables false
set_option linter.unusedSimpArgs false
open Go
namespace Go.Proofs.YtnimgfnknlkkdaaGreatDoor.H
open Go Go.RowKit Go.Deep Go.ChangeShapes Go.WideShapes Go.Proofs.YtnimgfnknlkkdaaGreatDoorW.PrintWords Go.Proofs.YtnimgfnknlkkdaaGreatDoorW.PrintLast Go.Proofs.YtnimgfnknlkkdaaGreatDoorW.PrintMore Go.Proofs.YtnimgfnknlkkdaaGreatDoor.Num
/-! An argument that reads as data, opened by its kind. -/
section
variable {H : Type} (enc : TypeId × Value → H) (W : World) (base : Nat) (spare : Nat → Bool) (held : Bool)
def Opens {α : Type} (d : Kd α) (T : TypeId) : Prop := ∀ fuel cs x, DataW.trod enc Tryz.prog W base spare held fuel T cs = some x → ∃ a : α, d.K W a cs
variable {enc W base spare held}
theorem opens_int {k : IntKind} {T : TypeId} (ht : Tryz.prog.underlying T = some (.int k)) : Opens enc W base spare held (Kd.int k) T := by
  intro fuel cs x h
  obtain ⟨n, rfl, _, _⟩ := DataW.trod_int ht h
  exact ⟨n, rfl⟩
theorem addr_add (a : Addr) (x y : Nat) : (a.add x).add y = a.add (x + y) := by
  obtain ⟨b, o, m⟩ := a
  unfold Addr.add
  cases x <;> cases y <;> simp_all [Nat.add_assoc]
theorem opens_slice {α : Type} [Inhabited α] {d : Kd α} {T e : TypeId} (ht : Tryz.prog.underlying T = some (.slice e)) (hc : Tryz.prog.cellsOf e = d.sz) (hd : Opens enc W base spare held d e) : Opens enc W base spare held (Kd.slice e d) T := by
  intro fuel cs x h
  rcases open_slice ht h with ⟨rfl, _⟩ | ⟨a, len, cap, m, n, D, Pl, rfl, hb, hl, hm, hme, _, hel⟩
  · exact ⟨[], none, 0, rfl, Nat.le_refl _, Kd.C_nil _ _⟩
  · have h1 : ∀ i, ∃ y : α, i < len → ∃ cs', W.cells? base (a.add (i * d.sz)) d.sz = some cs' ∧ d.K W y cs' := fun i => by
      by_cases hi : i < len
      · obtain ⟨cs', hc1, ht1⟩ := hel i (by rw [hme]; split <;> omega)
        obtain ⟨y, hy⟩ := hd _ _ _ ht1
        rw [hc] at hc1
        exact ⟨y, fun _ => ⟨cs', hc1, hy⟩⟩
      · exact ⟨default, fun h => absurd h hi⟩
    obtain ⟨f, hf⟩ := Classical.axiomOfChoice h1
    have hl2 : ((List.range len).map f).length = len := by simp
    refine ⟨(List.range len).map f, some a, cap, by rw [hl2], by rw [hl2]; exact hl, rfl, ?_, fun _ => ⟨a, rfl, fun j p hj => ?_⟩⟩
    · rw [hl2]
      have : maxLen ≤ 9223372036854775807 := by decide
      omega
    · obtain ⟨hj1, hj2⟩ := List.getElem?_eq_some_iff.1 hj
      rw [List.getElem_map, List.getElem_range] at hj2
      rw [hl2] at hj1
      obtain ⟨cs', hc1, hK⟩ := hf j hj1
      rw [hj2] at hK
      obtain ⟨_, hln, hcell⟩ := World.cells?_some hc1
      refine ⟨cs', hln, hK, fun i u hu => ?_⟩
      have hi : i < d.sz := by have := (List.getElem?_eq_some_iff.1 hu).1; omega
      rw [← addr_add, hcell i hi]
      exact hu
theorem list3 {cs : List Value} (h : cs.length = 3) : ∃ a b c, cs = [a, b, c] := by
  match cs, h with
  | [a, b, c], _ => exact ⟨a, b, c, rfl⟩
theorem list5 {cs : List Value} (h : cs.length = 5) : ∃ a b c d e, cs = [a, b, c, d, e] := by
  match cs, h with
  | [a, b, c, d, e], _ => exact ⟨a, b, c, d, e, rfl⟩
theorem c_bool : Tryz.prog.cellsOf 4 = 1 := by kernel_rfl
theorem c_string : Tryz.prog.cellsOf 9 = 1 := by kernel_rfl
theorem c_int : Tryz.prog.cellsOf 3 = 1 := by kernel_rfl
theorem c_Rat : Tryz.prog.cellsOf 23 = 3 := by kernel_rfl
theorem c_Claim : Tryz.prog.cellsOf 50 = 5 := by kernel_rfl
theorem c_Part : Tryz.prog.cellsOf 38 = 5 := by kernel_rfl
theorem c_Agr : Tryz.prog.cellsOf 35 = 1 := by kernel_rfl
theorem c_Parts : Tryz.prog.cellsOf 36 = 1 := by kernel_rfl
theorem c_Tiers : Tryz.prog.cellsOf 33 = 1 := by kernel_rfl
theorem c_Claims : Tryz.prog.cellsOf 24 = 1 := by kernel_rfl
theorem c_Agrs : Tryz.prog.cellsOf 25 = 1 := by kernel_rfl
theorem c_Estate : Tryz.prog.cellsOf 27 = 5 := by kernel_rfl
theorem opens_Rat : Opens enc W base spare held kR3 23 := by
  intro fuel cs x h
  obtain ⟨y0, y1, y2, n, _, hl, h0, h1, h2⟩ := trod_struct3 Tryz.underlying23 h
  rw [c_Rat] at hl
  obtain ⟨a, b, c, rfl⟩ := list3 hl
  simp only [c_bool, c_string] at h0 h1 h2
  obtain ⟨p, hp, _⟩ := DataW.trod_bool Tryz.underlying4 h0
  obtain ⟨q, hq, _⟩ := DataW.trod_string Tryz.underlying9 h1
  obtain ⟨r, hr, _⟩ := DataW.trod_string Tryz.underlying9 h2
  simp at hp hq hr
  subst hp hq hr
  exact ⟨⟨p, q, r⟩, kR3_K W ⟨p, q, r⟩⟩
instance : Inhabited RatF := ⟨zR⟩
instance : Inhabited ClaimV := ⟨zClaim⟩
instance : Inhabited PartV := ⟨zPart⟩
theorem opens_Claim : Opens enc W base spare held kClaim 50 := by
  intro fuel cs x h
  obtain ⟨y0, y1, y2, n, _, hl, h0, h1, h2⟩ := trod_struct3 Tryz.underlying50 h
  rw [c_Claim] at hl
  obtain ⟨a, b, c, d, e, rfl⟩ := list5 hl
  simp only [c_int, c_Rat] at h0 h1 h2
  obtain ⟨p, hp, _⟩ := DataW.trod_int Tryz.underlying3 h0
  obtain ⟨q, hq, _⟩ := DataW.trod_int Tryz.underlying3 h1
  obtain ⟨r, hr⟩ := opens_Rat _ _ _ h2
  have hr2 := kR3_open hr
  simp at hp hq hr2
  obtain ⟨rfl, rfl, rfl⟩ := hr2
  subst hp hq
  exact ⟨⟨p, q, r⟩, kClaim_K W ⟨p, q, r⟩⟩
theorem opens_Part : Opens enc W base spare held kPart 38 := by
  intro fuel cs x h
  obtain ⟨y0, y1, y2, n, _, hl, h0, h1, h2⟩ := trod_struct3 Tryz.underlying38 h
  rw [c_Part] at hl
  obtain ⟨a, b, c, d, e, rfl⟩ := list5 hl
  simp only [c_int, c_bool, c_Rat] at h0 h1 h2
  obtain ⟨p, hp, _⟩ := DataW.trod_int Tryz.underlying3 h0
  obtain ⟨q, hq, _⟩ := DataW.trod_bool Tryz.underlying4 h1
  obtain ⟨r, hr⟩ := opens_Rat _ _ _ h2
  have hr2 := kR3_open hr
  simp at hp hq hr2
  obtain ⟨rfl, rfl, rfl⟩ := hr2
  subst hp hq
  exact ⟨⟨p, q, r⟩, kPart_K W ⟨p, q, r⟩⟩
theorem opens_Parts : Opens enc W base spare held kTier 36 := opens_slice Tryz.underlying36 c_Part opens_Part
theorem opens_Tiers : Opens enc W base spare held (Kd.slice 36 kTier) 33 := opens_slice Tryz.underlying33 c_Parts opens_Parts
theorem opens_Agr : Opens enc W base spare held (Kd.slice 36 kTier) 35 := by
  intro fuel cs x h
  obtain ⟨y0, n, _, hl, h0⟩ := trod_struct1 Tryz.underlying35 h
  rw [c_Agr] at hl
  obtain ⟨a, rfl⟩ := List.length_eq_one_iff.1 hl
  simp only [c_Tiers] at h0
  exact opens_Tiers _ _ _ h0
theorem opens_Claims : Opens enc W base spare held (Kd.slice 50 kClaim) 24 := opens_slice Tryz.underlying24 c_Claim opens_Claim
theorem opens_Agrs : Opens enc W base spare held (Kd.slice 35 (Kd.slice 36 kTier)) 25 := opens_slice Tryz.underlying25 c_Agr opens_Agr
set_option maxRecDepth 100000 in
/-- An estate that reads as data. -/
theorem open_Estate {r : Reach} {b0 : Nat} {v : Value} {d : DataW H} {ps : List MemPlace} (hv : Value.okWide Tryz.prog W r b0 27 v) (h : DataW.Trod enc Tryz.prog W base spare held 27 v d ps) :
    ∃ (cash : RatF) (cs : List ClaimV) (gs : List (List (List PartV))) (A : Option Addr) (c : Nat) (B : Option Addr) (d : Nat), v = EV cash A cs.length c B gs.length d ∧ ReadsE W cash cs gs A c B d := by
  obtain ⟨cells, rfl, hsz⟩ := okWide_struct Tryz.underlying27 hv
  obtain ⟨fuel, hf⟩ := h
  obtain ⟨y0, y1, y2, n, _, hl, h0, h1, h2⟩ := trod_struct3 Tryz.underlying27 hf
  rw [c_Estate] at hl
  obtain ⟨a, b, c, d, e, he⟩ := list5 hl
  have he2 : cells = #[a, b, c, d, e] := by
    have : cells.toList = [a, b, c, d, e] := he
    rw [← Array.toArray_toList (xs := cells), this]
  rw [he] at h0 h1 h2
  simp only [c_Rat, c_Claims, c_Agrs] at h0 h1 h2
  obtain ⟨r, hr⟩ := opens_Rat _ _ _ h0
  obtain ⟨cs, A1, n1, hA, hA1, hA2⟩ := opens_Claims _ _ _ h1
  obtain ⟨gs, B1, n2, hB, hB1, hB2⟩ := opens_Agrs _ _ _ h2
  have hr2 := kR3_open hr
  simp at hr2 hA hB
  obtain ⟨rfl, rfl, rfl⟩ := hr2
  subst hA hB
  exact ⟨r, cs, gs, A1, n1, B1, n2, by rw [he2], ⟨hA2, hA1, hB2, hB1⟩⟩
end
end Go.Proofs.YtnimgfnknlkkdaaGreatDoor.H
