import Derived.Test.YtnimgfnknlkkdaaGreatDoorK6
import Derived.Test.YtnimgfnknlkkdaaGreatDoorK3
set_option linter.unusedVariables false
set_option linter.unusedSimpArgs false
open Go
namespace Go.Proofs.YtnimgfnknlkkdaaGreatDoor.H
open Go Go.RowKit Go.Proofs.YtnimgfnknlkkdaaGreatDoorW.PrintWords Go.Proofs.YtnimgfnknlkkdaaGreatDoorW.PrintLast Go.Proofs.YtnimgfnknlkkdaaGreatDoorW.PrintMore Go.Proofs.YtnimgfnknlkkdaaGreatDoor.Num
attribute [local go_sem] hideOp
/-! Lay -/
def ranksAt (cs : List ClaimV) : Nat → List TierV
  | 0 => List.replicate 8 zWTier
  | i + 1 => (ranksAt cs i).set (rdC cs i).rank.toNat ((rdT (ranksAt cs i) (rdC cs i).rank.toNat).add i (rdC cs i).amount.q)
def totAt (cs : List ClaimV) : Nat → Rat
  | 0 => 0
  | i + 1 => totAt cs i + (rdC cs i).amount.q
def layE (cs : List ClaimV) (gs : List (List (List PartV))) : LayV := ⟨cs.length, ranksAt cs cs.length, gs.map (layP cs), totAt cs cs.length⟩
theorem ranksAt_len (cs : List ClaimV) : ∀ i, (ranksAt cs i).length = 8
  | 0 => List.length_replicate
  | i + 1 => by rw [ranksAt, List.length_set, ranksAt_len cs i]
theorem kWT_L : ∀ q, q ∈ 124 :: kWTier.E → q ≠ 91 := by
  intro q hq
  have h : q ∈ ([124, 169] : List Nat) := hq
  revert h
  simp
  omega
theorem kP_L : ∀ q, q ∈ 127 :: kPool.E → q ≠ 91 := by
  intro q hq
  have h : q ∈ ([127, 3, 124, 169] : List Nat) := hq
  revert h
  simp
  omega
structure LayEOk (cs : List ClaimV) (gs : List (List (List PartV))) : Prop where
  am : ∀ c ∈ cs, ShortR c.amount
  rank : ∀ c ∈ cs, 0 ≤ c.rank ∧ c.rank < 8
  nc : cs.length ≤ 1048576
  ng : gs.length ≤ 1048576
  sums : ∀ i, i ≤ cs.length → ∀ r, r < 8 → OkQ (rdT (ranksAt cs i) r).sum
  len : ∀ i, i ≤ cs.length → ∀ r, r < 8 → (rdT (ranksAt cs i) r).parts.length ≤ 1048576
  tot : ∀ i, i ≤ cs.length → OkQ (totAt cs i)
  ag : ∀ g ∈ gs, LayOk cs g
theorem wt_off_pool {w : World} {base : Nat} {ok ok' : Nat → Prop} {v u : Value} {xs : List TierV} {ps : List PoolV} (h : kWTier.R 124 w base ok v xs) (h2 : kPool.R 127 w base ok' u ps) : kWTier.R 124 w base (fun k => some k ≠ u.ownBlock) v xs := by
  cases hu : u.ownBlock with
  | none => exact Kd.R_mono h (fun _ _ => by simp)
  | some b =>
    obtain ⟨cells, hc⟩ := Kd.R_typed h2 b hu
    exact Kd.R_mono (Kd.R_types h hc kWT_E) (fun k hk e => hk.2 (by injection e))
theorem pool_M {W : World} {b base : Nat} {p : PoolV} {v u : Value} (h : kPool.M W b (fun _ => True) p [v, u]) (hb : base ≤ b) : kPool.M W base (fun k => b ≤ k) p [v, u] := by
  obtain ⟨c1, c2, hc, ⟨v1, e1, h1⟩, ⟨v2, e2, h2⟩⟩ := h
  exact ⟨c1, c2, hc, ⟨v1, e1, Kd.R_lower (Kd.R_mono (Kd.R_bound h1) (fun k hk => hk.2.1)) hb⟩, ⟨v2, e2, Kd.R_lower (Kd.R_mono (Kd.R_bound h2) (fun k hk => hk.2.1)) hb⟩⟩
theorem isLay_fin {wr W : World} {b base gq n : Nat} {ok ok' : Nat → Prop} {Bq : Option Addr} {cq : Nat} {ranks : List TierV} {ps : List PoolV} {tot : Rat} (HS : kWTier.R 124 wr base (fun k => ok k ∧ k ≠ b) (.slice (some ⟨gq, 0, none⟩) 8 8) ranks) (HP : kPool.R 127 wr base (fun k => ok' k ∧ k ≠ b) (.slice Bq ps.length cq) ps)
    (hW : ∀ k, k ≠ b → W.heap[k]? = wr.heap[k]?) (hr : ranks.length = 8) : IsLay W (.agg #[.int .i64 n, .slice (some ⟨gq, 0, none⟩) 8 8, .slice Bq ps.length cq, .bool (canS tot), .string (canN tot), .string (canD tot)]) ⟨n, ranks, ps, tot⟩ := by
  have h1 := Kd.R_step HS (fun k hk _ => hW k hk.2)
  have h2 := Kd.R_step HP (fun k hk _ => hW k hk.2)
  obtain ⟨-, h3, h4⟩ := Kd.R_reads' h1
  obtain ⟨-, h5, h6⟩ := Kd.R_reads' h2
  exact ⟨some ⟨gq, 0, none⟩, 8, Bq, cq, by rw [show (LayV.mk n ranks ps tot).ranks.length = 8 from hr], by show ranks.length ≤ 8; omega, h5, h4, h6⟩
theorem results_L6 {fn : Func} {p : Tmp} (h : fn.results = #[.cell p 91]) (tmps : Array Value) (w : World) (g : Nat) {a b c d e f : Value} (hp : tmps.getD p undef = .pointer (some ⟨g, 0, none⟩))
    (h0 : w.cell? ⟨g, 0, none⟩ = some a) (h1 : w.cell? ⟨g, 1, none⟩ = some b) (h2 : w.cell? ⟨g, 2, none⟩ = some c) (h3 : w.cell? ⟨g, 3, none⟩ = some d) (h4 : w.cell? ⟨g, 4, none⟩ = some e) (h5 : w.cell? ⟨g, 5, none⟩ = some f) : (results fn tmps).run Tryz.prog w = .ok (.agg #[a, b, c, d, e, f]) w := by
  have hp' : tmps[p]?.getD undef = .pointer (some ⟨g, 0, none⟩) := by simpa using hp
  simp only [results, h]
  simp [Sem.run_bind, Result.andThen, asAddr, hp']
  go_simp
theorem take_map_succ {α β : Type} (f : List α → β) (gs : List (List α)) {j : Nat} (h : j < gs.length) : (gs.take (j + 1)).map f = (gs.take j).map f ++ [f (rowAt gs j)] := by
  rw [List.take_succ_eq_append_getElem h, List.map_append, rowAt, List.getD_eq_getElem?_getD, List.getElem?_eq_getElem h]
  rfl
theorem keepL {g b : Nat} {v0 v1 v2 v3 v4 v5 : Value} {w w1 : World} (h : (w.cell? ⟨g, 0, none⟩ = some v0 ∧ w.cell? ⟨g, 1, none⟩ = some v1 ∧ w.cell? ⟨g, 2, none⟩ = some v2 ∧ w.cell? ⟨g, 3, none⟩ = some v3 ∧ w.cell? ⟨g, 4, none⟩ = some v4) ∧ w.cell? ⟨b, 0, none⟩ = some v5) (hb : Below w.heap.size w w1) :
    (w1.cell? ⟨g, 0, none⟩ = some v0 ∧ w1.cell? ⟨g, 1, none⟩ = some v1 ∧ w1.cell? ⟨g, 2, none⟩ = some v2 ∧ w1.cell? ⟨g, 3, none⟩ = some v3 ∧ w1.cell? ⟨g, 4, none⟩ = some v4) ∧ w1.cell? ⟨b, 0, none⟩ = some v5 :=
  ⟨⟨pw_cell_below hb h.1.1, pw_cell_below hb h.1.2.1, pw_cell_below hb h.1.2.2.1, pw_cell_below hb h.1.2.2.2.1, pw_cell_below hb h.1.2.2.2.2⟩, pw_cell_below hb h.2⟩
theorem keepLG {g b : Nat} {v0 v1 v2 v3 v4 v5 : Value} {w w1 : World} {row : Option Nat} (h : (w.cell? ⟨g, 0, none⟩ = some v0 ∧ w.cell? ⟨g, 1, none⟩ = some v1 ∧ w.cell? ⟨g, 2, none⟩ = some v2 ∧ w.cell? ⟨g, 3, none⟩ = some v3 ∧ w.cell? ⟨g, 4, none⟩ = some v4) ∧ w.cell? ⟨b, 0, none⟩ = some v5) (hg : w.grownBy w1 row) (h1 : some g ≠ row) (h2 : some b ≠ row) :
    (w1.cell? ⟨g, 0, none⟩ = some v0 ∧ w1.cell? ⟨g, 1, none⟩ = some v1 ∧ w1.cell? ⟨g, 2, none⟩ = some v2 ∧ w1.cell? ⟨g, 3, none⟩ = some v3 ∧ w1.cell? ⟨g, 4, none⟩ = some v4) ∧ w1.cell? ⟨b, 0, none⟩ = some v5 := by
  have e1 := hg.block g (World.block_lt_of_cell? w _ h.1.1) h1
  have e2 := hg.block b (World.block_lt_of_cell? w _ h.2) h2
  simpa [World.cell?, e1, e2] using h
theorem keepLS {g b x o : Nat} {v0 v1 v2 v3 v4 v5 y : Value} {w W : World} (h1 : x ≠ g) (h2 : x ≠ b) (h : (w.cell? ⟨g, 0, none⟩ = some v0 ∧ w.cell? ⟨g, 1, none⟩ = some v1 ∧ w.cell? ⟨g, 2, none⟩ = some v2 ∧ w.cell? ⟨g, 3, none⟩ = some v3 ∧ w.cell? ⟨g, 4, none⟩ = some v4) ∧ w.cell? ⟨b, 0, none⟩ = some v5) (hW : W = w.setCell ⟨x, o, none⟩ y) :
    (W.cell? ⟨g, 0, none⟩ = some v0 ∧ W.cell? ⟨g, 1, none⟩ = some v1 ∧ W.cell? ⟨g, 2, none⟩ = some v2 ∧ W.cell? ⟨g, 3, none⟩ = some v3 ∧ W.cell? ⟨g, 4, none⟩ = some v4) ∧ W.cell? ⟨b, 0, none⟩ = some v5 := by
  subst hW
  rw [World.cell?_setCell_far _ _ _ _ h1, World.cell?_setCell_far _ _ _ _ h1, World.cell?_setCell_far _ _ _ _ h1, World.cell?_setCell_far _ _ _ _ h1, World.cell?_setCell_far _ _ _ _ h1, World.cell?_setCell_far _ _ _ _ h2]
  exact h
set_option maxRecDepth 100000 in
set_option maxHeartbeats 1000000 in
theorem w_Lay (cash : RatF) (cs : List ClaimV) (gs : List (List (List PartV))) (A : Option Addr) (c : Nat) (B : Option Addr) (d : Nat) (w : World) (hR : ReadsE w cash cs gs A c B d) (hk : LayEOk cs gs) :
    Calls Tryz.prog 47 #[EV cash A cs.length c B gs.length d] w fun e w' => ∃ v, e = .returned v ∧ IsLay w' v (layE cs gs) ∧ Below w.heap.size w w' := by
  have HR := Aside0.mk hR
  have HK := Aside0.mk hk
  have hm1 := hR.rc.2.1
  have hm2 := hR.rg.2.1
  have LA := Aside0.mk (fun (w' : World) (hb : Below w.heap.size w w') (ts : List (List PartV)) (T : Option Addr) (tc : Nat) (hT : kTier.C w' T ts.length ts) (htc : ts.length ≤ tc) (hmem : ts ∈ gs) => w_lay cash cs gs A c B d ts T tc w' (hR.below hb) hT htc (hk.ag ts hmem))
  clear hR hk
  simp only [EV] at LA ⊢
  generalize cash.neg = neg0 at *
  generalize cash.num = num0 at *
  generalize cash.den = den0 at *
  obtain ⟨t1, t2, tB⟩ := two_new w (.cells #[.bool neg0, .string num0, .string den0, .slice A cs.length c, .slice B gs.length d] 27) (.cells #[.int .i64 0, .slice none 0 0, .slice none 0 0, .bool false, .string ⟨#[]⟩, .string ⟨#[]⟩] 91)
  have N1 := Lib.hid t1
  have N2 := Lib.hid t2
  have NB := Aside0.mk tB
  obtain ⟨RC, hRC⟩ := made_ranks
  have MZ := Aside0.mk (fun (W : World) (base : Nat) (h : base ≤ W.heap.size) => (hRC W base h).2)
  have hMS : ∀ W : World, (Instr.makeSlice 88 (.int .i64 8) (.int .i64 8)).run Tryz.prog W = .ok (.slice (some ⟨W.heap.size, 0, none⟩) 8 8) (W.alloc (.cells RC 124)) := fun W => (hRC W 0 (Nat.zero_le _)).1
  clear hRC
  clear t1 t2 tB
  go_enter Tryz.func47, Tryz.ntmps47
  go_wp2_with (fail)
  obtain ⟨wl, hwl⟩ : ∃ wl, wl = ((w.alloc (.cells #[.bool neg0, .string num0, .string den0, .slice A cs.length c, .slice B gs.length d] 27)).alloc (.cells #[.int .i64 0, .slice none 0 0, .slice none 0 0, .bool false, .string ⟨#[]⟩, .string ⟨#[]⟩] 91)) := ⟨_, rfl⟩
  rw [← hwl] at N1 N2 NB
  rw [← hwl]
  have hwl2 : wl.heap.size = w.heap.size + 2 := by rw [hwl, size_new, size_new]
  clear hwl
  have S0 := Lib.hid (blk_cell N1.out 3)
  have hws := Lib.hid hwl2
  clear hwl2
  go_cut [3] (fun v3 wc => ∃ gl gq : Nat, v3 = .pointer (some ⟨gl, 0, none⟩) ∧ Aside0 (w.heap.size + 2 ≤ gl ∧ w.heap.size + 2 ≤ gq) ∧ Aside0 (wc.heap[gl]? = some (.cells #[.int .i64 cs.length, .slice (some ⟨gq, 0, none⟩) 8 8, .slice none 0 0, .bool (canS (totAt cs 0)), .string (canN (totAt cs 0)), .string (canD (totAt cs 0))] 91)) ∧ Aside0 (Kd.S kWTier 124 wc w.heap.size (fun _ => True) (.slice (some ⟨gq, 0, none⟩) 8 8) (ranksAt cs 0)) ∧ Aside0 (wc.heap[w.heap.size]? = some (.cells #[.bool neg0, .string num0, .string den0, .slice A cs.length c, .slice B gs.length d] 27)) ∧ Aside0 (wc.heap[w.heap.size + 1]? = some (.cells #[.int .i64 0, .slice none 0 0, .slice none 0 0, .bool false, .string ⟨#[]⟩, .string ⟨#[]⟩] 91)) ∧ Aside0 (Below w.heap.size w wc))
  case first =>
    have Z0 := Lib.hid (show (.bool (canS (totAt cs 0)) : Value) = .bool false ∧ (.string (canN (totAt cs 0)) : Value) = .string ⟨#[]⟩ ∧ (.string (canD (totAt cs 0)) : Value) = .string ⟨#[]⟩ from ⟨by show Value.bool (canS 0) = _; rw [can_zero.1], by show Value.string (canN 0) = _; rw [can_zero.2.1], by show Value.string (canD 0) = _; rw [can_zero.2.2]⟩)
    go_region_held3 (fun w' => w'.cell? ⟨w.heap.size, 3, none⟩ = some (.slice A cs.length c))
      (first | exact pw_cell_below (pw_below_drewN (Below.refl _ _) 1) S0.out | exact pw_cell_below (below_alloc (Below.refl _ _) _) (by assumption) | exact pw_cell_below (below_drew (below_alloc (below_alloc (Below.refl _ _) _) _)) S0.out | exact pw_cell_below (below_drew (below_alloc (Below.refl _ _) _)) S0.out | go_keep)
      (fail)
    · have b1 := below_alloc (Below.refl wl.heap.size wl) (.cells RC 124)
      have b2 := below_alloc b1 (.cells #[.int .i64 cs.length, .slice (some ⟨wl.heap.size, 0, none⟩) 8 8, .slice none 0 0, .bool false, .string ⟨#[]⟩, .string ⟨#[]⟩] 91)
      have b3 := below_drew b2
      have hs2 := Lib.hid (size_new wl (.cells RC 124))
      go_wp2_with (fail)
      go_meet
      case rel =>
        refine ⟨_, wl.heap.size, rfl, ⟨by have := hws.out; omega, by have := hws.out; omega⟩, ⟨?_⟩, ⟨?_⟩, ⟨heap_b b3 N1.out⟩, ⟨heap_b b3 N2.out⟩, ⟨below_s b3 NB.out⟩⟩
        · rw [Z0.out.1, Z0.out.2.1, Z0.out.2.2]
          have h9 := heap_new (wl.alloc (.cells RC 124)) (.cells #[.int .i64 cs.length, .slice (some ⟨wl.heap.size, 0, none⟩) 8 8, .slice none 0 0, .bool false, .string ⟨#[]⟩, .string ⟨#[]⟩] 91)
          rw [hs2.out] at h9
          exact h9
        · exact Kd.S_drew (Kd.S_alloc (MZ.out wl w.heap.size (by rw [hws.out]; omega)) _)
    · have b1 := below_alloc (Below.refl wl.heap.size wl) (.cells #[.int .i64 cs.length, .slice (some ⟨wl.heap.size + 1, 0, none⟩) 8 8, .slice none 0 0, .bool false, .string ⟨#[]⟩, .string ⟨#[]⟩] 91)
      have b2 := below_alloc b1 (.cells RC 124)
      have b3 := below_drew b2
      have hs1 := size_new wl (.cells #[.int .i64 cs.length, .slice (some ⟨wl.heap.size + 1, 0, none⟩) 8 8, .slice none 0 0, .bool false, .string ⟨#[]⟩, .string ⟨#[]⟩] 91)
      have hs2 := Lib.hid hs1
      clear hs1
      go_wp2_with (fail)
      go_meet
      case rel =>
        refine ⟨_, wl.heap.size + 1, rfl, ⟨by have := hws.out; omega, by have := hws.out; omega⟩, ⟨?_⟩, ⟨?_⟩, ⟨heap_b b3 N1.out⟩, ⟨heap_b b3 N2.out⟩, ⟨below_s b3 NB.out⟩⟩
        · rw [Z0.out.1, Z0.out.2.1, Z0.out.2.2]
          exact heap_old (heap_new wl (.cells #[.int .i64 cs.length, .slice (some ⟨wl.heap.size + 1, 0, none⟩) 8 8, .slice none 0 0, .bool false, .string ⟨#[]⟩, .string ⟨#[]⟩] 91))
        · have h9 := MZ.out (wl.alloc (.cells #[.int .i64 cs.length, .slice (some ⟨wl.heap.size + 1, 0, none⟩) 8 8, .slice none 0 0, .bool false, .string ⟨#[]⟩, .string ⟨#[]⟩] 91)) w.heap.size (by rw [hs2.out, hws.out]; omega)
          rw [hs2.out] at h9
          exact Kd.S_drew h9
  case rest =>
    obtain ⟨gl, gq, rfl, ⟨hgl1, hgl2⟩, hLY, hSQ, hE, hN2, hB⟩ := hcut
    have a0 := blk_cell hE.out 3
    clear N1 N2 NB MZ hMS hws
    go_wp2
    clear a0
    go_loopw [17] (fun v17 w' => ∃ i : Nat, i ≤ cs.length ∧ v17 = .int .i64 i ∧ Aside0 (w'.heap[gl]? = some (.cells #[.int .i64 cs.length, .slice (some ⟨gq, 0, none⟩) 8 8, .slice none 0 0, .bool (canS (totAt cs i)), .string (canN (totAt cs i)), .string (canD (totAt cs i))] 91)) ∧ Aside0 (Kd.S kWTier 124 w' w.heap.size (fun _ => True) (.slice (some ⟨gq, 0, none⟩) 8 8) (ranksAt cs i)) ∧ Aside0 (w'.heap[w.heap.size]? = some (.cells #[.bool neg0, .string num0, .string den0, .slice A cs.length c, .slice B gs.length d] 27)) ∧ Aside0 (w'.heap[w.heap.size + 1]? = some (.cells #[.int .i64 0, .slice none 0 0, .slice none 0 0, .bool false, .string ⟨#[]⟩, .string ⟨#[]⟩] 91)) ∧ Aside0 (Below w.heap.size w w')) (fun v17 _ => cs.length - (intOf v17).toNat)
    case atStart => exact ⟨0, Nat.zero_le _, rfl, hLY, hSQ, hE, hN2, hB⟩
    case round =>
      clear hLY hSQ hE hN2 hB
      obtain ⟨i, hi, rfl, hLY, hSQ, hE, hN2, hB⟩ := hrel
      rcases Nat.lt_or_ge i cs.length with hlt | hge
      · obtain ⟨ad, rfl, x0, x1, x2, x3, x4⟩ := at_Claim (HR.out.below hB.out).rc hlt
        have hp0 : (0 : Int) ≤ (i : Int) := by omega
        have hp1 : (i : Int) < (cs.length : Int) := by omega
        obtain ⟨hr0, hr1⟩ := HK.out.rank _ (rdC_mem hlt)
        obtain ⟨r, hr⟩ : ∃ r : Nat, (rdC cs i).rank = (r : Int) := ⟨(rdC cs i).rank.toNat, by omega⟩
        have hr8 : r < 8 := by omega
        have AZ := Lib.hid (fun w' => addz (rdC cs i).amount w' (HK.out.am _ (rdC_mem hlt)))
        have TA := Aside0.mk (fun (w' : World) (h1 : Kd.S kWTier 124 w' w.heap.size (fun _ => True) (.slice (some ⟨gq, 0, none⟩) 8 8) (ranksAt cs i)) (h2 : Below w.heap.size w w') => S_tier_add h1 h2 (i := r) (by rw [ranksAt_len]; exact hr8) i (rdC cs i).amount.q (HK.out.am _ (rdC_mem hlt)).q (HK.out.sums i hi r hr8) (by have := HK.out.len i hi r hr8; omega))
        have AT := Lib.hid (fun w' => add_q (totAt cs i) (rdC cs i).amount.q w' (HK.out.tot i hi) (HK.out.am _ (rdC_mem hlt)).q)
        have HRS := Lib.hid (show ranksAt cs (i + 1) = (ranksAt cs i).set r ((rdT (ranksAt cs i) r).add i (rdC cs i).amount.q) by rw [ranksAt, hr, Int.toNat_natCast])
        have HTS := Lib.hid (show totAt cs (i + 1) = totAt cs i + (rdC cs i).amount.q from rfl)
        rw [hr] at x1
        simp only [RQ] at AZ TA AT
        have HRR := Lib.hid hr
        clear hr hr0 hr1
        obtain ⟨qS, hqS⟩ : ∃ s, s = canS (rdC cs i).amount.q := ⟨_, rfl⟩
        obtain ⟨qN, hqN⟩ : ∃ s, s = canN (rdC cs i).amount.q := ⟨_, rfl⟩
        obtain ⟨qD, hqD⟩ : ∃ s, s = canD (rdC cs i).amount.q := ⟨_, rfl⟩
        rw [← hqS, ← hqN, ← hqD] at AZ TA AT
        clear hqS hqN hqD
        rw [← HTS.out] at AT
        rw [← HRS.out] at TA
        generalize (rdC cs i).amount.neg = pS at *
        generalize (rdC cs i).amount.num = pN at *
        generalize (rdC cs i).amount.den = pD at *
        generalize (rdC cs i).holder = ph at *
        have h3 := below_alloc (Below.refl wr.heap.size wr) (.cells #[.int .i64 ph, .int .i64 r, .bool pS, .string pN, .string pD] 50)
        have hP5 := Lib.hid (heap_new wr (.cells #[.int .i64 ph, .int .i64 r, .bool pS, .string pN, .string pD] 50))
        obtain ⟨s0, s1, s2, s3, s4⟩ := cells5 hP5.out
        have L1 := Lib.hid (heap_b h3 hLY.out)
        have L2 := Aside0.mk (Kd.S_below hSQ.out h3)
        have L3 := Lib.hid (heap_b h3 hE.out)
        have L4 := Lib.hid (heap_b h3 hN2.out)
        have L5 := Aside0.mk (below_s h3 hB.out)
        clear hLY hSQ hE hN2 hB h3
        go_wp2_with (go_at_call 24; refine (AZ.out _).mono ?_; rintro e w4 ⟨rfl, hb4⟩; have K1 := Lib.hid (heap_b hb4 L1.out); have K2 := Aside0.mk (Kd.S_below L2.out hb4); have K3 := Lib.hid (heap_b hb4 L3.out); have K4 := Lib.hid (heap_b hb4 L4.out); have K5 := Aside0.mk (below_s hb4 L5.out); have K6 := Lib.hid (heap_b hb4 hP5.out); clear hb4)
        have h5 := below_alloc (Below.refl w4.heap.size w4) (.cells #[.bool qS, .string qN, .string qD] 23)
        have J1 := Lib.hid (heap_b h5 K1.out)
        have J2 := Aside0.mk (Kd.S_below K2.out h5)
        have J3 := Lib.hid (heap_b h5 K3.out)
        have J4 := Lib.hid (heap_b h5 K4.out)
        have J5 := Aside0.mk (below_s h5 K5.out)
        have J6 := Lib.hid (heap_b h5 K6.out)
        have J7 := Lib.hid (heap_new w4 (.cells #[.bool qS, .string qN, .string qD] 23))
        obtain ⟨ws, hws⟩ : ∃ ws, ws = w4.alloc (.cells #[.bool qS, .string qN, .string qD] 23) := ⟨_, rfl⟩
        rw [← hws] at J1 J2 J3 J4 J5 J6 J7
        rw [← hws]
        clear hws h5 L1 L2 L3 L4 L5 K1 K2 K3 K4 K5 K6 hP5 s0 s1 s2 s3 s4 x0 x1 x2 x3 x4
        have S0 := Lib.hid (And.intro (blk_cell J1.out 1) (And.intro (blk_cell J6.out 1) (cells3 J7.out).1))
        have hr8i : (r : Int) < 8 := by omega
        have hr0i : (0 : Int) ≤ (r : Int) := by omega
        go_region_held3 (fun w' => w'.cell? ⟨gl, 1, none⟩ = some (.slice (some ⟨gq, 0, none⟩) 8 8) ∧ w'.cell? ⟨wr.heap.size, 1, none⟩ = some (.int .i64 r) ∧ (w'.cell? ⟨w4.heap.size, 0, none⟩ = some (.bool qS) ∧ w'.cell? ⟨w4.heap.size, 1, none⟩ = some (.string qN) ∧ w'.cell? ⟨w4.heap.size, 2, none⟩ = some (.string qD)))
          (first | exact ⟨pw_cell_below (pw_below_drewN (Below.refl _ _) 1) S0.out.1, pw_cell_below (pw_below_drewN (Below.refl _ _) 1) S0.out.2.1, keepC S0.out.2.2 (pw_below_drewN (Below.refl _ _) 1)⟩ | exact ⟨blk_cell G1.out 1, blk_cell G6.out 1, (cells3 G7.out).1⟩)
          (first | (go_at_call 81; refine (TA.out _ (Kd.S_drew J2.out) (below_drew J5.out)).mono ?_; rintro e w5 ⟨rfl, hb5, hsz5, hs5, hf5⟩; have G1 := Lib.hid ((hf5 _ _ _ (show ws.drew.heap[gl]? = _ from J1.out) (by decide) (by decide)).trans J1.out); have G3 := Lib.hid ((hf5 _ _ _ (show ws.drew.heap[w.heap.size]? = _ from J3.out) (by decide) (by decide)).trans J3.out); have G4 := Lib.hid ((hf5 _ _ _ (show ws.drew.heap[w.heap.size + 1]? = _ from J4.out) (by decide) (by decide)).trans J4.out); have G6 := Lib.hid ((hf5 _ _ _ (show ws.drew.heap[wr.heap.size]? = _ from J6.out) (by decide) (by decide)).trans J6.out); have G7 := Lib.hid ((hf5 _ _ _ (show ws.drew.heap[w4.heap.size]? = _ from J7.out) (by decide) (by decide)).trans J7.out); have G2 := Aside0.mk hs5; have G5 := Aside0.mk hb5; clear hs5 hb5 hf5))
        rename_i hS9
        clear hS9 S0 J1 J2 J3 J4 J5 J6 J7 TA AZ
        have y3 := blk_cell G1.out 3
        have y4 := blk_cell G1.out 4
        have y5 := blk_cell G1.out 5
        obtain ⟨⟨n0, n1, n2⟩, -⟩ := cells3 G7.out
        go_wp2_with (go_at_call 24; refine (AT.out _).mono ?_; rintro e w6 ⟨rfl, hb6⟩; have F1 := Lib.hid (heap_b hb6 G1.out); have F2 := Aside0.mk (Kd.S_below G2.out hb6); have F3 := Lib.hid (heap_b hb6 G3.out); have F4 := Lib.hid (heap_b hb6 G4.out); have F5 := Aside0.mk (below_s hb6 G5.out); have z3 := blk_cell F1.out 3; have z4 := blk_cell F1.out 4; have z5 := blk_cell F1.out 5; have u3 := blk_frozen F1.out 3; have u4 := blk_frozen F1.out 4; have u5 := blk_frozen F1.out 5; clear hb6)
        go_roundw
        case measure => simp [intOf]; omega
        case rel =>
          have hg1 : w.heap.size ≤ gl := by omega
          have b1 := blk_set F1.out 3 (.bool (canS (totAt cs (i + 1))))
          have b2 := blk_set b1 4 (.string (canN (totAt cs (i + 1))))
          have b3 := blk_set b2 5 (.string (canD (totAt cs (i + 1))))
          refine ⟨i + 1, hlt, by go_num, ⟨?_⟩, ⟨?_⟩, ⟨?_⟩, ⟨?_⟩, ⟨below_set (below_set (below_set F5.out hg1) hg1) hg1⟩⟩
          · rw [b3]
            rfl
          · exact Kd.S_set (Kd.S_set (Kd.S_set F2.out F1.out kWT_L 3 _) b1 kWT_L 4 _) b2 kWT_L 5 _
          · rw [heap_far _ (by omega), heap_far _ (by omega), heap_far _ (by omega)]
            exact F3.out
          · rw [heap_far _ (by omega), heap_far _ (by omega), heap_far _ (by omega)]
            exact F4.out
      · obtain rfl : i = cs.length := by omega
        have a0 := blk_cell hE.out 4
        have HLD := Lib.hid (show layE cs gs = ⟨cs.length, ranksAt cs cs.length, gs.map (layP cs), totAt cs cs.length⟩ from rfl)
        have SR := Aside0.mk (Kd.S_R hSQ.out)
        clear hSQ
        go_wp2
        clear a0
        go_loopw [43] (fun v43 w' => ∃ (j : Nat) (u : Value), j ≤ gs.length ∧ v43 = .int .i64 j ∧ Aside0 (w'.heap[gl]? = some (.cells #[.int .i64 cs.length, .slice (some ⟨gq, 0, none⟩) 8 8, u, .bool (canS (totAt cs cs.length)), .string (canN (totAt cs cs.length)), .string (canD (totAt cs cs.length))] 91)) ∧ Aside0 (kWTier.R 124 w' w.heap.size (fun _ => True) (.slice (some ⟨gq, 0, none⟩) 8 8) (ranksAt cs cs.length)) ∧ Aside0 (kPool.R 127 w' w.heap.size (fun _ => True) u ((gs.take j).map (layP cs))) ∧ Aside0 (w'.heap[w.heap.size]? = some (.cells #[.bool neg0, .string num0, .string den0, .slice A cs.length c, .slice B gs.length d] 27)) ∧ Aside0 (w'.heap[w.heap.size + 1]? = some (.cells #[.int .i64 0, .slice none 0 0, .slice none 0 0, .bool false, .string ⟨#[]⟩, .string ⟨#[]⟩] 91)) ∧ Aside0 (Below w.heap.size w w')) (fun v43 _ => gs.length - (intOf v43).toNat)
        case atStart => exact ⟨0, _, Nat.zero_le _, rfl, hLY, SR, ⟨Kd.R_nil _ _ _ _ _⟩, hE, hN2, hB⟩
        case round =>
          clear hLY SR hE hN2 hB
          obtain ⟨j, u, hj, rfl, hLY, hSR, hPR, hE, hN2, hB⟩ := hrel
          rcases Nat.lt_or_ge j gs.length with hlt | hge
          · obtain ⟨ad, pv, rfl, x0, A8, c8, rfl, hc8, hC8⟩ := at_row HR.out.rg hlt
            replace x0 := pw_cell_below hB.out x0
            have hp0 : (0 : Int) ≤ (j : Int) := by omega
            have hp1 : (j : Int) < (gs.length : Int) := by omega
            have LJ := Aside0.mk (fun (w' : World) (hb : Below w.heap.size w w') => LA.out w' hb _ A8 c8 (Kd.C_below hC8 hb) hc8 (rowAt_mem hlt))
            have HTK := Lib.hid (take_map_succ (layP cs) gs hlt)
            have hpsl : ((gs.take j).map (layP cs)).length ≤ 1048576 := by rw [List.length_map, List.length_take]; have := HK.out.ng; omega
            obtain ⟨Bu, cu, rfl⟩ := Kd.R_slice hPR.out
            clear hC8 hc8
            generalize layP cs (rowAt gs j) = pj at *
            generalize (rowAt gs j).length = n8 at *
            generalize (gs.take j).map (layP cs) = ps at *
            have h3 := below_alloc (Below.refl wr.heap.size wr) (.cells #[.slice A8 n8 c8] 35)
            have J6 := Lib.hid (heap_new wr (.cells #[.slice A8 n8 c8] 35))
            have J1 := Lib.hid (heap_b h3 hLY.out)
            have J2 := Aside0.mk (Kd.R_below hSR.out h3)
            have J3 := Lib.hid (heap_b h3 hE.out)
            have J4 := Lib.hid (heap_b h3 hN2.out)
            have J5 := Aside0.mk (below_s h3 hB.out)
            have J7 := Aside0.mk (Kd.R_below hPR.out h3)
            have hglr : gl < wr.heap.size := blk_lt hLY.out
            clear hLY hSR hPR hE hN2 hB h3
            go_wp2_with (fail)
            obtain ⟨ws, hws⟩ : ∃ ws, ws = wr.alloc (.cells #[.slice A8 n8 c8] 35) := ⟨_, rfl⟩
            rw [← hws] at J1 J2 J3 J4 J5 J6 J7
            rw [← hws]
            clear hws x0
            obtain ⟨s0, s1, s2, s3, s4⟩ := cells5 J3.out
            have S0 := Lib.hid (And.intro (And.intro s0 (And.intro s1 (And.intro s2 (And.intro s3 s4)))) (blk_cell J6.out 0))
            have c0d : ws.drew.cell? ⟨gl, 2, none⟩ = _ := blk_cell J1.out 2
            have hxg : gl ≠ w.heap.size := by omega
            have hxb : gl ≠ wr.heap.size := by omega
            have hug := Aside0.mk (Kd.R_lt J7.out)
            clear s0 s1 s2 s3 s4
            conv => enter [2, 2, 1, 2, 1]; change hideOp _
            go_region_held3 (fun w' => (w'.cell? ⟨w.heap.size, 0, none⟩ = some (.bool neg0) ∧ w'.cell? ⟨w.heap.size, 1, none⟩ = some (.string num0) ∧ w'.cell? ⟨w.heap.size, 2, none⟩ = some (.string den0) ∧ w'.cell? ⟨w.heap.size, 3, none⟩ = some (.slice A cs.length c) ∧ w'.cell? ⟨w.heap.size, 4, none⟩ = some (.slice (some ad) gs.length d)) ∧ w'.cell? ⟨wr.heap.size, 0, none⟩ = some (.slice A8 n8 c8))
              (first | exact keepL S0.out (pw_below_drewN (Below.refl _ _) 1) | exact And.intro (cells5 G3.out) (blk_cell G6.out 0) | exact keepL (And.intro (cells5 G3.out) (blk_cell G6.out 0)) (below_alloc (Below.refl _ _) _) | exact keepL (by assumption) (below_alloc (Below.refl _ _) _) | exact keepL (by assumption) (by assumption) | exact And.intro (cells5 F3.out) (blk_cell F6.out 0) | exact keepLS hxg hxb (by assumption) rfl)
              (first | (go_at_call 82; refine (LJ.out _ (below_drew J5.out)).mono ?_; rintro e w5 ⟨v5, u5, rfl, hM5, hb5⟩; have G1 := Lib.hid (heap_b hb5 (show ws.drew.heap[gl]? = _ from J1.out)); have G2 := Aside0.mk (Kd.R_below (Kd.R_drew J2.out) hb5); have G3 := Lib.hid (heap_b hb5 (show ws.drew.heap[w.heap.size]? = _ from J3.out)); have G4 := Lib.hid (heap_b hb5 (show ws.drew.heap[w.heap.size + 1]? = _ from J4.out)); have G5 := Aside0.mk (below_s hb5 (below_drew J5.out)); have G6 := Lib.hid (heap_b hb5 (show ws.drew.heap[wr.heap.size]? = _ from J6.out)); have G7 := Aside0.mk (Kd.R_below (Kd.R_drew J7.out) hb5); have c05 := blk_cell G1.out 2; have c06 := pw_cell_below (below_alloc (Below.refl w5.heap.size w5) (.cells #[v5, u5] 127)) c05; have HM5 := Aside0.mk (pool_M hM5 (below_drew J5.out).size)) | (refine Kd.R_append_step kPool w.heap.size (by rfl) _ _ 89 127 _ 48 (by rfl) Tryz.underlying89 infoPool rfl (by decide) (by decide) (.slice Bu ps.length cu) ps pj [v5, u5] (fun _ => True) (fun k => ws.drew.heap.size ≤ k) (by rfl) (by rfl) HM5.out (fun k hk => ⟨trivial, fun e => absurd (hug.out k e.symm) (Nat.not_lt.2 hk)⟩) (fun _ _ => trivial) G7.out G5.out G5.out.size (by omega) ?_; intro v3 w3 ho3 hb3 hg3 hat3; obtain ⟨A3, n3, rfl⟩ : ∃ A c, v3 = .slice A (ps.length + 1) c := (by obtain ⟨A, c, h⟩ := Kd.R_slice ho3; exact ⟨A, c, by rw [h, List.length_append]; rfl⟩); have HN1 := Aside0.mk (Kd.R_ne G7.out G1.out (by decide)); have HN3 := Aside0.mk (Kd.R_ne G7.out G3.out (by decide)); have HN4 := Aside0.mk (Kd.R_ne G7.out G4.out (by decide)); have HN6 := Aside0.mk (Kd.R_ne G7.out G6.out (by decide)); have F1 := Lib.hid ((hg3.block gl (blk_lt G1.out) HN1.out).trans G1.out); have F3 := Lib.hid ((hg3.block _ (blk_lt G3.out) HN3.out).trans G3.out); have F4 := Lib.hid ((hg3.block _ (blk_lt G4.out) HN4.out).trans G4.out); have F6 := Lib.hid ((hg3.block _ (blk_lt G6.out) HN6.out).trans G6.out); have F2 := Aside0.mk (Kd.R_grown (wt_off_pool G2.out G7.out) hg3 (fun _ hk => hk)); have F5 := Aside0.mk hb3; have F7 := Aside0.mk ho3; have e0 := blk_cell F1.out 2; have e1 := blk_frozen F1.out 2; clear ho3 hb3 hat3))
            all_goals
              go_wp2_with (fail)
              go_roundw
              case measure => simp [intOf]; omega
              case rel =>
                refine ⟨j + 1, _, hlt, by go_num, ⟨(blk_set F1.out 2 _).trans rfl⟩, ⟨Kd.R_set (Kd.R_mono F2.out (fun _ _ => trivial)) F1.out kWT_L 2 _⟩, ⟨by rw [HTK.out]; exact Kd.R_set F7.out F1.out kP_L 2 _⟩, ⟨?_⟩, ⟨?_⟩, ⟨below_set F5.out (by omega)⟩⟩
                · rw [heap_far _ (by omega)]
                  exact F3.out
                · rw [heap_far _ (by omega)]
                  exact F4.out
          · obtain rfl : j = gs.length := by omega
            rw [List.take_length] at hPR
            obtain ⟨Bq, cq, rfl⟩ := Kd.R_slice hPR.out
            have HPR := Aside0.mk (Kd.R_types hPR.out hN2.out kP_L)
            have HSR := Aside0.mk (Kd.R_types hSR.out hN2.out kWT_L)
            have g0 := blk_cell hLY.out 0
            have g1 := blk_cell hLY.out 1
            have g2 := blk_cell hLY.out 2
            have g3 := blk_cell hLY.out 3
            have g4 := blk_cell hLY.out 4
            have g5 := blk_cell hLY.out 5
            have k0 := blk_cell hN2.out 0
            have k1 := blk_cell hN2.out 1
            have k2 := blk_cell hN2.out 2
            have k3 := blk_cell hN2.out 3
            have k4 := blk_cell hN2.out 4
            have k5 := blk_cell hN2.out 5
            have l0 := blk_frozen hN2.out 0
            have l1 := blk_frozen hN2.out 1
            have l2 := blk_frozen hN2.out 2
            have l3 := blk_frozen hN2.out 3
            have l4 := blk_frozen hN2.out 4
            have l5 := blk_frozen hN2.out 5
            have HBB := Aside0.mk hB.out
            have HN2 := Lib.hid hN2.out
            clear hLY hE hN2 hB hSR hPR
            go_wp2
            have hf6 : ∀ (k : Nat) (x0 x1 x2 x3 x4 x5 : Value), k ≠ w.heap.size + 1 → ((((((wr.setCell ⟨w.heap.size + 1, 0, none⟩ x0).setCell ⟨w.heap.size + 1, 1, none⟩ x1).setCell ⟨w.heap.size + 1, 2, none⟩ x2).setCell ⟨w.heap.size + 1, 3, none⟩ x3).setCell ⟨w.heap.size + 1, 4, none⟩ x4).setCell ⟨w.heap.size + 1, 5, none⟩ x5).heap[k]? = wr.heap[k]? := fun k _ _ _ _ _ _ hk => by rw [heap_far _ hk, heap_far _ hk, heap_far _ hk, heap_far _ hk, heap_far _ hk, heap_far _ hk]
            have hb1 : w.heap.size ≤ w.heap.size + 1 := Nat.le_add_right _ 1
            refine bodyPost_ret (v := .agg #[.int .i64 cs.length, .slice (some ⟨gq, 0, none⟩) 8 8, .slice Bq (gs.map (layP cs)).length cq, .bool (canS (totAt cs cs.length)), .string (canN (totAt cs cs.length)), .string (canD (totAt cs cs.length))]) ?_ rfl ⟨_, rfl, ?_, below_set (below_set (below_set (below_set (below_set (below_set HBB.out hb1) hb1) hb1) hb1) hb1) hb1⟩
            · exact results_L6 rfl _ _ (w.heap.size + 1) rfl (by go_simp) (by go_simp) (by go_simp) (by go_simp) (by go_simp) (by go_simp)
            · rw [HLD.out]
              exact isLay_fin HSR.out HPR.out (fun k hk => hf6 k _ _ _ _ _ _ hk) (ranksAt_len _ _)
end Go.Proofs.YtnimgfnknlkkdaaGreatDoor.H
set_option linter.unusedVariables false
set_option linter.unusedSimpArgs false
open Go
namespace Go.Proofs.YtnimgfnknlkkdaaGreatDoor.H
open Go Go.RowKit Go.Proofs.YtnimgfnknlkkdaaGreatDoorW.PrintWords Go.Proofs.YtnimgfnknlkkdaaGreatDoorW.PrintLast Go.Proofs.YtnimgfnknlkkdaaGreatDoorW.PrintMore Go.Proofs.YtnimgfnknlkkdaaGreatDoor.Num
/-! waterfall.Deliver -/
theorem results_tqt {fn : Func} {p b c : Tmp} (h : fn.results = #[.tmp b, .cell p 23, .tmp c]) (tmps : Array Value) (w : World) (g : Nat) {x y z v u : Value} (hp : tmps.getD p undef = .pointer (some ⟨g, 0, none⟩)) (hb : tmps.getD b undef = v) (hc : tmps.getD c undef = u)
    (h0 : w.cell? ⟨g, 0, none⟩ = some x) (h1 : w.cell? ⟨g, 1, none⟩ = some y) (h2 : w.cell? ⟨g, 2, none⟩ = some z) : (results fn tmps).run Tryz.prog w = .ok (.tuple #[v, .agg #[x, y, z], u]) w := by
  have hp' : tmps[p]?.getD undef = .pointer (some ⟨g, 0, none⟩) := by simpa using hp
  have hb' : tmps[b]?.getD undef = v := by simpa using hb
  have hc' : tmps[c]?.getD undef = u := by simpa using hc
  simp only [results, h]
  simp [Sem.run_bind, Result.andThen, asAddr, hp', hb', hc']
  go_simp
def delR (cash : RatF) (cs : List ClaimV) (gs : List (List (List PartV))) (m : RatF) : ResV := if estErr cash cs gs = 0 then deliverOf (layE cs gs) (maxQ m.q 0) else ⟨[], 0⟩
theorem keepU {g b : Nat} {v0 v1 v2 v3 v4 u0 u1 u2 : Value} {w w1 : World} (h : (w.cell? ⟨g, 0, none⟩ = some v0 ∧ w.cell? ⟨g, 1, none⟩ = some v1 ∧ w.cell? ⟨g, 2, none⟩ = some v2 ∧ w.cell? ⟨g, 3, none⟩ = some v3 ∧ w.cell? ⟨g, 4, none⟩ = some v4) ∧ (w.cell? ⟨b, 0, none⟩ = some u0 ∧ w.cell? ⟨b, 1, none⟩ = some u1 ∧ w.cell? ⟨b, 2, none⟩ = some u2)) (hb : Below w.heap.size w w1) :
    (w1.cell? ⟨g, 0, none⟩ = some v0 ∧ w1.cell? ⟨g, 1, none⟩ = some v1 ∧ w1.cell? ⟨g, 2, none⟩ = some v2 ∧ w1.cell? ⟨g, 3, none⟩ = some v3 ∧ w1.cell? ⟨g, 4, none⟩ = some v4) ∧ (w1.cell? ⟨b, 0, none⟩ = some u0 ∧ w1.cell? ⟨b, 1, none⟩ = some u1 ∧ w1.cell? ⟨b, 2, none⟩ = some u2) :=
  ⟨⟨pw_cell_below hb h.1.1, pw_cell_below hb h.1.2.1, pw_cell_below hb h.1.2.2.1, pw_cell_below hb h.1.2.2.2.1, pw_cell_below hb h.1.2.2.2.2⟩, pw_cell_below hb h.2.1, pw_cell_below hb h.2.2.1, pw_cell_below hb h.2.2.2⟩
theorem keepUS {g b x : Nat} {v0 v1 v2 v3 v4 u0 u1 u2 y0 y1 y2 : Value} {w W : World} (h1 : g < x) (h2 : b < x) (h : (w.cell? ⟨g, 0, none⟩ = some v0 ∧ w.cell? ⟨g, 1, none⟩ = some v1 ∧ w.cell? ⟨g, 2, none⟩ = some v2 ∧ w.cell? ⟨g, 3, none⟩ = some v3 ∧ w.cell? ⟨g, 4, none⟩ = some v4) ∧ (w.cell? ⟨b, 0, none⟩ = some u0 ∧ w.cell? ⟨b, 1, none⟩ = some u1 ∧ w.cell? ⟨b, 2, none⟩ = some u2))
    (hW : W = ((w.setCell ⟨x, 0, none⟩ y0).setCell ⟨x, 1, none⟩ y1).setCell ⟨x, 2, none⟩ y2) :
    (W.cell? ⟨g, 0, none⟩ = some v0 ∧ W.cell? ⟨g, 1, none⟩ = some v1 ∧ W.cell? ⟨g, 2, none⟩ = some v2 ∧ W.cell? ⟨g, 3, none⟩ = some v3 ∧ W.cell? ⟨g, 4, none⟩ = some v4) ∧ (W.cell? ⟨b, 0, none⟩ = some u0 ∧ W.cell? ⟨b, 1, none⟩ = some u1 ∧ W.cell? ⟨b, 2, none⟩ = some u2) := by
  subst hW
  obtain ⟨⟨a0, a1, a2, a3, a4⟩, b0, b1, b2⟩ := h
  have n1 : x ≠ g := by omega
  have n2 : x ≠ b := by omega
  refine ⟨⟨?_, ?_, ?_, ?_, ?_⟩, ?_, ?_, ?_⟩ <;> simp [World.cell?_setCell_other, n1, n2, n1.symm, n2.symm, a0, a1, a2, a3, a4, b0, b1, b2]
theorem fin7 {w W7 : World} {g : Nat} {v7 : Value} {outc : List Rat} {xS : Bool} {xN xD : ByteArray} (Z : W7.heap[g]? = some (.cells #[.bool false, .string ⟨#[]⟩, .string ⟨#[]⟩] 23)) (hr : kQ.R 23 W7 (w.heap.size + 3) (fun _ => True) v7 outc) (hne : some g ≠ v7.ownBlock) (h3 : W7.heap[w.heap.size + 1 + 1]? = some (.cells #[.bool false, .string ⟨#[]⟩, .string ⟨#[]⟩] 23)) (hB : Below w.heap.size w W7) (hg : w.heap.size + 3 ≤ g) :
    ∃ g' : Nat, (Value.pointer (some ⟨g, 0, none⟩)) = .pointer (some ⟨g', 0, none⟩) ∧ Aside0 (w.heap.size + 3 ≤ g') ∧ Aside0 ((((W7.setCell ⟨g, 0, none⟩ (.bool xS)).setCell ⟨g, 1, none⟩ (.string xN)).setCell ⟨g, 2, none⟩ (.string xD)).heap[g']? = some (.cells #[.bool xS, .string xN, .string xD] 23)) ∧ Aside0 (kQ.R 23 (((W7.setCell ⟨g, 0, none⟩ (.bool xS)).setCell ⟨g, 1, none⟩ (.string xN)).setCell ⟨g, 2, none⟩ (.string xD)) (w.heap.size + 3) (fun _ => True) v7 outc) ∧ Aside0 ((((W7.setCell ⟨g, 0, none⟩ (.bool xS)).setCell ⟨g, 1, none⟩ (.string xN)).setCell ⟨g, 2, none⟩ (.string xD)).heap[w.heap.size + 1 + 1]? = some (.cells #[.bool false, .string ⟨#[]⟩, .string ⟨#[]⟩] 23)) ∧ Aside0 (Below w.heap.size w (((W7.setCell ⟨g, 0, none⟩ (.bool xS)).setCell ⟨g, 1, none⟩ (.string xN)).setCell ⟨g, 2, none⟩ (.string xD))) :=
  ⟨g, rfl, ⟨hg⟩, ⟨set3 Z _ _ _⟩, ⟨R_setfar rfl (R_setfar rfl (R_setfar rfl hr hne _ _) hne _ _) hne _ _⟩, ⟨by rw [heap_far _ (by omega), heap_far _ (by omega), heap_far _ (by omega)]; exact h3⟩, ⟨below_set (below_set (below_set hB (by omega)) (by omega)) (by omega)⟩⟩
theorem fin7D {w W7 : World} {v7 : Value} {outc : List Rat} {xS : Bool} {xN xD : ByteArray} (hr : kQ.R 23 W7 (w.heap.size + 3) (fun _ => True) v7 outc) (h3 : W7.heap[w.heap.size + 1 + 1]? = some (.cells #[.bool false, .string ⟨#[]⟩, .string ⟨#[]⟩] 23)) (hB : Below w.heap.size w W7) (hg : w.heap.size + 3 ≤ W7.heap.size) :
    ∃ g' : Nat, (Value.pointer (some ⟨W7.heap.size, 0, none⟩)) = .pointer (some ⟨g', 0, none⟩) ∧ Aside0 (w.heap.size + 3 ≤ g') ∧ Aside0 ((W7.alloc (.cells #[.bool xS, .string xN, .string xD] 23)).heap[g']? = some (.cells #[.bool xS, .string xN, .string xD] 23)) ∧ Aside0 (kQ.R 23 (W7.alloc (.cells #[.bool xS, .string xN, .string xD] 23)) (w.heap.size + 3) (fun _ => True) v7 outc) ∧ Aside0 ((W7.alloc (.cells #[.bool xS, .string xN, .string xD] 23)).heap[w.heap.size + 1 + 1]? = some (.cells #[.bool false, .string ⟨#[]⟩, .string ⟨#[]⟩] 23)) ∧ Aside0 (Below w.heap.size w (W7.alloc (.cells #[.bool xS, .string xN, .string xD] 23))) :=
  ⟨W7.heap.size, rfl, ⟨hg⟩, ⟨heap_new _ _⟩, ⟨Kd.R_below hr (below_alloc (Below.refl _ _) _)⟩, ⟨heap_old h3⟩, ⟨below_alloc hB _⟩⟩
set_option maxRecDepth 100000 in
set_option maxHeartbeats 1000000 in
theorem w_Deliver (cash : RatF) (cs : List ClaimV) (gs : List (List (List PartV))) (A : Option Addr) (c : Nat) (B : Option Addr) (d : Nat) (m : RatF) (w : World) (hR : ReadsE w cash cs gs A c B d) (hS : ShortE cash cs gs) (hm : ShortR m)
    (hk : estErr cash cs gs = 0 → LayEOk cs gs ∧ DelOk (layE cs gs) (maxQ m.q 0)) :
    Calls Tryz.prog 19 #[EV cash A cs.length c B gs.length d, RV m.neg m.num m.den] w fun e w' => ∃ v, e = .returned (.tuple #[v, RQ (delR cash cs gs m).reserve, .int .i64 (estErr cash cs gs)]) ∧ kQ.R 23 w' w.heap.size (fun _ => True) v (delR cash cs gs m).claims ∧ Below w.heap.size w w' := by
  have HR := Aside0.mk hR
  have CK := Aside0.mk (fun (w' : World) (hb : Below w.heap.size w w') => w_Check cash cs gs A c B d w' (hR.below hb) hS)
  have LY := Aside0.mk (fun (w' : World) (hb : Below w.heap.size w w') (h0 : estErr cash cs gs = 0) => w_Lay cash cs gs A c B d w' (hR.below hb) (hk h0).1)
  have PO := Aside0.mk (fun (w' : World) => w_positive m.neg m.num m.den w' hm.n hm.d hm.q)
  rw [show rq m.neg m.num m.den = m.q from rfl] at PO
  have DL := Aside0.mk (fun (w' : World) (lv : Value) (h0 : estErr cash cs gs = 0) h => w_LDeliver (layE cs gs) lv (maxQ m.q 0) w' h (hk h0).2)
  have HD := Lib.hid (show delR cash cs gs m = if estErr cash cs gs = 0 then deliverOf (layE cs gs) (maxQ m.q 0) else ⟨[], 0⟩ from rfl)
  clear hk hS hm hR
  simp only [EV, RQ] at CK LY PO DL ⊢
  generalize delR cash cs gs m = out at *
  generalize maxQ m.q 0 = mq at *
  generalize m.neg = mS at *
  generalize m.num = mN at *
  generalize m.den = mD at *
  generalize cash.neg = neg0 at *
  generalize cash.num = num0 at *
  generalize cash.den = den0 at *
  obtain ⟨t1, t2, t3, tB⟩ := three w (.cells #[.bool neg0, .string num0, .string den0, .slice A cs.length c, .slice B gs.length d] 27) (.cells #[.bool mS, .string mN, .string mD] 23) (.cells #[.bool false, .string ⟨#[]⟩, .string ⟨#[]⟩] 23) 0
  rw [show ∀ w : World, w.drewN 0 = w from fun _ => rfl] at t1 t2 t3 tB
  have N1 := Lib.hid t1
  have N2 := Lib.hid t2
  have N3 := Lib.hid t3
  have NB := Aside0.mk tB
  obtain ⟨a0, a1, a2, a3, a4⟩ := cells5 t1
  clear t1 t2 t3 tB
  by_cases hc0 : estErr cash cs gs = 0
  · replace LY := Aside0.mk (fun w' hb => LY.out w' hb hc0)
    replace DL := Aside0.mk (fun w' lv h => DL.out w' lv hc0 h)
    have HD1 := Lib.hid (show out = deliverOf (layE cs gs) mq by rw [HD.out, if_pos hc0])
    clear HD
    rw [hc0] at CK
    rw [hc0]
    clear hc0
    rw [← HD1.out] at DL
    generalize layE cs gs = L at *
    clear HD1
    obtain ⟨xS, hxS⟩ : ∃ s, s = canS out.reserve := ⟨_, rfl⟩
    obtain ⟨xN, hxN⟩ : ∃ s, s = canN out.reserve := ⟨_, rfl⟩
    obtain ⟨xD, hxD⟩ : ∃ s, s = canD out.reserve := ⟨_, rfl⟩
    rw [← hxS, ← hxN, ← hxD] at DL ⊢
    clear hxS hxN hxD
    generalize out.claims = outc at *
    generalize canS mq = qS at *
    generalize canN mq = qN at *
    generalize canD mq = qD at *
    go_enter Tryz.func19, Tryz.ntmps19
    go_wp2_with (fail)
    obtain ⟨wl, hwl⟩ : ∃ wl, wl = (((w.alloc (.cells #[.bool neg0, .string num0, .string den0, .slice A cs.length c, .slice B gs.length d] 27)).alloc (.cells #[.bool mS, .string mN, .string mD] 23)).alloc (.cells #[.bool false, .string ⟨#[]⟩, .string ⟨#[]⟩] 23)) := ⟨_, rfl⟩
    rw [← hwl] at N1 N2 N3 NB
    rw [← hwl]
    clear hwl a0 a1 a2 a3 a4
    refine (CK.out _ NB.out).mono ?_
    rintro e w1 ⟨rfl, hb1⟩
    have M1 := Lib.hid (heap_b hb1 N1.out)
    have M2 := Lib.hid (heap_b hb1 N2.out)
    have M3 := Lib.hid (heap_b hb1 N3.out)
    have MB := Aside0.mk (below_s hb1 NB.out)
    clear hb1 N1 N2 N3 NB CK
    go_wp2_with (fail)
    go_cut [8, 9] (fun v8 v9 wc => ∃ g : Nat, v9 = .pointer (some ⟨g, 0, none⟩) ∧ Aside0 (w.heap.size + 3 ≤ g) ∧ Aside0 (wc.heap[g]? = some (.cells #[.bool xS, .string xN, .string xD] 23)) ∧ Aside0 (kQ.R 23 wc (w.heap.size + 3) (fun _ => True) v8 outc) ∧ Aside0 (wc.heap[w.heap.size + 1 + 1]? = some (.cells #[.bool false, .string ⟨#[]⟩, .string ⟨#[]⟩] 23)) ∧ Aside0 (Below w.heap.size w wc))
    case first =>
      have S0 := Lib.hid (And.intro (cells5 M1.out) (cells3 M2.out).1)
      have hz1 := Lib.hid (show w.heap.size + 3 ≤ w1.heap.size by have := blk_lt M3.out; omega)
      have hz1d := Lib.hid (show w1.drew.heap.size = w1.heap.size from rfl)
      have hz1a := Lib.hid (size_new w1.drew (.cells #[.bool false, .string ⟨#[]⟩, .string ⟨#[]⟩] 23))
      go_region_held3 (fun w' => (w'.cell? ⟨w.heap.size, 0, none⟩ = some (.bool neg0) ∧ w'.cell? ⟨w.heap.size, 1, none⟩ = some (.string num0) ∧ w'.cell? ⟨w.heap.size, 2, none⟩ = some (.string den0) ∧ w'.cell? ⟨w.heap.size, 3, none⟩ = some (.slice A cs.length c) ∧ w'.cell? ⟨w.heap.size, 4, none⟩ = some (.slice B gs.length d)) ∧ (w'.cell? ⟨w.heap.size + 1, 0, none⟩ = some (.bool mS) ∧ w'.cell? ⟨w.heap.size + 1, 1, none⟩ = some (.string mN) ∧ w'.cell? ⟨w.heap.size + 1, 2, none⟩ = some (.string mD)))
        (first | exact keepU S0.out (pw_below_drewN (Below.refl _ _) 1) | exact keepU S0.out (below_alloc (pw_below_drewN (Below.refl _ _) 1) _) | exact And.intro (cells5 P51.out) (cells3 P52.out).1 | exact keepU (And.intro (cells5 P51.out) (cells3 P52.out).1) (below_alloc (Below.refl _ _) _) | exact And.intro (cells5 P61.out) (cells3 P62.out).1 | exact keepU (And.intro (cells5 P61.out) (cells3 P62.out).1) (below_alloc (Below.refl _ _) _) | exact And.intro (cells5 P71.out) (cells3 P72.out).1 | exact keepU (And.intro (cells5 P71.out) (cells3 P72.out).1) (below_alloc (Below.refl _ _) _) | exact keepUS (by omega) (by omega) (And.intro (cells5 P71.out) (cells3 P72.out).1) rfl | exact keepUS (by omega) (by omega) (keepU (And.intro (cells5 P71.out) (cells3 P72.out).1) (below_alloc (Below.refl _ _) _)) rfl)
        (first
          | (go_at_call 47; refine (LY.out _ (by first | exact below_drew MB.out | exact below_alloc (below_drew MB.out) _)).mono ?_; rintro e w5 ⟨lv, rfl, hIL, hb5⟩; have BB5 : Below w1.heap.size w1 w5 := (by first | exact below_s hb5 (below_drew (Below.refl _ _)) | exact below_s hb5 (below_alloc (below_drew (Below.refl _ _)) _)); have P51 := Lib.hid (heap_b BB5 M1.out); have P52 := Lib.hid (heap_b BB5 M2.out); have P53 := Lib.hid (heap_b BB5 M3.out); have hz5 := BB5.size; (first | have Z5 := Lib.hid (show w5.heap[w1.heap.size]? = _ from heap_b hb5 (heap_new w1.drew (.cells #[.bool false, .string ⟨#[]⟩, .string ⟨#[]⟩] 23))) | have Z5 := P53); have hz1' := hz1.out; have HIL := Aside0.mk hIL; have HB5 := Aside0.mk (below_s BB5 MB.out); clear hIL hb5)
          | (go_at_call 49; refine (PO.out _).mono ?_; rintro e w6 ⟨rfl, hb6⟩; have BB6 : Below w5.heap.size w5 w6 := (by first | exact hb6 | exact below_s hb6 (below_alloc (Below.refl _ _) _)); have P61 := Lib.hid (heap_b BB6 P51.out); have P62 := Lib.hid (heap_b BB6 P52.out); have P63 := Lib.hid (heap_b BB6 P53.out); have hz6 := BB6.size; (first | have Z6 := Lib.hid (heap_b hb6 (heap_new w5 (.cells #[.bool false, .string ⟨#[]⟩, .string ⟨#[]⟩] 23))) | have Z6 := Lib.hid (heap_b hb6 Z5.out)); have HB6 := Aside0.mk (below_s BB6 HB5.out); have HIL6 := Aside0.mk (HIL.out.below BB6); clear hb6)
          | (go_at_call 48; refine (DL.out _ lv (by first | exact HIL6.out | exact HIL6.out.below (below_alloc (Below.refl _ _) _))).mono ?_; rintro e w7 ⟨v7, rfl, hr7, hb7⟩; have BB7 : Below w6.heap.size w6 w7 := (by first | exact hb7 | exact below_s hb7 (below_alloc (Below.refl _ _) _)); have P71 := Lib.hid (heap_b BB7 P61.out); have P72 := Lib.hid (heap_b BB7 P62.out); have P73 := Lib.hid (heap_b BB7 P63.out); have hz7 := BB7.size; (first | have Z7 := Lib.hid (heap_b hb7 (heap_new w6 (.cells #[.bool false, .string ⟨#[]⟩, .string ⟨#[]⟩] 23))) | have Z7 := Lib.hid (heap_b hb7 Z6.out)); obtain ⟨⟨z0, z1, z2⟩, z3, z4, z5⟩ := cells3 Z7.out; have HB7 := Aside0.mk (below_s BB7 HB6.out); have H7 := Aside0.mk (Kd.R_base hr7); have HR7 := Aside0.mk (Kd.R_lower hr7 (Nat.le_trans (show w.heap.size + 3 ≤ w6.heap.size by omega) (by first | exact Nat.le_refl _ | exact (below_alloc (Below.refl w6.heap.size w6) _).size))); clear hr7 hb7))
      · go_wp2_with (fail)
        go_meet
        case rel =>
          have hg3 : w.heap.size + 3 ≤ w7.heap.size := by omega
          exact fin7D HR7.out P73.out HB7.out hg3
      all_goals
        have hz6a := size_new w6 (.cells #[.bool false, .string ⟨#[]⟩, .string ⟨#[]⟩] 23)
        have hz1d' := hz1d.out
        go_wp2_with (fail)
        go_meet
      case rel =>
        have hg3 : w.heap.size + 3 ≤ w6.heap.size := by omega
        have hne : some w6.heap.size ≠ v7.ownBlock := fun e => by have := H7.out _ e.symm; have := blk_lt Z6.out; have := size_new w6 (.cells #[.bool false, .string ⟨#[]⟩, .string ⟨#[]⟩] 23); have : w1.drew.heap.size = w1.heap.size := rfl; omega
        exact fin7 Z7.out HR7.out hne P73.out HB7.out hg3
      case rel =>
        have hg3 : w.heap.size + 3 ≤ w5.heap.size := by omega
        have hne : some w5.heap.size ≠ v7.ownBlock := fun e => by have := H7.out _ e.symm; have := blk_lt Z6.out; have := size_new w6 (.cells #[.bool false, .string ⟨#[]⟩, .string ⟨#[]⟩] 23); have : w1.drew.heap.size = w1.heap.size := rfl; omega
        exact fin7 Z7.out HR7.out hne P73.out HB7.out hg3
      case rel =>
        have hg3 : w.heap.size + 3 ≤ w1.heap.size := by omega
        have hne : some w1.heap.size ≠ v7.ownBlock := fun e => by have := H7.out _ e.symm; have := blk_lt Z6.out; have := size_new w6 (.cells #[.bool false, .string ⟨#[]⟩, .string ⟨#[]⟩] 23); have : w1.drew.heap.size = w1.heap.size := rfl; omega
        exact fin7 Z7.out HR7.out hne P73.out HB7.out hg3
    case rest =>
      obtain ⟨g, rfl, hg, hG, hV, hN3, hB⟩ := hcut
      obtain ⟨A9, c9, rfl⟩ := Kd.R_slice hV.out
      have S0 := Lib.hid (And.intro (cells3 hG.out).1 hB)
      have hgg := hg.out
      have hne2 := Aside0.mk (show some (w.heap.size + 1 + 1) ≠ (Value.slice A9 outc.length c9).ownBlock from fun e => by have := Kd.R_base hV.out _ e.symm; omega)
      obtain ⟨⟨d0, d1, d2⟩, d3, d4, d5⟩ := cells3 hN3.out
      clear hG hN3
      go_wp2_with (fail)
      go_region_held3 (fun w' => (w'.cell? ⟨g, 0, none⟩ = some (.bool xS) ∧ w'.cell? ⟨g, 1, none⟩ = some (.string xN) ∧ w'.cell? ⟨g, 2, none⟩ = some (.string xD)) ∧ Aside0 (Below w.heap.size w w'))
        (first | exact keepB3 S0.out (pw_below_drewN (Below.refl _ _) 1) | exact keepB3 (by assumption) (by assumption) | exact keepSB3 (by omega) (by omega) (by assumption) rfl | exact keepB3 (keepSB3 (by omega) (by omega) S0.out rfl) (pw_below_drewN (Below.refl _ _) 1))
        (fail)
      rename_i hS9
      go_wp2_with (fail)
      refine bodyPost_ret (v := .tuple #[.slice A9 outc.length c9, RV xS xN xD, .int .i64 0]) ?_ rfl ⟨_, rfl, ?_, hS9.2.out⟩
      · exact results_tqt rfl _ _ (w.heap.size + 1 + 1) rfl (by rfl) (by rfl) (by go_simp) (by go_simp) (by go_simp)
      · exact Kd.R_drew (R_setfar rfl (R_setfar rfl (R_setfar rfl (Kd.R_lower hV.out (Nat.le_add_right _ 3)) hne2.out _ _) hne2.out _ _) hne2.out _ _)
  · have HD1 := Lib.hid (show out = ⟨[], 0⟩ by rw [HD.out, if_neg hc0])
    generalize estErr cash cs gs = code at *
    clear HD LY PO DL HR
    rw [HD1.out]
    rw [can_zero.1, can_zero.2.1, can_zero.2.2]
    go_enter Tryz.func19, Tryz.ntmps19
    go_wp2_with (fail)
    obtain ⟨wl, hwl⟩ : ∃ wl, wl = (((w.alloc (.cells #[.bool neg0, .string num0, .string den0, .slice A cs.length c, .slice B gs.length d] 27)).alloc (.cells #[.bool mS, .string mN, .string mD] 23)).alloc (.cells #[.bool false, .string ⟨#[]⟩, .string ⟨#[]⟩] 23)) := ⟨_, rfl⟩
    rw [← hwl] at N1 N2 N3 NB
    rw [← hwl]
    clear hwl a0 a1 a2 a3 a4
    refine (CK.out _ NB.out).mono ?_
    rintro e w1 ⟨rfl, hb1⟩
    obtain ⟨⟨d0, d1, d2⟩, d3, d4, d5⟩ := cells3 (heap_b hb1 N3.out)
    have MB := Aside0.mk (below_s hb1 NB.out)
    clear hb1 N1 N2 N3 NB CK
    have hcd : (code == 0) = false := by simp [hc0]
    go_wp2
    refine bodyPost_ret (v := .tuple #[.slice none 0 0, RV false ⟨#[]⟩ ⟨#[]⟩, .int .i64 code]) ?_ rfl ⟨_, rfl, Kd.R_nil _ _ _ _ _, ?_⟩
    · exact results_tqt rfl _ _ (w.heap.size + 1 + 1) rfl (by rfl) (by rfl) (by go_simp) (by go_simp) (by go_simp)
    · exact below_set (below_set (below_set MB.out (by omega)) (by omega)) (by omega)
end Go.Proofs.YtnimgfnknlkkdaaGreatDoor.H
set_option linter.unusedVariables false
set_option linter.unusedSimpArgs false
open Go
namespace Go.Proofs.YtnimgfnknlkkdaaGreatDoor.H
open Go Go.RowKit Go.Proofs.YtnimgfnknlkkdaaGreatDoorW.PrintWords Go.Proofs.YtnimgfnknlkkdaaGreatDoorW.PrintLast Go.Proofs.YtnimgfnknlkkdaaGreatDoorW.PrintMore Go.Proofs.YtnimgfnknlkkdaaGreatDoor.Num
/-- A slice that was just written out. -/
theorem C_new {k : IntKind} (w : World) (l : List Int) (cells : Array Value) (hcs : cells.toList = l.map (Value.int k)) (t : TypeId) (hl : l.length ≤ 4611686018427387904) : Kd.C (Kd.int k) (w.alloc (.cells cells t)) (some ⟨w.heap.size, 0, none⟩) l.length l := by
  refine ⟨rfl, by omega, fun _ => ⟨_, rfl, fun j p hp => ?_⟩⟩
  refine ⟨[.int k p], rfl, rfl, fun i u hu => ?_⟩
  have hi : i = 0 := by have := (List.getElem?_eq_some_iff.1 hu).1; simp at this; omega
  subst hi
  simp at hu
  subst hu
  have h1 : cells[j]? = some (.int k p) := by
    rw [← Array.getElem?_toList, hcs, List.getElem?_map, hp]; rfl
  have e : (Addr.add ⟨w.heap.size, 0, none⟩ (j * (Kd.int k).sz + 0)) = ⟨w.heap.size, j, none⟩ := by
    show (Addr.add ⟨w.heap.size, 0, none⟩ (j * 1 + 0)) = _
    cases j <;> simp [Addr.add]
  rw [e]
  rw [cell_new]
  exact h1
theorem natural_FromUint (u : Int) (w : World) (h0 : 0 ≤ u) (h1 : u < 9223372036854775808) :
    Calls Tryz.prog 99 #[.int .u64 u] w fun e w' => e = .returned (.string (natB u.toNat)) ∧ Below w.heap.size w w' := by
  have hL : Lim [u % 4294967296, u / 4294967296] := lim_cons (by omega) (lim_cons (by omega) lim_nil)
  have hv : val [u % 4294967296, u / 4294967296] = u.toNat := by simp only [val]; omega
  have T := Lib.hid (fun (w : World) (A : Option Addr) hC => natural_text [u % 4294967296, u / 4294967296] A 2 w hL (Nat.le_refl _) hC (by simp))
  rw [hv] at T
  have C := Lib.hid (fun (w : World) (cells : Array Value) hc => @C_new .u32 w [u % 4294967296, u / 4294967296] cells hc 140 (by simp))
  have e1 : u / 4294967296 % 4294967296 = u / 4294967296 := by omega
  clear hL hv
  generalize natB u.toNat = r at *
  go_enter Tryz.func99, Tryz.ntmps99
  go_wp2_with (go_at_call 92; refine (T.out _ _ (C.out _ _ rfl)).mono ?_; rintro e w1 ⟨rfl, hb1⟩)
  go_ret
  exact ⟨rfl, below_step (below_alloc (Below.refl _ _) _) hb1⟩
theorem rational_magnitude (n : Int) (w : World) (h0 : 0 ≤ n) (h1 : n < 9223372036854775808) :
    Calls Tryz.prog 60 #[.int .i64 n] w fun e w' => e = .returned (.string (natB n.toNat)) ∧ Below w.heap.size w w' := by
  have F := Lib.hid (fun w => natural_FromUint n w h0 h1)
  generalize natB n.toNat = r at *
  go_enter Tryz.func60, Tryz.ntmps60
  go_wp2_with (go_at_call 99; refine (F.out _).mono ?_; rintro e w1 ⟨rfl, hb1⟩)
  go_ret
  exact ⟨rfl, hb1⟩
theorem rational_Int (n : Nat) (w : World) (h1 : n < 9223372036854775808) :
    Calls Tryz.prog 31 #[.int .i64 n] w fun e w' => e = .returned (QV (n : Rat)) ∧ Below w.heap.size w w' := by
  have M := Lib.hid (fun w => rational_magnitude n w (by omega) (by omega))
  rw [Int.toNat_natCast] at M
  have hz : (natB n).size ≤ 8 := natB_size_le (by omega)
  have R := Lib.hid (fun w => rational_reduced false (natB n) ⟨#[1]⟩ w (by omega) (by decide) (by decide))
  rw [bval_natB] at R
  have e : mkQ false n (bval ⟨#[1]⟩) = (n : Rat) := by
    rw [show bval ⟨#[1]⟩ = 1 by decide]
    simp [mkQ, Rat.mkRat_one, Rat.intCast_natCast]
  rw [e] at R
  generalize (n : Rat) = x at *
  generalize natB n = s at *
  simp only [QV] at R ⊢
  generalize canS x = xS at *
  generalize canN x = xN at *
  generalize canD x = xD at *
  clear hz
  have h0 : ¬ (n : Int) < 0 := by omega
  go_enter Tryz.func31, Tryz.ntmps31
  go_wp2_with (fail)
  refine (M.out _).mono ?_
  rintro e w1 ⟨rfl, hb1⟩
  have H := Lib.hid (And.intro (heap_b hb1 (heap_new w (.cells #[.bool false, .string ⟨#[]⟩, .string ⟨#[]⟩] 23))) (below_s hb1 (below_alloc (Below.refl _ _) _)))
  clear hb1
  go_wp2_with (go_at_call 52; refine (R.out _).mono ?_; rintro e w2 ⟨rfl, hb2⟩; obtain ⟨⟨c1, c2, c3⟩, c4, c5, c6⟩ := cells3 (heap_b hb2 H.out.1))
  refine bodyPost_ret (v := RV xS xN xD) ?_ rfl ⟨rfl, ?_⟩
  · exact results_q rfl _ _ w.heap.size rfl (by go_simp) (by go_simp) (by go_simp)
  · exact below_set (below_set (below_set (below_s hb2 H.out.2) (Nat.le_refl _)) (Nat.le_refl _)) (Nat.le_refl _)
end Go.Proofs.YtnimgfnknlkkdaaGreatDoor.H
set_option linter.unusedVariables false
set_option linter.unusedSimpArgs false
open Go
namespace Go.Proofs.YtnimgfnknlkkdaaGreatDoor.H
open Go Go.RowKit Go.Proofs.YtnimgfnknlkkdaaGreatDoorW.PrintWords Go.Proofs.YtnimgfnknlkkdaaGreatDoorW.PrintLast Go.Proofs.YtnimgfnknlkkdaaGreatDoorW.PrintMore Go.Proofs.YtnimgfnknlkkdaaGreatDoor.Num
/-! law 17: two -/
/-- A row that was written out. -/
theorem C_reps {α : Type} {d : Kd α} {w : World} {g : Nat} {xs : List α} {cs : List Value} {t : TypeId} (hb : w.heap[g]? = some (.cells cs.toArray t)) (h : Reps (d.K w) d.sz xs cs) (hm : xs.length ≤ 9223372036854775807) : d.C w (some ⟨g, 0, none⟩) xs.length xs := by
  refine ⟨rfl, hm, fun _ => ⟨_, rfl, fun j p hp => ⟨(cs.drop (j * d.sz)).take d.sz, d.K_len (h.2 j p hp), h.2 j p hp, fun i u hu => ?_⟩⟩⟩
  have hi : i < d.sz := by
    have h1 := (List.getElem?_eq_some_iff.1 hu).1
    have h2 := d.K_len (h.2 j p hp)
    omega
  rw [List.getElem?_take, if_pos hi, List.getElem?_drop] at hu
  rw [add_plain]
  simp [World.cell?, hb, hu]
theorem kR3_K (w : World) (x : RatF) : kR3.K w x [.bool x.neg, .string x.num, .string x.den] := kR3.K_of_M (kR3_mk w 0 (fun _ => True) x)
theorem kClaim_K (w : World) (x : ClaimV) : kClaim.K w x [.int .i64 x.holder, .int .i64 x.rank, .bool x.amount.neg, .string x.amount.num, .string x.amount.den] :=
  ⟨[.int .i64 x.holder], _, rfl, rfl, [.int .i64 x.rank], _, rfl, rfl, kR3_K w x.amount⟩
theorem kPart_K (w : World) (x : PartV) : kPart.K w x [.int .i64 x.claim, .bool x.capped, .bool x.cap.neg, .string x.cap.num, .string x.cap.den] := kPart.K_of_M (kPart_mk w 0 (fun _ => True) x)
def qF (x : Rat) : RatF := ⟨canS x, canN x, canD x⟩
theorem qF_q (x : Rat) : (qF x).q = x := rq_can x
def twoC : List ClaimV := [⟨-1, 2, qF 60⟩, ⟨-1, 2, qF 40⟩]
def twoG (ts : List (List PartV)) : List (List (List PartV)) := if ts.length = 0 then [] else [ts]
theorem results_E5 {fn : Func} {p : Tmp} (h : fn.results = #[.cell p 27]) (tmps : Array Value) (w : World) (g : Nat) {a b c d e : Value} (hp : tmps.getD p undef = .pointer (some ⟨g, 0, none⟩))
    (h0 : w.cell? ⟨g, 0, none⟩ = some a) (h1 : w.cell? ⟨g, 1, none⟩ = some b) (h2 : w.cell? ⟨g, 2, none⟩ = some c) (h3 : w.cell? ⟨g, 3, none⟩ = some d) (h4 : w.cell? ⟨g, 4, none⟩ = some e) : (results fn tmps).run Tryz.prog w = .ok (.agg #[a, b, c, d, e]) w := by
  have hp' : tmps[p]?.getD undef = .pointer (some ⟨g, 0, none⟩) := by simpa using hp
  simp only [results, h]
  simp [Sem.run_bind, Result.andThen, asAddr, hp']
  go_simp
set_option maxRecDepth 100000 in
set_option maxHeartbeats 1000000 in
theorem lw_two (ts : List (List PartV)) (T : Option Addr) (tc : Nat) (w : World) (hT : kTier.C w T ts.length ts) (htc : ts.length ≤ tc) :
    Calls Tryz.prog 41 #[.slice T ts.length tc] w fun e w' => ∃ A B, e = .returned (EV zR A twoC.length 2 B (twoG ts).length (twoG ts).length) ∧ ReadsE w' zR twoC (twoG ts) A 2 B (twoG ts).length ∧ Below w.heap.size w w' := by
  have I60 := Lib.hid (fun w => rational_Int 60 w (by decide))
  have I40 := Lib.hid (fun w => rational_Int 40 w (by decide))
  simp only [QV] at I60 I40
  have HT := Aside0.mk hT
  have HTC := Lib.hid htc
  have hm := hT.2.1
  have HC := Lib.hid (show twoC = [⟨-1, 2, ⟨canS 60, canN 60, canD 60⟩⟩, ⟨-1, 2, ⟨canS 40, canN 40, canD 40⟩⟩] from rfl)
  clear hT htc
  rw [show ((60 : Nat) : Rat) = 60 from rfl, show ((60 : Nat) : Int) = 60 from rfl] at I60
  rw [show ((40 : Nat) : Rat) = 40 from rfl, show ((40 : Nat) : Int) = 40 from rfl] at I40
  generalize canS 60 = aS at *
  generalize canN 60 = aN at *
  generalize canD 60 = aD at *
  generalize canS 40 = bS at *
  generalize canN 40 = bN at *
  generalize canD 40 = bD at *
  have hz := Lib.hid (show zR.neg = false ∧ zR.num = ⟨#[]⟩ ∧ zR.den = ⟨#[]⟩ from ⟨rfl, rfl, rfl⟩)
  have HK1 := Aside0.mk (fun (W : World) => kClaim_K W ⟨-1, 2, ⟨aS, aN, aD⟩⟩)
  have HK2 := Aside0.mk (fun (W : World) => kClaim_K W ⟨-1, 2, ⟨bS, bN, bD⟩⟩)
  have HCC := Aside0.mk (fun (W : World) (g : Nat) (h : W.heap[g]? = some (.cells #[.int .i64 (-1), .int .i64 2, .bool aS, .string aN, .string aD, .int .i64 (-1), .int .i64 2, .bool bS, .string bN, .string bD] 50)) => (show kClaim.C W (some ⟨g, 0, none⟩) twoC.length twoC from by
    rw [HC.out]
    refine C_reps (cs := [.int .i64 (-1), .int .i64 2, .bool aS, .string aN, .string aD, .int .i64 (-1), .int .i64 2, .bool bS, .string bN, .string bD]) h ?_ (Nat.le_of_ble_eq_true rfl)
    exact Reps.snoc (Reps.snoc (Reps.none _ _) (HK1.out W) rfl) (HK2.out W) rfl))
  rcases Nat.eq_zero_or_pos ts.length with h0 | h0
  · have HG := Lib.hid (show twoG ts = [] by rw [twoG, if_pos h0])
    rw [h0]
    clear HT HTC hm h0
    obtain ⟨wz, hwz⟩ : ∃ wz, wz = w.alloc (.cells #[.bool false, .string ⟨#[]⟩, .string ⟨#[]⟩, .slice none 0 0, .slice none 0 0] 27) := ⟨_, rfl⟩
    have N1 := Lib.hid (heap_new w (.cells #[.bool false, .string ⟨#[]⟩, .string ⟨#[]⟩, .slice none 0 0, .slice none 0 0] 27))
    have NB := Aside0.mk (below_alloc (Below.refl w.heap.size w) (.cells #[.bool false, .string ⟨#[]⟩, .string ⟨#[]⟩, .slice none 0 0, .slice none 0 0] 27))
    rw [← hwz] at N1 NB
    go_enter Tryz.func41, Tryz.ntmps41
    go_wp2_with (fail)
    rw [← hwz]
    clear hwz
    go_wp2_with (first
      | (go_at_call 31; refine (I60.out _).mono ?_; rintro e w1 ⟨rfl, hb1⟩; have M1 := Lib.hid (heap_b hb1 N1.out); have MB := Aside0.mk (below_s hb1 NB.out); clear hb1)
      | (go_at_call 31; refine (I40.out _).mono ?_; rintro e w2 ⟨rfl, hb2⟩; have L1 := Lib.hid (heap_b hb2 M1.out); have LB := Aside0.mk (below_s hb2 MB.out); have hwl := Lib.hid (blk_lt L1.out); have KF := Lib.hid (heap_old (o := .cells #[.bool false, .string ⟨#[]⟩, .string ⟨#[]⟩, .slice (some ⟨w2.heap.size, 0, none⟩) 2 2, .slice none 0 0] 27) (heap_old (o := .cells #[.int .i64 (-1), .int .i64 2, .bool aS, .string aN, .string aD, .int .i64 (-1), .int .i64 2, .bool bS, .string bN, .string bD] 50) L1.out)); obtain ⟨c0, c1, c2, c3, c4⟩ := cells5 KF.out; have f0 := blk_frozen KF.out 0; have f1 := blk_frozen KF.out 1; have f2 := blk_frozen KF.out 2; have f3 := blk_frozen KF.out 3; have f4 := blk_frozen KF.out 4; clear hb2))
    refine bodyPost_ret (v := .agg #[.bool false, .string ⟨#[]⟩, .string ⟨#[]⟩, .slice (some ⟨w2.heap.size, 0, none⟩) 2 2, .slice none 0 0]) ?_ rfl ⟨some ⟨w2.heap.size, 0, none⟩, none, by rw [HG.out]; rfl, ⟨HCC.out _ _ ?_, Nat.le_refl _, by rw [HG.out]; exact Kd.C_nil _ _, Nat.le_refl _⟩, ?_⟩
    · exact results_E5 rfl _ _ w.heap.size rfl (by go_simp) (by go_simp) (by go_simp) (by go_simp) (by go_simp)
    · have h9 := hwl.out
      rw [heap_far _ (by omega), heap_far _ (by omega), heap_far _ (by omega), heap_far _ (by omega), heap_far _ (by omega)]
      exact heap_old (heap_new _ _)
    · exact below_set (below_set (below_set (below_set (below_set (below_alloc (below_alloc LB.out _) _) (Nat.le_refl _)) (Nat.le_refl _)) (Nat.le_refl _)) (Nat.le_refl _)) (Nat.le_refl _)
  · have g0 : (0 : Int) < (ts.length : Int) := by omega
    have HG := Lib.hid (show twoG ts = [ts] by rw [twoG, if_neg (by omega)])
    obtain ⟨wz, hwz⟩ : ∃ wz, wz = w.alloc (.cells #[.bool false, .string ⟨#[]⟩, .string ⟨#[]⟩, .slice none 0 0, .slice none 0 0] 27) := ⟨_, rfl⟩
    have N1 := Lib.hid (heap_new w (.cells #[.bool false, .string ⟨#[]⟩, .string ⟨#[]⟩, .slice none 0 0, .slice none 0 0] 27))
    have NB := Aside0.mk (below_alloc (Below.refl w.heap.size w) (.cells #[.bool false, .string ⟨#[]⟩, .string ⟨#[]⟩, .slice none 0 0, .slice none 0 0] 27))
    rw [← hwz] at N1 NB
    go_enter Tryz.func41, Tryz.ntmps41
    go_wp2_with (fail)
    rw [← hwz]
    clear hwz
    go_wp2_with (first
      | (go_at_call 31; refine (I60.out _).mono ?_; rintro e w1 ⟨rfl, hb1⟩; have M1 := Lib.hid (heap_b hb1 N1.out); have MB := Aside0.mk (below_s hb1 NB.out); clear hb1)
      | (go_at_call 31; refine (I40.out _).mono ?_; rintro e w2 ⟨rfl, hb2⟩; have L1 := Lib.hid (heap_b hb2 M1.out); have LB := Aside0.mk (below_s hb2 MB.out); have hwl := Lib.hid (blk_lt L1.out); have KF := Lib.hid (heap_old (o := .cells #[.slice T ts.length tc] 35) (heap_old (o := .cells #[.bool false, .string ⟨#[]⟩, .string ⟨#[]⟩, .slice (some ⟨w2.heap.size, 0, none⟩) 2 2, .slice (some ⟨w2.heap.size + 1 + 1, 0, none⟩) 1 1] 27) (heap_old (o := .cells #[.int .i64 (-1), .int .i64 2, .bool aS, .string aN, .string aD, .int .i64 (-1), .int .i64 2, .bool bS, .string bN, .string bD] 50) L1.out))); obtain ⟨c0, c1, c2, c3, c4⟩ := cells5 KF.out; have f0 := blk_frozen KF.out 0; have f1 := blk_frozen KF.out 1; have f2 := blk_frozen KF.out 2; have f3 := blk_frozen KF.out 3; have f4 := blk_frozen KF.out 4; clear hb2))
    have hs1 := size_new w2 (.cells #[.int .i64 (-1), .int .i64 2, .bool aS, .string aN, .string aD, .int .i64 (-1), .int .i64 2, .bool bS, .string bN, .string bD] 50)
    have hs2 := size_new (w2.alloc (.cells #[.int .i64 (-1), .int .i64 2, .bool aS, .string aN, .string aD, .int .i64 (-1), .int .i64 2, .bool bS, .string bN, .string bD] 50)) (.cells #[.bool false, .string ⟨#[]⟩, .string ⟨#[]⟩, .slice (some ⟨w2.heap.size, 0, none⟩) 2 2, .slice (some ⟨w2.heap.size + 1 + 1, 0, none⟩) 1 1] 27)
    have h3 := heap_new ((w2.alloc (.cells #[.int .i64 (-1), .int .i64 2, .bool aS, .string aN, .string aD, .int .i64 (-1), .int .i64 2, .bool bS, .string bN, .string bD] 50)).alloc (.cells #[.bool false, .string ⟨#[]⟩, .string ⟨#[]⟩, .slice (some ⟨w2.heap.size, 0, none⟩) 2 2, .slice (some ⟨w2.heap.size + 1 + 1, 0, none⟩) 1 1] 27)) (.cells #[.slice T ts.length tc] 35)
    rw [hs2, hs1] at h3
    clear hs1 hs2
    have HBF : Below w.heap.size w _ := below_set (below_set (below_set (below_set (below_set (below_alloc (below_alloc (below_alloc LB.out (.cells #[.int .i64 (-1), .int .i64 2, .bool aS, .string aN, .string aD, .int .i64 (-1), .int .i64 2, .bool bS, .string bN, .string bD] 50)) (.cells #[.bool false, .string ⟨#[]⟩, .string ⟨#[]⟩, .slice (some ⟨w2.heap.size, 0, none⟩) 2 2, .slice (some ⟨w2.heap.size + 1 + 1, 0, none⟩) 1 1] 27)) (.cells #[.slice T ts.length tc] 35)) (Nat.le_refl _) (j := 0) (v := .bool false)) (Nat.le_refl _) (j := 1) (v := .string ⟨#[]⟩)) (Nat.le_refl _) (j := 2) (v := .string ⟨#[]⟩)) (Nat.le_refl _) (j := 3) (v := .slice (some ⟨w2.heap.size, 0, none⟩) 2 2)) (Nat.le_refl _) (j := 4) (v := .slice (some ⟨w2.heap.size + 1 + 1, 0, none⟩) 1 1)
    refine bodyPost_ret (v := .agg #[.bool false, .string ⟨#[]⟩, .string ⟨#[]⟩, .slice (some ⟨w2.heap.size, 0, none⟩) 2 2, .slice (some ⟨w2.heap.size + 1 + 1, 0, none⟩) 1 1]) ?_ rfl ⟨some ⟨w2.heap.size, 0, none⟩, some ⟨w2.heap.size + 1 + 1, 0, none⟩, by rw [HG.out]; rfl, ⟨HCC.out _ _ ?_, Nat.le_refl _, ?_, Nat.le_refl _⟩, HBF⟩
    · exact results_E5 rfl _ _ w.heap.size rfl (by go_simp) (by go_simp) (by go_simp) (by go_simp) (by go_simp)
    · have h9 := hwl.out
      rw [heap_far _ (by omega), heap_far _ (by omega), heap_far _ (by omega), heap_far _ (by omega), heap_far _ (by omega)]
      exact heap_old (heap_old (heap_new _ _))
    · rw [HG.out]
      refine C_reps (t := 35) (xs := [ts]) (cs := [.slice T ts.length tc]) ?_ (Reps.snoc (Reps.none _ _) ⟨T, tc, rfl, HTC.out, Kd.C_below HT.out HBF⟩ rfl) (Nat.le_of_ble_eq_true rfl)
      have h9 := hwl.out
      rw [heap_far _ (by omega), heap_far _ (by omega), heap_far _ (by omega), heap_far _ (by omega), heap_far _ (by omega)]
      exact h3
end Go.Proofs.YtnimgfnknlkkdaaGreatDoor.H
set_option linter.unusedVariables false
set_option linter.unusedSimpArgs false
open Go
namespace Go.Proofs.YtnimgfnknlkkdaaGreatDoor.H
open Go Go.RowKit Go.Proofs.YtnimgfnknlkkdaaGreatDoorW.PrintWords Go.Proofs.YtnimgfnknlkkdaaGreatDoorW.PrintLast Go.Proofs.YtnimgfnknlkkdaaGreatDoorW.PrintMore Go.Proofs.YtnimgfnknlkkdaaGreatDoor.Num
/-! law 17: pays -/
theorem ok_short {x : Rat} (h : OkQ x) : ShortR (qF x) := ⟨h.1, h.d, by rw [qF_q]; exact h⟩
theorem finP {w W7 : World} {g : Nat} {v7 : Value} {outc : List Rat} {o1 o2 : Obj} {x y z : Value} (hr : kQ.R 23 W7 (w.heap.size + 3) (fun _ => True) v7 outc) (hne : some g ≠ v7.ownBlock) (h2 : W7.heap[w.heap.size + 1]? = some o1) (h3 : W7.heap[w.heap.size + 1 + 1]? = some o2) (hB : Below w.heap.size w W7) (hg : w.heap.size + 3 ≤ g) :
    (Value.int .i64 0) = .int .i64 0 ∧ Aside0 (kQ.R 23 (((W7.setCell ⟨g, 0, none⟩ x).setCell ⟨g, 1, none⟩ y).setCell ⟨g, 2, none⟩ z) (w.heap.size + 3) (fun _ => True) v7 outc) ∧ Aside0 ((((W7.setCell ⟨g, 0, none⟩ x).setCell ⟨g, 1, none⟩ y).setCell ⟨g, 2, none⟩ z).heap[w.heap.size + 1]? = some o1) ∧ Aside0 ((((W7.setCell ⟨g, 0, none⟩ x).setCell ⟨g, 1, none⟩ y).setCell ⟨g, 2, none⟩ z).heap[w.heap.size + 1 + 1]? = some o2) ∧ Aside0 (Below w.heap.size w (((W7.setCell ⟨g, 0, none⟩ x).setCell ⟨g, 1, none⟩ y).setCell ⟨g, 2, none⟩ z)) :=
  ⟨rfl, ⟨R_setfar rfl (R_setfar rfl (R_setfar rfl hr hne _ _) hne _ _) hne _ _⟩, ⟨by rw [heap_far _ (by omega), heap_far _ (by omega), heap_far _ (by omega)]; exact h2⟩, ⟨by rw [heap_far _ (by omega), heap_far _ (by omega), heap_far _ (by omega)]; exact h3⟩, ⟨below_set (below_set (below_set hB (by omega)) (by omega)) (by omega)⟩⟩
theorem keepV {g : Nat} {v0 v1 v2 v3 v4 : Value} {w w1 : World} (h : w.cell? ⟨g, 0, none⟩ = some v0 ∧ w.cell? ⟨g, 1, none⟩ = some v1 ∧ w.cell? ⟨g, 2, none⟩ = some v2 ∧ w.cell? ⟨g, 3, none⟩ = some v3 ∧ w.cell? ⟨g, 4, none⟩ = some v4) (hb : Below w.heap.size w w1) :
    w1.cell? ⟨g, 0, none⟩ = some v0 ∧ w1.cell? ⟨g, 1, none⟩ = some v1 ∧ w1.cell? ⟨g, 2, none⟩ = some v2 ∧ w1.cell? ⟨g, 3, none⟩ = some v3 ∧ w1.cell? ⟨g, 4, none⟩ = some v4 :=
  ⟨pw_cell_below hb h.1, pw_cell_below hb h.2.1, pw_cell_below hb h.2.2.1, pw_cell_below hb h.2.2.2.1, pw_cell_below hb h.2.2.2.2⟩
theorem keepVS {g x : Nat} {v0 v1 v2 v3 v4 y0 y1 y2 : Value} {w W : World} (h1 : x ≠ g) (h : w.cell? ⟨g, 0, none⟩ = some v0 ∧ w.cell? ⟨g, 1, none⟩ = some v1 ∧ w.cell? ⟨g, 2, none⟩ = some v2 ∧ w.cell? ⟨g, 3, none⟩ = some v3 ∧ w.cell? ⟨g, 4, none⟩ = some v4)
    (hW : W = ((w.setCell ⟨x, 0, none⟩ y0).setCell ⟨x, 1, none⟩ y1).setCell ⟨x, 2, none⟩ y2) :
    W.cell? ⟨g, 0, none⟩ = some v0 ∧ W.cell? ⟨g, 1, none⟩ = some v1 ∧ W.cell? ⟨g, 2, none⟩ = some v2 ∧ W.cell? ⟨g, 3, none⟩ = some v3 ∧ W.cell? ⟨g, 4, none⟩ = some v4 := by
  subst hW
  obtain ⟨a0, a1, a2, a3, a4⟩ := h
  refine ⟨?_, ?_, ?_, ?_, ?_⟩ <;> simp [World.cell?_setCell_other, h1, h1.symm, a0, a1, a2, a3, a4]
set_option maxRecDepth 100000 in
set_option maxHeartbeats 1000000 in
theorem lw_pays (cash : RatF) (cs : List ClaimV) (gs : List (List (List PartV))) (A : Option Addr) (c : Nat) (B : Option Addr) (d : Nat) (n : Nat) (a b : Rat) (w : World) (hR : ReadsE w cash cs gs A c B d) (hS : ShortE cash cs gs) (h0 : estErr cash cs gs = 0)
    (hk : LayEOk cs gs) (hd : DelOk (layE cs gs) (maxQ (n : Rat) 0)) (hn : n < 9223372036854775808) (hq : OkQ (n : Rat)) (hres : (deliverOf (layE cs gs) (maxQ (n : Rat) 0)).claims = [a, b]) :
    Calls Tryz.prog 40 #[EV cash A cs.length c B gs.length d, .int .i64 n, RQ a, RQ b] w fun e w' => e = .returned (.bool true) ∧ Below w.heap.size w w' := by
  have DL := Aside0.mk (fun (w' : World) (hb : Below w.heap.size w w') => w_Deliver cash cs gs A c B d (qF n) w' (hR.below hb) hS (ok_short hq) (fun _ => ⟨hk, by rw [qF_q]; exact hd⟩))
  have hdr : delR cash cs gs (qF n) = deliverOf (layE cs gs) (maxQ (n : Rat) 0) := by rw [delR, if_pos h0, qF_q]
  rw [h0, hdr, hres] at DL
  have IN := Lib.hid (fun w => rational_Int n w hn)
  clear hR hS h0 hk hd hn hq hres hdr
  simp only [EV, RQ, QV, qF] at DL IN ⊢
  generalize (deliverOf (layE cs gs) (maxQ (n : Rat) 0)).reserve = rs at *
  generalize cash.neg = neg0 at *
  generalize cash.num = num0 at *
  generalize cash.den = den0 at *
  generalize canS (n : Rat) = mS at *
  generalize canN (n : Rat) = mN at *
  generalize canD (n : Rat) = mD at *
  generalize canS rs = sS at *
  generalize canN rs = sN at *
  generalize canD rs = sD at *
  obtain ⟨t1, t2, t3, tB⟩ := three w (.cells #[.bool neg0, .string num0, .string den0, .slice A cs.length c, .slice B gs.length d] 27) (.cells #[.bool (canS a), .string (canN a), .string (canD a)] 23) (.cells #[.bool (canS b), .string (canN b), .string (canD b)] 23) 0
  rw [show ∀ w : World, w.drewN 0 = w from fun _ => rfl] at t1 t2 t3 tB
  have N1 := Lib.hid t1
  have N2 := Lib.hid t2
  have N3 := Lib.hid t3
  have NB := Aside0.mk tB
  clear t1 t2 t3 tB
  go_enter Tryz.func40, Tryz.ntmps40
  go_wp2_with (fail)
  obtain ⟨w1, hwl⟩ : ∃ wl, wl = (((w.alloc (.cells #[.bool neg0, .string num0, .string den0, .slice A cs.length c, .slice B gs.length d] 27)).alloc (.cells #[.bool (canS a), .string (canN a), .string (canD a)] 23)).alloc (.cells #[.bool (canS b), .string (canN b), .string (canD b)] 23)) := ⟨_, rfl⟩
  rw [← hwl] at N1 N2 N3 NB
  rw [← hwl]
  clear hwl
  go_cut [9, 11] (fun v9 v11 wc => v11 = .int .i64 0 ∧ Aside0 (kQ.R 23 wc (w.heap.size + 3) (fun _ => True) v9 [a, b]) ∧ Aside0 (wc.heap[w.heap.size + 1]? = some (.cells #[.bool (canS a), .string (canN a), .string (canD a)] 23)) ∧ Aside0 (wc.heap[w.heap.size + 1 + 1]? = some (.cells #[.bool (canS b), .string (canN b), .string (canD b)] 23)) ∧ Aside0 (Below w.heap.size w wc))
  case first =>
    have S0 := Lib.hid (cells5 N1.out)
    have hz1 := Lib.hid (show w.heap.size + 3 ≤ w1.heap.size by have := blk_lt N3.out; omega)
    generalize canS a = aS at *
    generalize canN a = aN at *
    generalize canD a = aD at *
    generalize canS b = bS at *
    generalize canN b = bN at *
    generalize canD b = bD at *
    go_region_held3 (fun w' => w'.cell? ⟨w.heap.size, 0, none⟩ = some (.bool neg0) ∧ w'.cell? ⟨w.heap.size, 1, none⟩ = some (.string num0) ∧ w'.cell? ⟨w.heap.size, 2, none⟩ = some (.string den0) ∧ w'.cell? ⟨w.heap.size, 3, none⟩ = some (.slice A cs.length c) ∧ w'.cell? ⟨w.heap.size, 4, none⟩ = some (.slice B gs.length d))
      (first | exact keepV S0.out (pw_below_drewN (Below.refl _ _) 1) | exact keepV S0.out (below_alloc (pw_below_drewN (Below.refl _ _) 1) _) | exact cells5 P51.out | exact keepV (cells5 P51.out) (below_alloc (Below.refl _ _) _) | exact cells5 P71.out | exact keepV (cells5 P71.out) (below_alloc (Below.refl _ _) _) | exact keepVS (by omega) (cells5 P71.out) rfl)
      (first
        | (go_at_call 31; refine (IN.out _).mono ?_; rintro e w5 ⟨rfl, hb5⟩; have BB5 : Below w1.heap.size w1 w5 := (by first | exact below_s hb5 (below_drew (Below.refl _ _)) | exact below_s hb5 (below_alloc (below_drew (Below.refl _ _)) _)); have P51 := Lib.hid (heap_b BB5 N1.out); have P52 := Lib.hid (heap_b BB5 N2.out); have P53 := Lib.hid (heap_b BB5 N3.out); have hz5 := BB5.size; (first | have Z5 := Lib.hid (show w5.heap[w1.heap.size]? = _ from heap_b hb5 (heap_new w1.drew (.cells #[.bool false, .string ⟨#[]⟩, .string ⟨#[]⟩] 23))) | have Z5 := P53); have hz1' := hz1.out; have HB5 := Aside0.mk (below_s BB5 NB.out); clear hb5)
        | (go_at_call 19; refine (DL.out _ (by first | exact HB5.out | exact below_alloc HB5.out _)).mono ?_; rintro e w7 ⟨v7, rfl, hr7, hb7⟩; have BB7 : Below w5.heap.size w5 w7 := (by first | exact hb7 | exact below_s hb7 (below_alloc (Below.refl _ _) _)); have P71 := Lib.hid (heap_b BB7 P51.out); have P72 := Lib.hid (heap_b BB7 P52.out); have P73 := Lib.hid (heap_b BB7 P53.out); have hz7 := BB7.size; (first | have Z7 := Lib.hid (heap_b hb7 (heap_new w5 (.cells #[.bool false, .string ⟨#[]⟩, .string ⟨#[]⟩] 23))) | have Z7 := Lib.hid (heap_b hb7 Z5.out)); obtain ⟨⟨z0, z1, z2⟩, z3, z4, z5⟩ := cells3 Z7.out; have HB7 := Aside0.mk (below_s BB7 HB5.out); have H7 := Aside0.mk (Kd.R_base hr7); have HR7 := Aside0.mk (Kd.R_lower hr7 (Nat.le_trans (show w.heap.size + 3 ≤ w5.heap.size by omega) (by first | exact Nat.le_refl _ | exact (below_alloc (Below.refl w5.heap.size w5) _).size))); clear hr7 hb7))
    all_goals
      go_wp2_with (fail)
      go_meet
    case rel =>
      exact ⟨rfl, ⟨Kd.R_below HR7.out (below_alloc (Below.refl _ _) _)⟩, ⟨heap_old P72.out⟩, ⟨heap_old P73.out⟩, ⟨below_alloc HB7.out _⟩⟩
    case rel =>
      have hg3 : w.heap.size + 3 ≤ w5.heap.size := by omega
      have hne : some w5.heap.size ≠ v7.ownBlock := fun e => by have := H7.out _ e.symm; have := blk_lt Z5.out; have := size_new w5 (.cells #[.bool false, .string ⟨#[]⟩, .string ⟨#[]⟩] 23); omega
      exact finP HR7.out hne P72.out P73.out HB7.out hg3
    case rel =>
      have hg3 : w.heap.size + 3 ≤ w1.heap.size := by omega
      have hne : some w1.heap.size ≠ v7.ownBlock := fun e => by have := H7.out _ e.symm; have := blk_lt Z5.out; have : w1.drew.heap.size = w1.heap.size := rfl; omega
      exact finP HR7.out hne P72.out P73.out HB7.out hg3
  case rest =>
    obtain ⟨rfl, hV, hN2, hN3, hB⟩ := hcut
    obtain ⟨A9, c9, rfl⟩ := Kd.R_slice hV.out
    obtain ⟨g, cap, hv, hg1, hg2, -⟩ := Kd.R_form hV.out (Nat.le_of_ble_eq_true rfl)
    injection hv with hv1 hv2 hv3
    subst hv1
    clear hv2 hv3
    obtain ⟨⟨e0, e1, e2⟩, -⟩ := R_getq hV.out (i := 0) (Nat.le_of_ble_eq_true rfl)
    obtain ⟨⟨e3, e4, e5⟩, -⟩ := R_getq hV.out (i := 1) (Nat.le_of_ble_eq_true rfl)
    rw [show rdQ [a, b] 0 = a from rfl] at e0 e1 e2
    rw [show rdQ [a, b] 1 = b from rfl] at e3 e4 e5
    obtain ⟨⟨a0, a1, a2⟩, -⟩ := cells3 hN2.out
    obtain ⟨⟨b0, b1, b2⟩, -⟩ := cells3 hN3.out
    have HB := Aside0.mk hB.out
    clear hV hN2 hN3 hB N1 N2 N3 NB DL IN
    generalize canS a = aS at *
    generalize canN a = aN at *
    generalize canD a = aD at *
    generalize canS b = bS at *
    generalize canN b = bN at *
    generalize canD b = bD at *
    simp only [List.length_cons, List.length_nil] at *
    go_wp2
    go_quiet (fail)
    go_wp2
    go_ret
    exact ⟨rfl, pw_below_drewN HB.out _⟩
end Go.Proofs.YtnimgfnknlkkdaaGreatDoor.H
set_option linter.unusedVariables false
set_option linter.unusedSimpArgs false
open Go
namespace Go.Proofs.YtnimgfnknlkkdaaGreatDoor.H
open Go Go.RowKit Go.Proofs.YtnimgfnknlkkdaaGreatDoorW.PrintWords Go.Proofs.YtnimgfnknlkkdaaGreatDoorW.PrintLast Go.Proofs.YtnimgfnknlkkdaaGreatDoorW.PrintMore Go.Proofs.YtnimgfnknlkkdaaGreatDoor.Num
/-! law 17: awake: what its closed estates give, by reckoning -/
instance (x : Rat) : Decidable (OkQ x) := inferInstanceAs (Decidable (_ ∧ _))
instance (r : RatF) : Decidable (ShortR r) := decidable_of_iff (r.num.size ≤ 137438953472 ∧ r.den.size ≤ 137438953472 ∧ OkQ r.q) ⟨fun h => ⟨h.1, h.2.1, h.2.2⟩, fun h => ⟨h.n, h.d, h.q⟩⟩
instance (r : ResV) (a : Int × Rat) : Decidable (AddOk r a) := decidable_of_iff (OkQ a.2 ∧ (if a.1 = -1 then OkQ r.reserve else OkQ (rdQ r.claims a.1.toNat)) ∧ (a.1 = -1 ∨ 0 ≤ a.1 ∧ a.1 < r.claims.length)) ⟨fun h => ⟨h.1, h.2.1, h.2.2⟩, fun h => ⟨h.x, h.o, h.c⟩⟩
instance (r : ResV) (xs : List (Int × Rat)) : Decidable (AddsOk r xs) := inferInstanceAs (Decidable (∀ i, i < xs.length → AddOk (r.adds (xs.take i)) (rdWP xs i)))
instance (r : ResV) (l : List TierV) (m : Rat) : Decidable (PayOk r l m) :=
  decidable_of_iff ((0 ≤ m ∧ (∀ t ∈ l, OkQ t.sum) ∧ (∀ k, k ≤ l.length → OkQ (leftAt l m k))) ∧ (∀ t ∈ l, ∀ p ∈ t.parts, OkQ p.2) ∧ (splitK l m < l.length → OkQ (leftAt l m (splitK l m) / (rdT l (splitK l m)).sum)) ∧ AddsOk r (paysOf l m))
    ⟨fun h => ⟨h.1.1, h.1.2.1, h.1.2.2, h.2.1, h.2.2.1, h.2.2.2⟩, fun h => ⟨⟨h.nn, h.sums, h.left⟩, h.caps, h.quota, h.adds⟩⟩
instance (L : LayV) (m : Rat) : Decidable (DelOk L m) :=
  decidable_of_iff ((L.count ≤ 1099511627776 ∧ PayOk (zerosQ L.count) L.ranks m ∧ (∀ x ∈ grossOf L m, OkQ x)) ∧ (∀ p ∈ L.pools, ∀ i ∈ p.members, 0 ≤ i ∧ i < (L.count : Int)) ∧ (∀ p ∈ L.pools, ∀ k, k ≤ p.members.length → OkQ (totalOf (p.members.take k) (grossOf L m))) ∧ (∀ j, j < L.pools.length → PayOk (deliverAll L.pools (grossOf L m) j (takeOf L m)) (rdPool L.pools j).ladder (totalOf (rdPool L.pools j).members (grossOf L m))))
    ⟨fun h => ⟨h.1.1, h.1.2.1, h.1.2.2, h.2.1, h.2.2.1, h.2.2.2⟩, fun h => ⟨⟨h.n, h.gross, h.okg⟩, h.mem, h.tots, h.pays⟩⟩
instance (r : RatF) (k : Nat) : Decidable (r.small k) := inferInstanceAs (Decidable (_ ∧ _))
theorem sort10 : sortZ [1, 0] = [0, 1] := by simp [sortZ, List.mergeSort, List.MergeSort.Internal.splitInTwo]
theorem sort01 : sortZ [0, 1] = [0, 1] := by simp [sortZ, List.mergeSort, List.MergeSort.Internal.splitInTwo]
theorem comp01 : Lib.compact ([0, 1] : List Int) = [0, 1] := by decide +kernel
def pP0 : PartV := ⟨0, false, zR⟩
def pP1 : PartV := ⟨1, false, zR⟩
def pP15 : PartV := ⟨1, true, qF 15⟩
def pP12 : PartV := ⟨-1, true, qF 12⟩
structure AwakeOk (gs : List (List (List PartV))) (n : Nat) (a b : Rat) : Prop where
  err : estErr zR twoC gs = 0
  short : ShortE zR twoC gs
  lay : LayEOk twoC gs
  del : DelOk (layE twoC gs) (maxQ (n : Rat) 0)
  res : (deliverOf (layE twoC gs) (maxQ (n : Rat) 0)).claims = [a, b]
  okn : OkQ (n : Rat)
  hn : n < 9223372036854775808
/-- What an agreement's laying-out must hold, its members said. -/
theorem layOk_of {ts : List (List PartV)} (hm : memL ts = [0, 1]) (h1 : (∀ ps ∈ ts, ∀ p ∈ ps, ShortR p.cap) ∧ (∀ ps ∈ ts, ∀ p ∈ ps, p.claim = -1 ∨ 0 ≤ p.claim ∧ p.claim < (twoC.length : Int)) ∧ ts.length ≤ 1048576 ∧ (∀ ps ∈ ts, ps.length ≤ 1048576) ∧ ts.flatten.length ≤ 1099511627776)
    (h2 : ∀ j, j < ts.length → ∀ i, i ≤ (rowAt ts j).length → (∀ x ∈ (tierAt (ladAt (amounts twoC) ts j).1 (rowAt ts j) i).1, OkQ x) ∧ OkQ (tierAt (ladAt (amounts twoC) ts j).1 (rowAt ts j) i).2.sum)
    (h3 : (∀ x ∈ (ladAt (amounts twoC) ts ts.length).1, OkQ x) ∧ (∀ i, i ≤ 2 → OkQ (lastAt (ladAt (amounts twoC) ts ts.length).1 [0, 1] i).sum) ∧ (∀ j, j < ts.length → ∀ i, i < (rowAt ts j).length → (rdP (rowAt ts j) i).claim ≠ -1 → OkQ (capOf (tierAt (ladAt (amounts twoC) ts j).1 (rowAt ts j) i).1 (rdP (rowAt ts j) i)))) : LayOk twoC ts :=
  ⟨by decide +kernel, h1.1, h1.2.1, by rw [hm]; decide +kernel, by decide +kernel, h1.2.2.1, h1.2.2.2.1, h1.2.2.2.2, by rw [hm]; decide +kernel, h2, h3.1, by rw [hm]; exact h3.2.1, h3.2.2⟩
theorem layEOk_of {gs : List (List (List PartV))} (hg : gs.length ≤ 1048576) (ha : ∀ g ∈ gs, LayOk twoC g) : LayEOk twoC gs :=
  ⟨by decide +kernel, by decide +kernel, by decide +kernel, hg, by decide +kernel, by decide +kernel, by decide +kernel, ha⟩
theorem lay_of {ts : List (List PartV)} (hm : memL ts = [0, 1]) : layE twoC [ts] = ⟨2, ranksAt twoC 2, [⟨[0, 1], (ladAt (amounts twoC) ts ts.length).2 ++ [lastAt (ladAt (amounts twoC) ts ts.length).1 [0, 1] 2]⟩], totAt twoC 2⟩ := by
  simp only [layE, List.map_cons, List.map_nil, layP, hm]
  rfl
theorem mem1 : memL [[pP1], [pP0]] = [0, 1] := by
  rw [memL, show memZ [[pP1], [pP0]].flatten = [1, 0] by simp [memZ, pP0, pP1], sort10]
  exact comp01
theorem mem2 : memL [[pP15], [pP0]] = [0, 1] := by
  rw [memL, show memZ [[pP15], [pP0]].flatten = [1, 0] by simp [memZ, pP0, pP15], sort10]
  exact comp01
theorem mem3 : memL [[pP12], [pP0, pP1]] = [0, 1] := by
  rw [memL, show memZ [[pP12], [pP0, pP1]].flatten = [0, 1] by simp [memZ, pP0, pP1, pP12], sort01]
  exact comp01
theorem short_of {gs : List (List (List PartV))} (h : ∀ g ∈ gs, g.flatten.length ≤ 1099511627776 ∧ ∀ q ∈ g.flatten, q.cap.small 549755813888) : ShortE zR twoC gs := ⟨by decide +kernel, by decide +kernel, h⟩
theorem awake0 : AwakeOk [] 50 30 20 := ⟨by decide +kernel, short_of (by intro g hg; cases hg), layEOk_of (by decide +kernel) (by intro g hg; cases hg), by decide +kernel, by decide +kernel, by decide +kernel, by decide +kernel⟩
theorem layEOk1 : LayEOk twoC [[[pP1], [pP0]]] := layEOk_of (by decide +kernel) (by
  intro g hg
  obtain rfl := List.mem_singleton.1 hg
  exact layOk_of mem1 (by decide +kernel) (by decide +kernel) (by decide +kernel))
theorem layEOk2 : LayEOk twoC [[[pP15], [pP0]]] := layEOk_of (by decide +kernel) (by
  intro g hg
  obtain rfl := List.mem_singleton.1 hg
  exact layOk_of mem2 (by decide +kernel) (by decide +kernel) (by decide +kernel))
theorem layEOk3 : LayEOk twoC [[[pP12], [pP0, pP1]]] := layEOk_of (by decide +kernel) (by
  intro g hg
  obtain rfl := List.mem_singleton.1 hg
  exact layOk_of mem3 (by decide +kernel) (by decide +kernel) (by decide +kernel))
theorem awake1 : AwakeOk [[[pP1], [pP0]]] 50 10 40 := ⟨by decide +kernel, short_of (by decide +kernel), layEOk1, by rw [lay_of mem1]; decide +kernel, by rw [lay_of mem1]; decide +kernel, by decide +kernel, by decide +kernel⟩
theorem awake2 : AwakeOk [[[pP15], [pP0]]] 50 35 15 := ⟨by decide +kernel, short_of (by decide +kernel), layEOk2, by rw [lay_of mem2]; decide +kernel, by rw [lay_of mem2]; decide +kernel, by decide +kernel, by decide +kernel⟩
theorem awake3 : AwakeOk [[[pP15], [pP0]]] 95 60 35 := ⟨by decide +kernel, short_of (by decide +kernel), layEOk2, by rw [lay_of mem2]; decide +kernel, by rw [lay_of mem2]; decide +kernel, by decide +kernel, by decide +kernel⟩
theorem awake4 : AwakeOk [[[pP12], [pP0, pP1]]] 50 (114 / 5) (76 / 5) := ⟨by decide +kernel, short_of (by decide +kernel), layEOk3, by rw [lay_of mem3]; decide +kernel, by rw [lay_of mem3]; decide +kernel, by decide +kernel, by decide +kernel⟩
end Go.Proofs.YtnimgfnknlkkdaaGreatDoor.H
set_option linter.unusedVariables false
set_option linter.unusedSimpArgs false
open Go
namespace Go.Proofs.YtnimgfnknlkkdaaGreatDoor.H
open Go Go.RowKit Go.Proofs.YtnimgfnknlkkdaaGreatDoorW.PrintWords Go.Proofs.YtnimgfnknlkkdaaGreatDoorW.PrintLast Go.Proofs.YtnimgfnknlkkdaaGreatDoorW.PrintMore Go.Proofs.YtnimgfnknlkkdaaGreatDoor.Num
set_option maxRecDepth 100000 in
set_option maxHeartbeats 1000000 in
theorem ref_shifted (la : List Int) (b n : Nat) (A : Option Addr) (c : Nat) (w : World) (hL : Lim la) (hA : Kd.C (Kd.int .u32) w A la.length la) (hc : la.length ≤ c) (hb0 : b < 32) (hn1 : n = la.length + 1) (hn2 : n ≤ 274877906944) (htop : val la * 2 ^ b < 4294967296 ^ n) :
    Calls Tryz.prog 195 #[.slice A la.length c, .int .u64 b] w fun e w' => ∃ v M, e = .returned v ∧ Own w' w.heap.size v M ∧ M.length = n ∧ Lim M ∧ val M = val la * 2 ^ b ∧ Below w.heap.size w w' := by
  have HA := Aside0.mk hA
  have L1 := Aside0.mk hL
  have HT := Lib.hid htop
  clear hA hL htop
  obtain ⟨m, hm⟩ : ∃ m, m = la.length := ⟨_, rfl⟩
  rw [← hm] at hc hn1 HA ⊢
  have HQ1 := Lib.hid (show (m : Int) + 1 = (n : Int) by omega)
  have hn : m ≤ n := by omega
  have hmn : m < n := by omega
  clear hn1
  have HN := Lib.hid hm
  clear hm
  go_enter Tryz.func195, Tryz.ntmps195
  go_wp2_with (refine makeK Tryz.underlying137 infoU32 (by decide) (N := 11) rfl rfl rfl n (congrArg (Value.int .i64) HQ1.out) (congrArg (Value.int .i64) HQ1.out) (by omega) ?_; intro v w1 ho hb; obtain ⟨A1, c1, rfl⟩ := Kd.R_slice ho; simp only [List.length_replicate] at ho ⊢)
  go_loopw [6] (fun v15 w' => ∃ (i : Nat) (M : List Int), i ≤ m ∧ v15 = .int .i64 i ∧ Aside0 (M.length = n ∧ Lim M ∧ (∀ j, i < j → M.getD j 0 = 0) ∧ M.getD i 0 < 2 ^ b ∧ val M = val (la.take i) * 2 ^ b)
    ∧ Aside0 (Own w' w.heap.size (.slice A1 n c1) M) ∧ Aside0 (Below w.heap.size w w')) (fun v15 _ => m - (intOf v15).toNat)
  case atStart => exact ⟨0, _, Nat.zero_le _, rfl, ⟨by simp, lim_zeros _, fun j _ => zero_rep n 0 j (Nat.zero_le _), by rw [zero_rep n 0 0 (Nat.le_refl _)]; exact Int.pow_pos (by omega), by simp [val_zeros, val]⟩, ⟨ho⟩, ⟨hb⟩⟩
  case round =>
    clear ho hb
    obtain ⟨i, M, hi, rfl, hM, ho, hb⟩ := hrel
    rcases Nat.lt_or_ge i m with hlt | hge
    · obtain ⟨ad, rfl, hx⟩ := C_word (HN.out ▸ Kd.C_below HA.out hb.out : Kd.C (Kd.int .u32) wr A la.length la) (i : Int) (by omega) (by have := HN.out; omega)
      rw [Int.toNat_natCast, rd_nat] at hx
      obtain ⟨g, cap, e1, hg1, hg2, cells, hg3⟩ := Kd.R_form ho.out (by have := hM.out.1; omega)
      obtain ⟨rfl, -, rfl⟩ : A1 = some ⟨g, 0, none⟩ ∧ n = M.length ∧ c1 = cap := by injection e1 with e1 e2 e3; exact ⟨e1, e2, e3⟩
      clear hg3 e1
      obtain ⟨hz, hf⟩ := Kd.R_celln 0 ho.out (i : Int) (by omega) (by omega)
      rw [Int.toNat_natCast, rdOf_nat] at hz
      rw [Int.toNat_natCast] at hf
      have k1 := lim_get L1.out i
      have k2 := lim_get hM.out.2.1 i
      obtain ⟨y, hy⟩ := Int.eq_ofNat_of_zero_le k1.1
      obtain ⟨z, hzz⟩ := Int.eq_ofNat_of_zero_le k2.1
      have hz2 : z < 2 ^ b := by
        have := hM.out.2.2.2.1
        rw [hzz] at this
        have e : ((2 : Int) ^ b) = ((2 ^ b : Nat) : Int) := by simp
        rw [e] at this
        exact Int.ofNat_lt.1 this
      obtain ⟨n1, -, n3, n4, n5⟩ := shift_num hb0 hz2 (show y < 4294967296 by omega)
      have hor := shift_or hb0 hz2 (show y < 4294967296 by omega)
      have hrnd := Aside0.mk (@shift_round la M i n b y L1.out hM.out.2.1 hb0 (by have := HN.out; omega) hM.out.1 (by have := HN.out; omega) hM.out.2.2.1 z hzz hz2 hM.out.2.2.2.2 HT.out hy)
      have f1 : IntKind.u64.wrap ((y : Int) * 2 ^ b) = ((y * 2 ^ b : Nat) : Int) := by
        rw [show (y : Int) * 2 ^ b = ((y * 2 ^ b : Nat) : Int) by simp, wrap_u64]; omega
      rw [hy] at hx k1
      rw [hzz] at hz k2
      have hRlt : y * 2 ^ b % 4294967296 < 4294967296 := Nat.mod_lt _ (by omega)
      have f2 : ((y * 2 ^ b : Nat) : Int) % 4294967296 = ((y * 2 ^ b % 4294967296 : Nat) : Int) := by omega
      have f4 : ((y * 2 ^ b : Nat) : Int) / 4294967296 = ((y * 2 ^ b / 4294967296 : Nat) : Int) := by omega
      have f5 : bits .or .u32 0 ((y * 2 ^ b / 4294967296 : Nat) : Int) = ((y * 2 ^ b / 4294967296 : Nat) : Int) := zero_or (by omega) (by omega)
      rw [show (z : Int) + ((y * 2 ^ b % 4294967296 : Nat) : Int) = ((z + y * 2 ^ b % 4294967296 : Nat) : Int) by omega] at hor
      have HQ := Lib.hid (show y * 2 ^ b / 4294967296 < 2 ^ b from n4)
      have HH := Lib.hid (And.intro hy hzz)
      generalize hT : y * 2 ^ b = T at *
      generalize hR : T % 4294967296 = R at *
      generalize hQ : T / 4294967296 = Q at *
      generalize hS : z + R = s at *
      have hs0 : s < 4294967296 := by omega
      have hy0 : y < 4294967296 := by omega
      have hQ0 : Q < 4294967296 := by omega
      have hTe := Lib.hid (And.intro hT (And.intro hR (And.intro hQ hS)))
      clear hT hR hQ hS hy hzz n4 n5 n3 hz2 k1 k2
      have hin : i + 1 < n := by omega
      go_wp2_with (first | (refine storeK infoU32 (p := 34) (j := i) rfl rfl rfl ho.out hb.out (Nat.le_refl _) (by omega) rfl rfl ?_; clear ho hb hz hf; intro w4 ho4 hb4; obtain ⟨hz4, hf4⟩ := Kd.R_celln 0 ho4 ((i + 1 : Nat) : Int) (by omega) (by omega); rw [Int.toNat_natCast, rdOf_nat, shift_zero hM.out.2.2.1] at hz4; rw [Int.toNat_natCast] at hf4; have HO4 := Aside0.mk ho4; have HB4 := Aside0.mk hb4; clear ho4 hb4) | (refine storeK infoU32 (p := 41) (j := i + 1) rfl rfl rfl HO4.out HB4.out (Nat.le_refl _) (by omega) rfl rfl ?_; clear HO4 HB4 hz4 hf4; intro w5 ho5 hb5))
      go_roundw
      case measure => simp [intOf]; omega
      case rel =>
        refine ⟨i + 1, _, hlt, by go_num, ⟨by simp [hM.out.1], lim_set _ (lim_set _ hM.out.2.1 (by omega)) (by omega), fun j hj => ?_, ?_, hrnd.out.1 hin⟩, ⟨ho5⟩, ⟨hb5⟩⟩
        · rw [List.getD_eq_getElem?_getD, List.getElem?_set_ne (by omega), List.getElem?_set_ne (by omega), ← List.getD_eq_getElem?_getD]
          exact hM.out.2.2.1 j (by omega)
        · rw [List.getD_eq_getElem?_getD, List.getElem?_set_self (by rw [List.length_set]; have := hM.out.1; omega), Option.getD_some, show ((2 : Int) ^ b) = ((2 ^ b : Nat) : Int) by simp]
          exact Int.ofNat_lt.2 HQ.out
    · obtain rfl : i = m := by omega
      go_wp2
      go_ret
      exact ⟨_, M, rfl, ho.out, hM.out.1, hM.out.2.1, by rw [hM.out.2.2.2.2, List.take_of_length_le (by have := HN.out; omega)], hb.out⟩
end Go.Proofs.YtnimgfnknlkkdaaGreatDoor.H
set_option linter.unusedVariables false
set_option linter.unusedSimpArgs false
open Go
namespace Go.Proofs.YtnimgfnknlkkdaaGreatDoor.H
open Go Go.RowKit Go.Proofs.YtnimgfnknlkkdaaGreatDoorW.PrintWords Go.Proofs.YtnimgfnknlkkdaaGreatDoorW.PrintLast Go.Proofs.YtnimgfnknlkkdaaGreatDoorW.PrintMore Go.Proofs.YtnimgfnknlkkdaaGreatDoor.Num
set_option maxRecDepth 100000 in
set_option maxHeartbeats 400000 in
theorem ref_order (a b : Nat) (A B : Option Addr) (c d : Nat) (w : World) (hA : Kd.C (Kd.int .u32) w A (dig a).length (dig a)) (hc : (dig a).length ≤ c) (hB : Kd.C (Kd.int .u32) w B (dig b).length (dig b)) (hd : (dig b).length ≤ d)
    (ha : (dig a).length ≤ 274877906944) (hb : (dig b).length ≤ 274877906944) :
    Calls Tryz.prog 145 #[.slice A (dig a).length c, .slice B (dig b).length d] w fun e w' => e = .returned (.int .i64 (cmpN a b)) ∧ Drawn0 w w' := by
  have HA := Aside0.mk hA
  have HB := Aside0.mk hB
  clear hA hB
  have hl1 := lim_dig a
  have hl2 := lim_dig b
  have V1 := Lib.hid (val_dig a)
  have V2 := Lib.hid (val_dig b)
  have S1 := Aside0.mk (@dig_short a b)
  have S2 := Aside0.mk (@dig_short b a)
  generalize dig a = la at *
  generalize dig b = lb at *
  have L1 := Aside0.mk hl1
  have L2 := Aside0.mk hl2
  clear hl1 hl2
  by_cases hl : la.length = lb.length
  · have hl' : ((la.length : Int) != (lb.length : Int)) = false := by simp [hl]
    have HL := Lib.hid hl
    clear hl
    go_enter Tryz.func145, Tryz.ntmps145
    go_wp2
    go_loopw [5] (fun v5 w' => ∃ n : Nat, n ≤ la.length ∧ v5 = .int .i64 ((n : Int) - 1) ∧ Aside0 (la.drop n = lb.drop n) ∧ Aside0 (Drawn0 w w')) (fun v5 _ => (intOf v5 + 1).toNat)
    case atStart => exact ⟨la.length, Nat.le_refl _, rfl, ⟨by rw [List.drop_length, HL.out, List.drop_length]⟩, ⟨Drawn0.refl w⟩⟩
    case round =>
      obtain ⟨n, hn, rfl, hv, hd⟩ := hrel
      rcases Nat.eq_zero_or_pos n with rfl | h0
      · have e : a = b := by
          have := hv.out
          simp at this
          rw [← V1.out, ← V2.out, this]
        subst e
        go_wp2
        go_ret
        exact ⟨ret_i (cmpN_eq a).symm, hd.out⟩
      · obtain ⟨m, rfl⟩ : ∃ m, n = m + 1 := ⟨n - 1, by omega⟩
        have hi1 : (m : Int) < (la.length : Int) := by omega
        have hi2 : (m : Int) < (lb.length : Int) := by have := HL.out; omega
        obtain ⟨ad, rfl, hx⟩ := C_word (Kd.C_below HA.out hd.out.below) (m : Int) (by omega) hi1
        obtain ⟨bd, rfl, hy⟩ := C_word (Kd.C_below HB.out hd.out.below) (m : Int) (by omega) hi2
        rw [Int.toNat_natCast] at hx hy
        have hlt := Aside0.mk (@cmp_lt la lb L1.out L2.out HL.out m (by omega) hv.out)
        have hgt := Aside0.mk (@cmp_lt lb la L2.out L1.out HL.out.symm m (by omega) hv.out.symm)
        have heq := Aside0.mk (@drop_same la lb HL.out m (by omega) hv.out)
        rw [← rd_nat, ← rd_nat] at hlt hgt heq
        generalize rd la (m : Int) = xa at *
        generalize rd lb (m : Int) = xb at *
        rw [V1.out, V2.out] at hlt hgt
        rcases Int.lt_trichotomy xa xb with h | h | h
        · have g1 : (xa != xb) = true := by simp; omega
          have g2 : decide (xa < xb) = true := by simpa using h
          go_wp2
          go_quiet (fail)
          go_wp2
          go_quiet (fail)
          go_wp2
          go_ret
          exact ⟨ret_i (cmpN_lt (hlt.out h)).symm, Drawn0.step (Drawn0.step hd.out _) _⟩
        · subst h
          go_wp2
          go_quiet (fail)
          go_wp2
          go_roundw
          case measure => simp [intOf]
          case rel => exact ⟨m, by omega, rfl, ⟨by first | exact heq.out rfl | exact heq.out trivial⟩, ⟨Drawn0.step hd.out _⟩⟩
        · have g1 : (xa != xb) = true := by simp; omega
          have g2 : decide (xa < xb) = false := by simp; omega
          go_wp2
          go_quiet (fail)
          go_wp2
          go_quiet (fail)
          go_wp2
          go_ret
          exact ⟨ret_i (cmpN_gt (hgt.out h)).symm, Drawn0.step (Drawn0.step hd.out _) _⟩
  · have hl' : ((la.length : Int) != (lb.length : Int)) = true := by simp; omega
    rcases Nat.lt_or_gt_of_ne hl with h | h
    · have R := Lib.hid (cmpN_lt (S1.out h))
      have g2 : (la.length : Int) < (lb.length : Int) := by omega
      go_enter Tryz.func145, Tryz.ntmps145
      go_wp2
      go_ret
      exact ⟨ret_i R.out.symm, Drawn0.refl _⟩
    · have R := Lib.hid (cmpN_gt (S2.out h))
      have g2 : ¬ (la.length : Int) < (lb.length : Int) := by omega
      go_enter Tryz.func145, Tryz.ntmps145
      go_wp2
      go_ret
      exact ⟨ret_i R.out.symm, Drawn0.refl _⟩
end Go.Proofs.YtnimgfnknlkkdaaGreatDoor.H
set_option linter.unusedVariables false
set_option linter.unusedSimpArgs false
open Go
namespace Go.Proofs.YtnimgfnknlkkdaaGreatDoor.H
open Go Go.RowKit Go.Proofs.YtnimgfnknlkkdaaGreatDoorW.PrintWords Go.Proofs.YtnimgfnknlkkdaaGreatDoorW.PrintLast Go.Proofs.YtnimgfnknlkkdaaGreatDoorW.PrintMore Go.Proofs.YtnimgfnknlkkdaaGreatDoor.Num
set_option maxRecDepth 100000 in
set_option maxHeartbeats 1000000 in
theorem ref_short (la : List Int) (d : Int) (A : Option Addr) (c : Nat) (w : World) (hL : Lim la) (hA : Kd.C (Kd.int .u32) w A la.length la) (hc : la.length ≤ c) (hn : la.length ≤ 274877906944) (hd0 : 0 < d) (hd1 : d < 4294967296) :
    Calls Tryz.prog 190 #[.slice A la.length c, .int .u32 d] w fun e w' => ∃ v, e = .returned (.tuple #[v, .int .u32 ((val la : Int) % d)]) ∧ IsL w' v (dig (val la / d.toNat)) ∧ Below w.heap.size w w' := by
  have HA := Aside0.mk hA
  have L1 := Aside0.mk hL
  clear hA hL
  have hdne : (d == 0) = false := by simp; omega
  obtain ⟨n, hn'⟩ : ∃ n, n = la.length := ⟨_, rfl⟩
  rw [← hn'] at hc hn HA ⊢
  have HN := Lib.hid hn'
  clear hn'
  go_enter Tryz.func190, Tryz.ntmps190
  go_wp2_with (refine makeK Tryz.underlying137 infoU32 (by decide) (N := 11) rfl rfl rfl n rfl rfl (by omega) ?_; intro v w1 ho hb; obtain ⟨A1, c1, rfl⟩ := Kd.R_slice ho; simp only [List.length_replicate] at ho ⊢)
  go_loopw [7, 8] (fun v7 v8 w' => ∃ (i : Nat) (M : List Int) (r : Int), i ≤ n ∧ v7 = .int .u64 r ∧ v8 = .int .i64 ((i : Int) - 1) ∧ Aside0 (M.length = n ∧ Lim M ∧ (0 ≤ r ∧ r < d) ∧ val (M.drop i) * d.toNat + r.toNat = val (la.drop i))
    ∧ Aside0 (Own w' w.heap.size (.slice A1 n c1) M) ∧ Aside0 (Below w.heap.size w w')) (fun _ v8 _ => (intOf v8 + 1).toNat)
  case atStart => exact ⟨n, _, 0, Nat.le_refl _, rfl, rfl, ⟨by simp, lim_zeros _, by omega, by rw [List.drop_of_length_le (by simp), List.drop_of_length_le (by have := HN.out; omega)]; simp [val]⟩, ⟨ho⟩, ⟨hb⟩⟩
  case round =>
    clear ho hb
    obtain ⟨i, M, r, hi, rfl, rfl, hM, ho, hb⟩ := hrel
    rcases Nat.eq_zero_or_pos i with rfl | h0
    · have hfin : val M = val la / d.toNat ∧ r = (val la : Int) % d := by
        have h1 := hM.out.2.2.2
        simp only [List.drop_zero] at h1
        have h2 := hM.out.2.2.1
        obtain ⟨d, rfl⟩ := Int.eq_ofNat_of_zero_le (Int.le_of_lt hd0)
        obtain ⟨r, rfl⟩ := Int.eq_ofNat_of_zero_le h2.1
        simp only [Int.toNat_natCast] at h1 ⊢
        have h3 : r < d := by omega
        rw [← h1, Nat.mul_comm]
        exact ⟨by rw [Nat.mul_add_div (by omega), Nat.div_eq_of_lt h3]; rfl, by rw [← Int.natCast_emod, Nat.mul_add_mod, Nat.mod_eq_of_lt h3]⟩
      have HF := Lib.hid hfin
      have hlm := Aside0.mk hM.out.2.1
      have hr1 := hM.out.2.2.1.1
      have hr2 : r < 4294967296 := by have := hM.out.2.2.1; omega
      clear hfin
      go_wp2_with (go_at_call 172; refine (strip_own ho.out hlm.out).mono ?_; rintro e w5 ⟨v5, rfl, hr, hd5⟩)
      go_ret2
      rw [HF.out.1] at hr
      exact ⟨v5, ret_vt HF.out.2, hr, below_step hb.out hd5.below⟩
    · obtain ⟨m, rfl⟩ : ∃ m, i = m + 1 := ⟨i - 1, by omega⟩
      obtain ⟨ad, rfl, hx⟩ := C_word (HN.out ▸ Kd.C_below HA.out hb.out : Kd.C (Kd.int .u32) wr A la.length la) (m : Int) (by omega) (by have := HN.out; omega)
      rw [Int.toNat_natCast, rd_nat] at hx
      obtain ⟨g, cap, e1, hg1, hg2, cells, hg3⟩ := Kd.R_form ho.out (by have := hM.out.1; omega)
      obtain ⟨rfl, -, rfl⟩ : A1 = some ⟨g, 0, none⟩ ∧ n = M.length ∧ c1 = cap := by injection e1 with e1 e2 e3; exact ⟨e1, e2, e3⟩
      clear hg3 e1
      have K1 := lim_get L1.out m
      obtain ⟨K2a, K2b⟩ := hM.out.2.2.1
      have hr := @ds_round la M m d r _ L1.out hM.out.2.1 ⟨hd0, hd1⟩ ⟨K2a, K2b⟩ (by have := HN.out; omega) (by have := hM.out.1; omega) hM.out.2.2.2 rfl
      have hor := or_shl (r := r) (x := la.getD m 0) ⟨K2a, by omega⟩ K1
      generalize la.getD m 0 = x at *
      generalize r * 4294967296 + x = t at *
      obtain ⟨⟨q1, q2⟩, ⟨q3, q4⟩, ⟨q5, q6⟩, q7⟩ := hr
      obtain ⟨K1a, K1b⟩ := K1
      have Q7 := Aside0.mk q7
      clear q7
      go_wp2_with (refine storeK infoU32 (p := 34) (j := m) rfl rfl rfl ho.out hb.out (Nat.le_refl _) (by omega) rfl rfl ?_; clear ho hb; intro w4 ho4 hb4)
      go_roundw
      case measure => simp [intOf]
      case rel => exact ⟨m, _, _, by omega, rfl, rfl, ⟨by rw [List.length_set]; exact hM.out.1, Q7.out.1, ⟨q5, q6⟩, Q7.out.2⟩, ⟨ho4⟩, ⟨hb4⟩⟩
end Go.Proofs.YtnimgfnknlkkdaaGreatDoor.H
