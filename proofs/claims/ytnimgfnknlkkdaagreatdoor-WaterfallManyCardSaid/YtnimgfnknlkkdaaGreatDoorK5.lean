import Derived.Test.YtnimgfnknlkkdaaGreatDoorK4
import Derived.Test.YtnimgfnknlkkdaaGreatDoorK3
set_option linter.unusedVariables false
set_option linter.unusedSimpArgs false
open Go
namespace Go.Proofs.YtnimgfnknlkkdaaGreatDoor.H
open Go Go.RowKit Go.Proofs.YtnimgfnknlkkdaaGreatDoorW.PrintWords Go.Proofs.YtnimgfnknlkkdaaGreatDoorW.PrintLast Go.Proofs.YtnimgfnknlkkdaaGreatDoorW.PrintMore Go.Proofs.YtnimgfnknlkkdaaGreatDoor.Num
/-! positive, (Layout).Gross -/
theorem rq_nil : rq false ⟨#[]⟩ ⟨#[]⟩ = 0 := by
  obtain ⟨z1, z2, z3⟩ := can_zero
  have := rq_can 0
  rwa [z1, z2, z3] at this
theorem ok_zero : OkQ 0 := by
  constructor
  · rw [can_zero.2.1]; decide
  · show (natB 1).size ≤ _
    rw [natB_one]; decide
set_option maxRecDepth 100000 in
set_option maxHeartbeats 1000000 in
theorem w_positive (n : Bool) (s t : ByteArray) (w : World) (hs : s.size ≤ 137438953472) (ht : t.size ≤ 137438953472) (hz : OkQ (rq n s t)) :
    Calls Tryz.prog 49 #[RV n s t] w fun e w' => e = .returned (RQ (maxQ (rq n s t) 0)) ∧ Below w.heap.size w w' := by
  have MX := Lib.hid (fun w => rational_Max n s t false ⟨#[]⟩ ⟨#[]⟩ w hs ht (by decide) (by decide) hz (by rw [rq_nil]; exact ok_zero))
  rw [rq_nil] at MX
  clear hs ht hz
  generalize maxQ (rq n s t) 0 = z at *
  simp only [QV, RQ] at MX ⊢
  generalize canS z = zS at *
  generalize canN z = zN at *
  generalize canD z = zD at *
  have T2 := two_new w (.cells #[.bool n, .string s, .string t] 23) (.cells #[.bool false, .string ⟨#[]⟩, .string ⟨#[]⟩] 23)
  obtain ⟨t1, t2, tB⟩ := T2
  obtain ⟨⟨a0, a1, a2⟩, -⟩ := cells3 t1
  have N2 := Lib.hid t2
  have NB := Aside0.mk tB
  clear t1 t2 tB
  go_enter Tryz.func49, Tryz.ntmps49
  go_wp2_with (go_at_call 86; refine (MX.out _).mono ?_; rintro e w2 ⟨rfl, hb2⟩; obtain ⟨⟨c1, c2, c3⟩, c4, c5, c6⟩ := cells3 (heap_b hb2 N2.out); have HB2 := Aside0.mk hb2)
  refine bodyPost_ret (v := RV zS zN zD) ?_ rfl ⟨rfl, ?_⟩
  · exact results_q rfl _ _ (w.heap.size + 1) rfl (by go_simp) (by go_simp) (by go_simp)
  · exact below_set (below_set (below_set (below_s HB2.out NB.out) (Nat.le_add_right _ 1)) (Nat.le_add_right _ 1)) (Nat.le_add_right _ 1)
theorem kQ_zero (W : World) (base : Nat) (ok : Nat → Prop) : kQ.M W base ok 0 [.bool false, .string ⟨#[]⟩, .string ⟨#[]⟩] := by
  have h := kQ_mk W base ok 0
  rwa [can_zero.1, can_zero.2.1, can_zero.2.2] at h
def zerosQ (n : Nat) : ResV := ⟨List.replicate n 0, 0⟩
set_option maxRecDepth 100000 in
set_option maxHeartbeats 1000000 in
theorem w_LGross (n : Nat) (l : List TierV) (m tot : Rat) (A : Option Addr) (c : Nat) (B : Option Addr) (p d : Nat) (w : World) (hn : n ≤ 1099511627776) (hC : kWTier.C w A l.length l) (hc : l.length ≤ c) (hk : PayOk (zerosQ n) l m) :
    Calls Tryz.prog 55 #[.agg #[.int .i64 n, .slice A l.length c, .slice B p d, .bool (canS tot), .string (canN tot), .string (canD tot)], RQ m] w fun e w' => ∃ v, e = .returned v ∧ kQ.R 23 w' w.heap.size (fun _ => True) v ((zerosQ n).adds (paysOf l m)).claims ∧ Below w.heap.size w w' := by
  have PA := Aside0.mk (fun (gr : Nat) (v : Value) (w' : World) h1 h2 => w_pay (zerosQ n) l m A c gr v w w' h1 h2 hC hc hk)
  have T2 := two_new w (.cells #[.int .i64 n, .slice A l.length c, .slice B p d, .bool (canS tot), .string (canN tot), .string (canD tot)] 91) (.cells #[.bool (canS m), .string (canN m), .string (canD m)] 23)
  obtain ⟨t1, t2, tB⟩ := T2
  have a0 := blk_cell t1 0
  have a1 := blk_cell t1 1
  have a2 := blk_cell t1 2
  have a3 := blk_cell t1 3
  have a4 := blk_cell t1 4
  have a5 := blk_cell t1 5
  obtain ⟨⟨b0, b1, b2⟩, -⟩ := cells3 t2
  have N1 := Lib.hid t1
  have N2 := Lib.hid t2
  have NB := Aside0.mk tB
  have NS := Lib.hid (show ((w.alloc (.cells #[.int .i64 n, .slice A l.length c, .slice B p d, .bool (canS tot), .string (canN tot), .string (canD tot)] 91)).alloc (.cells #[.bool (canS m), .string (canN m), .string (canD m)] 23)).heap.size = w.heap.size + 2 by rw [size_new, size_new])
  have MK0 := Aside0.mk (fun (W : World) (base : Nat) => show kQ.M W base (fun _ => False) 0 [.bool false, .string ⟨#[]⟩, .string ⟨#[]⟩] from kQ_zero W base _)
  clear t1 t2 tB hC hk
  simp only [RQ] at PA ⊢
  generalize (zerosQ n).adds (paysOf l m) = out at *
  generalize canS tot = tS at *
  generalize canN tot = tN at *
  generalize canD tot = tD at *
  generalize canS m = mS at *
  generalize canN m = mN at *
  generalize canD m = mD at *
  go_enter Tryz.func55, Tryz.ntmps55
  go_wp2_with (at_make; go_loud (refine Kd.R_make kQ w.heap.size 23 rfl (N := 8) rfl 45 _ _ rfl n (by rfl) (by rfl) Tryz.underlying45 _ 40 infoQ rfl (by decide) (by decide) 0 (ok := fun _ => True) (okp := fun _ => False) (MK0.out _ _) (fun _ hk => hk.elim) trivial (by omega) (by omega) NB.out (by rw [NS.out]; omega) ?_); intro v3 w3 ho3 hb3 hg3 hat3; obtain ⟨A3, n3, rfl⟩ : ∃ A c, v3 = .slice A n c := (by obtain ⟨A, c, h⟩ := Kd.R_slice ho3; exact ⟨A, c, by rw [h, List.length_replicate, Int.toNat_natCast]⟩); rw [Int.toNat_natCast] at ho3; have M1 := Lib.hid (heap_old (o := .cells #[.slice A3 n n3, .bool false, .string ⟨#[]⟩, .string ⟨#[]⟩] 133) ((hg3.block _ (blk_lt N1.out) (by simp)).trans N1.out)); have M2 := Lib.hid (heap_old (o := .cells #[.slice A3 n n3, .bool false, .string ⟨#[]⟩, .string ⟨#[]⟩] 133) ((hg3.block _ (blk_lt N2.out) (by simp)).trans N2.out)); have e1 := blk_cell M1.out 1; obtain ⟨⟨f0, f1, f2⟩, -⟩ := cells3 M2.out; have HO3 := Aside0.mk ho3; have HB3 := Aside0.mk hb3; clear ho3 hb3 hg3 hat3)
  have HN := Lib.hid (heap_new w3 (.cells #[.slice A3 n n3, .bool false, .string ⟨#[]⟩, .string ⟨#[]⟩] 133))
  have h4 := below_alloc (Below.refl w3.heap.size w3) (.cells #[.slice A3 n n3, .bool false, .string ⟨#[]⟩, .string ⟨#[]⟩] 133)
  have HO4 := Aside0.mk (show OwnR (w3.alloc (.cells #[.slice A3 n n3, .bool false, .string ⟨#[]⟩, .string ⟨#[]⟩] 133)) w.heap.size w3.heap.size (.slice A3 n n3) (zerosQ n) from ⟨by rw [HN.out, show (zerosQ n).reserve = 0 from rfl, can_zero.1, can_zero.2.1, can_zero.2.2], HB3.out.size, Kd.R_below HO3.out h4⟩)
  have HB4 := Aside0.mk (below_s h4 HB3.out)
  refine (PA.out _ _ _ HO4.out HB4.out).mono ?_
  rintro e w5 ⟨rfl, ho5, hf5⟩
  obtain ⟨g5, -, k5⟩ := ho5
  have x0 := (cells4 g5).1.1
  go_wp2
  go_ret
  exact ⟨_, rfl, k5, hf5.1⟩
end Go.Proofs.YtnimgfnknlkkdaaGreatDoor.H
set_option linter.unusedVariables false
set_option linter.unusedSimpArgs false
open Go
namespace Go.Proofs.YtnimgfnknlkkdaaGreatDoor.H
open Go Go.RowKit Go.Proofs.YtnimgfnknlkkdaaGreatDoorW.PrintWords Go.Proofs.YtnimgfnknlkkdaaGreatDoorW.PrintLast Go.Proofs.YtnimgfnknlkkdaaGreatDoorW.PrintMore Go.Proofs.YtnimgfnknlkkdaaGreatDoor.Num
def RatF.sg (r : RatF) : Int := r.q.num.sign
def RatF.small (r : RatF) (k : Nat) : Prop := r.num.size ≤ k ∧ r.den.size ≤ k
/-- The error of a part; n: the number of claims; taken: the claims of earlier agreements. -/
def partErr (n : Nat) (taken : Int → Bool) (p : PartV) : Int :=
  if p.claim ≠ -1 ∧ (p.claim < 0 ∨ (n : Int) ≤ p.claim) then 1 else if p.claim = -1 ∧ p.capped = false then 21 else if p.capped = true ∧ p.cap.sg < 0 then 7 else if p.claim ≠ -1 ∧ taken p.claim = true then 20 else 0
/-- The first error of a list (0: none). -/
def firstErr : List Int → Int
  | [] => 0
  | e :: l => if e = 0 then firstErr l else e
theorem firstErr_zero {l : List Int} (h : ∀ x ∈ l, x = 0) : firstErr l = 0 := by
  induction l with
  | nil => rfl
  | cons e l ih => rw [firstErr, if_pos (h e List.mem_cons_self)]; exact ih (fun x hx => h x (List.mem_cons_of_mem _ hx))
theorem firstErr_at {l : List Int} {i : Nat} (hi : i < l.length) (h : ∀ k (hk : k < l.length), k < i → l[k] = 0) (h2 : l[i] ≠ 0) : firstErr l = l[i] := by
  induction l generalizing i with
  | nil => simp at hi
  | cons e l ih =>
    cases i with
    | zero => rw [firstErr, if_neg (by simpa using h2)]; rfl
    | succ i =>
      have h0 : e = 0 := h 0 (by simp) (by omega)
      rw [firstErr, if_pos h0]
      have := ih (i := i) (by simpa using hi) (fun k hk hki => h (k + 1) (by simpa using hk) (by omega)) h2
      exact this
def agrErr (n : Nat) (taken : Int → Bool) (ts : List (List PartV)) : Int := if 24 < ts.length then 2 else if longB ts then 2 else firstErr (ts.flatten.map (partErr n taken))
theorem parts_zero {n : Nat} {taken : Int → Bool} {ps : List PartV} (h : ∀ k, k < ps.length → partErr n taken (rdP ps k) = 0) : firstErr (ps.map (partErr n taken)) = 0 := by
  refine firstErr_zero fun x hx => ?_
  obtain ⟨p, hp, rfl⟩ := List.mem_map.1 hx
  obtain ⟨k, hk, rfl⟩ := List.getElem_of_mem hp
  have := h k hk
  rwa [rdP, List.getD_eq_getElem?_getD, List.getElem?_eq_getElem hk] at this
theorem parts_at {n : Nat} {taken : Int → Bool} {ps : List PartV} {i : Nat} (hi : i < ps.length) (h : ∀ k, k < i → partErr n taken (rdP ps k) = 0) (h2 : partErr n taken (rdP ps i) ≠ 0) : firstErr (ps.map (partErr n taken)) = partErr n taken (rdP ps i) := by
  have e : ∀ k (hk : k < ps.length), partErr n taken (rdP ps k) = partErr n taken ps[k] := fun k hk => by rw [rdP, List.getD_eq_getElem?_getD, List.getElem?_eq_getElem hk]; rfl
  rw [e i hi] at h2 ⊢
  have := firstErr_at (l := ps.map (partErr n taken)) (i := i) (by simpa using hi) (fun k hk hki => by have := h k hki; rw [e k (by simpa using hk)] at this; simpa using this) (by simpa using h2)
  simpa using this
/-- Five cells of a block. -/
theorem cells5 {w : World} {g : Nat} {a b c d e : Value} {t : TypeId} (h : w.heap[g]? = some (.cells #[a, b, c, d, e] t)) :
    w.cell? ⟨g, 0, none⟩ = some a ∧ w.cell? ⟨g, 1, none⟩ = some b ∧ w.cell? ⟨g, 2, none⟩ = some c ∧ w.cell? ⟨g, 3, none⟩ = some d ∧ w.cell? ⟨g, 4, none⟩ = some e := by
  refine ⟨?_, ?_, ?_, ?_, ?_⟩ <;> simp [World.cell?, h]
theorem at_bool {w : World} {A : Option Addr} {bs : List Bool} (h : Kd.bool.C w A bs.length bs) {k : Nat} (hk : k < bs.length) : ∃ ad, A = some ad ∧ w.cell? (ad.add k) = some (.bool (bs.getD k false)) := by
  obtain ⟨ad, cs, e1, _, hK, hc0⟩ := Kd.C_get h false (k : Int) (by omega) (by omega)
  rw [Int.toNat_natCast] at hK hc0
  have hK' : cs = [.bool (bs.getD k false)] := hK
  subst hK'
  have := hc0 0 _ rfl
  simp only [show Kd.bool.sz = 1 from rfl, Nat.mul_one, Nat.add_zero] at this
  exact ⟨ad, e1, this⟩
theorem rdP_mem {ps : List PartV} {i : Nat} (h : i < ps.length) : rdP ps i ∈ ps := by
  rw [rdP, List.getD_eq_getElem?_getD, List.getElem?_eq_getElem h]
  exact List.getElem_mem h
set_option maxRecDepth 100000 in
set_option maxHeartbeats 1000000 in
theorem w_checkAgreement (ts : List (List PartV)) (A : Option Addr) (c : Nat) (bs : List Bool) (B : Option Addr) (d : Nat) (w : World) (hC : kTier.C w A ts.length ts) (hc : ts.length ≤ c) (hsz : ts.flatten.length ≤ 1099511627776) (hB : Kd.bool.C w B bs.length bs) (hd : bs.length ≤ d)
    (taken : Int → Bool) (ht : ∀ k, k < bs.length → taken (k : Int) = bs.getD k false) (hsm : ∀ p ∈ ts.flatten, p.cap.small 549755813888) :
    Calls Tryz.prog 42 #[.agg #[.slice A ts.length c], .slice B bs.length d] w fun e w' => e = .returned (.int .i64 (agrErr bs.length taken ts)) ∧ Below w.heap.size w w' := by
  have CC := Aside0.mk (fun {w : World} hC => slices_Concat ts A c w hC hc hsz)
  have CF := Aside0.mk (fun {w : World} hC => slices_ContainsFunc ts A c w hC hc)
  have HC := Aside0.mk hC
  have HBB := Aside0.mk hB
  have hm := hC.2.1
  have hmb := hB.2.1
  have HE := Lib.hid (show agrErr bs.length taken ts = if 24 < ts.length then 2 else if longB ts then 2 else firstErr (ts.flatten.map (partErr bs.length taken)) from rfl)
  have HT := Aside0.mk ht
  have HSM := Aside0.mk hsm
  generalize agrErr bs.length taken ts = r at *
  clear hC hB hsm ht
  by_cases h24 : 24 < ts.length
  · have g : (24 : Int) < (ts.length : Int) := by omega
    have R := Lib.hid (show r = 2 by rw [HE.out, if_pos h24])
    clear h24 HE
    go_enter Tryz.func42, Tryz.ntmps42
    go_wp2
    go_ret
    exact ⟨ret_i R.out.symm, below_alloc (Below.refl _ _) _⟩
  · have g : ¬ (24 : Int) < (ts.length : Int) := by omega
    cases hl : longB ts
    · have R0 := Lib.hid (show r = firstErr (ts.flatten.map (partErr bs.length taken)) by rw [HE.out, if_neg h24, if_neg (by rw [hl]; simp)])
      rw [hl] at CF
      clear h24 HE hl
      generalize ts.flatten = ps at *
      go_enter Tryz.func42, Tryz.ntmps42
      go_wp2_with (go_at_call 71; refine (CF.out (Kd.C_below HC.out (below_alloc (Below.refl _ _) _))).mono ?_; rintro e w1 ⟨rfl, hw⟩; subst hw)
      refine (CC.out (Kd.C_below HC.out (below_alloc (Below.refl _ _) _))).mono ?_
      rintro e w1 ⟨v1, rfl, ⟨A1, c1, rfl, hc1, hC1⟩, hb1⟩
      have HC1 := Aside0.mk hC1
      have HB1 := Aside0.mk (below_step (below_alloc (Below.refl w.heap.size w) _) hb1)
      have HBS := Aside0.mk (Kd.C_below HBB.out HB1.out)
      have hm1 := hC1.2.1
      have HE := R0
      clear hC1 hb1 CC HC CF HBB R0
      go_wp2
      go_loopw [21] (fun v21 w' => ∃ i : Nat, i ≤ ps.length ∧ v21 = .int .i64 i ∧ Aside0 (∀ k, k < i → partErr bs.length taken (rdP ps k) = 0) ∧ Aside0 (Below w1.heap.size w1 w')) (fun v21 _ => ps.length - (intOf v21).toNat)
      case atStart => exact ⟨0, Nat.zero_le _, rfl, ⟨fun k hk => by omega⟩, ⟨Below.refl _ _⟩⟩
      case round =>
        obtain ⟨i, hi, rfl, hA, hb⟩ := hrel
        rcases Nat.lt_or_ge i ps.length with hlt | hge
        · obtain ⟨ad, rfl, x0, x1, x2, x3, x4⟩ := at_Part (Kd.C_below HC1.out hb.out) hlt
          have hp0 : (0 : Int) ≤ (i : Int) := by omega
          have hp1 : (i : Int) < (ps.length : Int) := by omega
          have PA := Aside0.mk (fun h => parts_at (n := bs.length) (taken := taken) hlt hA.out h)
          obtain ⟨s1, s2⟩ := HSM.out _ (rdP_mem hlt)
          obtain ⟨p, hpp⟩ : ∃ p, p = rdP ps i := ⟨_, rfl⟩
          rw [← hpp] at x0 x1 x2 x3 x4 PA s1 s2
          have HPP := Lib.hid hpp.symm
          clear hpp
          have HP := Lib.hid (show partErr bs.length taken p = (if p.claim ≠ -1 ∧ (p.claim < 0 ∨ (bs.length : Int) ≤ p.claim) then 1 else if p.claim = -1 ∧ p.capped = false then 21 else if p.capped = true ∧ p.cap.sg < 0 then 7 else if p.claim ≠ -1 ∧ taken p.claim = true then 20 else 0) from rfl)
          have SG := Lib.hid (fun w => rational_Sign p.cap.neg p.cap.num p.cap.den w s1 s2)
          have hsg : (rq p.cap.neg p.cap.num p.cap.den).num.sign = p.cap.sg := rfl
          rw [hsg] at SG
          clear s1 s2 hsg
          have HBW := Aside0.mk (below_alloc hb.out (.cells #[.int .i64 p.claim, .bool p.capped, .bool p.cap.neg, .string p.cap.num, .string p.cap.den] 38))
          generalize p.claim = pc at *
          generalize p.cap.sg = sg at *
          generalize p.cap.neg = neg at *
          generalize p.cap.num = num at *
          generalize p.cap.den = den at *
          generalize p.capped = cb at *
          by_cases h0 : pc = -1
          · subst h0
            cases cb
            · have R := Lib.hid (show partErr bs.length taken p = 21 by rw [HP.out]; simp)
              clear HP
              go_wp2
              go_ret
              exact ⟨ret_i (by rw [HE.out, PA.out (by rw [R.out]; decide), R.out]), below_step HB1.out HBW.out⟩
            · by_cases hs : sg < 0
              · have R := Lib.hid (show partErr bs.length taken p = 7 by rw [HP.out]; simp [hs])
                clear HP
                go_wp2_with (go_at_call 21; refine (SG.out _).mono ?_; rintro e w2 ⟨rfl, hb2⟩; obtain ⟨y0, y1, y2, y3, y4⟩ := cells5 (heap_b hb2 (heap_new _ _)); have HBW2 := Aside0.mk (below_s hb2 HBW.out); clear HBW hb2)
                go_ret
                exact ⟨ret_i (by rw [HE.out, PA.out (by rw [R.out]; decide), R.out]), below_step HB1.out HBW2.out⟩
              · have R := Lib.hid (show partErr bs.length taken p = 0 by rw [HP.out]; simp [hs])
                clear HP
                go_wp2_with (go_at_call 21; refine (SG.out _).mono ?_; rintro e w2 ⟨rfl, hb2⟩; obtain ⟨y0, y1, y2, y3, y4⟩ := cells5 (heap_b hb2 (heap_new _ _)); have HBW2 := Aside0.mk (below_s hb2 HBW.out); clear HBW hb2)
                go_roundw
                case measure => simp [intOf]; omega
                case rel => exact ⟨i + 1, hlt, by go_num, ⟨fun k hk => by
                  rcases Nat.lt_or_ge k i with h2 | h2
                  · exact hA.out k h2
                  · obtain rfl : k = i := by omega
                    rw [HPP.out]; exact R.out⟩, HBW2⟩
          · have g0 : (pc == -1) = false := by simp [h0]
            by_cases h1 : pc < 0
            · have R := Lib.hid (show partErr bs.length taken p = 1 by rw [HP.out]; simp [h0, h1])
              clear HP
              go_wp2
              go_ret
              exact ⟨ret_i (by rw [HE.out, PA.out (by rw [R.out]; decide), R.out]), below_step HB1.out HBW.out⟩
            · by_cases h2 : (bs.length : Int) ≤ pc
              · have R := Lib.hid (show partErr bs.length taken p = 1 by rw [HP.out]; simp [h0, h2])
                clear HP
                go_wp2
                go_ret
                exact ⟨ret_i (by rw [HE.out, PA.out (by rw [R.out]; decide), R.out]), below_step HB1.out HBW.out⟩
              · obtain ⟨q, rfl⟩ := Int.eq_ofNat_of_zero_le (show 0 ≤ pc by omega)
                have hq : q < bs.length := by omega
                have hq1 : (q : Int) < (bs.length : Int) := by omega
                have hq2 : ¬ (bs.length : Int) ≤ (q : Int) := by omega
                obtain ⟨bd, rfl, z0⟩ := at_bool (Kd.C_below HBS.out hb.out) hq
                have HTQ := Lib.hid (HT.out q hq)
                rw [HTQ.out] at HP
                generalize bs.getD q false = tk at *
                clear HTQ h2
                cases cb
                · cases tk
                  · have z1 := pw_cell_below (below_alloc (Below.refl wr.heap.size wr) (.cells #[.int .i64 (q : Int), .bool false, .bool neg, .string num, .string den] 38)) z0
                    have R := Lib.hid (show partErr bs.length taken p = 0 by rw [HP.out]; simp [h0, h1, hq2])
                    clear HP
                    go_wp2
                    go_roundw
                    case measure => simp [intOf]; omega
                    case rel => exact ⟨i + 1, hlt, by go_num, ⟨fun k hk => by
                      rcases Nat.lt_or_ge k i with h2 | h2
                      · exact hA.out k h2
                      · obtain rfl : k = i := by omega
                        rw [HPP.out]; exact R.out⟩, HBW⟩
                  · have z1 := pw_cell_below (below_alloc (Below.refl wr.heap.size wr) (.cells #[.int .i64 (q : Int), .bool false, .bool neg, .string num, .string den] 38)) z0
                    have R := Lib.hid (show partErr bs.length taken p = 20 by rw [HP.out]; simp [h0, h1, hq2])
                    clear HP
                    go_wp2
                    go_ret
                    exact ⟨ret_i (by rw [HE.out, PA.out (by rw [R.out]; decide), R.out]), below_step HB1.out HBW.out⟩
                · by_cases hs : sg < 0
                  · have R := Lib.hid (show partErr bs.length taken p = 7 by rw [HP.out]; simp [h0, h1, hq2, hs])
                    clear HP
                    go_wp2_with (go_at_call 21; refine (SG.out _).mono ?_; rintro e w2 ⟨rfl, hb2⟩; obtain ⟨y0, y1, y2, y3, y4⟩ := cells5 (heap_b hb2 (heap_new _ _)); have HBW2 := Aside0.mk (below_s hb2 HBW.out); clear HBW hb2)
                    go_ret
                    exact ⟨ret_i (by rw [HE.out, PA.out (by rw [R.out]; decide), R.out]), below_step HB1.out HBW2.out⟩
                  · cases tk
                    · have Z1 := Aside0.mk (fun {w2 : World} (hb2 : Below (wr.alloc (.cells #[.int .i64 (q : Int), .bool true, .bool neg, .string num, .string den] 38)).heap.size (wr.alloc (.cells #[.int .i64 (q : Int), .bool true, .bool neg, .string num, .string den] 38)) w2) => pw_cell_below hb2 (pw_cell_below (below_alloc (Below.refl _ _) _) z0))
                      have R := Lib.hid (show partErr bs.length taken p = 0 by rw [HP.out]; simp [h0, h1, hq2, hs])
                      clear HP
                      go_wp2_with (go_at_call 21; refine (SG.out _).mono ?_; rintro e w2 ⟨rfl, hb2⟩; have z1 := Z1.out hb2; obtain ⟨y0, y1, y2, y3, y4⟩ := cells5 (heap_b hb2 (heap_new _ _)); have HBW2 := Aside0.mk (below_s hb2 HBW.out); clear HBW hb2)
                      go_roundw
                      case measure => simp [intOf]; omega
                      case rel => exact ⟨i + 1, hlt, by go_num, ⟨fun k hk => by
                        rcases Nat.lt_or_ge k i with h2 | h2
                        · exact hA.out k h2
                        · obtain rfl : k = i := by omega
                          rw [HPP.out]; exact R.out⟩, HBW2⟩
                    · have Z1 := Aside0.mk (fun {w2 : World} (hb2 : Below (wr.alloc (.cells #[.int .i64 (q : Int), .bool true, .bool neg, .string num, .string den] 38)).heap.size (wr.alloc (.cells #[.int .i64 (q : Int), .bool true, .bool neg, .string num, .string den] 38)) w2) => pw_cell_below hb2 (pw_cell_below (below_alloc (Below.refl _ _) _) z0))
                      have R := Lib.hid (show partErr bs.length taken p = 20 by rw [HP.out]; simp [h0, h1, hq2, hs])
                      clear HP
                      go_wp2_with (go_at_call 21; refine (SG.out _).mono ?_; rintro e w2 ⟨rfl, hb2⟩; have z1 := Z1.out hb2; obtain ⟨y0, y1, y2, y3, y4⟩ := cells5 (heap_b hb2 (heap_new _ _)); have HBW2 := Aside0.mk (below_s hb2 HBW.out); clear HBW hb2)
                      go_ret
                      exact ⟨ret_i (by rw [HE.out, PA.out (by rw [R.out]; decide), R.out]), below_step HB1.out HBW2.out⟩
        · obtain rfl : i = ps.length := by omega
          have R := Lib.hid (parts_zero hA.out)
          go_wp2
          go_ret
          exact ⟨ret_i (by rw [HE.out, R.out]), below_step HB1.out hb.out⟩
    · have R := Lib.hid (show r = 2 by rw [HE.out, if_neg h24, if_pos hl])
      rw [hl] at CF
      clear h24 HE hl
      go_enter Tryz.func42, Tryz.ntmps42
      go_wp2_with (go_at_call 71; refine (CF.out (Kd.C_below HC.out (below_alloc (Below.refl _ _) _))).mono ?_; rintro e w1 ⟨rfl, rfl⟩)
      go_ret
      exact ⟨ret_i R.out.symm, below_alloc (Below.refl _ _) _⟩
end Go.Proofs.YtnimgfnknlkkdaaGreatDoor.H
set_option linter.unusedVariables false
set_option linter.unusedSimpArgs false
open Go
namespace Go.Proofs.YtnimgfnknlkkdaaGreatDoor.H
open Go Go.RowKit Go.Proofs.YtnimgfnknlkkdaaGreatDoorW.PrintWords Go.Proofs.YtnimgfnknlkkdaaGreatDoorW.PrintLast Go.Proofs.YtnimgfnknlkkdaaGreatDoorW.PrintMore Go.Proofs.YtnimgfnknlkkdaaGreatDoor.Num
/-! What an estate's check answers. -/
def claimErr (c : ClaimV) : Int := if c.holder < -1 ∨ 8 ≤ c.holder then 19 else if c.rank < 0 ∨ 7 < c.rank then 1 else if c.amount.sg < 0 then 7 else 0
def hasB (a : List (List PartV)) (c : Int) : Bool := a.flatten.any (fun p => decide (p.claim = c))
def takenB (gs : List (List (List PartV))) (k : Nat) (c : Int) : Bool := (gs.take k).any (fun a => hasB a c)
def estErr (cash : RatF) (cs : List ClaimV) (gs : List (List (List PartV))) : Int :=
  if 24 < cs.length ∨ 12 < gs.length then 2 else if cash.sg < 0 then 7 else if firstErr (cs.map claimErr) ≠ 0 then firstErr (cs.map claimErr) else firstErr ((List.range gs.length).map (fun k => agrErr cs.length (takenB gs k) (rowAt gs k)))
theorem mem_compact {x : Int} {zs : List Int} : x ∈ Lib.compact zs ↔ x ∈ zs := by
  unfold Lib.compact Lib.compactUpTo
  simp only [List.mem_map, List.mem_filter, List.mem_range]
  constructor
  · rintro ⟨j, ⟨hj, -⟩, rfl⟩
    rw [getElem!_pos _ j (by simpa using hj)]
    exact Array.mem_def.1 (Array.getElem_mem _)
  · intro hx
    obtain ⟨j, hj, rfl⟩ := List.getElem_of_mem hx
    have key : ∀ n, ∀ j (hj : j < zs.length), j ≤ n → ∃ i, (i < zs.length ∧ Lib.keeps zs.toArray i = true) ∧ zs.toArray[i]! = zs[j] := by
      intro n
      induction n with
      | zero =>
        intro j hj hn
        obtain rfl : j = 0 := by omega
        exact ⟨0, ⟨hj, by simp [Lib.keeps]⟩, by rw [getElem!_pos _ 0 (by simpa using hj)]; rfl⟩
      | succ n ih =>
        intro j hj hn
        by_cases hk : Lib.keeps zs.toArray j = true
        · exact ⟨j, ⟨hj, hk⟩, by rw [getElem!_pos _ j (by simpa using hj)]; rfl⟩
        · have hk2 : j ≠ 0 ∧ zs.toArray[j]! = zs.toArray[j - 1]! := by simpa [Lib.keeps] using hk
          obtain ⟨i, hi, he⟩ := ih (j - 1) (by omega) (by omega)
          refine ⟨i, hi, he.trans ?_⟩
          have h3 := hk2.2
          rw [getElem!_pos _ j (by simpa using hj), getElem!_pos _ (j - 1) (by simp; omega)] at h3
          exact h3.symm
    exact key j j hj (Nat.le_refl _)
theorem mem_memL {ts : List (List PartV)} {x : Int} : x ∈ memL ts ↔ x ≠ -1 ∧ hasB ts x = true := by
  unfold memL sortZ memZ hasB
  rw [mem_compact, List.mem_mergeSort, List.any_eq_true]
  simp only [List.mem_map, List.mem_filter, decide_eq_true_eq]
  constructor
  · rintro ⟨p, ⟨h1, h2⟩, rfl⟩; exact ⟨h2, p, h1, rfl⟩
  · rintro ⟨h1, p, h2, rfl⟩; exact ⟨p, ⟨h2, h1⟩, rfl⟩
theorem firstErr_all {l : List Int} (h : firstErr l = 0) : ∀ x ∈ l, x = 0 := by
  induction l with
  | nil => exact fun _ hx => absurd hx (by simp)
  | cons e l ih =>
    by_cases he : e = 0
    · rw [firstErr, if_pos he] at h
      intro x hx
      rcases List.mem_cons.1 hx with rfl | hx
      · exact he
      · exact ih h x hx
    · rw [firstErr, if_neg he] at h; exact absurd h he
theorem agr_range {n : Nat} {taken : Int → Bool} {ts : List (List PartV)} (h : agrErr n taken ts = 0) : ∀ x ∈ memL ts, 0 ≤ x ∧ x < (n : Int) := by
  intro x hx
  obtain ⟨h1, h2⟩ := mem_memL.1 hx
  unfold agrErr at h
  split at h
  · omega
  split at h
  · omega
  unfold hasB at h2
  rw [List.any_eq_true] at h2
  obtain ⟨p, hp, hpx⟩ := h2
  have hpx : p.claim = x := by simpa using hpx
  subst hpx
  have h3 := firstErr_all h _ (List.mem_map.2 ⟨p, hp, rfl⟩)
  unfold partErr at h3
  by_cases h4 : p.claim ≠ -1 ∧ (p.claim < 0 ∨ (n : Int) ≤ p.claim)
  · rw [if_pos h4] at h3; omega
  · omega
theorem takenB_succ {gs : List (List (List PartV))} {j : Nat} (h : j < gs.length) (c : Int) : takenB gs (j + 1) c = (takenB gs j c || hasB (rowAt gs j) c) := by
  unfold takenB rowAt
  rw [List.take_succ_eq_append_getElem h, List.any_append, List.getD_eq_getElem?_getD, List.getElem?_eq_getElem h]
  simp
theorem firstErr_map_zero {α : Type} {l : List α} {f : α → Int} {d : α} (h : ∀ k, k < l.length → f (l.getD k d) = 0) : firstErr (l.map f) = 0 := by
  refine firstErr_zero fun x hx => ?_
  obtain ⟨p, hp, rfl⟩ := List.mem_map.1 hx
  obtain ⟨k, hk, rfl⟩ := List.getElem_of_mem hp
  have := h k hk
  rwa [List.getD_eq_getElem?_getD, List.getElem?_eq_getElem hk] at this
theorem firstErr_map_at {α : Type} {l : List α} {f : α → Int} {d : α} {i : Nat} (hi : i < l.length) (h : ∀ k, k < i → f (l.getD k d) = 0) (h2 : f (l.getD i d) ≠ 0) : firstErr (l.map f) = f (l.getD i d) := by
  have e : ∀ k (hk : k < l.length), f (l.getD k d) = f l[k] := fun k hk => by rw [List.getD_eq_getElem?_getD, List.getElem?_eq_getElem hk]; rfl
  rw [e i hi] at h2 ⊢
  have := firstErr_at (l := l.map f) (i := i) (by simpa using hi) (fun k hk hki => by have := h k hki; rw [e k (by simpa using hk)] at this; simpa using this) (by simpa using h2)
  simpa using this
theorem range_getD {n k : Nat} (h : k < n) : (List.range n).getD k 0 = k := by
  rw [List.getD_eq_getElem?_getD, List.getElem?_eq_getElem (by simpa using h)]; simp
theorem agrs_zero {n : Nat} {f : Nat → Int} (h : ∀ k, k < n → f k = 0) : firstErr ((List.range n).map f) = 0 :=
  firstErr_map_zero (d := 0) (fun k hk => by rw [range_getD (by simpa using hk)]; exact h k (by simpa using hk))
theorem agrs_at {n i : Nat} {f : Nat → Int} (hi : i < n) (h : ∀ k, k < i → f k = 0) (h2 : f i ≠ 0) : firstErr ((List.range n).map f) = f i := by
  have := firstErr_map_at (l := List.range n) (f := f) (d := 0) (i := i) (by simpa using hi) (fun k hk => by rw [range_getD (by omega)]; exact h k hk) (by rw [range_getD hi]; exact h2)
  rwa [range_getD hi] at this
end Go.Proofs.YtnimgfnknlkkdaaGreatDoor.H
set_option linter.unusedVariables false
set_option linter.unusedSimpArgs false
open Go
namespace Go.Proofs.YtnimgfnknlkkdaaGreatDoor.H
open Go Go.RowKit Go.Proofs.YtnimgfnknlkkdaaGreatDoorW.PrintWords Go.Proofs.YtnimgfnknlkkdaaGreatDoorW.PrintLast Go.Proofs.YtnimgfnknlkkdaaGreatDoorW.PrintMore Go.Proofs.YtnimgfnknlkkdaaGreatDoor.Num
/-! What lay makes, as a plain function; small words for it. -/
theorem addz (r : RatF) (w : World) (h : ShortR r) : Calls Tryz.prog 24 #[RV r.neg r.num r.den, RV false ⟨#[]⟩ ⟨#[]⟩] w fun e w' => e = .returned (RQ r.q) ∧ Below w.heap.size w w' := by
  have h1 := rational_Add r.neg r.num r.den false ⟨#[]⟩ ⟨#[]⟩ w h.n h.d (by decide) (by decide) h.q (by rw [rq_nil]; exact ok_zero)
  rw [rq_nil, Rat.add_zero] at h1
  exact h1
theorem minf (x : Rat) (r : RatF) (w : World) (hx : OkQ x) (h : ShortR r) : Calls Tryz.prog 29 #[RQ x, RV r.neg r.num r.den] w fun e w' => e = .returned (RQ (minQ x r.q)) ∧ Below w.heap.size w w' := by
  have h1 := rational_Min (canS x) (canN x) (canD x) r.neg r.num r.den w hx.1 hx.d h.n h.d (by rw [rq_can]; exact hx) h.q
  rw [rq_can] at h1
  exact h1
def capOf (rest : List Rat) (x : PartV) : Rat := if x.capped then minQ (rdQ rest x.claim.toNat) x.cap.q else rdQ rest x.claim.toNat
def stepL (st : List Rat × TierV) (x : PartV) : List Rat × TierV :=
  if x.claim = -1 then (st.1, st.2.add (-1) x.cap.q) else (st.1.set x.claim.toNat (rdQ st.1 x.claim.toNat - capOf st.1 x), st.2.add x.claim (capOf st.1 x))
def tierAt (rest : List Rat) (ps : List PartV) (i : Nat) : List Rat × TierV := (ps.take i).foldl stepL (rest, zWTier)
def stepT (st : List Rat × List TierV) (ps : List PartV) : List Rat × List TierV := ((tierAt st.1 ps ps.length).1, st.2 ++ [(tierAt st.1 ps ps.length).2])
def ladAt (rest : List Rat) (ts : List (List PartV)) (j : Nat) : List Rat × List TierV := (ts.take j).foldl stepT (rest, [])
def lastAt (rest : List Rat) (ms : List Int) (i : Nat) : TierV := (ms.take i).foldl (fun t i => t.add i (rdQ rest i.toNat)) zWTier
def amounts (cs : List ClaimV) : List Rat := cs.map (fun c => c.amount.q)
def layP (cs : List ClaimV) (ts : List (List PartV)) : PoolV := ⟨memL ts, (ladAt (amounts cs) ts ts.length).2 ++ [lastAt (ladAt (amounts cs) ts ts.length).1 (memL ts) (memL ts).length]⟩
theorem tierAt_succ (rest : List Rat) (ps : List PartV) {i : Nat} (h : i < ps.length) : tierAt rest ps (i + 1) = stepL (tierAt rest ps i) (rdP ps i) := by
  rw [tierAt, List.take_succ_eq_append_getElem h, List.foldl_append, rdP, List.getD_eq_getElem?_getD, List.getElem?_eq_getElem h]
  rfl
theorem ladAt_succ (rest : List Rat) (ts : List (List PartV)) {j : Nat} (h : j < ts.length) : ladAt rest ts (j + 1) = stepT (ladAt rest ts j) (rowAt ts j) := by
  rw [ladAt, List.take_succ_eq_append_getElem h, List.foldl_append, rowAt, List.getD_eq_getElem?_getD, List.getElem?_eq_getElem h]
  rfl
theorem lastAt_succ (rest : List Rat) (ms : List Int) {i : Nat} (h : i < ms.length) : lastAt rest ms (i + 1) = (lastAt rest ms i).add (rd ms (i : Int)) (rdQ rest (rd ms (i : Int)).toNat) := by
  rw [lastAt, List.take_succ_eq_append_getElem h, List.foldl_append, rd, Int.toNat_natCast, List.getD_eq_getElem?_getD, List.getElem?_eq_getElem h]
  rfl
theorem stepL_len (st : List Rat × TierV) (x : PartV) : (stepL st x).1.length = st.1.length := by
  unfold stepL
  split
  · rfl
  · exact List.length_set
theorem stepL_parts (st : List Rat × TierV) (x : PartV) : (stepL st x).2.parts.length = st.2.parts.length + 1 := by
  unfold stepL
  split <;> simp [TierV.add]
theorem foldL_len : ∀ (ps : List PartV) (st : List Rat × TierV), (ps.foldl stepL st).1.length = st.1.length
  | [], _ => rfl
  | x :: ps, st => (foldL_len ps (stepL st x)).trans (stepL_len st x)
theorem foldL_parts : ∀ (ps : List PartV) (st : List Rat × TierV), (ps.foldl stepL st).2.parts.length = st.2.parts.length + ps.length
  | [], _ => rfl
  | x :: ps, st => by
    rw [List.foldl_cons, foldL_parts ps, stepL_parts, List.length_cons]
    omega
theorem tierAt_len (rest : List Rat) (ps : List PartV) (i : Nat) : (tierAt rest ps i).1.length = rest.length := foldL_len _ _
theorem tierAt_parts (rest : List Rat) (ps : List PartV) {i : Nat} (h : i ≤ ps.length) : (tierAt rest ps i).2.parts.length = i := by
  rw [tierAt, foldL_parts, List.length_take, Nat.min_eq_left h]
  exact Nat.zero_add i
theorem foldT_len : ∀ (ts : List (List PartV)) (st : List Rat × List TierV), (ts.foldl stepT st).1.length = st.1.length
  | [], _ => rfl
  | p :: ts, st => (foldT_len ts (stepT st p)).trans (tierAt_len _ _ _)
theorem ladAt_len (rest : List Rat) (ts : List (List PartV)) (j : Nat) : (ladAt rest ts j).1.length = rest.length := foldT_len _ _
theorem foldT_tiers : ∀ (ts : List (List PartV)) (st : List Rat × List TierV), (ts.foldl stepT st).2.length = st.2.length + ts.length
  | [], _ => rfl
  | p :: ts, st => by
    rw [List.foldl_cons, foldT_tiers ts, stepT, List.length_append, List.length_cons]
    simp
    omega
theorem ladAt_tiers (rest : List Rat) (ts : List (List PartV)) {j : Nat} (h : j ≤ ts.length) : (ladAt rest ts j).2.length = j := by
  rw [ladAt, foldT_tiers, List.length_take, Nat.min_eq_left h]
  exact Nat.zero_add j
theorem foldLast_parts (rest : List Rat) : ∀ (ms : List Int) (t : TierV), (ms.foldl (fun t i => t.add i (rdQ rest i.toNat)) t).parts.length = t.parts.length + ms.length
  | [], _ => rfl
  | i :: ms, t => by
    rw [List.foldl_cons, foldLast_parts rest ms, TierV.add, List.length_append, List.length_cons]
    simp
    omega
theorem lastAt_parts (rest : List Rat) (ms : List Int) {i : Nat} (h : i ≤ ms.length) : (lastAt rest ms i).parts.length = i := by
  rw [lastAt, foldLast_parts, List.length_take, Nat.min_eq_left h]
  exact Nat.zero_add i
/-- All numbers on the way are short; the claims are there. -/
structure LayOk (cs : List ClaimV) (ts : List (List PartV)) : Prop where
  am : ∀ c ∈ cs, ShortR c.amount
  caps : ∀ ps ∈ ts, ∀ p ∈ ps, ShortR p.cap
  rng : ∀ ps ∈ ts, ∀ p ∈ ps, p.claim = -1 ∨ 0 ≤ p.claim ∧ p.claim < (cs.length : Int)
  mrng : ∀ i ∈ memL ts, 0 ≤ i ∧ i < (cs.length : Int)
  nc : cs.length ≤ 1048576
  nt : ts.length ≤ 1048576
  np : ∀ ps ∈ ts, ps.length ≤ 1048576
  nf : ts.flatten.length ≤ 1099511627776
  nm : (memL ts).length ≤ 1048576
  st : ∀ j, j < ts.length → ∀ i, i ≤ (rowAt ts j).length → (∀ x ∈ (tierAt (ladAt (amounts cs) ts j).1 (rowAt ts j) i).1, OkQ x) ∧ OkQ (tierAt (ladAt (amounts cs) ts j).1 (rowAt ts j) i).2.sum
  rest : ∀ x ∈ (ladAt (amounts cs) ts ts.length).1, OkQ x
  last : ∀ i, i ≤ (memL ts).length → OkQ (lastAt (ladAt (amounts cs) ts ts.length).1 (memL ts) i).sum
  capq : ∀ j, j < ts.length → ∀ i, i < (rowAt ts j).length → (rdP (rowAt ts j) i).claim ≠ -1 → OkQ (capOf (tierAt (ladAt (amounts cs) ts j).1 (rowAt ts j) i).1 (rdP (rowAt ts j) i))
/-- A number is put into a row of one's own. -/
theorem R_putq {w : World} {base g n cap : Nat} {ok : Nat → Prop} {xs : List Rat} (hR : kQ.R 23 w base ok (.slice (some ⟨g, 0, none⟩) n cap) xs) {i : Nat} (hi : i < xs.length) (y : Rat) :
    kQ.R 23 (((w.setCell ⟨g, i * 3, none⟩ (.bool (canS y))).setCell ⟨g, i * 3 + 1, none⟩ (.string (canN y))).setCell ⟨g, i * 3 + 2, none⟩ (.string (canD y))) base ok (.slice (some ⟨g, 0, none⟩) n cap) (xs.set i y) := by
  have hn := (Kd.R_reads' hR).1
  obtain ⟨c, hcl, -, hcc, -⟩ := Kd.R_elem hR (0 : Rat) (i : Int) (by omega) (by omega)
  have h2 := (Kd.R_seg (seg := [.bool (canS y), .string (canN y), .string (canD y)]) (j := 0) (x' := y) (okp := fun _ => False) hR (i : Int) (by omega) (by omega) hcl hcc (by show 0 + 3 ≤ 3; omega) (by
    rw [show c.drop (0 + [Value.bool (canS y), .string (canN y), .string (canD y)].length) = [] from List.drop_eq_nil_of_le (by rw [hcl]; exact Nat.le_refl 3)]
    simpa using kQ_mk w base _ y) (fun _ hk => hk.elim))
  rw [Int.toNat_natCast] at h2
  exact h2.1
/-- An element of such a row: its cells, and they may be written. -/
theorem R_getq {w : World} {base g n cap : Nat} {ok : Nat → Prop} {xs : List Rat} (hR : kQ.R 23 w base ok (.slice (some ⟨g, 0, none⟩) n cap) xs) {i : Nat} (hi : i < xs.length) :
    (w.cell? ⟨g, i * 3, none⟩ = some (.bool (canS (rdQ xs i))) ∧ w.cell? ⟨g, i * 3 + 1, none⟩ = some (.string (canN (rdQ xs i))) ∧ w.cell? ⟨g, i * 3 + 2, none⟩ = some (.string (canD (rdQ xs i)))) ∧ w.frozen? ⟨g, i * 3, none⟩ = false ∧ w.frozen? ⟨g, i * 3 + 1, none⟩ = false ∧ w.frozen? ⟨g, i * 3 + 2, none⟩ = false := by
  have hn := (Kd.R_reads' hR).1
  obtain ⟨c, hcl, hM, hcc, hff⟩ := Kd.R_elem hR (0 : Rat) (i : Int) (by omega) (by omega)
  obtain rfl := kQ_open (kQ.K_of_M hM)
  rw [Int.toNat_natCast] at hcc hff
  exact ⟨⟨hcc 0 _ rfl, hcc 1 _ rfl, hcc 2 _ rfl⟩, hff 0, hff 1, hff 2⟩
end Go.Proofs.YtnimgfnknlkkdaaGreatDoor.H
set_option linter.unusedVariables false
set_option linter.unusedSimpArgs false
open Go
namespace Go.Proofs.YtnimgfnknlkkdaaGreatDoor.H
open Go Go.RowKit Go.Proofs.YtnimgfnknlkkdaaGreatDoorW.PrintWords Go.Proofs.YtnimgfnknlkkdaaGreatDoorW.PrintLast Go.Proofs.YtnimgfnknlkkdaaGreatDoorW.PrintMore Go.Proofs.YtnimgfnknlkkdaaGreatDoor.Num
/-- A tier that is being made in block g, beside what is left of the claims (rv). -/
structure TierSt (w w3 wt : World) (gp g : Nat) (rv : Value) (rest : List Rat) (t : TierV) (tv : Value) (w' : World) : Prop where
  rest : kQ.R 23 w' w.heap.size (fun _ => True) rv rest
  cell : w'.heap[g]? = some (.cells #[tv, .bool (canS t.sum), .string (canN t.sum), .string (canD t.sum)] 124)
  parts : kWPart.R 169 w' w.heap.size (fun _ => True) tv t.parts
  own : ∀ k, tv.ownBlock = some k → g < k
  fr : Fr w w3 gp rv w'
  old : ∀ k, k < g → some k ≠ rv.ownBlock → w'.heap[k]? = wt.heap[k]?
  rlt : ∀ k, rv.ownBlock = some k → k < w3.heap.size
  glt : w3.heap.size ≤ g
  wlt : w.heap.size ≤ g
theorem TierSt.below {w w3 wt w1 w2 : World} {gp g : Nat} {rv tv : Value} {rest : List Rat} {t : TierV} (h : TierSt w w3 wt gp g rv rest t tv w1) (hb : Below w1.heap.size w1 w2) : TierSt w w3 wt gp g rv rest t tv w2 :=
  ⟨Kd.R_below h.rest hb, heap_b hb h.cell, Kd.R_below h.parts hb, h.own, h.fr.below hb, fun k h1 h2 => (hb.block k (Nat.lt_trans h1 (blk_lt h.cell))).trans (h.old k h1 h2), h.rlt, h.glt, h.wlt⟩
theorem TierSt.put {w w3 wt w1 : World} {gp g gr n c : Nat} {tv : Value} {rest : List Rat} {t : TierV} (h : TierSt w w3 wt gp g (.slice (some ⟨gr, 0, none⟩) n c) rest t tv w1) {i : Nat} (hi : i < rest.length) (y : Rat) :
    TierSt w w3 wt gp g (.slice (some ⟨gr, 0, none⟩) n c) (rest.set i y) t tv (((w1.setCell ⟨gr, i * 3, none⟩ (.bool (canS y))).setCell ⟨gr, i * 3 + 1, none⟩ (.string (canN y))).setCell ⟨gr, i * 3 + 2, none⟩ (.string (canD y))) := by
  have ho : (Value.slice (some ⟨gr, 0, none⟩) n c).ownBlock = some gr := by simp [Value.ownBlock]
  have h1 := h.rlt gr ho
  have h2 := h.glt
  have h3 : g ≠ gr := by omega
  have h4 : some gr ≠ tv.ownBlock := fun e => by have := h.own gr e.symm; omega
  have hB := Kd.R_base h.rest gr ho
  refine ⟨R_putq h.rest hi y, ?_, R_setfar rfl (R_setfar rfl (R_setfar rfl h.parts h4 _ _) h4 _ _) h4 _ _, h.own, ((h.fr.set (.inr ho.symm) hB _ _).set (.inr ho.symm) hB _ _).set (.inr ho.symm) hB _ _, fun k k1 k2 => ?_, h.rlt, h.glt, h.wlt⟩
  · rw [heap_far _ h3, heap_far _ h3, heap_far _ h3]
    exact h.cell
  · have h5 : k ≠ gr := fun e => k2 (by rw [e, ho])
    rw [heap_far _ h5, heap_far _ h5, heap_far _ h5]
    exact h.old k k1 k2
theorem TierSt.far {w w3 wt w1 : World} {gp g : Nat} {rv tv : Value} {rest : List Rat} {t : TierV} (h : TierSt w w3 wt gp g rv rest t tv w1) {b : Nat} (h1 : g < b) (h2 : some b ≠ tv.ownBlock) (j : Nat) (u : Value) : TierSt w w3 wt gp g rv rest t tv (w1.setCell ⟨b, j, none⟩ u) := by
  have hg := h.glt
  have hw := h.wlt
  have h3 : some b ≠ rv.ownBlock := fun e => by have := h.rlt b e.symm; omega
  refine ⟨R_setfar rfl h.rest h3 _ _, ?_, R_setfar rfl h.parts h2 _ _, h.own, ⟨below_set h.fr.1 (by omega), Nat.le_trans h.fr.2.1 (KeepBut.set_ (KeepBut.refl w1 b none) j u).1, fun i i1 i2 i3 => ?_⟩, fun k k1 k2 => ?_, h.rlt, h.glt, h.wlt⟩
  · rw [heap_far _ (by omega)]
    exact h.cell
  · rw [heap_far _ (by omega)]
    exact h.fr.2.2 i i1 i2 i3
  · rw [heap_far _ (by omega)]
    exact h.old k k1 k2
theorem rdQ_mem' {l : List Rat} {i : Nat} (h : i < l.length) : rdQ l i ∈ l := by
  rw [rdQ, List.getD_eq_getElem?_getD, List.getElem?_eq_getElem h]
  exact List.getElem_mem h
theorem keepR {w1 w2 : World} {p0 p1 p2 p3 : Addr} {v0 v1 v2 v3 : Value} (h : w1.cell? p0 = some v0 ∧ (w1.cell? p1 = some v1 ∧ w1.cell? p2 = some v2 ∧ w1.cell? p3 = some v3)) (hb : Below w1.heap.size w1 w2) :
    w2.cell? p0 = some v0 ∧ (w2.cell? p1 = some v1 ∧ w2.cell? p2 = some v2 ∧ w2.cell? p3 = some v3) := ⟨pw_cell_below hb h.1, pw_cell_below hb h.2.1, pw_cell_below hb h.2.2.1, pw_cell_below hb h.2.2.2⟩
theorem keepRS {w1 W : World} {g a b o1 o2 o3 : Nat} {v0 v1 v2 v3 x y z : Value} (ha : g ≠ a) (hb : g ≠ b) (h : w1.cell? ⟨a, 0, none⟩ = some v0 ∧ (w1.cell? ⟨b, 0, none⟩ = some v1 ∧ w1.cell? ⟨b, 1, none⟩ = some v2 ∧ w1.cell? ⟨b, 2, none⟩ = some v3))
    (hW : W = ((w1.setCell ⟨g, o1, none⟩ x).setCell ⟨g, o2, none⟩ y).setCell ⟨g, o3, none⟩ z) :
    W.cell? ⟨a, 0, none⟩ = some v0 ∧ (W.cell? ⟨b, 0, none⟩ = some v1 ∧ W.cell? ⟨b, 1, none⟩ = some v2 ∧ W.cell? ⟨b, 2, none⟩ = some v3) := by
  subst hW
  obtain ⟨h1, h2, h3, h4⟩ := h
  have ha' := ha.symm
  have hb' := hb.symm
  refine ⟨?_, ?_, ?_, ?_⟩ <;> simp [World.cell?_setCell_other, ha, ha', hb, hb', h1, h2, h3, h4]
theorem rd_mem' {ms : List Int} {i : Nat} (h : i < ms.length) : rd ms (i : Int) ∈ ms := by
  rw [rd, Int.toNat_natCast, List.getD_eq_getElem?_getD, List.getElem?_eq_getElem h]
  exact List.getElem_mem h
theorem set4 {w : World} {g : Nat} {a b c d : Value} {t : TypeId} (h : w.heap[g]? = some (.cells #[a, b, c, d] t)) (x y z u : Value) : (w.setCells g 0 [x, y, z, u]).heap[g]? = some (.cells #[x, y, z, u] t) := by
  have b1 := blk_set h 0 x
  have b2 := blk_set b1 1 y
  have b3 := blk_set b2 2 z
  have b4 := blk_set b3 3 u
  rw [show w.setCells g 0 [x, y, z, u] = (((w.setCell ⟨g, 0, none⟩ x).setCell ⟨g, 1, none⟩ y).setCell ⟨g, 2, none⟩ z).setCell ⟨g, 3, none⟩ u from rfl, b4]
  rfl
/-- t.add at such a tier. -/
theorem TierSt.add {w w3 wt w1 : World} {gp g : Nat} {rv tv : Value} {rest : List Rat} {t : TierV} (h : TierSt w w3 wt gp g rv rest t tv w1) (cl : Int) (x : Rat) (hx : OkQ x) (hs : OkQ t.sum) (hl : t.parts.length ≤ 1099511627776) :
    Calls Tryz.prog 81 #[.pointer (some ⟨g, 0, none⟩), .int .i64 cl, RQ x] w1 fun e w2 => e = .returned (.tuple #[]) ∧ w1.heap.size ≤ w2.heap.size ∧ (∃ tv', TierSt w w3 wt gp g rv rest (t.add cl x) tv' w2) ∧ ∀ k, k < w1.heap.size → k ≠ g → some k ≠ tv.ownBlock → w2.heap[k]? = w1.heap[k]? := by
  have hws := h.fr.1.size
  have h2 := h.glt
  have hg := h.wlt
  obtain ⟨⟨c0, c1, c2, c3⟩, -⟩ := cells4 h.cell
  have hne : some g ≠ tv.ownBlock := fun e => by have := h.own g e.symm; omega
  · refine (w_add t cl x g 0 tv w w1 ⟨c0, c1, c2, c3⟩ (fun j => blk_frozen h.cell j) h.parts hg hne h.fr.1 hx hs hl).mono ?_
    rintro e w2 ⟨he, hb, hsz, A, c, hp, hown, hsame⟩
    have hsm : ∀ k, k < w1.heap.size → k ≠ g → some k ≠ tv.ownBlock → w2.heap[k]? = w1.heap[k]? := fun k k1 k2 k3 => by
      rw [hsame k k1 k3, setCells_far _ _ _ k2]
    have hgl := blk_lt h.cell
    refine ⟨he, hsz, ⟨_, ?_, ?_, hp, ?_, ⟨hb, Nat.le_trans h.fr.2.1 hsz, fun i i1 i2 i3 => ?_⟩, fun k k1 k2 => ?_, h.rlt, h.glt, h.wlt⟩, hsm⟩
    · refine Kd.R_step (Kd.R_mono (Kd.R_tight rfl h.rest) (fun _ hk => hk)) (fun k hk hlt => ?_) |> fun hh => Kd.R_mono hh (fun _ _ => trivial)
      have h5 := h.rlt k hk.symm
      exact hsm k hlt (by omega) (fun e => by have := h.own k e.symm; omega)
    · rw [hsame g hgl hne]
      exact set4 h.cell _ _ _ _
    · intro k hk
      rcases hown with ho | ⟨b, ho, hbb⟩
      · exact h.own k (by rw [← ho]; exact hk)
      · rw [ho] at hk
        injection hk with hk
        omega
    · exact (hsm i (Nat.lt_of_lt_of_le i1 h.fr.2.1) (by omega) (fun e => by have := h.own i e.symm; omega)).trans (h.fr.2.2 i i1 i2 i3)
    · exact (hsm k (by omega) (by omega) (fun e => by have := h.own k e.symm; omega)).trans (h.old k k1 k2)
end Go.Proofs.YtnimgfnknlkkdaaGreatDoor.H
set_option linter.unusedVariables false
set_option linter.unusedSimpArgs false
open Go
namespace Go.Proofs.YtnimgfnknlkkdaaGreatDoor.H
open Go Go.RowKit Go.Proofs.YtnimgfnknlkkdaaGreatDoorW.PrintWords Go.Proofs.YtnimgfnknlkkdaaGreatDoorW.PrintLast Go.Proofs.YtnimgfnknlkkdaaGreatDoorW.PrintMore Go.Proofs.YtnimgfnknlkkdaaGreatDoor.Num
/-- The value of an estate. -/
abbrev EV (cash : RatF) (A : Option Addr) (n c : Nat) (B : Option Addr) (m d : Nat) : Value := .agg #[.bool cash.neg, .string cash.num, .string cash.den, .slice A n c, .slice B m d]
/-- An estate's data are read, and short. -/
structure ReadsE (w : World) (cash : RatF) (cs : List ClaimV) (gs : List (List (List PartV))) (A : Option Addr) (c : Nat) (B : Option Addr) (d : Nat) : Prop where
  rc : kClaim.C w A cs.length cs
  hc : cs.length ≤ c
  rg : (Kd.slice 36 kTier).C w B gs.length gs
  hd : gs.length ≤ d
theorem ReadsE.below {w w1 : World} {cash : RatF} {cs : List ClaimV} {gs : List (List (List PartV))} {A : Option Addr} {c : Nat} {B : Option Addr} {d : Nat} (h : ReadsE w cash cs gs A c B d) (hb : Below w.heap.size w w1) : ReadsE w1 cash cs gs A c B d :=
  ⟨Kd.C_below h.rc hb, h.hc, Kd.C_below h.rg hb, h.hd⟩
structure ShortE (cash : RatF) (cs : List ClaimV) (gs : List (List (List PartV))) : Prop where
  cash : cash.small 549755813888
  cl : ∀ c ∈ cs, c.amount.small 549755813888
  ag : ∀ g ∈ gs, g.flatten.length ≤ 1099511627776 ∧ ∀ q ∈ g.flatten, q.cap.small 549755813888
theorem rdC_mem {cs : List ClaimV} {i : Nat} (h : i < cs.length) : rdC cs i ∈ cs := by
  rw [rdC, List.getD_eq_getElem?_getD, List.getElem?_eq_getElem h]
  exact List.getElem_mem h
theorem rowAt_mem {α : Type} {gs : List (List α)} {i : Nat} (h : i < gs.length) : rowAt gs i ∈ gs := by
  rw [rowAt, List.getD_eq_getElem?_getD, List.getElem?_eq_getElem h]
  exact List.getElem_mem h
theorem infoBool : (Tryz.prog.info? 4).map (fun i => (i.zero, i.size, i.bytes)) = some (some (.bool false), 1, 1) := by kernel_rfl
abbrev OwnB (w : World) (base : Nat) (v : Value) (l : List Bool) : Prop := Kd.R Kd.bool 4 w base (fun _ => True) v l
section
variable {P : Program} {ops : Array Oper} {rest : List Oper} {o : Oper} {a : Act} {Q : Exit → Act → World → Prop} {W : World}
/-- bs[j] = x -/
theorem storeB {e : TypeId} {z : Value} {bytes : Nat} (hi : (P.info? e).map (fun i => (i.zero, i.size, i.bytes)) = some (some z, 1, bytes)) {p : Tmp} {v : Operand} (ho : o.op = .store e (.tmp p) v) (hgd : o.guard = none) (hN : o.dst = none) {base : Nat} {w0 : World} {g cap j n : Nat} {x : Bool} {L : List Bool}
    (hown : Kd.R Kd.bool e W base (fun _ => True) (.slice (some ⟨g, 0, none⟩) n cap) L) (hb : Below w0.heap.size w0 W) (hbase : w0.heap.size ≤ base) (hj : j < n) (hp : a.eval (.tmp p) = .pointer (some ⟨g, j, none⟩)) (hv : a.eval v = .bool x)
    (h : ∀ w', w' = W.setCell ⟨g, j, none⟩ (.bool x) → Kd.R Kd.bool e w' base (fun _ => True) (.slice (some ⟨g, 0, none⟩) n cap) (L.set j x) → Below w0.heap.size w0 w' → wpList P ops Q rest a w') : wpList P ops Q (o :: rest) a W := by
  obtain ⟨hn, -⟩ := Kd.R_reads' hown
  obtain ⟨g', cap', e1, hg1, hg2, -⟩ := Kd.R_form hown (by omega)
  injection e1 with e1 _ _
  injection e1 with e1
  injection e1 with e1
  subst e1
  obtain ⟨hx, hf⟩ := Kd.R_celln false hown (j : Int) (by omega) (by omega)
  rw [Int.toNat_natCast] at hx hf
  obtain ⟨h1, h2⟩ := Kd.R_putg hown (j : Int) x
  rw [Int.toNat_natCast] at h1 h2
  refine store_event hgd ho hN (w1 := W.setCell ⟨g, j, none⟩ (.bool x)) ?_ (fun w' hw => ?_)
  · generalize a.eval = ev at hp hv ⊢
    obtain ⟨i0, hi, hzz⟩ := Option.map_eq_some_iff.1 hi
    simp only [Prod.mk.injEq] at hzz
    have hty : (typeInfo e).run P W = .ok i0 W := Go.run_typeInfo W hi
    simp [execOp, ho, hp, hv, go_sem, hx, hf, sizeOf, hty, hzz.2.1]
  · subst hw
    exact h _ rfl h1 (below_set hb (Nat.le_trans hbase hg1))
end
theorem own_far {α : Type} {d : Kd α} {e : Nat} {w : World} {base g j : Nat} {v : Value} {L : List α} (h : d.R e w base (fun _ => True) v L) (hg : g < base) (u : Value) : d.R e (w.setCell ⟨g, j, none⟩ u) base (fun _ => True) v L :=
  Kd.R_mono (Kd.R_far (p := ⟨g, j, none⟩) (Kd.R_mono (ok' := fun k => base ≤ k) (Kd.R_bound h) (fun k hk => hk.2.1)) (fun k hk => by show k ≠ g; omega) u) (fun _ _ => trivial)
set_option maxRecDepth 100000 in
set_option maxHeartbeats 1000000 in
theorem w_Check (cash : RatF) (cs : List ClaimV) (gs : List (List (List PartV))) (A : Option Addr) (c : Nat) (B : Option Addr) (d : Nat) (w : World) (hR : ReadsE w cash cs gs A c B d) (hS : ShortE cash cs gs) :
    Calls Tryz.prog 16 #[EV cash A cs.length c B gs.length d] w fun e w' => e = .returned (.int .i64 (estErr cash cs gs)) ∧ Below w.heap.size w w' := by
  have HR := Aside0.mk hR
  have HS := Aside0.mk hS
  have hm1 := hR.rc.2.1
  have hm2 := hR.rg.2.1
  have SC := Lib.hid (fun w => rational_Sign cash.neg cash.num cash.den w hS.cash.1 hS.cash.2)
  have hsg : (rq cash.neg cash.num cash.den).num.sign = cash.sg := rfl
  rw [hsg] at SC
  have HE0 := Lib.hid (show estErr cash cs gs = if 24 < cs.length ∨ 12 < gs.length then 2 else if cash.sg < 0 then 7 else if firstErr (cs.map claimErr) ≠ 0 then firstErr (cs.map claimErr) else firstErr ((List.range gs.length).map (fun k => agrErr cs.length (takenB gs k) (rowAt gs k))) from rfl)
  clear hsg hR hS
  unfold EV
  generalize estErr cash cs gs = r at *
  generalize cash.sg = sg0 at *
  generalize cash.neg = neg0 at *
  generalize cash.num = num0 at *
  generalize cash.den = den0 at *
  by_cases h24 : 24 < cs.length
  · have g : (24 : Int) < (cs.length : Int) := by omega
    have R := Lib.hid (show r = 2 by rw [HE0.out, if_pos (.inl h24)])
    clear h24 HE0
    go_enter Tryz.func16, Tryz.ntmps16
    go_wp2
    go_ret
    exact ⟨ret_i R.out.symm, below_alloc (Below.refl _ _) _⟩
  by_cases h12 : 12 < gs.length
  · have g : ¬ (24 : Int) < (cs.length : Int) := by omega
    have g2 : (12 : Int) < (gs.length : Int) := by omega
    have R := Lib.hid (show r = 2 by rw [HE0.out, if_pos (.inr h12)])
    clear h24 h12 HE0
    go_enter Tryz.func16, Tryz.ntmps16
    go_wp2
    go_ret
    exact ⟨ret_i R.out.symm, below_alloc (Below.refl _ _) _⟩
  have g : ¬ (24 : Int) < (cs.length : Int) := by omega
  have g2 : ¬ (12 : Int) < (gs.length : Int) := by omega
  have HE1 := Lib.hid (show r = if sg0 < 0 then 7 else if firstErr (cs.map claimErr) ≠ 0 then firstErr (cs.map claimErr) else firstErr ((List.range gs.length).map (fun k => agrErr cs.length (takenB gs k) (rowAt gs k))) by rw [HE0.out, if_neg (by omega)])
  have hcl : cs.length ≤ 24 := by omega
  have hgl : gs.length ≤ 12 := by omega
  have HX0 := Aside0.mk (heap_new w (.cells #[.bool neg0, .string num0, .string den0, .slice A cs.length c, .slice B gs.length d] 27))
  have HW0 := Aside0.mk (below_alloc (Below.refl w.heap.size w) (.cells #[.bool neg0, .string num0, .string den0, .slice A cs.length c, .slice B gs.length d] 27))
  clear h24 h12 HE0
  by_cases hs0 : sg0 < 0
  · have R := Lib.hid (show r = 7 by rw [HE1.out, if_pos hs0])
    clear HE1
    go_enter Tryz.func16, Tryz.ntmps16
    go_wp2_with (go_at_call 21; refine (SC.out _).mono ?_; rintro e w2 ⟨rfl, hb2⟩; have HBW2 := Aside0.mk (below_s hb2 HW0.out); clear hb2)
    go_ret
    exact ⟨ret_i R.out.symm, HBW2.out⟩
  have HE := Lib.hid (show r = if firstErr (cs.map claimErr) ≠ 0 then firstErr (cs.map claimErr) else firstErr ((List.range gs.length).map (fun k => agrErr cs.length (takenB gs k) (rowAt gs k))) by rw [HE1.out, if_neg hs0])
  clear HE1
  go_enter Tryz.func16, Tryz.ntmps16
  go_wp2_with (go_at_call 21; refine (SC.out _).mono ?_; rintro e w2 ⟨rfl, hb2⟩; have HBW2 := Aside0.mk (below_s hb2 HW0.out); have HBX2 := Aside0.mk (heap_b hb2 HX0.out); obtain ⟨a0, a1, a2, a3, a4⟩ := cells5 HBX2.out; clear hb2)
  clear hs0 HW0 HX0 g g2
  go_loopw [30] (fun v30 w' => ∃ i : Nat, i ≤ cs.length ∧ v30 = .int .i64 i ∧ Aside0 (∀ k, k < i → claimErr (rdC cs k) = 0) ∧ Aside0 (w'.heap[w.heap.size]? = some (.cells #[.bool neg0, .string num0, .string den0, .slice A cs.length c, .slice B gs.length d] 27)) ∧ Aside0 (Below w.heap.size w w')) (fun v30 _ => cs.length - (intOf v30).toNat)
  case atStart => exact ⟨0, Nat.zero_le _, rfl, ⟨fun k hk => by omega⟩, HBX2, HBW2⟩
  case round =>
    clear HBX2 HBW2 a0 a1 a2 a3 a4
    obtain ⟨i, hi, rfl, hA, hX, hb⟩ := hrel
    obtain ⟨a0, a1, a2, a3, a4⟩ := cells5 hX.out
    rcases Nat.lt_or_ge i cs.length with hlt | hge
    · obtain ⟨ad, rfl, x0, x1, x2, x3, x4⟩ := at_Claim (HR.out.below hb.out).rc hlt
      have hp0 : (0 : Int) ≤ (i : Int) := by omega
      have hp1 : (i : Int) < (cs.length : Int) := by omega
      have PA := Aside0.mk (fun h => firstErr_map_at (f := claimErr) (d := zClaim) hlt hA.out h)
      obtain ⟨s1, s2⟩ := HS.out.cl _ (rdC_mem hlt)
      obtain ⟨p, hpp⟩ : ∃ p, p = rdC cs i := ⟨_, rfl⟩
      rw [show cs.getD i zClaim = rdC cs i from rfl] at PA
      rw [← hpp] at x0 x1 x2 x3 x4 PA s1 s2
      have HPP := Lib.hid hpp.symm
      clear hpp
      have HP := Lib.hid (show claimErr p = (if p.holder < -1 ∨ 8 ≤ p.holder then 19 else if p.rank < 0 ∨ 7 < p.rank then 1 else if p.amount.sg < 0 then 7 else 0) from rfl)
      have SG := Lib.hid (fun w => rational_Sign p.amount.neg p.amount.num p.amount.den w s1 s2)
      have hsg : (rq p.amount.neg p.amount.num p.amount.den).num.sign = p.amount.sg := rfl
      rw [hsg] at SG
      clear s1 s2 hsg
      have HBW := Aside0.mk (below_alloc hb.out (.cells #[.int .i64 p.holder, .int .i64 p.rank, .bool p.amount.neg, .string p.amount.num, .string p.amount.den] 50))
      have HBX := Aside0.mk (heap_old (o := .cells #[.int .i64 p.holder, .int .i64 p.rank, .bool p.amount.neg, .string p.amount.num, .string p.amount.den] 50) hX.out)
      clear hb hX
      generalize p.holder = ph at *
      generalize p.rank = pr at *
      generalize p.amount.sg = sg at *
      generalize p.amount.neg = neg at *
      generalize p.amount.num = num at *
      generalize p.amount.den = den at *
      by_cases h1 : ph < -1
      · have R := Lib.hid (show claimErr p = 19 by rw [HP.out]; simp [h1])
        clear HP
        go_wp2
        go_ret
        exact ⟨ret_i (by rw [HE.out, PA.out (by rw [R.out]; decide), if_pos (by rw [R.out]; decide), R.out]), HBW.out⟩
      by_cases h2 : 8 ≤ ph
      · have R := Lib.hid (show claimErr p = 19 by rw [HP.out]; simp [h1, h2])
        clear HP
        go_wp2
        go_ret
        exact ⟨ret_i (by rw [HE.out, PA.out (by rw [R.out]; decide), if_pos (by rw [R.out]; decide), R.out]), HBW.out⟩
      by_cases h3 : pr < 0
      · have R := Lib.hid (show claimErr p = 1 by rw [HP.out]; simp [h1, h2, h3])
        clear HP
        go_wp2
        go_ret
        exact ⟨ret_i (by rw [HE.out, PA.out (by rw [R.out]; decide), if_pos (by rw [R.out]; decide), R.out]), HBW.out⟩
      by_cases h4 : 7 < pr
      · have R := Lib.hid (show claimErr p = 1 by rw [HP.out]; simp [h1, h2, h3, h4])
        clear HP
        go_wp2
        go_ret
        exact ⟨ret_i (by rw [HE.out, PA.out (by rw [R.out]; decide), if_pos (by rw [R.out]; decide), R.out]), HBW.out⟩
      by_cases h5 : sg < 0
      · have R := Lib.hid (show claimErr p = 7 by rw [HP.out]; simp [h1, h2, h3, h4, h5])
        clear HP
        go_wp2_with (go_at_call 21; refine (SG.out _).mono ?_; rintro e w2 ⟨rfl, hb2⟩; have HBW2 := Aside0.mk (below_s hb2 HBW.out); have HBX2 := Aside0.mk (heap_b hb2 HBX.out); clear HBW hb2 HBX)
        go_ret
        exact ⟨ret_i (by rw [HE.out, PA.out (by rw [R.out]; decide), if_pos (by rw [R.out]; decide), R.out]), HBW2.out⟩
      · have R := Lib.hid (show claimErr p = 0 by rw [HP.out]; simp [h1, h2, h3, h4, h5])
        clear HP
        go_wp2_with (go_at_call 21; refine (SG.out _).mono ?_; rintro e w2 ⟨rfl, hb2⟩; have HBW2 := Aside0.mk (below_s hb2 HBW.out); have HBX2 := Aside0.mk (heap_b hb2 HBX.out); clear HBW hb2 HBX)
        go_roundw
        case measure => simp [intOf]; omega
        case rel => exact ⟨i + 1, hlt, by go_num, ⟨fun k hk => by
          rcases Nat.lt_or_ge k i with h2 | h2
          · exact hA.out k h2
          · obtain rfl : k = i := by omega
            rw [HPP.out]; exact R.out⟩, HBX2, HBW2⟩
    · obtain rfl : i = cs.length := by omega
      have HE2 := Lib.hid (show r = firstErr ((List.range gs.length).map (fun k => agrErr cs.length (takenB gs k) (rowAt gs k))) by rw [HE.out, if_neg (by rw [firstErr_map_zero (d := zClaim) hA.out]; simp)])
      clear HE hA
      obtain ⟨wo, hwo⟩ : ∃ wo, wo = wr := ⟨_, rfl⟩
      subst hwo
      go_wp2_with (refine Kd.R_make Kd.bool wo.heap.size 4 rfl (N := 61) rfl 75 _ _ rfl (cs.length : Int) rfl rfl Tryz.underlying75 (.bool false) 1 infoBool rfl (by decide) (by decide) false (ok := fun _ => True) (okp := fun _ => True) rfl (fun _ hk => hk) trivial (by omega) (by omega) (Below.refl wo.heap.size wo) (Nat.le_refl _) ?_; intro v w1 hr hb1 _ _; obtain ⟨A2, c2, rfl⟩ := Kd.R_slice hr; simp only [List.length_replicate, Int.toNat_natCast] at hr ⊢; have HR2 := Aside0.mk hr; have HB1 := Aside0.mk hb1; obtain ⟨a0, a1, a2, a3, a4⟩ := cells5 (heap_b hb1 hX.out); clear hr hb1)
      go_loopw [65] (fun v65 w' => ∃ (j : Nat) (bs : List Bool), j ≤ gs.length ∧ v65 = .int .i64 j ∧ Aside0 (bs.length = cs.length ∧ ∀ k, k < cs.length → bs.getD k false = takenB gs j k) ∧ Aside0 (∀ k, k < j → agrErr cs.length (takenB gs k) (rowAt gs k) = 0) ∧ Aside0 (OwnB w' wo.heap.size (.slice A2 cs.length c2) bs) ∧ Aside0 (Below wo.heap.size wo w')) (fun v65 _ => gs.length - (intOf v65).toNat)
      case atStart => exact ⟨0, _, Nat.zero_le _, rfl, ⟨by simp, fun k hk => by simp [List.getD_eq_getElem?_getD, hk, takenB]⟩, ⟨fun k hk => by omega⟩, HR2, HB1⟩
      case round =>
        clear HR2 HB1 a0 a1 a2 a3 a4
        obtain ⟨j, bs, hj, rfl, hbs, hA, ho, hb2⟩ := hrel
        rcases Nat.lt_or_ge j gs.length with hlt | hge
        · obtain ⟨ad, v, rfl, hx, A3, c3, rfl, hc3, hC3⟩ := at_row (HR.out.below (below_step hb.out hb2.out)).rg hlt
          have hp0 : (0 : Int) ≤ (j : Int) := by omega
          have hp1 : (j : Int) < (gs.length : Int) := by omega
          have HC3 := Aside0.mk hC3
          obtain ⟨l1, l2⟩ := HS.out.ag _ (rowAt_mem hlt)
          obtain ⟨g0, g1⟩ := hbs.out
          obtain ⟨-, hcc, hCb⟩ := Kd.R_reads' ho.out
          have HCB := Aside0.mk hCb
          have HTS := Aside0.mk (fun c => takenB_succ hlt c)
          have PA := Aside0.mk (fun h => agrs_at (f := fun k => agrErr cs.length (takenB gs k) (rowAt gs k)) hlt hA.out h)
          obtain ⟨ts, hts⟩ : ∃ ts, ts = rowAt gs j := ⟨_, rfl⟩
          rw [← hts] at hx hc3 HC3 l1 l2
          have CA := Aside0.mk (fun {w : World} hC hB => w_checkAgreement ts A3 c3 bs A2 c2 w hC hc3 l1 hB (by rw [g0]; exact hcc) (takenB gs j) (fun k hk => (g1 k (by omega)).symm) l2)
          have CM := Aside0.mk (fun {w : World} hC => w_members ts A3 c3 w hC hc3 l1)
          rw [g0] at CA
          have HTT := Lib.hid hts
          have HAR := Aside0.mk (@agr_range cs.length (takenB gs j) ts)
          have HBA := Aside0.mk (below_alloc hb2.out (.cells #[.slice A3 ts.length c3] 35))
          have HOA := Aside0.mk (Kd.R_below ho.out (below_alloc (Below.refl wr.heap.size wr) (.cells #[.slice A3 ts.length c3] 35)))
          have HLA := Aside0.mk (heap_new wr (.cells #[.slice A3 ts.length c3] 35))
          have HCA := Aside0.mk (Kd.C_below HC3.out (below_alloc (Below.refl wr.heap.size wr) (.cells #[.slice A3 ts.length c3] 35)))
          have HCBA := Aside0.mk (Kd.C_below HCB.out (below_alloc (Below.refl wr.heap.size wr) (.cells #[.slice A3 ts.length c3] 35)))
          have hmt := HC3.out.2.1
          clear hC3 l1 l2 g0 hcc hCb hts HCB HC3
          generalize hE : agrErr cs.length (takenB gs j) ts = E at *
          have HEE := Lib.hid hE
          clear hE
          rw [hbs.out.1] at HCBA
          go_wp2_with (fail)
          refine (CA.out HCA.out HCBA.out).mono ?_
          rintro e w3 ⟨rfl, hb3⟩
          have HX3 := Aside0.mk (heap_b hb3 HLA.out)
          have HO3 := Aside0.mk (Kd.R_below HOA.out hb3)
          have HB3 := Aside0.mk (below_s hb3 HBA.out)
          have HC3 := Aside0.mk (Kd.C_below HCA.out hb3)
          clear hb3 HLA HOA HBA HCA HCBA CA
          by_cases hE0 : E = 0
          · have g : (E != 0) = false := by simp [hE0]
            have h3 : w3.cell? ⟨wr.heap.size, 0, none⟩ = some (.slice A3 ts.length c3) := by simp [World.cell?, HX3.out]
            have HE0 := Lib.hid hE0
            clear hE0
            go_wp2_with (fail)
            refine (CM.out HC3.out).mono ?_
            rintro e w4 ⟨v4, rfl, hr4, hb4⟩
            obtain ⟨A4, c4, rfl, hc4, hC4⟩ := Kd.R_reads hr4
            have HC4 := Aside0.mk hr4
            have hgo : ∀ g, some g = (Value.slice A2 cs.length c2).ownBlock → g < w3.heap.size := fun g hg => Kd.R_lt HO3.out g hg.symm
            have HGO := Aside0.mk hgo
            have HO4 := Aside0.mk (Kd.R_below HO3.out hb4)
            have HB4 := Aside0.mk (below_s hb4 HB3.out)
            have hm4 := hC4.2.1
            have HRG := Aside0.mk (HAR.out HE0.out)
            have HML := Aside0.mk (@mem_memL ts)
            generalize memL ts = L at *
            clear hC4 hb4 HC3 HO3 HB3 CM hr4 hgo
            go_wp2
            go_loopw [78] (fun v78 w' => ∃ (q : Nat) (b2 : List Bool), q ≤ L.length ∧ v78 = .int .i64 q ∧ Aside0 (b2.length = cs.length ∧ ∀ k, k < cs.length → b2.getD k false = (takenB gs j k || decide ((k : Int) ∈ L.take q))) ∧ Aside0 (OwnB w' wo.heap.size (.slice A2 cs.length c2) b2) ∧ Aside0 (Below wo.heap.size wo w') ∧ Aside0 (OwnI w' w3.heap.size (.slice A4 L.length c4) L)) (fun v78 _ => L.length - (intOf v78).toNat)
            case atStart => exact ⟨0, bs, Nat.zero_le _, rfl, ⟨hbs.out.1, fun k hk => by rw [hbs.out.2 k hk]; simp⟩, HO4, HB4, HC4⟩
            case round =>
              clear HO4 HB4 HC4
              obtain ⟨q, b2, hq, rfl, hb2', ho, hbb, hRL⟩ := hrel
              have hcL := Aside0.mk (Kd.R_reads' hRL.out).2.2
              rcases Nat.lt_or_ge q L.length with hlq | hgq
              · obtain ⟨bd, rfl, hy⟩ := C_word hcL.out (q : Int) (by omega) (by omega)
                rw [Int.toNat_natCast, rd_nat] at hy
                have hmem : L.getD q 0 ∈ L := by rw [List.getD_eq_getElem?_getD, List.getElem?_eq_getElem hlq]; exact List.getElem_mem hlq
                obtain ⟨r1, r2⟩ := HRG.out _ hmem
                have HTQ := Aside0.mk (show L.take (q + 1) = L.take q ++ [L.getD q 0] from take_succ_getD L q hlq)
                obtain ⟨x, hx2⟩ := Int.eq_ofNat_of_zero_le r1
                rw [hx2] at hy r2 HTQ
                have hxl : x < cs.length := by omega
                obtain ⟨g, cap, e1, hg1, hg2, cells, hg3⟩ := Kd.R_form ho.out (by have := hb2'.out.1; omega)
                obtain ⟨rfl, -, rfl⟩ : A2 = some ⟨g, 0, none⟩ ∧ cs.length = b2.length ∧ c2 = cap := by injection e1 with e1 e2 e3; exact ⟨e1, e2, e3⟩
                have hq0 : (0 : Int) ≤ (q : Int) := by omega
                have hq1 : (q : Int) < (L.length : Int) := by omega
                have HXX := Lib.hid hx2
                obtain ⟨-, -, hgL⟩ := hcL.out
                clear hg3 e1 hmem r1 hx2 hgL
                have hg4 := HGO.out g rfl
                go_wp2_with (refine storeB infoBool (p := 84) (j := x) (x := true) rfl rfl rfl ho.out hbb.out (Nat.le_refl _) hxl rfl rfl ?_; intro w5 hw5 ho5 hb5; have HW5 := Aside0.mk hw5; clear hw5)
                go_roundw
                case measure => simp [intOf]; omega
                case rel => exact ⟨q + 1, b2.set x true, hlq, by go_num, ⟨by rw [List.length_set]; exact hb2'.out.1, fun k hk => by
                  rw [HTQ.out]
                  by_cases hkx : k = x
                  · subst hkx
                    rw [List.getD_eq_getElem?_getD, List.getElem?_set_self (by have := hb2'.out.1; omega)]
                    simp
                  · rw [List.getD_eq_getElem?_getD, List.getElem?_set_ne (by omega), ← List.getD_eq_getElem?_getD, hb2'.out.2 k hk]
                    congr 1
                    rw [Bool.eq_iff_iff, decide_eq_true_iff, decide_eq_true_iff, List.mem_append, List.mem_singleton]
                    constructor
                    · exact fun h => .inl h
                    · rintro (h | h)
                      · exact h
                      · omega⟩, ⟨ho5⟩, ⟨hb5⟩, ⟨by rw [HW5.out]; exact own_far hRL.out hg4 _⟩⟩
              · obtain rfl : q = L.length := by omega
                rw [List.take_length] at hb2'
                go_wp2
                go_roundw
                case measure => simp [intOf]; omega
                case rel => exact ⟨j + 1, b2, hlt, by go_num, ⟨hb2'.out.1, fun k hk => by
                  rw [hb2'.out.2 k hk, HTS.out, ← HTT.out]
                  congr 1
                  rw [Bool.eq_iff_iff, decide_eq_true_iff, HML.out]
                  constructor
                  · exact fun h => h.2
                  · exact fun h => ⟨by omega, h⟩⟩, ⟨fun k hk => by
                    rcases Nat.lt_or_ge k j with h2 | h2
                    · exact hA.out k h2
                    · obtain rfl : k = j := by omega
                      rw [← HTT.out, HEE.out]; exact HE0.out⟩, ho, hbb⟩
          · have g : (E != 0) = true := by simp [hE0]
            have R := Lib.hid (show r = E by rw [HE2.out, PA.out (by rw [← HTT.out, HEE.out]; exact hE0), ← HTT.out, HEE.out])
            clear hE0
            go_wp2
            go_ret
            exact ⟨ret_i R.out.symm, below_step hb.out HB3.out⟩
        · obtain rfl : j = gs.length := by omega
          have R := Lib.hid (show r = 0 by rw [HE2.out]; exact agrs_zero hA.out)
          go_wp2
          go_ret
          exact ⟨ret_i R.out.symm, below_step hb.out hb2.out⟩
end Go.Proofs.YtnimgfnknlkkdaaGreatDoor.H
