import Derived.Test.YtnimgfnknlkkdaaGreatDoorK8
import Derived.Test.YtnimgfnknlkkdaaGreatDoorK3
import Derived.Test.YtnimgfnknlkkdaaGreatDoorK2
import Derived.Test.YtnimgfnknlkkdaaGreatDoorK7
import Derived.Test.YtnimgfnknlkkdaaGreatDoorK4
import Derived.Test.YtnimgfnknlkkdaaGreatDoorWApart
set_option linter.unusedVariables false
set_option linter.unusedSimpArgs false
open Go
namespace Go.Proofs.YtnimgfnknlkkdaaGreatDoor.H
open Go Go.RowKit Go.Proofs.YtnimgfnknlkkdaaGreatDoorW.PrintWords Go.Proofs.YtnimgfnknlkkdaaGreatDoorW.PrintLast Go.Proofs.YtnimgfnknlkkdaaGreatDoorW.PrintMore Go.Proofs.YtnimgfnknlkkdaaGreatDoor.Num
set_option maxRecDepth 100000 in
set_option maxHeartbeats 1000000 in
theorem ref_divide_less (a b : Nat) (A B : Option Addr) (c d : Nat) (w : World) (hA : Kd.C (Kd.int .u32) w A (dig a).length (dig a)) (hc : (dig a).length ≤ c) (hB : Kd.C (Kd.int .u32) w B (dig b).length (dig b)) (hd : (dig b).length ≤ d)
    (ha : (dig a).length ≤ 137438953472) (hb : (dig b).length ≤ 137438953472) (h : a < b) :
    Calls Tryz.prog 174 #[.slice A (dig a).length c, .slice B (dig b).length d] w fun e w' => ∃ v1 v2, e = .returned (.tuple #[v1, v2]) ∧ IsL w' v1 (dig (a / b)) ∧ IsL w' v2 (dig (a % b)) ∧ Below w.heap.size w w' := by
  have HC := Aside0.mk (ref_order a b A B c d w hA hc hB hd (by omega) (by omega))
  have HA := Aside0.mk hA
  rw [Nat.div_eq_of_lt h, Nat.mod_eq_of_lt h]
  have g := cmpN_neg.2 h
  clear hA hB
  go_enter Tryz.func174, Tryz.ntmps174
  go_wp2_with (go_at_call 145; refine HC.out.mono ?_; rintro e w1 ⟨rfl, hd1⟩)
  go_ret2
  exact ⟨_, _, rfl, isL_nil _, ⟨A, c, rfl, hc, Kd.C_below HA.out hd1.below⟩, hd1.below⟩
set_option maxRecDepth 100000 in
set_option maxHeartbeats 1000000 in
theorem ref_divide_one (a b : Nat) (A B : Option Addr) (c d : Nat) (w : World) (hA : Kd.C (Kd.int .u32) w A (dig a).length (dig a)) (hc : (dig a).length ≤ c) (hB : Kd.C (Kd.int .u32) w B (dig b).length (dig b)) (hd : (dig b).length ≤ d)
    (ha : (dig a).length ≤ 137438953472) (h : ¬ a < b) (h1 : (dig b).length = 1) :
    Calls Tryz.prog 174 #[.slice A (dig a).length c, .slice B (dig b).length d] w fun e w' => ∃ v1 v2, e = .returned (.tuple #[v1, v2]) ∧ IsL w' v1 (dig (a / b)) ∧ IsL w' v2 (dig (a % b)) ∧ Below w.heap.size w w' := by
  have HC := Aside0.mk (ref_order a b A B c d w hA hc hB hd (by omega) (by omega))
  have HA := Aside0.mk hA
  have g : ¬ cmpN a b < 0 := fun k => h (cmpN_neg.1 k)
  have hb0 : b ≠ 0 := fun e => by rw [e, dig_zero] at h1; simp at h1
  have hb1 : b < 4294967296 := by have := dig_lt b; rw [h1] at this; simpa using this
  have hbd : (dig b).getD 0 0 = (b : Int) := by rw [dig_pos hb0]; simp; omega
  obtain ⟨bd, rfl, hx⟩ := C_word hB 0 (by omega) (by omega)
  rw [show rd (dig b) 0 = (dig b).getD 0 0 from rfl, hbd] at hx
  have HX := Aside0.mk hx
  have HDS := Aside0.mk (fun w hA => ref_short (dig a) (b : Int) A c w (lim_dig a) hA hc (by omega) (by omega) (by omega))
  simp only [val_dig, Int.toNat_natCast] at HDS
  rw [h1] at HC ⊢
  clear hA hB hx hbd
  have hm : ((a : Int) % b) = ((a % b : Nat) : Int) := by simp
  rw [hm] at HDS
  clear hm
  have hr2 : a % b < 4294967296 := Nat.lt_of_lt_of_le (Nat.mod_lt _ (by omega)) (by omega)
  have HV : Lim [((a % b : Nat) : Int)] ∧ val [((a % b : Nat) : Int)] = a % b := ⟨lim_cons (by omega) lim_nil, by simp only [val, Int.toNat_natCast]; omega⟩
  have HV := Lib.hid HV
  generalize a % b = r at *
  go_enter Tryz.func174, Tryz.ntmps174
  go_wp2_with (fail)
  refine HC.out.mono ?_
  rintro e w1 ⟨rfl, hd1⟩
  have HD1 := Aside0.mk hd1
  have hx1 : w1.cell? bd = some (.int .u32 (b : Int)) := by simpa [Addr.add] using pw_cell_below hd1.below HX.out
  clear hd1
  go_wp2_with (go_at_call 190; refine (HDS.out _ (Kd.C_below HA.out HD1.out.below)).mono ?_; rintro e w2 ⟨v2, rfl, hq, hb2⟩; have HQ := Aside0.mk hq; have HB2 := Aside0.mk hb2; clear hq hb2)
  have HT := Aside0.mk (fun {w : World} {v : Value} (h : IsL w v [(r : Int)]) => strip_isL h HV.out.1)
  rw [HV.out.2] at HT
  go_wp2_with (go_at_call 172; refine (HT.out (isL_one _ _ _)).mono ?_; rintro e w3 ⟨v3, rfl, hr3, hd3⟩)
  go_ret2
  have hb3 := below_step (below_alloc (Below.refl _ _) _) hd3.below
  exact ⟨_, _, rfl, HQ.out.below hb3, hr3, below_step HD1.out.below (below_step HB2.out hb3)⟩
set_option maxRecDepth 100000 in
set_option maxHeartbeats 1000000 in
theorem ref_divide_long (a b : Nat) (A B : Option Addr) (c d : Nat) (w : World) (hA : Kd.C (Kd.int .u32) w A (dig a).length (dig a)) (hc : (dig a).length ≤ c) (hB : Kd.C (Kd.int .u32) w B (dig b).length (dig b)) (hd : (dig b).length ≤ d)
    (ha : (dig a).length ≤ 137438953472) (h : ¬ a < b) (h1 : 2 ≤ (dig b).length) :
    Calls Tryz.prog 174 #[.slice A (dig a).length c, .slice B (dig b).length d] w fun e w' => ∃ v1 v2, e = .returned (.tuple #[v1, v2]) ∧ IsL w' v1 (dig (a / b)) ∧ IsL w' v2 (dig (a % b)) ∧ Below w.heap.size w w' := by
  have hlen := dig_mono (Nat.le_of_not_lt h)
  have HC := Aside0.mk (ref_order a b A B c d w hA hc hB hd (by omega) (by omega))
  have g : ¬ cmpN a b < 0 := fun k => h (cmpN_neg.1 k)
  have HL := Aside0.mk (fun {w : World} hA hB => ref_long a b A B c d w hA hc hB hd ha h h1)
  have HA := Aside0.mk hA
  have HB := Aside0.mk hB
  clear hA hB h
  generalize dig (a / b) = dq at *
  generalize dig (a % b) = dr at *
  generalize (dig a).length = la at *
  generalize (dig b).length = lb at *
  have g2 : ((lb : Int) == 1) = false := by simp; omega
  clear hlen
  go_enter Tryz.func174, Tryz.ntmps174
  go_wp2_with (fail)
  refine HC.out.mono ?_
  rintro e w1 ⟨rfl, hd1⟩
  have HD1 := Aside0.mk hd1
  clear hd1
  go_wp2_with (fail)
  refine (HL.out (Kd.C_below HA.out HD1.out.below) (Kd.C_below HB.out HD1.out.below)).mono ?_
  rintro e w2 ⟨q, r, rfl, hq, hr, hb2⟩
  go_wp2
  go_ret2
  exact ⟨_, _, rfl, hq, hr, below_step HD1.out.below hb2⟩
theorem ref_divide {a b : Nat} {v1 v2 : Value} {w : World} (h1 : IsL w v1 (dig a)) (h2 : IsL w v2 (dig b)) (hb0 : b ≠ 0) (ha : (dig a).length ≤ 137438953472) (hb : (dig b).length ≤ 137438953472) :
    Calls Tryz.prog 174 #[v1, v2] w fun e w' => ∃ v1 v2, e = .returned (.tuple #[v1, v2]) ∧ IsL w' v1 (dig (a / b)) ∧ IsL w' v2 (dig (a % b)) ∧ Below w.heap.size w w' := by
  obtain ⟨A, c, rfl, hc, hA⟩ := h1
  obtain ⟨B, d, rfl, hd, hB⟩ := h2
  by_cases h : a < b
  · exact ref_divide_less a b A B c d w hA hc hB hd ha hb h
  · have h3 : (dig b).length ≠ 0 := fun e => hb0 (by rw [← val_dig b, List.length_eq_zero_iff.1 e]; rfl)
    by_cases h4 : (dig b).length = 1
    · exact ref_divide_one a b A B c d w hA hc hB hd ha h h4
    · exact ref_divide_long a b A B c d w hA hc hB hd ha h (by omega)
set_option maxRecDepth 100000 in
set_option maxHeartbeats 1000000 in
theorem ref_common (a b : Nat) (v1 v2 : Value) (w : World) (h1 : IsL w v1 (dig a)) (h2 : IsL w v2 (dig b)) (D1 : (dig a).length ≤ 137438953472) (D2 : (dig b).length ≤ 137438953472) :
    Calls Tryz.prog 173 #[v1, v2] w fun e w' => ∃ v, e = .returned v ∧ IsL w' v (dig (Nat.gcd a b)) ∧ Below w.heap.size w w' := by
  have HA := Aside0.mk h1
  have HB := Aside0.mk h2
  clear h1 h2
  go_enter Tryz.func173, Tryz.ntmps173
  go_wp2_with (fail)
  go_loopw [0, 1] (fun v5 v6 w' => ∃ (x y : Nat), Aside0 (IsL w' v5 (dig x)) ∧ Aside0 (IsL w' v6 (dig y)) ∧ Aside0 (Nat.gcd x y = Nat.gcd a b ∧ (dig x).length ≤ 137438953472 ∧ (dig y).length ≤ 137438953472) ∧ Aside0 (Below w.heap.size w w')) (fun _ v6 w' => val (digsOf w' v6))
  case atStart => exact ⟨a, b, HA, HB, ⟨rfl, D1, D2⟩, ⟨Below.refl _ _⟩⟩
  case round =>
    clear HA HB
    obtain ⟨x, y, h5, h6, hG, hb⟩ := hrel
    obtain ⟨A, c, rfl, hc, hA⟩ := h5.out
    obtain ⟨B, d, rfl, hd, hB⟩ := h6.out
    have e6 := Aside0.mk (digsOf_eq h6.out)
    clear hA hB
    have hlen := @dig_pos_len y
    by_cases h0 : y = 0
    · subst h0
      rw [dig_zero] at hlen ⊢
      clear hlen
      go_wp2_with (fail)
      go_ret
      refine ⟨_, rfl, ?_, hb.out⟩
      rw [← hG.out.1, Nat.gcd_zero_right]
      exact h5.out
    · have hpos : (0 : Int) < ((dig y).length : Int) := by omega
      have DV := Aside0.mk (ref_divide h5.out h6.out h0 hG.out.2.1 hG.out.2.2)
      go_wp2_with (fail)
      refine DV.out.mono ?_
      rintro e w3 ⟨q, r, rfl, hq, hr, hb3⟩
      go_wp2_with (fail)
      go_roundw
      case measure => rw [digsOf_eq hr, e6.out, val_dig, val_dig]; exact Nat.mod_lt _ (Nat.pos_of_ne_zero h0)
      case rel => exact ⟨y, x % y, ⟨h6.out.below hb3⟩, ⟨hr⟩, ⟨by rw [← hG.out.1, Nat.gcd_comm x y, Nat.gcd_rec y x, Nat.gcd_comm], hG.out.2.2, Nat.le_trans (dig_mono (Nat.mod_le _ _)) hG.out.2.1⟩, ⟨below_step hb.out hb3⟩⟩
set_option maxRecDepth 100000 in
set_option maxHeartbeats 1000000 in
theorem ref_GCD (s t : ByteArray) (w : World) (hs : s.size ≤ 549755813888) (ht : t.size ≤ 549755813888) :
    Calls Tryz.prog 159 #[.string s, .string t] w fun e w' => e = .returned (.string (natB (Nat.gcd (bval s) (bval t)))) ∧ Below w.heap.size w w' := by
  have D1 := dig_len_size (s := s) (n := 137438953472) (by omega)
  have D2 := dig_len_size (s := t) (n := 137438953472) (by omega)
  have P1 := Lib.hid (fun w => ref_limbs s w (by omega))
  have P2 := Lib.hid (fun w => ref_limbs t w (by omega))
  have D3 : (dig (Nat.gcd (bval s) (bval t))).length ≤ 137438953472 := by
    rcases Nat.eq_zero_or_pos (bval s) with h | h
    · rw [h, Nat.gcd_zero_left]; exact D2
    · exact Nat.le_trans (dig_mono (Nat.gcd_le_left _ h)) D1
  generalize bval s = a at *
  generalize bval t = b at *
  have CM := Aside0.mk (fun {v1 v2 : Value} {w : World} h1 h2 => ref_common a b v1 v2 w h1 h2 D1 D2)
  have TX := Aside0.mk (fun {v : Value} {w : World} h => text_isL (n := Nat.gcd a b) (v := v) (w := w) h (by omega))
  generalize Nat.gcd a b = g at *
  clear D1 D2 D3 hs ht
  go_enter Tryz.func159, Tryz.ntmps159
  go_wp2_with (fail)
  refine (P1.out _).mono ?_
  rintro e w1 ⟨v1, rfl, hA, hb1⟩
  have HA := Aside0.mk hA
  have HB1 := Aside0.mk hb1
  clear hA hb1
  go_wp2_with (fail)
  refine (P2.out _).mono ?_
  rintro e w2 ⟨v2, rfl, hB, hb2⟩
  have HB := Aside0.mk hB
  have HB2 := Aside0.mk hb2
  clear hB hb2
  go_wp2_with (fail)
  refine (CM.out (HA.out.below HB2.out) HB.out).mono ?_
  rintro e w3 ⟨v3, rfl, hG, hb3⟩
  have HG := Aside0.mk hG
  have HB3 := Aside0.mk hb3
  clear hG hb3
  go_wp2_with (fail)
  refine (TX.out HG.out).mono ?_
  rintro e w4 ⟨rfl, hb4⟩
  go_wp2
  go_ret
  exact ⟨rfl, below_step HB1.out (below_step HB2.out (below_step HB3.out hb4))⟩
end Go.Proofs.YtnimgfnknlkkdaaGreatDoor.H
set_option linter.unusedVariables false
set_option linter.unusedSimpArgs false
open Go
namespace Go.Proofs.YtnimgfnknlkkdaaGreatDoor.H
open Go Go.RowKit Go.Proofs.YtnimgfnknlkkdaaGreatDoorW.PrintWords Go.Proofs.YtnimgfnknlkkdaaGreatDoorW.PrintLast Go.Proofs.YtnimgfnknlkkdaaGreatDoorW.PrintMore Go.Proofs.YtnimgfnknlkkdaaGreatDoor.Num
set_option maxRecDepth 100000 in
set_option maxHeartbeats 1000000 in
theorem ref_Valid (n : Bool) (s t : ByteArray) (w : World) (hs : s.size ≤ 549755813888) (ht : t.size ≤ 549755813888) :
    Calls Tryz.prog 114 #[RV n s t] w fun e w' => e = .returned (.bool (okB n s t)) ∧ Below w.heap.size w w' := by
  have P1 := Lib.hid (fun w => ref_Normalize s w (by omega))
  have P2 := Lib.hid (fun w => ref_Normalize t w (by omega))
  have G := Lib.hid (fun w => ref_GCD s t w hs ht)
  have R := Aside0.mk (show okB n s t = (decide (natB (bval s) = s) && decide (natB (bval t) = t) && (if s.size = 0 then !n && decide (t.size = 0) else decide (t.size = 0) || (decide (t ≠ ⟨#[1]⟩) && decide (natB (Nat.gcd (bval s) (bval t)) = ⟨#[1]⟩)))) from rfl)
  have g1 := str_eq (natB (bval s)) s
  have g2 := str_eq (natB (bval t)) t
  have g3 := one_eq t
  generalize okB n s t = r at *
  generalize natB (bval s) = x at *
  generalize natB (bval t) = y at *
  generalize natB (Nat.gcd (bval s) (bval t)) = z at *
  by_cases h1 : x = s
  · rw [decide_eq_true h1] at g1
    by_cases h2 : y = t
    · rw [decide_eq_true h2] at g2
      by_cases h3 : t = ⟨#[1]⟩
      · rw [decide_eq_true h3] at g3
        have R2 : r = false := by
          rw [R.out, h3]
          by_cases h : s.size = 0
          · rw [if_pos h]; simp [show (⟨#[1]⟩ : ByteArray).size = 1 from rfl]
          · rw [if_neg h]; simp [show (⟨#[1]⟩ : ByteArray).size = 1 from rfl]
        clear h1 h2 h3
        go_enter Tryz.func114, Tryz.ntmps114
        go_wp2_with (fail)
        go_quiet (first | (go_at_call_of 158 s; refine Calls.quiet_of_same (P1.out _)) | (go_at_call_of 158 t; refine Calls.quiet_of_same (P2.out _)))
        go_wp2_with (fail)
        go_ret
        exact ⟨ret_b R2.symm, pw_below_drewN (below_alloc (Below.refl _ _) _) _⟩
      · rw [decide_eq_false h3] at g3
        go_enter Tryz.func114, Tryz.ntmps114
        go_wp2_with (fail)
        go_quiet (first | (go_at_call_of 158 s; refine Calls.quiet_of_same (P1.out _)) | (go_at_call_of 158 t; refine Calls.quiet_of_same (P2.out _)))
        go_wp2_with (go_at_call 159; refine (G.out _).mono ?_; rintro e w4 ⟨rfl, hb4⟩)
        all_goals go_ret
        all_goals (refine ⟨ret_b (by rw [R.out]; simp only [isEmpty_iff, one_eq, str_eq, nil_iff, one_iff] at *; simp_all [one_ne]), ?_⟩)
        all_goals first | exact below_step (pw_below_drewN (below_alloc (Below.refl _ _) _) _) hb4 | exact pw_below_drewN (below_alloc (Below.refl _ _) _) _
    · rw [decide_eq_false h2] at g2
      go_enter Tryz.func114, Tryz.ntmps114
      go_wp2_with (fail)
      go_quiet (first | (go_at_call_of 158 s; refine Calls.quiet_of_same (P1.out _)) | (go_at_call_of 158 t; refine Calls.quiet_of_same (P2.out _)))
      go_wp2_with (fail)
      go_ret
      exact ⟨ret_b (by rw [R.out]; simp [h2]), pw_below_drewN (below_alloc (Below.refl _ _) _) _⟩
  · rw [decide_eq_false h1] at g1
    go_enter Tryz.func114, Tryz.ntmps114
    go_wp2_with (fail)
    go_quiet (first | (go_at_call_of 158 s; refine Calls.quiet_of_same (P1.out _)) | (go_at_call_of 158 t; refine Calls.quiet_of_same (P2.out _)))
    go_wp2_with (fail)
    go_ret
    exact ⟨ret_b (by rw [R.out]; simp [h1]), pw_below_drewN (below_alloc (Below.refl _ _) _) _⟩
set_option maxRecDepth 100000 in
set_option maxHeartbeats 1000000 in
theorem ref_Fix (n : Bool) (s t : ByteArray) (w : World) (hs : s.size ≤ 549755813888) (ht : t.size ≤ 549755813888) :
    Calls Tryz.prog 77 #[RV n s t] w fun e w' => e = .returned (QV (rq n s t)) ∧ Below w.heap.size w w' := by
  have V := Lib.hid (fun w => ref_Valid n s t w hs ht)
  have C1 := Aside0.mk (@can_rq n s t)
  have C2 := Aside0.mk (@rq_not n s t)
  generalize rq n s t = q at *
  generalize okB n s t = r at *
  go_enter Tryz.func77, Tryz.ntmps77
  cases r
  · obtain rfl := C2.out rfl
    go_wp2_with (fail)
    refine (V.out _).mono ?_
    rintro e w1 ⟨rfl, hb1⟩
    have h1 := cells3 (heap_below (heap_new _ _) hb1)
    rw [size_new] at h1
    obtain ⟨⟨h2, h3, h4⟩, h5, h6, h7⟩ := h1
    have HB := Aside0.mk hb1
    clear hb1
    go_wp2
    refine bodyPost_ret (v := RV false ⟨#[]⟩ ⟨#[]⟩) ?_ rfl ⟨ret_v (by rw [QV, can_zero.1, can_zero.2.1, can_zero.2.2]), ?_⟩
    · refine results_q rfl _ _ (w.heap.size + 1) rfl ?_ ?_ ?_
      all_goals go_simp
    · exact below_set (below_set (below_set (below_step (below_alloc (below_alloc (Below.refl _ _) _) _) HB.out) (Nat.le_add_right _ _)) (Nat.le_add_right _ _)) (Nat.le_add_right _ _)
  · obtain ⟨c1, c2, c3⟩ := C1.out rfl
    have c4 : QV q = RV n s t := by rw [QV, c1, c2, c3]
    go_wp2_with (fail)
    refine (V.out _).mono ?_
    rintro e w1 ⟨rfl, hb1⟩
    have h1 := cells3 (heap_below (heap_new _ _) hb1)
    have k1 := cells3 (heap_below (heap_old (heap_new _ _)) hb1)
    rw [size_new] at h1
    obtain ⟨⟨h2, h3, h4⟩, h5, h6, h7⟩ := h1
    obtain ⟨⟨k2, k3, k4⟩, -⟩ := k1
    have HB := Aside0.mk hb1
    clear hb1
    go_wp2
    refine bodyPost_ret (v := RV n s t) ?_ rfl ⟨ret_v c4.symm, ?_⟩
    · refine results_q rfl _ _ (w.heap.size + 1) rfl ?_ ?_ ?_
      all_goals go_simp
    · exact below_set (below_set (below_set (below_step (below_alloc (below_alloc (Below.refl _ _) _) _) HB.out) (Nat.le_add_right _ _)) (Nat.le_add_right _ _)) (Nat.le_add_right _ _)
theorem ref_Signum (n : Bool) (s t : ByteArray) (w : World) :
    Calls Tryz.prog 76 #[RV n s t] w fun e w' => e = .returned (.int .i64 (sgnI n s)) ∧ Below w.heap.size w w' := by
  go_enter Tryz.func76, Tryz.ntmps76
  go_wp2
  all_goals go_ret
  all_goals refine ⟨ret_i ?_, below_alloc (Below.refl _ _) _⟩
  all_goals (simp only [isEmpty_iff] at *; simp_all [sgnI])
theorem ref_Sign (n : Bool) (s t : ByteArray) (w : World) (hs : s.size ≤ 549755813888) (ht : t.size ≤ 549755813888) :
    Calls Tryz.prog 44 #[RV n s t] w fun e w' => e = .returned (.int .i64 (rq n s t).num.sign) ∧ Below w.heap.size w w' := by
  have V := Lib.hid (fun w => ref_Fix n s t w hs ht)
  generalize rq n s t = q at *
  have S := Lib.hid (fun w => ref_Signum (canS q) (canN q) (canD q) w)
  rw [sgn_can] at S
  rw [QV] at V
  go_enter Tryz.func44, Tryz.ntmps44
  go_wp2_with (fail)
  refine (V.out _).mono ?_
  rintro e w1 ⟨rfl, hb1⟩
  have HB := Aside0.mk hb1
  clear hb1
  go_wp2_with (fail)
  refine (S.out _).mono ?_
  rintro e w2 ⟨rfl, hb2⟩
  go_wp2
  go_ret
  exact ⟨rfl, below_step (below_step (below_alloc (Below.refl _ _) _) HB.out) hb2⟩
end Go.Proofs.YtnimgfnknlkkdaaGreatDoor.H
set_option linter.unusedVariables false
set_option linter.unusedSimpArgs false
open Go
namespace Go.Proofs.YtnimgfnknlkkdaaGreatDoor.H
open Go Go.RowKit Go.Proofs.YtnimgfnknlkkdaaGreatDoorW.PrintWords Go.Proofs.YtnimgfnknlkkdaaGreatDoorW.PrintLast Go.Proofs.YtnimgfnknlkkdaaGreatDoorW.PrintMore Go.Proofs.YtnimgfnknlkkdaaGreatDoor.Num
/-! insolvencyref1: FromUint size reduced Make Fraction; law 0: Ratio -/
set_option maxRecDepth 100000 in
set_option maxHeartbeats 1000000 in
theorem ref_FromUint (u : Int) (w : World) (h0 : 0 ≤ u) (h1 : u < 9223372036854775808) :
    Calls Tryz.prog 102 #[.int .u64 u] w fun e w' => e = .returned (.string (natB u.toNat)) ∧ Below w.heap.size w w' := by
  have hL : Lim [u % 4294967296, u / 4294967296] := lim_cons (by omega) (lim_cons (by omega) lim_nil)
  have hv : val [u % 4294967296, u / 4294967296] = u.toNat := by simp only [val]; omega
  have T := Lib.hid (fun (w : World) (A : Option Addr) hC => ref_text u.toNat A 2 w [u % 4294967296, u / 4294967296] hv hL (Nat.le_refl _) hC (by simp))
  have C := Lib.hid (fun (w : World) (cells : Array Value) hc => @C_new .u32 w [u % 4294967296, u / 4294967296] cells hc 140 (by simp))
  have e1 : u / 4294967296 % 4294967296 = u / 4294967296 := by omega
  clear hL hv
  generalize natB u.toNat = r at *
  go_enter Tryz.func102, Tryz.ntmps102
  go_wp2_with (go_at_call 131; refine (T.out _ _ (C.out _ _ rfl)).mono ?_; rintro e w1 ⟨rfl, hb1⟩)
  go_ret
  exact ⟨rfl, below_step (below_alloc (Below.refl _ _) _) hb1⟩
set_option maxRecDepth 100000 in
set_option maxHeartbeats 1000000 in
theorem ref_size (u : Int) (w : World) (h0 : 0 ≤ u) (h1 : u < 9223372036854775808) :
    Calls Tryz.prog 103 #[.int .i64 u] w fun e w' => e = .returned (.int .u64 u) ∧ w' = w := by
  have g : ¬ u < 0 := by omega
  go_enter Tryz.func103, Tryz.ntmps103
  go_wp2_with (fail)
  go_ret
  exact ⟨rfl, rfl⟩
theorem isL_top {w : World} {v : Value} {g : Nat} (h : IsL w v (dig g)) (hg : g ≠ 0) : ∃ ad c, v = .slice (some ad) (dig g).length c ∧ ((g = 1 ∧ (dig g).length = 1 ∧ w.cell? ad = some (.int .u32 1)) ∨ (1 < g ∧ (dig g).length = 1 ∧ w.cell? ad = some (.int .u32 (g : Int))) ∨ 1 < (dig g).length) := by
  obtain ⟨A, c, rfl, hc, hC⟩ := h
  have hp := dig_len_pos hg
  obtain ⟨ad, rfl, hx⟩ := C_word hC 0 (by omega) (by omega)
  rw [show ad.add (0 : Int).toNat = ad from by cases ad; simp [Addr.add]] at hx
  refine ⟨ad, c, rfl, ?_⟩
  by_cases h1 : (dig g).length = 1
  · have hlt : g < 4294967296 := by have := dig_lt g; rw [h1] at this; simpa using this
    have hd : rd (dig g) 0 = (g : Int) := by
      show (dig g).getD 0 0 = _
      rw [dig_pos hg]; simp; omega
    rw [hd] at hx
    by_cases h2 : g = 1
    · exact .inl ⟨h2, h1, by subst h2; exact hx⟩
    · exact .inr (.inl ⟨by omega, h1, hx⟩)
  · exact .inr (.inr (by omega))
end Go.Proofs.YtnimgfnknlkkdaaGreatDoor.H
set_option linter.unusedVariables false
set_option linter.unusedSimpArgs false
open Go
namespace Go.Proofs.YtnimgfnknlkkdaaGreatDoor.H
open Go Go.RowKit Go.Proofs.YtnimgfnknlkkdaaGreatDoorW.PrintWords Go.Proofs.YtnimgfnknlkkdaaGreatDoorW.PrintLast Go.Proofs.YtnimgfnknlkkdaaGreatDoorW.PrintMore Go.Proofs.YtnimgfnknlkkdaaGreatDoor.Num
set_option maxRecDepth 100000 in
set_option maxHeartbeats 1000000 in
theorem ref_reduced (n : Bool) (a b : Nat) (v1 v2 : Value) (w : World) (h1 : IsL w v1 (dig a)) (h2 : IsL w v2 (dig b)) (hb0 : b ≠ 0) (D1 : (dig a).length ≤ 137438953472) (D2 : (dig b).length ≤ 137438953472) :
    Calls Tryz.prog 133 #[.bool n, v1, v2] w fun e w' => e = .returned (QV (mkQ n a b)) ∧ Below w.heap.size w w' := by
  have N1 := Lib.hid (heap_new w (.cells #[.bool false, .string ⟨#[]⟩, .string ⟨#[]⟩] 23))
  have NB := Aside0.mk (below_alloc (Below.refl w.heap.size w) (.cells #[.bool false, .string ⟨#[]⟩, .string ⟨#[]⟩] 23))
  obtain ⟨wz, hwz⟩ : ∃ wz, wz = w.alloc (.cells #[.bool false, .string ⟨#[]⟩, .string ⟨#[]⟩] 23) := ⟨_, rfl⟩
  rw [← hwz] at N1 NB
  obtain ⟨⟨d0, d1, d2⟩, d3, d4, d5⟩ := cells3 N1.out
  rcases Nat.eq_zero_or_pos a with ha0 | ha0
  · subst ha0
    obtain ⟨A, c, rfl, hc, hC⟩ := h1
    rw [mkQ_zero, dig_zero]
    rw [QV_of can_zero.1 can_zero.2.1 can_zero.2.2]
    clear hc hC h2 D1 D2 N1
    go_enter Tryz.func133, Tryz.ntmps133
    go_wp2_with (fail)
    refine bodyPost_ret (v := RV false ⟨#[]⟩ ⟨#[]⟩) ?_ rfl ⟨rfl, ?_⟩
    · exact results_q rfl _ _ w.heap.size rfl (by go_simp) (by go_simp) (by go_simp)
    · go_simp; first | exact below_alloc (Below.refl _ _) _ | exact below_set (below_set (below_set (below_alloc (Below.refl _ _) _) (Nat.le_refl _)) (Nat.le_refl _)) (Nat.le_refl _)
  · have hg0 : Nat.gcd a b ≠ 0 := fun e => hb0 (Nat.eq_zero_of_gcd_eq_zero_right e)
    obtain ⟨k1, k2, k3⟩ := @mkQ_can n a b hb0 (by omega)
    have HQ := Lib.hid (QV_of k1 k2 k3)
    have CM := Aside0.mk (ref_common a b v1 v2 wz (by rw [hwz]; exact h1.below (below_alloc (Below.refl _ _) _)) (by rw [hwz]; exact h2.below (below_alloc (Below.refl _ _) _)) D1 D2)
    have D3 : (dig (Nat.gcd a b)).length ≤ 137438953472 := Nat.le_trans (dig_mono (Nat.gcd_le_left b ha0)) D1
    have D4 : (dig (a / Nat.gcd a b)).length ≤ 137438953472 := Nat.le_trans (dig_mono (Nat.div_le_self _ _)) D1
    have D5 : (dig (b / Nat.gcd a b)).length ≤ 137438953472 := Nat.le_trans (dig_mono (Nat.div_le_self _ _)) D2
    have hb3 : b / Nat.gcd a b ≠ 0 := fun e => by
      have := Nat.div_pos (Nat.gcd_le_right a (Nat.pos_of_ne_zero hb0)) (Nat.pos_of_ne_zero hg0)
      omega
    have DVA := Aside0.mk (fun {u v : Value} {w : World} hu hv => ref_divide (a := a) (b := Nat.gcd a b) (v1 := u) (v2 := v) (w := w) hu hv hg0 D1 D3)
    have DVB := Aside0.mk (fun {u v : Value} {w : World} hu hv => ref_divide (a := b) (b := Nat.gcd a b) (v1 := u) (v2 := v) (w := w) hu hv hg0 D2 D3)
    have TA := Aside0.mk (fun {v : Value} {w : World} h => text_isL (n := a / Nat.gcd a b) (v := v) (w := w) h (by omega))
    have TB := Aside0.mk (fun {v : Value} {w : World} h => text_isL (n := b / Nat.gcd a b) (v := v) (w := w) h (by omega))
    have HA := Aside0.mk (show IsL wz v1 (dig a) by rw [hwz]; exact h1.below (below_alloc (Below.refl _ _) _))
    have HB := Aside0.mk (show IsL wz v2 (dig b) by rw [hwz]; exact h2.below (below_alloc (Below.refl _ _) _))
    have hpa := dig_len_pos (n := a) (by omega)
    obtain ⟨A1, c1, rfl, -, -⟩ := h1
    have E1 := Lib.hid (show Nat.gcd a b = 1 → a / Nat.gcd a b = a ∧ b / Nat.gcd a b = b from fun e => by rw [e, Nat.div_one, Nat.div_one]; exact ⟨rfl, rfl⟩)
    clear k1 k2 k3 h2 D3 D4 D5
    clear D1 D2
    generalize Nat.gcd a b = g at *
    generalize hqa : a / g = qa at *
    generalize hqb : b / g = qb at *
    have HQA := Lib.hid (And.intro hqa hqb)
    clear hqa hqb
    generalize mkQ n a b = z at *
    generalize (dig a).length = la at *
    have hpa1 : (0 : Int) < (la : Int) := by omega
    have hpa2 : ((la : Int) == 0) = false := by simp; omega
    obtain ⟨sD, hsD⟩ : ∃ s, s = (if qb = 1 then ⟨#[]⟩ else natB qb : ByteArray) := ⟨_, rfl⟩
    rw [HQ.out, ← hsD]
    have HSD := Lib.hid hsD
    clear HQ hsD
    go_enter Tryz.func133, Tryz.ntmps133
    go_wp2_with (fail)
    rw [← hwz]
    clear d0 d1 d2 d3 d4 d5 hwz
    refine CM.out.mono ?_
    rintro e w3 ⟨v3, rfl, hG, hb33⟩
    have M1 := Lib.hid (heap_b hb33 N1.out)
    have MB := Aside0.mk (below_s hb33 NB.out)
    have MA := Aside0.mk (HA.out.below hb33)
    have MBB := Aside0.mk (HB.out.below hb33)
    have HG := Aside0.mk hG
    obtain ⟨ad, c, rfl, hcase⟩ := isL_top hG hg0
    clear hb33 N1 NB HA HB CM hG
    obtain ⟨lg, hlg⟩ : ∃ lg, lg = (dig g).length := ⟨_, rfl⟩
    rw [← hlg] at hcase ⊢
    have HLG := Lib.hid hlg
    have hlp : 0 < lg := by rw [hlg]; exact dig_len_pos hg0
    clear hlg
    have hlp1 : (0 : Int) < (lg : Int) := by omega
    go_upto_region 4 with (fail)
    go_cut [24] (fun x24 wc => x24 = .bool (decide (1 < g)) ∧ wc = w3)
    case first =>
      rcases hcase with ⟨hg1, hl, hx⟩ | ⟨hg1, hl, hx⟩ | hl
      · have l1 : ¬ (1 : Int) < (lg : Int) := by omega
        have HD := Lib.hid (show decide (1 < g) = false from decide_eq_false (by omega))
        clear hl hg1
        go_wp2_with (fail)
        go_meet
        case rel => exact ⟨by rw [HD.out], rfl⟩
      · have l1 : ¬ (1 : Int) < (lg : Int) := by omega
        have l2 : (1 : Int) < (g : Int) := by omega
        have HD := Lib.hid (show decide (1 < g) = true from decide_eq_true hg1)
        clear hl hg1
        go_wp2_with (fail)
        go_meet
        case rel => exact ⟨by rw [HD.out], rfl⟩
      · have l1 : (1 : Int) < (lg : Int) := by omega
        have hg1 : 1 < g := by
          rcases Nat.lt_or_ge 1 g with h | h
          · exact h
          · have h9 := dig_length_le (n := g) (k := 1) (by omega)
            rw [← HLG.out] at h9
            omega
        have HD := Lib.hid (show decide (1 < g) = true from decide_eq_true hg1)
        clear hl hg1
        go_wp2_with (fail)
        go_meet
        case rel => exact ⟨by rw [HD.out], rfl⟩
    case rest =>
    obtain ⟨rfl, hwq⟩ := hcut
    rw [← hwq] at MA MBB M1 MB HG
    clear hwq hcase
    rw [← HLG.out] at HG
    go_upto_if 24 with (fail)
    go_cut [1, 2] (fun x1 x2 wc => Aside0 (IsL wc x1 (dig qa)) ∧ Aside0 (IsL wc x2 (dig qb)) ∧ Aside0 (wc.heap[w.heap.size]? = some (.cells #[.bool false, .string ⟨#[]⟩, .string ⟨#[]⟩] 23)) ∧ Aside0 (Below w.heap.size w wc))
    case first =>
      by_cases hg1 : 1 < g
      · rw [decide_eq_true hg1]
        clear hg1
        go_wp2_with (fail)
        refine (DVA.out MA.out HG.out).mono ?_
        rintro e w4 ⟨q1, r1, rfl, hq1, hr1, hb4⟩
        go_wp2_with (fail)
        refine (DVB.out (MBB.out.below hb4) (HG.out.below hb4)).mono ?_
        rintro e w5 ⟨q2, r2, rfl, hq2, hr2, hb5⟩
        go_wp2_with (fail)
        go_meet
        case rel => exact ⟨⟨hq1.below hb5⟩, ⟨hq2⟩, ⟨heap_b hb5 (heap_b hb4 M1.out)⟩, ⟨below_s hb5 (below_s hb4 MB.out)⟩⟩
      · obtain ⟨e1, e2⟩ := E1.out (by omega)
        rw [decide_eq_false hg1]
        clear hg1
        go_wp2_with (fail)
        go_meet
        case rel => exact ⟨by rw [e1]; exact MA, by rw [e2]; exact MBB, ⟨M1.out⟩, MB⟩
    case rest =>
      obtain ⟨h1, h2, h3, h4⟩ := hcut
      clear MA MBB M1 MB HG DVA DVB
      go_wp2_with (fail)
      refine (TA.out h1.out).mono ?_
      rintro e w6 ⟨rfl, hb6⟩
      have P2 := Aside0.mk (h2.out.below hb6)
      have P3 := Lib.hid (heap_b hb6 h3.out)
      have P4 := Aside0.mk (below_s hb6 h4.out)
      clear hb6 h1 h2 h3 h4 TA
      have Q1 := Lib.hid (heap_new w6 (.cells #[.bool n, .string (natB qa), .string ⟨#[]⟩] 23))
      have hz6 := Lib.hid (blk_lt P3.out)
      have P5 := Aside0.mk (P2.out.below (below_alloc (Below.refl w6.heap.size w6) (.cells #[.bool n, .string (natB qa), .string ⟨#[]⟩] 23)))
      have P6 := Lib.hid (heap_old (o := .cells #[.bool n, .string (natB qa), .string ⟨#[]⟩] 23) P3.out)
      have P7 := Aside0.mk (below_alloc P4.out (.cells #[.bool n, .string (natB qa), .string ⟨#[]⟩] 23))
      obtain ⟨w7, hw7⟩ : ∃ w7, w7 = w6.alloc (.cells #[.bool n, .string (natB qa), .string ⟨#[]⟩] 23) := ⟨_, rfl⟩
      rw [← hw7] at P5 P6 P7 Q1
      obtain ⟨bd, c2, rfl, hcase⟩ := isL_top P5.out hb3
      obtain ⟨ln, hln⟩ : ∃ ln, ln = (dig qb).length := ⟨_, rfl⟩
      rw [← hln] at hcase ⊢
      have HLN := Lib.hid hln
      have hlp : 0 < ln := by rw [hln]; exact dig_len_pos hb3
      clear hln
      have hlp2 : (0 : Int) < (ln : Int) := by omega
      have hz7 := Lib.hid (show w7.heap.size = w6.heap.size + 1 by rw [hw7]; exact size_new _ _)
      generalize hsa : natB qa = sa at *
      go_upto_region 8 with (fail)
      rw [← hw7]
      clear hw7
      go_cut [49] (fun x24 wc => x24 = .bool (decide (1 < qb)) ∧ wc = w7)
      case first =>
        rcases hcase with ⟨hg1, hl, hx⟩ | ⟨hg1, hl, hx⟩ | hl
        · have l1 : ¬ (1 : Int) < (ln : Int) := by omega
          have HD := Lib.hid (show decide (1 < qb) = false from decide_eq_false (by omega))
          clear hl hg1
          go_wp2_with (fail)
          go_meet
          case rel => exact ⟨by rw [HD.out], rfl⟩
        · have l1 : ¬ (1 : Int) < (ln : Int) := by omega
          have l2 : (1 : Int) < (qb : Int) := by omega
          have HD := Lib.hid (show decide (1 < qb) = true from decide_eq_true hg1)
          clear hl hg1
          go_wp2_with (fail)
          go_meet
          case rel => exact ⟨by rw [HD.out], rfl⟩
        · have l1 : (1 : Int) < (ln : Int) := by omega
          have hg1 : 1 < qb := by
            rcases Nat.lt_or_ge 1 qb with h | h
            · exact h
            · have h9 := dig_length_le (n := qb) (k := 1) (by omega)
              rw [← HLN.out] at h9
              omega
          have HD := Lib.hid (show decide (1 < qb) = true from decide_eq_true hg1)
          clear hl hg1
          go_wp2_with (fail)
          go_meet
          case rel => exact ⟨by rw [HD.out], rfl⟩
      case rest =>
      obtain ⟨rfl, hwq⟩ := hcut
      rw [← hwq] at P5 P6 P7 Q1
      clear hwq hcase
      rw [← HLN.out] at P5
      obtain ⟨⟨e0, e1, e2⟩, e3, e4, e5⟩ := cells3 P6.out
      have hne1 : w.heap.size ≠ w6.heap.size := by have := hz6.out; omega
      have hne2 : w6.heap.size ≠ w.heap.size := hne1.symm
      by_cases hg1 : 1 < qb
      · rw [decide_eq_true hg1]
        have hs1 := Lib.hid (show sD = natB qb by rw [HSD.out, if_neg (by omega)])
        clear hg1
        go_wp2_with (fail)
        refine (TB.out P5.out).mono ?_
        rintro e w9 ⟨rfl, hb9⟩
        have R1 := Lib.hid (heap_b hb9 Q1.out)
        have R6 := Lib.hid (heap_b hb9 P6.out)
        have R7 := Aside0.mk (below_s hb9 P7.out)
        obtain ⟨⟨f0, f1, f2⟩, f3, f4, f5⟩ := cells3 R1.out
        obtain ⟨⟨o0, o1, o2⟩, o3, o4, o5⟩ := cells3 R6.out
        clear e0 e1 e2 e3 e4 e5 hb9 P5 P6 P7 Q1
        generalize natB qb = sb at *
        go_wp2_with (fail)
        refine bodyPost_ret (v := RV n sa sb) ?_ rfl ⟨by rw [hs1.out, hsa], ?_⟩
        · exact results_q rfl _ _ w.heap.size rfl (by go_simp) (by go_simp) (by go_simp)
        · exact below_set (below_set (below_set (below_set R7.out (by have := hz6.out; omega)) (Nat.le_refl _)) (Nat.le_refl _)) (Nat.le_refl _)
      · rw [decide_eq_false hg1]
        have hs1 := Lib.hid (show sD = ⟨#[]⟩ by rw [HSD.out, if_pos (by omega)])
        clear hg1
        obtain ⟨⟨f0, f1, f2⟩, f3, f4, f5⟩ := cells3 Q1.out
        go_wp2_with (fail)
        refine bodyPost_ret (v := RV n sa ⟨#[]⟩) ?_ rfl ⟨by rw [hs1.out, hsa], ?_⟩
        · exact results_q rfl _ _ w.heap.size rfl (by go_simp) (by go_simp) (by go_simp)
        · exact below_set (below_set (below_set P7.out (Nat.le_refl _)) (Nat.le_refl _)) (Nat.le_refl _)
end Go.Proofs.YtnimgfnknlkkdaaGreatDoor.H
set_option linter.unusedVariables false
set_option linter.unusedSimpArgs false
open Go
namespace Go.Proofs.YtnimgfnknlkkdaaGreatDoor.H
open Go Go.RowKit Go.Proofs.YtnimgfnknlkkdaaGreatDoorW.PrintWords Go.Proofs.YtnimgfnknlkkdaaGreatDoorW.PrintLast Go.Proofs.YtnimgfnknlkkdaaGreatDoorW.PrintMore Go.Proofs.YtnimgfnknlkkdaaGreatDoor.Num
/-! insolvencyref1: Make Fraction; law 0: Ratio -/
set_option maxRecDepth 100000 in
set_option maxHeartbeats 1000000 in
theorem ref_Make (n : Bool) (s t : ByteArray) (w : World) (hs : s.size ≤ 549755813888) (ht : t.size ≤ 549755813888) (h0 : bval t ≠ 0) :
    Calls Tryz.prog 104 #[.bool n, .string s, .string t] w fun e w' => e = .returned (.tuple #[QV (mkQ n (bval s) (bval t)), .bool true]) ∧ Below w.heap.size w w' := by
  have D1 := dig_len_size (s := s) (n := 137438953472) (by omega)
  have D2 := dig_len_size (s := t) (n := 137438953472) (by omega)
  have P1 := Lib.hid (fun w => ref_limbs s w (by omega))
  have P2 := Lib.hid (fun w => ref_limbs t w (by omega))
  generalize bval s = a at *
  generalize bval t = b at *
  have R := Aside0.mk (fun {v1 v2 : Value} {w : World} h1 h2 => ref_reduced n a b v1 v2 w h1 h2 h0 D1 D2)
  have hlp := dig_len_pos h0
  clear hs ht D1 D2
  generalize mkQ n a b = z at *
  simp only [QV] at R ⊢
  generalize canS z = zS at *
  generalize canN z = zN at *
  generalize canD z = zD at *
  have N1 := Lib.hid (heap_new w (.cells #[.bool false, .string ⟨#[]⟩, .string ⟨#[]⟩] 23))
  have NB := Aside0.mk (below_alloc (Below.refl w.heap.size w) (.cells #[.bool false, .string ⟨#[]⟩, .string ⟨#[]⟩] 23))
  obtain ⟨wz, hwz⟩ : ∃ wz, wz = w.alloc (.cells #[.bool false, .string ⟨#[]⟩, .string ⟨#[]⟩] 23) := ⟨_, rfl⟩
  rw [← hwz] at N1 NB
  go_enter Tryz.func104, Tryz.ntmps104
  go_wp2_with (fail)
  rw [← hwz]
  clear hwz
  refine (P2.out _).mono ?_
  rintro e w1 ⟨v1, rfl, h1, hb1⟩
  have M1 := Lib.hid (heap_b hb1 N1.out)
  have MB := Aside0.mk (below_s hb1 NB.out)
  have HD := Aside0.mk h1
  obtain ⟨A1, c1, rfl, -, -⟩ := h1
  clear hb1 N1 NB
  generalize hln : (dig b).length = ln at *
  have HLN := Lib.hid hln
  clear hln
  have l1 : ((ln : Int) == 0) = false := by simp; omega
  go_wp2_with (fail)
  refine (P1.out _).mono ?_
  rintro e w2 ⟨v2, rfl, h2, hb2⟩
  have L1 := Lib.hid (heap_b hb2 M1.out)
  have LB := Aside0.mk (below_s hb2 MB.out)
  have HD2 := Aside0.mk (HD.out.below hb2)
  clear hb2 M1 MB HD
  go_wp2_with (fail)
  refine (R.out h2 HD2.out).mono ?_
  rintro e w3 ⟨rfl, hb3⟩
  obtain ⟨⟨d0, d1, d2⟩, d3, d4, d5⟩ := cells3 (heap_b hb3 L1.out)
  have KB := Aside0.mk (below_s hb3 LB.out)
  clear hb3 L1 LB
  go_wp2_with (fail)
  refine bodyPost_ret (v := .tuple #[RV zS zN zD, .bool true]) ?_ rfl ⟨rfl, ?_⟩
  · exact results_qb rfl _ _ w.heap.size rfl (by rfl) (by go_simp) (by go_simp) (by go_simp)
  · exact below_set (below_set (below_set KB.out (Nat.le_refl _)) (Nat.le_refl _)) (Nat.le_refl _)
theorem mkQ_nat (a b : Nat) : mkQ false a b = (a : Rat) / (b : Rat) := by
  rw [mkQ]
  simp only [Bool.false_eq_true, if_false]
  rw [Rat.mkRat_eq_div]
  rfl
set_option maxRecDepth 100000 in
set_option maxHeartbeats 1000000 in
theorem ref_Fraction (a b : Nat) (w : World) (ha : a < 9223372036854775808) (hb : b < 9223372036854775808) (h0 : b ≠ 0) :
    Calls Tryz.prog 64 #[.int .i64 a, .int .i64 b] w fun e w' => e = .returned (.tuple #[QV (mkQ false a b), .bool true]) ∧ Below w.heap.size w w' := by
  have S1 := Lib.hid (fun w => ref_size a w (by omega) (by omega))
  have S2 := Lib.hid (fun w => ref_size b w (by omega) (by omega))
  have U1 := Lib.hid (fun w => ref_FromUint a w (by omega) (by omega))
  have U2 := Lib.hid (fun w => ref_FromUint b w (by omega) (by omega))
  simp only [Int.toNat_natCast] at U1 U2
  have z1 : (natB a).size ≤ 8 := natB_size_le (by omega)
  have z2 : (natB b).size ≤ 8 := natB_size_le (by omega)
  have MK := Lib.hid (fun w => ref_Make false (natB a) (natB b) w (by omega) (by omega) (by rw [bval_natB]; exact h0))
  simp only [bval_natB] at MK
  have g1 : ¬ (a : Int) < 0 := by omega
  have g2 : ¬ (b : Int) < 0 := by omega
  clear ha hb h0 z1 z2
  generalize mkQ false a b = z at *
  simp only [QV] at MK ⊢
  generalize canS z = zS at *
  generalize canN z = zN at *
  generalize canD z = zD at *
  generalize natB a = sa at *
  generalize natB b = sb at *
  have N1 := Lib.hid (heap_new w (.cells #[.bool false, .string ⟨#[]⟩, .string ⟨#[]⟩] 23))
  have NB := Aside0.mk (below_alloc (Below.refl w.heap.size w) (.cells #[.bool false, .string ⟨#[]⟩, .string ⟨#[]⟩] 23))
  obtain ⟨wz, hwz⟩ : ∃ wz, wz = w.alloc (.cells #[.bool false, .string ⟨#[]⟩, .string ⟨#[]⟩] 23) := ⟨_, rfl⟩
  rw [← hwz] at N1 NB
  go_enter Tryz.func64, Tryz.ntmps64
  go_wp2_with (fail)
  rw [← hwz]
  clear hwz
  refine (S1.out _).mono ?_
  rintro e w1 ⟨rfl, hw1⟩
  rw [hw1]
  clear hw1
  go_wp2_with (fail)
  refine (U1.out _).mono ?_
  rintro e w2 ⟨rfl, hb2⟩
  have M1 := Lib.hid (heap_b hb2 N1.out)
  have MB := Aside0.mk (below_s hb2 NB.out)
  clear hb2 N1 NB
  go_wp2_with (fail)
  refine (S2.out _).mono ?_
  rintro e w3 ⟨rfl, hw3⟩
  rw [hw3]
  clear hw3
  go_wp2_with (fail)
  refine (U2.out _).mono ?_
  rintro e w4 ⟨rfl, hb4⟩
  have L1 := Lib.hid (heap_b hb4 M1.out)
  have LB := Aside0.mk (below_s hb4 MB.out)
  clear hb4 M1 MB
  go_wp2_with (fail)
  refine (MK.out _).mono ?_
  rintro e w5 ⟨rfl, hb5⟩
  obtain ⟨⟨d0, d1, d2⟩, d3, d4, d5⟩ := cells3 (heap_b hb5 L1.out)
  have KB := Aside0.mk (below_s hb5 LB.out)
  clear hb5 L1 LB
  go_wp2_with (fail)
  refine bodyPost_ret (v := .tuple #[RV zS zN zD, .bool true]) ?_ rfl ⟨rfl, ?_⟩
  · exact results_qb rfl _ _ w.heap.size rfl (by rfl) (by go_simp) (by go_simp) (by go_simp)
  · exact below_set (below_set (below_set KB.out (Nat.le_refl _)) (Nat.le_refl _)) (Nat.le_refl _)
set_option maxRecDepth 100000 in
set_option maxHeartbeats 1000000 in
theorem law_Ratio (a b : Nat) (w : World) (ha : a < 9223372036854775808) (hb : b < 9223372036854775808) (h0 : b ≠ 0) :
    Calls Tryz.prog 35 #[.int .i64 a, .int .i64 b] w fun e w' => e = .returned (QV ((a : Rat) / (b : Rat))) ∧ Below w.heap.size w w' := by
  have F := Lib.hid (fun w => ref_Fraction a b w ha hb h0)
  rw [mkQ_nat] at F
  clear ha hb h0
  generalize (a : Rat) / (b : Rat) = z at *
  simp only [QV] at F ⊢
  generalize canS z = zS at *
  generalize canN z = zN at *
  generalize canD z = zD at *
  have N1 := Lib.hid (heap_new w (.cells #[.bool false, .string ⟨#[]⟩, .string ⟨#[]⟩] 23))
  have NB := Aside0.mk (below_alloc (Below.refl w.heap.size w) (.cells #[.bool false, .string ⟨#[]⟩, .string ⟨#[]⟩] 23))
  obtain ⟨wz, hwz⟩ : ∃ wz, wz = w.alloc (.cells #[.bool false, .string ⟨#[]⟩, .string ⟨#[]⟩] 23) := ⟨_, rfl⟩
  rw [← hwz] at N1 NB
  go_enter Tryz.func35, Tryz.ntmps35
  go_wp2_with (fail)
  rw [← hwz]
  clear hwz
  refine (F.out _).mono ?_
  rintro e w1 ⟨rfl, hb1⟩
  have hl := Lib.hid (blk_lt (heap_b hb1 N1.out))
  have K1 := Lib.hid (heap_old (o := .cells #[.bool zS, .string zN, .string zD] 23) (heap_b hb1 N1.out))
  obtain ⟨⟨d0, d1, d2⟩, d3, d4, d5⟩ := cells3 K1.out
  have KB := Aside0.mk (below_s hb1 NB.out)
  clear hb1 N1 NB
  go_wp2_with (fail)
  refine bodyPost_ret (v := RV zS zN zD) ?_ rfl ⟨rfl, ?_⟩
  · exact results_q rfl _ _ w.heap.size rfl (by go_simp) (by go_simp) (by go_simp)
  · exact below_set (below_set (below_set (below_alloc KB.out _) (Nat.le_refl _)) (Nat.le_refl _)) (Nat.le_refl _)
end Go.Proofs.YtnimgfnknlkkdaaGreatDoor.H
set_option linter.unusedVariables false
set_option linter.unusedSimpArgs false
open Go
namespace Go.Proofs.YtnimgfnknlkkdaaGreatDoor.H
open Go Go.RowKit Go.Proofs.YtnimgfnknlkkdaaGreatDoorW.PrintWords Go.Proofs.YtnimgfnknlkkdaaGreatDoorW.PrintLast Go.Proofs.YtnimgfnknlkkdaaGreatDoorW.PrintMore Go.Proofs.YtnimgfnknlkkdaaGreatDoor.Num
/-! law 17: awake -/
/-- An estate's value: the two claims, agreements gs. -/
def IsE (w : World) (V : Value) (gs : List (List (List PartV))) : Prop := ∃ A c B d, V = EV zR A twoC.length c B gs.length d ∧ ReadsE w zR twoC gs A c B d
theorem IsE.below {w w1 : World} {V : Value} {gs : List (List (List PartV))} (h : IsE w V gs) (hb : Below w.heap.size w w1) : IsE w1 V gs := by
  obtain ⟨A, c, B, d, e, hR⟩ := h
  exact ⟨A, c, B, d, e, hR.below hb⟩
theorem two_is (ts : List (List PartV)) (T : Option Addr) (tc : Nat) (w : World) (hT : kTier.C w T ts.length ts) (htc : ts.length ≤ tc) :
    Calls Tryz.prog 41 #[.slice T ts.length tc] w fun e w' => ∃ V, e = .returned V ∧ IsE w' V (twoG ts) ∧ Below w.heap.size w w' := by
  refine (lw_two ts T tc w hT htc).mono ?_
  rintro e w' ⟨A, B, rfl, hR, hb⟩
  exact ⟨_, rfl, ⟨A, 2, B, _, rfl, hR⟩, hb⟩
theorem pays_is {V : Value} {gs : List (List (List PartV))} {n : Nat} {a b : Rat} (w : World) (hV : IsE w V gs) (h : AwakeOk gs n a b) :
    Calls Tryz.prog 40 #[V, .int .i64 n, RQ a, RQ b] w fun e w' => e = .returned (.bool true) ∧ Below w.heap.size w w' := by
  obtain ⟨A, c, B, d, rfl, hR⟩ := hV
  exact lw_pays zR twoC gs A c B d n a b w hR h.short h.err h.lay h.del h.hn h.okn h.res
theorem part1 {W : World} {g : Nat} {x : PartV} {cs : List Value} (hb : W.heap[g]? = some (.cells cs.toArray 38)) (h : kPart.K W x cs) : kPart.C W (some ⟨g, 0, none⟩) 1 [x] :=
  C_reps (xs := [x]) hb (Reps.snoc (Reps.none _ _) h (kPart.K_len h)) (Nat.le_of_ble_eq_true rfl)
theorem tier2 {W : World} {g : Nat} {A B : Option Addr} {c d n m : Nat} {xs ys : List PartV} (hb : W.heap[g]? = some (.cells #[.slice A n c, .slice B m d] 36)) (h1 : kPart.C W A n xs) (h2 : kPart.C W B m ys) (hc : n ≤ c) (hd : m ≤ d) : kTier.C W (some ⟨g, 0, none⟩) 2 [xs, ys] := by
  obtain rfl := Kd.C_len h1
  obtain rfl := Kd.C_len h2
  exact C_reps (xs := [xs, ys]) (cs := [.slice A xs.length c, .slice B ys.length d]) hb (Reps.snoc (Reps.snoc (Reps.none _ _) (show kTier.K W xs [.slice A xs.length c] from ⟨A, c, rfl, hc, h1⟩) rfl) (show kTier.K W ys [.slice B ys.length d] from ⟨B, d, rfl, hd, h2⟩) rfl) (Nat.le_of_ble_eq_true rfl)
/-- The four rows of parts that awake makes, and the frame. -/
structure Aw (w w' : World) (g3 g4 : Nat) : Prop where
  b : Below w.heap.size w w'
  r0 : kPart.R 38 w' w.heap.size (fun _ => True) (.slice (some ⟨w.heap.size, 0, none⟩) 1 1) [pP0]
  c1 : kPart.C w' (some ⟨w.heap.size + 1, 0, none⟩) 1 [pP1]
  c3 : kPart.C w' (some ⟨g3, 0, none⟩) 1 [pP15]
  c4 : kPart.C w' (some ⟨g4, 0, none⟩) 1 [pP12]
  lt : w.heap.size < g4
theorem Aw.below {w w1 w2 : World} {g3 g4 : Nat} (h : Aw w w1 g3 g4) (hb : Below w1.heap.size w1 w2) : Aw w w2 g3 g4 :=
  ⟨below_s hb h.b, Kd.R_below h.r0 hb, Kd.C_below h.c1 hb, Kd.C_below h.c3 hb, Kd.C_below h.c4 hb, h.lt⟩
theorem Aw.c0 {w w1 : World} {g3 g4 : Nat} (h : Aw w w1 g3 g4) : kPart.C w1 (some ⟨w.heap.size, 0, none⟩) 1 [pP0] := (Kd.R_reads' h.r0).2.2
theorem part_grown {W W1 : World} {row : Option Nat} {g : Nat} {x : PartV} (h : kPart.C W (some ⟨g, 0, none⟩) 1 [x]) (hg : W.grownBy W1 row) (hne : some g ≠ row) : kPart.C W1 (some ⟨g, 0, none⟩) 1 [x] := by
  obtain ⟨h1, h2, h3⟩ := h
  refine ⟨h1, h2, fun hp => ?_⟩
  obtain ⟨ad, e, hc⟩ := h3 hp
  injection e with e
  subst e
  refine ⟨_, rfl, fun j p hj => ?_⟩
  obtain ⟨c, hcl, hK, hcell⟩ := hc j p hj
  refine ⟨c, hcl, by rw [kPart_open hK]; exact kPart_K W1 p, fun i u hu => ?_⟩
  have h9 := hcell i u hu
  rw [add_plain] at h9 ⊢
  exact cell_same (hg.block g (World.block_lt_of_cell? W _ h9) hne) h9
set_option maxRecDepth 100000 in
set_option maxHeartbeats 1000000 in
theorem lw_awake (w : World) : Calls Tryz.prog 15 #[] w fun e w' => e = .returned (.bool true) ∧ Below w.heap.size w w' := by
  have I15 := Lib.hid (fun w => rational_Int 15 w (by decide))
  have I12 := Lib.hid (fun w => rational_Int 12 w (by decide))
  have I30 := Lib.hid (fun w => rational_Int 30 w (by decide))
  have I20 := Lib.hid (fun w => rational_Int 20 w (by decide))
  have I10 := Lib.hid (fun w => rational_Int 10 w (by decide))
  have I40 := Lib.hid (fun w => rational_Int 40 w (by decide))
  have I35 := Lib.hid (fun w => rational_Int 35 w (by decide))
  have I60 := Lib.hid (fun w => rational_Int 60 w (by decide))
  simp only [QV] at I15 I12 I30 I20 I10 I40 I35 I60
  rw [show ((15 : Nat) : Rat) = 15 from rfl, show ((15 : Nat) : Int) = 15 from rfl] at I15
  rw [show ((12 : Nat) : Rat) = 12 from rfl, show ((12 : Nat) : Int) = 12 from rfl] at I12
  rw [show ((30 : Nat) : Rat) = 30 from rfl, show ((30 : Nat) : Int) = 30 from rfl] at I30
  rw [show ((20 : Nat) : Rat) = 20 from rfl, show ((20 : Nat) : Int) = 20 from rfl] at I20
  rw [show ((10 : Nat) : Rat) = 10 from rfl, show ((10 : Nat) : Int) = 10 from rfl] at I10
  rw [show ((40 : Nat) : Rat) = 40 from rfl, show ((40 : Nat) : Int) = 40 from rfl] at I40
  rw [show ((35 : Nat) : Rat) = 35 from rfl, show ((35 : Nat) : Int) = 35 from rfl] at I35
  rw [show ((60 : Nat) : Rat) = 60 from rfl, show ((60 : Nat) : Int) = 60 from rfl] at I60
  have T0 := Aside0.mk (fun w => two_is [] none 0 w (Kd.C_nil _ _) (Nat.le_refl _))
  have T2 := Aside0.mk (fun (w : World) (g : Nat) (x y : List PartV) (h : kTier.C w (some ⟨g, 0, none⟩) 2 [x, y]) => two_is [x, y] (some ⟨g, 0, none⟩) 2 w h (Nat.le_refl 2))
  have Q0 := Aside0.mk (fun {V : Value} (w : World) (h : IsE w V (twoG [])) => pays_is w h awake0)
  have Q1 := Aside0.mk (fun {V : Value} (w : World) (h : IsE w V (twoG [[pP1], [pP0]])) => pays_is w h awake1)
  have Q2 := Aside0.mk (fun {V : Value} (w : World) (h : IsE w V (twoG [[pP15], [pP0]])) => pays_is w h awake2)
  have Q3 := Aside0.mk (fun {V : Value} (w : World) (h : IsE w V (twoG [[pP15], [pP0]])) => pays_is w h awake3)
  have Q4 := Aside0.mk (fun {V : Value} (w : World) (h : IsE w V (twoG [[pP12], [pP0, pP1]])) => pays_is w h awake4)
  have RA := Lib.hid (fun w => law_Ratio 114 5 w (by decide) (by decide) (by decide))
  have RB := Lib.hid (fun w => law_Ratio 76 5 w (by decide) (by decide) (by decide))
  simp only [QV, RQ] at RA RB Q0 Q1 Q2 Q3 Q4
  rw [show ((114 : Nat) : Rat) / ((5 : Nat) : Rat) = 114 / 5 from rfl, show ((114 : Nat) : Int) = 114 from rfl, show ((5 : Nat) : Int) = 5 from rfl] at RA
  rw [show ((76 : Nat) : Rat) / ((5 : Nat) : Rat) = 76 / 5 from rfl, show ((76 : Nat) : Int) = 76 from rfl, show ((5 : Nat) : Int) = 5 from rfl] at RB
  rw [show ((50 : Nat) : Int) = 50 from rfl] at Q0 Q1 Q2 Q4
  rw [show ((95 : Nat) : Int) = 95 from rfl] at Q3
  have K0 := Aside0.mk (fun W => kPart_K W pP0)
  have M0 := Aside0.mk (fun W => kPart_mk W w.heap.size (fun _ => True) pP0)
  have K1 := Aside0.mk (fun W => kPart_K W pP1)
  have K3 := Aside0.mk (fun W => kPart_K W pP15)
  have K4 := Aside0.mk (fun W => kPart_K W pP12)
  have R0 := Aside0.mk (fun (W : World) (h : w.heap.size ≤ W.heap.size) => (show kPart.R 38 (W.alloc (.cells #[.int .i64 0, .bool false, .bool false, .string ⟨#[]⟩, .string ⟨#[]⟩] 38)) w.heap.size (fun _ => True) (.slice (some ⟨W.heap.size, 0, none⟩) 1 1) [pP0] from
    ⟨fun _ _ => trivial, OwnRow.lit W w.heap.size (ps := [pP0]) (inner := [.int .i64 0, .bool false, .bool false, .string ⟨#[]⟩, .string ⟨#[]⟩]) (Reps.snoc (Reps.none _ _) (kPart_mk _ _ _ pP0) rfl) h (Nat.le_of_ble_eq_true rfl)⟩))
  have C1 := Aside0.mk (fun (W : World) (g : Nat) (hb : W.heap[g]? = some (.cells #[.int .i64 1, .bool false, .bool false, .string ⟨#[]⟩, .string ⟨#[]⟩] 38)) => part1 (x := pP1) (cs := [.int .i64 1, .bool false, .bool false, .string ⟨#[]⟩, .string ⟨#[]⟩]) hb (kPart_K W pP1))
  have C3 := Aside0.mk (fun (W : World) (g : Nat) (hb : W.heap[g]? = some (.cells #[.int .i64 1, .bool true, .bool (canS 15), .string (canN 15), .string (canD 15)] 38)) => part1 (x := pP15) (cs := [.int .i64 1, .bool true, .bool (canS 15), .string (canN 15), .string (canD 15)]) hb (kPart_K W pP15))
  have C4 := Aside0.mk (fun (W : World) (g : Nat) (hb : W.heap[g]? = some (.cells #[.int .i64 (-1), .bool true, .bool (canS 12), .string (canN 12), .string (canD 12)] 38)) => part1 (x := pP12) (cs := [.int .i64 (-1), .bool true, .bool (canS 12), .string (canN 12), .string (canD 12)]) hb (kPart_K W pP12))
  clear K0 M0 K1 K3 K4
  generalize canS 15 = s15 at *
  generalize canN 15 = n15 at *
  generalize canD 15 = d15 at *
  generalize canS 12 = s12 at *
  generalize canN 12 = n12 at *
  generalize canD 12 = d12 at *
  generalize canS 30 = s30 at *
  generalize canN 30 = n30 at *
  generalize canD 30 = d30 at *
  generalize canS 20 = s20 at *
  generalize canN 20 = n20 at *
  generalize canD 20 = d20 at *
  generalize canS 10 = s10 at *
  generalize canN 10 = n10 at *
  generalize canD 10 = d10 at *
  generalize canS 40 = s40 at *
  generalize canN 40 = n40 at *
  generalize canD 40 = d40 at *
  generalize canS 35 = s35 at *
  generalize canN 35 = n35 at *
  generalize canD 35 = d35 at *
  generalize canS 60 = s60 at *
  generalize canN 60 = n60 at *
  generalize canD 60 = d60 at *
  generalize canS (114 / 5) = sA at *
  generalize canN (114 / 5) = nA at *
  generalize canD (114 / 5) = dA at *
  generalize canS (76 / 5) = sB at *
  generalize canN (76 / 5) = nB at *
  generalize canD (76 / 5) = dB at *
  have f0 := R0.out w (Nat.le_refl _)
  have b1 := below_alloc (Below.refl w.heap.size w) (.cells #[.int .i64 0, .bool false, .bool false, .string ⟨#[]⟩, .string ⟨#[]⟩] 38)
  have b2 := below_alloc (Below.refl (w.alloc (.cells #[.int .i64 0, .bool false, .bool false, .string ⟨#[]⟩, .string ⟨#[]⟩] 38)).heap.size (w.alloc (.cells #[.int .i64 0, .bool false, .bool false, .string ⟨#[]⟩, .string ⟨#[]⟩] 38))) (.cells #[.int .i64 1, .bool false, .bool false, .string ⟨#[]⟩, .string ⟨#[]⟩] 38)
  have hs := size_new w (.cells #[.int .i64 0, .bool false, .bool false, .string ⟨#[]⟩, .string ⟨#[]⟩] 38)
  have F1 := Lib.hid (heap_new (w.alloc (.cells #[.int .i64 0, .bool false, .bool false, .string ⟨#[]⟩, .string ⟨#[]⟩] 38)) (.cells #[.int .i64 1, .bool false, .bool false, .string ⟨#[]⟩, .string ⟨#[]⟩] 38))
  rw [hs] at F1
  have F0 := Aside0.mk (Kd.R_below f0 b2)
  have FB := Aside0.mk (below_s b2 b1)
  obtain ⟨wa, hwa⟩ : ∃ wa, wa = (w.alloc (.cells #[.int .i64 0, .bool false, .bool false, .string ⟨#[]⟩, .string ⟨#[]⟩] 38)).alloc (.cells #[.int .i64 1, .bool false, .bool false, .string ⟨#[]⟩, .string ⟨#[]⟩] 38) := ⟨_, rfl⟩
  rw [← hwa] at F0 F1 FB
  clear f0 b1 b2 hs
  go_enter Tryz.func15, Tryz.ntmps15
  go_wp2_with (fail)
  rw [← hwa]
  clear hwa
  refine (I15.out _).mono ?_
  rintro e w1 ⟨rfl, hb1⟩
  have G0 := Aside0.mk (Kd.R_below F0.out hb1)
  have G1 := Lib.hid (heap_b hb1 F1.out)
  have GB := Aside0.mk (below_s hb1 FB.out)
  clear hb1 F0 F1 FB
  go_wp2_with (fail)
  have H3 := Lib.hid (heap_new w1 (.cells #[.int .i64 1, .bool true, .bool s15, .string n15, .string d15] 38))
  have hal := below_alloc (Below.refl w1.heap.size w1) (.cells #[.int .i64 1, .bool true, .bool s15, .string n15, .string d15] 38)
  have H0 := Aside0.mk (Kd.R_below G0.out hal)
  have H1 := Lib.hid (heap_b hal G1.out)
  have HB := Aside0.mk (below_s hal GB.out)
  clear hal G0 G1 GB
  refine (I12.out _).mono ?_
  rintro e w2 ⟨rfl, hb2⟩
  have G0 := Aside0.mk (Kd.R_below H0.out hb2)
  have G1 := Lib.hid (heap_b hb2 H1.out)
  have G3 := Lib.hid (heap_b hb2 H3.out)
  have GB := Aside0.mk (below_s hb2 HB.out)
  clear hb2 H0 H1 H3 HB
  go_wp2_with (fail)
  have H4 := Lib.hid (heap_new w2 (.cells #[.int .i64 (-1), .bool true, .bool s12, .string n12, .string d12] 38))
  have hal := below_alloc (Below.refl w2.heap.size w2) (.cells #[.int .i64 (-1), .bool true, .bool s12, .string n12, .string d12] 38)
  have AW := Aside0.mk (show Aw w (w2.alloc (.cells #[.int .i64 (-1), .bool true, .bool s12, .string n12, .string d12] 38)) w1.heap.size w2.heap.size from ⟨below_s hal GB.out, Kd.R_below G0.out hal, C1.out _ _ (heap_b hal G1.out), C3.out _ _ (heap_b hal G3.out), C4.out _ _ H4.out, Nat.lt_trans (Nat.lt_succ_self _) (blk_lt G1.out)⟩)
  clear hal G0 G1 G3 GB H4 C1 C3 C4 R0
  obtain ⟨wq, hwq⟩ : ∃ wq, wq = w2.alloc (.cells #[.int .i64 (-1), .bool true, .bool s12, .string n12, .string d12] 38) := ⟨_, rfl⟩
  rw [← hwq] at AW
  rw [← hwq]
  clear hwq
  generalize w1.heap.size = g3 at *
  generalize w2.heap.size = g4 at *
  refine (T0.out _).mono ?_
  rintro e wi1 ⟨V1, rfl, hE, hb⟩
  replace AW := Aside0.mk (AW.out.below hb)
  have HE := Aside0.mk hE
  clear hb hE
  go_wp2_with (fail)
  refine (I30.out _).mono ?_
  rintro e wi2 ⟨rfl, hb⟩
  replace AW := Aside0.mk (AW.out.below hb)
  replace HE := Aside0.mk (HE.out.below hb)
  clear hb
  go_wp2_with (fail)
  refine (I20.out _).mono ?_
  rintro e wi3 ⟨rfl, hb⟩
  replace AW := Aside0.mk (AW.out.below hb)
  replace HE := Aside0.mk (HE.out.below hb)
  clear hb
  go_wp2_with (fail)
  refine (Q0.out _ HE.out).mono ?_
  rintro e wi4 ⟨rfl, hb⟩
  replace AW := Aside0.mk (AW.out.below hb)
  clear hb HE
  go_wp2_with (fail)
  have hal := below_alloc (Below.refl wi4.heap.size wi4) (.cells #[.slice (some ⟨w.heap.size + 1, 0, none⟩) 1 1, .slice (some ⟨w.heap.size, 0, none⟩) 1 1] 36)
  have hnw := heap_new wi4 (.cells #[.slice (some ⟨w.heap.size + 1, 0, none⟩) 1 1, .slice (some ⟨w.heap.size, 0, none⟩) 1 1] 36)
  replace AW := Aside0.mk (AW.out.below hal)
  have HT := Aside0.mk (tier2 hnw (AW.out.c1) (AW.out.c0) (by decide) (by decide))
  refine (T2.out _ _ _ _ HT.out).mono ?_
  rintro e wi5 ⟨V5, rfl, hE, hb⟩
  replace AW := Aside0.mk (AW.out.below hb)
  have HE := Aside0.mk hE
  clear hb hE hal hnw HT
  go_wp2_with (fail)
  refine (I10.out _).mono ?_
  rintro e wi6 ⟨rfl, hb⟩
  replace AW := Aside0.mk (AW.out.below hb)
  replace HE := Aside0.mk (HE.out.below hb)
  clear hb
  go_wp2_with (fail)
  refine (I40.out _).mono ?_
  rintro e wi7 ⟨rfl, hb⟩
  replace AW := Aside0.mk (AW.out.below hb)
  replace HE := Aside0.mk (HE.out.below hb)
  clear hb
  go_wp2_with (fail)
  refine (Q1.out _ HE.out).mono ?_
  rintro e wi8 ⟨rfl, hb⟩
  replace AW := Aside0.mk (AW.out.below hb)
  clear hb HE
  go_wp2_with (fail)
  have hal := below_alloc (Below.refl wi8.heap.size wi8) (.cells #[.slice (some ⟨g3, 0, none⟩) 1 1, .slice (some ⟨w.heap.size, 0, none⟩) 1 1] 36)
  have hnw := heap_new wi8 (.cells #[.slice (some ⟨g3, 0, none⟩) 1 1, .slice (some ⟨w.heap.size, 0, none⟩) 1 1] 36)
  replace AW := Aside0.mk (AW.out.below hal)
  have HT := Aside0.mk (tier2 hnw (AW.out.c3) (AW.out.c0) (by decide) (by decide))
  refine (T2.out _ _ _ _ HT.out).mono ?_
  rintro e wi9 ⟨V9, rfl, hE, hb⟩
  replace AW := Aside0.mk (AW.out.below hb)
  have HE := Aside0.mk hE
  clear hb hE hal hnw HT
  go_wp2_with (fail)
  refine (I35.out _).mono ?_
  rintro e wi10 ⟨rfl, hb⟩
  replace AW := Aside0.mk (AW.out.below hb)
  replace HE := Aside0.mk (HE.out.below hb)
  clear hb
  go_wp2_with (fail)
  refine (I15.out _).mono ?_
  rintro e wi11 ⟨rfl, hb⟩
  replace AW := Aside0.mk (AW.out.below hb)
  replace HE := Aside0.mk (HE.out.below hb)
  clear hb
  go_wp2_with (fail)
  refine (Q2.out _ HE.out).mono ?_
  rintro e wi12 ⟨rfl, hb⟩
  replace AW := Aside0.mk (AW.out.below hb)
  clear hb HE
  go_wp2_with (fail)
  have hal := below_alloc (Below.refl wi12.heap.size wi12) (.cells #[.slice (some ⟨g3, 0, none⟩) 1 1, .slice (some ⟨w.heap.size, 0, none⟩) 1 1] 36)
  have hnw := heap_new wi12 (.cells #[.slice (some ⟨g3, 0, none⟩) 1 1, .slice (some ⟨w.heap.size, 0, none⟩) 1 1] 36)
  replace AW := Aside0.mk (AW.out.below hal)
  have HT := Aside0.mk (tier2 hnw (AW.out.c3) (AW.out.c0) (by decide) (by decide))
  refine (T2.out _ _ _ _ HT.out).mono ?_
  rintro e wi13 ⟨V13, rfl, hE, hb⟩
  replace AW := Aside0.mk (AW.out.below hb)
  have HE := Aside0.mk hE
  clear hb hE hal hnw HT
  go_wp2_with (fail)
  refine (I60.out _).mono ?_
  rintro e wi14 ⟨rfl, hb⟩
  replace AW := Aside0.mk (AW.out.below hb)
  replace HE := Aside0.mk (HE.out.below hb)
  clear hb
  go_wp2_with (fail)
  refine (I35.out _).mono ?_
  rintro e wi15 ⟨rfl, hb⟩
  replace AW := Aside0.mk (AW.out.below hb)
  replace HE := Aside0.mk (HE.out.below hb)
  clear hb
  go_wp2_with (fail)
  refine (Q3.out _ HE.out).mono ?_
  rintro e wi16 ⟨rfl, hb⟩
  replace AW := Aside0.mk (AW.out.below hb)
  clear hb HE
  have hbw := AW.out.b.size
  have HR0 := Aside0.mk AW.out.r0
  have HN0 := Aside0.mk (show some g4 ≠ (Value.slice (some ⟨w.heap.size, 0, none⟩) 1 1).ownBlock from by have := AW.out.lt; simp [Value.ownBlock]; omega)
  generalize Value.slice (some ⟨w.heap.size, 0, none⟩) 1 1 = V0 at *
  go_wp2_with (at_builtin; go_loud (refine Kd.R_append_rows kPart (Rr := kPart.K wi16) w.heap.size rfl _ _ 36 38 _ 56 rfl Tryz.underlying36 infoPart rfl (by decide) (by decide) _ [pP0] [pP1] (some ⟨w.heap.size + 1, 0, none⟩) 1 1 (fun _ => True) (fun _ => False) (by rfl) (by rfl) HR0.out AW.out.c1 (fun x cs hK => by rw [kPart_open hK]; exact kPart_mk _ _ _ x) (fun _ hk => hk.elim) (fun _ _ => trivial) AW.out.b hbw (by decide) ?_); go_loud (intro v2 w9 hr2 hb2 hg2 _; obtain ⟨A9, c9, rfl, hc9, hC9⟩ : ∃ A c, v2 = .slice A 2 c ∧ 2 ≤ c ∧ kPart.C w9 A 2 [pP0, pP1] := Kd.R_reads hr2; have HA9 := Aside0.mk hC9; have HB9 := Aside0.mk hb2; have H49 := Aside0.mk (part_grown AW.out.c4 hg2 HN0.out); have hc9' := hc9; clear hr2 hb2 hg2 hC9 hc9))
  have hal := below_alloc (Below.refl w9.heap.size w9) (.cells #[.slice (some ⟨g4, 0, none⟩) 1 1, .slice A9 2 c9] 36)
  have hnw := heap_new w9 (.cells #[.slice (some ⟨g4, 0, none⟩) 1 1, .slice A9 2 c9] 36)
  have HT := Aside0.mk (tier2 hnw (Kd.C_below H49.out hal) (Kd.C_below HA9.out hal) (by decide) hc9')
  replace HB9 := Aside0.mk (below_s hal HB9.out)
  clear hal hnw H49 HA9 AW
  refine (T2.out _ _ _ _ HT.out).mono ?_
  rintro e wx1 ⟨V9, rfl, hE, hb⟩
  replace HB9 := Aside0.mk (below_s hb HB9.out)
  have HE := Aside0.mk hE
  clear hb hE HT
  go_wp2_with (fail)
  refine (RA.out _).mono ?_
  rintro e wx2 ⟨rfl, hb⟩
  replace HB9 := Aside0.mk (below_s hb HB9.out)
  replace HE := Aside0.mk (HE.out.below hb)
  clear hb
  go_wp2_with (fail)
  refine (RB.out _).mono ?_
  rintro e wx3 ⟨rfl, hb⟩
  replace HB9 := Aside0.mk (below_s hb HB9.out)
  replace HE := Aside0.mk (HE.out.below hb)
  clear hb
  go_wp2_with (fail)
  refine (Q4.out _ HE.out).mono ?_
  rintro e wx4 ⟨rfl, hb⟩
  replace HB9 := Aside0.mk (below_s hb HB9.out)
  clear hb HE
  go_wp2_with (fail)
  go_ret
  exact ⟨rfl, HB9.out⟩
end Go.Proofs.YtnimgfnknlkkdaaGreatDoor.H
set_option linter.unusedVariables false
set_option linter.unusedSimpArgs false
open Go
namespace Go.Proofs.YtnimgfnknlkkdaaGreatDoor.H
open Go Go.RowKit Go.Proofs.YtnimgfnknlkkdaaGreatDoorW.PrintWords Go.Proofs.YtnimgfnknlkkdaaGreatDoorW.PrintLast Go.Proofs.YtnimgfnknlkkdaaGreatDoorW.PrintMore Go.Proofs.YtnimgfnknlkkdaaGreatDoor.Num
/-! Law 17, WaterfallMany: words for its rows -/
section
variable {P : Program} {ops : Array Oper} {rest : List Oper} {o : Oper} {a : Act} {Q : Exit → Act → World → Prop} {α : Type}
/-- make of so many elements as a number of a small kind says. -/
theorem R_make8 (d : Kd α) {w0 W : World} (base e : Nat) (hgd : o.guard = none) {N : Tmp} (hd : o.dst = some N) (t : TypeId) (x y : Operand) (ho : o.op = .makeSlice t x y) (m : Nat) (hx : a.eval x = .int .u8 m) (hy : a.eval y = .int .u8 m)
    (ht : P.underlying t = some (.slice e)) (z : Value) (bytes : Nat) (hinfo : (P.info? e).map (fun i => (i.zero, i.size, i.bytes)) = some (some z, d.sz, bytes)) (hz : z.cells.size = d.sz) (hs0 : 0 < d.sz) (hb0 : 0 < bytes)
    (z0 : α) {ok okp : Nat → Prop} (hzero : d.M W base okp z0 z.cells.toList) (hok : ∀ k, okp k → ok k) (hfresh : ok W.heap.size) (hl : m * bytes ≤ 281474976710656) (HB : Below base w0 W) (hbase : base ≤ W.heap.size)
    (h : ∀ v1 w1, d.R e w1 base ok v1 (List.replicate m z0) → Below base w0 w1 → W.grownBy w1 none → (∃ b, v1.ownBlock = some b ∧ W.heap.size ≤ b) → wpList P ops Q rest (a.put o.dst v1) w1) : wpList P ops Q (o :: rest) a W := by
  obtain ⟨i0, hi, hzz⟩ := Option.map_eq_some_iff.1 hinfo
  simp only [Prod.mk.injEq] at hzz
  obtain ⟨hz0, hz1, hz2⟩ := hzz
  have hm : m ≤ 281474976710656 := Nat.le_trans (Nat.le_mul_of_pos_right _ hb0) hl
  have hr := run_make (P := P) W t e i0 z ht hi hz0 .u8 .u8 (m : Int) (m : Int) (by omega) (by omega)
    (by
      have h3 : ((i0.bytes * m : Nat) : Int) ≤ 281474976710656 := by rw [hz2, Nat.mul_comm]; omega
      rwa [Int.natCast_mul] at h3) (by omega)
  simp only [Int.toNat_natCast] at hr
  rw [hz1] at hr
  refine Kd.R_lit d base e hgd hd (xs := List.replicate m z0) (inner := (madeCells z.cells (m * d.sz)).toList) (okp := okp) (ok := ok) ?_ (Kd.reps_made hz hs0 hzero m) hok hfresh HB hbase (by simp; omega) h
  simp [execOp, ho, hx, hy, hr]
end
abbrev kV : Kd (List Value) := Kd.raw 1
theorem kV_mk (w : World) (base : Nat) (ok : Nat → Prop) {v : Value} (h : v.oneCell' = true) : kV.M w base ok [v] [v] := ⟨rfl, rfl, fun u hu => by rw [List.mem_singleton.1 hu]; exact h⟩
/-- A row that reads as raw cells, read by its kind. -/
theorem C_of_raw {α : Type} {d : Kd α} {w : World} {A : Option Addr} {n : Nat} (hsz : d.sz = 1) {xs : List α} {vs : List (List Value)} (h : kV.C w A n vs) (hl : xs.length = vs.length) (hK : ∀ (j : Nat) x v, xs[j]? = some x → vs[j]? = some v → v.length = 1 → d.K w x v) : d.C w A n xs := by
  obtain ⟨h1, h2, h3⟩ := h
  refine ⟨by rw [hl, h1], h2, fun hn => ?_⟩
  obtain ⟨ad, e, hc⟩ := h3 hn
  refine ⟨ad, e, fun j p hj => ?_⟩
  have hjl : j < vs.length := by rw [← hl]; exact (List.getElem?_eq_some_iff.1 hj).1
  obtain ⟨c, hcl, hR, hcell⟩ := hc j _ (List.getElem?_eq_getElem hjl)
  obtain ⟨e1, e2, _⟩ := hR
  refine ⟨c, by rw [hsz]; exact hcl, hK j p c hj (by rw [List.getElem?_eq_getElem hjl, e1]) hcl, ?_⟩
  rw [hsz]
  exact hcell
/-- The first element of a row of raw cells. -/
theorem raw_get {w : World} {e base g n cap : Nat} {ok : Nat → Prop} {xs : List (List Value)} (hR : kV.R e w base ok (.slice (some ⟨g, 0, none⟩) n cap) xs) {v : Value} {r : List (List Value)} (hx : xs = [v] :: r) : w.cell? ⟨g, 0, none⟩ = some v ∧ w.frozen? ⟨g, 0, none⟩ = false := by
  have hn := (Kd.R_reads' hR).1
  obtain ⟨c, hcl, hM, hcc, hff⟩ := Kd.R_elem hR [] (0 : Int) (by omega) (by rw [hn, hx, List.length_cons]; omega)
  obtain ⟨e1, _, _⟩ := hM
  rw [hx] at e1
  have e2 : c = [v] := e1
  subst e2
  exact ⟨hcc 0 _ rfl, hff 0⟩
theorem raw_put {w : World} {e base g n cap : Nat} {ok : Nat → Prop} {xs : List (List Value)} (hR : kV.R e w base ok (.slice (some ⟨g, 0, none⟩) n cap) xs) {v : Value} {r : List (List Value)} (hx : xs = [v] :: r) {y : Value} (hy : y.oneCell' = true) : kV.R e (w.setCell ⟨g, 0, none⟩ y) base ok (.slice (some ⟨g, 0, none⟩) n cap) ([y] :: r) := by
  have hn := (Kd.R_reads' hR).1
  obtain ⟨c, hcl, hM, hcc, hff⟩ := Kd.R_elem hR [] (0 : Int) (by omega) (by rw [hn, hx, List.length_cons]; omega)
  have h2 := (Kd.R_seg (seg := [y]) (j := 0) (x' := [y]) (okp := fun _ => False) hR (0 : Int) (by omega) (by rw [hn, hx, List.length_cons]; omega) hcl hcc (by show 0 + 1 ≤ 1; omega) (by
    rw [show c.drop (0 + [y].length) = [] from List.drop_eq_nil_of_le (by rw [hcl]; exact Nat.le_refl 1)]
    simpa using kV_mk w base _ hy) (fun _ hk => hk.elim)).1
  rw [hx] at h2
  exact h2
theorem infoClaimM : (Tryz.prog.info? 50).map (fun i => (i.zero, i.size, i.bytes)) = some (some (.agg #[.int .i64 0, .int .i64 0, .bool false, .string ⟨#[]⟩, .string ⟨#[]⟩]), 5, 56) := by kernel_rfl
theorem infoAgrM : (Tryz.prog.info? 35).map (fun i => (i.zero, i.size, i.bytes)) = some (some (.agg #[.slice none 0 0]), 1, 24) := by kernel_rfl
theorem infoPartsM : (Tryz.prog.info? 36).map (fun i => (i.zero, i.size, i.bytes)) = some (some (.slice none 0 0), 1, 24) := by kernel_rfl
theorem kClaim_M (w : World) (base : Nat) (ok : Nat → Prop) : kClaim.M w base ok zClaim [.int .i64 0, .int .i64 0, .bool false, .string ⟨#[]⟩, .string ⟨#[]⟩] :=
  ⟨[.int .i64 0], _, rfl, rfl, [.int .i64 0], _, rfl, rfl, kR3_mk w base ok zR⟩
end Go.Proofs.YtnimgfnknlkkdaaGreatDoor.H
set_option linter.unusedVariables false
set_option linter.unusedSimpArgs false
open Go
namespace Go.Proofs.YtnimgfnknlkkdaaGreatDoor.H
open Go Go.RowKit Go.Proofs.YtnimgfnknlkkdaaGreatDoorW.PrintWords Go.Proofs.YtnimgfnknlkkdaaGreatDoorW.PrintLast Go.Proofs.YtnimgfnknlkkdaaGreatDoorW.PrintMore Go.Proofs.YtnimgfnknlkkdaaGreatDoor.Num
/-! Law 17, WaterfallMany: what the estates are, and their code -/
theorem flat30 {α : Type} : ∀ (ts : List (List α)), (∀ k, k < ts.length → (rowAt ts k).length ≤ 30) → ts.flatten.length ≤ 30 * ts.length
  | [], _ => by simp
  | t :: ts, h => by
    have h0 := h 0 (by simp)
    have h1 := flat30 ts (fun k hk => h (k + 1) (by simp; omega))
    rw [List.flatten_cons, List.length_append, List.length_cons]
    have h2 : t.length ≤ 30 := h0
    omega
def rP : PartV := ⟨-1, true, zR⟩
def tierL (T K : Nat) : List (List PartV) := if T = 0 then [] else List.replicate K rP :: List.replicate (T - 1) []
def gsM (a T K : Nat) : List (List (List PartV)) := if a = 0 then [] else tierL T K :: List.replicate (a - 1) []
def longM (N a T K : Nat) : Bool := decide (24 < N ∨ 12 < a) || (decide (0 < a) && ((decide (0 < T) && decide (24 < K)) || decide (24 < T)))
theorem tierL_len (T K : Nat) : (tierL T K).length = T := by
  unfold tierL
  split
  · simp; omega
  · simp; omega
theorem gsM_len (a T K : Nat) : (gsM a T K).length = a := by
  unfold gsM
  split
  · simp; omega
  · simp; omega
theorem zR_sg : zR.sg = 0 := by decide +kernel
theorem part_rP (n : Nat) (tk : Int → Bool) : partErr n tk rP = 0 := by
  have h1 : rP.claim = -1 := rfl
  have h2 : rP.capped = true := rfl
  have h3 : rP.cap.sg = 0 := zR_sg
  simp [partErr, h1, h2, h3]
theorem agr_nil (n : Nat) (tk : Int → Bool) : agrErr n tk [] = 0 := by simp [agrErr, longB, firstErr]
theorem mem_tierL {T K : Nat} {l : List PartV} (h : l ∈ tierL T K) : 0 < T ∧ (l = List.replicate K rP ∨ l = []) := by
  unfold tierL at h
  split at h
  · cases h
  · rename_i hT
    refine ⟨by omega, ?_⟩
    rcases List.mem_cons.1 h with h | h
    · exact .inl h
    · exact .inr (List.eq_of_mem_replicate h)
theorem long_tierL (T K : Nat) : longB (tierL T K) = (decide (0 < T) && decide (24 < K)) := by
  unfold longB
  rw [Bool.eq_iff_iff]
  simp only [List.any_eq_true, decide_eq_true_eq, Bool.and_eq_true]
  constructor
  · rintro ⟨l, hl, h⟩
    obtain ⟨h1, h2 | h2⟩ := mem_tierL hl
    · rw [h2, List.length_replicate] at h
      exact ⟨h1, by simpa using h⟩
    · rw [h2] at h
      simp at h
  · rintro ⟨h1, h2⟩
    refine ⟨List.replicate K rP, ?_, by simpa using h2⟩
    rw [tierL, if_neg (by omega)]
    exact List.mem_cons_self
theorem agr_tierL (n T K : Nat) (tk : Int → Bool) : agrErr n tk (tierL T K) = if ((decide (0 < T) && decide (24 < K)) || decide (24 < T)) then 2 else 0 := by
  rw [agrErr, tierL_len, long_tierL]
  by_cases h1 : 24 < T
  · rw [if_pos h1, decide_eq_true h1]
    simp
  · rw [if_neg h1, decide_eq_false h1, Bool.or_false]
    by_cases h2 : (decide (0 < T) && decide (24 < K)) = true
    · rw [if_pos h2, if_pos h2]
    · rw [if_neg h2, if_neg h2]
      refine firstErr_zero fun x hx => ?_
      obtain ⟨q, hq, rfl⟩ := List.mem_map.1 hx
      obtain ⟨l, hl, hql⟩ := List.mem_flatten.1 hq
      obtain ⟨_, h3 | h3⟩ := mem_tierL hl
      · rw [h3] at hql
        rw [List.eq_of_mem_replicate hql]
        exact part_rP _ _
      · rw [h3] at hql
        cases hql
theorem row_gsM (m T K : Nat) (k : Nat) : rowAt (gsM (m + 1) T K) k = if k = 0 then tierL T K else [] := by
  rw [gsM, if_neg (by omega), rowAt]
  rcases k with _ | k
  · rfl
  · rw [if_neg (Nat.succ_ne_zero k)]
    simp only [List.getD_eq_getElem?_getD, List.getElem?_cons_succ, List.getElem?_replicate]
    split <;> rfl
theorem est_agr (n m T K : Nat) : firstErr ((List.range (gsM (m + 1) T K).length).map (fun k => agrErr n (takenB (gsM (m + 1) T K) k) (rowAt (gsM (m + 1) T K) k))) = if ((decide (0 < T) && decide (24 < K)) || decide (24 < T)) then 2 else 0 := by
  rw [gsM_len, List.range_succ_eq_map, List.map_cons, firstErr]
  rw [row_gsM, if_pos rfl, agr_tierL]
  have hz : firstErr (List.map (fun k => agrErr n (takenB (gsM (m + 1) T K) k) (rowAt (gsM (m + 1) T K) k)) (List.map Nat.succ (List.range m))) = 0 := by
    refine firstErr_zero fun x hx => ?_
    obtain ⟨k, hk, rfl⟩ := List.mem_map.1 hx
    obtain ⟨l, hl, rfl⟩ := List.mem_map.1 hk
    rw [row_gsM, if_neg (by omega)]
    exact agr_nil _ _
  rw [hz]
  generalize ((decide (0 < T) && decide (24 < K)) || decide (24 < T)) = b
  cases b <;> simp
theorem estM (N a T K : Nat) : estErr zR (List.replicate N zClaim) (gsM a T K) = if longM N a T K then 2 else 0 := by
  rw [estErr, List.length_replicate, gsM_len]
  by_cases h1 : 24 < N ∨ 12 < a
  · rw [if_pos h1]
    simp [longM, h1]
  · rw [if_neg h1, zR_sg, if_neg (by decide)]
    have hc : firstErr ((List.replicate N zClaim).map claimErr) = 0 := firstErr_zero fun x hx => by
      obtain ⟨c, hc, rfl⟩ := List.mem_map.1 hx
      rw [List.eq_of_mem_replicate hc]
      decide +kernel
    rw [hc, if_neg (by simp)]
    rw [longM, decide_eq_false h1, Bool.false_or]
    rcases a with _ | m
    · rfl
    · have h9 := est_agr N m T K
      rw [gsM_len] at h9
      rw [h9]
      simp
theorem shortM (N a T K : Nat) (hT : T < 30) (hK : K < 30) : ShortE zR (List.replicate N zClaim) (gsM a T K) := by
  refine ⟨by decide +kernel, fun c hc => by rw [List.eq_of_mem_replicate hc]; decide +kernel, fun g hg => ?_⟩
  have hgm : g = tierL T K ∨ g = [] := by
    unfold gsM at hg
    split at hg
    · cases hg
    · rcases List.mem_cons.1 hg with h | h
      · exact .inl h
      · exact .inr (List.eq_of_mem_replicate h)
  rcases hgm with rfl | rfl
  · refine ⟨?_, fun q hq => ?_⟩
    · have h1 := flat30 (tierL T K) (fun k hk => by
        have h2 := rowAt_mem hk
        obtain ⟨_, h3 | h3⟩ := mem_tierL h2
        · rw [h3, List.length_replicate]; omega
        · rw [h3]; simp)
      rw [tierL_len] at h1
      omega
    · obtain ⟨l, hl, hql⟩ := List.mem_flatten.1 hq
      obtain ⟨_, h3 | h3⟩ := mem_tierL hl
      · rw [h3] at hql
        rw [List.eq_of_mem_replicate hql]
        decide +kernel
      · rw [h3] at hql
        cases hql
  · exact ⟨by simp, fun q hq => by cases hq⟩
end Go.Proofs.YtnimgfnknlkkdaaGreatDoor.H
set_option linter.unusedVariables false
set_option linter.unusedSimpArgs false
open Go
namespace Go.Proofs.YtnimgfnknlkkdaaGreatDoor.H
open Go Go.RowKit Go.Proofs.YtnimgfnknlkkdaaGreatDoorW.PrintWords Go.Proofs.YtnimgfnknlkkdaaGreatDoorW.PrintLast Go.Proofs.YtnimgfnknlkkdaaGreatDoorW.PrintMore Go.Proofs.YtnimgfnknlkkdaaGreatDoor.Num
attribute [local go_sem] hideOp
/-! Law 17: WaterfallMany -/
def nilV : List Value := [.slice none 0 0]
theorem nil_K {α : Type} (e : Nat) (d : Kd α) (w : World) : (Kd.slice e d).K w [] nilV := ⟨none, 0, rfl, Nat.le_refl _, Kd.C_nil _ _⟩
theorem row_K {α : Type} {e t b : Nat} {d : Kd α} {w : World} {ok : Nat → Prop} {v : Value} {xs : List α} (h : d.R t w b ok v xs) : (Kd.slice e d).K w xs [v] := by
  obtain ⟨A, c, rfl, hc, hC⟩ := Kd.R_reads h
  exact ⟨A, c, rfl, hc, hC⟩
/-- A row of rows, the first of which alone holds anything. -/
theorem first_C {α : Type} {e e2 b : Nat} {d : Kd α} {w : World} {ok : Nat → Prop} {A : Option Addr} {n c : Nat} {v : Value} {x : List α} {m : Nat} (h : kV.R e2 w b ok (.slice A n c) ([v] :: List.replicate m nilV)) (hx : (Kd.slice e d).K w x [v]) : (Kd.slice e d).C w A n (x :: List.replicate m []) := by
  obtain ⟨hn, hc, hC⟩ := Kd.R_reads' h
  rw [hn]
  have h9 := C_of_raw (d := Kd.slice e d) (xs := x :: List.replicate m []) rfl hC (by simp) (fun j y u hy hu _ => by
    rcases j with _ | j
    · simp at hy hu
      subst hy hu
      exact hx
    · simp only [List.getElem?_cons_succ, List.getElem?_replicate] at hy hu
      split at hy
      · rename_i hj
        rw [if_pos hj] at hu
        injection hy with hy
        injection hu with hu
        subst hy hu
        exact nil_K e d w
      · cases hy)
  simpa using h9
theorem rows_ne {α β : Type} {d1 : Kd α} {d2 : Kd β} {f1 f2 b1 b2 : Nat} {w : World} {ok1 ok2 : Nat → Prop} {v1 v2 : Value} {xs : List α} {ys : List β} (h1 : d1.R f1 w b1 ok1 v1 xs) (h2 : d2.R f2 w b2 ok2 v2 ys) (he : f1 ≠ f2) : ∀ k, v1.ownBlock = some k → some k ≠ v2.ownBlock := fun k hk e => by
  obtain ⟨c1, g1⟩ := Kd.R_typed h1 k hk
  obtain ⟨c2, g2⟩ := Kd.R_typed h2 k e.symm
  rw [g1] at g2
  injection g2 with g2
  injection g2 with _ g3 _
  exact he g3
theorem R_gr {α : Type} {d : Kd α} {f b : Nat} {w w1 : World} {ok : Nat → Prop} {v : Value} {xs : List α} {row : Option Nat} (hE : d.E = []) (h : d.R f w b ok v xs) (hg : w.grownBy w1 row) (hne : ∀ k, v.ownBlock = some k → some k ≠ row) : d.R f w1 b (fun _ => True) v xs :=
  Kd.R_mono (Kd.R_grown (Kd.R_tight hE h) hg (fun k hk => hne k hk.symm)) (fun _ _ => trivial)
set_option maxRecDepth 100000 in
set_option maxHeartbeats 1000000 in
theorem lw_Many (n ag t p : Nat) (hn : n < 256) (ha : ag < 256) (ht : t < 256) (hp : p < 256) (w : World) :
    Calls Tryz.prog 4 #[.int .u8 n, .int .u8 ag, .int .u8 t, .int .u8 p] w fun e w' => e = .returned (.bool true) ∧ Below w.heap.size w w' := by
  have e1 : (n : Int) % 30 = ((n % 30 : Nat) : Int) := by omega
  have e2 : (ag : Int) % 16 = ((ag % 16 : Nat) : Int) := by omega
  have e3 : (t : Int) % 30 = ((t % 30 : Nat) : Int) := by omega
  have e4 : (p : Int) % 30 = ((p % 30 : Nat) : Int) := by omega
  have l1 : n % 30 < 30 := Nat.mod_lt _ (by decide)
  have l2 : ag % 16 < 16 := Nat.mod_lt _ (by decide)
  have l3 : t % 30 < 30 := Nat.mod_lt _ (by decide)
  have l4 : p % 30 < 30 := Nat.mod_lt _ (by decide)
  generalize n % 30 = N at *
  generalize ag % 16 = a at *
  generalize t % 30 = T at *
  generalize p % 30 = K at *
  have w1 : IntKind.i64.wrap (a : Int) = a := by rw [IntKind.wrap_i64]; omega
  have w2 : IntKind.i64.wrap (T : Int) = T := by rw [IntKind.wrap_i64]; omega
  have w3 : IntKind.i64.wrap (K : Int) = K := by rw [IntKind.wrap_i64]; omega
  have u1 : IntKind.u8.wrap (N : Int) = N := by rw [IntKind.wrap_u8]; omega
  have u2 : IntKind.u8.wrap (a : Int) = a := by rw [IntKind.wrap_u8]; omega
  have u3 : IntKind.u8.wrap (T : Int) = T := by rw [IntKind.wrap_u8]; omega
  have u4 : IntKind.u8.wrap (K : Int) = K := by rw [IntKind.wrap_u8]; omega
  have E1 := Lib.hid e1
  have HB := Aside0.mk (Below.refl w.heap.size w)
  go_enter Tryz.func4, Tryz.ntmps4
  go_wp2_with (at_make; refine R_make8 kClaim w.heap.size 50 rfl (N := 17) rfl 24 _ _ rfl N (congrArg (Value.int .u8) E1.out) (congrArg (Value.int .u8) E1.out) Tryz.underlying24 _ 56 infoClaimM rfl (by decide) (by decide) zClaim (ok := fun _ => True) (okp := fun _ => False) (kClaim_M _ _ _) (fun _ hk => hk.elim) trivial (by omega) HB.out (Nat.le_refl _) ?_; intro v3 w3 ho3 hb3 hg3 hat3; obtain ⟨A3, c3, rfl⟩ : ∃ A c, v3 = .slice A N c := (by obtain ⟨A, c, h⟩ := Kd.R_slice ho3; exact ⟨A, c, by rw [h, List.length_replicate]⟩); have HO3 := Aside0.mk ho3; have HB3 := Aside0.mk hb3; clear ho3 hb3 hg3 hat3)
  have N9 := Lib.hid (heap_new w3 (.cells #[.bool false, .string ⟨#[]⟩, .string ⟨#[]⟩, .slice A3 N c3, .slice none 0 0] 27))
  have hal := below_alloc (Below.refl w3.heap.size w3) (.cells #[.bool false, .string ⟨#[]⟩, .string ⟨#[]⟩, .slice A3 N c3, .slice none 0 0] 27)
  have HCL := Aside0.mk (Kd.R_below HO3.out hal)
  have HBB := Aside0.mk (below_s hal HB3.out)
  have hg3 := Lib.hid HB3.out.size
  obtain ⟨we, hwe⟩ : ∃ we, we = w3.alloc (.cells #[.bool false, .string ⟨#[]⟩, .string ⟨#[]⟩, .slice A3 N c3, .slice none 0 0] 27) := ⟨_, rfl⟩
  rw [← hwe] at N9 HCL HBB
  rw [← hwe]
  clear hwe hal HO3 HB3 E1
  generalize w3.heap.size = g at *
  go_loopw [10] (fun v10 w' => ∃ (i : Nat) (u : Value), i ≤ a ∧ v10 = .int .i64 i ∧ Aside0 (w'.heap[g]? = some (.cells #[.bool false, .string ⟨#[]⟩, .string ⟨#[]⟩, .slice A3 N c3, u] 27)) ∧ Aside0 (kV.R 35 w' w.heap.size (fun _ => True) u (List.replicate i nilV)) ∧ Aside0 (kClaim.R 50 w' w.heap.size (fun _ => True) (.slice A3 N c3) (List.replicate N zClaim)) ∧ Aside0 (Below w.heap.size w w')) (fun v10 _ => a - (intOf v10).toNat)
  case atStart => exact ⟨0, _, Nat.zero_le _, rfl, ⟨N9.out⟩, ⟨Kd.R_nil _ _ _ _ _⟩, HCL, HBB⟩
  case round =>
    clear N9 HCL HBB
    obtain ⟨i, u, hi, rfl, hE, hU, hC, hB⟩ := hrel
    rcases Nat.lt_or_ge i a with hlt | hge
    · have hp1 : (i : Int) < (a : Int) := by omega
      obtain ⟨Au, cu, rfl⟩ : ∃ A c, u = .slice A i c := (by obtain ⟨A, c, h⟩ := Kd.R_slice hU.out; exact ⟨A, c, by rw [h, List.length_replicate]⟩)
      have x4 := blk_cell hE.out 4
      have hbw := hB.out.size
      have HNE := Aside0.mk (Kd.R_ne hU.out hE.out (by decide))
      have HCN := Aside0.mk (rows_ne hC.out hU.out (by decide))
      have HEE := Lib.hid hE.out
      have HMV := Aside0.mk (fun W => kV_mk W w.heap.size (fun _ => False) (v := .slice none 0 0) rfl)
      have HBW := Aside0.mk hB.out
      clear hE hB
      go_wp2_with (at_builtin; refine Kd.R_append kV w.heap.size rfl _ _ 25 35 _ 24 rfl Tryz.underlying25 infoAgrM rfl (by decide) (by decide) (.slice Au i cu) (List.replicate i nilV) nilV [.slice none 0 0] (fun _ => True) (fun _ => False) (by rfl) (by rfl) (HMV.out _) (fun _ hk => hk.elim) (fun _ _ => trivial) hU.out HBW.out hbw (by rw [List.length_replicate]; omega) ?_; intro v4 w4 ho4 hb4 hg4 hat4; obtain ⟨A4, c4, rfl⟩ : ∃ A c, v4 = .slice A (i + 1) c := (by obtain ⟨A, c, h⟩ := Kd.R_slice ho4; exact ⟨A, c, by rw [h, List.length_append, List.length_replicate]; rfl⟩); have Q1 := Lib.hid ((hg4.block g (blk_lt HEE.out) HNE.out).trans HEE.out); have Q2 := Aside0.mk (R_gr rfl hC.out hg4 HCN.out); have Q3 := Aside0.mk ho4; have Q4 := Aside0.mk hb4; have y4 := blk_cell Q1.out 4; have z4 := blk_frozen Q1.out 4; clear ho4 hb4 hg4 hat4)
      go_roundw
      case measure => simp [intOf]; omega
      case rel =>
        refine ⟨i + 1, _, hlt, by go_num, ⟨(blk_set Q1.out 4 _).trans rfl⟩, ⟨?_⟩, ⟨Kd.R_set Q2.out Q1.out (fun q hq => by have h : q ∈ ([50] : List Nat) := hq; revert h; simp; omega) 4 _⟩, ⟨below_set Q4.out hg3.out⟩⟩
        rw [List.replicate_succ']
        exact Kd.R_set Q3.out Q1.out (fun q hq => by have h : q ∈ ([35] : List Nat) := hq; revert h; simp; omega) 4 _
    · obtain rfl : a = i := by omega
      obtain ⟨Au, cu, rfl⟩ : ∃ A c, u = .slice A a c := (by obtain ⟨A, c, h⟩ := Kd.R_slice hU.out; exact ⟨A, c, by rw [h, List.length_replicate]⟩)
      have x3 := blk_cell hE.out 3
      have x4 := blk_cell hE.out 4
      obtain ⟨L1, hL1⟩ : ∃ b, b = decide (24 < N ∨ 12 < a) := ⟨_, rfl⟩
      have HL1 := Lib.hid hL1
      have HE := Lib.hid hE.out
      clear hE hL1
      go_upto_region 6 with (fail)
      go_cut [11] (fun v11 wc => v11 = .bool L1 ∧ wc = wr)
      case first =>
        by_cases h24 : 24 < N
        · have g1 : (24 : Int) < (N : Int) := by omega
          have HD := Lib.hid (show L1 = true by rw [HL1.out]; exact decide_eq_true (.inl h24))
          go_wp2_with (fail)
          go_meet
          case rel => exact ⟨by rw [HD.out], rfl⟩
        · have g1 : ¬ (24 : Int) < (N : Int) := by omega
          by_cases h12 : 12 < a
          · have g2 : (12 : Int) < (a : Int) := by omega
            have HD := Lib.hid (show L1 = true by rw [HL1.out]; exact decide_eq_true (.inr h12))
            go_wp2_with (fail)
            go_meet
            case rel => exact ⟨by rw [HD.out], rfl⟩
          · have g2 : ¬ (12 : Int) < (a : Int) := by omega
            have HD := Lib.hid (show L1 = false by rw [HL1.out]; exact decide_eq_false (by omega))
            go_wp2_with (fail)
            go_meet
            case rel => exact ⟨by rw [HD.out], rfl⟩
      case rest =>
      obtain ⟨rfl, hwq⟩ := hcut
      rw [← hwq] at HE x3 x4 hU hC hB
      clear hwq
      obtain ⟨wa, hwa⟩ : ∃ wa, wa = wc := ⟨_, rfl⟩
      subst hwa
      go_upto_region 7 with (fail)
      go_cut [45] (fun v45 wc => v45 = .bool (decide (0 < a)) ∧ wc = wa)
      case first =>
        by_cases h0 : 0 < a
        · have g1 : (0 : Int) < (a : Int) := by omega
          have HD := Lib.hid (show decide (0 < a) = true from decide_eq_true h0)
          go_wp2_with (fail)
          go_meet
          case rel => exact ⟨by rw [HD.out], rfl⟩
        · have g1 : ¬ (0 : Int) < (a : Int) := by omega
          have HD := Lib.hid (show decide (0 < a) = false from decide_eq_false h0)
          go_wp2_with (fail)
          go_meet
          case rel => exact ⟨by rw [HD.out], rfl⟩
      case rest =>
      obtain ⟨rfl, hwq⟩ := hcut
      rw [← hwq] at HE x3 x4 hU hC hB
      clear hwq
      obtain ⟨wb, hwb⟩ : ∃ wb, wb = wc := ⟨_, rfl⟩
      subst hwb
      go_upto_if 45 with (fail)
      go_cut [11] (fun v11 wc => ∃ (A4 : Option Addr) (c4 : Nat), v11 = .bool (longM N a T K) ∧ Aside0 (wc.heap[g]? = some (.cells #[.bool false, .string ⟨#[]⟩, .string ⟨#[]⟩, .slice A3 N c3, .slice A4 a c4] 27)) ∧ Aside0 (a ≤ c4) ∧ Aside0 ((Kd.slice 36 kTier).C wc A4 a (gsM a T K)) ∧ Aside0 (kClaim.R 50 wc w.heap.size (fun _ => True) (.slice A3 N c3) (List.replicate N zClaim)) ∧ Aside0 (Below w.heap.size w wc))
      case first =>
        rcases Nat.eq_zero_or_pos a with h0 | h0
        · rw [decide_eq_false (by omega : ¬ 0 < a)]
          have HL := Lib.hid (show L1 = longM N a T K by rw [HL1.out, h0]; simp [longM])
          have HG := Aside0.mk (show (Kd.slice 36 kTier).C wb Au a (gsM a T K) from ⟨gsM_len a T K, by omega, fun h => by omega⟩)
          clear h0
          go_wp2_with (fail)
          go_meet
          case rel => exact ⟨Au, cu, by rw [HL.out], ⟨HE.out⟩, ⟨(Kd.R_reads' hU.out).2.1 |> fun h => by rw [(Kd.R_reads' hU.out).1]; rw [(Kd.R_reads' hU.out).1] at h; exact h⟩, HG, hC, hB⟩
        · rw [decide_eq_true h0]
          obtain ⟨g1, cap, hv, hg1, hg2, -⟩ := Kd.R_form hU.out (by rw [List.length_replicate]; omega)
          injection hv with hv1 hv2 hv3
          subst hv1
          clear hv2 hv3
          have hgg := Aside0.mk (show g ≠ g1 from fun e => by
            have h9 := Kd.R_ne hU.out HE.out (by decide)
            rw [e] at h9
            exact h9 (by simp [Value.ownBlock]))
          have hcu := (Kd.R_reads' hU.out).2.1
          have HU := Aside0.mk (show kV.R 35 wb w.heap.size (fun _ => True) (.slice (some ⟨g1, 0, none⟩) a cu) ([.slice none 0 0] :: List.replicate (a - 1) nilV) by
            have h9 := hU.out
            rw [show a = (a - 1) + 1 by omega, List.replicate_succ] at h9
            rw [show a - 1 + 1 = a by omega] at h9
            exact h9)
          have HBW := Aside0.mk hB.out
          have HCC := Aside0.mk hC.out
          have hwg1 := Lib.hid hg1
          clear hU hB hC hg1 hg2 x3 x4
          have hp0 : (0 : Int) < (a : Int) := by omega
          go_wp2
          go_loopw [12] (fun v12 w' => ∃ (i : Nat) (v2 : Value), i ≤ T ∧ v12 = .int .i64 i ∧ Aside0 (w'.heap[g]? = some (.cells #[.bool false, .string ⟨#[]⟩, .string ⟨#[]⟩, .slice A3 N c3, .slice (some ⟨g1, 0, none⟩) a cu] 27)) ∧ Aside0 (kV.R 35 w' w.heap.size (fun _ => True) (.slice (some ⟨g1, 0, none⟩) a cu) ([v2] :: List.replicate (a - 1) nilV)) ∧ Aside0 (kV.R 36 w' w.heap.size (fun _ => True) v2 (List.replicate i nilV)) ∧ Aside0 (kClaim.R 50 w' w.heap.size (fun _ => True) (.slice A3 N c3) (List.replicate N zClaim)) ∧ Aside0 (Below w.heap.size w w')) (fun v12 _ => T - (intOf v12).toNat)
          case atStart => exact ⟨0, _, Nat.zero_le _, rfl, ⟨HE.out⟩, HU, ⟨Kd.R_nil _ _ _ _ _⟩, HCC, HBW⟩
          case round =>
            clear HE HU HCC HBW
            obtain ⟨i, v2, hi, rfl, hE, hU, hV, hC, hB⟩ := hrel
            rcases Nat.lt_or_ge i T with hlt2 | hge2
            · have hp2 : (i : Int) < (T : Int) := by omega
              obtain ⟨A2, c2, rfl⟩ : ∃ A c, v2 = .slice A i c := (by obtain ⟨A, c, h⟩ := Kd.R_slice hV.out; exact ⟨A, c, by rw [h, List.length_replicate]⟩)
              have HMV := Aside0.mk (fun W => kV_mk W w.heap.size (fun _ => False) (v := .slice none 0 0) rfl)
              have S0 := Lib.hid (blk_cell hE.out 4)
              have c0d : wr.drew.cell? ⟨g1, 0, none⟩ = _ := (raw_get hU.out rfl).1
              have c0e : (wr.alloc (.cells #[.slice none 0 0] 36)).drew.cell? ⟨g1, 0, none⟩ = _ := pw_cell_below (below_alloc (Below.refl _ _) _) (raw_get hU.out rfl).1
              have HNE := Aside0.mk (Kd.R_ne hV.out hE.out (by decide))
              have HUN := Aside0.mk (rows_ne hU.out hV.out (by decide))
              have HCN := Aside0.mk (rows_ne hC.out hV.out (by decide))
              have hbw := hB.out.size
              have HEE := Lib.hid hE.out
              clear hE
              have hgg2 := hgg.out.symm
              go_wp2_with (fail)
              conv => enter [2, 2, 1, 2, 2, 2, 2, 2, 2, 1]; change hideOp _
              go_region_held3 (fun w' => w'.cell? ⟨g, 4, none⟩ = some (.slice (some ⟨g1, 0, none⟩) a cu))
                (first | exact pw_cell_below (pw_below_drewN (Below.refl _ _) 1) S0.out | exact pw_cell_below (below_alloc (pw_below_drewN (Below.refl _ _) 1) _) S0.out | exact blk_cell F1.out 4 | exact (by rw [World.cell?_setCell_far _ _ _ _ hgg2]; exact blk_cell F1.out 4))
                (first | (refine Kd.R_append_step kV w.heap.size (by rfl) _ _ 33 36 _ 24 (by rfl) Tryz.underlying33 infoPartsM rfl (by decide) (by decide) (.slice A2 i c2) (List.replicate i nilV) nilV [.slice none 0 0] (fun _ => True) (fun _ => False) (by rfl) (by rfl) (HMV.out _) (fun _ hk => hk.elim) (fun _ _ => trivial) (Kd.R_drew hV.out) (below_drew hB.out) hbw (by rw [List.length_replicate]; omega) ?_; intro v4 w4 ho4 hb4 hg4 hat4; obtain ⟨A4, c4, rfl⟩ : ∃ A c, v4 = .slice A (i + 1) c := (by obtain ⟨A, c, h⟩ := Kd.R_slice ho4; exact ⟨A, c, by rw [h, List.length_append, List.length_replicate]; rfl⟩); have F1 := Lib.hid ((hg4.block g (blk_lt HEE.out) HNE.out).trans HEE.out); have F2 := Aside0.mk (R_gr rfl (Kd.R_drew hU.out) hg4 HUN.out); have F3 := Aside0.mk (R_gr rfl (Kd.R_drew hC.out) hg4 HCN.out); have F4 := Aside0.mk ho4; have F5 := Aside0.mk hb4; obtain ⟨q0, q1⟩ := raw_get F2.out rfl; clear ho4 hb4 hg4 hat4))
              all_goals
                go_wp2_with (fail)
                go_roundw
                case measure => simp [intOf]; omega
                case rel =>
                  obtain ⟨cells, hct⟩ := Kd.R_typed F2.out g1 (by simp [Value.ownBlock])
                  refine ⟨i + 1, _, hlt2, by go_num, ⟨?_⟩, ⟨raw_put F2.out rfl rfl⟩, ⟨?_⟩, ⟨Kd.R_set F3.out hct (fun q hq => by have h : q ∈ ([50] : List Nat) := hq; revert h; simp; omega) 0 _⟩, ⟨below_set F5.out hwg1.out⟩⟩
                  · rw [heap_far _ hgg.out]
                    exact F1.out
                  · rw [List.replicate_succ']
                    exact Kd.R_set F4.out hct (fun q hq => by have h : q ∈ ([36] : List Nat) := hq; revert h; simp; omega) 0 _
            · obtain rfl : T = i := by omega
              obtain ⟨A2, c2, rfl⟩ : ∃ A c, v2 = .slice A T c := (by obtain ⟨A, c, h⟩ := Kd.R_slice hV.out; exact ⟨A, c, by rw [h, List.length_replicate]⟩)
              have HL0 := Lib.hid (show longM N a T K = ((L1 || (decide (0 < T) && decide (24 < K))) || decide (24 < T)) by rw [HL1.out, longM, decide_eq_true h0, Bool.true_and, Bool.or_assoc])
              go_upto_region 12 with (fail)
              go_cut [66] (fun v66 wc => v66 = .bool (decide (0 < T)) ∧ wc = wr)
              case first =>
                by_cases hT0 : 0 < T
                · have g3 : (0 : Int) < (T : Int) := by omega
                  have HD := Lib.hid (show decide (0 < T) = true from decide_eq_true hT0)
                  go_wp2_with (fail)
                  go_meet
                  case rel => exact ⟨by rw [HD.out], rfl⟩
                · have g3 : ¬ (0 : Int) < (T : Int) := by omega
                  have HD := Lib.hid (show decide (0 < T) = false from decide_eq_false hT0)
                  go_wp2_with (fail)
                  go_meet
                  case rel => exact ⟨by rw [HD.out], rfl⟩
              case rest =>
              obtain ⟨rfl, hwq⟩ := hcut
              rw [← hwq] at hE hU hV hC hB
              clear hwq
              obtain ⟨wd, hwd⟩ : ∃ wd, wd = wc := ⟨_, rfl⟩
              subst hwd
              go_upto_if 66 with (fail)
              go_cut [11] (fun v11 wc => ∃ v2 : Value, v11 = .bool (L1 || (decide (0 < T) && decide (24 < K))) ∧ Aside0 (wc.heap[g]? = some (.cells #[.bool false, .string ⟨#[]⟩, .string ⟨#[]⟩, .slice A3 N c3, .slice (some ⟨g1, 0, none⟩) a cu] 27)) ∧ Aside0 (kV.R 35 wc w.heap.size (fun _ => True) (.slice (some ⟨g1, 0, none⟩) a cu) ([v2] :: List.replicate (a - 1) nilV)) ∧ Aside0 ((Kd.slice 36 kTier).K wc (tierL T K) [v2]) ∧ Aside0 (kClaim.R 50 wc w.heap.size (fun _ => True) (.slice A3 N c3) (List.replicate N zClaim)) ∧ Aside0 (Below w.heap.size w wc))
              case first =>
                rcases Nat.eq_zero_or_pos T with hT0 | hT0
                · rw [decide_eq_false (by omega : ¬ 0 < T)]
                  have HK := Aside0.mk (show (Kd.slice 36 kTier).K wd (tierL T K) [.slice A2 T c2] from ⟨A2, c2, by rw [tierL_len], by rw [tierL_len]; omega, rfl, by rw [tierL_len]; omega, fun h => by rw [tierL_len] at h; omega⟩)
                  have HLT := Lib.hid (show (L1 || (decide (0 < T) && decide (24 < K))) = L1 by rw [decide_eq_false (by omega : ¬ 0 < T)]; simp)
                  clear hT0
                  go_wp2_with (fail)
                  go_meet
                  case rel => exact ⟨_, by rw [HLT.out], hE, hU, HK, hC, hB⟩
                · rw [decide_eq_true hT0]
                  have HDT := Lib.hid (show decide (0 < T) = true from decide_eq_true hT0)
                  obtain ⟨g2, cap, hv, hg1, hg2, -⟩ := Kd.R_form hV.out (by rw [List.length_replicate]; omega)
                  injection hv with hv1 hv2 hv3
                  subst hv1
                  clear hv2 hv3
                  have hg2g := Aside0.mk (show g ≠ g2 from fun e => by
                    have h9 := Kd.R_ne hV.out hE.out (by decide)
                    rw [e] at h9
                    exact h9 (by simp [Value.ownBlock]))
                  have hg2g1 := Aside0.mk (show g1 ≠ g2 from fun e => (rows_ne hU.out hV.out (by decide)) g1 (by simp [Value.ownBlock]) (by rw [e]; simp [Value.ownBlock]))
                  have HV := Aside0.mk (show kV.R 36 wd w.heap.size (fun _ => True) (.slice (some ⟨g2, 0, none⟩) T c2) ([.slice none 0 0] :: List.replicate (T - 1) nilV) by
                    have h9 := hV.out
                    rw [show T = (T - 1) + 1 by omega, List.replicate_succ] at h9
                    rw [show T - 1 + 1 = T by omega] at h9
                    exact h9)
                  have hwg2 := Lib.hid hg1
                  clear hV hg1 hg2
                  have hpT : (0 : Int) < (T : Int) := by omega
                  go_wp2
                  go_loopw [13] (fun v13 w' => ∃ (i : Nat) (v3 : Value), i ≤ K ∧ v13 = .int .i64 i ∧ Aside0 (w'.heap[g]? = some (.cells #[.bool false, .string ⟨#[]⟩, .string ⟨#[]⟩, .slice A3 N c3, .slice (some ⟨g1, 0, none⟩) a cu] 27)) ∧ Aside0 (kV.R 35 w' w.heap.size (fun _ => True) (.slice (some ⟨g1, 0, none⟩) a cu) ([.slice (some ⟨g2, 0, none⟩) T c2] :: List.replicate (a - 1) nilV)) ∧ Aside0 (kV.R 36 w' w.heap.size (fun _ => True) (.slice (some ⟨g2, 0, none⟩) T c2) ([v3] :: List.replicate (T - 1) nilV)) ∧ Aside0 (kPart.R 38 w' w.heap.size (fun _ => True) v3 (List.replicate i rP)) ∧ Aside0 (kClaim.R 50 w' w.heap.size (fun _ => True) (.slice A3 N c3) (List.replicate N zClaim)) ∧ Aside0 (Below w.heap.size w w')) (fun v13 _ => K - (intOf v13).toNat)
                  case atStart => exact ⟨0, _, Nat.zero_le _, rfl, hE, hU, HV, ⟨Kd.R_nil _ _ _ _ _⟩, hC, hB⟩
                  case round =>
                    clear hE hU HV hC hB
                    obtain ⟨i, v3, hi, rfl, hE, hU, hV, hP, hC, hB⟩ := hrel
                    rcases Nat.lt_or_ge i K with hlt3 | hge3
                    · have hp3 : (i : Int) < (K : Int) := by omega
                      obtain ⟨A5, c5, rfl⟩ : ∃ A c, v3 = .slice A i c := (by obtain ⟨A, c, h⟩ := Kd.R_slice hP.out; exact ⟨A, c, by rw [h, List.length_replicate]⟩)
                      have HMV := Aside0.mk (fun W => kPart_mk W w.heap.size (fun _ => False) rP)
                      have S0 := Lib.hid (And.intro (blk_cell hE.out 4) (raw_get hU.out rfl).1)
                      have c0d : wr.drew.cell? ⟨g2, 0, none⟩ = _ := (raw_get hV.out rfl).1
                      have c0e : (wr.alloc (.cells #[.int .i64 (-1), .bool true, .bool false, .string ⟨#[]⟩, .string ⟨#[]⟩] 38)).drew.cell? ⟨g2, 0, none⟩ = _ := pw_cell_below (below_alloc (Below.refl _ _) _) (raw_get hV.out rfl).1
                      have HNE := Aside0.mk (Kd.R_ne hP.out hE.out (by decide))
                      have HUN := Aside0.mk (rows_ne hU.out hP.out (by decide))
                      have HVN := Aside0.mk (rows_ne hV.out hP.out (by decide))
                      have HCN := Aside0.mk (rows_ne hC.out hP.out (by decide))
                      have hbw := hB.out.size
                      have HEE := Lib.hid hE.out
                      clear hE
                      have hgg3 := hg2g.out.symm
                      have hgg4 := hg2g1.out.symm
                      go_wp2_with (fail)
                      conv => enter [2, 2, 1, 2, 2, 2, 2, 2, 2, 2, 2, 2, 2, 2, 1]; change hideOp _
                      go_region_held3 (fun w' => w'.cell? ⟨g, 4, none⟩ = some (.slice (some ⟨g1, 0, none⟩) a cu) ∧ w'.cell? ⟨g1, 0, none⟩ = some (.slice (some ⟨g2, 0, none⟩) T c2))
                        (first | exact And.intro (pw_cell_below (pw_below_drewN (Below.refl _ _) 1) S0.out.1) (pw_cell_below (pw_below_drewN (Below.refl _ _) 1) S0.out.2) | exact And.intro (pw_cell_below (below_alloc (pw_below_drewN (Below.refl _ _) 1) _) S0.out.1) (pw_cell_below (below_alloc (pw_below_drewN (Below.refl _ _) 1) _) S0.out.2) | exact And.intro (blk_cell F1.out 4) (raw_get F2.out rfl).1 | exact And.intro (by rw [World.cell?_setCell_far _ _ _ _ hgg3]; exact blk_cell F1.out 4) (by rw [World.cell?_setCell_far _ _ _ _ hgg4]; exact (raw_get F2.out rfl).1))
                        (first | (refine Kd.R_append_step kPart w.heap.size (by rfl) _ _ 36 38 _ 56 (by rfl) Tryz.underlying36 infoPart rfl (by decide) (by decide) (.slice A5 i c5) (List.replicate i rP) rP [.int .i64 (-1), .bool true, .bool false, .string ⟨#[]⟩, .string ⟨#[]⟩] (fun _ => True) (fun _ => False) (by rfl) (by rfl) (HMV.out _) (fun _ hk => hk.elim) (fun _ _ => trivial) (Kd.R_drew hP.out) (below_drew hB.out) hbw (by rw [List.length_replicate]; omega) ?_; intro v4 w4 ho4 hb4 hg4 hat4; obtain ⟨A4, c4, rfl⟩ : ∃ A c, v4 = .slice A (i + 1) c := (by obtain ⟨A, c, h⟩ := Kd.R_slice ho4; exact ⟨A, c, by rw [h, List.length_append, List.length_replicate]; rfl⟩); have F1 := Lib.hid ((hg4.block g (blk_lt HEE.out) HNE.out).trans HEE.out); have F2 := Aside0.mk (R_gr rfl (Kd.R_drew hU.out) hg4 HUN.out); have F6 := Aside0.mk (R_gr rfl (Kd.R_drew hV.out) hg4 HVN.out); have F3 := Aside0.mk (R_gr rfl (Kd.R_drew hC.out) hg4 HCN.out); have F4 := Aside0.mk ho4; have F5 := Aside0.mk hb4; obtain ⟨q0, q1⟩ := raw_get F6.out rfl; clear ho4 hb4 hg4 hat4))
                      all_goals
                        go_wp2_with (fail)
                        go_roundw
                        case measure => simp [intOf]; omega
                        case rel =>
                          obtain ⟨cells, hct⟩ := Kd.R_typed F6.out g2 (by simp [Value.ownBlock])
                          refine ⟨i + 1, _, hlt3, by go_num, ⟨?_⟩, ⟨Kd.R_set F2.out hct (fun q hq => by have h : q ∈ ([35] : List Nat) := hq; revert h; simp; omega) 0 _⟩, ⟨raw_put F6.out rfl rfl⟩, ⟨?_⟩, ⟨Kd.R_set F3.out hct (fun q hq => by have h : q ∈ ([50] : List Nat) := hq; revert h; simp; omega) 0 _⟩, ⟨below_set F5.out hwg2.out⟩⟩
                          · rw [heap_far _ hg2g.out]
                            exact F1.out
                          · rw [List.replicate_succ']
                            exact Kd.R_set F4.out hct (fun q hq => by have h : q ∈ ([38] : List Nat) := hq; revert h; simp; omega) 0 _
                    · obtain rfl : K = i := by omega
                      have HK := Aside0.mk (show (Kd.slice 36 kTier).K wr (tierL T K) [.slice (some ⟨g2, 0, none⟩) T c2] from ⟨some ⟨g2, 0, none⟩, c2, by rw [tierL_len], by rw [tierL_len]; have h9 := (Kd.R_reads' hV.out).2.1; exact h9, by
                        rw [tierL_len, tierL, if_neg (by omega)]
                        exact first_C hV.out (row_K hP.out)⟩)
                      clear hV hP
                      by_cases hK : 24 < K
                      · have g5 : (24 : Int) < (K : Int) := by omega
                        have HD := Lib.hid (show decide (24 < K) = true from decide_eq_true hK)
                        cases L1
                        · go_wp2
                          go_meet
                          case rel => exact ⟨_, by rw [HD.out, HDT.out]; rfl, hE, hU, HK, hC, hB⟩
                        · go_wp2
                          go_meet
                          case rel => exact ⟨_, by rw [HD.out, HDT.out]; rfl, hE, hU, HK, hC, hB⟩
                      · have g5 : ¬ (24 : Int) < (K : Int) := by omega
                        have HD := Lib.hid (show decide (24 < K) = false from decide_eq_false hK)
                        cases L1
                        · go_wp2
                          go_meet
                          case rel => exact ⟨_, by rw [HD.out, HDT.out]; rfl, hE, hU, HK, hC, hB⟩
                        · go_wp2
                          go_meet
                          case rel => exact ⟨_, by rw [HD.out, HDT.out]; rfl, hE, hU, HK, hC, hB⟩
              case rest =>
              obtain ⟨v2, rfl, hE5, hU5, hK5, hC5, hB5⟩ := hcut
              clear hE hU hV hC hB
              have HG := Aside0.mk (show (Kd.slice 36 kTier).C wc (some ⟨g1, 0, none⟩) a (gsM a T K) by
                rw [gsM, if_neg (by omega)]
                exact first_C hU5.out hK5.out)
              have hcc := Aside0.mk (Kd.R_reads' hU5.out).2.1
              clear hU5 hK5
              generalize hLL : (L1 || (decide (0 < T) && decide (24 < K))) = LL at *
              clear hLL
              by_cases hT24 : 24 < T
              · have g5 : (24 : Int) < (T : Int) := by omega
                have HD := Lib.hid (show decide (24 < T) = true from decide_eq_true hT24)
                cases LL
                · go_wp2
                  go_meet
                  case rel => exact ⟨_, cu, by rw [HL0.out, HD.out]; rfl, hE5, hcc, HG, hC5, hB5⟩
                · go_wp2
                  go_meet
                  case rel => exact ⟨_, cu, by rw [HL0.out, HD.out]; rfl, hE5, hcc, HG, hC5, hB5⟩
              · have g5 : ¬ (24 : Int) < (T : Int) := by omega
                have HD := Lib.hid (show decide (24 < T) = false from decide_eq_false hT24)
                cases LL
                · go_wp2
                  go_meet
                  case rel => exact ⟨_, cu, by rw [HL0.out, HD.out]; rfl, hE5, hcc, HG, hC5, hB5⟩
                · go_wp2
                  go_meet
                  case rel => exact ⟨_, cu, by rw [HL0.out, HD.out]; rfl, hE5, hcc, HG, hC5, hB5⟩
      case rest =>
      obtain ⟨A4, c4, rfl, hE, hc4, hG, hC2, hB2⟩ := hcut
      have AWK := Lib.hid (fun w' => lw_awake w')
      have CK := Aside0.mk (fun (w' : World) (hb : Below wc.heap.size wc w') => w_Check zR (List.replicate N zClaim) (gsM a T K) A3 c3 A4 c4 w' (ReadsE.below (w := wc) ⟨(Kd.R_reads' hC2.out).2.2, by rw [List.length_replicate]; exact (Kd.R_reads' hC2.out).2.1, by rw [gsM_len]; exact hG.out, by rw [gsM_len]; exact hc4.out⟩ hb) (shortM N a T K l3 l4))
      rw [estM] at CK
      simp only [EV, List.length_replicate, gsM_len] at CK
      have HE2 := Lib.hid hE.out
      have HB2 := Aside0.mk hB2.out
      clear hE hc4 hG hC2 hB2 hU hC hB HE x3 x4
      generalize longM N a T K = L at *
      cases L
      · simp only [Bool.false_eq_true, if_false] at CK
        go_wp2_with (first
          | (go_at_call 15; refine (AWK.out _).mono ?_; rintro e w6 ⟨rfl, hb6⟩; have HE6 := Lib.hid (heap_b hb6 HE2.out); obtain ⟨y0, y1, y2, y3, y4⟩ := cells5 HE6.out; have HB6 := Aside0.mk (below_s hb6 HB2.out); have HB66 := Aside0.mk hb6; clear hb6)
          | (go_at_call 16; refine (CK.out _ HB66.out).mono ?_; rintro e w7 ⟨rfl, hb7⟩; have HB7 := Aside0.mk (below_s hb7 HB6.out); clear hb7))
        go_ret
        exact ⟨rfl, HB7.out⟩
      · simp only [if_true] at CK
        go_wp2_with (first
          | (go_at_call 15; refine (AWK.out _).mono ?_; rintro e w6 ⟨rfl, hb6⟩; have HE6 := Lib.hid (heap_b hb6 HE2.out); obtain ⟨y0, y1, y2, y3, y4⟩ := cells5 HE6.out; have HB6 := Aside0.mk (below_s hb6 HB2.out); have HB66 := Aside0.mk hb6; clear hb6)
          | (go_at_call 16; refine (CK.out _ HB66.out).mono ?_; rintro e w7 ⟨rfl, hb7⟩; have HB7 := Aside0.mk (below_s hb7 HB6.out); clear hb7))
        go_ret
        exact ⟨rfl, HB7.out⟩
end Go.Proofs.YtnimgfnknlkkdaaGreatDoor.H
