import Derived.Test.YtnimgfnknlkkdaaGreatDoorK8
import Derived.Test.YtnimgfnknlkkdaaGreatDoorK3
import Derived.Test.YtnimgfnknlkkdaaGreatDoorK2
import Derived.Test.YtnimgfnknlkkdaaGreatDoorK7
import Derived.Test.YtnimgfnknlkkdaaGreatDoorK4
import Derived.Test.YtnimgfnknlkkdaaGreatDoorK5
set_option linter.unusedVariables false
set_option linter.unusedSimpArgs false
open Go
namespace Go.Proofs.YtnimgfnknlkkdaaGreatDoor.H
open Go Go.RowKit Go.Proofs.YtnimgfnknlkkdaaGreatDoorW.PrintWords Go.Proofs.YtnimgfnknlkkdaaGreatDoorW.PrintLast Go.Proofs.YtnimgfnknlkkdaaGreatDoorW.PrintMore Go.Proofs.YtnimgfnknlkkdaaGreatDoor.Num
set_option maxRecDepth 100000 in
set_option maxHeartbeats 1000000 in
theorem ref_divide_less (a b : Nat) (A B : Option Addr) (c d : Nat) (w : World) (hA : Kd.C (Kd.int .u32) w A (dig a).length (dig a)) (hc : (dig a).length ≤ c) (hB : Kd.C (Kd.int .u32) w B (dig b).length (dig b)) (hd : (dig b).length ≤ d)
    (ha : (dig a).length ≤ 137438953472) (hb : (dig b).length ≤ 137438953472) (h : a < b) :
    Calls Tryz.prog 174 #[.slice A (dig a).length c, .slice B (dig b).length d] w fun e w' => ∃ v1 v2, e = .returned (.tuple #[v1, v2]) ∧ IsL w' v1 (dig (a / b)) ∧ IsL w' v2 (dig (a % b)) ∧ Below w.heap.size w w' := by
  have HC := Aside0.mk (ref_order a b A B c d w hA hc hB hd (by omega) (by omega))
  have HA := Aside0.mk hA
  rw [Nat.div_eq_of_lt h, Nat.mod_eq_of_lt h]
  have g := cmpN_neg.2 h
  clear hA hB
  go_enter Tryz.func174, Tryz.ntmps174
  go_wp2_with (go_at_call 145; refine HC.out.mono ?_; rintro e w1 ⟨rfl, hd1⟩)
  go_ret2
  exact ⟨_, _, rfl, isL_nil _, ⟨A, c, rfl, hc, Kd.C_below HA.out hd1.below⟩, hd1.below⟩
set_option maxRecDepth 100000 in
set_option maxHeartbeats 1000000 in
theorem ref_divide_one (a b : Nat) (A B : Option Addr) (c d : Nat) (w : World) (hA : Kd.C (Kd.int .u32) w A (dig a).length (dig a)) (hc : (dig a).length ≤ c) (hB : Kd.C (Kd.int .u32) w B (dig b).length (dig b)) (hd : (dig b).length ≤ d)
    (ha : (dig a).length ≤ 137438953472) (h : ¬ a < b) (h1 : (dig b).length = 1) :
    Calls Tryz.prog 174 #[.slice A (dig a).length c, .slice B (dig b).length d] w fun e w' => ∃ v1 v2, e = .returned (.tuple #[v1, v2]) ∧ IsL w' v1 (dig (a / b)) ∧ IsL w' v2 (dig (a % b)) ∧ Below w.heap.size w w' := by
  have HC := Aside0.mk (ref_order a b A B c d w hA hc hB hd (by omega) (by omega))
  have HA := Aside0.mk hA
  have g : ¬ cmpN a b < 0 := fun k => h (cmpN_neg.1 k)
  have hb0 : b ≠ 0 := fun e => by rw [e, dig_zero] at h1; simp at h1
  have hb1 : b < 4294967296 := by have := dig_lt b; rw [h1] at this; simpa using this
  have hbd : (dig b).getD 0 0 = (b : Int) := by rw [dig_pos hb0]; simp; omega
  obtain ⟨bd, rfl, hx⟩ := C_word hB 0 (by omega) (by omega)
  rw [show rd (dig b) 0 = (dig b).getD 0 0 from rfl, hbd] at hx
  have HX := Aside0.mk hx
  have HDS := Aside0.mk (fun w hA => ref_short (dig a) (b : Int) A c w (lim_dig a) hA hc (by omega) (by omega) (by omega))
  simp only [val_dig, Int.toNat_natCast] at HDS
  rw [h1] at HC ⊢
  clear hA hB hx hbd
  have hm : ((a : Int) % b) = ((a % b : Nat) : Int) := by simp
  rw [hm] at HDS
  clear hm
  have hr2 : a % b < 4294967296 := Nat.lt_of_lt_of_le (Nat.mod_lt _ (by omega)) (by omega)
  have HV : Lim [((a % b : Nat) : Int)] ∧ val [((a % b : Nat) : Int)] = a % b := ⟨lim_cons (by omega) lim_nil, by simp only [val, Int.toNat_natCast]; omega⟩
  have HV := Lib.hid HV
  generalize a % b = r at *
  go_enter Tryz.func174, Tryz.ntmps174
  go_wp2_with (fail)
  refine HC.out.mono ?_
  rintro e w1 ⟨rfl, hd1⟩
  have HD1 := Aside0.mk hd1
  have hx1 : w1.cell? bd = some (.int .u32 (b : Int)) := by simpa [Addr.add] using pw_cell_below hd1.below HX.out
  clear hd1
  go_wp2_with (go_at_call 190; refine (HDS.out _ (Kd.C_below HA.out HD1.out.below)).mono ?_; rintro e w2 ⟨v2, rfl, hq, hb2⟩; have HQ := Aside0.mk hq; have HB2 := Aside0.mk hb2; clear hq hb2)
  have HT := Aside0.mk (fun {w : World} {v : Value} (h : IsL w v [(r : Int)]) => strip_isL h HV.out.1)
  rw [HV.out.2] at HT
  go_wp2_with (go_at_call 172; refine (HT.out (isL_one _ _ _)).mono ?_; rintro e w3 ⟨v3, rfl, hr3, hd3⟩)
  go_ret2
  have hb3 := below_step (below_alloc (Below.refl _ _) _) hd3.below
  exact ⟨_, _, rfl, HQ.out.below hb3, hr3, below_step HD1.out.below (below_step HB2.out hb3)⟩
set_option maxRecDepth 100000 in
set_option maxHeartbeats 1000000 in
theorem ref_divide_long (a b : Nat) (A B : Option Addr) (c d : Nat) (w : World) (hA : Kd.C (Kd.int .u32) w A (dig a).length (dig a)) (hc : (dig a).length ≤ c) (hB : Kd.C (Kd.int .u32) w B (dig b).length (dig b)) (hd : (dig b).length ≤ d)
    (ha : (dig a).length ≤ 137438953472) (h : ¬ a < b) (h1 : 2 ≤ (dig b).length) :
    Calls Tryz.prog 174 #[.slice A (dig a).length c, .slice B (dig b).length d] w fun e w' => ∃ v1 v2, e = .returned (.tuple #[v1, v2]) ∧ IsL w' v1 (dig (a / b)) ∧ IsL w' v2 (dig (a % b)) ∧ Below w.heap.size w w' := by
  have hlen := dig_mono (Nat.le_of_not_lt h)
  have HC := Aside0.mk (ref_order a b A B c d w hA hc hB hd (by omega) (by omega))
  have g : ¬ cmpN a b < 0 := fun k => h (cmpN_neg.1 k)
  have HL := Aside0.mk (fun {w : World} hA hB => ref_long a b A B c d w hA hc hB hd ha h h1)
  have HA := Aside0.mk hA
  have HB := Aside0.mk hB
  clear hA hB h
  generalize dig (a / b) = dq at *
  generalize dig (a % b) = dr at *
  generalize (dig a).length = la at *
  generalize (dig b).length = lb at *
  have g2 : ((lb : Int) == 1) = false := by simp; omega
  clear hlen
  go_enter Tryz.func174, Tryz.ntmps174
  go_wp2_with (fail)
  refine HC.out.mono ?_
  rintro e w1 ⟨rfl, hd1⟩
  have HD1 := Aside0.mk hd1
  clear hd1
  go_wp2_with (fail)
  refine (HL.out (Kd.C_below HA.out HD1.out.below) (Kd.C_below HB.out HD1.out.below)).mono ?_
  rintro e w2 ⟨q, r, rfl, hq, hr, hb2⟩
  go_wp2
  go_ret2
  exact ⟨_, _, rfl, hq, hr, below_step HD1.out.below hb2⟩
theorem ref_divide {a b : Nat} {v1 v2 : Value} {w : World} (h1 : IsL w v1 (dig a)) (h2 : IsL w v2 (dig b)) (hb0 : b ≠ 0) (ha : (dig a).length ≤ 137438953472) (hb : (dig b).length ≤ 137438953472) :
    Calls Tryz.prog 174 #[v1, v2] w fun e w' => ∃ v1 v2, e = .returned (.tuple #[v1, v2]) ∧ IsL w' v1 (dig (a / b)) ∧ IsL w' v2 (dig (a % b)) ∧ Below w.heap.size w w' := by
  obtain ⟨A, c, rfl, hc, hA⟩ := h1
  obtain ⟨B, d, rfl, hd, hB⟩ := h2
  by_cases h : a < b
  · exact ref_divide_less a b A B c d w hA hc hB hd ha hb h
  · have h3 : (dig b).length ≠ 0 := fun e => hb0 (by rw [← val_dig b, List.length_eq_zero_iff.1 e]; rfl)
    by_cases h4 : (dig b).length = 1
    · exact ref_divide_one a b A B c d w hA hc hB hd ha h h4
    · exact ref_divide_long a b A B c d w hA hc hB hd ha h (by omega)
set_option maxRecDepth 100000 in
set_option maxHeartbeats 1000000 in
theorem ref_common (a b : Nat) (v1 v2 : Value) (w : World) (h1 : IsL w v1 (dig a)) (h2 : IsL w v2 (dig b)) (D1 : (dig a).length ≤ 137438953472) (D2 : (dig b).length ≤ 137438953472) :
    Calls Tryz.prog 173 #[v1, v2] w fun e w' => ∃ v, e = .returned v ∧ IsL w' v (dig (Nat.gcd a b)) ∧ Below w.heap.size w w' := by
  have HA := Aside0.mk h1
  have HB := Aside0.mk h2
  clear h1 h2
  go_enter Tryz.func173, Tryz.ntmps173
  go_wp2_with (fail)
  go_loopw [0, 1] (fun v5 v6 w' => ∃ (x y : Nat), Aside0 (IsL w' v5 (dig x)) ∧ Aside0 (IsL w' v6 (dig y)) ∧ Aside0 (Nat.gcd x y = Nat.gcd a b ∧ (dig x).length ≤ 137438953472 ∧ (dig y).length ≤ 137438953472) ∧ Aside0 (Below w.heap.size w w')) (fun _ v6 w' => val (digsOf w' v6))
  case atStart => exact ⟨a, b, HA, HB, ⟨rfl, D1, D2⟩, ⟨Below.refl _ _⟩⟩
  case round =>
    clear HA HB
    obtain ⟨x, y, h5, h6, hG, hb⟩ := hrel
    obtain ⟨A, c, rfl, hc, hA⟩ := h5.out
    obtain ⟨B, d, rfl, hd, hB⟩ := h6.out
    have e6 := Aside0.mk (digsOf_eq h6.out)
    clear hA hB
    have hlen := @dig_pos_len y
    by_cases h0 : y = 0
    · subst h0
      rw [dig_zero] at hlen ⊢
      clear hlen
      go_wp2_with (fail)
      go_ret
      refine ⟨_, rfl, ?_, hb.out⟩
      rw [← hG.out.1, Nat.gcd_zero_right]
      exact h5.out
    · have hpos : (0 : Int) < ((dig y).length : Int) := by omega
      have DV := Aside0.mk (ref_divide h5.out h6.out h0 hG.out.2.1 hG.out.2.2)
      go_wp2_with (fail)
      refine DV.out.mono ?_
      rintro e w3 ⟨q, r, rfl, hq, hr, hb3⟩
      go_wp2_with (fail)
      go_roundw
      case measure => rw [digsOf_eq hr, e6.out, val_dig, val_dig]; exact Nat.mod_lt _ (Nat.pos_of_ne_zero h0)
      case rel => exact ⟨y, x % y, ⟨h6.out.below hb3⟩, ⟨hr⟩, ⟨by rw [← hG.out.1, Nat.gcd_comm x y, Nat.gcd_rec y x, Nat.gcd_comm], hG.out.2.2, Nat.le_trans (dig_mono (Nat.mod_le _ _)) hG.out.2.1⟩, ⟨below_step hb.out hb3⟩⟩
set_option maxRecDepth 100000 in
set_option maxHeartbeats 1000000 in
theorem ref_GCD (s t : ByteArray) (w : World) (hs : s.size ≤ 549755813888) (ht : t.size ≤ 549755813888) :
    Calls Tryz.prog 159 #[.string s, .string t] w fun e w' => e = .returned (.string (natB (Nat.gcd (bval s) (bval t)))) ∧ Below w.heap.size w w' := by
  have D1 := dig_len_size (s := s) (n := 137438953472) (by omega)
  have D2 := dig_len_size (s := t) (n := 137438953472) (by omega)
  have P1 := Lib.hid (fun w => ref_limbs s w (by omega))
  have P2 := Lib.hid (fun w => ref_limbs t w (by omega))
  have D3 : (dig (Nat.gcd (bval s) (bval t))).length ≤ 137438953472 := by
    rcases Nat.eq_zero_or_pos (bval s) with h | h
    · rw [h, Nat.gcd_zero_left]; exact D2
    · exact Nat.le_trans (dig_mono (Nat.gcd_le_left _ h)) D1
  generalize bval s = a at *
  generalize bval t = b at *
  have CM := Aside0.mk (fun {v1 v2 : Value} {w : World} h1 h2 => ref_common a b v1 v2 w h1 h2 D1 D2)
  have TX := Aside0.mk (fun {v : Value} {w : World} h => text_isL (n := Nat.gcd a b) (v := v) (w := w) h (by omega))
  generalize Nat.gcd a b = g at *
  clear D1 D2 D3 hs ht
  go_enter Tryz.func159, Tryz.ntmps159
  go_wp2_with (fail)
  refine (P1.out _).mono ?_
  rintro e w1 ⟨v1, rfl, hA, hb1⟩
  have HA := Aside0.mk hA
  have HB1 := Aside0.mk hb1
  clear hA hb1
  go_wp2_with (fail)
  refine (P2.out _).mono ?_
  rintro e w2 ⟨v2, rfl, hB, hb2⟩
  have HB := Aside0.mk hB
  have HB2 := Aside0.mk hb2
  clear hB hb2
  go_wp2_with (fail)
  refine (CM.out (HA.out.below HB2.out) HB.out).mono ?_
  rintro e w3 ⟨v3, rfl, hG, hb3⟩
  have HG := Aside0.mk hG
  have HB3 := Aside0.mk hb3
  clear hG hb3
  go_wp2_with (fail)
  refine (TX.out HG.out).mono ?_
  rintro e w4 ⟨rfl, hb4⟩
  go_wp2
  go_ret
  exact ⟨rfl, below_step HB1.out (below_step HB2.out (below_step HB3.out hb4))⟩
end Go.Proofs.YtnimgfnknlkkdaaGreatDoor.H
set_option linter.unusedVariables false
set_option linter.unusedSimpArgs false
open Go
namespace Go.Proofs.YtnimgfnknlkkdaaGreatDoor.H
open Go Go.RowKit Go.Proofs.YtnimgfnknlkkdaaGreatDoorW.PrintWords Go.Proofs.YtnimgfnknlkkdaaGreatDoorW.PrintLast Go.Proofs.YtnimgfnknlkkdaaGreatDoorW.PrintMore Go.Proofs.YtnimgfnknlkkdaaGreatDoor.Num
set_option maxRecDepth 100000 in
set_option maxHeartbeats 1000000 in
theorem ref_Valid (n : Bool) (s t : ByteArray) (w : World) (hs : s.size ≤ 549755813888) (ht : t.size ≤ 549755813888) :
    Calls Tryz.prog 114 #[RV n s t] w fun e w' => e = .returned (.bool (okB n s t)) ∧ Below w.heap.size w w' := by
  have P1 := Lib.hid (fun w => ref_Normalize s w (by omega))
  have P2 := Lib.hid (fun w => ref_Normalize t w (by omega))
  have G := Lib.hid (fun w => ref_GCD s t w hs ht)
  have R := Aside0.mk (show okB n s t = (decide (natB (bval s) = s) && decide (natB (bval t) = t) && (if s.size = 0 then !n && decide (t.size = 0) else decide (t.size = 0) || (decide (t ≠ ⟨#[1]⟩) && decide (natB (Nat.gcd (bval s) (bval t)) = ⟨#[1]⟩)))) from rfl)
  have g1 := str_eq (natB (bval s)) s
  have g2 := str_eq (natB (bval t)) t
  have g3 := one_eq t
  generalize okB n s t = r at *
  generalize natB (bval s) = x at *
  generalize natB (bval t) = y at *
  generalize natB (Nat.gcd (bval s) (bval t)) = z at *
  by_cases h1 : x = s
  · rw [decide_eq_true h1] at g1
    by_cases h2 : y = t
    · rw [decide_eq_true h2] at g2
      by_cases h3 : t = ⟨#[1]⟩
      · rw [decide_eq_true h3] at g3
        have R2 : r = false := by
          rw [R.out, h3]
          by_cases h : s.size = 0
          · rw [if_pos h]; simp [show (⟨#[1]⟩ : ByteArray).size = 1 from rfl]
          · rw [if_neg h]; simp [show (⟨#[1]⟩ : ByteArray).size = 1 from rfl]
        clear h1 h2 h3
        go_enter Tryz.func114, Tryz.ntmps114
        go_wp2_with (fail)
        go_quiet (first | (go_at_call_of 158 s; refine Calls.quiet_of_same (P1.out _)) | (go_at_call_of 158 t; refine Calls.quiet_of_same (P2.out _)))
        go_wp2_with (fail)
        go_ret
        exact ⟨ret_b R2.symm, pw_below_drewN (below_alloc (Below.refl _ _) _) _⟩
      · rw [decide_eq_false h3] at g3
        go_enter Tryz.func114, Tryz.ntmps114
        go_wp2_with (fail)
        go_quiet (first | (go_at_call_of 158 s; refine Calls.quiet_of_same (P1.out _)) | (go_at_call_of 158 t; refine Calls.quiet_of_same (P2.out _)))
        go_wp2_with (go_at_call 159; refine (G.out _).mono ?_; rintro e w4 ⟨rfl, hb4⟩)
        all_goals go_ret
        all_goals (refine ⟨ret_b (by rw [R.out]; simp only [isEmpty_iff, one_eq, str_eq, nil_iff, one_iff] at *; simp_all [one_ne]), ?_⟩)
        all_goals first | exact below_step (pw_below_drewN (below_alloc (Below.refl _ _) _) _) hb4 | exact pw_below_drewN (below_alloc (Below.refl _ _) _) _
    · rw [decide_eq_false h2] at g2
      go_enter Tryz.func114, Tryz.ntmps114
      go_wp2_with (fail)
      go_quiet (first | (go_at_call_of 158 s; refine Calls.quiet_of_same (P1.out _)) | (go_at_call_of 158 t; refine Calls.quiet_of_same (P2.out _)))
      go_wp2_with (fail)
      go_ret
      exact ⟨ret_b (by rw [R.out]; simp [h2]), pw_below_drewN (below_alloc (Below.refl _ _) _) _⟩
  · rw [decide_eq_false h1] at g1
    go_enter Tryz.func114, Tryz.ntmps114
    go_wp2_with (fail)
    go_quiet (first | (go_at_call_of 158 s; refine Calls.quiet_of_same (P1.out _)) | (go_at_call_of 158 t; refine Calls.quiet_of_same (P2.out _)))
    go_wp2_with (fail)
    go_ret
    exact ⟨ret_b (by rw [R.out]; simp [h1]), pw_below_drewN (below_alloc (Below.refl _ _) _) _⟩
set_option maxRecDepth 100000 in
set_option maxHeartbeats 1000000 in
theorem ref_Fix (n : Bool) (s t : ByteArray) (w : World) (hs : s.size ≤ 549755813888) (ht : t.size ≤ 549755813888) :
    Calls Tryz.prog 77 #[RV n s t] w fun e w' => e = .returned (QV (rq n s t)) ∧ Below w.heap.size w w' := by
  have V := Lib.hid (fun w => ref_Valid n s t w hs ht)
  have C1 := Aside0.mk (@can_rq n s t)
  have C2 := Aside0.mk (@rq_not n s t)
  generalize rq n s t = q at *
  generalize okB n s t = r at *
  go_enter Tryz.func77, Tryz.ntmps77
  cases r
  · obtain rfl := C2.out rfl
    go_wp2_with (fail)
    refine (V.out _).mono ?_
    rintro e w1 ⟨rfl, hb1⟩
    have h1 := cells3 (heap_below (heap_new _ _) hb1)
    rw [size_new] at h1
    obtain ⟨⟨h2, h3, h4⟩, h5, h6, h7⟩ := h1
    have HB := Aside0.mk hb1
    clear hb1
    go_wp2
    refine bodyPost_ret (v := RV false ⟨#[]⟩ ⟨#[]⟩) ?_ rfl ⟨ret_v (by rw [QV, can_zero.1, can_zero.2.1, can_zero.2.2]), ?_⟩
    · refine results_q rfl _ _ (w.heap.size + 1) rfl ?_ ?_ ?_
      all_goals go_simp
    · exact below_set (below_set (below_set (below_step (below_alloc (below_alloc (Below.refl _ _) _) _) HB.out) (Nat.le_add_right _ _)) (Nat.le_add_right _ _)) (Nat.le_add_right _ _)
  · obtain ⟨c1, c2, c3⟩ := C1.out rfl
    have c4 : QV q = RV n s t := by rw [QV, c1, c2, c3]
    go_wp2_with (fail)
    refine (V.out _).mono ?_
    rintro e w1 ⟨rfl, hb1⟩
    have h1 := cells3 (heap_below (heap_new _ _) hb1)
    have k1 := cells3 (heap_below (heap_old (heap_new _ _)) hb1)
    rw [size_new] at h1
    obtain ⟨⟨h2, h3, h4⟩, h5, h6, h7⟩ := h1
    obtain ⟨⟨k2, k3, k4⟩, -⟩ := k1
    have HB := Aside0.mk hb1
    clear hb1
    go_wp2
    refine bodyPost_ret (v := RV n s t) ?_ rfl ⟨ret_v c4.symm, ?_⟩
    · refine results_q rfl _ _ (w.heap.size + 1) rfl ?_ ?_ ?_
      all_goals go_simp
    · exact below_set (below_set (below_set (below_step (below_alloc (below_alloc (Below.refl _ _) _) _) HB.out) (Nat.le_add_right _ _)) (Nat.le_add_right _ _)) (Nat.le_add_right _ _)
theorem ref_Signum (n : Bool) (s t : ByteArray) (w : World) :
    Calls Tryz.prog 76 #[RV n s t] w fun e w' => e = .returned (.int .i64 (sgnI n s)) ∧ Below w.heap.size w w' := by
  go_enter Tryz.func76, Tryz.ntmps76
  go_wp2
  all_goals go_ret
  all_goals refine ⟨ret_i ?_, below_alloc (Below.refl _ _) _⟩
  all_goals (simp only [isEmpty_iff] at *; simp_all [sgnI])
theorem ref_Sign (n : Bool) (s t : ByteArray) (w : World) (hs : s.size ≤ 549755813888) (ht : t.size ≤ 549755813888) :
    Calls Tryz.prog 44 #[RV n s t] w fun e w' => e = .returned (.int .i64 (rq n s t).num.sign) ∧ Below w.heap.size w w' := by
  have V := Lib.hid (fun w => ref_Fix n s t w hs ht)
  generalize rq n s t = q at *
  have S := Lib.hid (fun w => ref_Signum (canS q) (canN q) (canD q) w)
  rw [sgn_can] at S
  rw [QV] at V
  go_enter Tryz.func44, Tryz.ntmps44
  go_wp2_with (fail)
  refine (V.out _).mono ?_
  rintro e w1 ⟨rfl, hb1⟩
  have HB := Aside0.mk hb1
  clear hb1
  go_wp2_with (fail)
  refine (S.out _).mono ?_
  rintro e w2 ⟨rfl, hb2⟩
  go_wp2
  go_ret
  exact ⟨rfl, below_step (below_step (below_alloc (Below.refl _ _) _) HB.out) hb2⟩
end Go.Proofs.YtnimgfnknlkkdaaGreatDoor.H
set_option linter.unusedVariables false
set_option linter.unusedSimpArgs false
open Go
namespace Go.Proofs.YtnimgfnknlkkdaaGreatDoor.H
open Go Go.RowKit Go.Proofs.YtnimgfnknlkkdaaGreatDoorW.PrintWords Go.Proofs.YtnimgfnknlkkdaaGreatDoorW.PrintLast Go.Proofs.YtnimgfnknlkkdaaGreatDoorW.PrintMore Go.Proofs.YtnimgfnknlkkdaaGreatDoor.Num
/-! insolvencyref1: FromUint size reduced Make Fraction; law 0: Ratio -/
set_option maxRecDepth 100000 in
set_option maxHeartbeats 1000000 in
theorem ref_FromUint (u : Int) (w : World) (h0 : 0 ≤ u) (h1 : u < 9223372036854775808) :
    Calls Tryz.prog 102 #[.int .u64 u] w fun e w' => e = .returned (.string (natB u.toNat)) ∧ Below w.heap.size w w' := by
  have hL : Lim [u % 4294967296, u / 4294967296] := lim_cons (by omega) (lim_cons (by omega) lim_nil)
  have hv : val [u % 4294967296, u / 4294967296] = u.toNat := by simp only [val]; omega
  have T := Lib.hid (fun (w : World) (A : Option Addr) hC => ref_text u.toNat A 2 w [u % 4294967296, u / 4294967296] hv hL (Nat.le_refl _) hC (by simp))
  have C := Lib.hid (fun (w : World) (cells : Array Value) hc => @C_new .u32 w [u % 4294967296, u / 4294967296] cells hc 140 (by simp))
  have e1 : u / 4294967296 % 4294967296 = u / 4294967296 := by omega
  clear hL hv
  generalize natB u.toNat = r at *
  go_enter Tryz.func102, Tryz.ntmps102
  go_wp2_with (go_at_call 131; refine (T.out _ _ (C.out _ _ rfl)).mono ?_; rintro e w1 ⟨rfl, hb1⟩)
  go_ret
  exact ⟨rfl, below_step (below_alloc (Below.refl _ _) _) hb1⟩
set_option maxRecDepth 100000 in
set_option maxHeartbeats 1000000 in
theorem ref_size (u : Int) (w : World) (h0 : 0 ≤ u) (h1 : u < 9223372036854775808) :
    Calls Tryz.prog 103 #[.int .i64 u] w fun e w' => e = .returned (.int .u64 u) ∧ w' = w := by
  have g : ¬ u < 0 := by omega
  go_enter Tryz.func103, Tryz.ntmps103
  go_wp2_with (fail)
  go_ret
  exact ⟨rfl, rfl⟩
theorem isL_top {w : World} {v : Value} {g : Nat} (h : IsL w v (dig g)) (hg : g ≠ 0) : ∃ ad c, v = .slice (some ad) (dig g).length c ∧ ((g = 1 ∧ (dig g).length = 1 ∧ w.cell? ad = some (.int .u32 1)) ∨ (1 < g ∧ (dig g).length = 1 ∧ w.cell? ad = some (.int .u32 (g : Int))) ∨ 1 < (dig g).length) := by
  obtain ⟨A, c, rfl, hc, hC⟩ := h
  have hp := dig_len_pos hg
  obtain ⟨ad, rfl, hx⟩ := C_word hC 0 (by omega) (by omega)
  rw [show ad.add (0 : Int).toNat = ad from by cases ad; simp [Addr.add]] at hx
  refine ⟨ad, c, rfl, ?_⟩
  by_cases h1 : (dig g).length = 1
  · have hlt : g < 4294967296 := by have := dig_lt g; rw [h1] at this; simpa using this
    have hd : rd (dig g) 0 = (g : Int) := by
      show (dig g).getD 0 0 = _
      rw [dig_pos hg]; simp; omega
    rw [hd] at hx
    by_cases h2 : g = 1
    · exact .inl ⟨h2, h1, by subst h2; exact hx⟩
    · exact .inr (.inl ⟨by omega, h1, hx⟩)
  · exact .inr (.inr (by omega))
end Go.Proofs.YtnimgfnknlkkdaaGreatDoor.H
set_option linter.unusedVariables false
set_option linter.unusedSimpArgs false
open Go
namespace Go.Proofs.YtnimgfnknlkkdaaGreatDoor.H
open Go Go.RowKit Go.Proofs.YtnimgfnknlkkdaaGreatDoorW.PrintWords Go.Proofs.YtnimgfnknlkkdaaGreatDoorW.PrintLast Go.Proofs.YtnimgfnknlkkdaaGreatDoorW.PrintMore Go.Proofs.YtnimgfnknlkkdaaGreatDoor.Num
set_option maxRecDepth 100000 in
set_option maxHeartbeats 1000000 in
theorem ref_reduced (n : Bool) (a b : Nat) (v1 v2 : Value) (w : World) (h1 : IsL w v1 (dig a)) (h2 : IsL w v2 (dig b)) (hb0 : b ≠ 0) (D1 : (dig a).length ≤ 137438953472) (D2 : (dig b).length ≤ 137438953472) :
    Calls Tryz.prog 133 #[.bool n, v1, v2] w fun e w' => e = .returned (QV (mkQ n a b)) ∧ Below w.heap.size w w' := by
  have N1 := Lib.hid (heap_new w (.cells #[.bool false, .string ⟨#[]⟩, .string ⟨#[]⟩] 23))
  have NB := Aside0.mk (below_alloc (Below.refl w.heap.size w) (.cells #[.bool false, .string ⟨#[]⟩, .string ⟨#[]⟩] 23))
  obtain ⟨wz, hwz⟩ : ∃ wz, wz = w.alloc (.cells #[.bool false, .string ⟨#[]⟩, .string ⟨#[]⟩] 23) := ⟨_, rfl⟩
  rw [← hwz] at N1 NB
  obtain ⟨⟨d0, d1, d2⟩, d3, d4, d5⟩ := cells3 N1.out
  rcases Nat.eq_zero_or_pos a with ha0 | ha0
  · subst ha0
    obtain ⟨A, c, rfl, hc, hC⟩ := h1
    rw [mkQ_zero, dig_zero]
    rw [QV_of can_zero.1 can_zero.2.1 can_zero.2.2]
    clear hc hC h2 D1 D2 N1
    go_enter Tryz.func133, Tryz.ntmps133
    go_wp2_with (fail)
    refine bodyPost_ret (v := RV false ⟨#[]⟩ ⟨#[]⟩) ?_ rfl ⟨rfl, ?_⟩
    · exact results_q rfl _ _ w.heap.size rfl (by go_simp) (by go_simp) (by go_simp)
    · go_simp; first | exact below_alloc (Below.refl _ _) _ | exact below_set (below_set (below_set (below_alloc (Below.refl _ _) _) (Nat.le_refl _)) (Nat.le_refl _)) (Nat.le_refl _)
  · have hg0 : Nat.gcd a b ≠ 0 := fun e => hb0 (Nat.eq_zero_of_gcd_eq_zero_right e)
    obtain ⟨k1, k2, k3⟩ := @mkQ_can n a b hb0 (by omega)
    have HQ := Lib.hid (QV_of k1 k2 k3)
    have CM := Aside0.mk (ref_common a b v1 v2 wz (by rw [hwz]; exact h1.below (below_alloc (Below.refl _ _) _)) (by rw [hwz]; exact h2.below (below_alloc (Below.refl _ _) _)) D1 D2)
    have D3 : (dig (Nat.gcd a b)).length ≤ 137438953472 := Nat.le_trans (dig_mono (Nat.gcd_le_left b ha0)) D1
    have D4 : (dig (a / Nat.gcd a b)).length ≤ 137438953472 := Nat.le_trans (dig_mono (Nat.div_le_self _ _)) D1
    have D5 : (dig (b / Nat.gcd a b)).length ≤ 137438953472 := Nat.le_trans (dig_mono (Nat.div_le_self _ _)) D2
    have hb3 : b / Nat.gcd a b ≠ 0 := fun e => by
      have := Nat.div_pos (Nat.gcd_le_right a (Nat.pos_of_ne_zero hb0)) (Nat.pos_of_ne_zero hg0)
      omega
    have DVA := Aside0.mk (fun {u v : Value} {w : World} hu hv => ref_divide (a := a) (b := Nat.gcd a b) (v1 := u) (v2 := v) (w := w) hu hv hg0 D1 D3)
    have DVB := Aside0.mk (fun {u v : Value} {w : World} hu hv => ref_divide (a := b) (b := Nat.gcd a b) (v1 := u) (v2 := v) (w := w) hu hv hg0 D2 D3)
    have TA := Aside0.mk (fun {v : Value} {w : World} h => text_isL (n := a / Nat.gcd a b) (v := v) (w := w) h (by omega))
    have TB := Aside0.mk (fun {v : Value} {w : World} h => text_isL (n := b / Nat.gcd a b) (v := v) (w := w) h (by omega))
    have HA := Aside0.mk (show IsL wz v1 (dig a) by rw [hwz]; exact h1.below (below_alloc (Below.refl _ _) _))
    have HB := Aside0.mk (show IsL wz v2 (dig b) by rw [hwz]; exact h2.below (below_alloc (Below.refl _ _) _))
    have hpa := dig_len_pos (n := a) (by omega)
    obtain ⟨A1, c1, rfl, -, -⟩ := h1
    have E1 := Lib.hid (show Nat.gcd a b = 1 → a / Nat.gcd a b = a ∧ b / Nat.gcd a b = b from fun e => by rw [e, Nat.div_one, Nat.div_one]; exact ⟨rfl, rfl⟩)
    clear k1 k2 k3 h2 D3 D4 D5
    clear D1 D2
    generalize Nat.gcd a b = g at *
    generalize hqa : a / g = qa at *
    generalize hqb : b / g = qb at *
    have HQA := Lib.hid (And.intro hqa hqb)
    clear hqa hqb
    generalize mkQ n a b = z at *
    generalize (dig a).length = la at *
    have hpa1 : (0 : Int) < (la : Int) := by omega
    have hpa2 : ((la : Int) == 0) = false := by simp; omega
    obtain ⟨sD, hsD⟩ : ∃ s, s = (if qb = 1 then ⟨#[]⟩ else natB qb : ByteArray) := ⟨_, rfl⟩
    rw [HQ.out, ← hsD]
    have HSD := Lib.hid hsD
    clear HQ hsD
    go_enter Tryz.func133, Tryz.ntmps133
    go_wp2_with (fail)
    rw [← hwz]
    clear d0 d1 d2 d3 d4 d5 hwz
    refine CM.out.mono ?_
    rintro e w3 ⟨v3, rfl, hG, hb33⟩
    have M1 := Lib.hid (heap_b hb33 N1.out)
    have MB := Aside0.mk (below_s hb33 NB.out)
    have MA := Aside0.mk (HA.out.below hb33)
    have MBB := Aside0.mk (HB.out.below hb33)
    have HG := Aside0.mk hG
    obtain ⟨ad, c, rfl, hcase⟩ := isL_top hG hg0
    clear hb33 N1 NB HA HB CM hG
    obtain ⟨lg, hlg⟩ : ∃ lg, lg = (dig g).length := ⟨_, rfl⟩
    rw [← hlg] at hcase ⊢
    have HLG := Lib.hid hlg
    have hlp : 0 < lg := by rw [hlg]; exact dig_len_pos hg0
    clear hlg
    have hlp1 : (0 : Int) < (lg : Int) := by omega
    go_upto_region 4 with (fail)
    go_cut [24] (fun x24 wc => x24 = .bool (decide (1 < g)) ∧ wc = w3)
    case first =>
      rcases hcase with ⟨hg1, hl, hx⟩ | ⟨hg1, hl, hx⟩ | hl
      · have l1 : ¬ (1 : Int) < (lg : Int) := by omega
        have HD := Lib.hid (show decide (1 < g) = false from decide_eq_false (by omega))
        clear hl hg1
        go_wp2_with (fail)
        go_meet
        case rel => exact ⟨by rw [HD.out], rfl⟩
      · have l1 : ¬ (1 : Int) < (lg : Int) := by omega
        have l2 : (1 : Int) < (g : Int) := by omega
        have HD := Lib.hid (show decide (1 < g) = true from decide_eq_true hg1)
        clear hl hg1
        go_wp2_with (fail)
        go_meet
        case rel => exact ⟨by rw [HD.out], rfl⟩
      · have l1 : (1 : Int) < (lg : Int) := by omega
        have hg1 : 1 < g := by
          rcases Nat.lt_or_ge 1 g with h | h
          · exact h
          · have h9 := dig_length_le (n := g) (k := 1) (by omega)
            rw [← HLG.out] at h9
            omega
        have HD := Lib.hid (show decide (1 < g) = true from decide_eq_true hg1)
        clear hl hg1
        go_wp2_with (fail)
        go_meet
        case rel => exact ⟨by rw [HD.out], rfl⟩
    case rest =>
    obtain ⟨rfl, hwq⟩ := hcut
    rw [← hwq] at MA MBB M1 MB HG
    clear hwq hcase
    rw [← HLG.out] at HG
    go_upto_if 24 with (fail)
    go_cut [1, 2] (fun x1 x2 wc => Aside0 (IsL wc x1 (dig qa)) ∧ Aside0 (IsL wc x2 (dig qb)) ∧ Aside0 (wc.heap[w.heap.size]? = some (.cells #[.bool false, .string ⟨#[]⟩, .string ⟨#[]⟩] 23)) ∧ Aside0 (Below w.heap.size w wc))
    case first =>
      by_cases hg1 : 1 < g
      · rw [decide_eq_true hg1]
        clear hg1
        go_wp2_with (fail)
        refine (DVA.out MA.out HG.out).mono ?_
        rintro e w4 ⟨q1, r1, rfl, hq1, hr1, hb4⟩
        go_wp2_with (fail)
        refine (DVB.out (MBB.out.below hb4) (HG.out.below hb4)).mono ?_
        rintro e w5 ⟨q2, r2, rfl, hq2, hr2, hb5⟩
        go_wp2_with (fail)
        go_meet
        case rel => exact ⟨⟨hq1.below hb5⟩, ⟨hq2⟩, ⟨heap_b hb5 (heap_b hb4 M1.out)⟩, ⟨below_s hb5 (below_s hb4 MB.out)⟩⟩
      · obtain ⟨e1, e2⟩ := E1.out (by omega)
        rw [decide_eq_false hg1]
        clear hg1
        go_wp2_with (fail)
        go_meet
        case rel => exact ⟨by rw [e1]; exact MA, by rw [e2]; exact MBB, ⟨M1.out⟩, MB⟩
    case rest =>
      obtain ⟨h1, h2, h3, h4⟩ := hcut
      clear MA MBB M1 MB HG DVA DVB
      go_wp2_with (fail)
      refine (TA.out h1.out).mono ?_
      rintro e w6 ⟨rfl, hb6⟩
      have P2 := Aside0.mk (h2.out.below hb6)
      have P3 := Lib.hid (heap_b hb6 h3.out)
      have P4 := Aside0.mk (below_s hb6 h4.out)
      clear hb6 h1 h2 h3 h4 TA
      have Q1 := Lib.hid (heap_new w6 (.cells #[.bool n, .string (natB qa), .string ⟨#[]⟩] 23))
      have hz6 := Lib.hid (blk_lt P3.out)
      have P5 := Aside0.mk (P2.out.below (below_alloc (Below.refl w6.heap.size w6) (.cells #[.bool n, .string (natB qa), .string ⟨#[]⟩] 23)))
      have P6 := Lib.hid (heap_old (o := .cells #[.bool n, .string (natB qa), .string ⟨#[]⟩] 23) P3.out)
      have P7 := Aside0.mk (below_alloc P4.out (.cells #[.bool n, .string (natB qa), .string ⟨#[]⟩] 23))
      obtain ⟨w7, hw7⟩ : ∃ w7, w7 = w6.alloc (.cells #[.bool n, .string (natB qa), .string ⟨#[]⟩] 23) := ⟨_, rfl⟩
      rw [← hw7] at P5 P6 P7 Q1
      obtain ⟨bd, c2, rfl, hcase⟩ := isL_top P5.out hb3
      obtain ⟨ln, hln⟩ : ∃ ln, ln = (dig qb).length := ⟨_, rfl⟩
      rw [← hln] at hcase ⊢
      have HLN := Lib.hid hln
      have hlp : 0 < ln := by rw [hln]; exact dig_len_pos hb3
      clear hln
      have hlp2 : (0 : Int) < (ln : Int) := by omega
      have hz7 := Lib.hid (show w7.heap.size = w6.heap.size + 1 by rw [hw7]; exact size_new _ _)
      generalize hsa : natB qa = sa at *
      go_upto_region 8 with (fail)
      rw [← hw7]
      clear hw7
      go_cut [49] (fun x24 wc => x24 = .bool (decide (1 < qb)) ∧ wc = w7)
      case first =>
        rcases hcase with ⟨hg1, hl, hx⟩ | ⟨hg1, hl, hx⟩ | hl
        · have l1 : ¬ (1 : Int) < (ln : Int) := by omega
          have HD := Lib.hid (show decide (1 < qb) = false from decide_eq_false (by omega))
          clear hl hg1
          go_wp2_with (fail)
          go_meet
          case rel => exact ⟨by rw [HD.out], rfl⟩
        · have l1 : ¬ (1 : Int) < (ln : Int) := by omega
          have l2 : (1 : Int) < (qb : Int) := by omega
          have HD := Lib.hid (show decide (1 < qb) = true from decide_eq_true hg1)
          clear hl hg1
          go_wp2_with (fail)
          go_meet
          case rel => exact ⟨by rw [HD.out], rfl⟩
        · have l1 : (1 : Int) < (ln : Int) := by omega
          have hg1 : 1 < qb := by
            rcases Nat.lt_or_ge 1 qb with h | h
            · exact h
            · have h9 := dig_length_le (n := qb) (k := 1) (by omega)
              rw [← HLN.out] at h9
              omega
          have HD := Lib.hid (show decide (1 < qb) = true from decide_eq_true hg1)
          clear hl hg1
          go_wp2_with (fail)
          go_meet
          case rel => exact ⟨by rw [HD.out], rfl⟩
      case rest =>
      obtain ⟨rfl, hwq⟩ := hcut
      rw [← hwq] at P5 P6 P7 Q1
      clear hwq hcase
      rw [← HLN.out] at P5
      obtain ⟨⟨e0, e1, e2⟩, e3, e4, e5⟩ := cells3 P6.out
      have hne1 : w.heap.size ≠ w6.heap.size := by have := hz6.out; omega
      have hne2 : w6.heap.size ≠ w.heap.size := hne1.symm
      by_cases hg1 : 1 < qb
      · rw [decide_eq_true hg1]
        have hs1 := Lib.hid (show sD = natB qb by rw [HSD.out, if_neg (by omega)])
        clear hg1
        go_wp2_with (fail)
        refine (TB.out P5.out).mono ?_
        rintro e w9 ⟨rfl, hb9⟩
        have R1 := Lib.hid (heap_b hb9 Q1.out)
        have R6 := Lib.hid (heap_b hb9 P6.out)
        have R7 := Aside0.mk (below_s hb9 P7.out)
        obtain ⟨⟨f0, f1, f2⟩, f3, f4, f5⟩ := cells3 R1.out
        obtain ⟨⟨o0, o1, o2⟩, o3, o4, o5⟩ := cells3 R6.out
        clear e0 e1 e2 e3 e4 e5 hb9 P5 P6 P7 Q1
        generalize natB qb = sb at *
        go_wp2_with (fail)
        refine bodyPost_ret (v := RV n sa sb) ?_ rfl ⟨by rw [hs1.out, hsa], ?_⟩
        · exact results_q rfl _ _ w.heap.size rfl (by go_simp) (by go_simp) (by go_simp)
        · exact below_set (below_set (below_set (below_set R7.out (by have := hz6.out; omega)) (Nat.le_refl _)) (Nat.le_refl _)) (Nat.le_refl _)
      · rw [decide_eq_false hg1]
        have hs1 := Lib.hid (show sD = ⟨#[]⟩ by rw [HSD.out, if_pos (by omega)])
        clear hg1
        obtain ⟨⟨f0, f1, f2⟩, f3, f4, f5⟩ := cells3 Q1.out
        go_wp2_with (fail)
        refine bodyPost_ret (v := RV n sa ⟨#[]⟩) ?_ rfl ⟨by rw [hs1.out, hsa], ?_⟩
        · exact results_q rfl _ _ w.heap.size rfl (by go_simp) (by go_simp) (by go_simp)
        · exact below_set (below_set (below_set P7.out (Nat.le_refl _)) (Nat.le_refl _)) (Nat.le_refl _)
end Go.Proofs.YtnimgfnknlkkdaaGreatDoor.H
set_option linter.unusedVariables false
set_option linter.unusedSimpArgs false
open Go
namespace Go.Proofs.YtnimgfnknlkkdaaGreatDoor.H
open Go Go.RowKit Go.Proofs.YtnimgfnknlkkdaaGreatDoorW.PrintWords Go.Proofs.YtnimgfnknlkkdaaGreatDoorW.PrintLast Go.Proofs.YtnimgfnknlkkdaaGreatDoorW.PrintMore Go.Proofs.YtnimgfnknlkkdaaGreatDoor.Num
/-! insolvencyref1: Make Fraction; law 0: Ratio -/
set_option maxRecDepth 100000 in
set_option maxHeartbeats 1000000 in
theorem ref_Make (n : Bool) (s t : ByteArray) (w : World) (hs : s.size ≤ 549755813888) (ht : t.size ≤ 549755813888) (h0 : bval t ≠ 0) :
    Calls Tryz.prog 104 #[.bool n, .string s, .string t] w fun e w' => e = .returned (.tuple #[QV (mkQ n (bval s) (bval t)), .bool true]) ∧ Below w.heap.size w w' := by
  have D1 := dig_len_size (s := s) (n := 137438953472) (by omega)
  have D2 := dig_len_size (s := t) (n := 137438953472) (by omega)
  have P1 := Lib.hid (fun w => ref_limbs s w (by omega))
  have P2 := Lib.hid (fun w => ref_limbs t w (by omega))
  generalize bval s = a at *
  generalize bval t = b at *
  have R := Aside0.mk (fun {v1 v2 : Value} {w : World} h1 h2 => ref_reduced n a b v1 v2 w h1 h2 h0 D1 D2)
  have hlp := dig_len_pos h0
  clear hs ht D1 D2
  generalize mkQ n a b = z at *
  simp only [QV] at R ⊢
  generalize canS z = zS at *
  generalize canN z = zN at *
  generalize canD z = zD at *
  have N1 := Lib.hid (heap_new w (.cells #[.bool false, .string ⟨#[]⟩, .string ⟨#[]⟩] 23))
  have NB := Aside0.mk (below_alloc (Below.refl w.heap.size w) (.cells #[.bool false, .string ⟨#[]⟩, .string ⟨#[]⟩] 23))
  obtain ⟨wz, hwz⟩ : ∃ wz, wz = w.alloc (.cells #[.bool false, .string ⟨#[]⟩, .string ⟨#[]⟩] 23) := ⟨_, rfl⟩
  rw [← hwz] at N1 NB
  go_enter Tryz.func104, Tryz.ntmps104
  go_wp2_with (fail)
  rw [← hwz]
  clear hwz
  refine (P2.out _).mono ?_
  rintro e w1 ⟨v1, rfl, h1, hb1⟩
  have M1 := Lib.hid (heap_b hb1 N1.out)
  have MB := Aside0.mk (below_s hb1 NB.out)
  have HD := Aside0.mk h1
  obtain ⟨A1, c1, rfl, -, -⟩ := h1
  clear hb1 N1 NB
  generalize hln : (dig b).length = ln at *
  have HLN := Lib.hid hln
  clear hln
  have l1 : ((ln : Int) == 0) = false := by simp; omega
  go_wp2_with (fail)
  refine (P1.out _).mono ?_
  rintro e w2 ⟨v2, rfl, h2, hb2⟩
  have L1 := Lib.hid (heap_b hb2 M1.out)
  have LB := Aside0.mk (below_s hb2 MB.out)
  have HD2 := Aside0.mk (HD.out.below hb2)
  clear hb2 M1 MB HD
  go_wp2_with (fail)
  refine (R.out h2 HD2.out).mono ?_
  rintro e w3 ⟨rfl, hb3⟩
  obtain ⟨⟨d0, d1, d2⟩, d3, d4, d5⟩ := cells3 (heap_b hb3 L1.out)
  have KB := Aside0.mk (below_s hb3 LB.out)
  clear hb3 L1 LB
  go_wp2_with (fail)
  refine bodyPost_ret (v := .tuple #[RV zS zN zD, .bool true]) ?_ rfl ⟨rfl, ?_⟩
  · exact results_qb rfl _ _ w.heap.size rfl (by rfl) (by go_simp) (by go_simp) (by go_simp)
  · exact below_set (below_set (below_set KB.out (Nat.le_refl _)) (Nat.le_refl _)) (Nat.le_refl _)
theorem mkQ_nat (a b : Nat) : mkQ false a b = (a : Rat) / (b : Rat) := by
  rw [mkQ]
  simp only [Bool.false_eq_true, if_false]
  rw [Rat.mkRat_eq_div]
  rfl
set_option maxRecDepth 100000 in
set_option maxHeartbeats 1000000 in
theorem ref_Fraction (a b : Nat) (w : World) (ha : a < 9223372036854775808) (hb : b < 9223372036854775808) (h0 : b ≠ 0) :
    Calls Tryz.prog 64 #[.int .i64 a, .int .i64 b] w fun e w' => e = .returned (.tuple #[QV (mkQ false a b), .bool true]) ∧ Below w.heap.size w w' := by
  have S1 := Lib.hid (fun w => ref_size a w (by omega) (by omega))
  have S2 := Lib.hid (fun w => ref_size b w (by omega) (by omega))
  have U1 := Lib.hid (fun w => ref_FromUint a w (by omega) (by omega))
  have U2 := Lib.hid (fun w => ref_FromUint b w (by omega) (by omega))
  simp only [Int.toNat_natCast] at U1 U2
  have z1 : (natB a).size ≤ 8 := natB_size_le (by omega)
  have z2 : (natB b).size ≤ 8 := natB_size_le (by omega)
  have MK := Lib.hid (fun w => ref_Make false (natB a) (natB b) w (by omega) (by omega) (by rw [bval_natB]; exact h0))
  simp only [bval_natB] at MK
  have g1 : ¬ (a : Int) < 0 := by omega
  have g2 : ¬ (b : Int) < 0 := by omega
  clear ha hb h0 z1 z2
  generalize mkQ false a b = z at *
  simp only [QV] at MK ⊢
  generalize canS z = zS at *
  generalize canN z = zN at *
  generalize canD z = zD at *
  generalize natB a = sa at *
  generalize natB b = sb at *
  have N1 := Lib.hid (heap_new w (.cells #[.bool false, .string ⟨#[]⟩, .string ⟨#[]⟩] 23))
  have NB := Aside0.mk (below_alloc (Below.refl w.heap.size w) (.cells #[.bool false, .string ⟨#[]⟩, .string ⟨#[]⟩] 23))
  obtain ⟨wz, hwz⟩ : ∃ wz, wz = w.alloc (.cells #[.bool false, .string ⟨#[]⟩, .string ⟨#[]⟩] 23) := ⟨_, rfl⟩
  rw [← hwz] at N1 NB
  go_enter Tryz.func64, Tryz.ntmps64
  go_wp2_with (fail)
  rw [← hwz]
  clear hwz
  refine (S1.out _).mono ?_
  rintro e w1 ⟨rfl, hw1⟩
  rw [hw1]
  clear hw1
  go_wp2_with (fail)
  refine (U1.out _).mono ?_
  rintro e w2 ⟨rfl, hb2⟩
  have M1 := Lib.hid (heap_b hb2 N1.out)
  have MB := Aside0.mk (below_s hb2 NB.out)
  clear hb2 N1 NB
  go_wp2_with (fail)
  refine (S2.out _).mono ?_
  rintro e w3 ⟨rfl, hw3⟩
  rw [hw3]
  clear hw3
  go_wp2_with (fail)
  refine (U2.out _).mono ?_
  rintro e w4 ⟨rfl, hb4⟩
  have L1 := Lib.hid (heap_b hb4 M1.out)
  have LB := Aside0.mk (below_s hb4 MB.out)
  clear hb4 M1 MB
  go_wp2_with (fail)
  refine (MK.out _).mono ?_
  rintro e w5 ⟨rfl, hb5⟩
  obtain ⟨⟨d0, d1, d2⟩, d3, d4, d5⟩ := cells3 (heap_b hb5 L1.out)
  have KB := Aside0.mk (below_s hb5 LB.out)
  clear hb5 L1 LB
  go_wp2_with (fail)
  refine bodyPost_ret (v := .tuple #[RV zS zN zD, .bool true]) ?_ rfl ⟨rfl, ?_⟩
  · exact results_qb rfl _ _ w.heap.size rfl (by rfl) (by go_simp) (by go_simp) (by go_simp)
  · exact below_set (below_set (below_set KB.out (Nat.le_refl _)) (Nat.le_refl _)) (Nat.le_refl _)
set_option maxRecDepth 100000 in
set_option maxHeartbeats 1000000 in
theorem law_Ratio (a b : Nat) (w : World) (ha : a < 9223372036854775808) (hb : b < 9223372036854775808) (h0 : b ≠ 0) :
    Calls Tryz.prog 35 #[.int .i64 a, .int .i64 b] w fun e w' => e = .returned (QV ((a : Rat) / (b : Rat))) ∧ Below w.heap.size w w' := by
  have F := Lib.hid (fun w => ref_Fraction a b w ha hb h0)
  rw [mkQ_nat] at F
  clear ha hb h0
  generalize (a : Rat) / (b : Rat) = z at *
  simp only [QV] at F ⊢
  generalize canS z = zS at *
  generalize canN z = zN at *
  generalize canD z = zD at *
  have N1 := Lib.hid (heap_new w (.cells #[.bool false, .string ⟨#[]⟩, .string ⟨#[]⟩] 23))
  have NB := Aside0.mk (below_alloc (Below.refl w.heap.size w) (.cells #[.bool false, .string ⟨#[]⟩, .string ⟨#[]⟩] 23))
  obtain ⟨wz, hwz⟩ : ∃ wz, wz = w.alloc (.cells #[.bool false, .string ⟨#[]⟩, .string ⟨#[]⟩] 23) := ⟨_, rfl⟩
  rw [← hwz] at N1 NB
  go_enter Tryz.func35, Tryz.ntmps35
  go_wp2_with (fail)
  rw [← hwz]
  clear hwz
  refine (F.out _).mono ?_
  rintro e w1 ⟨rfl, hb1⟩
  have hl := Lib.hid (blk_lt (heap_b hb1 N1.out))
  have K1 := Lib.hid (heap_old (o := .cells #[.bool zS, .string zN, .string zD] 23) (heap_b hb1 N1.out))
  obtain ⟨⟨d0, d1, d2⟩, d3, d4, d5⟩ := cells3 K1.out
  have KB := Aside0.mk (below_s hb1 NB.out)
  clear hb1 N1 NB
  go_wp2_with (fail)
  refine bodyPost_ret (v := RV zS zN zD) ?_ rfl ⟨rfl, ?_⟩
  · exact results_q rfl _ _ w.heap.size rfl (by go_simp) (by go_simp) (by go_simp)
  · exact below_set (below_set (below_set (below_alloc KB.out _) (Nat.le_refl _)) (Nat.le_refl _)) (Nat.le_refl _)
end Go.Proofs.YtnimgfnknlkkdaaGreatDoor.H
set_option linter.unusedVariables false
set_option linter.unusedSimpArgs false
open Go
namespace Go.Proofs.YtnimgfnknlkkdaaGreatDoor.H
open Go Go.RowKit Go.Proofs.YtnimgfnknlkkdaaGreatDoorW.PrintWords Go.Proofs.YtnimgfnknlkkdaaGreatDoorW.PrintLast Go.Proofs.YtnimgfnknlkkdaaGreatDoorW.PrintMore Go.Proofs.YtnimgfnknlkkdaaGreatDoor.Num
/-! law 17: awake -/
/-- An estate's value: the two claims, agreements gs. -/
def IsE (w : World) (V : Value) (gs : List (List (List PartV))) : Prop := ∃ A c B d, V = EV zR A twoC.length c B gs.length d ∧ ReadsE w zR twoC gs A c B d
theorem IsE.below {w w1 : World} {V : Value} {gs : List (List (List PartV))} (h : IsE w V gs) (hb : Below w.heap.size w w1) : IsE w1 V gs := by
  obtain ⟨A, c, B, d, e, hR⟩ := h
  exact ⟨A, c, B, d, e, hR.below hb⟩
theorem two_is (ts : List (List PartV)) (T : Option Addr) (tc : Nat) (w : World) (hT : kTier.C w T ts.length ts) (htc : ts.length ≤ tc) :
    Calls Tryz.prog 41 #[.slice T ts.length tc] w fun e w' => ∃ V, e = .returned V ∧ IsE w' V (twoG ts) ∧ Below w.heap.size w w' := by
  refine (lw_two ts T tc w hT htc).mono ?_
  rintro e w' ⟨A, B, rfl, hR, hb⟩
  exact ⟨_, rfl, ⟨A, 2, B, _, rfl, hR⟩, hb⟩
theorem pays_is {V : Value} {gs : List (List (List PartV))} {n : Nat} {a b : Rat} (w : World) (hV : IsE w V gs) (h : AwakeOk gs n a b) :
    Calls Tryz.prog 40 #[V, .int .i64 n, RQ a, RQ b] w fun e w' => e = .returned (.bool true) ∧ Below w.heap.size w w' := by
  obtain ⟨A, c, B, d, rfl, hR⟩ := hV
  exact lw_pays zR twoC gs A c B d n a b w hR h.short h.err h.lay h.del h.hn h.okn h.res
theorem part1 {W : World} {g : Nat} {x : PartV} {cs : List Value} (hb : W.heap[g]? = some (.cells cs.toArray 38)) (h : kPart.K W x cs) : kPart.C W (some ⟨g, 0, none⟩) 1 [x] :=
  C_reps (xs := [x]) hb (Reps.snoc (Reps.none _ _) h (kPart.K_len h)) (Nat.le_of_ble_eq_true rfl)
theorem tier2 {W : World} {g : Nat} {A B : Option Addr} {c d n m : Nat} {xs ys : List PartV} (hb : W.heap[g]? = some (.cells #[.slice A n c, .slice B m d] 36)) (h1 : kPart.C W A n xs) (h2 : kPart.C W B m ys) (hc : n ≤ c) (hd : m ≤ d) : kTier.C W (some ⟨g, 0, none⟩) 2 [xs, ys] := by
  obtain rfl := Kd.C_len h1
  obtain rfl := Kd.C_len h2
  exact C_reps (xs := [xs, ys]) (cs := [.slice A xs.length c, .slice B ys.length d]) hb (Reps.snoc (Reps.snoc (Reps.none _ _) (show kTier.K W xs [.slice A xs.length c] from ⟨A, c, rfl, hc, h1⟩) rfl) (show kTier.K W ys [.slice B ys.length d] from ⟨B, d, rfl, hd, h2⟩) rfl) (Nat.le_of_ble_eq_true rfl)
/-- The four rows of parts that awake makes, and the frame. -/
structure Aw (w w' : World) (g3 g4 : Nat) : Prop where
  b : Below w.heap.size w w'
  r0 : kPart.R 38 w' w.heap.size (fun _ => True) (.slice (some ⟨w.heap.size, 0, none⟩) 1 1) [pP0]
  c1 : kPart.C w' (some ⟨w.heap.size + 1, 0, none⟩) 1 [pP1]
  c3 : kPart.C w' (some ⟨g3, 0, none⟩) 1 [pP15]
  c4 : kPart.C w' (some ⟨g4, 0, none⟩) 1 [pP12]
  lt : w.heap.size < g4
theorem Aw.below {w w1 w2 : World} {g3 g4 : Nat} (h : Aw w w1 g3 g4) (hb : Below w1.heap.size w1 w2) : Aw w w2 g3 g4 :=
  ⟨below_s hb h.b, Kd.R_below h.r0 hb, Kd.C_below h.c1 hb, Kd.C_below h.c3 hb, Kd.C_below h.c4 hb, h.lt⟩
theorem Aw.c0 {w w1 : World} {g3 g4 : Nat} (h : Aw w w1 g3 g4) : kPart.C w1 (some ⟨w.heap.size, 0, none⟩) 1 [pP0] := (Kd.R_reads' h.r0).2.2
theorem part_grown {W W1 : World} {row : Option Nat} {g : Nat} {x : PartV} (h : kPart.C W (some ⟨g, 0, none⟩) 1 [x]) (hg : W.grownBy W1 row) (hne : some g ≠ row) : kPart.C W1 (some ⟨g, 0, none⟩) 1 [x] := by
  obtain ⟨h1, h2, h3⟩ := h
  refine ⟨h1, h2, fun hp => ?_⟩
  obtain ⟨ad, e, hc⟩ := h3 hp
  injection e with e
  subst e
  refine ⟨_, rfl, fun j p hj => ?_⟩
  obtain ⟨c, hcl, hK, hcell⟩ := hc j p hj
  refine ⟨c, hcl, by rw [kPart_open hK]; exact kPart_K W1 p, fun i u hu => ?_⟩
  have h9 := hcell i u hu
  rw [add_plain] at h9 ⊢
  exact cell_same (hg.block g (World.block_lt_of_cell? W _ h9) hne) h9
set_option maxRecDepth 100000 in
set_option maxHeartbeats 1000000 in
theorem lw_awake (w : World) : Calls Tryz.prog 15 #[] w fun e w' => e = .returned (.bool true) ∧ Below w.heap.size w w' := by
  have I15 := Lib.hid (fun w => rational_Int 15 w (by decide))
  have I12 := Lib.hid (fun w => rational_Int 12 w (by decide))
  have I30 := Lib.hid (fun w => rational_Int 30 w (by decide))
  have I20 := Lib.hid (fun w => rational_Int 20 w (by decide))
  have I10 := Lib.hid (fun w => rational_Int 10 w (by decide))
  have I40 := Lib.hid (fun w => rational_Int 40 w (by decide))
  have I35 := Lib.hid (fun w => rational_Int 35 w (by decide))
  have I60 := Lib.hid (fun w => rational_Int 60 w (by decide))
  simp only [QV] at I15 I12 I30 I20 I10 I40 I35 I60
  rw [show ((15 : Nat) : Rat) = 15 from rfl, show ((15 : Nat) : Int) = 15 from rfl] at I15
  rw [show ((12 : Nat) : Rat) = 12 from rfl, show ((12 : Nat) : Int) = 12 from rfl] at I12
  rw [show ((30 : Nat) : Rat) = 30 from rfl, show ((30 : Nat) : Int) = 30 from rfl] at I30
  rw [show ((20 : Nat) : Rat) = 20 from rfl, show ((20 : Nat) : Int) = 20 from rfl] at I20
  rw [show ((10 : Nat) : Rat) = 10 from rfl, show ((10 : Nat) : Int) = 10 from rfl] at I10
  rw [show ((40 : Nat) : Rat) = 40 from rfl, show ((40 : Nat) : Int) = 40 from rfl] at I40
  rw [show ((35 : Nat) : Rat) = 35 from rfl, show ((35 : Nat) : Int) = 35 from rfl] at I35
  rw [show ((60 : Nat) : Rat) = 60 from rfl, show ((60 : Nat) : Int) = 60 from rfl] at I60
  have T0 := Aside0.mk (fun w => two_is [] none 0 w (Kd.C_nil _ _) (Nat.le_refl _))
  have T2 := Aside0.mk (fun (w : World) (g : Nat) (x y : List PartV) (h : kTier.C w (some ⟨g, 0, none⟩) 2 [x, y]) => two_is [x, y] (some ⟨g, 0, none⟩) 2 w h (Nat.le_refl 2))
  have Q0 := Aside0.mk (fun {V : Value} (w : World) (h : IsE w V (twoG [])) => pays_is w h awake0)
  have Q1 := Aside0.mk (fun {V : Value} (w : World) (h : IsE w V (twoG [[pP1], [pP0]])) => pays_is w h awake1)
  have Q2 := Aside0.mk (fun {V : Value} (w : World) (h : IsE w V (twoG [[pP15], [pP0]])) => pays_is w h awake2)
  have Q3 := Aside0.mk (fun {V : Value} (w : World) (h : IsE w V (twoG [[pP15], [pP0]])) => pays_is w h awake3)
  have Q4 := Aside0.mk (fun {V : Value} (w : World) (h : IsE w V (twoG [[pP12], [pP0, pP1]])) => pays_is w h awake4)
  have RA := Lib.hid (fun w => law_Ratio 114 5 w (by decide) (by decide) (by decide))
  have RB := Lib.hid (fun w => law_Ratio 76 5 w (by decide) (by decide) (by decide))
  simp only [QV, RQ] at RA RB Q0 Q1 Q2 Q3 Q4
  rw [show ((114 : Nat) : Rat) / ((5 : Nat) : Rat) = 114 / 5 from rfl, show ((114 : Nat) : Int) = 114 from rfl, show ((5 : Nat) : Int) = 5 from rfl] at RA
  rw [show ((76 : Nat) : Rat) / ((5 : Nat) : Rat) = 76 / 5 from rfl, show ((76 : Nat) : Int) = 76 from rfl, show ((5 : Nat) : Int) = 5 from rfl] at RB
  rw [show ((50 : Nat) : Int) = 50 from rfl] at Q0 Q1 Q2 Q4
  rw [show ((95 : Nat) : Int) = 95 from rfl] at Q3
  have K0 := Aside0.mk (fun W => kPart_K W pP0)
  have M0 := Aside0.mk (fun W => kPart_mk W w.heap.size (fun _ => True) pP0)
  have K1 := Aside0.mk (fun W => kPart_K W pP1)
  have K3 := Aside0.mk (fun W => kPart_K W pP15)
  have K4 := Aside0.mk (fun W => kPart_K W pP12)
  have R0 := Aside0.mk (fun (W : World) (h : w.heap.size ≤ W.heap.size) => (show kPart.R 38 (W.alloc (.cells #[.int .i64 0, .bool false, .bool false, .string ⟨#[]⟩, .string ⟨#[]⟩] 38)) w.heap.size (fun _ => True) (.slice (some ⟨W.heap.size, 0, none⟩) 1 1) [pP0] from
    ⟨fun _ _ => trivial, OwnRow.lit W w.heap.size (ps := [pP0]) (inner := [.int .i64 0, .bool false, .bool false, .string ⟨#[]⟩, .string ⟨#[]⟩]) (Reps.snoc (Reps.none _ _) (kPart_mk _ _ _ pP0) rfl) h (Nat.le_of_ble_eq_true rfl)⟩))
  have C1 := Aside0.mk (fun (W : World) (g : Nat) (hb : W.heap[g]? = some (.cells #[.int .i64 1, .bool false, .bool false, .string ⟨#[]⟩, .string ⟨#[]⟩] 38)) => part1 (x := pP1) (cs := [.int .i64 1, .bool false, .bool false, .string ⟨#[]⟩, .string ⟨#[]⟩]) hb (kPart_K W pP1))
  have C3 := Aside0.mk (fun (W : World) (g : Nat) (hb : W.heap[g]? = some (.cells #[.int .i64 1, .bool true, .bool (canS 15), .string (canN 15), .string (canD 15)] 38)) => part1 (x := pP15) (cs := [.int .i64 1, .bool true, .bool (canS 15), .string (canN 15), .string (canD 15)]) hb (kPart_K W pP15))
  have C4 := Aside0.mk (fun (W : World) (g : Nat) (hb : W.heap[g]? = some (.cells #[.int .i64 (-1), .bool true, .bool (canS 12), .string (canN 12), .string (canD 12)] 38)) => part1 (x := pP12) (cs := [.int .i64 (-1), .bool true, .bool (canS 12), .string (canN 12), .string (canD 12)]) hb (kPart_K W pP12))
  clear K0 M0 K1 K3 K4
  generalize canS 15 = s15 at *
  generalize canN 15 = n15 at *
  generalize canD 15 = d15 at *
  generalize canS 12 = s12 at *
  generalize canN 12 = n12 at *
  generalize canD 12 = d12 at *
  generalize canS 30 = s30 at *
  generalize canN 30 = n30 at *
  generalize canD 30 = d30 at *
  generalize canS 20 = s20 at *
  generalize canN 20 = n20 at *
  generalize canD 20 = d20 at *
  generalize canS 10 = s10 at *
  generalize canN 10 = n10 at *
  generalize canD 10 = d10 at *
  generalize canS 40 = s40 at *
  generalize canN 40 = n40 at *
  generalize canD 40 = d40 at *
  generalize canS 35 = s35 at *
  generalize canN 35 = n35 at *
  generalize canD 35 = d35 at *
  generalize canS 60 = s60 at *
  generalize canN 60 = n60 at *
  generalize canD 60 = d60 at *
  generalize canS (114 / 5) = sA at *
  generalize canN (114 / 5) = nA at *
  generalize canD (114 / 5) = dA at *
  generalize canS (76 / 5) = sB at *
  generalize canN (76 / 5) = nB at *
  generalize canD (76 / 5) = dB at *
  have f0 := R0.out w (Nat.le_refl _)
  have b1 := below_alloc (Below.refl w.heap.size w) (.cells #[.int .i64 0, .bool false, .bool false, .string ⟨#[]⟩, .string ⟨#[]⟩] 38)
  have b2 := below_alloc (Below.refl (w.alloc (.cells #[.int .i64 0, .bool false, .bool false, .string ⟨#[]⟩, .string ⟨#[]⟩] 38)).heap.size (w.alloc (.cells #[.int .i64 0, .bool false, .bool false, .string ⟨#[]⟩, .string ⟨#[]⟩] 38))) (.cells #[.int .i64 1, .bool false, .bool false, .string ⟨#[]⟩, .string ⟨#[]⟩] 38)
  have hs := size_new w (.cells #[.int .i64 0, .bool false, .bool false, .string ⟨#[]⟩, .string ⟨#[]⟩] 38)
  have F1 := Lib.hid (heap_new (w.alloc (.cells #[.int .i64 0, .bool false, .bool false, .string ⟨#[]⟩, .string ⟨#[]⟩] 38)) (.cells #[.int .i64 1, .bool false, .bool false, .string ⟨#[]⟩, .string ⟨#[]⟩] 38))
  rw [hs] at F1
  have F0 := Aside0.mk (Kd.R_below f0 b2)
  have FB := Aside0.mk (below_s b2 b1)
  obtain ⟨wa, hwa⟩ : ∃ wa, wa = (w.alloc (.cells #[.int .i64 0, .bool false, .bool false, .string ⟨#[]⟩, .string ⟨#[]⟩] 38)).alloc (.cells #[.int .i64 1, .bool false, .bool false, .string ⟨#[]⟩, .string ⟨#[]⟩] 38) := ⟨_, rfl⟩
  rw [← hwa] at F0 F1 FB
  clear f0 b1 b2 hs
  go_enter Tryz.func15, Tryz.ntmps15
  go_wp2_with (fail)
  rw [← hwa]
  clear hwa
  refine (I15.out _).mono ?_
  rintro e w1 ⟨rfl, hb1⟩
  have G0 := Aside0.mk (Kd.R_below F0.out hb1)
  have G1 := Lib.hid (heap_b hb1 F1.out)
  have GB := Aside0.mk (below_s hb1 FB.out)
  clear hb1 F0 F1 FB
  go_wp2_with (fail)
  have H3 := Lib.hid (heap_new w1 (.cells #[.int .i64 1, .bool true, .bool s15, .string n15, .string d15] 38))
  have hal := below_alloc (Below.refl w1.heap.size w1) (.cells #[.int .i64 1, .bool true, .bool s15, .string n15, .string d15] 38)
  have H0 := Aside0.mk (Kd.R_below G0.out hal)
  have H1 := Lib.hid (heap_b hal G1.out)
  have HB := Aside0.mk (below_s hal GB.out)
  clear hal G0 G1 GB
  refine (I12.out _).mono ?_
  rintro e w2 ⟨rfl, hb2⟩
  have G0 := Aside0.mk (Kd.R_below H0.out hb2)
  have G1 := Lib.hid (heap_b hb2 H1.out)
  have G3 := Lib.hid (heap_b hb2 H3.out)
  have GB := Aside0.mk (below_s hb2 HB.out)
  clear hb2 H0 H1 H3 HB
  go_wp2_with (fail)
  have H4 := Lib.hid (heap_new w2 (.cells #[.int .i64 (-1), .bool true, .bool s12, .string n12, .string d12] 38))
  have hal := below_alloc (Below.refl w2.heap.size w2) (.cells #[.int .i64 (-1), .bool true, .bool s12, .string n12, .string d12] 38)
  have AW := Aside0.mk (show Aw w (w2.alloc (.cells #[.int .i64 (-1), .bool true, .bool s12, .string n12, .string d12] 38)) w1.heap.size w2.heap.size from ⟨below_s hal GB.out, Kd.R_below G0.out hal, C1.out _ _ (heap_b hal G1.out), C3.out _ _ (heap_b hal G3.out), C4.out _ _ H4.out, Nat.lt_trans (Nat.lt_succ_self _) (blk_lt G1.out)⟩)
  clear hal G0 G1 G3 GB H4 C1 C3 C4 R0
  obtain ⟨wq, hwq⟩ : ∃ wq, wq = w2.alloc (.cells #[.int .i64 (-1), .bool true, .bool s12, .string n12, .string d12] 38) := ⟨_, rfl⟩
  rw [← hwq] at AW
  rw [← hwq]
  clear hwq
  generalize w1.heap.size = g3 at *
  generalize w2.heap.size = g4 at *
  refine (T0.out _).mono ?_
  rintro e wi1 ⟨V1, rfl, hE, hb⟩
  replace AW := Aside0.mk (AW.out.below hb)
  have HE := Aside0.mk hE
  clear hb hE
  go_wp2_with (fail)
  refine (I30.out _).mono ?_
  rintro e wi2 ⟨rfl, hb⟩
  replace AW := Aside0.mk (AW.out.below hb)
  replace HE := Aside0.mk (HE.out.below hb)
  clear hb
  go_wp2_with (fail)
  refine (I20.out _).mono ?_
  rintro e wi3 ⟨rfl, hb⟩
  replace AW := Aside0.mk (AW.out.below hb)
  replace HE := Aside0.mk (HE.out.below hb)
  clear hb
  go_wp2_with (fail)
  refine (Q0.out _ HE.out).mono ?_
  rintro e wi4 ⟨rfl, hb⟩
  replace AW := Aside0.mk (AW.out.below hb)
  clear hb HE
  go_wp2_with (fail)
  have hal := below_alloc (Below.refl wi4.heap.size wi4) (.cells #[.slice (some ⟨w.heap.size + 1, 0, none⟩) 1 1, .slice (some ⟨w.heap.size, 0, none⟩) 1 1] 36)
  have hnw := heap_new wi4 (.cells #[.slice (some ⟨w.heap.size + 1, 0, none⟩) 1 1, .slice (some ⟨w.heap.size, 0, none⟩) 1 1] 36)
  replace AW := Aside0.mk (AW.out.below hal)
  have HT := Aside0.mk (tier2 hnw (AW.out.c1) (AW.out.c0) (by decide) (by decide))
  refine (T2.out _ _ _ _ HT.out).mono ?_
  rintro e wi5 ⟨V5, rfl, hE, hb⟩
  replace AW := Aside0.mk (AW.out.below hb)
  have HE := Aside0.mk hE
  clear hb hE hal hnw HT
  go_wp2_with (fail)
  refine (I10.out _).mono ?_
  rintro e wi6 ⟨rfl, hb⟩
  replace AW := Aside0.mk (AW.out.below hb)
  replace HE := Aside0.mk (HE.out.below hb)
  clear hb
  go_wp2_with (fail)
  refine (I40.out _).mono ?_
  rintro e wi7 ⟨rfl, hb⟩
  replace AW := Aside0.mk (AW.out.below hb)
  replace HE := Aside0.mk (HE.out.below hb)
  clear hb
  go_wp2_with (fail)
  refine (Q1.out _ HE.out).mono ?_
  rintro e wi8 ⟨rfl, hb⟩
  replace AW := Aside0.mk (AW.out.below hb)
  clear hb HE
  go_wp2_with (fail)
  have hal := below_alloc (Below.refl wi8.heap.size wi8) (.cells #[.slice (some ⟨g3, 0, none⟩) 1 1, .slice (some ⟨w.heap.size, 0, none⟩) 1 1] 36)
  have hnw := heap_new wi8 (.cells #[.slice (some ⟨g3, 0, none⟩) 1 1, .slice (some ⟨w.heap.size, 0, none⟩) 1 1] 36)
  replace AW := Aside0.mk (AW.out.below hal)
  have HT := Aside0.mk (tier2 hnw (AW.out.c3) (AW.out.c0) (by decide) (by decide))
  refine (T2.out _ _ _ _ HT.out).mono ?_
  rintro e wi9 ⟨V9, rfl, hE, hb⟩
  replace AW := Aside0.mk (AW.out.below hb)
  have HE := Aside0.mk hE
  clear hb hE hal hnw HT
  go_wp2_with (fail)
  refine (I35.out _).mono ?_
  rintro e wi10 ⟨rfl, hb⟩
  replace AW := Aside0.mk (AW.out.below hb)
  replace HE := Aside0.mk (HE.out.below hb)
  clear hb
  go_wp2_with (fail)
  refine (I15.out _).mono ?_
  rintro e wi11 ⟨rfl, hb⟩
  replace AW := Aside0.mk (AW.out.below hb)
  replace HE := Aside0.mk (HE.out.below hb)
  clear hb
  go_wp2_with (fail)
  refine (Q2.out _ HE.out).mono ?_
  rintro e wi12 ⟨rfl, hb⟩
  replace AW := Aside0.mk (AW.out.below hb)
  clear hb HE
  go_wp2_with (fail)
  have hal := below_alloc (Below.refl wi12.heap.size wi12) (.cells #[.slice (some ⟨g3, 0, none⟩) 1 1, .slice (some ⟨w.heap.size, 0, none⟩) 1 1] 36)
  have hnw := heap_new wi12 (.cells #[.slice (some ⟨g3, 0, none⟩) 1 1, .slice (some ⟨w.heap.size, 0, none⟩) 1 1] 36)
  replace AW := Aside0.mk (AW.out.below hal)
  have HT := Aside0.mk (tier2 hnw (AW.out.c3) (AW.out.c0) (by decide) (by decide))
  refine (T2.out _ _ _ _ HT.out).mono ?_
  rintro e wi13 ⟨V13, rfl, hE, hb⟩
  replace AW := Aside0.mk (AW.out.below hb)
  have HE := Aside0.mk hE
  clear hb hE hal hnw HT
  go_wp2_with (fail)
  refine (I60.out _).mono ?_
  rintro e wi14 ⟨rfl, hb⟩
  replace AW := Aside0.mk (AW.out.below hb)
  replace HE := Aside0.mk (HE.out.below hb)
  clear hb
  go_wp2_with (fail)
  refine (I35.out _).mono ?_
  rintro e wi15 ⟨rfl, hb⟩
  replace AW := Aside0.mk (AW.out.below hb)
  replace HE := Aside0.mk (HE.out.below hb)
  clear hb
  go_wp2_with (fail)
  refine (Q3.out _ HE.out).mono ?_
  rintro e wi16 ⟨rfl, hb⟩
  replace AW := Aside0.mk (AW.out.below hb)
  clear hb HE
  have hbw := AW.out.b.size
  have HR0 := Aside0.mk AW.out.r0
  have HN0 := Aside0.mk (show some g4 ≠ (Value.slice (some ⟨w.heap.size, 0, none⟩) 1 1).ownBlock from by have := AW.out.lt; simp [Value.ownBlock]; omega)
  generalize Value.slice (some ⟨w.heap.size, 0, none⟩) 1 1 = V0 at *
  go_wp2_with (at_builtin; go_loud (refine Kd.R_append_rows kPart (Rr := kPart.K wi16) w.heap.size rfl _ _ 36 38 _ 56 rfl Tryz.underlying36 infoPart rfl (by decide) (by decide) _ [pP0] [pP1] (some ⟨w.heap.size + 1, 0, none⟩) 1 1 (fun _ => True) (fun _ => False) (by rfl) (by rfl) HR0.out AW.out.c1 (fun x cs hK => by rw [kPart_open hK]; exact kPart_mk _ _ _ x) (fun _ hk => hk.elim) (fun _ _ => trivial) AW.out.b hbw (by decide) ?_); go_loud (intro v2 w9 hr2 hb2 hg2 _; obtain ⟨A9, c9, rfl, hc9, hC9⟩ : ∃ A c, v2 = .slice A 2 c ∧ 2 ≤ c ∧ kPart.C w9 A 2 [pP0, pP1] := Kd.R_reads hr2; have HA9 := Aside0.mk hC9; have HB9 := Aside0.mk hb2; have H49 := Aside0.mk (part_grown AW.out.c4 hg2 HN0.out); have hc9' := hc9; clear hr2 hb2 hg2 hC9 hc9))
  have hal := below_alloc (Below.refl w9.heap.size w9) (.cells #[.slice (some ⟨g4, 0, none⟩) 1 1, .slice A9 2 c9] 36)
  have hnw := heap_new w9 (.cells #[.slice (some ⟨g4, 0, none⟩) 1 1, .slice A9 2 c9] 36)
  have HT := Aside0.mk (tier2 hnw (Kd.C_below H49.out hal) (Kd.C_below HA9.out hal) (by decide) hc9')
  replace HB9 := Aside0.mk (below_s hal HB9.out)
  clear hal hnw H49 HA9 AW
  refine (T2.out _ _ _ _ HT.out).mono ?_
  rintro e wx1 ⟨V9, rfl, hE, hb⟩
  replace HB9 := Aside0.mk (below_s hb HB9.out)
  have HE := Aside0.mk hE
  clear hb hE HT
  go_wp2_with (fail)
  refine (RA.out _).mono ?_
  rintro e wx2 ⟨rfl, hb⟩
  replace HB9 := Aside0.mk (below_s hb HB9.out)
  replace HE := Aside0.mk (HE.out.below hb)
  clear hb
  go_wp2_with (fail)
  refine (RB.out _).mono ?_
  rintro e wx3 ⟨rfl, hb⟩
  replace HB9 := Aside0.mk (below_s hb HB9.out)
  replace HE := Aside0.mk (HE.out.below hb)
  clear hb
  go_wp2_with (fail)
  refine (Q4.out _ HE.out).mono ?_
  rintro e wx4 ⟨rfl, hb⟩
  replace HB9 := Aside0.mk (below_s hb HB9.out)
  clear hb HE
  go_wp2_with (fail)
  go_ret
  exact ⟨rfl, HB9.out⟩
end Go.Proofs.YtnimgfnknlkkdaaGreatDoor.H
set_option linter.unusedVariables false
set_option linter.unusedSimpArgs false
open Go
namespace Go.Proofs.YtnimgfnknlkkdaaGreatDoor.H
open Go Go.RowKit Go.Proofs.YtnimgfnknlkkdaaGreatDoorW.PrintWords Go.Proofs.YtnimgfnknlkkdaaGreatDoorW.PrintLast Go.Proofs.YtnimgfnknlkkdaaGreatDoorW.PrintMore Go.Proofs.YtnimgfnknlkkdaaGreatDoor.Num
/-! law 0: Few; law 17: Few -/
def FewRes (P : Prop) (e : Ending) : Prop := ∃ b, e = .returned (.bool b) ∧ (b = true → P)
set_option maxRecDepth 100000 in
set_option maxHeartbeats 1000000 in
theorem law_Few (n : Bool) (s t : ByteArray) (w : World) :
    Calls Tryz.prog 37 #[RV n s t] w fun e w' => FewRes (s.size ≤ 24 ∧ t.size ≤ 24) e ∧ Below w.heap.size w w' := by
  have HB := Aside0.mk (below_alloc (Below.refl w.heap.size w) (.cells #[.bool n, .string s, .string t] 23))
  by_cases h1 : s.size ≤ 24
  · have g1 : (s.size : Int) ≤ 24 := by omega
    by_cases h2 : t.size ≤ 24
    · have g2 : (t.size : Int) ≤ 24 := by omega
      go_enter Tryz.func37, Tryz.ntmps37
      go_wp2_with (fail)
      go_ret
      exact ⟨⟨true, rfl, fun _ => ⟨h1, h2⟩⟩, HB.out⟩
    · have g2 : ¬ (t.size : Int) ≤ 24 := by omega
      go_enter Tryz.func37, Tryz.ntmps37
      go_wp2_with (fail)
      go_ret
      exact ⟨⟨false, rfl, fun h => Bool.noConfusion h⟩, HB.out⟩
  · have g1 : ¬ (s.size : Int) ≤ 24 := by omega
    go_enter Tryz.func37, Tryz.ntmps37
    go_wp2_with (fail)
    go_ret
    exact ⟨⟨false, rfl, fun h => Bool.noConfusion h⟩, HB.out⟩
def RatF.few (r : RatF) : Prop := r.num.size ≤ 24 ∧ r.den.size ≤ 24
structure FewE (cash : RatF) (cs : List ClaimV) (gs : List (List (List PartV))) : Prop where
  nc : cs.length ≤ 8
  ng : gs.length ≤ 4
  cash : cash.few
  cl : ∀ i, i < cs.length → (rdC cs i).amount.few
  nt : ∀ j, j < gs.length → (rowAt gs j).length ≤ 30
  np : ∀ j, j < gs.length → ∀ k, k < (rowAt gs j).length → (rowAt (rowAt gs j) k).length ≤ 30
  cap : ∀ j, j < gs.length → ∀ k, k < (rowAt gs j).length → ∀ i, i < (rowAt (rowAt gs j) k).length → (rdP (rowAt (rowAt gs j) k) i).cap.few
set_option maxRecDepth 100000 in
set_option maxHeartbeats 1000000 in
theorem lw_Few (cash : RatF) (cs : List ClaimV) (gs : List (List (List PartV))) (A : Option Addr) (c : Nat) (B : Option Addr) (d : Nat) (w : World) (hR : ReadsE w cash cs gs A c B d) :
    Calls Tryz.prog 14 #[EV cash A cs.length c B gs.length d] w fun e w' => FewRes (FewE cash cs gs) e ∧ Below w.heap.size w w' := by
  have HR := Aside0.mk hR
  have hm1 := hR.rc.2.1
  have hm2 := hR.rg.2.1
  clear hR
  have FW := Lib.hid (fun (r : RatF) w => law_Few r.neg r.num r.den w)
  have F0 := Lib.hid (fun w => FW.out cash w)
  have HF0 := Lib.hid (fun (h : cash.num.size ≤ 24 ∧ cash.den.size ≤ 24) => (show cash.few from h))
  have N1 := Lib.hid (heap_new w (.cells #[.bool cash.neg, .string cash.num, .string cash.den, .slice A cs.length c, .slice B gs.length d] 27))
  have NB := Aside0.mk (below_alloc (Below.refl w.heap.size w) (.cells #[.bool cash.neg, .string cash.num, .string cash.den, .slice A cs.length c, .slice B gs.length d] 27))
  unfold EV
  generalize cash.neg = neg0 at *
  generalize cash.num = num0 at *
  generalize cash.den = den0 at *
  obtain ⟨wz, hwz⟩ : ∃ wz, wz = w.alloc (.cells #[.bool neg0, .string num0, .string den0, .slice A cs.length c, .slice B gs.length d] 27) := ⟨_, rfl⟩
  rw [← hwz] at N1 NB
  by_cases h8 : 8 < cs.length
  · have g : (8 : Int) < (cs.length : Int) := by omega
    rw [hwz] at NB
    go_enter Tryz.func14, Tryz.ntmps14
    go_wp2
    go_ret
    exact ⟨⟨false, rfl, fun h => Bool.noConfusion h⟩, NB.out⟩
  have g8 : ¬ (8 : Int) < (cs.length : Int) := by omega
  by_cases h4 : 4 < gs.length
  · have g : (4 : Int) < (gs.length : Int) := by omega
    rw [hwz] at NB
    go_enter Tryz.func14, Tryz.ntmps14
    go_wp2
    go_ret
    exact ⟨⟨false, rfl, fun h => Bool.noConfusion h⟩, NB.out⟩
  have g4 : ¬ (4 : Int) < (gs.length : Int) := by omega
  go_enter Tryz.func14, Tryz.ntmps14
  go_wp2_with (fail)
  rw [← hwz]
  clear hwz
  refine (F0.out _).mono ?_
  rintro e w1 ⟨⟨b, rfl, hbt⟩, hb1⟩
  have HX := Aside0.mk (heap_b hb1 N1.out)
  have HW := Aside0.mk (below_s hb1 NB.out)
  obtain ⟨a0, a1, a2, a3, a4⟩ := cells5 HX.out
  have HBT := Lib.hid hbt
  clear hb1 N1 NB F0 hbt g8 g4
  cases b
  · go_wp2
    go_ret
    exact ⟨⟨false, rfl, fun h => Bool.noConfusion h⟩, HW.out⟩
  have HC0 := Aside0.mk (HF0.out (HBT.out rfl))
  clear HBT HF0
  go_wp2
  go_loopw [30] (fun v30 w' => ∃ i : Nat, i ≤ cs.length ∧ v30 = .int .i64 i ∧ Aside0 (∀ k, k < i → (rdC cs k).amount.few) ∧ Aside0 (w'.heap[w.heap.size]? = some (.cells #[.bool neg0, .string num0, .string den0, .slice A cs.length c, .slice B gs.length d] 27)) ∧ Aside0 (Below w.heap.size w w')) (fun v30 _ => cs.length - (intOf v30).toNat)
  case atStart => exact ⟨0, Nat.zero_le _, rfl, ⟨fun k hk => by omega⟩, HX, HW⟩
  case round =>
    clear HX HW a0 a1 a2 a3 a4
    obtain ⟨i, hi, rfl, hA, hX, hb⟩ := hrel
    obtain ⟨a0, a1, a2, a3, a4⟩ := cells5 hX.out
    rcases Nat.lt_or_ge i cs.length with hlt | hge
    · obtain ⟨ad, rfl, x0, x1, x2, x3, x4⟩ := at_Claim (HR.out.below hb.out).rc hlt
      have hp0 : (0 : Int) ≤ (i : Int) := by omega
      have hp1 : (i : Int) < (cs.length : Int) := by omega
      have FA := Lib.hid (fun w => FW.out (rdC cs i).amount w)
      have HS := Lib.hid (fun (h : (rdC cs i).amount.num.size ≤ 24 ∧ (rdC cs i).amount.den.size ≤ 24) => (show ∀ k, k < i + 1 → (rdC cs k).amount.few from fun k hk => by
        rcases Nat.lt_or_ge k i with h1 | h1
        · exact hA.out k h1
        · obtain rfl : k = i := by omega
          exact h))
      generalize (rdC cs i).amount.neg = pS at *
      generalize (rdC cs i).amount.num = pN at *
      generalize (rdC cs i).amount.den = pD at *
      generalize (rdC cs i).holder = ph at *
      generalize (rdC cs i).rank = pr at *
      have h3 := below_alloc (Below.refl wr.heap.size wr) (.cells #[.int .i64 ph, .int .i64 pr, .bool pS, .string pN, .string pD] 50)
      have P5 := heap_new wr (.cells #[.int .i64 ph, .int .i64 pr, .bool pS, .string pN, .string pD] 50)
      obtain ⟨s0, s1, s2, s3, s4⟩ := cells5 P5
      have QX := Aside0.mk (heap_b h3 hX.out)
      have QB := Aside0.mk (below_s h3 hb.out)
      clear hA hX hb h3 P5
      go_wp2_with (fail)
      refine (FA.out _).mono ?_
      rintro e w2 ⟨⟨b, rfl, hbt⟩, hb2⟩
      have RX := Aside0.mk (heap_b hb2 QX.out)
      have RB := Aside0.mk (below_s hb2 QB.out)
      have HBT := Lib.hid hbt
      clear hb2 QX QB hbt s0 s1 s2 s3 s4 x0 x1 x2 x3 x4 a0 a1 a2 a3 a4
      cases b
      · go_wp2
        go_ret
        exact ⟨⟨false, rfl, fun h => Bool.noConfusion h⟩, RB.out⟩
      · go_wp2
        go_roundw
        case measure => simp [intOf]; omega
        case rel => exact ⟨i + 1, hlt, by go_num, ⟨HS.out (HBT.out (by first | trivial | rfl))⟩, RX, RB⟩
    · obtain rfl : i = cs.length := by omega
      go_wp2
      go_loopw [42] (fun v42 w' => ∃ j : Nat, j ≤ gs.length ∧ v42 = .int .i64 j ∧ Aside0 (∀ k, k < j → (rowAt gs k).length ≤ 30 ∧ (∀ l, l < (rowAt gs k).length → (rowAt (rowAt gs k) l).length ≤ 30) ∧ ∀ l, l < (rowAt gs k).length → ∀ i, i < (rowAt (rowAt gs k) l).length → (rdP (rowAt (rowAt gs k) l) i).cap.few) ∧ Aside0 (Below w.heap.size w w')) (fun v42 _ => gs.length - (intOf v42).toNat)
      case atStart => exact ⟨0, Nat.zero_le _, rfl, ⟨fun k hk => by omega⟩, hb⟩
      case round =>
        clear hX a0 a1 a2 a3 a4 hb
        have HCL := Aside0.mk hA.out
        clear hA
        obtain ⟨j, hj, rfl, hG, hb⟩ := hrel
        rcases Nat.lt_or_ge j gs.length with hlt | hge
        · obtain ⟨ad, pv, rfl, x0, A8, c8, rfl, hc8, hC8⟩ := at_row HR.out.rg hlt
          replace x0 := pw_cell_below hb.out x0
          have hp0 : (0 : Int) ≤ (j : Int) := by omega
          have hp1 : (j : Int) < (gs.length : Int) := by omega
          have hm8 := hC8.2.1
          have HC8 := Aside0.mk hC8
          have HGS := Lib.hid (fun (h1 : (rowAt gs j).length ≤ 30) (h2 : ∀ l, l < (rowAt gs j).length → (rowAt (rowAt gs j) l).length ≤ 30) (h3 : ∀ l, l < (rowAt gs j).length → ∀ i, i < (rowAt (rowAt gs j) l).length → (rdP (rowAt (rowAt gs j) l) i).cap.few) => (show ∀ k, k < j + 1 → (rowAt gs k).length ≤ 30 ∧ (∀ l, l < (rowAt gs k).length → (rowAt (rowAt gs k) l).length ≤ 30) ∧ ∀ l, l < (rowAt gs k).length → ∀ i, i < (rowAt (rowAt gs k) l).length → (rdP (rowAt (rowAt gs k) l) i).cap.few from fun k hk => by
            rcases Nat.lt_or_ge k j with h4 | h4
            · exact hG.out k h4
            · obtain rfl : k = j := by omega
              exact ⟨h1, h2, h3⟩))
          have h3 := below_alloc (Below.refl wr.heap.size wr) (.cells #[.slice A8 (rowAt gs j).length c8] 35)
          have P5 := Lib.hid (heap_new wr (.cells #[.slice A8 (rowAt gs j).length c8] 35))
          have QB := Aside0.mk (below_s h3 hb.out)
          clear hC8 hc8 hb h3 hG
          generalize rowAt gs j = ts at *
          by_cases h30 : 30 < ts.length
          · have g30 : (30 : Int) < (ts.length : Int) := by omega
            have s0 := blk_cell P5.out 0
            go_wp2
            go_ret
            exact ⟨⟨false, rfl, fun h => Bool.noConfusion h⟩, QB.out⟩
          · have g30 : ¬ (30 : Int) < (ts.length : Int) := by omega
            have s0 := blk_cell P5.out 0
            have H30 := Lib.hid h30
            clear h30
            go_wp2
            clear s0 x0
            go_loopw [53] (fun v53 w' => ∃ l : Nat, l ≤ ts.length ∧ v53 = .int .i64 l ∧ Aside0 (∀ k, k < l → (rowAt ts k).length ≤ 30 ∧ ∀ i, i < (rowAt ts k).length → (rdP (rowAt ts k) i).cap.few) ∧ Aside0 (Below w.heap.size w w')) (fun v53 _ => ts.length - (intOf v53).toNat)
            case atStart => exact ⟨0, Nat.zero_le _, rfl, ⟨fun k hk => by omega⟩, QB⟩
            case round =>
              clear QB P5
              obtain ⟨l, hl, rfl, hT, hb⟩ := hrel
              rcases Nat.lt_or_ge l ts.length with hlt2 | hge2
              · obtain ⟨ad2, pv2, rfl, x0, A9, c9, rfl, hc9, hC9⟩ := at_row HC8.out hlt2
                replace x0 := pw_cell_below hb.out x0
                have hp2 : (0 : Int) ≤ (l : Int) := by omega
                have hp3 : (l : Int) < (ts.length : Int) := by omega
                have hm9 := hC9.2.1
                have HC9 := Aside0.mk hC9
                have HTS := Lib.hid (fun (h1 : (rowAt ts l).length ≤ 30) (h2 : ∀ i, i < (rowAt ts l).length → (rdP (rowAt ts l) i).cap.few) => (show ∀ k, k < l + 1 → (rowAt ts k).length ≤ 30 ∧ ∀ i, i < (rowAt ts k).length → (rdP (rowAt ts k) i).cap.few from fun k hk => by
                  rcases Nat.lt_or_ge k l with h4 | h4
                  · exact hT.out k h4
                  · obtain rfl : k = l := by omega
                    exact ⟨h1, h2⟩))
                have HB9 := Aside0.mk hb.out
                clear hC9 hc9 hT hb
                generalize rowAt ts l = ps at *
                by_cases h30 : 30 < ps.length
                · have g9 : (30 : Int) < (ps.length : Int) := by omega
                  go_wp2
                  go_ret
                  exact ⟨⟨false, rfl, fun h => Bool.noConfusion h⟩, HB9.out⟩
                · have g9 : ¬ (30 : Int) < (ps.length : Int) := by omega
                  have HH30 := Lib.hid h30
                  clear h30
                  go_wp2
                  clear x0
                  go_loopw [62] (fun v62 w' => ∃ i : Nat, i ≤ ps.length ∧ v62 = .int .i64 i ∧ Aside0 (∀ k, k < i → (rdP ps k).cap.few) ∧ Aside0 (Below w.heap.size w w')) (fun v62 _ => ps.length - (intOf v62).toNat)
                  case atStart => exact ⟨0, Nat.zero_le _, rfl, ⟨fun k hk => by omega⟩, HB9⟩
                  case round =>
                    clear HB9
                    obtain ⟨i, hi2, rfl, hP, hb⟩ := hrel
                    rcases Nat.lt_or_ge i ps.length with hlt3 | hge3
                    · obtain ⟨ad3, rfl, x0, x1, x2, x3, x4⟩ := at_Part (Kd.C_below HC9.out hb.out) hlt3
                      have hp4 : (0 : Int) ≤ (i : Int) := by omega
                      have hp5 : (i : Int) < (ps.length : Int) := by omega
                      have FA := Lib.hid (fun w => FW.out (rdP ps i).cap w)
                      have HS := Lib.hid (fun (h : (rdP ps i).cap.num.size ≤ 24 ∧ (rdP ps i).cap.den.size ≤ 24) => (show ∀ k, k < i + 1 → (rdP ps k).cap.few from fun k hk => by
                        rcases Nat.lt_or_ge k i with h1 | h1
                        · exact hP.out k h1
                        · obtain rfl : k = i := by omega
                          exact h))
                      generalize (rdP ps i).claim = pc at *
                      generalize (rdP ps i).capped = pb at *
                      generalize (rdP ps i).cap.neg = pS at *
                      generalize (rdP ps i).cap.num = pN at *
                      generalize (rdP ps i).cap.den = pD at *
                      have h3 := below_alloc (Below.refl wr.heap.size wr) (.cells #[.int .i64 pc, .bool pb, .bool pS, .string pN, .string pD] 38)
                      have P5 := heap_new wr (.cells #[.int .i64 pc, .bool pb, .bool pS, .string pN, .string pD] 38)
                      obtain ⟨s0, s1, s2, s3, s4⟩ := cells5 P5
                      have QB := Aside0.mk (below_s h3 hb.out)
                      clear hP hb h3 P5
                      go_wp2_with (fail)
                      refine (FA.out _).mono ?_
                      rintro e w2 ⟨⟨b, rfl, hbt⟩, hb2⟩
                      have RB := Aside0.mk (below_s hb2 QB.out)
                      have HBT := Lib.hid hbt
                      clear hb2 QB hbt s0 s1 s2 s3 s4 x0 x1 x2 x3 x4
                      cases b
                      · go_wp2
                        go_ret
                        exact ⟨⟨false, rfl, fun h => Bool.noConfusion h⟩, RB.out⟩
                      · go_wp2
                        go_roundw
                        case measure => simp [intOf]; omega
                        case rel => exact ⟨i + 1, hlt3, by go_num, ⟨HS.out (HBT.out (by first | trivial | rfl))⟩, RB⟩
                    · obtain rfl : i = ps.length := by omega
                      go_wp2
                      go_roundw
                      case measure => simp [intOf]; omega
                      case rel => exact ⟨l + 1, hlt2, by go_num, ⟨HTS.out (by have := HH30.out; omega) hP.out⟩, hb⟩
              · obtain rfl : l = ts.length := by omega
                go_wp2
                go_roundw
                case measure => simp [intOf]; omega
                case rel => exact ⟨j + 1, hlt, by go_num, ⟨HGS.out (by have := H30.out; omega) (fun l hl => (hT.out l hl).1) (fun l hl => (hT.out l hl).2)⟩, hb⟩
        · obtain rfl : j = gs.length := by omega
          go_wp2
          go_ret
          exact ⟨⟨true, rfl, fun _ => ⟨by omega, by omega, HC0.out, HCL.out, fun j hj => (hG.out j hj).1, fun j hj => (hG.out j hj).2.1, fun j hj => (hG.out j hj).2.2⟩⟩, hb.out⟩
end Go.Proofs.YtnimgfnknlkkdaaGreatDoor.H
set_option linter.unusedVariables false
set_option linter.unusedSimpArgs false
open Go
namespace Go.Proofs.YtnimgfnknlkkdaaGreatDoor.H
open Go Go.RowKit Go.Proofs.YtnimgfnknlkkdaaGreatDoorW.PrintWords Go.Proofs.YtnimgfnknlkkdaaGreatDoorW.PrintLast Go.Proofs.YtnimgfnknlkkdaaGreatDoorW.PrintMore Go.Proofs.YtnimgfnknlkkdaaGreatDoor.Num
theorem hasB_yes {ts : List (List PartV)} {t i : Nat} {x : Int} (ht : t < ts.length) (hi : i < (rowAt ts t).length) (hx : (rdP (rowAt ts t) i).claim = x) : hasB ts x = true := by
  unfold hasB
  rw [List.any_eq_true]
  refine ⟨rdP (rowAt ts t) i, List.mem_flatten.2 ⟨rowAt ts t, ?_, rdP_mem hi⟩, by simpa using hx⟩
  rw [rowAt, List.getD_eq_getElem?_getD, List.getElem?_eq_getElem ht]
  exact List.getElem_mem ht
theorem hasB_no {ts : List (List PartV)} {x : Int} (h : ∀ t, t < ts.length → ∀ i, i < (rowAt ts t).length → (rdP (rowAt ts t) i).claim ≠ x) : hasB ts x = false := by
  unfold hasB
  rw [List.any_eq_false]
  intro p hp
  obtain ⟨l, hl, hp⟩ := List.mem_flatten.1 hp
  obtain ⟨t, ht, rfl⟩ := List.getElem_of_mem hl
  obtain ⟨i, hi, rfl⟩ := List.getElem_of_mem hp
  have e : rowAt ts t = ts[t] := by rw [rowAt, List.getD_eq_getElem?_getD, List.getElem?_eq_getElem ht]; rfl
  have := h t ht i (by rw [e]; exact hi)
  rw [e, rdP, List.getD_eq_getElem?_getD, List.getElem?_eq_getElem hi] at this
  simpa using this
set_option maxRecDepth 100000 in
set_option maxHeartbeats 1000000 in
theorem ref_member (ts : List (List PartV)) (A : Option Addr) (c : Nat) (x : Int) (w : World) (hC : kTier.C w A ts.length ts) (hc : ts.length ≤ c) :
    Calls Tryz.prog 115 #[.agg #[.slice A ts.length c], .int .i64 x] w fun e w' => e = .returned (.bool (hasB ts x)) ∧ Below w.heap.size w w' := by
  have HC := Aside0.mk hC
  have hm := hC.2.1
  have HY := Aside0.mk (fun t i ht hi hx => @hasB_yes ts t i x ht hi hx)
  have HN := Aside0.mk (@hasB_no ts x)
  clear hC
  generalize hasB ts x = r at *
  go_enter Tryz.func115, Tryz.ntmps115
  have HW := Aside0.mk (below_alloc (Below.refl w.heap.size w) (.cells #[.slice A ts.length c] 35))
  go_wp2
  obtain ⟨wa, hwa⟩ : ∃ wa, wa = w.alloc (.cells #[.slice A ts.length c] 35) := ⟨_, rfl⟩
  have hcell : wa.cell? ⟨w.heap.size, 0, none⟩ = some (.slice A ts.length c) := by rw [hwa, cell_new]; rfl
  rw [← hwa] at HW ⊢
  clear hwa
  go_loopw [5] (fun v5 w' => ∃ t : Nat, t ≤ ts.length ∧ v5 = .int .i64 t ∧ Aside0 (∀ k, k < t → ∀ i, i < (rowAt ts k).length → (rdP (rowAt ts k) i).claim ≠ x) ∧ w' = wa) (fun v5 _ => ts.length - (intOf v5).toNat)
  case atStart => exact ⟨0, Nat.zero_le _, rfl, ⟨fun k hk => by omega⟩, rfl⟩
  case round =>
    obtain ⟨t, ht, rfl, hA, rfl⟩ := hrel
    obtain ⟨wo, hwo⟩ : ∃ wo, wo = wr := ⟨_, rfl⟩
    subst hwo
    rcases Nat.lt_or_ge t ts.length with hlt | hge
    · obtain ⟨ad, v, rfl, hx, A1, c1, rfl, hc1, hC1⟩ := at_row (Kd.C_below HC.out HW.out) hlt
      have hp0 : (0 : Int) ≤ (t : Int) := by omega
      have hp1 : (t : Int) < (ts.length : Int) := by omega
      have HC1 := Aside0.mk hC1
      have hm1 := hC1.2.1
      clear hC1
      obtain ⟨T, hT⟩ : ∃ T, T = rowAt ts t := ⟨_, rfl⟩
      rw [← hT] at hx hc1 HC1 hm1
      have HT := Lib.hid hT
      clear hT
      go_wp2
      go_loopw [6] (fun v6 w' => ∃ i : Nat, i ≤ T.length ∧ v6 = .int .i64 i ∧ Aside0 (∀ k, k < i → (rdP T k).claim ≠ x) ∧ w' = wo) (fun v6 _ => T.length - (intOf v6).toNat)
      case atStart => exact ⟨0, Nat.zero_le _, rfl, ⟨fun k hk => by omega⟩, rfl⟩
      case round =>
        obtain ⟨i, hi, rfl, hI, rfl⟩ := hrel
        rcases Nat.lt_or_ge i T.length with hlt2 | hge2
        · obtain ⟨ad2, rfl, x0, -, -, -, -⟩ := at_Part HC1.out hlt2
          have hq0 : (0 : Int) ≤ (i : Int) := by omega
          have hq1 : (i : Int) < (T.length : Int) := by omega
          obtain ⟨pc, hpc⟩ : ∃ pc, pc = (rdP T i).claim := ⟨_, rfl⟩
          rw [← hpc] at x0
          have HP := Lib.hid hpc
          clear hpc
          by_cases h : pc = x
          · have R := Lib.hid (HY.out t i hlt (by rw [← HT.out]; exact hlt2) (by rw [← HT.out, ← HP.out]; exact h))
            have g : (pc == x) = true := by simp [h]
            clear h
            go_wp2
            go_ret
            exact ⟨ret_b R.out.symm, HW.out⟩
          · have g : (pc == x) = false := by simp [h]
            have H := Aside0.mk h
            clear h
            go_wp2
            go_roundw
            case measure => simp [intOf]; omega
            case rel => exact ⟨i + 1, hlt2, by go_num, ⟨fun k hk => by
              rcases Nat.lt_or_ge k i with h2 | h2
              · exact hI.out k h2
              · obtain rfl : k = i := by omega
                rw [← HP.out]; exact H.out⟩, by first | rfl | trivial⟩
        · obtain rfl : i = T.length := by omega
          go_wp2
          go_roundw
          case measure => simp [intOf]; omega
          case rel => exact ⟨t + 1, hlt, by go_num, ⟨fun k hk => by
            rcases Nat.lt_or_ge k t with h2 | h2
            · exact hA.out k h2
            · obtain rfl : k = t := by omega
              rw [← HT.out]; exact hI.out⟩, by first | rfl | trivial⟩
    · obtain rfl : t = ts.length := by omega
      have R := Lib.hid (HN.out hA.out)
      go_wp2
      go_ret
      exact ⟨ret_b R.out.symm, HW.out⟩
end Go.Proofs.YtnimgfnknlkkdaaGreatDoor.H
set_option linter.unusedVariables false
set_option linter.unusedSimpArgs false
open Go
namespace Go.Proofs.YtnimgfnknlkkdaaGreatDoor.H
open Go Go.RowKit Go.Proofs.YtnimgfnknlkkdaaGreatDoorW.PrintWords Go.Proofs.YtnimgfnknlkkdaaGreatDoorW.PrintLast Go.Proofs.YtnimgfnknlkkdaaGreatDoorW.PrintMore Go.Proofs.YtnimgfnknlkkdaaGreatDoor.Num
set_option maxRecDepth 100000 in
set_option maxHeartbeats 1000000 in
theorem ref_earlier (cash : RatF) (cs : List ClaimV) (gs : List (List (List PartV))) (A : Option Addr) (c : Nat) (B : Option Addr) (d : Nat) (k : Nat) (x : Int) (w : World) (hR : ReadsE w cash cs gs A c B d) (hk : k ≤ gs.length) :
    Calls Tryz.prog 78 #[EV cash A cs.length c B gs.length d, .int .i64 k, .int .i64 x] w fun e w' => e = .returned (.bool (takenB gs k x)) ∧ Below w.heap.size w w' := by
  have HR := Aside0.mk hR
  have hm2 := hR.rg.2.1
  have HB := Aside0.mk (below_alloc (Below.refl w.heap.size w) (.cells #[.bool cash.neg, .string cash.num, .string cash.den, .slice A cs.length c, .slice B gs.length d] 27))
  have HX := Aside0.mk (heap_new w (.cells #[.bool cash.neg, .string cash.num, .string cash.den, .slice A cs.length c, .slice B gs.length d] 27))
  have HS := Aside0.mk (fun j (h : j < gs.length) => takenB_succ h x)
  clear hR
  go_enter Tryz.func78, Tryz.ntmps78
  go_wp2
  go_loopw [7] (fun v7 w' => ∃ i : Nat, i ≤ k ∧ v7 = .int .i64 i ∧ Aside0 (takenB gs i x = false) ∧ Aside0 (w'.heap[w.heap.size]? = some (.cells #[.bool cash.neg, .string cash.num, .string cash.den, .slice A cs.length c, .slice B gs.length d] 27)) ∧ Aside0 (Below w.heap.size w w')) (fun v7 _ => k - (intOf v7).toNat)
  case atStart => exact ⟨0, Nat.zero_le _, rfl, ⟨rfl⟩, HX, HB⟩
  case round =>
    clear HX HB
    obtain ⟨i, hi, rfl, hA, hX, hb⟩ := hrel
    obtain ⟨a0, a1, a2, a3, a4⟩ := cells5 hX.out
    rcases Nat.lt_or_ge i k with hlt | hge
    · have hlg : i < gs.length := by omega
      obtain ⟨ad, v, rfl, hx, A3, c3, rfl, hc3, hC3⟩ := at_row (HR.out.below hb.out).rg hlg
      have hp0 : (0 : Int) ≤ (i : Int) := by omega
      have hp1 : (i : Int) < (gs.length : Int) := by omega
      have HM := Aside0.mk (ref_member (rowAt gs i) A3 c3 x wr hC3 hc3)
      have HT := Lib.hid (HS.out i hlg)
      have hmt := hC3.2.1
      clear hC3 hc3
      generalize (rowAt gs i).length = len at *
      generalize hasB (rowAt gs i) x = hb1 at *
      cases hb1
      · have R := Lib.hid (show takenB gs (i + 1) x = false by rw [HT.out, hA.out]; rfl)
        clear HT
        go_wp2_with (go_at_call 115; refine HM.out.mono ?_; rintro e w1 ⟨rfl, hb2⟩; have HB2 := Aside0.mk (below_s hb2 hb.out); have HX2 := Aside0.mk (heap_b hb2 hX.out); clear hb2)
        go_roundw
        case measure => simp [intOf]; omega
        case rel => exact ⟨i + 1, hlt, by go_num, ⟨R.out⟩, HX2, HB2⟩
      · have R := Lib.hid (show takenB gs k x = true by
          have h1 : takenB gs (i + 1) x = true := by rw [HT.out]; simp
          unfold takenB at h1 ⊢
          rw [List.any_eq_true] at h1 ⊢
          obtain ⟨a, ha, hax⟩ := h1
          exact ⟨a, List.take_subset_take_left gs (show i + 1 ≤ k by omega) ha, hax⟩)
        clear HT
        go_wp2_with (go_at_call 115; refine HM.out.mono ?_; rintro e w1 ⟨rfl, hb2⟩; have HB2 := Aside0.mk (below_s hb2 hb.out); clear hb2)
        go_ret
        exact ⟨ret_b R.out.symm, HB2.out⟩
    · obtain rfl : i = k := by omega
      go_wp2
      go_ret
      exact ⟨ret_b hA.out.symm, hb.out⟩
end Go.Proofs.YtnimgfnknlkkdaaGreatDoor.H
set_option linter.unusedVariables false
set_option linter.unusedSimpArgs false
open Go
namespace Go.Proofs.YtnimgfnknlkkdaaGreatDoor.H
open Go Go.RowKit Go.Proofs.YtnimgfnknlkkdaaGreatDoorW.PrintWords Go.Proofs.YtnimgfnknlkkdaaGreatDoorW.PrintLast Go.Proofs.YtnimgfnknlkkdaaGreatDoorW.PrintMore Go.Proofs.YtnimgfnknlkkdaaGreatDoor.Num
theorem firstErr_append (a b : List Int) : firstErr (a ++ b) = if firstErr a = 0 then firstErr b else firstErr a := by
  induction a with
  | nil => simp [firstErr]
  | cons e l ih =>
    by_cases h : e = 0
    · simp only [List.cons_append, firstErr, if_pos h]; exact ih
    · simp only [List.cons_append, firstErr, if_neg h]
theorem nested_at {f : PartV → Int} : ∀ {ts : List (List PartV)} {t i : Nat}, t < ts.length → i < (rowAt ts t).length → (∀ k, k < t → ∀ j, j < (rowAt ts k).length → f (rdP (rowAt ts k) j) = 0) → (∀ j, j < i → f (rdP (rowAt ts t) j) = 0) → f (rdP (rowAt ts t) i) ≠ 0 → firstErr (ts.flatten.map f) = f (rdP (rowAt ts t) i)
  | [], t, i, ht, _, _, _, _ => absurd ht (by simp)
  | l :: ts, 0, i, ht, hi, h1, h2, h3 => by
    have e : rowAt (l :: ts) 0 = l := rfl
    rw [e] at hi h2 h3 ⊢
    rw [List.flatten_cons, List.map_append, firstErr_append, firstErr_map_at (d := zPart) hi h2 h3, if_neg (show ¬ f (l.getD i zPart) = 0 from h3)]
    rfl
  | l :: ts, t + 1, i, ht, hi, h1, h2, h3 => by
    have e : rowAt (l :: ts) (t + 1) = rowAt ts t := rfl
    rw [e] at hi h2 h3 ⊢
    rw [List.flatten_cons, List.map_append, firstErr_append, firstErr_map_zero (l := l) (d := zPart) (fun j hj => h1 0 (by omega) j hj), if_pos rfl]
    exact nested_at (by simpa using ht) hi (fun k hk j hj => h1 (k + 1) (by omega) j hj) h2 h3
theorem nested_zero {f : PartV → Int} {ts : List (List PartV)} (h : ∀ k, k < ts.length → ∀ j, j < (rowAt ts k).length → f (rdP (rowAt ts k) j) = 0) : firstErr (ts.flatten.map f) = 0 := by
  refine firstErr_zero fun x hx => ?_
  obtain ⟨p, hp, rfl⟩ := List.mem_map.1 hx
  obtain ⟨l, hl, hp⟩ := List.mem_flatten.1 hp
  obtain ⟨t, ht, rfl⟩ := List.getElem_of_mem hl
  obtain ⟨i, hi, rfl⟩ := List.getElem_of_mem hp
  have e : rowAt ts t = ts[t] := by rw [rowAt, List.getD_eq_getElem?_getD, List.getElem?_eq_getElem ht]; rfl
  have := h t ht i (by rw [e]; exact hi)
  rwa [e, rdP, List.getD_eq_getElem?_getD, List.getElem?_eq_getElem hi] at this
theorem flat_mem {ts : List (List PartV)} {t i : Nat} (ht : t < ts.length) (hi : i < (rowAt ts t).length) : rdP (rowAt ts t) i ∈ ts.flatten := by
  refine List.mem_flatten.2 ⟨rowAt ts t, ?_, rdP_mem hi⟩
  exact rowAt_mem ht
set_option maxRecDepth 100000 in
set_option maxHeartbeats 1000000 in
theorem ref_agreement (cash : RatF) (cs : List ClaimV) (gs : List (List (List PartV))) (A : Option Addr) (c : Nat) (B : Option Addr) (d : Nat) (k : Nat) (w : World) (hR : ReadsE w cash cs gs A c B d) (hk : k < gs.length) (hsm : ∀ p ∈ (rowAt gs k).flatten, p.cap.small 549755813888) :
    Calls Tryz.prog 45 #[EV cash A cs.length c B gs.length d, .int .i64 k] w fun e w' => e = .returned (.int .i64 (agrErr cs.length (takenB gs k) (rowAt gs k))) ∧ Below w.heap.size w w' := by
  have HR := Aside0.mk hR
  have hm1 := hR.rc.2.1
  have hm2 := hR.rg.2.1
  obtain ⟨ad, v, rfl, hx, A3, c3, rfl, hc3, hC3⟩ := at_row hR.rg hk
  have EL := Aside0.mk (fun {w : World} (hR : ReadsE w cash cs gs A c (some ad) d) (x : Int) => ref_earlier cash cs gs A c (some ad) d k x w hR (Nat.le_of_lt hk))
  obtain ⟨ts, hts⟩ : ∃ ts, ts = rowAt gs k := ⟨_, rfl⟩
  rw [← hts] at hx hc3 hC3 hsm ⊢
  have HSM := Aside0.mk hsm
  have HC3 := Aside0.mk hC3
  have KC := Aside0.mk hC3
  have hmt := hC3.2.1
  have HE0 := Lib.hid (show agrErr cs.length (takenB gs k) ts = if 24 < ts.length then 2 else if longB ts then 2 else firstErr (ts.flatten.map (partErr cs.length (takenB gs k))) from rfl)
  have LY := Aside0.mk (@longB_yes ts)
  have LN := Aside0.mk (@longB_no ts)
  have hx' := pw_cell_below (below_alloc (Below.refl w.heap.size w) (.cells #[.bool cash.neg, .string cash.num, .string cash.den, .slice A cs.length c, .slice (some ad) gs.length d] 27)) hx
  have hp0 : (0 : Int) ≤ (k : Int) := by omega
  have hp1 : (k : Int) < (gs.length : Int) := by omega
  have HW := Aside0.mk (below_alloc (below_alloc (Below.refl w.heap.size w) (.cells #[.bool cash.neg, .string cash.num, .string cash.den, .slice A cs.length c, .slice (some ad) gs.length d] 27)) (.cells #[.slice A3 ts.length c3] 35))
  have TN := two_new w (.cells #[.bool cash.neg, .string cash.num, .string cash.den, .slice A cs.length c, .slice (some ad) gs.length d] 27) (.cells #[.slice A3 ts.length c3] 35)
  unfold EV at EL ⊢
  clear hR hts hsm hC3 hx hk
  generalize agrErr cs.length (takenB gs k) ts = r at *
  generalize cash.neg = neg0 at *
  generalize cash.num = num0 at *
  generalize cash.den = den0 at *
  go_enter Tryz.func45, Tryz.ntmps45
  obtain ⟨wa, hwa⟩ : ∃ wa, wa = ((w.alloc (.cells #[.bool neg0, .string num0, .string den0, .slice A cs.length c, .slice (some ad) gs.length d] 27)).alloc (.cells #[.slice A3 ts.length c3] 35)) := ⟨_, rfl⟩
  by_cases h24 : 24 < ts.length
  · have g : (24 : Int) < (ts.length : Int) := by omega
    have R := Lib.hid (show r = 2 by rw [HE0.out, if_pos h24])
    clear h24 HE0 hwa
    go_wp2
    go_ret
    exact ⟨ret_i R.out.symm, HW.out⟩
  have g : ¬ (24 : Int) < (ts.length : Int) := by omega
  have HE1 := Lib.hid (show r = if longB ts then 2 else firstErr (ts.flatten.map (partErr cs.length (takenB gs k))) by rw [HE0.out, if_neg h24])
  clear h24 HE0
  rw [← hwa] at HW TN
  have HWA := Lib.hid hwa
  clear hwa
  go_wp2
  rw [← HWA.out]
  clear HWA g hx'
  obtain ⟨hX, hY, -⟩ := TN
  have HX := Aside0.mk hX
  have HY := Aside0.mk hY
  have a0 : wa.cell? ⟨w.heap.size + 1, 0, none⟩ = some (.slice A3 ts.length c3) := by simp [World.cell?, HY.out]
  have HC := Aside0.mk (Kd.C_below HC3.out HW.out)
  clear hX hY HC3
  go_loopw [6] (fun v6 w' => ∃ i : Nat, i ≤ ts.length ∧ v6 = .int .i64 i ∧ Aside0 (∀ q, q < i → ¬ 24 < (rowAt ts q).length) ∧ w' = wa) (fun v6 _ => ts.length - (intOf v6).toNat)
  case atStart => exact ⟨0, Nat.zero_le _, rfl, ⟨fun q hq => by omega⟩, rfl⟩
  case round =>
    obtain ⟨i, hi, rfl, hA, rfl⟩ := hrel
    rcases Nat.lt_or_ge i ts.length with hlt | hge
    · obtain ⟨bd, v, rfl, hy, A4, c4, rfl, hc4, -⟩ := at_row HC.out hlt
      have hq0 : (0 : Int) ≤ (i : Int) := by omega
      have hq1 : (i : Int) < (ts.length : Int) := by omega
      by_cases hb : 24 < (rowAt ts i).length
      · have R := Lib.hid (show r = 2 by rw [HE1.out, if_pos (LY.out hlt hb)])
        have g : (24 : Int) < ((rowAt ts i).length : Int) := by omega
        clear hb hc4
        generalize (rowAt ts i).length = len at *
        go_wp2
        go_ret
        exact ⟨ret_i R.out.symm, HW.out⟩
      · have HB := Aside0.mk hb
        have g : ¬ (24 : Int) < ((rowAt ts i).length : Int) := by omega
        clear hb hc4
        generalize hk : (rowAt ts i).length = len at *
        have HK := Lib.hid hk
        clear hk
        go_wp2
        go_roundw
        case measure => simp [intOf]; omega
        case rel => exact ⟨i + 1, hlt, by go_num, ⟨fun q hq => by
          rcases Nat.lt_or_ge q i with h2 | h2
          · exact hA.out q h2
          · obtain rfl : q = i := by omega
            rw [HK.out]; exact HB.out⟩, by first | rfl | trivial⟩
    · obtain rfl : i = ts.length := by omega
      have HE := Lib.hid (show r = firstErr (ts.flatten.map (partErr cs.length (takenB gs k))) by rw [HE1.out, if_neg (by rw [LN.out hA.out]; simp)])
      clear HE1 hA LY LN
      obtain ⟨wo, hwo⟩ : ∃ wo, wo = wr := ⟨_, rfl⟩
      subst hwo
      go_wp2
      go_loopw [7] (fun v7 w' => ∃ t : Nat, t ≤ ts.length ∧ v7 = .int .i64 t ∧ Aside0 (∀ q, q < t → ∀ j, j < (rowAt ts q).length → partErr cs.length (takenB gs k) (rdP (rowAt ts q) j) = 0) ∧ Aside0 (w'.heap[w.heap.size]? = some (.cells #[.bool neg0, .string num0, .string den0, .slice A cs.length c, .slice (some ad) gs.length d] 27)) ∧ Aside0 (w'.heap[w.heap.size + 1]? = some (.cells #[.slice A3 ts.length c3] 35)) ∧ Aside0 (Below w.heap.size w w')) (fun v7 _ => ts.length - (intOf v7).toNat)
      case atStart => exact ⟨0, Nat.zero_le _, rfl, ⟨fun q hq => by omega⟩, HX, HY, HW⟩
      case round =>
        clear HX HY HW a0 HC
        obtain ⟨t, ht, rfl, hT, hX, hY, hb⟩ := hrel
        obtain ⟨wt, hwt⟩ : ∃ wt, wt = wr := ⟨_, rfl⟩
        subst hwt
        have a0 : wt.cell? ⟨w.heap.size + 1, 0, none⟩ = some (.slice A3 ts.length c3) := by simp [World.cell?, hY.out]
        rcases Nat.lt_or_ge t ts.length with hlt | hge
        · go_wp2
          go_loopw [8] (fun v8 w' => ∃ i : Nat, i ≤ (rowAt ts t).length ∧ v8 = .int .i64 i ∧ Aside0 (∀ q, q < i → partErr cs.length (takenB gs k) (rdP (rowAt ts t) q) = 0) ∧ Aside0 (w'.heap[w.heap.size]? = some (.cells #[.bool neg0, .string num0, .string den0, .slice A cs.length c, .slice (some ad) gs.length d] 27)) ∧ Aside0 (w'.heap[w.heap.size + 1]? = some (.cells #[.slice A3 ts.length c3] 35)) ∧ Aside0 (Below w.heap.size w w')) (fun v8 _ => (rowAt ts t).length - (intOf v8).toNat)
          case atStart => exact ⟨0, Nat.zero_le _, rfl, ⟨fun q hq => by omega⟩, hX, hY, hb⟩
          case round =>
            clear hX hY hb a0
            obtain ⟨i, hi, rfl, hI, hX, hY, hb⟩ := hrel
            have hC3 : kTier.C w A3 ts.length ts := KC.out
            obtain ⟨bd, v, rfl, hy, A4, c4, rfl, hc4, hC4⟩ := at_row (Kd.C_below hC3 hb.out) hlt
            have a0 : wr.cell? ⟨w.heap.size + 1, 0, none⟩ = some (.slice (some bd) ts.length c3) := by simp [World.cell?, hY.out]
            obtain ⟨e0, e1, e2, e3, e4⟩ := cells5 hX.out
            have hq0 : (0 : Int) ≤ (t : Int) := by omega
            have hq1 : (t : Int) < (ts.length : Int) := by omega
            have HC4 := Aside0.mk hC4
            have hm4 := hC4.2.1
            have NA := Aside0.mk (fun (hi2 : i < (rowAt ts t).length) h => nested_at (f := partErr cs.length (takenB gs k)) hlt hi2 hT.out hI.out h)
            have FM := Aside0.mk (fun (hi2 : i < (rowAt ts t).length) => HSM.out _ (flat_mem hlt hi2))
            obtain ⟨T, hTT⟩ : ∃ T, T = rowAt ts t := ⟨_, rfl⟩
            rw [← hTT] at hy hc4 HC4 hm4 NA FM hi hI
            have HTT := Lib.hid hTT
            rw [← HTT.out]
            clear hTT hC3 hC4
            rcases Nat.lt_or_ge i T.length with hlt2 | hge2
            · obtain ⟨cd, rfl, x0, x1, x2, x3, x4⟩ := at_Part HC4.out hlt2
              have hr0 : (0 : Int) ≤ (i : Int) := by omega
              have hr1 : (i : Int) < (T.length : Int) := by omega
              have PA := Aside0.mk (NA.out hlt2)
              obtain ⟨s1, s2⟩ := FM.out hlt2
              obtain ⟨p, hpp⟩ : ∃ p, p = rdP T i := ⟨_, rfl⟩
              rw [← hpp] at x0 x1 x2 x3 x4 PA s1 s2
              have HPP := Lib.hid hpp.symm
              clear hpp NA FM
              have HP := Lib.hid (show partErr cs.length (takenB gs k) p = (if p.claim ≠ -1 ∧ (p.claim < 0 ∨ (cs.length : Int) ≤ p.claim) then 1 else if p.claim = -1 ∧ p.capped = false then 21 else if p.capped = true ∧ p.cap.sg < 0 then 7 else if p.claim ≠ -1 ∧ takenB gs k p.claim = true then 20 else 0) from rfl)
              have SG := Lib.hid (fun w => ref_Sign p.cap.neg p.cap.num p.cap.den w s1 s2)
              have hsg : (rq p.cap.neg p.cap.num p.cap.den).num.sign = p.cap.sg := rfl
              rw [hsg] at SG
              have EL := Aside0.mk (fun {w : World} hR => EL.out (w := w) hR p.claim)
              clear s1 s2 hsg
              generalize p.claim = pc at *
              generalize p.cap.sg = sg at *
              generalize p.cap.neg = neg at *
              generalize p.cap.num = num at *
              generalize p.cap.den = den at *
              generalize p.capped = cb at *
              generalize takenB gs k pc = tk at *
              have HBW := Aside0.mk (below_alloc hb.out (.cells #[.int .i64 pc, .bool cb, .bool neg, .string num, .string den] 38))
              have HX1 := Aside0.mk (heap_old (o := .cells #[.int .i64 pc, .bool cb, .bool neg, .string num, .string den] 38) hX.out)
              have HY1 := Aside0.mk (heap_old (o := .cells #[.int .i64 pc, .bool cb, .bool neg, .string num, .string den] 38) hY.out)
              have HZ1 := Aside0.mk (heap_new wr (.cells #[.int .i64 pc, .bool cb, .bool neg, .string num, .string den] 38))
              obtain ⟨k0, k1, k2, k3, k4⟩ := cells5 HX1.out
              clear hb hX hY
              by_cases h1 : pc < -1
              · have R := Lib.hid (show partErr cs.length (takenB gs k) p = 1 by rw [HP.out]; rw [if_pos (by omega)])
                clear HP
                go_wp2
                go_ret
                exact ⟨ret_i (by rw [HE.out, PA.out (by rw [R.out]; decide), R.out]), HBW.out⟩
              by_cases h2 : (cs.length : Int) ≤ pc
              · have R := Lib.hid (show partErr cs.length (takenB gs k) p = 1 by rw [HP.out]; rw [if_pos (by omega)])
                clear HP
                go_wp2
                go_ret
                exact ⟨ret_i (by rw [HE.out, PA.out (by rw [R.out]; decide), R.out]), HBW.out⟩
              by_cases h3 : pc = -1
              · subst h3
                cases cb
                · have R := Lib.hid (show partErr cs.length (takenB gs k) p = 21 by rw [HP.out]; simp)
                  clear HP
                  go_wp2
                  go_ret
                  exact ⟨ret_i (by rw [HE.out, PA.out (by rw [R.out]; decide), R.out]), HBW.out⟩
                by_cases h4 : sg < 0
                · have R := Lib.hid (show partErr cs.length (takenB gs k) p = 7 by rw [HP.out]; simp [h4])
                  clear HP
                  go_wp2_with (go_at_call 44; refine (SG.out _).mono ?_; rintro e w2 ⟨rfl, hb2⟩; have HBW2 := Aside0.mk (below_s hb2 HBW.out); have HX2 := Aside0.mk (heap_b hb2 HX1.out); have HY2 := Aside0.mk (heap_b hb2 HY1.out); obtain ⟨z0, z1, z2, z3, z4⟩ := cells5 (heap_b hb2 HZ1.out); obtain ⟨y0, y1, y2, y3, y4⟩ := cells5 HX2.out; clear hb2 HBW HX1 HY1 HZ1)
                  go_ret
                  exact ⟨ret_i (by rw [HE.out, PA.out (by rw [R.out]; decide), R.out]), HBW2.out⟩
                · have R := Lib.hid (show partErr cs.length (takenB gs k) p = 0 by rw [HP.out]; simp [h4])
                  clear HP
                  go_wp2_with (go_at_call 44; refine (SG.out _).mono ?_; rintro e w2 ⟨rfl, hb2⟩; have HBW2 := Aside0.mk (below_s hb2 HBW.out); have HX2 := Aside0.mk (heap_b hb2 HX1.out); have HY2 := Aside0.mk (heap_b hb2 HY1.out); obtain ⟨z0, z1, z2, z3, z4⟩ := cells5 (heap_b hb2 HZ1.out); obtain ⟨y0, y1, y2, y3, y4⟩ := cells5 HX2.out; clear hb2 HBW HX1 HY1 HZ1)
                  go_roundw
                  case measure => simp [intOf]; omega
                  case rel => exact ⟨i + 1, hlt2, by go_num, ⟨fun q hq => by
                    rcases Nat.lt_or_ge q i with h2 | h2
                    · exact hI.out q h2
                    · obtain rfl : q = i := by omega
                      rw [HPP.out]; exact R.out⟩, HX2, HY2, HBW2⟩
              have h5 : ¬ pc < 0 := by omega
              have g0 : (pc == -1) = false := by simp [h3]
              have g1 : (pc != -1) = true := by simp [h3]
              cases cb
              · cases tk
                · have R := Lib.hid (show partErr cs.length (takenB gs k) p = 0 by rw [HP.out]; simp [h2, h3, h5])
                  clear HP
                  go_wp2_with (go_at_call 78; refine (EL.out (HR.out.below HBW.out)).mono ?_; rintro e w3 ⟨rfl, hb3⟩; have HBW3 := Aside0.mk (below_s hb3 HBW.out); have HX3 := Aside0.mk (heap_b hb3 HX1.out); have HY3 := Aside0.mk (heap_b hb3 HY1.out); clear hb3)
                  go_roundw
                  case measure => simp [intOf]; omega
                  case rel => exact ⟨i + 1, hlt2, by go_num, ⟨fun q hq => by
                    rcases Nat.lt_or_ge q i with h2 | h2
                    · exact hI.out q h2
                    · obtain rfl : q = i := by omega
                      rw [HPP.out]; exact R.out⟩, HX3, HY3, HBW3⟩
                · have R := Lib.hid (show partErr cs.length (takenB gs k) p = 20 by rw [HP.out]; simp [h2, h3, h5])
                  clear HP
                  go_wp2_with (go_at_call 78; refine (EL.out (HR.out.below HBW.out)).mono ?_; rintro e w3 ⟨rfl, hb3⟩; have HBW3 := Aside0.mk (below_s hb3 HBW.out); have HX3 := Aside0.mk (heap_b hb3 HX1.out); have HY3 := Aside0.mk (heap_b hb3 HY1.out); clear hb3)
                  go_ret
                  exact ⟨ret_i (by rw [HE.out, PA.out (by rw [R.out]; decide), R.out]), HBW3.out⟩
              by_cases h4 : sg < 0
              · have R := Lib.hid (show partErr cs.length (takenB gs k) p = 7 by rw [HP.out]; simp [h2, h3, h4, h5])
                clear HP
                go_wp2_with (go_at_call 44; refine (SG.out _).mono ?_; rintro e w2 ⟨rfl, hb2⟩; have HBW2 := Aside0.mk (below_s hb2 HBW.out); have HX2 := Aside0.mk (heap_b hb2 HX1.out); have HY2 := Aside0.mk (heap_b hb2 HY1.out); obtain ⟨z0, z1, z2, z3, z4⟩ := cells5 (heap_b hb2 HZ1.out); obtain ⟨y0, y1, y2, y3, y4⟩ := cells5 HX2.out; clear hb2 HBW HX1 HY1 HZ1)
                go_ret
                exact ⟨ret_i (by rw [HE.out, PA.out (by rw [R.out]; decide), R.out]), HBW2.out⟩
              cases tk
              · have R := Lib.hid (show partErr cs.length (takenB gs k) p = 0 by rw [HP.out]; simp [h2, h3, h4, h5])
                clear HP
                go_wp2_with (first | (go_at_call 44; refine (SG.out _).mono ?_; rintro e w2 ⟨rfl, hb2⟩; have HBW2 := Aside0.mk (below_s hb2 HBW.out); have HX2 := Aside0.mk (heap_b hb2 HX1.out); have HY2 := Aside0.mk (heap_b hb2 HY1.out); obtain ⟨z0, z1, z2, z3, z4⟩ := cells5 (heap_b hb2 HZ1.out); obtain ⟨y0, y1, y2, y3, y4⟩ := cells5 HX2.out; clear hb2 HBW HX1 HY1 HZ1) | (go_at_call 78; refine (EL.out (HR.out.below HBW2.out)).mono ?_; rintro e w3 ⟨rfl, hb3⟩; have HBW3 := Aside0.mk (below_s hb3 HBW2.out); have HX3 := Aside0.mk (heap_b hb3 HX2.out); have HY3 := Aside0.mk (heap_b hb3 HY2.out); clear hb3))
                go_roundw
                case measure => simp [intOf]; omega
                case rel => exact ⟨i + 1, hlt2, by go_num, ⟨fun q hq => by
                  rcases Nat.lt_or_ge q i with h2 | h2
                  · exact hI.out q h2
                  · obtain rfl : q = i := by omega
                    rw [HPP.out]; exact R.out⟩, HX3, HY3, HBW3⟩
              · have R := Lib.hid (show partErr cs.length (takenB gs k) p = 20 by rw [HP.out]; simp [h2, h3, h4, h5])
                clear HP
                go_wp2_with (first | (go_at_call 44; refine (SG.out _).mono ?_; rintro e w2 ⟨rfl, hb2⟩; have HBW2 := Aside0.mk (below_s hb2 HBW.out); have HX2 := Aside0.mk (heap_b hb2 HX1.out); have HY2 := Aside0.mk (heap_b hb2 HY1.out); obtain ⟨z0, z1, z2, z3, z4⟩ := cells5 (heap_b hb2 HZ1.out); obtain ⟨y0, y1, y2, y3, y4⟩ := cells5 HX2.out; clear hb2 HBW HX1 HY1 HZ1) | (go_at_call 78; refine (EL.out (HR.out.below HBW2.out)).mono ?_; rintro e w3 ⟨rfl, hb3⟩; have HBW3 := Aside0.mk (below_s hb3 HBW2.out); have HX3 := Aside0.mk (heap_b hb3 HX2.out); have HY3 := Aside0.mk (heap_b hb3 HY2.out); clear hb3))
                go_ret
                exact ⟨ret_i (by rw [HE.out, PA.out (by rw [R.out]; decide), R.out]), HBW3.out⟩
            · obtain rfl : i = T.length := by omega
              go_wp2
              go_roundw
              case measure => simp [intOf]; omega
              case rel => exact ⟨t + 1, hlt, by go_num, ⟨fun q hq => by
                rcases Nat.lt_or_ge q t with h2 | h2
                · exact hT.out q h2
                · obtain rfl : q = t := by omega
                  rw [← HTT.out]; exact hI.out⟩, hX, hY, hb⟩
        · obtain rfl : t = ts.length := by omega
          have R := Lib.hid (show r = 0 by rw [HE.out]; exact nested_zero hT.out)
          go_wp2
          go_ret
          exact ⟨ret_i R.out.symm, hb.out⟩
end Go.Proofs.YtnimgfnknlkkdaaGreatDoor.H
