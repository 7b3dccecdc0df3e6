import Derived.Test.YtnimgfnknlkkdaaGreatDoorK7
import Derived.Test.YtnimgfnknlkkdaaGreatDoorK2
set_option linter.unusedVariables false
set_option linter.unusedSimpArgs false
open Go
namespace Go.Proofs.YtnimgfnknlkkdaaGreatDoor.H
open Go Go.RowKit Go.Proofs.YtnimgfnknlkkdaaGreatDoorW.PrintWords Go.Proofs.YtnimgfnknlkkdaaGreatDoorW.PrintLast Go.Proofs.YtnimgfnknlkkdaaGreatDoorW.PrintMore Go.Proofs.YtnimgfnknlkkdaaGreatDoor.Num
theorem val_take_all {l : List Int} {n : Nat} (hn : n ≤ l.length) (h : val l < 4294967296 ^ n) : val (l.take n) = val l := by
  have e1 := val_split l n hn
  rcases Nat.eq_zero_or_pos (val (l.drop n)) with k | k
  · rw [k] at e1; omega
  · have : 4294967296 ^ n * 1 ≤ 4294967296 ^ n * val (l.drop n) := Nat.mul_le_mul_left _ k
    omega
theorem shl_grow {t s : Nat} (ht : t ≠ 0) (h : t * 2 ^ s < 4294967296) : s < 32 := by
  rcases Nat.lt_or_ge s 32 with h1 | h1
  · exact h1
  · have h2 : 2 ^ 32 ≤ 2 ^ s := Nat.pow_le_pow_right (by omega) h1
    have h3 : 1 * 2 ^ s ≤ t * 2 ^ s := Nat.mul_le_mul_right _ (by omega)
    omega
theorem shl_end {t s : Nat} (hs : s < 32) (h : t * 2 ^ s < 4294967296) : (t + 1) * 2 ^ s ≤ 4294967296 := by
  have e : 4294967296 = 2 ^ (32 - s) * 2 ^ s := by rw [← Nat.pow_add, show 32 - s + s = 32 by omega]
  rw [e] at h ⊢
  have h2 : t < 2 ^ (32 - s) := Nat.lt_of_mul_lt_mul_right h
  exact Nat.mul_le_mul_right _ h2
theorem and_low {x : Int} (h0 : 0 ≤ x) (h1 : x < 18446744073709551616) : bits .and .u64 x 4294967295 = x % 4294967296 := by
  obtain ⟨n, rfl⟩ := Int.eq_ofNat_of_zero_le h0
  have e : (BitVec.ofInt 64 (n : Int)).toNat = n := by simp; omega
  have e2 : (BitVec.ofInt 64 (n : Int) &&& BitVec.ofInt 64 4294967295).toNat = n % 4294967296 := by
    rw [BitVec.toNat_and, e, show (BitVec.ofInt 64 4294967295).toNat = 2 ^ 32 - 1 by decide, Nat.and_two_pow_sub_one_eq_mod]
  simp only [bits, IntKind.bits]
  show IntKind.u64.wrap ((BitVec.ofInt 64 (n : Int) &&& BitVec.ofInt 64 4294967295).toNat : Int) = _
  rw [e2, wrap_u64]
  omega
set_option maxRecDepth 100000 in
set_option maxHeartbeats 12000000 in
theorem ref_long (a b : Nat) (A B : Option Addr) (c d : Nat) (w : World) (hA : Kd.C (Kd.int .u32) w A (dig a).length (dig a)) (hc : (dig a).length ≤ c) (hB : Kd.C (Kd.int .u32) w B (dig b).length (dig b)) (hd : (dig b).length ≤ d)
    (ha : (dig a).length ≤ 137438953472) (h : ¬ a < b) (h1 : 2 ≤ (dig b).length) :
    Calls Tryz.prog 191 #[.slice A (dig a).length c, .slice B (dig b).length d] w fun e w' => ∃ v1 v2, e = .returned (.tuple #[v1, v2]) ∧ IsL w' v1 (dig (a / b)) ∧ IsL w' v2 (dig (a % b)) ∧ Below w.heap.size w w' := by
  have hlen := dig_mono (Nat.le_of_not_lt h)
  have hb0 : b ≠ 0 := fun e => by rw [e, dig_zero] at h1; simp at h1
  obtain ⟨m, hm⟩ : ∃ m, (dig b).length = m + 2 := ⟨(dig b).length - 2, by omega⟩
  have hlast := dig_last hb0
  rw [hm, show m + 2 - 1 = m + 1 by omega] at hlast
  have hlt := lim_get (lim_dig b) (m + 1)
  obtain ⟨t, ht⟩ := Int.eq_ofNat_of_zero_le hlt.1
  rw [ht] at hlast hlt
  have ht0 : t ≠ 0 := by omega
  have htl : t < 4294967296 := by omega
  obtain ⟨bd, rfl, hx⟩ := C_word hB ((m + 1 : Nat) : Int) (by omega) (by omega)
  rw [Int.toNat_natCast, rd_nat, ht] at hx
  have hx' : w.cell? { block := bd.block, off := bd.off + (m + 1) } = some (.int .u32 (t : Int)) := by simpa [Addr.add] using hx
  have HA := Aside0.mk hA
  have HB := Aside0.mk hB
  have ND := Aside0.mk (fun s => @norm_div (dig b) [] m t s (lim_dig b) hm ht)
  have NM := Aside0.mk (fun s => @norm_num a b (dig a).length m s (dig_lt a))
  rw [val_dig] at ND
  have D2 := Aside0.mk (fun {w : World} s hB hs => ref_shifted (dig b) s (m + 3) (some bd) d w (lim_dig b) hB hd hs (by omega) (by omega))
  have D1 := Aside0.mk (fun {w : World} s hA hs => ref_shifted (dig a) s ((dig a).length + 1) A c w (lim_dig a) hA hc hs rfl (by omega))
  simp only [val_dig] at D1 D2
  have LA := Lib.hid (dig_lt a)
  rw [hm] at HB D2 hd hlen ⊢
  generalize (dig a).length = la at *
  clear hA hB hx hm ht hlt hlast h1
  have e1 : (m : Int) + 2 - 1 = m + 1 := by omega
  go_enter Tryz.func191, Tryz.ntmps191
  go_upto_block 0 with (fail)
  go_cut [7] (fun v7 wc => ∃ s : Nat, v7 = .int .u64 s ∧ s < 32 ∧ Aside0 (2147483648 ≤ t * 2 ^ s ∧ t * 2 ^ s < 4294967296) ∧ wc = w)
  case first => as_aux_lemma =>
    go_wp2
    go_loopw [7] (fun v7 w' => ∃ s : Nat, v7 = .int .u64 s ∧ Aside0 (t * 2 ^ s < 4294967296) ∧ w' = w) (fun v7 _ => 32 - (intOf v7).toNat)
    case atStart => exact ⟨0, rfl, ⟨by omega⟩, rfl⟩
    case round => as_aux_lemma =>
      obtain ⟨s, rfl, hs, rfl⟩ := hrel
      have hs32 := shl_grow ht0 hs.out
      obtain ⟨T, hT⟩ : ∃ T, T = t * 2 ^ s := ⟨_, rfl⟩
      have f1 : IntKind.u32.wrap ((t : Int) * 2 ^ s) = (T : Int) := by
        have e : (t : Int) * 2 ^ s = ((t * 2 ^ s : Nat) : Int) := by simp
        have := hs.out
        rw [e, ← hT, IntKind.wrap_u32]; omega
      have HT := Lib.hid hT
      clear hT
      by_cases h2 : T < 2147483648
      · have g : decide ((T : Int) < 2147483648) = true := decide_eq_true (by omega)
        have HH := Aside0.mk (show t * 2 ^ (s + 1) < 4294967296 by rw [Nat.pow_succ, ← Nat.mul_assoc, ← HT.out]; omega)
        have hs31 := shl_grow ht0 HH.out
        clear h2
        go_wp2
        go_roundw
        case measure => simp [intOf]; omega
        case rel => exact ⟨s + 1, by go_num, HH, by first | rfl | trivial⟩
      · have g : decide ((T : Int) < 2147483648) = false := decide_eq_false (by omega)
        have HH := Aside0.mk (show 2147483648 ≤ t * 2 ^ s by rw [← HT.out]; omega)
        clear h2
        go_wp2
        go_meet
        case rel => exact ⟨s, rfl, hs32, ⟨HH.out, hs.out⟩, by first | rfl | trivial⟩
  case rest => as_aux_lemma =>
    obtain ⟨s, rfl, hs32, hss, rfl⟩ := hcut
    obtain ⟨wz, hwz⟩ : ∃ wz, wz = wc := ⟨_, rfl⟩
    subst hwz
    obtain ⟨n1, n2⟩ := ND.out s hss.out.1 (shl_end hs32 hss.out.2)
    have n3 := NM.out s hs32
    have n4 : b * 2 ^ s < 4294967296 ^ (m + 3) := Nat.lt_of_lt_of_le n1 (Nat.pow_le_pow_right (by omega) (by omega))
    have NN := Lib.hid (And.intro n1 (And.intro n2 (And.intro n3 LA.out)))
    have S1 := Aside0.mk (fun {w : World} hA => D1.out (w := w) s hA hs32 n3)
    have S2 := Aside0.mk (fun {w : World} hB => D2.out (w := w) s hB hs32 n4)
    clear ND NM D1 D2 n1 n2 n3 n4 hx' ht0 htl hb0 h hss LA
    go_wp2_with (fail)
    refine (S1.out HA.out).mono ?_
    rintro e w3 ⟨vu, Mu, rfl, hou, hul, hulim, huv, hb3⟩
    obtain ⟨gu, capu, rfl, hgu1, hgu2, -⟩ := Kd.R_form hou (by omega)
    rw [hul] at hou ⊢
    have HOU := Aside0.mk hou
    have HB3 := Aside0.mk hb3
    have HMU := Lib.hid (And.intro hul (And.intro hulim huv))
    clear hou hb3 hul hulim huv S1
    go_wp2_with (fail)
    refine (S2.out (Kd.C_below HB.out HB3.out)).mono ?_
    rintro e w4 ⟨vd, Md, rfl, hod, hdl, hdlim, hdv, hb4⟩
    obtain ⟨gd, capd, rfl, hgd1, hgd2, -⟩ := Kd.R_form hod (by omega)
    rw [hdl] at hod ⊢
    obtain ⟨-, hcapd, -⟩ := Kd.R_reads' hod
    have HOD := Aside0.mk hod
    have HB4 := Aside0.mk hb4
    have hld1 : (Md.take (m + 2)).length = m + 2 := by rw [List.length_take]; omega
    have hld3 : val (Md.take (m + 2)) = b * 2 ^ s := by rw [val_take_all (by omega) (by rw [hdv]; exact NN.out.1), hdv]
    have HMD := Lib.hid (And.intro hld1 (And.intro (lim_take (m + 2) hdlim) hld3))
    have HMD2 := Lib.hid hdl
    clear hod hb4 hdl hdlim hdv S2 hld1 hld3
    have e2 : (la : Int) - (m + 2) + 1 = ((la - (m + 2) + 1 : Nat) : Int) := by omega
    have E2 := Lib.hid e2
    clear e2
    have b1 : (0 : Int) ≤ (m : Int) + 2 := by omega
    have b2 : (m : Int) + 2 ≤ (capd : Int) := by omega
    go_wp2_with (refine makeK Tryz.underlying137 infoU32 (by decide) (N := 51) rfl rfl rfl (la - (m + 2) + 1) (congrArg (Value.int .i64) E2.out) (congrArg (Value.int .i64) E2.out) (by omega) ?_; intro v w5 ho hb; obtain ⟨A1, c1, rfl⟩ := Kd.R_slice ho; simp only [List.length_replicate] at ho ⊢)
    have HO := Aside0.mk ho
    have HB5 := Aside0.mk hb
    clear ho hb
    obtain ⟨gq, capq, rfl, hgq1, hgq2, -⟩ : ∃ gq capq, A1 = some ⟨gq, 0, none⟩ ∧ w4.heap.size ≤ gq ∧ gq < w5.heap.size ∧ c1 = capq := by
      obtain ⟨g, cap, e1, hg1, hg2, -⟩ := Kd.R_form HO.out (by simp)
      injection e1 with e1 _ e3
      exact ⟨g, cap, e1, hg1, hg2, e3⟩
    have hq0 := Aside0.mk (show val (Mu.drop (la - (m + 2) + 1)) < b * 2 ^ s by
      rw [val_drop_div HMU.out.2.1 (by have := HMU.out.1; omega)]
      exact div_start NN.out.2.2.2 hs32 HMU.out.2.2 NN.out.2.1 (by omega))
    have hlq : (la - (m + 2) + 1) + (m + 2) = la + 1 := by omega
    generalize hlqe : la - (m + 2) + 1 = lq at *
    have hne1 : gu ≠ gd := by omega
    have hne2 : gu ≠ gq := by have := HB4.out.size; omega
    have hgw : wz.heap.size ≤ gu := hgu1
    have hdC : ∀ {W : World}, Own W w3.heap.size (.slice (some ⟨gd, 0, none⟩) (m + 3) capd) Md → Kd.C (Kd.int .u32) W (some ⟨gd, 0, none⟩) (m + 2) (Md.take (m + 2)) := fun h => by
      have h2 := C_take (Kd.R_reads' h).2.2 (n := m + 2) (by rw [HMD2.out]; omega)
      rwa [HMD.out.1] at h2
    have HDC := Aside0.mk @hdC
    clear hdC
    generalize Md.take (m + 2) = ld at *
    go_loopw [11] (fun v11 w' => ∃ (j : Nat) (U Qs : List Int), j ≤ lq ∧ v11 = .int .i64 ((j : Int) - 1) ∧ Aside0 (U.length = la + 1 ∧ Lim U ∧ Qs.length = lq ∧ Lim Qs ∧ val (U.drop j) < b * 2 ^ s ∧ a * 2 ^ s = val (Qs.drop j) * (b * 2 ^ s) * 4294967296 ^ j + val U)
      ∧ Aside0 (Own w' wz.heap.size (.slice (some ⟨gu, 0, none⟩) (la + 1) capu) U) ∧ Aside0 (Own w' w4.heap.size (.slice (some ⟨gq, 0, none⟩) lq c1) Qs) ∧ Aside0 (Kd.C (Kd.int .u32) w' (some ⟨gd, 0, none⟩) (m + 2) ld ∧ Own w' w3.heap.size (.slice (some ⟨gd, 0, none⟩) (m + 3) capd) Md) ∧ Aside0 (Below wz.heap.size wz w')) (fun v11 _ => (intOf v11 + 1).toNat)
    case atStart => exact ⟨lq, Mu, _, Nat.le_refl _, by first | rfl | go_num, ⟨HMU.out.1, HMU.out.2.1, by simp, lim_zeros _, hq0.out, by rw [List.drop_of_length_le (by simp), HMU.out.2.2]; simp [val]⟩, ⟨Kd.R_below (Kd.R_below HOU.out HB4.out) HB5.out⟩, ⟨HO.out⟩, ⟨HDC.out (Kd.R_below HOD.out HB5.out), Kd.R_below HOD.out HB5.out⟩, ⟨below_step HB3.out (below_step HB4.out HB5.out)⟩⟩
    case round => as_aux_lemma =>
      clear HO HOU HOD HB5 hq0 HMU
      obtain ⟨j, U, Qs, hj, rfl, hU, hou, hoq, hod, hb⟩ := hrel
      obtain ⟨wo, hwo⟩ : ∃ wo, wo = wr := ⟨_, rfl⟩
      subst hwo
      rcases j with _ | i
      · have hd0 := div_end (b := b) (s := s) (Q := val Qs) rfl (by have := hU.out.2.2.2.2.2; rwa [List.drop_zero] at this) (by have := hU.out.2.2.2.2.1; rwa [List.drop_zero] at this)
        obtain ⟨hQ, hR, -⟩ := hd0
        have hrlt : a % b < 4294967296 ^ (m + 2) := by
          have h1 : 0 < b := by
            rcases Nat.eq_zero_or_pos b with h | h
            · have := hU.out.2.2.2.2.1; rw [h, Nat.zero_mul] at this; omega
            · exact h
          have h2 : b * 1 ≤ b * 2 ^ s := Nat.mul_le_mul_left _ (Nat.pow_pos (by omega))
          have h3 := Nat.mod_lt a h1
          have h4 := NN.out.1
          omega
        obtain ⟨hU1, hU2, hU3, hU4, -, -⟩ := hU.out
        have HQR := Lib.hid (And.intro hQ (And.intro hR hrlt))
        have HUU := Aside0.mk (And.intro hU1 (And.intro hU2 (And.intro hU3 hU4)))
        obtain ⟨hL, hcapu, hCu⟩ := Kd.R_reads' hou.out
        have HCU := Aside0.mk hCu
        have hlU : m + 3 ≤ U.length := by omega
        clear hU hQ hR hrlt hU1 hU2 hU3 hU4 hL hcapu hCu hou hod
        go_wp2_with (refine makeK Tryz.underlying137 infoU32 (by decide) (N := 244) rfl rfl rfl (m + 2) (by rfl) (by rfl) (by omega) ?_; intro v w6 ho hb6; obtain ⟨A2, c2, rfl⟩ := Kd.R_slice ho; simp only [List.length_replicate] at ho ⊢)
        go_loopw [25] (fun v25 w' => ∃ (i : Nat) (M : List Int), i ≤ m + 2 ∧ v25 = .int .i64 i ∧ Aside0 (M.length = m + 2 ∧ Lim M ∧ val (M.take i) = val U / 2 ^ s % 4294967296 ^ i)
          ∧ Aside0 (Own w' wo.heap.size (.slice A2 (m + 2) c2) M) ∧ Aside0 (Below wo.heap.size wo w')) (fun v25 _ => (m + 2) - (intOf v25).toNat)
        case atStart => exact ⟨0, _, Nat.zero_le _, rfl, ⟨by simp, lim_zeros _, by simp [val, Nat.mod_one]⟩, ⟨ho⟩, ⟨hb6⟩⟩
        case round => as_aux_lemma =>
          clear ho hb6
          obtain ⟨i, M, hi, rfl, hM, ho, hb6⟩ := hrel
          rcases Nat.lt_or_ge i (m + 2) with hlt | hge
          · go_wp2
            refine region_tail 18 (by kernel_rfl) (by kernel_rfl) ?_
            intro w7 hw7
            have ho7 : Own w7 wo.heap.size (.slice A2 (m + 2) c2) M := hw7 ▸ Kd.R_drew ho.out
            have hb7 : Below wo.heap.size wo w7 := hw7 ▸ below_drew hb6.out
            clear hw7 ho hb6
            obtain ⟨g, cap, e1', hg1, hg2, cells, hg3⟩ := Kd.R_form ho7 (by have := hM.out.1; omega)
            obtain ⟨rfl, -, rfl⟩ : A2 = some ⟨g, 0, none⟩ ∧ m + 2 = M.length ∧ c2 = cap := by injection e1' with e1 e2 e3; exact ⟨e1, e2, e3⟩
            clear hg3 e1'
            have uc : ∀ k, k < U.length → w7.cell? ⟨gu, k, none⟩ = some (.int .u32 (U.getD k 0)) := fun k hk => by
              obtain ⟨ad2, e, hc⟩ := C_word (Kd.C_below HCU.out hb7) (k : Int) (by omega) (by omega)
              obtain rfl : (⟨gu, 0, none⟩ : Addr) = ad2 := by injection e
              rw [Int.toNat_natCast, rd_nat] at hc
              have e : (Addr.add ⟨gu, 0, none⟩ k) = ⟨gu, k, none⟩ := by cases k <;> simp [Addr.add]
              rwa [e] at hc
            have x0 := uc i (by omega)
            have x1 := uc (i + 1) (by omega)
            have k1 := lim_get HUU.out.2.1 i
            have k2 := lim_get HUU.out.2.1 (i + 1)
            obtain ⟨x, hxx⟩ := Int.eq_ofNat_of_zero_le k1.1
            obtain ⟨y, hyy⟩ := Int.eq_ofNat_of_zero_le k2.1
            have hr := Aside0.mk (fun d => @unshift_round U M i s d HUU.out.2.1 hM.out.2.1 hs32 (by omega) (by have := hM.out.1; omega) hM.out.2.2)
            rw [hxx, hyy] at hr
            simp only [Int.toNat_natCast] at hr
            rw [hxx] at x0 k1
            rw [hyy] at x1 k2
            have hp : 0 < 2 ^ s := Nat.pow_pos (by omega)
            have hq := Nat.div_le_self (x + y * 4294967296) (2 ^ s)
            have hT64 : x + y * 4294967296 < 18446744073709551616 := by omega
            have f0 : IntKind.i64.wrap ((i : Int) + 1) = (i : Int) + 1 := by rw [IntKind.wrap_i64]; omega
            have f1 : IntKind.u64.wrap (x : Int) = (x : Int) := by rw [wrap_u64]; omega
            have f2 : IntKind.u64.wrap (y : Int) = (y : Int) := by rw [wrap_u64]; omega
            have f3 : IntKind.u64.wrap ((y : Int) * 4294967296) = (y : Int) * 4294967296 := by rw [wrap_u64]; omega
            have f4 : bits .or .u64 ((y : Int) * 4294967296) (x : Int) = ((x + y * 4294967296 : Nat) : Int) := by rw [or_shl (by omega) (by omega)]; omega
            have f5 : ((x + y * 4294967296 : Nat) : Int) / 2 ^ s = (((x + y * 4294967296) / 2 ^ s : Nat) : Int) := by simp
            have f6 : (((x + y * 4294967296) / 2 ^ s : Nat) : Int) % 4294967296 = (((x + y * 4294967296) / 2 ^ s % 4294967296 : Nat) : Int) := by omega
            have HE := Lib.hid (And.intro hxx hyy)
            clear hxx hyy k1 k2 uc
            generalize hT : x + y * 4294967296 = T at *
            generalize hQ : T / 2 ^ s = Q at *
            generalize hR : Q % 4294967296 = R at *
            have f7 : IntKind.u32.wrap (Q : Int) = (R : Int) := by rw [IntKind.wrap_u32]; omega
            have F7 := Lib.hid (And.intro f6 f7)
            clear hT hQ hR
            have b3 : (i : Int) + 1 < (la : Int) + 1 := by omega
            have b4 : (0 : Int) ≤ (i : Int) + 1 := by omega
            have b5 : (i : Int) < (la : Int) + 1 := by omega
            simp only [List.take_succ_cons, List.take_zero, List.drop_succ_cons, List.drop_zero]
            repeat still_step
            refine wpStill_nil ?_
            go_wp2_with (refine storeK infoU32 (p := 268) (j := i) rfl rfl rfl ho7 hb7 (Nat.le_refl _) (by omega) rfl rfl ?_; clear ho7 hb7; intro w8 ho8 hb8)
            go_roundw
            case measure => simp [intOf]; omega
            case rel =>
              obtain ⟨p1, p2⟩ := hr.out _ rfl
              exact ⟨i + 1, _, hlt, by go_num, ⟨by rw [List.length_set]; exact hM.out.1, p1, p2⟩, ⟨ho8⟩, ⟨hb8⟩⟩
          · obtain rfl : i = m + 2 := by omega
            have hfin : val M = a % b := by
              have h1 := hM.out.2.2
              rw [List.take_of_length_le (by have := hM.out.1; omega), HQR.out.2.1, Nat.mod_eq_of_lt HQR.out.2.2] at h1
              exact h1
            have HF := Lib.hid hfin
            have hlm := Aside0.mk hM.out.2.1
            have SQ := Aside0.mk (strip_isL ((own_isL hoq.out).below hb6.out) HUU.out.2.2.2)
            rw [HQR.out.1] at SQ
            clear hfin
            go_wp2_with (fail)
            refine SQ.out.mono ?_
            rintro e w8 ⟨v8, rfl, hq8, hd8⟩
            have HQ8 := Aside0.mk hq8
            have HD8 := Aside0.mk hd8
            clear hq8 hd8
            have SR := Aside0.mk (strip_isL ((own_isL ho.out).below HD8.out.below) hlm.out)
            rw [HF.out] at SR
            go_wp2_with (fail)
            refine SR.out.mono ?_
            rintro e w9 ⟨v9, rfl, hr9, hd9⟩
            go_wp2
            go_ret2
            exact ⟨_, _, rfl, HQ8.out.below hd9.below, hr9, below_step hb.out (below_step hb6.out (below_step HD8.out.below hd9.below))⟩
      · have e3 : ((i + 1 : Nat) : Int) - 1 = i := by omega
        rw [e3]
        clear e3
        obtain ⟨hU1, hU2, hU3, hU4, hU5, hU6⟩ := hU.out
        have hil : i + (m + 2) + 1 ≤ U.length := by omega
        have hVm : b * 2 ^ s ≤ 4294967296 ^ (m + 2) := Nat.le_of_lt NN.out.1
        have hV0 : 0 < b * 2 ^ s := Nat.lt_of_lt_of_le (Nat.mul_pos (by omega) (Nat.pow_pos (by omega))) NN.out.2.1
        have hlt := (div_parts hU2 hil hU5 hVm).1
        have HR := Aside0.mk (fun (S2 : List Int) (q : Nat) => div_round (S2 := S2) (q := q) hU2 hil (show i < Qs.length by omega) hU5 hVm hV0 hU6)
        have hpt := parts_eq U i (m + 2)
        have hxl : (U.take i).length = i := by rw [List.length_take]; omega
        have hsl : ((U.drop i).take (m + 2 + 1)).length = m + 3 := by rw [List.length_take, List.length_drop]; omega
        have HUL := Lib.hid (And.intro hU1 (And.intro hU3 hU4))
        have hou' := hou.out
        rw [hpt] at hou' hU2
        obtain ⟨X, hX⟩ : ∃ X, X = U.take i := ⟨_, rfl⟩
        obtain ⟨S, hS⟩ : ∃ S, S = (U.drop i).take (m + 2 + 1) := ⟨_, rfl⟩
        obtain ⟨Y, hY⟩ : ∃ Y, Y = U.drop (i + (m + 2) + 1) := ⟨_, rfl⟩
        rw [← hX, ← hS, ← hY] at hou' hU2
        rw [← hX] at hxl
        rw [← hS] at hsl hlt
        have HXY := Lib.hid (And.intro hX (And.intro hS hY))
        have HO := Aside0.mk hou'
        clear hX hS hY hpt hou' hou hU hU1 hU3 hU4 hU5 hU6
        obtain ⟨-, hlS, -⟩ := lim_mid hU2
        obtain ⟨u0, h0⟩ := Int.eq_ofNat_of_zero_le (lim_get hlS (m + 2)).1
        obtain ⟨u1, h1⟩ := Int.eq_ofNat_of_zero_le (lim_get hlS (m + 1)).1
        obtain ⟨u2, h2⟩ := Int.eq_ofNat_of_zero_le (lim_get hlS m).1
        obtain ⟨v1, k1⟩ := Int.eq_ofNat_of_zero_le (lim_get HMD.out.2.1 (m + 1)).1
        obtain ⟨v2, k2⟩ := Int.eq_ofNat_of_zero_le (lim_get HMD.out.2.1 m).1
        have hbig := norm_top HMD.out.2.1 HMD.out.1 rfl (by rw [HMD.out.2.2]; exact NN.out.2.1)
        rw [k1] at hbig
        have hbv : 2147483648 ≤ v1 := by omega
        have HT := Aside0.mk (top_of hlS HMD.out.2.1 HMD.out.1 hsl h0 h1 h2 k1 k2 hbv (by rw [HMD.out.2.2]; exact hlt))
        obtain ⟨-, C0⟩ := mid_of HO.out hxl.symm (m + 2) (by omega)
        obtain ⟨-, C1⟩ := mid_of HO.out hxl.symm (m + 1) (by omega)
        obtain ⟨-, C2⟩ := mid_of HO.out hxl.symm m (by omega)
        have CD := Aside0.mk (fun {W : World} (h : Kd.C (Kd.int .u32) W (some ⟨gd, 0, none⟩) (m + 2) ld) (k : Nat) (hk : k < m + 2) => (show W.cell? ⟨gd, k, none⟩ = some (.int .u32 (ld.getD k 0)) by
          rw [← HMD.out.1] at h
          obtain ⟨ad2, e, hc⟩ := C_word h (k : Int) (by omega) (by rw [HMD.out.1]; omega)
          obtain rfl : (⟨gd, 0, none⟩ : Addr) = ad2 := by injection e
          rw [Int.toNat_natCast, rd_nat] at hc
          have e : (Addr.add ⟨gd, 0, none⟩ k) = ⟨gd, k, none⟩ := by cases k <;> simp [Addr.add]
          rwa [e] at hc))
        have D1 := CD.out hod.out.1 (m + 1) (by omega)
        have D2 := CD.out hod.out.1 m (by omega)
        rw [h0] at C0
        rw [h1] at C1
        rw [h2] at C2
        rw [k1] at D1
        rw [k2] at D2
        have HH := Lib.hid (And.intro hxl hsl)
        have HLL := Aside0.mk (And.intro hU2 hlS)
        clear hxl hsl hU2 hlS h0 h1 h2 k1 k2 hbig hlt
        have u0lt : u0 < 4294967296 := by have := HT.out.u0_le; have := HT.out.hv1; omega
        have u1lt := HT.out.hu1
        have u2lt := HT.out.hu2
        have v1lt := HT.out.hv1
        have v2lt := HT.out.hv2
        have zw0 : IntKind.u64.wrap (u0 : Int) = u0 := by rw [wrap_u64]; omega
        have zw1 : IntKind.u64.wrap (u1 : Int) = u1 := by rw [wrap_u64]; omega
        have zw2 : IntKind.u64.wrap (v1 : Int) = v1 := by rw [wrap_u64]; omega
        have zw3 : IntKind.u64.wrap ((u0 : Int) * 4294967296) = (u0 : Int) * 4294967296 := by rw [wrap_u64]; omega
        obtain ⟨T, hT⟩ : ∃ T, T = u0 * 4294967296 + u1 := ⟨_, rfl⟩
        have zw4 : bits .or .u64 ((u0 : Int) * 4294967296) u1 = (T : Int) := by rw [or_shl (by omega) (by omega)]; omega
        have hGU := Guess.first HT.out
        rw [← hT] at hGU
        obtain ⟨G, hG⟩ : ∃ G, G = T / v1 := ⟨_, rfl⟩
        obtain ⟨R, hR⟩ : ∃ R, R = T % v1 := ⟨_, rfl⟩
        have zw6 : Int.tdiv (T : Int) v1 = (G : Int) := by rw [Int.tdiv_eq_ediv_of_nonneg (by omega), hG]; simp
        have zw6b : (T : Int) / v1 = (G : Int) := by rw [hG]; simp
        have zw7 : Int.tmod (T : Int) v1 = (R : Int) := by rw [Int.tmod_eq_emod_of_nonneg (by omega), hR]; simp
        have zw7b : (T : Int) % v1 = (R : Int) := by rw [hR]; simp
        rw [← hG, ← hR] at hGU
        have GU := Aside0.mk hGU
        have zw8 : IntKind.u64.wrap (G : Int) = (G : Int) := by have := hGU.le; rw [wrap_u64]; omega
        have zw9 : ((v1 : Int) == 0) = false := by simp; omega
        have zw10 : T < 18446744073709551616 := by omega
        clear hT hG hR hGU
        have q1 : IntKind.i64.wrap ((i : Int) + ((m : Int) + 2)) = (i : Int) + (m + 2) := by rw [IntKind.wrap_i64]; omega
        have q2 : IntKind.i64.wrap ((i : Int) + ((m : Int) + 2) - 1) = (i : Int) + (m + 1) := by rw [IntKind.wrap_i64]; omega
        go_wp2
        go_quiet (fail)
        go_upto_block 4 with (fail)
        clear zw0 zw1 zw2 zw3 zw4 zw6 zw6b zw7 zw7b zw8 zw9 zw10 q1 q2
        go_cut [13] (fun v13 wx => ∃ (G : Nat), v13 = .int .u64 G ∧ Aside0 (val S / val ld ≤ G ∧ G ≤ val S / val ld + 1) ∧ G < 4294967296 ∧ Aside0 (Drawn0 wo wx))
        case first => as_aux_lemma =>
          go_wp2
          go_loopw [13, 14] (fun v13 v14 w' => ∃ (G R : Nat), v13 = .int .u64 G ∧ v14 = .int .u64 R ∧ Aside0 (Guess (val S) (val ld) u0 u1 u2 v1 v2 G R) ∧ Aside0 (Drawn0 wo w')) (fun v13 _ _ => (intOf v13).toNat)
          case atStart => exact ⟨G, R, rfl, rfl, GU, ⟨Drawn0.step (Drawn0.refl wo) _⟩⟩
          case round => as_aux_lemma =>
            clear GU
            obtain ⟨G, R, rfl, rfl, hG, hd⟩ := hrel
            have GLE := hG.out.le
            have RLT := hG.out.rest
            have x0 := pw_cell_below hd.out.below C2
            have x1 := pw_cell_below hd.out.below D2
            have x2 := pw_cell_below hd.out.below D1
            clear C0 C1 C2 D1 D2
            by_cases hB : 4294967296 ≤ G
            · have g1 : decide ((4294967296 : Int) ≤ (G : Int)) = true := decide_eq_true (by omega)
              have HBB := Aside0.mk hB
              clear hB
              go_wp2
              go_quiet (fail)
              clear g1
              by_cases hR : 4294967296 ≤ R + v1
              · have g2 : decide ((4294967296 : Int) ≤ (R : Int) + v1) = true := decide_eq_true (by omega)
                have e7 : (G : Int) - 1 = ((G - 1 : Nat) : Int) := by have := ((hG.out.down (.inl HBB.out)).1); omega
                have HR := Aside0.mk hR
                clear hR
                go_wp2
                go_meet
                case rel =>
                  obtain ⟨q1, q2, q3⟩ := hG.out.stop (.inl HBB.out) HR.out
                  exact ⟨G - 1, rfl, ⟨q1, q2⟩, q3, ⟨Drawn0.step hd.out _⟩⟩
              · have g2 : decide ((4294967296 : Int) ≤ (R : Int) + v1) = false := decide_eq_false (by omega)
                have e7 : (G : Int) - 1 = ((G - 1 : Nat) : Int) := by have := ((hG.out.down (.inl HBB.out)).1); omega
                have HR := Aside0.mk hR
                clear hR
                go_wp2
                go_roundw
                case measure => have := (hG.out.down (.inl HBB.out)).1; simp [intOf]; omega
                case rel => exact ⟨G - 1, R + v1, by first | rfl | rw [e7], by go_num, ⟨hG.out.again (.inl HBB.out) (Nat.lt_of_not_le HR.out)⟩, ⟨Drawn0.step hd.out _⟩⟩
            · have g1 : decide ((4294967296 : Int) ≤ (G : Int)) = false := decide_eq_false (by omega)
              obtain ⟨A', hA⟩ : ∃ A', A' = G * v2 := ⟨_, rfl⟩
              obtain ⟨C, hC⟩ : ∃ C, C = R * 4294967296 + u2 := ⟨_, rfl⟩
              have hA2 : A' ≤ 4294967295 * 4294967295 := hA ▸ Nat.mul_le_mul (by omega) (by omega)
              have zw1 : IntKind.u64.wrap (v2 : Int) = v2 := by rw [wrap_u64]; omega
              have zw2 : IntKind.u64.wrap (u2 : Int) = u2 := by rw [wrap_u64]; omega
              have zw3 : IntKind.u64.wrap ((G : Int) * v2) = (A' : Int) := by rw [← Int.natCast_mul, ← hA, wrap_u64]; omega
              have zw4 : IntKind.u64.wrap ((R : Int) * 4294967296) = (R : Int) * 4294967296 := by rw [wrap_u64]; omega
              have zw5 : bits .or .u64 ((R : Int) * 4294967296) u2 = (C : Int) := by rw [or_shl (by omega) (by omega)]; omega
              have zw6 : IntKind.i64.wrap ((m : Int) + 2 - 2) = (m : Int) := by rw [IntKind.wrap_i64]; omega
              have zw7 : IntKind.i64.wrap ((i : Int) + ((m : Int) + 2)) = (i : Int) + (m + 2) := by rw [IntKind.wrap_i64]; omega
              have zw8 : IntKind.i64.wrap ((i : Int) + ((m : Int) + 2) - 2) = (i : Int) + m := by rw [IntKind.wrap_i64]; omega
              have HBB := Aside0.mk hB
              clear hB hA2
              by_cases ht : C < A'
              · have g3 : decide (C < A') = true := decide_eq_true ht
                have HAC := Aside0.mk (show R * 4294967296 + u2 < G * v2 by omega)
                clear ht hA hC
                go_wp2
                go_quiet (fail)
                clear g1 g3 zw1 zw2 zw3 zw4 zw5 zw6 zw7 zw8
                by_cases hR : 4294967296 ≤ R + v1
                · have g2 : decide ((4294967296 : Int) ≤ (R : Int) + v1) = true := decide_eq_true (by omega)
                  have e7 : (G : Int) - 1 = ((G - 1 : Nat) : Int) := by have := ((hG.out.down (.inr (by have := HAC.out; omega))).1); omega
                  have HR := Aside0.mk hR
                  clear hR
                  go_wp2
                  go_meet
                  case rel =>
                    obtain ⟨q1, q2, q3⟩ := hG.out.stop (.inr (by have := HAC.out; omega)) HR.out
                    exact ⟨G - 1, rfl, ⟨q1, q2⟩, q3, ⟨Drawn0.step hd.out _⟩⟩
                · have g2 : decide ((4294967296 : Int) ≤ (R : Int) + v1) = false := decide_eq_false (by omega)
                  have e7 : (G : Int) - 1 = ((G - 1 : Nat) : Int) := by have := ((hG.out.down (.inr (by have := HAC.out; omega))).1); omega
                  have HR := Aside0.mk hR
                  clear hR
                  go_wp2
                  go_roundw
                  case measure => have := (hG.out.down (.inr (by have := HAC.out; omega))).1; simp [intOf]; omega
                  case rel => exact ⟨G - 1, R + v1, by first | rfl | rw [e7], by go_num, ⟨hG.out.again (.inr (by have := HAC.out; omega)) (Nat.lt_of_not_le HR.out)⟩, ⟨Drawn0.step hd.out _⟩⟩
              · have g3 : decide (C < A') = false := decide_eq_false ht
                have HAC := Aside0.mk (show G * v2 ≤ R * 4294967296 + u2 by omega)
                clear ht hA hC
                go_wp2
                go_quiet (fail)
                go_wp2
                go_meet
                case rel =>
                  obtain ⟨q1, q2, q3⟩ := hG.out.done (by have := HBB.out; omega) HAC.out
                  exact ⟨G, rfl, ⟨q1, q2⟩, q3, ⟨Drawn0.step hd.out _⟩⟩
        case rest => as_aux_lemma =>
          clear C0 C1 C2 D1 D2 GU u0lt u1lt u2lt v1lt v2lt
          obtain ⟨G, rfl, hq, hG, hd⟩ := hcut
          have HDR := Aside0.mk (fun {W : World} (hg : wo.grownBy W (some gu)) => own_grown hod.out.2 hg hne1.symm)
          go_wp2
          go_loopw [15, 16, 17] (fun v15 v16 v17 w' => ∃ (k c b : Nat) (S1 : List Int), k ≤ m + 2 ∧ v15 = .int .u64 c ∧ v16 = .int .u64 b ∧ v17 = .int .i64 k ∧ c < 4294967296 ∧ b ≤ 1 ∧ Aside0 (S1.length = m + 3 ∧ Lim S1 ∧ (∀ j, k ≤ j → S1.getD j 0 = S.getD j 0) ∧ val (S1.take k) + G * val (ld.take k) = val (S.take k) + (c + b) * 4294967296 ^ k)
            ∧ Aside0 (Own w' wz.heap.size (.slice (some ⟨gu, 0, none⟩) (la + 1) capu) (X ++ S1 ++ Y)) ∧ Aside0 (wo.grownBy w' (some gu))) (fun _ _ v17 _ => (m + 2) - (intOf v17).toNat)
          case atStart => exact ⟨0, 0, 0, S, Nat.zero_le _, rfl, rfl, rfl, by omega, by omega, ⟨HH.out.2, HLL.out.2, fun _ _ => rfl, by simp [val]⟩, ⟨Kd.R_below HO.out hd.out.below⟩, ⟨grown_of_below hd.out.below _⟩⟩
          case round => as_aux_lemma =>
            clear HO
            obtain ⟨k, c, b, S1, hk, rfl, rfl, rfl, hc, hb1, hS1, ho, hg⟩ := hrel
            obtain ⟨hxk, hz⟩ := mid_of ho.out HH.out.1.symm k (by have := hS1.out.1; omega)
            have ks := lim_get hS1.out.2.1 k
            obtain ⟨xx, hxx⟩ := Int.eq_ofNat_of_zero_le ks.1
            rw [hxx] at hz ks
            have hx2 : xx < 4294967296 := by omega
            have hS0 : S.getD k 0 = (xx : Int) := by rw [← hS1.out.2.2.1 k (Nat.le_refl _), hxx]
            have hsl := HH.out.2
            have hml := HMD.out.1
            rcases Nat.lt_or_ge k (m + 2) with hlt | hge
            · have hy := CD.out (HDC.out (HDR.out hg.out)) k hlt
              have kd := lim_get HMD.out.2.1 k
              obtain ⟨d, hdd⟩ := Int.eq_ofNat_of_zero_le kd.1
              rw [hdd] at hy kd
              have hd2 : d < 4294967296 := by omega
              obtain ⟨A', hA⟩ : ∃ A', A' = G * d := ⟨_, rfl⟩
              have hA2 : A' ≤ 4294967295 * 4294967295 := hA ▸ Nat.mul_le_mul (by omega) (by omega)
              obtain ⟨tt, htt⟩ : ∃ tt, tt = A' + c := ⟨_, rfl⟩
              obtain ⟨q, hqq⟩ : ∃ q, q = tt / 4294967296 := ⟨_, rfl⟩
              obtain ⟨r, hrr⟩ : ∃ r, r = tt % 4294967296 := ⟨_, rfl⟩
              obtain ⟨sd, c2, e1, e2, e3, e4, e5⟩ := bor_nat hx2 (show r < 4294967296 by omega) hb1
              obtain ⟨yy, hyy⟩ : ∃ yy, yy = r + b := ⟨_, rfl⟩
              have f1 : IntKind.u64.wrap ((G : Int) * d) = (A' : Int) := by rw [← Int.natCast_mul, ← hA, wrap_u64]; omega
              have f2 : (c : Int) + A' = (tt : Int) := by omega
              have f3 : (tt : Int) / 4294967296 = (q : Int) := by omega
              have f4 : bits .and .u64 (tt : Int) 4294967295 = (r : Int) := by rw [and_low (by omega) (by omega)]; omega
              have f5 : (r : Int) + b = (yy : Int) := by omega
              have f6 : tt < 18446744073709551616 := by omega
              have f7 : q < 4294967296 := by omega
              have f8 : r < 4294967296 := by omega
              have f9 : yy ≤ 4294967296 := by omega
              have hrnd := Aside0.mk (@ms_round S S1 ld k G c b xx d sd c2 hS1.out.2.1 (by have := hS1.out.1; omega) (by omega) (by omega) hxx hS0 hdd e3 hS1.out.2.2.2 (by rw [← hA, ← htt, ← hrr]; exact e5))
              have EQ := Lib.hid (And.intro hA (And.intro htt hqq))
              by_cases hlt2 : xx < yy
              · obtain rfl : c2 = 1 := by omega
                obtain ⟨x2, hx22⟩ : ∃ x2, x2 = xx + 4294967296 := ⟨_, rfl⟩
                have f10 : (xx : Int) + 4294967296 = (x2 : Int) := by omega
                have f11 : (x2 : Int) - yy = (sd : Int) := by omega
                have f12 : yy ≤ x2 := by omega
                have f13 : x2 < 8589934592 := by omega
                clear hA htt hqq hrr hxx hS0 hdd hA2 e5 ks kd hsl hml hyy hx22 e1 e2 f9
                go_wp2_with (refine storeG infoU32 (p := 169) (j := i + k) rfl rfl rfl ho.out hg.out hxk rfl rfl ?_; clear ho hg hz; intro w4 ho4 hg4)
                go_roundw
                case measure => simp [intOf]; omega
                case rel =>
                  obtain ⟨a1, a2, a3⟩ := EQ.out
                  rw [← HH.out.1, set_mid (by have := hS1.out.1; omega)] at ho4
                  obtain ⟨p1, p2⟩ := hrnd.out
                  exact ⟨k + 1, q, 1, S1.set k (sd : Int), hlt, rfl, rfl, by go_num, f7, by omega, ⟨by rw [List.length_set]; exact hS1.out.1, p1, fun j hj => by rw [get_set_after _ (by omega)]; exact hS1.out.2.2.1 j (by omega), by rw [p2, ← a1, ← a2, ← a3]⟩, ⟨ho4⟩, ⟨hg4⟩⟩
              · obtain rfl : c2 = 0 := by omega
                have f11 : (xx : Int) - yy = (sd : Int) := by omega
                have f12 : yy ≤ xx := by omega
                clear hA htt hqq hrr hxx hS0 hdd hA2 e5 ks kd hsl hml hyy e1 e2 f9
                go_wp2_with (refine storeG infoU32 (p := 169) (j := i + k) rfl rfl rfl ho.out hg.out hxk rfl rfl ?_; clear ho hg hz; intro w4 ho4 hg4)
                go_roundw
                case measure => simp [intOf]; omega
                case rel =>
                  obtain ⟨a1, a2, a3⟩ := EQ.out
                  rw [← HH.out.1, set_mid (by have := hS1.out.1; omega)] at ho4
                  obtain ⟨p1, p2⟩ := hrnd.out
                  exact ⟨k + 1, q, 0, S1.set k (sd : Int), hlt, rfl, rfl, by go_num, f7, by omega, ⟨by rw [List.length_set]; exact hS1.out.1, p1, fun j hj => by rw [get_set_after _ (by omega)]; exact hS1.out.2.2.1 j (by omega), by rw [p2, ← a1, ← a2, ← a3]⟩, ⟨ho4⟩, ⟨hg4⟩⟩
            · obtain rfl : k = m + 2 := by omega
              obtain ⟨sd, c2, e1, e2, e3, e4, e5⟩ := bor_nat hx2 hc hb1
              have hlast := ms_last (S0 := S) (S := S1) (ld := ld) (n := m + 2) (by omega) hS1.out.1 (by omega) hS0 hS1.out.2.2.2 e5
              have hlim1 := Aside0.mk (lim_set (m + 2) hS1.out.2.1 (x := (sd : Int)) (by omega))
              obtain ⟨yy, hyy⟩ : ∃ yy, yy = c + b := ⟨_, rfl⟩
              have f5 : (c : Int) + b = (yy : Int) := by omega
              obtain ⟨zz, f6, f7, f8⟩ : ∃ zz : Nat, IntKind.u64.wrap ((xx : Int) - yy) = (zz : Int) ∧ (zz : Int) % 4294967296 = (sd : Int) ∧ zz < 18446744073709551616 :=
                ⟨(((xx : Int) - yy) % 18446744073709551616).toNat, by rw [wrap_u64]; omega, by omega, by omega⟩
              obtain ⟨lt, g1⟩ : ∃ lt : Bool, decide ((xx : Int) < (yy : Int)) = lt := ⟨_, rfl⟩
              have g2 : decide (xx < yy) = lt := by rw [← g1, Bool.eq_iff_iff, decide_eq_true_iff, decide_eq_true_iff]; omega
              have GL := Lib.hid (show (if lt then c2 = 1 else c2 = 0) by
                rw [← g2]
                by_cases h9 : xx < yy
                · rw [if_pos (decide_eq_true h9)]; omega
                · rw [if_neg (by simpa using h9)]; omega)
              have HL := Aside0.mk hlast
              have hsb : (S1.set (m + 2) (sd : Int)).length = m + 3 := by rw [List.length_set]; exact hS1.out.1
              have HSB := Lib.hid hsb
              have HE := Aside0.mk e4
              have HSE := Aside0.mk (fun h => set_mid (X := X) (S := S1) (Y := Y) (k := m + 2) h (sd : Int))
              clear e1 e2 e4 e5 hxx hS0 hsl hml hyy hlast hsb ks
              go_upto_if 192 with (refine storeG infoU32 (p := 191) (j := i + (m + 2)) rfl rfl rfl ho.out hg.out hxk rfl rfl ?_; clear ho hg hz; intro w4 ho4 hg4)
              have F7 := Lib.hid f7
              clear f5 f6 f7 f8 g1 g2
              rw [F7.out, ← HH.out.1, HSE.out (by have := hS1.out.1; omega)] at ho4
              have HO4 := Aside0.mk ho4
              have HG4 := Aside0.mk hg4
              clear ho4 hg4 hS1
              generalize S1.set (m + 2) (sd : Int) = SB at *
              go_cut [13] (fun v13 wx => ∃ (q : Nat) (S2 : List Int), v13 = .int .u64 q ∧ q < 4294967296 ∧ Aside0 (q = val S / val ld ∧ S2.length = m + 3 ∧ Lim S2 ∧ val S2 = val S % val ld) ∧ Aside0 (Own wx wz.heap.size (.slice (some ⟨gu, 0, none⟩) (la + 1) capu) (X ++ S2 ++ Y)) ∧ Aside0 (wo.grownBy wx (some gu)))
              case first => as_aux_lemma =>
                cases lt
                · have hc0 : c2 = 0 := by have := GL.out; simpa using this
                  have HR := Aside0.mk (step_right HT.out.pos hq.out.1 (by have := HL.out; rwa [hc0] at this))
                  clear hc0
                  go_wp2
                  go_meet
                  case rel => exact ⟨G, SB, rfl, hG, ⟨HR.out.1, HSB.out, hlim1.out, HR.out.2⟩, HO4, HG4⟩
                · have hc1 : c2 = 1 := by have := GL.out; simpa using this
                  have HL1 := Aside0.mk (show val SB + G * val ld = val S + 1 * 4294967296 ^ (m + 2 + 1) by have := HL.out; rwa [hc1] at this)
                  have hGp : 1 ≤ G := by
                    rcases Nat.eq_zero_or_pos G with h | h
                    · have h8 := HL1.out
                      rw [h, Nat.zero_mul] at h8
                      have h7 : val SB < 4294967296 ^ (m + 2 + 1) := by have := val_lt hlim1.out; rwa [HSB.out] at this
                      omega
                    · exact h
                  have e9 : (G : Int) - 1 = ((G - 1 : Nat) : Int) := by omega
                  clear hc1 HL GL
                  go_wp2
                  go_loopw [15, 23] (fun v15 v23 w' => ∃ (k c : Nat) (S2 : List Int), k ≤ m + 2 ∧ v15 = .int .u64 c ∧ v23 = .int .i64 k ∧ c ≤ 1 ∧ Aside0 (S2.length = m + 3 ∧ Lim S2 ∧ (∀ j, k ≤ j → S2.getD j 0 = SB.getD j 0) ∧ val (S2.take k) + c * 4294967296 ^ k = val (SB.take k) + val (ld.take k))
                    ∧ Aside0 (Own w' wz.heap.size (.slice (some ⟨gu, 0, none⟩) (la + 1) capu) (X ++ S2 ++ Y)) ∧ Aside0 (wo.grownBy w' (some gu))) (fun _ v23 _ => (m + 2) - (intOf v23).toNat)
                  case atStart => exact ⟨0, 0, SB, Nat.zero_le _, rfl, rfl, by omega, ⟨HSB.out, hlim1.out, fun _ _ => rfl, by simp [val]⟩, HO4, HG4⟩
                  case round => as_aux_lemma =>
                    clear HO4 HG4 hxk
                    obtain ⟨k, c3, S2, hk, rfl, rfl, hc3, hS2, ho, hg⟩ := hrel
                    obtain ⟨hxk, hz⟩ := mid_of ho.out HH.out.1.symm k (by have := hS2.out.1; omega)
                    have ks := lim_get hS2.out.2.1 k
                    obtain ⟨yy, hyy⟩ := Int.eq_ofNat_of_zero_le ks.1
                    rw [hyy] at hz ks
                    have hy2 : yy < 4294967296 := by omega
                    have hSB0 : SB.getD k 0 = (yy : Int) := by rw [← hS2.out.2.2.1 k (Nat.le_refl _), hyy]
                    rcases Nat.lt_or_ge k (m + 2) with hlt | hge
                    · have hy := CD.out (HDC.out (HDR.out hg.out)) k hlt
                      have kd := lim_get HMD.out.2.1 k
                      obtain ⟨d, hdd⟩ := Int.eq_ofNat_of_zero_le kd.1
                      rw [hdd] at hy kd
                      have hd2 : d < 4294967296 := by omega
                      obtain ⟨tt, htt⟩ : ∃ tt, tt = yy + d + c3 := ⟨_, rfl⟩
                      obtain ⟨t1, ht1⟩ : ∃ t1, t1 = c3 + yy := ⟨_, rfl⟩
                      obtain ⟨q, hqq⟩ : ∃ q, q = tt / 4294967296 := ⟨_, rfl⟩
                      obtain ⟨r, hrr⟩ : ∃ r, r = tt % 4294967296 := ⟨_, rfl⟩
                      have f1 : IntKind.u64.wrap (yy : Int) = (yy : Int) := by rw [wrap_u64]; omega
                      have f2 : IntKind.u64.wrap (d : Int) = (d : Int) := by rw [wrap_u64]; omega
                      have f3 : IntKind.u64.wrap ((c3 : Int) + yy) = (t1 : Int) := by rw [wrap_u64]; omega
                      have f4 : IntKind.u64.wrap ((t1 : Int) + d) = (tt : Int) := by rw [wrap_u64]; omega
                      have f5 : IntKind.i64.wrap ((i : Int) + k) = (i : Int) + k := by rw [IntKind.wrap_i64]; omega
                      have f6 : (tt : Int) % 4294967296 = (r : Int) := by omega
                      have f7 : (tt : Int) / 4294967296 = (q : Int) := by omega
                      have f8 : q ≤ 1 := by omega
                      have f9 : tt < 12884901888 := by omega
                      have hrnd := Aside0.mk (@ab_round SB S2 ld k c3 yy d hS2.out.2.1 (by have := hS2.out.1; omega) (by have := HSB.out; omega) (by have := HMD.out.1; omega) hSB0 hdd hS2.out.2.2.2)
                      rw [← htt, ← hqq, ← hrr] at hrnd
                      have F6 := Lib.hid f6
                      clear htt hqq hrr hyy hSB0 hdd ks kd ht1
                      go_wp2
                      go_quiet (fail)
                      have ho5 := Kd.R_drewN ho.out nq
                      have hg5 := grown_trans hg.out (grown_of_below (pw_below_drewN (Below.refl _ _) nq) (some gu))
                      clear ho hg
                      go_wp2_with (refine storeG infoU32 (p := 221) (j := i + k) rfl rfl rfl ho5 hg5 hxk rfl rfl ?_; clear ho5 hg5; intro w5 ho5 hg5)
                      go_roundw
                      case measure => simp [intOf]; omega
                      case rel =>
                        first | rw [F6.out, ← HH.out.1, set_mid (by have := hS2.out.1; omega)] at ho5 | rw [← HH.out.1, set_mid (by have := hS2.out.1; omega)] at ho5
                        obtain ⟨p1, p2⟩ := hrnd.out
                        exact ⟨k + 1, q, S2.set k (r : Int), hlt, rfl, by go_num, f8, ⟨by rw [List.length_set]; exact hS2.out.1, p1, fun j hj => by rw [get_set_after _ (by omega)]; exact hS2.out.2.2.1 j (by omega), p2⟩, ⟨ho5⟩, ⟨hg5⟩⟩
                    · obtain rfl : k = m + 2 := by omega
                      have HAL := Aside0.mk (ab_last (S0 := SB) (S := S2) (ld := ld) (n := m + 2) HSB.out hS2.out.1 HMD.out.1 hSB0 hS2.out.2.2.2)
                      have f1 : ((yy : Int) + c3) % 4294967296 = ((yy + c3) % 4294967296 : Nat) := by omega
                      have hlim2 := Aside0.mk (lim_set (m + 2) hS2.out.2.1 (x := (((yy + c3) % 4294967296 : Nat) : Int)) (by omega))
                      have HF1 := Lib.hid f1
                      clear f1 hyy hSB0 ks
                      go_wp2_with (refine storeG infoU32 (p := 237) (j := i + (m + 2)) rfl rfl rfl ho.out hg.out hxk rfl rfl ?_; clear ho hg hz; intro w5 ho5 hg5)
                      go_meet
                      case rel =>
                        rw [HF1.out, ← HH.out.1, set_mid (by have := hS2.out.1; omega)] at ho5
                        have hW : ∀ {l : List Int}, Lim l → l.length = m + 3 → val l < 4294967296 ^ (m + 2 + 1) := fun hl hn => by have := val_lt hl; rwa [hn] at this
                        have hVW : val ld ≤ 4294967296 ^ (m + 2 + 1) := by
                          have := val_lt HMD.out.2.1
                          rw [HMD.out.1] at this
                          exact Nat.le_trans (Nat.le_of_lt this) (Nat.pow_le_pow_right (by omega) (by omega))
                        obtain ⟨r1, r2⟩ := step_back HT.out.pos hVW hq.out.2 (hW hlim1.out HSB.out) (hW hlim2.out (by rw [List.length_set]; exact hS2.out.1)) HL1.out HAL.out
                        exact ⟨G - 1, S2.set (m + 2) _, by first | rfl | rw [e9], by omega, ⟨by omega, by rw [List.length_set]; exact hS2.out.1, hlim2.out, r2⟩, ⟨ho5⟩, ⟨hg5⟩⟩
              case rest => as_aux_lemma =>
                clear HO4 HG4 hq hG HL GL HSB hlim1 hxk HE HSE
                obtain ⟨q, S2, rfl, hq1, hq2, ho, hg⟩ := hcut
                have hqf : (q : Int) % 4294967296 = (q : Int) := by omega
                have hiq : i < lq := by omega
                go_wp2_with (refine storeG infoU32 (p := 242) (j := i) rfl rfl rfl (own_grown hoq.out hg.out hne2.symm) (grown_refl _ _) hiq rfl rfl ?_; intro w7 hoq7 hg7)
                go_roundw
                case measure => simp [intOf]
                case rel =>
                  obtain ⟨h1, h2, h3, h4⟩ := hq2.out
                  obtain ⟨x1, x2, x3⟩ := HXY.out
                  obtain ⟨r1, r2⟩ := HR.out S2 q (by omega) (by rw [h4, x2, HMD.out.2.2]) (by rw [h1, x2, HMD.out.2.2])
                  have hoU := own_grown ho.out hg7 hne2
                  have hgB : Below wz.heap.size wz w7 := pw_below_grown (pw_below_grown hb.out _ hb.out.size hg.out (by intro k hk; injection hk; omega)) _ (Nat.le_trans hb.out.size hg.out.size) hg7 (by intro k hk; injection hk; have := HB4.out.size; have := HB3.out.size; omega)
                  have hoD := own_grown (HDR.out hg.out) hg7 (show gd ≠ gq by omega)
                  refine ⟨i, _, _, by omega, by first | rfl | go_num, ⟨?_, ?_, ?_, ?_, r1, r2⟩, ⟨x1 ▸ x3 ▸ hoU⟩, ⟨hoq7⟩, ⟨HDC.out hoD, hoD⟩, ⟨hgB⟩⟩
                  · have := HUL.out.1; simp only [List.length_append, List.length_take, List.length_drop, h2]; omega
                  · obtain ⟨l1, -, l3⟩ := lim_mid HLL.out.1
                    exact lim_append (lim_append (x1 ▸ l1) h3) (x3 ▸ l3)
                  · rw [List.length_set]; exact HUL.out.2.1
                  · exact lim_set _ HUL.out.2.2 (by omega)
end Go.Proofs.YtnimgfnknlkkdaaGreatDoor.H
