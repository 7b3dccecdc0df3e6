import Derived.Test.YtnimgfnknlkkdaaGreatDoorK1
import Derived.Lib.BitFns
set_option linter.unusedVariables false
set_option linter.unusedSimpArgs false
open Go
namespace Go.Proofs.YtnimgfnknlkkdaaGreatDoor.H
open Go Go.RowKit Go.Proofs.YtnimgfnknlkkdaaGreatDoorW.PrintWords Go.Proofs.YtnimgfnknlkkdaaGreatDoorW.PrintLast Go.Proofs.YtnimgfnknlkkdaaGreatDoorW.PrintMore Go.Proofs.YtnimgfnknlkkdaaGreatDoor.Num
theorem shift_zero {M : List Int} {i : Nat} {x : Int} (h : ∀ j, i < j → M.getD j 0 = 0) : (M.set i x).getD (i + 1) 0 = 0 := by
  rw [List.getD_eq_getElem?_getD, List.getElem?_set_ne (by omega), ← List.getD_eq_getElem?_getD]
  exact h _ (by omega)
set_option maxRecDepth 100000 in
set_option maxHeartbeats 1000000 in
theorem natural_shift (la : List Int) (b n : Nat) (A : Option Addr) (c : Nat) (w : World) (hL : Lim la) (hA : Kd.C (Kd.int .u32) w A la.length la) (hc : la.length ≤ c) (hb0 : b < 32) (hn : la.length ≤ n) (hn2 : n ≤ 274877906944) (htop : val la * 2 ^ b < 4294967296 ^ n) :
    Calls Tryz.prog 166 #[.slice A la.length c, .int .u64 b, .int .i64 n] w fun e w' => ∃ v M, e = .returned v ∧ Own w' w.heap.size v M ∧ M.length = n ∧ Lim M ∧ val M = val la * 2 ^ b ∧ Below w.heap.size w w' := by
  have HA := Aside0.mk hA
  have L1 := Aside0.mk hL
  have HT := Lib.hid htop
  clear hA hL htop
  obtain ⟨m, hm⟩ : ∃ m, m = la.length := ⟨_, rfl⟩
  rw [← hm] at hc hn HA ⊢
  have HN := Lib.hid hm
  clear hm
  go_enter Tryz.func166, Tryz.ntmps166
  go_wp2_with (refine makeK Tryz.underlying138 infoU32 (by decide) (N := 12) rfl rfl rfl n rfl rfl (by omega) ?_; intro v w1 ho hb; obtain ⟨A1, c1, rfl⟩ := Kd.R_slice ho; simp only [List.length_replicate] at ho ⊢)
  go_loopw [15] (fun v15 w' => ∃ (i : Nat) (M : List Int), i ≤ m ∧ v15 = .int .i64 i ∧ Aside0 (M.length = n ∧ Lim M ∧ (∀ j, i < j → M.getD j 0 = 0) ∧ M.getD i 0 < 2 ^ b ∧ val M = val (la.take i) * 2 ^ b)
    ∧ Aside0 (Own w' w.heap.size (.slice A1 n c1) M) ∧ Aside0 (Below w.heap.size w w')) (fun v15 _ => m - (intOf v15).toNat)
  case atStart => exact ⟨0, _, Nat.zero_le _, rfl, ⟨by simp, lim_zeros _, fun j _ => zero_rep n 0 j (Nat.zero_le _), by rw [zero_rep n 0 0 (Nat.le_refl _)]; exact Int.pow_pos (by omega), by simp [val_zeros, val]⟩, ⟨ho⟩, ⟨hb⟩⟩
  case round =>
    clear ho hb
    obtain ⟨i, M, hi, rfl, hM, ho, hb⟩ := hrel
    rcases Nat.lt_or_ge i m with hlt | hge
    · obtain ⟨ad, rfl, hx⟩ := C_word (HN.out ▸ Kd.C_below HA.out hb.out : Kd.C (Kd.int .u32) wr A la.length la) (i : Int) (by omega) (by have := HN.out; omega)
      rw [Int.toNat_natCast, rd_nat] at hx
      obtain ⟨g, cap, e1, hg1, hg2, cells, hg3⟩ := Kd.R_form ho.out (by have := hM.out.1; omega)
      obtain ⟨rfl, -, rfl⟩ : A1 = some ⟨g, 0, none⟩ ∧ n = M.length ∧ c1 = cap := by injection e1 with e1 e2 e3; exact ⟨e1, e2, e3⟩
      clear hg3 e1
      obtain ⟨hz, hf⟩ := Kd.R_celln 0 ho.out (i : Int) (by omega) (by omega)
      rw [Int.toNat_natCast, rdOf_nat] at hz
      rw [Int.toNat_natCast] at hf
      have k1 := lim_get L1.out i
      have k2 := lim_get hM.out.2.1 i
      obtain ⟨y, hy⟩ := Int.eq_ofNat_of_zero_le k1.1
      obtain ⟨z, hzz⟩ := Int.eq_ofNat_of_zero_le k2.1
      have hz2 : z < 2 ^ b := by
        have := hM.out.2.2.2.1
        rw [hzz] at this
        have e : ((2 : Int) ^ b) = ((2 ^ b : Nat) : Int) := by simp
        rw [e] at this
        exact Int.ofNat_lt.1 this
      obtain ⟨n1, -, n3, n4, n5⟩ := shift_num hb0 hz2 (show y < 4294967296 by omega)
      have hor := shift_or hb0 hz2 (show y < 4294967296 by omega)
      have hrnd := Aside0.mk (@shift_round la M i n b y L1.out hM.out.2.1 hb0 (by have := HN.out; omega) hM.out.1 (by have := HN.out; omega) hM.out.2.2.1 z hzz hz2 hM.out.2.2.2.2 HT.out hy)
      have f1 : IntKind.u64.wrap ((y : Int) * 2 ^ b) = ((y * 2 ^ b : Nat) : Int) := by
        rw [show (y : Int) * 2 ^ b = ((y * 2 ^ b : Nat) : Int) by simp, wrap_u64]; omega
      rw [hy] at hx k1
      rw [hzz] at hz k2
      have hRlt : y * 2 ^ b % 4294967296 < 4294967296 := Nat.mod_lt _ (by omega)
      have f2 : ((y * 2 ^ b : Nat) : Int) % 4294967296 = ((y * 2 ^ b % 4294967296 : Nat) : Int) := by omega
      have f4 : ((y * 2 ^ b : Nat) : Int) / 4294967296 = ((y * 2 ^ b / 4294967296 : Nat) : Int) := by omega
      have f5 : bits .or .u32 0 ((y * 2 ^ b / 4294967296 : Nat) : Int) = ((y * 2 ^ b / 4294967296 : Nat) : Int) := zero_or (by omega) (by omega)
      rw [show (z : Int) + ((y * 2 ^ b % 4294967296 : Nat) : Int) = ((z + y * 2 ^ b % 4294967296 : Nat) : Int) by omega] at hor
      have HQ := Lib.hid (show y * 2 ^ b / 4294967296 < 2 ^ b from n4)
      have HH := Lib.hid (And.intro hy hzz)
      generalize hT : y * 2 ^ b = T at *
      generalize hR : T % 4294967296 = R at *
      generalize hQ : T / 4294967296 = Q at *
      generalize hS : z + R = s at *
      have hs0 : s < 4294967296 := by omega
      have hy0 : y < 4294967296 := by omega
      have hQ0 : Q < 4294967296 := by omega
      have hTe := Lib.hid (And.intro hT (And.intro hR (And.intro hQ hS)))
      clear hT hR hQ hS hy hzz n4 n5 n3 hz2 k1 k2
      by_cases hin : i + 1 < n
      · go_wp2_with (first | (refine storeK infoU32 (p := 31) (j := i) rfl rfl rfl ho.out hb.out (Nat.le_refl _) (by omega) rfl rfl ?_; clear ho hb hz hf; intro w4 ho4 hb4; obtain ⟨hz4, hf4⟩ := Kd.R_celln 0 ho4 ((i + 1 : Nat) : Int) (by omega) (by omega); rw [Int.toNat_natCast, rdOf_nat, shift_zero hM.out.2.2.1] at hz4; rw [Int.toNat_natCast] at hf4; have HO4 := Aside0.mk ho4; have HB4 := Aside0.mk hb4; clear ho4 hb4) | (refine storeK infoU32 (p := 45) (j := i + 1) rfl rfl rfl HO4.out HB4.out (Nat.le_refl _) (by omega) rfl rfl ?_; clear HO4 HB4 hz4 hf4; intro w5 ho5 hb5))
        go_roundw
        case measure => simp [intOf]; omega
        case rel =>
          refine ⟨i + 1, _, hlt, by go_num, ⟨by simp [hM.out.1], lim_set _ (lim_set _ hM.out.2.1 (by omega)) (by omega), fun j hj => ?_, ?_, hrnd.out.1 hin⟩, ⟨ho5⟩, ⟨hb5⟩⟩
          · rw [List.getD_eq_getElem?_getD, List.getElem?_set_ne (by omega), List.getElem?_set_ne (by omega), ← List.getD_eq_getElem?_getD]
            exact hM.out.2.2.1 j (by omega)
          · rw [List.getD_eq_getElem?_getD, List.getElem?_set_self (by rw [List.length_set]; have := hM.out.1; omega), Option.getD_some, show ((2 : Int) ^ b) = ((2 ^ b : Nat) : Int) by simp]
            exact Int.ofNat_lt.2 HQ.out
      · go_wp2_with (refine storeK infoU32 (p := 31) (j := i) rfl rfl rfl ho.out hb.out (Nat.le_refl _) (by omega) rfl rfl ?_; clear ho hb hz hf; intro w4 ho4 hb4)
        go_roundw
        case measure => simp [intOf]; omega
        case rel =>
          refine ⟨i + 1, _, hlt, by go_num, ⟨by rw [List.length_set]; exact hM.out.1, lim_set _ hM.out.2.1 (by omega), fun j hj => ?_, by rw [shift_zero hM.out.2.2.1]; exact Int.pow_pos (by omega), hrnd.out.2 hin⟩, ⟨ho4⟩, ⟨hb4⟩⟩
          rw [List.getD_eq_getElem?_getD, List.getElem?_set_ne (by omega), ← List.getD_eq_getElem?_getD]
          exact hM.out.2.2.1 j (by omega)
    · obtain rfl : i = m := by omega
      go_wp2
      go_ret
      exact ⟨_, M, rfl, ho.out, hM.out.1, hM.out.2.1, by rw [hM.out.2.2.2.2, List.take_of_length_le (by have := HN.out; omega)], hb.out⟩
end Go.Proofs.YtnimgfnknlkkdaaGreatDoor.H
/- A number shifted right. -/
set_option linter.unusedVariables false
set_option linter.unusedSimpArgs false
namespace Go.Proofs.YtnimgfnknlkkdaaGreatDoor.Num
open Go
theorem take_set_succ {M : List Int} {i : Nat} (h : i < M.length) (s : Int) : (M.set i s).take (i + 1) = M.take i ++ [s] := by
  rw [List.take_succ_eq_append_getElem (by rw [List.length_set]; exact h)]
  simp [List.take_set]
  rw [List.set_eq_of_length_le (by rw [List.length_take]; omega)]
theorem div_drop (l : List Int) (h : Lim l) (n : Nat) (hn : n ≤ l.length) : val l / 4294967296 ^ n = val (l.drop n) := by
  rw [val_split l n hn]
  have h1 := val_lt (lim_take n h)
  rw [List.length_take, Nat.min_eq_left hn] at h1
  rw [Nat.add_mul_div_left _ _ (Nat.pow_pos (by omega)), Nat.div_eq_of_lt h1]
  omega
theorem unshift_digit {l : List Int} {i b : Nat} (h : Lim l) (hb : b < 32) (hi : i < l.length) :
    ((l.getD i 0).toNat + (l.getD (i + 1) 0).toNat * 4294967296) / 2 ^ b % 4294967296 = val l / 2 ^ b / 4294967296 ^ i % 4294967296 := by
  rw [Nat.div_div_eq_div_mul (val l), Nat.mul_comm (2 ^ b) (4294967296 ^ i), ← Nat.div_div_eq_div_mul, div_drop l h i (by omega), val_drop l i hi]
  have hdvd : (4294967296 : Nat) = 2 ^ b * 2 ^ (32 - b) := by rw [← Nat.pow_add, show b + (32 - b) = 32 by omega]
  have e : ∃ r, val (l.drop (i + 1)) = (l.getD (i + 1) 0).toNat + 4294967296 * r := by
    by_cases h1 : i + 1 < l.length
    · exact ⟨_, val_drop l (i + 1) h1⟩
    · refine ⟨0, ?_⟩
      rw [List.drop_of_length_le (by omega), List.getD_eq_getElem?_getD, List.getElem?_eq_none (by omega)]
      rfl
  obtain ⟨r, e⟩ := e
  rw [e]
  generalize (l.getD i 0).toNat = x
  generalize (l.getD (i + 1) 0).toNat = y
  have e2 : x + 4294967296 * (y + 4294967296 * r) = (x + y * 4294967296) + 2 ^ b * (4294967296 * (2 ^ (32 - b) * r)) := by
    have : 2 ^ b * (4294967296 * (2 ^ (32 - b) * r)) = 4294967296 * (4294967296 * r) := by
      rw [Nat.mul_left_comm, ← Nat.mul_assoc (2 ^ b), ← hdvd]
    rw [this]; omega
  rw [e2, Nat.add_mul_div_left _ _ (Nat.pow_pos (by omega)), Nat.add_mul_mod_self_left]
theorem unshift_round {l M : List Int} {i b d : Nat} (h : Lim l) (hM : Lim M) (hb : b < 32) (hi : i < l.length) (hiM : i < M.length) (hv : val (M.take i) = val l / 2 ^ b % 4294967296 ^ i)
    (hd : d = ((l.getD i 0).toNat + (l.getD (i + 1) 0).toNat * 4294967296) / 2 ^ b % 4294967296) :
    Lim (M.set i (d : Int)) ∧ val ((M.set i (d : Int)).take (i + 1)) = val l / 2 ^ b % 4294967296 ^ (i + 1) := by
  rw [unshift_digit h hb hi] at hd
  refine ⟨lim_set i hM (by omega), ?_⟩
  rw [take_set_succ hiM, val_append, hv, List.length_take, Nat.min_eq_left (by omega), Nat.pow_succ, Nat.mod_mul, val, val, Int.toNat_natCast, hd]
  rfl
end Go.Proofs.YtnimgfnknlkkdaaGreatDoor.Num
set_option linter.unusedVariables false
set_option linter.unusedSimpArgs false
open Go
namespace Go.Proofs.YtnimgfnknlkkdaaGreatDoor.H
open Go Go.RowKit Go.Proofs.YtnimgfnknlkkdaaGreatDoorW.PrintWords Go.Proofs.YtnimgfnknlkkdaaGreatDoorW.PrintLast Go.Proofs.YtnimgfnknlkkdaaGreatDoorW.PrintMore Go.Proofs.YtnimgfnknlkkdaaGreatDoor.Num
set_option maxRecDepth 100000 in
set_option maxHeartbeats 1000000 in
theorem natural_unshift (la : List Int) (b : Nat) (A : Option Addr) (c : Nat) (w : World) (hL : Lim la) (hA : Kd.C (Kd.int .u32) w A la.length la) (hc : la.length ≤ c) (hb0 : b < 32) (hn : la.length ≤ 274877906944) :
    Calls Tryz.prog 168 #[.slice A la.length c, .int .u64 b] w fun e w' => ∃ v, e = .returned v ∧ IsL w' v (dig (val la / 2 ^ b)) ∧ Below w.heap.size w w' := by
  have HA := Aside0.mk hA
  have L1 := Aside0.mk hL
  clear hA hL
  obtain ⟨n, hn'⟩ : ∃ n, n = la.length := ⟨_, rfl⟩
  rw [← hn'] at hc hn HA ⊢
  have HN := Lib.hid hn'
  clear hn'
  go_enter Tryz.func168, Tryz.ntmps168
  go_wp2_with (refine makeK Tryz.underlying138 infoU32 (by decide) (N := 10) rfl rfl rfl n rfl rfl (by omega) ?_; intro v w1 ho hb; obtain ⟨A1, c1, rfl⟩ := Kd.R_slice ho; simp only [List.length_replicate] at ho ⊢)
  go_loopw [13] (fun v13 w' => ∃ (i : Nat) (M : List Int), i ≤ n ∧ v13 = .int .i64 i ∧ Aside0 (M.length = n ∧ Lim M ∧ val (M.take i) = val la / 2 ^ b % 4294967296 ^ i)
    ∧ Aside0 (Own w' w.heap.size (.slice A1 n c1) M) ∧ Aside0 (Below w.heap.size w w')) (fun v13 _ => n - (intOf v13).toNat)
  case atStart => exact ⟨0, _, Nat.zero_le _, rfl, ⟨by simp, lim_zeros _, by simp [val, Nat.mod_one]⟩, ⟨ho⟩, ⟨hb⟩⟩
  case round =>
    clear ho hb
    obtain ⟨i, M, hi, rfl, hM, ho, hb⟩ := hrel
    rcases Nat.lt_or_ge i n with hlt | hge
    · obtain ⟨ad, rfl, hx⟩ := C_word (HN.out ▸ Kd.C_below HA.out hb.out : Kd.C (Kd.int .u32) wr A la.length la) (i : Int) (by omega) (by have := HN.out; omega)
      rw [Int.toNat_natCast, rd_nat] at hx
      obtain ⟨g, cap, e1, hg1, hg2, cells, hg3⟩ := Kd.R_form ho.out (by have := hM.out.1; omega)
      obtain ⟨rfl, -, rfl⟩ : A1 = some ⟨g, 0, none⟩ ∧ n = M.length ∧ c1 = cap := by injection e1 with e1 e2 e3; exact ⟨e1, e2, e3⟩
      clear hg3 e1
      have k1 := lim_get L1.out i
      have k2 := lim_get L1.out (i + 1)
      obtain ⟨x, hxx⟩ := Int.eq_ofNat_of_zero_le k1.1
      obtain ⟨y, hyy⟩ := Int.eq_ofNat_of_zero_le k2.1
      have hr := Aside0.mk (fun d => @unshift_round la M i b d L1.out hM.out.2.1 hb0 (by have := HN.out; omega) (by have := hM.out.1; omega) hM.out.2.2)
      rw [hxx, hyy] at hr
      simp only [Int.toNat_natCast] at hr
      rw [hxx] at hx k1
      have hp : 0 < 2 ^ b := Nat.pow_pos (by omega)
      have f2 : ((x + y * 4294967296 : Nat) : Int) / 2 ^ b = (((x + y * 4294967296) / 2 ^ b : Nat) : Int) := by simp
      have hq := Nat.div_le_self (x + y * 4294967296) (2 ^ b)
      have f3 : (((x + y * 4294967296) / 2 ^ b : Nat) : Int) % 4294967296 = (((x + y * 4294967296) / 2 ^ b % 4294967296 : Nat) : Int) := by omega
      by_cases hin : i + 1 < n
      · obtain ⟨ad2, e2, hx2⟩ := C_word (HN.out ▸ Kd.C_below HA.out hb.out : Kd.C (Kd.int .u32) wr (some ad) la.length la) ((i + 1 : Nat) : Int) (by omega) (by have := HN.out; omega)
        obtain rfl : ad = ad2 := by injection e2
        rw [Int.toNat_natCast, rd_nat, hyy] at hx2
        have hx3 : wr.cell? { block := ad.block, off := ad.off + (i + 1) } = some (.int .u32 (y : Int)) := by simpa [Addr.add] using hx2
        clear hx2
        rw [hyy] at k2
        have f1 : bits .or .u64 (x : Int) ((y : Int) * 4294967296) = ((x + y * 4294967296 : Nat) : Int) := by
          rw [Num.or_comm, or_shl (by omega) (by omega)]; omega
        have HE := Lib.hid (And.intro hxx hyy)
        clear hxx hyy e2
        have hx0 : x < 4294967296 := by omega
        have hy0 : y < 4294967296 := by omega
        generalize hT : x + y * 4294967296 = T at *
        have hT64 : T < 18446744073709551616 := by omega
        generalize hQ : T / 2 ^ b = Q at *
        generalize hR : Q % 4294967296 = R at *
        clear hT hQ hR k1 k2
        go_wp2_with (refine storeK infoU32 (p := 41) (j := i) rfl rfl rfl ho.out hb.out (Nat.le_refl _) (by omega) rfl rfl ?_; clear ho hb; intro w4 ho4 hb4)
        go_roundw
        case measure => simp [intOf]; omega
        case rel =>
          obtain ⟨p1, p2⟩ := hr.out _ rfl
          rw [f3] at ho4
          exact ⟨i + 1, _, hlt, by go_num, ⟨by rw [List.length_set]; exact hM.out.1, p1, p2⟩, ⟨ho4⟩, ⟨hb4⟩⟩
      · have hy0 : la.getD (i + 1) 0 = 0 := by rw [List.getD_eq_getElem?_getD, List.getElem?_eq_none (by have := HN.out; omega)]; rfl
        obtain rfl : y = 0 := by omega
        have HE := Lib.hid (And.intro hxx hyy)
        clear hxx hyy hy0
        have hx0 : x < 4294967296 := by omega
        simp only [Nat.zero_mul, Nat.add_zero] at f2 f3 hq hr
        generalize hQ : x / 2 ^ b = Q at *
        generalize hR : Q % 4294967296 = R at *
        clear hQ hR k1 k2
        go_wp2_with (refine storeK infoU32 (p := 41) (j := i) rfl rfl rfl ho.out hb.out (Nat.le_refl _) (by omega) rfl rfl ?_; clear ho hb; intro w4 ho4 hb4)
        go_roundw
        case measure => simp [intOf]; omega
        case rel =>
          obtain ⟨p1, p2⟩ := hr.out _ rfl
          rw [show (Q : Int) = R by omega] at ho4
          exact ⟨i + 1, _, hlt, by go_num, ⟨by rw [List.length_set]; exact hM.out.1, p1, p2⟩, ⟨ho4⟩, ⟨hb4⟩⟩
    · obtain rfl : i = n := by omega
      have hfin : val M = val la / 2 ^ b := by
        have h1 := hM.out.2.2
        rw [List.take_of_length_le (by have := hM.out.1; omega)] at h1
        rw [h1, Nat.mod_eq_of_lt]
        have h2 := val_lt L1.out
        rw [← HN.out] at h2
        exact Nat.lt_of_le_of_lt (Nat.div_le_self _ _) h2
      have HF := Lib.hid hfin
      have hlm := Aside0.mk hM.out.2.1
      clear hfin
      go_wp2_with (go_at_call 124; refine (trim_own ho.out hlm.out).mono ?_; rintro e w5 ⟨v5, rfl, hr, hd5⟩)
      go_ret
      rw [HF.out] at hr
      exact ⟨v5, rfl, hr, below_step hb.out hd5.below⟩
end Go.Proofs.YtnimgfnknlkkdaaGreatDoor.H
/- One digit of a long division (the guess, its correction, and what is subtracted). -/
set_option linter.unusedVariables false
set_option linter.unusedSimpArgs false
namespace Go.Proofs.YtnimgfnknlkkdaaGreatDoor.Num
open Go
/-- What is fixed while a digit is determined: the top digits, and what lies below. -/
structure Top (U V u0 u1 u2 v1 v2 : Nat) : Prop where
  ex : ∃ P Ul Vl, 0 < P ∧ Ul < P ∧ Vl < P ∧ U = ((u0 * 4294967296 + u1) * 4294967296 + u2) * P + Ul ∧ V = (v1 * 4294967296 + v2) * P + Vl
  hu1 : u1 < 4294967296
  hu2 : u2 < 4294967296
  hv1 : v1 < 4294967296
  hv2 : v2 < 4294967296
  big : 2147483648 ≤ v1
  lt : U < V * 4294967296
theorem Top.pos {U V u0 u1 u2 v1 v2 : Nat} (h : Top U V u0 u1 u2 v1 v2) : 0 < V := by
  have := h.lt
  rcases Nat.eq_zero_or_pos V with h0 | h0
  · rw [h0] at this; omega
  · exact h0
theorem Top.quot_lt {U V u0 u1 u2 v1 v2 : Nat} (h : Top U V u0 u1 u2 v1 v2) : U / V < 4294967296 := Nat.div_lt_of_lt_mul h.lt
theorem Top.u0_le {U V u0 u1 u2 v1 v2 : Nat} (h : Top U V u0 u1 u2 v1 v2) : u0 ≤ v1 := by
  obtain ⟨P, Ul, Vl, hP, hU, hV, e1, e2⟩ := h.ex
  have hl := h.lt
  refine Nat.le_of_not_lt fun h1 => ?_
  have h2 : (v1 + 1) * P ≤ u0 * P := Nat.mul_le_mul_right _ h1
  have h3 : v2 * P ≤ 4294967295 * P := Nat.mul_le_mul_right _ (by have := h.hv2; omega)
  have f1 : U = u0 * P * 18446744073709551616 + u1 * P * 4294967296 + u2 * P + Ul := by rw [e1]; grind
  have f2 : V = v1 * P * 4294967296 + v2 * P + Vl := by rw [e2]; grind
  rw [Nat.succ_mul] at h2
  omega
/-- The quotient isn't above what the three top digits allow. -/
theorem Top.quot {U V u0 u1 u2 v1 v2 : Nat} (h : Top U V u0 u1 u2 v1 v2) : U / V * (v1 * 4294967296 + v2) ≤ (u0 * 4294967296 + u1) * 4294967296 + u2 := by
  obtain ⟨P, Ul, Vl, hP, hU, hV, e1, e2⟩ := h.ex
  have h1 := Nat.div_mul_le_self U V
  generalize U / V = q at *
  have h2 : q * (v1 * 4294967296 + v2) * P ≤ q * V := by
    rw [Nat.mul_assoc]; exact Nat.mul_le_mul_left _ (by omega)
  have h3 : q * (v1 * 4294967296 + v2) * P < ((u0 * 4294967296 + u1) * 4294967296 + u2 + 1) * P := by
    rw [Nat.succ_mul]; omega
  exact Nat.lt_succ_iff.1 (Nat.lt_of_mul_lt_mul_right h3)
/-- A guess that the three top digits allow is at most one too great. -/
theorem Top.close {U V u0 u1 u2 v1 v2 g : Nat} (h : Top U V u0 u1 u2 v1 v2) (hg : g < 4294967296) (ha : g * (v1 * 4294967296 + v2) ≤ (u0 * 4294967296 + u1) * 4294967296 + u2) : g ≤ U / V + 1 := by
  obtain ⟨P, Ul, Vl, hP, hU, hV, e1, e2⟩ := h.ex
  have hb := h.big
  have h1 : g * (v1 * 4294967296 + v2) * P ≤ ((u0 * 4294967296 + u1) * 4294967296 + u2) * P := Nat.mul_le_mul_right _ ha
  have h2 : g * Vl ≤ 4294967295 * P := Nat.mul_le_mul (by omega) (by omega)
  have h3 : 2147483648 * 4294967296 * P ≤ (v1 * 4294967296 + v2) * P := Nat.mul_le_mul_right _ (by omega)
  have h4 : g * V = g * (v1 * 4294967296 + v2) * P + g * Vl := by rw [e2, Nat.mul_add, Nat.mul_assoc]
  have h5 : g * V < U + V := by rw [h4]; omega
  have hp := h.pos
  have h6 : U < (U / V + 1) * V := by rw [Nat.mul_comm]; exact Nat.lt_mul_div_succ U hp
  have h7 : g * V < (U / V + 1 + 1) * V := by rw [Nat.succ_mul]; omega
  have := Nat.lt_of_mul_lt_mul_right h7
  omega
/-- The state of the guess: g, and the rest r of the two top digits. -/
structure Guess (U V u0 u1 u2 v1 v2 g r : Nat) : Prop where
  top : Top U V u0 u1 u2 v1 v2
  eq : g * v1 + r = u0 * 4294967296 + u1
  ge : U / V ≤ g
  le : g ≤ 4294967297
  rest : r < 4294967296
theorem Guess.first {U V u0 u1 u2 v1 v2 : Nat} (h : Top U V u0 u1 u2 v1 v2) : Guess U V u0 u1 u2 v1 v2 ((u0 * 4294967296 + u1) / v1) ((u0 * 4294967296 + u1) % v1) := by
  have h0 := h.u0_le
  have hb := h.big
  have h1 := h.hu1
  have hv := h.hv1
  have hq := h.quot
  have e := Nat.div_add_mod (u0 * 4294967296 + u1) v1
  have hm := Nat.mod_lt (u0 * 4294967296 + u1) (show 0 < v1 by omega)
  refine ⟨h, by rw [Nat.mul_comm]; exact e, ?_, ?_, by omega⟩
  · rw [Nat.le_div_iff_mul_le (by omega)]
    generalize U / V = q at *
    have hu2 := h.hu2
    rw [Nat.mul_add q (v1 * 4294967296) v2, ← Nat.mul_assoc q v1 4294967296] at hq
    clear e hm
    generalize q * v1 = A at *
    generalize q * v2 = C at *
    omega
  · have h3 : u0 * 4294967296 + u1 < v1 * 4294967298 := by omega
    have := Nat.div_lt_of_lt_mul h3
    omega
/-- The guess is too great: one less. -/
theorem Guess.down {U V u0 u1 u2 v1 v2 g r : Nat} (h : Guess U V u0 u1 u2 v1 v2 g r) (ht : 4294967296 ≤ g ∨ r * 4294967296 + u2 < g * v2) :
    1 ≤ g ∧ (g - 1) * v1 + (r + v1) = u0 * 4294967296 + u1 ∧ U / V ≤ g - 1 := by
  have hl := h.top.quot_lt
  have hq := h.top.quot
  have hge := h.ge
  have he := h.eq
  generalize U / V = q at *
  have hlt : q < g := by
    rcases ht with ht | ht
    · omega
    · refine Nat.lt_of_le_of_ne hge fun e => ?_
      rw [e, Nat.mul_add g (v1 * 4294967296) v2, ← Nat.mul_assoc g v1 4294967296, ← he] at hq
      omega
  obtain ⟨g', rfl⟩ : ∃ g', g = g' + 1 := ⟨g - 1, by omega⟩
  refine ⟨by omega, ?_, by omega⟩
  rw [Nat.add_mul] at he
  rw [Nat.add_sub_cancel]
  omega
theorem Guess.again {U V u0 u1 u2 v1 v2 g r : Nat} (h : Guess U V u0 u1 u2 v1 v2 g r) (ht : 4294967296 ≤ g ∨ r * 4294967296 + u2 < g * v2) (hr : r + v1 < 4294967296) : Guess U V u0 u1 u2 v1 v2 (g - 1) (r + v1) := by
  obtain ⟨h1, h2, h3⟩ := h.down ht
  have := h.le
  exact ⟨h.top, h2, h3, by omega, hr⟩
/-- The guess when the loop ends by its test. -/
theorem Guess.done {U V u0 u1 u2 v1 v2 g r : Nat} (h : Guess U V u0 u1 u2 v1 v2 g r) (hg : g < 4294967296) (ht : g * v2 ≤ r * 4294967296 + u2) : U / V ≤ g ∧ g ≤ U / V + 1 ∧ g < 4294967296 := by
  refine ⟨h.ge, h.top.close hg ?_, hg⟩
  rw [Nat.mul_add g (v1 * 4294967296) v2, ← Nat.mul_assoc g v1 4294967296, ← h.eq]
  omega
/-- The guess when the loop ends because the rest is great. -/
theorem Guess.stop {U V u0 u1 u2 v1 v2 g r : Nat} (h : Guess U V u0 u1 u2 v1 v2 g r) (ht : 4294967296 ≤ g ∨ r * 4294967296 + u2 < g * v2) (hr : 4294967296 ≤ r + v1) : U / V ≤ g - 1 ∧ g - 1 ≤ U / V + 1 ∧ g - 1 < 4294967296 := by
  obtain ⟨h1, h2, h3⟩ := h.down ht
  have hu := h.top.u0_le
  have hu1 := h.top.hu1
  have hv2 := h.top.hv2
  generalize g - 1 = g' at *
  have hg : g' < 4294967296 := by
    refine Nat.lt_of_not_le fun h5 => ?_
    have h6 : 4294967296 * v1 ≤ g' * v1 := Nat.mul_le_mul_right _ h5
    omega
  refine ⟨h3, h.top.close hg ?_, hg⟩
  rw [Nat.mul_add g' (v1 * 4294967296) v2, ← Nat.mul_assoc g' v1 4294967296, ← h2]
  have h7 : g' * v2 ≤ 4294967295 * 4294967295 := Nat.mul_le_mul (by omega) (by omega)
  omega
end Go.Proofs.YtnimgfnknlkkdaaGreatDoor.Num
/- A row's middle part; what step subtracts and adds back. -/
set_option linter.unusedVariables false
set_option linter.unusedSimpArgs false
namespace Go.Proofs.YtnimgfnknlkkdaaGreatDoor.Num
open Go
theorem get_mid {X S Y : List Int} {k : Nat} (h : k < S.length) : (X ++ S ++ Y).getD (X.length + k) 0 = S.getD k 0 := by
  rw [List.getD_eq_getElem?_getD, List.getD_eq_getElem?_getD, List.append_assoc, List.getElem?_append_right (by omega), Nat.add_sub_cancel_left, List.getElem?_append_left h]
theorem set_mid {X S Y : List Int} {k : Nat} (h : k < S.length) (x : Int) : (X ++ S ++ Y).set (X.length + k) x = X ++ S.set k x ++ Y := by
  rw [List.append_assoc, List.set_append_right _ _ (by omega), Nat.add_sub_cancel_left, List.set_append_left _ _ h, List.append_assoc]
theorem lim_mid {X S Y : List Int} (h : Lim (X ++ S ++ Y)) : Lim X ∧ Lim S ∧ Lim Y :=
  ⟨fun x hx => h x (by simp [hx]), fun x hx => h x (by simp [hx]), fun x hx => h x (by simp [hx])⟩
theorem take_set_same {S : List Int} {k : Nat} (x : Int) : (S.set k x).take k = S.take k := by
  rw [List.take_set, List.set_eq_of_length_le (by rw [List.length_take]; omega)]
theorem val_take_set {S : List Int} {k : Nat} (h : k < S.length) (x : Int) : val ((S.set k x).take (k + 1)) = val (S.take k) + 4294967296 ^ k * x.toNat := by
  rw [take_set_succ h, val_append, List.length_take, Nat.min_eq_left (by omega)]; simp [val]
theorem get_set_after {S : List Int} {k j : Nat} (x : Int) (h : k < j) : (S.set k x).getD j 0 = S.getD j 0 := by
  rw [List.getD_eq_getElem?_getD, List.getElem?_set_ne (by omega), ← List.getD_eq_getElem?_getD]
theorem bor_nat {x y b : Nat} (hx : x < 4294967296) (hy : y < 4294967296) (hb : b ≤ 1) : ∃ s c : Nat, ((x : Int) - y - b) % 4294967296 = (s : Int) ∧ bor x y b = (c : Int) ∧ s < 4294967296 ∧ c ≤ 1 ∧ s + y + b = x + c * 4294967296 := by
  unfold bor
  by_cases h : x < y + b
  · refine ⟨x + 4294967296 - y - b, 1, by omega, by rw [if_pos (by omega)]; rfl, by omega, by omega, by omega⟩
  · refine ⟨x - y - b, 0, by omega, by rw [if_neg (by omega)]; rfl, by omega, by omega, by omega⟩
/-- One digit of what is subtracted. -/
theorem ms_round {S0 S ld : List Int} {k g c b x d s c2 : Nat} (hS : Lim S) (hk : k < S.length) (hk0 : k < S0.length) (hkd : k < ld.length)
    (hx : S.getD k 0 = (x : Int)) (hx0 : S0.getD k 0 = (x : Int)) (hd : ld.getD k 0 = (d : Int)) (hs : s < 4294967296)
    (hv : val (S.take k) + g * val (ld.take k) = val (S0.take k) + (c + b) * 4294967296 ^ k) (he : s + (g * d + c) % 4294967296 + b = x + c2 * 4294967296) :
    Lim (S.set k (s : Int)) ∧ val ((S.set k (s : Int)).take (k + 1)) + g * val (ld.take (k + 1)) = val (S0.take (k + 1)) + ((g * d + c) / 4294967296 + c2) * 4294967296 ^ (k + 1) := by
  refine ⟨lim_set k hS (by omega), ?_⟩
  rw [val_take_set hk, val_take_succ S0 k hk0, val_take_succ ld k hkd, hx0, hd, Int.toNat_natCast, Int.toNat_natCast, Int.toNat_natCast, Nat.pow_succ]
  have e1 := Nat.div_add_mod (g * d + c) 4294967296
  have e2 : 4294967296 ^ k * (s + (g * d + c) % 4294967296 + b) = 4294967296 ^ k * (x + c2 * 4294967296) := by rw [he]
  have e3 : 4294967296 ^ k * (g * d + c) = 4294967296 ^ k * (4294967296 * ((g * d + c) / 4294967296) + (g * d + c) % 4294967296) := by rw [e1]
  generalize (g * d + c) / 4294967296 = q at *
  generalize (g * d + c) % 4294967296 = m at *
  generalize 4294967296 ^ k = P at *
  clear e1 he
  have e4 : g * (val (ld.take k) + P * d) = g * val (ld.take k) + P * (g * d) := by rw [Nat.mul_add g, Nat.mul_left_comm]
  rw [e4]
  simp only [Nat.mul_add P, Nat.add_mul] at *
  have e5 : P * (c2 * 4294967296) = c2 * (P * 4294967296) := by rw [Nat.mul_left_comm]
  have e6 : P * (4294967296 * q) = q * (P * 4294967296) := by rw [← Nat.mul_assoc, Nat.mul_comm]
  have e7 : P * c = c * P := Nat.mul_comm _ _
  have e8 : P * b = b * P := Nat.mul_comm _ _
  omega
/-- One digit of what is added back. -/
theorem ab_round {S0 S ld : List Int} {k c x d : Nat} (hS : Lim S) (hk : k < S.length) (hk0 : k < S0.length) (hkd : k < ld.length)
    (hx0 : S0.getD k 0 = (x : Int)) (hd : ld.getD k 0 = (d : Int))
    (hv : val (S.take k) + c * 4294967296 ^ k = val (S0.take k) + val (ld.take k)) :
    Lim (S.set k (((x + d + c) % 4294967296 : Nat) : Int)) ∧ val ((S.set k (((x + d + c) % 4294967296 : Nat) : Int)).take (k + 1)) + (x + d + c) / 4294967296 * 4294967296 ^ (k + 1) = val (S0.take (k + 1)) + val (ld.take (k + 1)) := by
  refine ⟨lim_set k hS (by omega), ?_⟩
  rw [val_take_set hk, val_take_succ S0 k hk0, val_take_succ ld k hkd, hx0, hd, Int.toNat_natCast, Int.toNat_natCast, Int.toNat_natCast, Nat.pow_succ]
  have e1 := Nat.div_add_mod (x + d + c) 4294967296
  have e3 : 4294967296 ^ k * (x + d + c) = 4294967296 ^ k * (4294967296 * ((x + d + c) / 4294967296) + (x + d + c) % 4294967296) := by rw [e1]
  generalize (x + d + c) / 4294967296 = q at *
  generalize (x + d + c) % 4294967296 = m at *
  generalize 4294967296 ^ k = P at *
  clear e1
  simp only [Nat.mul_add P] at *
  have e6 : P * (4294967296 * q) = q * (P * 4294967296) := by rw [← Nat.mul_assoc, Nat.mul_comm]
  have e7 : P * c = c * P := Nat.mul_comm _ _
  omega
theorem val_snoc {S : List Int} {n x : Nat} (h : S.length = n + 1) (hx : S.getD n 0 = (x : Int)) : val S = val (S.take n) + 4294967296 ^ n * x := by
  have := val_take_succ S n (by omega)
  rw [List.take_of_length_le (by omega), hx, Int.toNat_natCast] at this
  exact this
theorem val_set_last {S : List Int} {n x : Nat} (h : S.length = n + 1) : val (S.set n (x : Int)) = val (S.take n) + 4294967296 ^ n * x := by
  have := val_take_set (S := S) (k := n) (by omega) (x : Int)
  rw [List.take_of_length_le (by rw [List.length_set]; omega), Int.toNat_natCast] at this
  exact this
theorem ms_last {S0 S ld : List Int} {n g c b x s c2 : Nat} (h0 : S0.length = n + 1) (h : S.length = n + 1) (hd : ld.length = n) (hx0 : S0.getD n 0 = (x : Int))
    (hv : val (S.take n) + g * val (ld.take n) = val (S0.take n) + (c + b) * 4294967296 ^ n) (he : s + c + b = x + c2 * 4294967296) : val (S.set n (s : Int)) + g * val ld = val S0 + c2 * 4294967296 ^ (n + 1) := by
  rw [List.take_of_length_le (l := ld) (by omega)] at hv
  rw [val_set_last h, val_snoc h0 hx0, Nat.pow_succ]
  have e2 : 4294967296 ^ n * (s + c + b) = 4294967296 ^ n * (x + c2 * 4294967296) := by rw [he]
  generalize 4294967296 ^ n = P at *
  simp only [Nat.mul_add P, Nat.add_mul] at *
  have e5 : P * (c2 * 4294967296) = c2 * (P * 4294967296) := by rw [Nat.mul_left_comm]
  have e7 : P * c = c * P := Nat.mul_comm _ _
  have e8 : P * b = b * P := Nat.mul_comm _ _
  omega
theorem ab_last {S0 S ld : List Int} {n c x : Nat} (h0 : S0.length = n + 1) (h : S.length = n + 1) (hd : ld.length = n) (hx0 : S0.getD n 0 = (x : Int))
    (hv : val (S.take n) + c * 4294967296 ^ n = val (S0.take n) + val (ld.take n)) : val (S.set n (((x + c) % 4294967296 : Nat) : Int)) + (x + c) / 4294967296 * 4294967296 ^ (n + 1) = val S0 + val ld := by
  rw [List.take_of_length_le (l := ld) (by omega)] at hv
  rw [val_set_last h, val_snoc h0 hx0, Nat.pow_succ]
  have e1 := Nat.div_add_mod (x + c) 4294967296
  have e3 : 4294967296 ^ n * (x + c) = 4294967296 ^ n * (4294967296 * ((x + c) / 4294967296) + (x + c) % 4294967296) := by rw [e1]
  generalize (x + c) / 4294967296 = q at *
  generalize (x + c) % 4294967296 = m at *
  generalize 4294967296 ^ n = P at *
  clear e1
  simp only [Nat.mul_add P] at *
  have e6 : P * (4294967296 * q) = q * (P * 4294967296) := by rw [← Nat.mul_assoc, Nat.mul_comm]
  have e7 : P * c = c * P := Nat.mul_comm _ _
  omega
/-- Nothing was borrowed: the guess was right. -/
theorem step_right {U V S g W : Nat} (hV : 0 < V) (hg : U / V ≤ g) (hv : S + g * V = U + 0 * W) : g = U / V ∧ S = U % V := by
  have h1 : g * V ≤ U := by omega
  have h2 : g ≤ U / V := (Nat.le_div_iff_mul_le hV).2 h1
  have h3 : g = U / V := by omega
  refine ⟨h3, ?_⟩
  have := Nat.div_add_mod U V
  rw [← h3, Nat.mul_comm] at this
  omega
/-- Something was borrowed: the guess was one too great; V is added back. -/
theorem step_back {U V S S2 g c W : Nat} (hV : 0 < V) (hVW : V ≤ W) (hg : g ≤ U / V + 1) (hS : S < W) (hS2 : S2 < W) (hv : S + g * V = U + 1 * W) (hb : S2 + c * W = S + V) : g = U / V + 1 ∧ S2 = U % V := by
  have e := Nat.div_add_mod U V
  have hm := Nat.mod_lt U hV
  have h3 : g = U / V + 1 := by
    refine Nat.le_antisymm hg (Nat.lt_of_not_le fun h => ?_)
    have h4 : g * V ≤ U / V * V := Nat.mul_le_mul_right _ h
    rw [Nat.mul_comm] at e
    omega
  refine ⟨h3, ?_⟩
  rw [h3, Nat.succ_mul] at hv
  rw [Nat.mul_comm] at e
  have hc : c = 1 := by
    have h5 : S2 + c * W = U % V + W := by omega
    rcases Nat.lt_trichotomy c 1 with h | h | h
    · have : c = 0 := by omega
      subst this; omega
    · exact h
    · have : 2 * W ≤ c * W := Nat.mul_le_mul_right _ h
      omega
  subst hc
  omega
end Go.Proofs.YtnimgfnknlkkdaaGreatDoor.Num
/- The top digits of a row and of a divisor. -/
set_option linter.unusedVariables false
set_option linter.unusedSimpArgs false
namespace Go.Proofs.YtnimgfnknlkkdaaGreatDoor.Num
open Go
theorem top_of {S ld : List Int} {m u0 u1 u2 v1 v2 : Nat} (hS : Lim S) (hl : Lim ld) (hn : ld.length = m + 2) (hs : S.length = m + 3) (h0 : S.getD (m + 2) 0 = (u0 : Int)) (h1 : S.getD (m + 1) 0 = (u1 : Int)) (h2 : S.getD m 0 = (u2 : Int))
    (k1 : ld.getD (m + 1) 0 = (v1 : Int)) (k2 : ld.getD m 0 = (v2 : Int)) (hb : 2147483648 ≤ v1) (hlt : val S < val ld * 4294967296) : Top (val S) (val ld) u0 u1 u2 v1 v2 := by
  have a0 := lim_get hS (m + 2)
  have a1 := lim_get hS (m + 1)
  have a2 := lim_get hS m
  have b1 := lim_get hl (m + 1)
  have b2 := lim_get hl m
  have t1 := val_lt (lim_take m hS)
  have t2 := val_lt (lim_take m hl)
  rw [List.length_take, Nat.min_eq_left (by omega)] at t1 t2
  refine ⟨⟨4294967296 ^ m, val (S.take m), val (ld.take m), Nat.pow_pos (by omega), t1, t2, ?_, ?_⟩, by omega, by omega, by omega, by omega, hb, hlt⟩
  · rw [val_split S m (by omega), val_drop S m (by omega), val_drop S (m + 1) (by omega), val_drop S (m + 2) (by omega), List.drop_of_length_le (by omega), h0, h1, h2, val]
    simp only [Int.toNat_natCast]
    rw [Nat.add_comm, Nat.mul_comm]
    congr 2
    omega
  · rw [val_split ld m (by omega), val_drop ld m (by omega), val_drop ld (m + 1) (by omega), List.drop_of_length_le (by omega), k1, k2, val]
    simp only [Int.toNat_natCast]
    rw [Nat.add_comm, Nat.mul_comm]
    congr 2
    omega
end Go.Proofs.YtnimgfnknlkkdaaGreatDoor.Num
set_option linter.unusedVariables false
set_option linter.unusedSimpArgs false
open Go
namespace Go.Proofs.YtnimgfnknlkkdaaGreatDoor.H
open Go Go.RowKit Go.Proofs.YtnimgfnknlkkdaaGreatDoorW.PrintWords Go.Proofs.YtnimgfnknlkkdaaGreatDoorW.PrintLast Go.Proofs.YtnimgfnknlkkdaaGreatDoorW.PrintMore Go.Proofs.YtnimgfnknlkkdaaGreatDoor.Num
theorem grown_trans {w w1 w2 : World} {row : Option Nat} (h : w.grownBy w1 row) (k : w1.grownBy w2 row) : w.grownBy w2 row :=
  ⟨k.os.trans h.os, k.tape.trans h.tape, k.output.trans h.output, Nat.le_trans h.size k.size, fun i hi hr => (k.block i (Nat.lt_of_lt_of_le hi h.size) hr).trans (h.block i hi hr)⟩
theorem grown_refl (w : World) (row : Option Nat) : w.grownBy w row := grown_of_below (Below.refl _ _) row
theorem grown_drawn {w w1 w2 : World} {row : Option Nat} (h : w.grownBy w1 row) (k : Drawn0 w1 w2) : w.grownBy w2 row := grown_trans h (grown_of_below k.below row)
section
variable {P : Program} {ops : Array Oper} {rest : List Oper} {o : Oper} {a : Act} {Q : Exit → Act → World → Prop} {W : World}
/-- xs[j] = x, and what else may have turned. -/
theorem storeG {k : IntKind} {e : TypeId} {z : Value} {bytes : Nat} (hi : (P.info? e).map (fun i => (i.zero, i.size, i.bytes)) = some (some z, 1, bytes)) {p : Tmp} {v : Operand} (ho : o.op = .store e (.tmp p) v) (hgd : o.guard = none) (hN : o.dst = none) {base : Nat} {w0 : World} {g cap j n : Nat} {x : Int} {L : List Int}
    (hown : OwnK k e W base (.slice (some ⟨g, 0, none⟩) n cap) L) (hb : w0.grownBy W (some g)) (hj : j < n) (hp : a.eval (.tmp p) = .pointer (some ⟨g, j, none⟩)) (hv : a.eval v = .int k x)
    (h : ∀ w', OwnK k e w' base (.slice (some ⟨g, 0, none⟩) n cap) (L.set j x) → w0.grownBy w' (some g) → wpList P ops Q rest a w') : wpList P ops Q (o :: rest) a W := by
  obtain ⟨hn, -⟩ := Kd.R_reads' hown
  obtain ⟨hx, hf⟩ := Kd.R_celln 0 hown (j : Int) (by omega) (by omega)
  rw [Int.toNat_natCast] at hx hf
  obtain ⟨h1, h2⟩ := Kd.R_putg hown (j : Int) x
  rw [Int.toNat_natCast] at h1 h2
  refine store_event hgd ho hN (w1 := W.setCell ⟨g, j, none⟩ (.int k x)) ?_ (fun w' hw => ?_)
  · generalize a.eval = ev at hp hv ⊢
    obtain ⟨i0, hi, hzz⟩ := Option.map_eq_some_iff.1 hi
    simp only [Prod.mk.injEq] at hzz
    have hty : (typeInfo e).run P W = .ok i0 W := Go.run_typeInfo W hi
    simp [execOp, ho, hp, hv, go_sem, hx, hf, sizeOf, hty, hzz.2.1]
  · subst hw
    exact h _ h1 (grown_trans hb h2)
end
theorem mid_of {g N cap base : Nat} {W : World} {X S Y : List Int} (h : Own W base (.slice (some ⟨g, 0, none⟩) N cap) (X ++ S ++ Y)) {x : Nat} (hx : x = X.length) (k : Nat) (hk : k < S.length) :
    x + k < N ∧ W.cell? ⟨g, x + k, none⟩ = some (.int .u32 (S.getD k 0)) := by
  subst hx
  obtain ⟨hN, -⟩ := Kd.R_reads' h
  have h1 : X.length + k < N := by rw [hN]; simp; omega
  obtain ⟨hc, -⟩ := Kd.R_celln 0 h ((X.length + k : Nat) : Int) (by omega) (by omega)
  rw [Int.toNat_natCast, rdOf_nat, get_mid hk] at hc
  exact ⟨h1, hc⟩
set_option maxRecDepth 100000 in
set_option maxHeartbeats 1000000 in
theorem natural_step (X S Y ld : List Int) (g N cap cu base : Nat) (D : Option Addr) (cd : Nat) (w : World) (hown : Own w base (.slice (some ⟨g, 0, none⟩) N cap) (X ++ S ++ Y)) (hlim : Lim (X ++ S ++ Y)) (hld : Lim ld) (m : Nat) (hm : ld.length = m + 2) (hS : S.length = m + 3)
    (hm2 : m ≤ 274877906944) (hXl : X.length ≤ 274877906944) (hcd : m + 2 ≤ cd) (hcu : m + 3 ≤ cu) (hbig : 2147483648 ≤ ld.getD (m + 1) 0) (hlt : val S < val ld * 4294967296)
    (hD : ∀ W', w.grownBy W' (some g) → Kd.C (Kd.int .u32) W' D ld.length ld) :
    Calls Tryz.prog 167 #[.slice (some ⟨g, X.length, none⟩) (m + 3) cu, .slice D (m + 2) cd] w fun e w' =>
      ∃ S', e = .returned (.int .u32 ((val S / val ld : Nat) : Int)) ∧ Own w' base (.slice (some ⟨g, 0, none⟩) N cap) (X ++ S' ++ Y) ∧ S'.length = S.length ∧ Lim S' ∧ val S' = val S % val ld ∧ w.grownBy w' (some g) := by
  have HO := Aside0.mk hown
  have HD := Aside0.mk hD
  obtain ⟨-, hlS, -⟩ := lim_mid hlim
  obtain ⟨u0, h0⟩ := Int.eq_ofNat_of_zero_le (lim_get hlS (m + 2)).1
  obtain ⟨u1, h1⟩ := Int.eq_ofNat_of_zero_le (lim_get hlS (m + 1)).1
  obtain ⟨u2, h2⟩ := Int.eq_ofNat_of_zero_le (lim_get hlS m).1
  obtain ⟨v1, k1⟩ := Int.eq_ofNat_of_zero_le (lim_get hld (m + 1)).1
  obtain ⟨v2, k2⟩ := Int.eq_ofNat_of_zero_le (lim_get hld m).1
  rw [k1] at hbig
  have hb : 2147483648 ≤ v1 := by omega
  have HT := Aside0.mk (top_of hlS hld hm hS h0 h1 h2 k1 k2 hb hlt)
  obtain ⟨x, hx⟩ : ∃ x, x = X.length := ⟨_, rfl⟩
  rw [← hx] at hXl ⊢
  obtain ⟨hN, -⟩ := Kd.R_reads' hown
  have hN2 : x + (m + 3) ≤ N := by rw [hN, hx]; simp; omega
  have cell : ∀ {W : World}, Own W base (.slice (some ⟨g, 0, none⟩) N cap) (X ++ S ++ Y) → ∀ k, k < m + 3 → W.cell? ⟨g, x + k, none⟩ = some (.int .u32 (S.getD k 0)) := fun h k hk => by
    obtain ⟨hc, -⟩ := Kd.R_celln 0 h ((x + k : Nat) : Int) (by omega) (by omega)
    rw [Int.toNat_natCast, rdOf_nat, hx, get_mid (by omega), ← hx] at hc
    exact hc
  obtain ⟨ad, hDe, -⟩ := C_word (hD w (grown_refl w _)) ((m + 1 : Nat) : Int) (by omega) (by omega)
  subst hDe
  have cd1 : ∀ {W : World}, w.grownBy W (some g) → ∀ k, k < m + 2 → W.cell? (ad.add k) = some (.int .u32 (ld.getD k 0)) := fun h k hk => by
    obtain ⟨ad2, e, hc⟩ := C_word (HD.out _ h) (k : Int) (by omega) (by omega)
    obtain rfl : ad = ad2 := by injection e
    rw [Int.toNat_natCast, rd_nat] at hc
    exact hc
  have C0 := cell hown (m + 2) (by omega)
  have C1 := cell hown (m + 1) (by omega)
  have C2 := cell hown m (by omega)
  have D1 := cd1 (grown_refl w _) (m + 1) (by omega)
  have D2 := cd1 (grown_refl w _) m (by omega)
  rw [h0] at C0
  rw [h1] at C1
  rw [h2] at C2
  rw [k1] at D1
  have D1' : w.cell? { block := ad.block, off := ad.off + (m + 1) } = some (.int .u32 (v1 : Int)) := by simpa [Addr.add] using D1
  rw [k2] at D2
  have CELL := Aside0.mk @cell
  have CD := Aside0.mk @cd1
  have HH := Lib.hid (And.intro hx (And.intro hm hS))
  have HLL := Aside0.mk (And.intro hlim (And.intro hld hlS))
  clear cell cd1 hx hN hm hS hlim hld hlS h0 h1 h2 k1 k2 hbig hlt hown hD
  go_enter Tryz.func167, Tryz.ntmps167
  have e1 : (m : Int) + 2 - 1 = m + 1 := by omega
  have u0lt : u0 < 4294967296 := by have := HT.out.u0_le; have := HT.out.hv1; omega
  have u1lt := HT.out.hu1
  have u2lt := HT.out.hu2
  have v1lt := HT.out.hv1
  have v2lt := HT.out.hv2
  have w0 : IntKind.u64.wrap (u0 : Int) = u0 := by rw [wrap_u64]; omega
  have w1 : IntKind.u64.wrap (u1 : Int) = u1 := by rw [wrap_u64]; omega
  have w2 : IntKind.u64.wrap (v1 : Int) = v1 := by rw [wrap_u64]; omega
  have w3 : IntKind.u64.wrap ((u0 : Int) * 4294967296) = (u0 : Int) * 4294967296 := by rw [wrap_u64]; omega
  obtain ⟨T, hT⟩ : ∃ T, T = u0 * 4294967296 + u1 := ⟨_, rfl⟩
  have w4 : bits .or .u64 ((u0 : Int) * 4294967296) u1 = (T : Int) := by rw [or_shl (by omega) (by omega)]; omega
  have hGU := Guess.first HT.out
  rw [← hT] at hGU
  obtain ⟨G, hG⟩ : ∃ G, G = T / v1 := ⟨_, rfl⟩
  obtain ⟨R, hR⟩ : ∃ R, R = T % v1 := ⟨_, rfl⟩
  have w6 : Int.tdiv (T : Int) v1 = (G : Int) := by rw [Int.tdiv_eq_ediv_of_nonneg (by omega), hG]; simp
  have w7 : Int.tmod (T : Int) v1 = (R : Int) := by rw [Int.tmod_eq_emod_of_nonneg (by omega), hR]; simp
  rw [← hG, ← hR] at hGU
  have GU := Aside0.mk hGU
  have w8 : IntKind.u64.wrap (G : Int) = (G : Int) := by have := hGU.le; rw [wrap_u64]; omega
  have w9 : ((v1 : Int) == 0) = false := by simp; omega
  clear hT hG hR hGU
  have w5 : IntKind.i64.wrap ((m : Int) + 2 - 1) = m + 1 := by rw [IntKind.wrap_i64]; omega
  go_wp2
  go_quiet (fail)
  go_wp2
  go_quiet (fail)
  clear w0 w1 w2 w3 w4 w6 w7 w8 w9
  go_upto_block 0 with (fail)
  go_cut [7, 8] (fun v7 v8 wc => ∃ (G : Nat), v7 = .int .u64 G ∧ Aside0 (val S / val ld ≤ G ∧ G ≤ val S / val ld + 1) ∧ G < 4294967296 ∧ Aside0 (Drawn0 w wc))
  case first =>
    go_wp2
    go_loopw [7, 8] (fun v7 v8 w' => ∃ (G R : Nat), v7 = .int .u64 G ∧ v8 = .int .u64 R ∧ Aside0 (Guess (val S) (val ld) u0 u1 u2 v1 v2 G R) ∧ Aside0 (Drawn0 w w')) (fun v7 _ _ => (intOf v7).toNat)
    case atStart => exact ⟨G, R, rfl, rfl, GU, ⟨Drawn0.step (Drawn0.step (Drawn0.refl w) _) _⟩⟩
    case round =>
      clear GU
      obtain ⟨G, R, rfl, rfl, hG, hd⟩ := hrel
      have GLE := hG.out.le
      have RLT := hG.out.rest
      have D1 := D1
      have x0 : wr.cell? { block := g, off := x + m } = some (.int .u32 (u2 : Int)) := pw_cell_below hd.out.below C2
      have x1 : wr.cell? (ad.add m) = some (.int .u32 (v2 : Int)) := pw_cell_below hd.out.below D2
      have x2 : wr.cell? { block := ad.block, off := ad.off + (m + 1) } = some (.int .u32 (v1 : Int)) := pw_cell_below hd.out.below D1'
      clear C0 C1 C2 D1 D1' D2
      by_cases hB : 4294967296 ≤ G
      · have g1 : decide ((4294967296 : Int) ≤ (G : Int)) = true := decide_eq_true (by omega)
        have HBB := Aside0.mk hB
        clear hB
        go_wp2
        go_quiet (fail)
        clear g1
        by_cases hR : 4294967296 ≤ R + v1
        · have g2 : decide ((4294967296 : Int) ≤ (R : Int) + v1) = true := decide_eq_true (by omega)
          have e7 : (G : Int) - 1 = ((G - 1 : Nat) : Int) := by have := ((hG.out.down (.inl HBB.out)).1); omega
          have HR := Aside0.mk hR
          clear hR
          go_wp2
          go_meet
          case rel =>
            obtain ⟨q1, q2, q3⟩ := hG.out.stop (.inl HBB.out) HR.out
            exact ⟨G - 1, rfl, ⟨q1, q2⟩, q3, ⟨Drawn0.step hd.out _⟩⟩
        · have g2 : decide ((4294967296 : Int) ≤ (R : Int) + v1) = false := decide_eq_false (by omega)
          have e7 : (G : Int) - 1 = ((G - 1 : Nat) : Int) := by have := ((hG.out.down (.inl HBB.out)).1); omega
          have HR := Aside0.mk hR
          clear hR
          go_wp2
          go_roundw
          case measure => have := (hG.out.down (.inl HBB.out)).1; simp [intOf]; omega
          case rel => exact ⟨G - 1, R + v1, by first | rfl | rw [e7], by go_num, ⟨hG.out.again (.inl HBB.out) (Nat.lt_of_not_le HR.out)⟩, ⟨Drawn0.step hd.out _⟩⟩
      · have g1 : decide ((4294967296 : Int) ≤ (G : Int)) = false := decide_eq_false (by omega)
        obtain ⟨A, hA⟩ : ∃ A, A = G * v2 := ⟨_, rfl⟩
        obtain ⟨C, hC⟩ : ∃ C, C = R * 4294967296 + u2 := ⟨_, rfl⟩
        have hA2 : A ≤ 4294967295 * 4294967295 := hA ▸ Nat.mul_le_mul (by omega) (by omega)
        have w1 : IntKind.u64.wrap (v2 : Int) = v2 := by rw [wrap_u64]; omega
        have w2 : IntKind.u64.wrap (u2 : Int) = u2 := by rw [wrap_u64]; omega
        have w3 : IntKind.u64.wrap ((G : Int) * v2) = (A : Int) := by rw [← Int.natCast_mul, ← hA, wrap_u64]; omega
        have w4 : IntKind.u64.wrap ((R : Int) * 4294967296) = (R : Int) * 4294967296 := by rw [wrap_u64]; omega
        have w5 : bits .or .u64 ((R : Int) * 4294967296) u2 = (C : Int) := by rw [or_shl (by omega) (by omega)]; omega
        have w6 : IntKind.i64.wrap ((m : Int) + 2 - 2) = (m : Int) := by rw [IntKind.wrap_i64]; omega
        have HBB := Aside0.mk hB
        clear hB hA2
        by_cases ht : C < A
        · have g3 : decide (C < A) = true := decide_eq_true ht
          have HAC := Aside0.mk (show R * 4294967296 + u2 < G * v2 by omega)
          clear ht hA hC
          go_wp2
          go_quiet (fail)
          clear g1 g3 w1 w2 w3 w4 w5 w6
          by_cases hR : 4294967296 ≤ R + v1
          · have g2 : decide ((4294967296 : Int) ≤ (R : Int) + v1) = true := decide_eq_true (by omega)
            have e7 : (G : Int) - 1 = ((G - 1 : Nat) : Int) := by have := ((hG.out.down (.inr (by have := HAC.out; omega))).1); omega
            have HR := Aside0.mk hR
            clear hR
            go_wp2
            go_meet
            case rel =>
              obtain ⟨q1, q2, q3⟩ := hG.out.stop (.inr (by have := HAC.out; omega)) HR.out
              exact ⟨G - 1, rfl, ⟨q1, q2⟩, q3, ⟨Drawn0.step hd.out _⟩⟩
          · have g2 : decide ((4294967296 : Int) ≤ (R : Int) + v1) = false := decide_eq_false (by omega)
            have e7 : (G : Int) - 1 = ((G - 1 : Nat) : Int) := by have := ((hG.out.down (.inr (by have := HAC.out; omega))).1); omega
            have HR := Aside0.mk hR
            clear hR
            go_wp2
            go_roundw
            case measure => have := (hG.out.down (.inr (by have := HAC.out; omega))).1; simp [intOf]; omega
            case rel => exact ⟨G - 1, R + v1, by first | rfl | rw [e7], by go_num, ⟨hG.out.again (.inr (by have := HAC.out; omega)) (Nat.lt_of_not_le HR.out)⟩, ⟨Drawn0.step hd.out _⟩⟩
        · have g3 : decide (C < A) = false := decide_eq_false ht
          have HAC := Aside0.mk (show G * v2 ≤ R * 4294967296 + u2 by omega)
          clear ht hA hC
          go_wp2
          go_quiet (fail)
          go_wp2
          go_meet
          case rel =>
            obtain ⟨q1, q2, q3⟩ := hG.out.done (by have := HBB.out; omega) HAC.out
            exact ⟨G, rfl, ⟨q1, q2⟩, q3, ⟨Drawn0.step hd.out _⟩⟩
  case rest =>
    clear C0 C1 C2 D1 D1' D2 GU CELL u0lt u1lt u2lt v1lt v2lt
    obtain ⟨G, rfl, hq, hG, hd⟩ := hcut
    go_wp2
    go_loopw [9, 10, 84] (fun v9 v10 v84 w' => ∃ (k c b : Nat) (S1 : List Int), k ≤ m + 2 ∧ v9 = .int .u64 c ∧ v10 = .int .u32 b ∧ v84 = .int .i64 k ∧ c < 4294967296 ∧ b ≤ 1 ∧ Aside0 (S1.length = m + 3 ∧ Lim S1 ∧ (∀ j, k ≤ j → S1.getD j 0 = S.getD j 0) ∧ val (S1.take k) + G * val (ld.take k) = val (S.take k) + (c + b) * 4294967296 ^ k)
      ∧ Aside0 (Own w' base (.slice (some ⟨g, 0, none⟩) N cap) (X ++ S1 ++ Y)) ∧ Aside0 (w.grownBy w' (some g))) (fun _ _ v84 _ => (m + 2) - (intOf v84).toNat)
    case atStart => exact ⟨0, 0, 0, S, Nat.zero_le _, rfl, rfl, rfl, by omega, by omega, ⟨HH.out.2.2, HLL.out.2.2, fun _ _ => rfl, by simp [val]⟩, ⟨Kd.R_below HO.out hd.out.below⟩, ⟨grown_of_below hd.out.below _⟩⟩
    case round =>
      clear HO
      obtain ⟨k, c, b, S1, hk, rfl, rfl, rfl, hc, hb1, hS1, ho, hb⟩ := hrel
      obtain ⟨hxk, hz⟩ := mid_of ho.out HH.out.1 k (by have := hS1.out.1; omega)
      have ks := lim_get hS1.out.2.1 k
      obtain ⟨xx, hxx⟩ := Int.eq_ofNat_of_zero_le ks.1
      rw [hxx] at hz ks
      have hx2 : xx < 4294967296 := by omega
      have hS0 : S.getD k 0 = (xx : Int) := by rw [← hS1.out.2.2.1 k (Nat.le_refl _), hxx]
      have hsl := HH.out.2.2
      have hml := HH.out.2.1
      rcases Nat.lt_or_ge k (m + 2) with hlt | hge
      · have hy := CD.out hb.out k hlt
        have kd := lim_get HLL.out.2.1 k
        obtain ⟨d, hdd⟩ := Int.eq_ofNat_of_zero_le kd.1
        rw [hdd] at hy kd
        have hd2 : d < 4294967296 := by omega
        obtain ⟨A, hA⟩ : ∃ A, A = G * d := ⟨_, rfl⟩
        have hA2 : A ≤ 4294967295 * 4294967295 := hA ▸ Nat.mul_le_mul (by omega) (by omega)
        obtain ⟨tt, htt⟩ : ∃ tt, tt = A + c := ⟨_, rfl⟩
        obtain ⟨q, hqq⟩ : ∃ q, q = tt / 4294967296 := ⟨_, rfl⟩
        obtain ⟨r, hrr⟩ : ∃ r, r = tt % 4294967296 := ⟨_, rfl⟩
        obtain ⟨s, c2, e1, e2, e3, e4, e5⟩ := bor_nat hx2 (show r < 4294967296 by omega) hb1
        have f1 : IntKind.u64.wrap ((G : Int) * d) = (A : Int) := by rw [← Int.natCast_mul, ← hA, wrap_u64]; omega
        have f2 : (A : Int) + c = (tt : Int) := by omega
        have f3 : (tt : Int) / 4294967296 = (q : Int) := by omega
        have f4 : (tt : Int) % 4294967296 = (r : Int) := by omega
        have f6 : tt < 18446744073709551616 := by omega
        have f7 : q < 4294967296 := by omega
        have f8 : r < 4294967296 := by omega
        have hrnd := Aside0.mk (@ms_round S S1 ld k G c b xx d s c2 hS1.out.2.1 (by have := hS1.out.1; omega) (by omega) (by omega) hxx hS0 hdd e3 hS1.out.2.2.2 (by rw [← hA, ← htt, ← hrr]; exact e5))
        have EQ := Lib.hid (And.intro hA (And.intro htt hqq))
        clear hA htt hqq hrr hxx hS0 hdd hA2 e5 ks kd hsl hml
        have K1 : 0 ≤ (xx : Int) ∧ (xx : Int) < 4294967296 := by omega
        have K2 : 0 ≤ (r : Int) ∧ (r : Int) < 4294967296 := by omega
        have K3 : 0 ≤ (b : Int) ∧ (b : Int) ≤ 1 := by omega
        have HSub := Aside0.mk (fun w => bits_Sub32 (xx : Int) (r : Int) (b : Int) w K1 K2 K3)
        rw [e1, e2] at HSub
        clear e1 e2 K1 K2 K3
        go_wp2_with (first | (go_at_call 169; refine (HSub.out _).mono ?_; rintro e w4 ⟨rfl, rfl⟩) | (refine storeG infoU32 (p := 110) (j := x + k) rfl rfl rfl ho.out hb.out hxk rfl rfl ?_; clear ho hb hz; intro w4 ho4 hb4))
        go_roundw
        case measure => simp [intOf]; omega
        case rel =>
          obtain ⟨a1, a2, a3⟩ := EQ.out
          rw [HH.out.1, set_mid (by have := hS1.out.1; omega)] at ho4
          obtain ⟨p1, p2⟩ := hrnd.out
          exact ⟨k + 1, q, c2, S1.set k (s : Int), hlt, rfl, rfl, by go_num, f7, e4, ⟨by rw [List.length_set]; exact hS1.out.1, p1, fun j hj => by rw [get_set_after _ (by omega)]; exact hS1.out.2.2.1 j (by omega), by rw [p2, ← a1, ← a2, ← a3]⟩, ⟨ho4⟩, ⟨hb4⟩⟩
      · obtain rfl : k = m + 2 := by omega
        obtain ⟨s, c2, e1, e2, e3, e4, e5⟩ := bor_nat hx2 hc hb1
        have hlast := ms_last (S0 := S) (S := S1) (ld := ld) (n := m + 2) (by omega) hS1.out.1 (by omega) hS0 hS1.out.2.2.2 e5
        have hlim1 := Aside0.mk (lim_set (m + 2) hS1.out.2.1 (x := (s : Int)) (by omega))
        have K1 : 0 ≤ (xx : Int) ∧ (xx : Int) < 4294967296 := by omega
        have K2 : 0 ≤ (c : Int) ∧ (c : Int) < 4294967296 := by omega
        have K3 : 0 ≤ (b : Int) ∧ (b : Int) ≤ 1 := by omega
        have HSub := Aside0.mk (fun w => bits_Sub32 (xx : Int) (c : Int) (b : Int) w K1 K2 K3)
        rw [e1, e2] at HSub
        have HS1 := Lib.hid (And.intro hxx hS0)
        clear e1 e2 K1 K2 K3 e5 hxx hS0 ks hsl hml
        rcases (by omega : c2 = 0 ∨ c2 = 1) with hc2 | hc2
        · rw [hc2] at hlast HSub
          have HR := Aside0.mk (step_right HT.out.pos hq.out.1 hlast)
          clear hlast hc2
          go_wp2_with (first | (go_at_call 169; refine (HSub.out _).mono ?_; rintro e w4 ⟨rfl, rfl⟩) | (refine storeG infoU32 (p := 125) (j := x + (m + 2)) rfl rfl rfl ho.out hb.out hxk rfl rfl ?_; clear ho hb hz; intro w4 ho4 hb4))
          go_ret
          rw [HH.out.1, set_mid (by have := hS1.out.1; omega)] at ho4
          exact ⟨S1.set (m + 2) (s : Int), by rw [← HR.out.1]; rfl, ho4, by rw [List.length_set, hS1.out.1, HH.out.2.2], hlim1.out, HR.out.2, hb4⟩
        · rw [hc2] at hlast HSub
          have HL := Aside0.mk hlast
          have hGp : 1 ≤ G := by
            rcases Nat.eq_zero_or_pos G with h | h
            · rw [h] at hlast
              have h7 : val (S1.set (m + 2) (s : Int)) < 4294967296 ^ (m + 2 + 1) := by
                have := val_lt hlim1.out
                rwa [List.length_set, hS1.out.1] at this
              omega
            · exact h
          have e9 : (G : Int) - 1 = ((G - 1 : Nat) : Int) := by omega
          clear hlast hc2
          have hsb : (S1.set (m + 2) (s : Int)).length = m + 3 := by rw [List.length_set]; exact hS1.out.1
          have HSB := Lib.hid hsb
          clear hsb
          go_wp2_with (first | (go_at_call 169; refine (HSub.out _).mono ?_; rintro e w4 ⟨rfl, rfl⟩) | (refine storeG infoU32 (p := 125) (j := x + (m + 2)) rfl rfl rfl ho.out hb.out hxk rfl rfl ?_; clear ho hb hz; intro w4 ho4 hb4))
          rw [HH.out.1, set_mid (by have := hS1.out.1; omega)] at ho4
          generalize S1.set (m + 2) (s : Int) = SB at *
          go_loopw [14, 132] (fun v14 v132 w' => ∃ (k c : Nat) (S2 : List Int), k ≤ m + 2 ∧ v14 = .int .u32 c ∧ v132 = .int .i64 k ∧ c ≤ 1 ∧ Aside0 (S2.length = m + 3 ∧ Lim S2 ∧ (∀ j, k ≤ j → S2.getD j 0 = SB.getD j 0) ∧ val (S2.take k) + c * 4294967296 ^ k = val (SB.take k) + val (ld.take k))
            ∧ Aside0 (Own w' base (.slice (some ⟨g, 0, none⟩) N cap) (X ++ S2 ++ Y)) ∧ Aside0 (w.grownBy w' (some g))) (fun _ v132 _ => (m + 2) - (intOf v132).toNat)
          case atStart => exact ⟨0, 0, SB, Nat.zero_le _, rfl, rfl, by omega, ⟨HSB.out, hlim1.out, fun _ _ => rfl, by simp [val]⟩, ⟨ho4⟩, ⟨hb4⟩⟩
          case round =>
            clear ho4 hb4 hS1 hxk
            obtain ⟨k, c3, S2, hk, rfl, rfl, hc3, hS2, ho, hb⟩ := hrel
            obtain ⟨hxk, hz⟩ := mid_of ho.out HH.out.1 k (by have := hS2.out.1; omega)
            have ks := lim_get hS2.out.2.1 k
            obtain ⟨yy, hyy⟩ := Int.eq_ofNat_of_zero_le ks.1
            rw [hyy] at hz ks
            have hy2 : yy < 4294967296 := by omega
            have hSB0 : SB.getD k 0 = (yy : Int) := by rw [← hS2.out.2.2.1 k (Nat.le_refl _), hyy]
            rcases Nat.lt_or_ge k (m + 2) with hlt | hge
            · have hy := CD.out hb.out k hlt
              have kd := lim_get HLL.out.2.1 k
              obtain ⟨d, hdd⟩ := Int.eq_ofNat_of_zero_le kd.1
              rw [hdd] at hy kd
              have hd2 : d < 4294967296 := by omega
              obtain ⟨tt, htt⟩ : ∃ tt, tt = yy + d + c3 := ⟨_, rfl⟩
              obtain ⟨q, hqq⟩ : ∃ q, q = tt / 4294967296 := ⟨_, rfl⟩
              obtain ⟨r, hrr⟩ : ∃ r, r = tt % 4294967296 := ⟨_, rfl⟩
              have f2 : ((yy : Int) + d + c3) / 4294967296 = (q : Int) := by omega
              have f4 : ((yy : Int) + d + c3) % 4294967296 = (r : Int) := by omega
              have f7 : q ≤ 1 := by omega
              have hrnd := Aside0.mk (@ab_round SB S2 ld k c3 yy d hS2.out.2.1 (by have := hS2.out.1; omega) (by have := HSB.out; omega) (by have := HH.out.2.1; omega) hSB0 hdd hS2.out.2.2.2)
              rw [← htt, ← hqq, ← hrr] at hrnd
              clear htt hqq hrr hyy hSB0 hdd ks kd
              have K1 : 0 ≤ (yy : Int) ∧ (yy : Int) < 4294967296 := by omega
              have K2 : 0 ≤ (d : Int) ∧ (d : Int) < 4294967296 := by omega
              have K3 : 0 ≤ (c3 : Int) ∧ (c3 : Int) ≤ 1 := by omega
              have HAdd := Aside0.mk (fun w => bits_Add32 (yy : Int) (d : Int) (c3 : Int) w K1 K2 K3)
              rw [f2, f4] at HAdd
              clear f2 f4 K1 K2 K3
              go_wp2_with (first | (go_at_call 125; refine (HAdd.out _).mono ?_; rintro e w5 ⟨rfl, rfl⟩) | (refine storeG infoU32 (p := 149) (j := x + k) rfl rfl rfl ho.out hb.out hxk rfl rfl ?_; clear ho hb hz; intro w5 ho5 hb5))
              go_roundw
              case measure => simp [intOf]; omega
              case rel =>
                rw [HH.out.1, set_mid (by have := hS2.out.1; omega)] at ho5
                obtain ⟨p1, p2⟩ := hrnd.out
                exact ⟨k + 1, q, S2.set k (r : Int), hlt, rfl, by go_num, f7, ⟨by rw [List.length_set]; exact hS2.out.1, p1, fun j hj => by rw [get_set_after _ (by omega)]; exact hS2.out.2.2.1 j (by omega), p2⟩, ⟨ho5⟩, ⟨hb5⟩⟩
            · obtain rfl : k = m + 2 := by omega
              have hal := ab_last (S0 := SB) (S := S2) (ld := ld) (n := m + 2) HSB.out hS2.out.1 HH.out.2.1 hSB0 hS2.out.2.2.2
              have f1 : ((yy : Int) + c3) % 4294967296 = ((yy + c3) % 4294967296 : Nat) := by omega
              have hlim2 := Aside0.mk (lim_set (m + 2) hS2.out.2.1 (x := (((yy + c3) % 4294967296 : Nat) : Int)) (by omega))
              have HAL := Aside0.mk hal
              have HF1 := Lib.hid f1
              clear hal f1 hyy hSB0 ks
              go_wp2_with (refine storeG infoU32 (p := 157) (j := x + (m + 2)) rfl rfl rfl ho.out hb.out hxk rfl rfl ?_; clear ho hb hz; intro w5 ho5 hb5)
              go_ret
              rw [HF1.out, HH.out.1, set_mid (by have := hS2.out.1; omega)] at ho5
              have hW : ∀ {l : List Int}, Lim l → l.length = m + 3 → val l < 4294967296 ^ (m + 2 + 1) := fun hl hn => by have := val_lt hl; rwa [hn] at this
              have hVW : val ld ≤ 4294967296 ^ (m + 2 + 1) := by
                have := val_lt HLL.out.2.1
                rw [HH.out.2.1] at this
                exact Nat.le_trans (Nat.le_of_lt this) (Nat.pow_le_pow_right (by omega) (by omega))
              obtain ⟨r1, r2⟩ := step_back HT.out.pos hVW hq.out.2 (hW hlim1.out HSB.out) (hW hlim2.out (by rw [List.length_set]; exact hS2.out.1)) HL.out HAL.out
              exact ⟨S2.set (m + 2) _, by first | rfl | (rw [show val S / val ld = G - 1 by omega]; rfl), ho5, by rw [List.length_set, hS2.out.1, HH.out.2.2], hlim2.out, r2, hb5⟩
end Go.Proofs.YtnimgfnknlkkdaaGreatDoor.H
/- Long division: normalisation, and the loop over the digits. -/
set_option linter.unusedVariables false
set_option linter.unusedSimpArgs false
namespace Go.Proofs.YtnimgfnknlkkdaaGreatDoor.Num
open Go
theorem bitLen_spec (x : Nat) (h0 : x ≠ 0) (h : x < 2 ^ 64) : 1 ≤ Lib.bitLen x ∧ 2 ^ (Lib.bitLen x - 1) ≤ x ∧ x < 2 ^ Lib.bitLen x := by
  induction x using Nat.strongRecOn with
  | _ x ih =>
    rw [Lib.bitLen_half x h0 h]
    by_cases h1 : x / 2 = 0
    · rw [h1, show Lib.bitLen 0 = 0 by rfl]
      have : x = 1 := by omega
      subst this
      exact ⟨by omega, by decide, by decide⟩
    · obtain ⟨a, b, c⟩ := ih (x / 2) (by omega) h1 (by omega)
      refine ⟨by omega, ?_, ?_⟩
      · obtain ⟨k, hk⟩ : ∃ k, Lib.bitLen (x / 2) = k + 1 := ⟨Lib.bitLen (x / 2) - 1, by omega⟩
        rw [hk] at b ⊢
        rw [show 1 + (k + 1) - 1 = k + 1 by omega, Nat.pow_succ]
        simp only [Nat.add_sub_cancel] at b
        omega
      · rw [Nat.add_comm, Nat.pow_succ]; omega
/-- The shift that makes the highest bit of a digit 1. -/
theorem lead (t : Nat) (h0 : t ≠ 0) (h : t < 4294967296) : Lib.bitLen t ≤ 32 ∧ 32 - Lib.bitLen t < 32 ∧ 2147483648 ≤ t * 2 ^ (32 - Lib.bitLen t) ∧ (t + 1) * 2 ^ (32 - Lib.bitLen t) ≤ 4294967296 := by
  obtain ⟨a, b, c⟩ := bitLen_spec t h0 (by omega)
  have hl : Lib.bitLen t ≤ 32 := by
    refine Nat.le_of_not_lt fun h1 => ?_
    have : 2 ^ 32 ≤ 2 ^ (Lib.bitLen t - 1) := Nat.pow_le_pow_right (by omega) (by omega)
    omega
  refine ⟨hl, by omega, ?_, ?_⟩
  · have e : 2 ^ (Lib.bitLen t - 1) * 2 ^ (32 - Lib.bitLen t) = 2147483648 := by rw [← Nat.pow_add, show Lib.bitLen t - 1 + (32 - Lib.bitLen t) = 31 by omega]
    rw [← e]; exact Nat.mul_le_mul_right _ b
  · have e : 2 ^ Lib.bitLen t * 2 ^ (32 - Lib.bitLen t) = 4294967296 := by rw [← Nat.pow_add, show Lib.bitLen t + (32 - Lib.bitLen t) = 32 by omega]
    rw [← e]; exact Nat.mul_le_mul_right _ c
/-- The divisor, shifted: it fits, and its highest digit is great. -/
theorem norm_div {l d : List Int} {m t s : Nat} (hl : Lim l) (hm : l.length = m + 2) (ht : l.getD (m + 1) 0 = (t : Int)) (h1 : 2147483648 ≤ t * 2 ^ s) (h2 : (t + 1) * 2 ^ s ≤ 4294967296) :
    val l * 2 ^ s < 4294967296 ^ (m + 2) ∧ 2147483648 * 4294967296 ^ (m + 1) ≤ val l * 2 ^ s := by
  have e := val_snoc (S := l) (n := m + 1) (by omega) ht
  have h3 := val_lt (lim_take (m + 1) hl)
  rw [List.length_take, Nat.min_eq_left (by omega)] at h3
  have hp : 0 < 2 ^ s := Nat.pow_pos (by omega)
  constructor
  · have h4 : val l * 2 ^ s < (4294967296 ^ (m + 1) * (t + 1)) * 2 ^ s := Nat.mul_lt_mul_of_pos_right (by rw [e, Nat.mul_add]; omega) hp
    have h5 : 4294967296 ^ (m + 1) * ((t + 1) * 2 ^ s) ≤ 4294967296 ^ (m + 1) * 4294967296 := Nat.mul_le_mul_left _ h2
    rw [Nat.mul_assoc] at h4
    rw [Nat.pow_succ 4294967296 (m + 1)]
    omega
  · have h6 : 4294967296 ^ (m + 1) * 2147483648 ≤ 4294967296 ^ (m + 1) * (t * 2 ^ s) := Nat.mul_le_mul_left _ h1
    have h7 : 4294967296 ^ (m + 1) * t * 2 ^ s ≤ val l * 2 ^ s := Nat.mul_le_mul_right _ (by omega)
    rw [Nat.mul_assoc] at h7
    omega
theorem norm_top {d : List Int} {m V : Nat} (hd : Lim d) (hm : d.length = m + 2) (hv : val d = V) (h : 2147483648 * 4294967296 ^ (m + 1) ≤ V) : 2147483648 ≤ d.getD (m + 1) 0 := by
  have hg := lim_get hd (m + 1)
  obtain ⟨t, ht⟩ := Int.eq_ofNat_of_zero_le hg.1
  have e := val_snoc (S := d) (n := m + 1) (by omega) ht
  have h3 := val_lt (lim_take (m + 1) hd)
  rw [List.length_take, Nat.min_eq_left (by omega)] at h3
  rw [ht]
  have h4 : 4294967296 ^ (m + 1) * 2147483648 < 4294967296 ^ (m + 1) * (t + 1) := by rw [Nat.mul_add, Nat.mul_comm _ 2147483648]; omega
  have := Nat.lt_of_mul_lt_mul_left h4
  omega
theorem norm_num {a b la m s : Nat} (ha : a < 4294967296 ^ la) (hs : s < 32) : a * 2 ^ s < 4294967296 ^ (la + 1) := by
  have h1 : 2 ^ s ≤ 4294967296 := Nat.pow_le_pow_right (n := 2) (j := 32) (by omega) (by omega)
  rw [Nat.pow_succ]
  exact Nat.mul_lt_mul_of_lt_of_le ha h1 (by omega)
/-- Before the first digit: what lies above is less than the divisor. -/
theorem div_start {a U V la m s : Nat} (ha : a < 4294967296 ^ la) (hs : s < 32) (hU : U = a * 2 ^ s) (hV : 2147483648 * 4294967296 ^ (m + 1) ≤ V) (hm : m + 2 ≤ la) : U / 4294967296 ^ (la - (m + 2) + 1) < V := by
  refine Nat.div_lt_of_lt_mul ?_
  have h1 : 2 ^ s ≤ 2147483648 := Nat.pow_le_pow_right (n := 2) (j := 31) (by omega) (by omega)
  have h2 : U < 4294967296 ^ la * 2147483648 := by rw [hU]; exact Nat.mul_lt_mul_of_lt_of_le ha h1 (by omega)
  have h3 : 4294967296 ^ (la - (m + 2) + 1) * (2147483648 * 4294967296 ^ (m + 1)) ≤ 4294967296 ^ (la - (m + 2) + 1) * V := Nat.mul_le_mul_left _ hV
  have h4 : (4294967296 : Nat) ^ (la - (m + 2) + 1) * 4294967296 ^ (m + 1) = 4294967296 ^ la := by rw [← Nat.pow_add]; congr 1; omega
  rw [Nat.mul_left_comm, h4, Nat.mul_comm] at h3
  exact Nat.lt_of_lt_of_le h2 h3
/-- The parts of the dividend at a digit: X below, S under the divisor, Y above (zeros). -/
theorem div_parts {U : List Int} {i n V : Nat} (hU : Lim U) (hl : i + n + 1 ≤ U.length) (hv : val (U.drop (i + 1)) < V) (hV : V ≤ 4294967296 ^ n) :
    val ((U.drop i).take (n + 1)) < V * 4294967296 ∧ val (U.drop (i + n + 1)) = 0 ∧ val U = val (U.take i) + 4294967296 ^ i * val ((U.drop i).take (n + 1)) := by
  have e1 := val_drop U i (by omega)
  have e2 := val_split (U.drop i) (n + 1) (by rw [List.length_drop]; omega)
  have e3 := val_split (U.drop (i + 1)) n (by rw [List.length_drop]; omega)
  rw [List.drop_drop] at e2 e3
  have hz : val (U.drop (i + n + 1)) = 0 := by
    rw [show i + 1 + n = i + n + 1 by omega] at e3
    rcases Nat.eq_zero_or_pos (val (U.drop (i + n + 1))) with h | h
    · exact h
    · have : 4294967296 ^ n * 1 ≤ 4294967296 ^ n * val (U.drop (i + n + 1)) := Nat.mul_le_mul_left _ h
      omega
  rw [show i + (n + 1) = i + n + 1 by omega, hz, Nat.mul_zero, Nat.add_zero] at e2
  have hg := lim_get hU i
  refine ⟨?_, hz, ?_⟩
  · rw [← e2, e1]; omega
  · rw [← e2]; exact val_split U i (by omega)
theorem parts_eq (U : List Int) (i n : Nat) : U = U.take i ++ (U.drop i).take (n + 1) ++ U.drop (i + n + 1) := by
  rw [List.append_assoc]
  conv => lhs; rw [← List.take_append_drop i U, ← List.take_append_drop (n + 1) (U.drop i), List.drop_drop]
  rfl
/-- One digit of the quotient. -/
theorem div_round {U Qs S2 : List Int} {i n V a q : Nat} (hU : Lim U) (hl : i + n + 1 ≤ U.length) (hi : i < Qs.length) (hv : val (U.drop (i + 1)) < V) (hV : V ≤ 4294967296 ^ n) (hV0 : 0 < V)
    (ha : a = val (Qs.drop (i + 1)) * V * 4294967296 ^ (i + 1) + val U) (hS : S2.length = n + 1) (hS2 : val S2 = val ((U.drop i).take (n + 1)) % V) (hq : q = val ((U.drop i).take (n + 1)) / V) :
    val ((U.take i ++ S2 ++ U.drop (i + n + 1)).drop i) < V ∧ a = val ((Qs.set i (q : Int)).drop i) * V * 4294967296 ^ i + val (U.take i ++ S2 ++ U.drop (i + n + 1)) := by
  obtain ⟨h1, h2, h3⟩ := div_parts hU hl hv hV
  have hti : (U.take i).length = i := by rw [List.length_take]; omega
  have e1 : (U.take i ++ S2 ++ U.drop (i + n + 1)).drop i = S2 ++ U.drop (i + n + 1) := by
    rw [List.append_assoc, List.drop_append_of_le_length (by omega), List.drop_of_length_le (by omega)]; rfl
  have e2 : val (S2 ++ U.drop (i + n + 1)) = val S2 := by rw [val_append, h2, Nat.mul_zero, Nat.add_zero]
  have e3 : val (U.take i ++ S2 ++ U.drop (i + n + 1)) = val (U.take i) + 4294967296 ^ i * val S2 := by
    rw [List.append_assoc, val_append, hti, e2]
  have e4 : val ((Qs.set i (q : Int)).drop i) = q + 4294967296 * val (Qs.drop (i + 1)) := by rw [drop_set_head hi, val]; simp
  refine ⟨by rw [e1, e2, hS2]; exact Nat.mod_lt _ hV0, ?_⟩
  rw [e3, e4, ha, h3, hS2]
  have e5 := Nat.div_add_mod (val ((U.drop i).take (n + 1))) V
  rw [← hq] at e5
  generalize val ((U.drop i).take (n + 1)) = s at *
  generalize s % V = r at *
  rw [← e5, Nat.pow_succ]
  generalize 4294967296 ^ i = P
  generalize val (Qs.drop (i + 1)) = K
  clear h1 h2 h3 e1 e2 e3 e4 e5 hS2 hq ha hv hV
  grind
theorem div_end {a b s V Q U : Nat} (hV : V = b * 2 ^ s) (ha : a * 2 ^ s = Q * V * 4294967296 ^ 0 + U) (hU : U < V) : Q = a / b ∧ U / 2 ^ s = a % b ∧ U = a % b * 2 ^ s := by
  have hp : 0 < 2 ^ s := Nat.pow_pos (by omega)
  rw [Nat.pow_zero, Nat.mul_one, hV] at ha
  rw [hV] at hU
  have h1 : U = (a - Q * b) * 2 ^ s := by rw [Nat.sub_mul, ha, Nat.mul_assoc]; omega
  have h2 : Q * b ≤ a := by
    refine Nat.le_of_mul_le_mul_right (c := 2 ^ s) ?_ hp
    rw [ha, Nat.mul_assoc]; omega
  have h3 : a - Q * b < b := by
    rw [h1] at hU
    exact Nat.lt_of_mul_lt_mul_right hU
  have hb : 0 < b := by omega
  have h4 : Q = a / b := by
    have : a = b * Q + (a - Q * b) := by rw [Nat.mul_comm b Q]; omega
    rw [this, Nat.mul_add_div hb, Nat.div_eq_of_lt h3, Nat.add_zero]
  have h5 : a - Q * b = a % b := by
    have : a = b * Q + (a - Q * b) := by rw [Nat.mul_comm b Q]; omega
    conv => rhs; rw [this, Nat.mul_add_mod, Nat.mod_eq_of_lt h3]
  rw [h5] at h1
  exact ⟨h4, by rw [h1, Nat.mul_div_cancel _ hp], h1⟩
theorem val_drop_div {l : List Int} {n : Nat} (hl : Lim l) (hn : n ≤ l.length) : val (l.drop n) = val l / 4294967296 ^ n := by
  have h1 := val_split l n hn
  have h2 := val_lt (lim_take n hl)
  rw [List.length_take, Nat.min_eq_left hn] at h2
  rw [h1, Nat.add_mul_div_left _ _ (Nat.pow_pos (by omega)), Nat.div_eq_of_lt h2, Nat.zero_add]
end Go.Proofs.YtnimgfnknlkkdaaGreatDoor.Num
set_option linter.unusedVariables false
set_option linter.unusedSimpArgs false
open Go
namespace Go.Proofs.YtnimgfnknlkkdaaGreatDoor.H
open Go Go.RowKit Go.Proofs.YtnimgfnknlkkdaaGreatDoorW.PrintWords Go.Proofs.YtnimgfnknlkkdaaGreatDoorW.PrintLast Go.Proofs.YtnimgfnknlkkdaaGreatDoorW.PrintMore Go.Proofs.YtnimgfnknlkkdaaGreatDoor.Num
theorem isL_nil (w : World) : IsL w (.slice none 0 0) (dig 0) := by rw [dig_zero]; exact ⟨none, 0, rfl, Nat.le_refl _, Kd.C_nil _ _⟩
theorem own_isL {w : World} {base : Nat} {v : Value} {l : List Int} (h : Own w base v l) : IsL w v l := by
  obtain ⟨A, c, rfl, hc, hC⟩ := Kd.R_reads h
  exact ⟨A, c, rfl, hc, hC⟩
theorem trim_isL {w : World} {v : Value} {l : List Int} (h : IsL w v l) (hl : Lim l) :
    Calls Tryz.prog 124 #[v] w fun e w' => ∃ v, e = .returned v ∧ IsL w' v (dig (val l)) ∧ Drawn0 w w' := by
  obtain ⟨A, c, rfl, hc, hC⟩ := h
  exact natural_trim l A c w hl hc hC
/-- A row in one block, another block written. -/
theorem own_grown {w w1 : World} {base g n c g2 : Nat} {l : List Int} (h : Own w base (.slice (some ⟨g, 0, none⟩) n c) l) (hg : w.grownBy w1 (some g2)) (hne : g ≠ g2) : Own w1 base (.slice (some ⟨g, 0, none⟩) n c) l := by
  have h1 : Kd.R (Kd.int .u32) 140 w base (fun k => k = g) (.slice (some ⟨g, 0, none⟩) n c) l :=
    ⟨fun k hk => by simp [Value.ownBlock] at hk; exact hk.symm, h.2.imp_ (fun _ _ hp => hp)⟩
  exact Kd.R_mono (Kd.R_grown h1 hg (fun k hk => by rw [hk]; intro e; injection e with e; exact hne e)) (fun _ _ => trivial)
theorem isL_one (w : World) (r : Int) (t : TypeId) : IsL (w.alloc (.cells #[.int .u32 r] t)) (.slice (some ⟨w.heap.size, 0, none⟩) 1 1) [r] := by
  refine ⟨_, 1, rfl, Nat.le_refl _, rfl, by simp, fun _ => ⟨_, rfl, fun j p hp => ?_⟩⟩
  have hj : j = 0 := by have := (List.getElem?_eq_some_iff.1 hp).1; simp at this; omega
  subst hj
  simp at hp
  subst hp
  refine ⟨[.int .u32 r], rfl, rfl, fun i u hu => ?_⟩
  have hi : i = 0 := by have := (List.getElem?_eq_some_iff.1 hu).1; simp at this; omega
  subst hi
  simp at hu
  subst hu
  simp [Addr.add]
set_option maxRecDepth 100000 in
set_option maxHeartbeats 1000000 in
theorem natural_divide_less (a b : Nat) (A B : Option Addr) (c d : Nat) (w : World) (hA : Kd.C (Kd.int .u32) w A (dig a).length (dig a)) (hc : (dig a).length ≤ c) (hB : Kd.C (Kd.int .u32) w B (dig b).length (dig b)) (hd : (dig b).length ≤ d)
    (ha : (dig a).length ≤ 137438953472) (hb : (dig b).length ≤ 137438953472) (h : a < b) :
    Calls Tryz.prog 123 #[.slice A (dig a).length c, .slice B (dig b).length d] w fun e w' => ∃ v1 v2, e = .returned (.tuple #[v1, v2]) ∧ IsL w' v1 (dig (a / b)) ∧ IsL w' v2 (dig (a % b)) ∧ Below w.heap.size w w' := by
  have HC := Aside0.mk (natural_compare a b A B c d w hA hc hB hd (by omega) (by omega))
  have HA := Aside0.mk hA
  rw [Nat.div_eq_of_lt h, Nat.mod_eq_of_lt h]
  have g := cmpN_neg.2 h
  clear hA hB
  go_enter Tryz.func123, Tryz.ntmps123
  go_wp2_with (go_at_call 126; refine HC.out.mono ?_; rintro e w1 ⟨rfl, hd1⟩)
  go_ret2
  exact ⟨_, _, rfl, isL_nil _, ⟨A, c, rfl, hc, Kd.C_below HA.out hd1.below⟩, hd1.below⟩
set_option maxRecDepth 100000 in
set_option maxHeartbeats 1000000 in
theorem natural_divide_one (a b : Nat) (A B : Option Addr) (c d : Nat) (w : World) (hA : Kd.C (Kd.int .u32) w A (dig a).length (dig a)) (hc : (dig a).length ≤ c) (hB : Kd.C (Kd.int .u32) w B (dig b).length (dig b)) (hd : (dig b).length ≤ d)
    (ha : (dig a).length ≤ 137438953472) (h : ¬ a < b) (h1 : (dig b).length = 1) :
    Calls Tryz.prog 123 #[.slice A (dig a).length c, .slice B (dig b).length d] w fun e w' => ∃ v1 v2, e = .returned (.tuple #[v1, v2]) ∧ IsL w' v1 (dig (a / b)) ∧ IsL w' v2 (dig (a % b)) ∧ Below w.heap.size w w' := by
  have HC := Aside0.mk (natural_compare a b A B c d w hA hc hB hd (by omega) (by omega))
  have HA := Aside0.mk hA
  have g : ¬ cmpN a b < 0 := fun k => h (cmpN_neg.1 k)
  have hb0 : b ≠ 0 := fun e => by rw [e, dig_zero] at h1; simp at h1
  have hb1 : b < 4294967296 := by have := dig_lt b; rw [h1] at this; simpa using this
  have hbd : (dig b).getD 0 0 = (b : Int) := by rw [dig_pos hb0]; simp; omega
  obtain ⟨bd, rfl, hx⟩ := C_word hB 0 (by omega) (by omega)
  rw [show rd (dig b) 0 = (dig b).getD 0 0 from rfl, hbd] at hx
  have HX := Aside0.mk hx
  have HDS := Aside0.mk (fun w hA => natural_divideSmall (dig a) (b : Int) A c w (lim_dig a) hA hc (by omega) (by omega) (by omega))
  simp only [val_dig, Int.toNat_natCast] at HDS
  rw [h1] at HC ⊢
  clear hA hB hx hbd
  have hm : ((a : Int) % b) = ((a % b : Nat) : Int) := by simp
  rw [hm] at HDS
  clear hm
  have hr2 : a % b < 4294967296 := Nat.lt_of_lt_of_le (Nat.mod_lt _ (by omega)) (by omega)
  have HV : Lim [((a % b : Nat) : Int)] ∧ val [((a % b : Nat) : Int)] = a % b := ⟨lim_cons (by omega) lim_nil, by simp only [val, Int.toNat_natCast]; omega⟩
  have HV := Lib.hid HV
  generalize a % b = r at *
  go_enter Tryz.func123, Tryz.ntmps123
  go_wp2_with (fail)
  refine HC.out.mono ?_
  rintro e w1 ⟨rfl, hd1⟩
  have HD1 := Aside0.mk hd1
  have hx1 : w1.cell? bd = some (.int .u32 (b : Int)) := by simpa [Addr.add] using pw_cell_below hd1.below HX.out
  clear hd1
  go_wp2_with (go_at_call 164; refine (HDS.out _ (Kd.C_below HA.out HD1.out.below)).mono ?_; rintro e w2 ⟨v2, rfl, hq, hb2⟩; have HQ := Aside0.mk hq; have HB2 := Aside0.mk hb2; clear hq hb2)
  have HT := Aside0.mk (fun {w : World} {v : Value} (h : IsL w v [(r : Int)]) => trim_isL h HV.out.1)
  rw [HV.out.2] at HT
  go_wp2_with (go_at_call 124; refine (HT.out (isL_one _ _ _)).mono ?_; rintro e w3 ⟨v3, rfl, hr3, hd3⟩)
  go_ret2
  have hb3 := below_step (below_alloc (Below.refl _ _) _) hd3.below
  exact ⟨_, _, rfl, HQ.out.below hb3, hr3, below_step HD1.out.below (below_step HB2.out hb3)⟩
end Go.Proofs.YtnimgfnknlkkdaaGreatDoor.H
set_option linter.unusedVariables false
set_option linter.unusedSimpArgs false
open Go
namespace Go.Proofs.YtnimgfnknlkkdaaGreatDoor.H
open Go Go.RowKit Go.Proofs.YtnimgfnknlkkdaaGreatDoorW.PrintWords Go.Proofs.YtnimgfnknlkkdaaGreatDoorW.PrintLast Go.Proofs.YtnimgfnknlkkdaaGreatDoorW.PrintMore Go.Proofs.YtnimgfnknlkkdaaGreatDoor.Num
set_option maxRecDepth 100000 in
set_option maxHeartbeats 1000000 in
theorem natural_divide_long (a b : Nat) (A B : Option Addr) (c d : Nat) (w : World) (hA : Kd.C (Kd.int .u32) w A (dig a).length (dig a)) (hc : (dig a).length ≤ c) (hB : Kd.C (Kd.int .u32) w B (dig b).length (dig b)) (hd : (dig b).length ≤ d)
    (ha : (dig a).length ≤ 137438953472) (h : ¬ a < b) (h1 : 2 ≤ (dig b).length) :
    Calls Tryz.prog 123 #[.slice A (dig a).length c, .slice B (dig b).length d] w fun e w' => ∃ v1 v2, e = .returned (.tuple #[v1, v2]) ∧ IsL w' v1 (dig (a / b)) ∧ IsL w' v2 (dig (a % b)) ∧ Below w.heap.size w w' := by
  have hlen := dig_mono (Nat.le_of_not_lt h)
  have HC := Aside0.mk (natural_compare a b A B c d w hA hc hB hd (by omega) (by omega))
  have g : ¬ cmpN a b < 0 := fun k => h (cmpN_neg.1 k)
  have hb0 : b ≠ 0 := fun e => by rw [e, dig_zero] at h1; simp at h1
  obtain ⟨m, hm⟩ : ∃ m, (dig b).length = m + 2 := ⟨(dig b).length - 2, by omega⟩
  have hlast := dig_last hb0
  rw [hm, show m + 2 - 1 = m + 1 by omega] at hlast
  have hlt := lim_get (lim_dig b) (m + 1)
  obtain ⟨t, ht⟩ := Int.eq_ofNat_of_zero_le hlt.1
  rw [ht] at hlast hlt
  obtain ⟨l1, l2, l3, l4⟩ := lead t (by omega) (by omega)
  obtain ⟨s, hs⟩ : ∃ s, s = 32 - Lib.bitLen t := ⟨_, rfl⟩
  rw [← hs] at l2 l3 l4
  obtain ⟨n1, n2⟩ := norm_div (d := []) (lim_dig b) hm ht l3 l4
  rw [val_dig] at n1 n2
  have n3 : a * 2 ^ s < 4294967296 ^ ((dig a).length + 1) := norm_num (b := 0) (m := 0) (dig_lt a) l2
  obtain ⟨bd, rfl, hx⟩ := C_word hB ((m + 1 : Nat) : Int) (by omega) (by omega)
  rw [Int.toNat_natCast, rd_nat, ht] at hx
  have hx' : w.cell? { block := bd.block, off := bd.off + (m + 1) } = some (.int .u32 (t : Int)) := by simpa [Addr.add] using hx
  have HX := Aside0.mk hx'
  have HA := Aside0.mk hA
  have HB := Aside0.mk hB
  have LA := dig_lt a
  have D2 := Aside0.mk (fun {w : World} hB => natural_shift (dig b) s (m + 2) (some bd) d w (lim_dig b) hB hd l2 (by omega) (by omega) (by rw [val_dig]; exact n1))
  have D1 := Aside0.mk (fun {w : World} hA => natural_shift (dig a) s ((dig a).length + 1) A c w (lim_dig a) hA hc l2 (by omega) (by omega) (by rw [val_dig]; exact n3))
  have LZ := Aside0.mk (fun w => Tryz.bits_LeadingZeros32 (t : Int) w (by omega) (by omega))
  simp only [Int.toNat_natCast] at LZ
  rw [show (32 : Int) - (Lib.bitLen t : Int) = (s : Int) by omega] at LZ
  simp only [val_dig] at D1 D2
  rw [hm] at HC HB D2 hd hlen ⊢
  generalize (dig a).length = la at *
  rw [show ((m + 2 : Nat) : Int) = (m : Int) + 2 by omega] at D2
  rw [show ((la + 1 : Nat) : Int) = (la : Int) + 1 by omega] at D1
  have NN := Lib.hid (And.intro n1 (And.intro n2 (And.intro LA l2)))
  clear hA hB hx hx' hm n1 n2 n3 l1 l3 l4 hs ht LA hlt hlast h1
  have e1 : (m : Int) + 2 - 1 = m + 1 := by omega
  go_enter Tryz.func123, Tryz.ntmps123
  go_wp2_with (fail)
  refine HC.out.mono ?_
  rintro e w1 ⟨rfl, hd1⟩
  have HD1 := Aside0.mk hd1
  have hx1 := pw_cell_below hd1.below HX.out
  clear hd1
  go_wp2_with (go_at_call 165; refine (LZ.out _).mono ?_; rintro e w2 ⟨rfl, rfl⟩)
  refine (D2.out (Kd.C_below HB.out HD1.out.below)).mono ?_
  rintro e w3 ⟨vd, Md, rfl, hod, hdl, hdlim, hdv, hb3⟩
  obtain ⟨gd, capd, rfl, hgd1, hgd2, -⟩ := Kd.R_form hod (by omega)
  rw [hdl] at hod ⊢
  have HOD := Aside0.mk hod
  have HB3 := Aside0.mk hb3
  have HMD := Lib.hid (And.intro hdl (And.intro hdlim hdv))
  clear hod hb3 hdl hdlim hdv
  go_wp2_with (fail)
  refine (D1.out (Kd.C_below HA.out (below_step HD1.out.below HB3.out))).mono ?_
  rintro e w4 ⟨vu, Mu, rfl, hou, hul, hulim, huv, hb4⟩
  obtain ⟨gu, capu, rfl, hgu1, hgu2, -⟩ := Kd.R_form hou (by omega)
  rw [hul] at hou ⊢
  have HOU := Aside0.mk hou
  have HB4 := Aside0.mk hb4
  have HMU := Lib.hid (And.intro hul (And.intro hulim huv))
  clear hou hb4 hul hulim huv
  have e2 : (la : Int) - (m + 2) + 1 = ((la - (m + 2) + 1 : Nat) : Int) := by omega
  have E2 := Lib.hid e2
  clear e2
  go_wp2_with (refine makeK Tryz.underlying138 infoU32 (by decide) (N := 59) rfl rfl rfl (la - (m + 2) + 1) (congrArg (Value.int .i64) E2.out) (congrArg (Value.int .i64) E2.out) (by omega) ?_; intro v w5 ho hb; obtain ⟨A1, c1, rfl⟩ := Kd.R_slice ho; simp only [List.length_replicate] at ho ⊢)
  have HO := Aside0.mk ho
  have HB5 := Aside0.mk hb
  clear ho hb
  obtain ⟨gq, capq, rfl, hgq1, hgq2, -⟩ : ∃ gq capq, A1 = some ⟨gq, 0, none⟩ ∧ w4.heap.size ≤ gq ∧ gq < w5.heap.size ∧ c1 = capq := by
    obtain ⟨g, cap, e1, hg1, hg2, -⟩ := Kd.R_form HO.out (by simp)
    injection e1 with e1 _ e3
    exact ⟨g, cap, e1, hg1, hg2, e3⟩
  have hq0 := Aside0.mk (show val (Mu.drop (la - (m + 2) + 1)) < val Md by
    rw [val_drop_div HMU.out.2.1 (by have := HMU.out.1; omega), HMD.out.2.2]
    exact div_start NN.out.2.2.1 NN.out.2.2.2 HMU.out.2.2 NN.out.2.1 (by omega))
  have hlq : (la - (m + 2) + 1) + (m + 2) = la + 1 := by omega
  generalize hlqe : la - (m + 2) + 1 = lq at *
  go_loopw [13] (fun v13 w' => ∃ (j : Nat) (U Qs : List Int), j ≤ lq ∧ v13 = .int .i64 ((j : Int) - 1) ∧ Aside0 (U.length = la + 1 ∧ Lim U ∧ Qs.length = lq ∧ Lim Qs ∧ val (U.drop j) < val Md ∧ a * 2 ^ s = val (Qs.drop j) * val Md * 4294967296 ^ j + val U)
    ∧ Aside0 (Own w' w3.heap.size (.slice (some ⟨gu, 0, none⟩) (la + 1) capu) U) ∧ Aside0 (Own w' w4.heap.size (.slice (some ⟨gq, 0, none⟩) lq c1) Qs) ∧ Aside0 (Below w3.heap.size w3 w')) (fun v13 _ => (intOf v13 + 1).toNat)
  case atStart => exact ⟨lq, Mu, _, Nat.le_refl _, by first | rfl | go_num, ⟨HMU.out.1, HMU.out.2.1, by simp, lim_zeros _, hq0.out, by rw [List.drop_of_length_le (by simp), HMU.out.2.2]; simp [val]⟩, ⟨Kd.R_below HOU.out HB5.out⟩, ⟨HO.out⟩, ⟨below_step HB4.out HB5.out⟩⟩
  case round =>
    clear HO HOU
    obtain ⟨j, U, Qs, hj, rfl, hU, hou, hoq, hb⟩ := hrel
    rcases j with _ | i
    · have hd0 := div_end (b := b) (s := s) (Q := val Qs) HMD.out.2.2 (by have := hU.out.2.2.2.2.2; rwa [List.drop_zero] at this) (by have := hU.out.2.2.2.2.1; rwa [List.drop_zero] at this)
      have hut : val (U.take (m + 2)) = val U := by
        have e1 := val_split U (m + 2) (by have := hU.out.1; omega)
        have e2 : val U < 4294967296 ^ (m + 2) := by
          have e3 := hU.out.2.2.2.2.1
          rw [List.drop_zero, HMD.out.2.2] at e3
          exact Nat.lt_trans e3 NN.out.1
        rcases Nat.eq_zero_or_pos (val (U.drop (m + 2))) with k | k
        · rw [k] at e1; omega
        · have : 4294967296 ^ (m + 2) * 1 ≤ 4294967296 ^ (m + 2) * val (U.drop (m + 2)) := Nat.mul_le_mul_left _ k
          omega
      have hlu : (U.take (m + 2)).length = m + 2 := by rw [List.length_take]; have := hU.out.1; omega
      have HTR := Aside0.mk (fun {w' : World} (hb' : Below wr.heap.size wr w') => trim_isL ((own_isL hoq.out).below hb') hU.out.2.2.2.1)
      rw [hd0.1] at HTR
      obtain ⟨-, hcap, hCu⟩ := Kd.R_reads' hou.out
      have HUN := Aside0.mk (fun {w' : World} (hA : Kd.C (Kd.int .u32) w' (some ⟨gu, 0, none⟩) (U.take (m + 2)).length (U.take (m + 2))) => natural_unshift (U.take (m + 2)) s (some ⟨gu, 0, none⟩) capu w' (lim_take _ hU.out.2.1) hA (by omega) l2 (by omega))
      have hCt := C_take hCu (n := m + 2) (by have := hU.out.1; omega)
      rw [hlu] at hCt HUN
      rw [hut, hd0.2.1] at HUN
      have HCT := Aside0.mk hCt
      clear hCu hCt hU hd0 hut hlu
      have b1 : (0 : Int) ≤ (m : Int) + 2 := by omega
      have b2 : (m : Int) + 2 ≤ (capu : Int) := by omega
      go_wp2_with (fail)
      go_region_held3 (fun w' => Aside0 (Below wr.heap.size wr w'))
        (first | exact ⟨pw_below_drewN (Below.refl _ _) 1⟩ | exact ⟨below_step (Aside0.out (by assumption)) (Drawn0.below (by assumption))⟩ | exact ⟨below_step (Aside0.out (by assumption)) (by assumption)⟩)
        (first | (go_at_call 124; refine Calls.mono (HTR.out (Aside0.out (by assumption))) ?_; rintro e w6 ⟨v6, rfl, hv6, hd6⟩) | (go_at_call 168; have hh := Lib.hid (Aside0.out (show Aside0 (Below wr.heap.size wr w6) by assumption)); refine Calls.mono (HUN.out (Kd.C_below HCT.out (Aside0.out (by assumption)))) ?_; rintro e w7 ⟨v7, rfl, hv7, hb7⟩))
      go_wp2_with (fail)
      go_ret2
      exact ⟨_, _, rfl, hv6.below hb7, hv7, below_step HD1.out.below (below_step HB3.out (below_step hb.out (below_step hh.out hb7)))⟩
    · have e3 : ((i + 1 : Nat) : Int) - 1 = i := by omega
      rw [e3]
      clear e3
      obtain ⟨hU1, hU2, hU3, hU4, hU5, hU6⟩ := hU.out
      obtain ⟨-, hcap, -⟩ := Kd.R_reads' hou.out
      obtain ⟨-, hcapd, -⟩ := Kd.R_reads' HOD.out
      have hil : i + (m + 2) + 1 ≤ U.length := by omega
      have hVm : val Md ≤ 4294967296 ^ (m + 2) := by have := val_lt HMD.out.2.1; rw [HMD.out.1] at this; omega
      have hpt := parts_eq U i (m + 2)
      have hti : (U.take i).length = i := by rw [List.length_take]; omega
      have HS := Aside0.mk (natural_step (U.take i) ((U.drop i).take (m + 2 + 1)) (U.drop (i + (m + 2) + 1)) Md gu (la + 1) capu (capu - i) w3.heap.size (some ⟨gd, 0, none⟩) capd wr (hpt ▸ hou.out) (hpt ▸ hU2) HMD.out.2.1 m HMD.out.1
        (by rw [List.length_take, List.length_drop]; omega) (by omega) (by omega) (by omega) (by omega) (norm_top HMD.out.2.1 HMD.out.1 rfl (by rw [HMD.out.2.2]; exact NN.out.2.1))
        (div_parts hU2 hil hU5 hVm).1 (fun W' hW => (Kd.R_reads' (own_grown (Kd.R_below HOD.out hb.out) hW (by omega))).2.2))
      rw [hti] at HS
      have hV0 : 0 < val Md := by have := (div_parts hU2 hil hU5 hVm).1; exact Nat.pos_of_ne_zero (fun e => by rw [e] at this; omega)
      have hqb : val ((U.drop i).take (m + 2 + 1)) / val Md < 4294967296 := Nat.div_lt_of_lt_mul (div_parts hU2 hil hU5 hVm).1
      obtain ⟨q, hq⟩ : ∃ q, q = val ((U.drop i).take (m + 2 + 1)) / val Md := ⟨_, rfl⟩
      rw [← hq] at HS hqb
      have HR := Aside0.mk (fun (S2 : List Int) (q : Nat) => div_round (S2 := S2) (q := q) hU2 hil (show i < Qs.length by omega) hU5 hVm hV0 hU6)
      have HQl := Aside0.mk (And.intro hU1 (And.intro hU2 (And.intro hU3 hU4)))
      have HQ := Lib.hid hq
      clear hq hpt hti hU1 hU2 hU3 hU4 hU5 hU6 hil hVm hV0 hU
      have g1 : decide ((0 : Int) ≤ (i : Int)) = true := decide_eq_true (by omega)
      have b1 : i + (m + 2) + 1 ≤ capu := by omega
      go_wp2_with (fail)
      rw [show i + (m + 2) + 1 - i = m + 3 by omega]
      refine HS.out.mono ?_
      rintro e w6 ⟨S2, rfl, hou6, hS2l, hS2m, hS2v, hg6⟩
      have HRR := Aside0.mk (HR.out S2 q (by rw [hS2l, List.length_take, List.length_drop]; have := HQl.out.1; omega) hS2v HQ.out)
      have HX2 := Aside0.mk (And.intro hS2l hS2m)
      clear hS2l hS2m hS2v
      have hoq6 := own_grown hoq.out hg6 (by omega)
      have HOU6 := Aside0.mk hou6
      have HOQ6 := Aside0.mk hoq6
      have HG6 := Aside0.mk hg6
      clear hou6 hoq6 hg6
      have hiq : (i : Int) < (lq : Int) := by omega
      clear g1 b1 HS hcap hcapd HR
      go_wp2_with (refine storeG infoU32 (p := 78) (j := i) rfl rfl rfl HOQ6.out (grown_refl _ _) (by omega) rfl rfl ?_; intro w7 hoq7 hg7)
      go_roundw
      case measure => simp [intOf]
      case rel =>
        refine ⟨i, _, _, by omega, by first | rfl | go_num, ⟨?_, ?_, ?_, ?_, HRR.out.1, HRR.out.2⟩, ⟨own_grown HOU6.out hg7 (by omega)⟩, ⟨hoq7⟩, ⟨?_⟩⟩
        · have := HQl.out.1; simp only [List.length_append, List.length_take, List.length_drop, HX2.out.1]; omega
        · exact lim_append (lim_append (lim_take _ HQl.out.2.1) HX2.out.2) (lim_drop _ HQl.out.2.1)
        · rw [List.length_set]; exact HQl.out.2.2.1
        · exact lim_set _ HQl.out.2.2.2 (by omega)
        · exact pw_below_grown (pw_below_grown hb.out _ hb.out.size HG6.out (by intro k hk; injection hk; omega)) _ (Nat.le_trans hb.out.size HG6.out.size) hg7 (by intro k hk; injection hk; omega)
end Go.Proofs.YtnimgfnknlkkdaaGreatDoor.H
set_option linter.unusedVariables false
set_option linter.unusedSimpArgs false
open Go
namespace Go.Proofs.YtnimgfnknlkkdaaGreatDoor.H
open Go Go.RowKit Go.Proofs.YtnimgfnknlkkdaaGreatDoorW.PrintWords Go.Proofs.YtnimgfnknlkkdaaGreatDoorW.PrintLast Go.Proofs.YtnimgfnknlkkdaaGreatDoorW.PrintMore Go.Proofs.YtnimgfnknlkkdaaGreatDoor.Num
theorem natural_divide {a b : Nat} {v1 v2 : Value} {w : World} (h1 : IsL w v1 (dig a)) (h2 : IsL w v2 (dig b)) (hb0 : b ≠ 0) (ha : (dig a).length ≤ 137438953472) (hb : (dig b).length ≤ 137438953472) :
    Calls Tryz.prog 123 #[v1, v2] w fun e w' => ∃ v1 v2, e = .returned (.tuple #[v1, v2]) ∧ IsL w' v1 (dig (a / b)) ∧ IsL w' v2 (dig (a % b)) ∧ Below w.heap.size w w' := by
  obtain ⟨A, c, rfl, hc, hA⟩ := h1
  obtain ⟨B, d, rfl, hd, hB⟩ := h2
  by_cases h : a < b
  · exact natural_divide_less a b A B c d w hA hc hB hd ha hb h
  · have h3 : (dig b).length ≠ 0 := fun e => hb0 (by rw [← val_dig b, List.length_eq_zero_iff.1 e]; rfl)
    by_cases h4 : (dig b).length = 1
    · exact natural_divide_one a b A B c d w hA hc hB hd ha h h4
    · exact natural_divide_long a b A B c d w hA hc hB hd ha h (by omega)
/-- The digits that a slice's value reads. -/
def digsOf (w : World) : Value → List Int
  | .slice (some ad) n _ => (List.range n).map (fun i => match w.cell? (ad.add i) with | some (.int _ x) => x | _ => 0)
  | _ => []
theorem digsOf_eq {w : World} {v : Value} {l : List Int} (h : IsL w v l) : digsOf w v = l := by
  obtain ⟨A, c, rfl, -, hC⟩ := h
  rcases l with _ | ⟨x, l⟩
  · cases A <;> simp [digsOf]
  · obtain ⟨ad, rfl, -⟩ := C_word hC 0 (by omega) (by simp)
    refine List.ext_getElem (by simp [digsOf]) (fun i h1 h2 => ?_)
    obtain ⟨ad2, e, hx⟩ := C_word hC (i : Int) (by omega) (by omega)
    obtain rfl : ad = ad2 := by injection e
    rw [Int.toNat_natCast, rd_nat] at hx
    simp only [digsOf, List.getElem_map, List.getElem_range, hx]
    simp [List.getD_eq_getElem?_getD, List.getElem?_eq_getElem h2]
theorem dig_pos_len {b : Nat} : 0 < (dig b).length ↔ b ≠ 0 := by
  constructor
  · intro h e; rw [e, dig_zero] at h; simp at h
  · intro h; exact List.length_pos_iff.2 (fun e => h (by rw [← val_dig b, e]; rfl))
theorem ret_ssb {x y x' y' : ByteArray} {a b : Bool} (h : x = y) (h' : x' = y') (k : a = b) : Ending.returned (.tuple #[.string x, .string x', .bool a]) = Ending.returned (.tuple #[.string y, .string y', .bool b]) := by rw [h, h', k]
set_option maxRecDepth 100000 in
set_option maxHeartbeats 1000000 in
theorem natural_Divide (s t : ByteArray) (w : World) (hs : s.size ≤ 549755813888) (ht : t.size ≤ 549755813888) :
    Calls Tryz.prog 90 #[.string s, .string t] w fun e w' => e = .returned (.tuple #[.string (natB (if bval t = 0 then 0 else bval s / bval t)), .string (natB (if bval t = 0 then 0 else bval s % bval t)), .bool (decide (bval t ≠ 0))]) ∧ Below w.heap.size w w' := by
  have D1 := dig_len_size (s := s) (n := 137438953472) (by omega)
  have D2 := dig_len_size (s := t) (n := 137438953472) (by omega)
  generalize ha : bval s = a at *
  generalize hb : bval t = b at *
  have P1 := Lib.hid (fun w => natural_parse s w (by omega))
  have P2 := Lib.hid (fun w => natural_parse t w (by omega))
  rw [ha] at P1
  rw [hb] at P2
  clear ha hb
  have M1 := Nat.div_le_self a b
  have M2 := Nat.mod_le a b
  have D3 := Aside0.mk (show (dig (a / b)).length ≤ 274877906944 by have := dig_mono M1; omega)
  have D4 := Aside0.mk (show (dig (a % b)).length ≤ 274877906944 by have := dig_mono M2; omega)
  clear M1 M2
  have hlen := @dig_pos_len b
  go_enter Tryz.func90, Tryz.ntmps90
  go_wp2_with (fail)
  refine (P2.out _).mono ?_
  rintro e w1 ⟨v1, rfl, ⟨B, d, rfl, hd, hB⟩, hb1⟩
  have HB := Aside0.mk (show IsL w1 (.slice B (dig b).length d) (dig b) from ⟨B, d, rfl, hd, hB⟩)
  have HB1 := Aside0.mk hb1
  clear hB hb1
  by_cases h0 : b = 0
  · subst h0
    rw [dig_zero] at hlen ⊢
    clear hlen
    go_wp2
    go_ret3
    exact ⟨ret_ssb (by simp [natB_zero]) (by simp [natB_zero]) (by simp), HB1.out⟩
  · have hpos : (0 : Int) < ((dig b).length : Int) := by omega
    have DV := Aside0.mk (fun {v1 v2 : Value} {w : World} (h1 : IsL w v1 (dig a)) (h2 : IsL w v2 (dig b)) => natural_divide h1 h2 h0 D1 D2)
    generalize hlb : (dig b).length = lb at *
    clear hlen hlb
    go_wp2_with (fail)
    refine (P1.out _).mono ?_
    rintro e w2 ⟨v2, rfl, hA, hb2⟩
    have HA := Aside0.mk hA
    have HB2 := Aside0.mk hb2
    clear hA hb2
    go_wp2_with (fail)
    refine (DV.out HA.out (HB.out.below HB2.out)).mono ?_
    rintro e w3 ⟨q, r, rfl, hq, hr, hb3⟩
    have HQ := Aside0.mk hq
    have HR := Aside0.mk hr
    have HB3 := Aside0.mk hb3
    clear hq hr hb3
    go_wp2_with (fail)
    refine (text_dig HQ.out D3.out).mono ?_
    rintro e w4 ⟨rfl, hb4⟩
    have HB4 := Aside0.mk hb4
    clear hb4
    go_wp2_with (fail)
    refine (text_dig (HR.out.below HB4.out) D4.out).mono ?_
    rintro e w5 ⟨rfl, hb5⟩
    have HB5 := Aside0.mk hb5
    clear hb5
    go_wp2
    go_ret3
    exact ⟨ret_ssb rfl rfl (by simp [h0]), below_step HB1.out (below_step HB2.out (below_step HB3.out (below_step HB4.out HB5.out)))⟩
set_option maxRecDepth 100000 in
set_option maxHeartbeats 1000000 in
theorem natural_GCD (s t : ByteArray) (w : World) (hs : s.size ≤ 549755813888) (ht : t.size ≤ 549755813888) :
    Calls Tryz.prog 89 #[.string s, .string t] w fun e w' => e = .returned (.string (natB (Nat.gcd (bval s) (bval t)))) ∧ Below w.heap.size w w' := by
  have D1 := dig_len_size (s := s) (n := 137438953472) (by omega)
  have D2 := dig_len_size (s := t) (n := 137438953472) (by omega)
  generalize ha : bval s = a at *
  generalize hb : bval t = b at *
  have P1 := Lib.hid (fun w => natural_parse s w (by omega))
  have P2 := Lib.hid (fun w => natural_parse t w (by omega))
  rw [ha] at P1
  rw [hb] at P2
  clear ha hb
  go_enter Tryz.func89, Tryz.ntmps89
  go_wp2_with (fail)
  refine (P1.out _).mono ?_
  rintro e w1 ⟨v1, rfl, hA, hb1⟩
  have HA := Aside0.mk hA
  have HB1 := Aside0.mk hb1
  clear hA hb1
  go_wp2_with (fail)
  refine (P2.out _).mono ?_
  rintro e w2 ⟨v2, rfl, hB, hb2⟩
  have HB := Aside0.mk hB
  have HB2 := Aside0.mk hb2
  clear hB hb2
  go_wp2_with (fail)
  go_loopw [5, 6, 7, 8] (fun v5 v6 v7 v8 w' => ∃ (x y : Nat), Aside0 (IsL w' v5 (dig x)) ∧ Aside0 (IsL w' v6 (dig y)) ∧ Aside0 (Nat.gcd x y = Nat.gcd a b ∧ (dig x).length ≤ 137438953472 ∧ (dig y).length ≤ 137438953472) ∧ Aside0 (Below w.heap.size w w')) (fun _ v6 _ _ w' => val (digsOf w' v6))
  case atStart => exact ⟨a, b, ⟨HA.out.below HB2.out⟩, ⟨HB.out⟩, ⟨rfl, D1, D2⟩, ⟨below_step HB1.out HB2.out⟩⟩
  case round =>
    clear HA HB
    obtain ⟨x, y, h5, h6, hG, hb⟩ := hrel
    obtain ⟨A, c, rfl, hc, hA⟩ := h5.out
    obtain ⟨B, d, rfl, hd, hB⟩ := h6.out
    have e6 := Aside0.mk (digsOf_eq h6.out)
    clear hA hB
    have hlen := @dig_pos_len y
    by_cases h0 : y = 0
    · subst h0
      rw [dig_zero] at hlen ⊢
      clear hlen
      have TX := Aside0.mk (text_dig h5.out (by have := hG.out.2.1; omega))
      go_wp2_with (fail)
      refine TX.out.mono ?_
      rintro e w4 ⟨rfl, hb4⟩
      go_wp2
      go_ret
      exact ⟨by rw [← hG.out.1, Nat.gcd_zero_right]; rfl, below_step hb.out hb4⟩
    · have hpos : (0 : Int) < ((dig y).length : Int) := by omega
      have DV := Aside0.mk (natural_divide h5.out h6.out h0 hG.out.2.1 hG.out.2.2)
      go_wp2_with (fail)
      refine DV.out.mono ?_
      rintro e w3 ⟨q, r, rfl, hq, hr, hb3⟩
      go_wp2_with (fail)
      go_roundw
      case measure => rw [digsOf_eq hr, e6.out, val_dig, val_dig]; exact Nat.mod_lt _ (Nat.pos_of_ne_zero h0)
      case rel => exact ⟨y, x % y, ⟨h6.out.below hb3⟩, ⟨hr⟩, ⟨by rw [← hG.out.1, Nat.gcd_comm x y, Nat.gcd_rec y x, Nat.gcd_comm], hG.out.2.2, Nat.le_trans (dig_mono (Nat.mod_le _ _)) hG.out.2.1⟩, ⟨below_step hb.out hb3⟩⟩
end Go.Proofs.YtnimgfnknlkkdaaGreatDoor.H
set_option linter.unusedVariables false
set_option linter.unusedSimpArgs false
open Go
namespace Go.Proofs.YtnimgfnknlkkdaaGreatDoor.H
open Go Go.RowKit Go.Proofs.YtnimgfnknlkkdaaGreatDoorW.PrintWords Go.Proofs.YtnimgfnknlkkdaaGreatDoorW.PrintLast Go.Proofs.YtnimgfnknlkkdaaGreatDoorW.PrintMore Go.Proofs.YtnimgfnknlkkdaaGreatDoor.Num
theorem ret_s {a b : ByteArray} (h : a = b) : Ending.returned (.string a) = Ending.returned (.string b) := by rw [h]
theorem natB_extract {s : ByteArray} {i : Nat} (hi : i ≤ s.size) (hz : ∀ k (h : k < s.size), k < i → s[k] = 0) (hn : ∀ h : i < s.size, s[i] ≠ 0) : s.extract i s.size = natB (bval s) := by
  have hl : s.data.toList.length = s.size := by rw [Array.length_toList]; rfl
  have e1 : (s.extract i s.size).data.toList = s.data.toList.drop i := by
    rw [ByteArray.data_extract, Array.toList_extract, List.extract_eq_take_drop, List.take_of_length_le (by rw [List.length_drop, hl]; omega)]
  have e2 : natL (bvl s.data.toList) = s.data.toList.drop i := by
    rw [natL_bvl]
    conv => lhs; rw [← List.take_append_drop i s.data.toList]
    rw [List.dropWhile_append_of_pos]
    · rcases Nat.lt_or_ge i s.size with h | h
      · rw [List.drop_eq_getElem_cons (by rw [hl]; exact h), List.dropWhile_cons, if_neg]
        have := hn h
        simpa using (show ¬ s.data[i] = 0 from this)
      · rw [List.drop_of_length_le (by omega)]; rfl
    · intro a ha
      obtain ⟨k, hk, rfl⟩ := List.getElem_of_mem ha
      rw [List.length_take] at hk
      rw [List.getElem_take]
      have hk3 : k < s.size := by omega
      have := hz k hk3 (by omega)
      simpa using (show s.data[k]'hk3 = 0 from this)
  have e3 : (s.extract i s.size) = ⟨(s.extract i s.size).data.toList.toArray⟩ := by rw [Array.toArray_toList]
  rw [e3, e1, natB, bval, e2]
theorem ref_Normalize (s : ByteArray) (w : World) (hs : s.size ≤ 1099511627776) :
    Calls Tryz.prog 158 #[.string s] w fun e w' => e = .returned (.string (natB (bval s))) ∧ w' = w := by
  go_enter Tryz.func158, Tryz.ntmps158
  go_wp2
  go_loopw [3] (fun v3 w' => ∃ i : Nat, i ≤ s.size ∧ v3 = .int .i64 i ∧ Aside0 (∀ k (h : k < s.size), k < i → s[k] = 0) ∧ w' = w) (fun v3 _ => s.size - (intOf v3).toNat)
  case atStart => exact ⟨0, Nat.zero_le _, rfl, ⟨fun k _ h => by omega⟩, rfl⟩
  case round =>
    obtain ⟨i, hi, rfl, hA, rfl⟩ := hrel
    rcases Nat.lt_or_ge i s.size with hl | hge
    · by_cases hz : s[i] = 0
      · have hz0 : ((s[i].toNat : Int) == 0) = true := by rw [hz]; rfl
        go_wp2
        go_roundw
        case measure => simp [intOf]; omega
        case rel =>
          refine ⟨i + 1, hl, by go_num, ⟨fun k h hk => ?_⟩, by first | rfl | trivial⟩
          rcases Nat.lt_or_ge k i with hk2 | hk2
          · exact hA.out k h hk2
          · obtain rfl : k = i := by omega
            exact hz
      · have hz0 : ((s[i].toNat : Int) == 0) = false := by
          rw [beq_eq_false_iff_ne]
          intro e
          exact hz (UInt8.toNat_inj.1 (by rw [Int.natCast_eq_zero] at e; rw [e]; rfl))
        go_wp2
        go_ret
        exact ⟨ret_s (natB_extract hi hA.out (fun _ => hz)), rfl⟩
    · obtain rfl : i = s.size := by omega
      go_wp2
      go_ret
      exact ⟨ret_s (by rw [← natB_extract (Nat.le_refl _) hA.out (fun h => by omega), ByteArray.extract_same]), rfl⟩
end Go.Proofs.YtnimgfnknlkkdaaGreatDoor.H
/- The program's numbers: sign, numerator, denominator, as rational numbers of Lean's core. -/
set_option linter.unusedVariables false
set_option linter.unusedSimpArgs false
namespace Go.Proofs.YtnimgfnknlkkdaaGreatDoor.Num
open Go
def canS (x : Rat) : Bool := decide (x.num < 0)
def canN (x : Rat) : ByteArray := natB x.num.natAbs
def canD (x : Rat) : ByteArray := if x.den = 1 then ⟨#[]⟩ else natB x.den
def mkQ (n : Bool) (a b : Nat) : Rat := mkRat (if n then -(a : Int) else a) b
def okB (n : Bool) (s t : ByteArray) : Bool := decide (natB (bval s) = s) && decide (natB (bval t) = t) && (if s.size = 0 then !n && decide (t.size = 0) else decide (t.size = 0) || (decide (t ≠ ⟨#[1]⟩) && decide (natB (Nat.gcd (bval s) (bval t)) = ⟨#[1]⟩)))
/-- The number that the program's fields are (0 if they are not valid). -/
def rq (n : Bool) (s t : ByteArray) : Rat := if okB n s t then mkQ n (bval s) (if t.size = 0 then 1 else bval t) else 0
theorem size_nil {s : ByteArray} : s.size = 0 ↔ s = ⟨#[]⟩ := ByteArray.size_eq_zero_iff
theorem nil_eq : (⟨#[]⟩ : ByteArray) = ByteArray.empty := rfl
theorem natB_eq_one {n : Nat} : natB n = ⟨#[1]⟩ ↔ n = 1 := ⟨fun e => natB_inj (e.trans natB_one.symm), fun e => by rw [e, natB_one]⟩
theorem natB_size_zero {n : Nat} : (natB n).size = 0 ↔ n = 0 := by rw [size_nil, natB_empty]
theorem bval_nil : bval ⟨#[]⟩ = 0 := by rw [← natB_zero, bval_natB]
theorem mkQ_of {x : Rat} : mkQ (canS x) x.num.natAbs x.den = x := by
  unfold mkQ canS
  conv => rhs; rw [← Rat.mkRat_self x]
  congr 1
  by_cases h : x.num < 0 <;> simp [h] <;> omega
theorem okB_can (x : Rat) : okB (canS x) (canN x) (canD x) = true := by
  have hd := x.den_nz
  have hr := x.reduced
  have hN : natB (bval (canN x)) = canN x := by rw [canN, bval_natB]
  have hD : natB (bval (canD x)) = canD x := by
    unfold canD; split
    · rw [bval_nil, natB_zero]
    · rw [bval_natB]
  unfold okB
  rw [hN, hD]
  simp only [decide_true, Bool.true_and]
  by_cases h0 : x.num = 0
  · have : (canN x).size = 0 := by rw [canN, natB_size_zero, h0]; rfl
    rw [if_pos this]
    have hd1 : x.den = 1 := by rw [h0] at hr; simpa [Nat.Coprime] using hr
    simp [canS, h0, canD, hd1, nil_eq]
  · have : ¬ (canN x).size = 0 := by rw [canN, natB_size_zero]; omega
    rw [if_neg this]
    by_cases h1 : x.den = 1
    · simp [canD, h1, nil_eq]
    · have e1 : canD x = natB x.den := by simp [canD, h1]
      rw [e1]
      simp only [canN, bval_natB, natB_eq_one, ne_eq, h1, not_false_iff, decide_true, Bool.true_and, Bool.or_eq_true, decide_eq_true_iff]
      exact .inr hr
theorem den_can (x : Rat) : (if (canD x).size = 0 then 1 else bval (canD x)) = x.den := by
  unfold canD
  split
  · rename_i h; rw [if_pos (by rfl)]; exact h.symm
  · rw [if_neg (by rw [natB_size_zero]; exact x.den_nz), bval_natB]
theorem rq_can (x : Rat) : rq (canS x) (canN x) (canD x) = x := by
  rw [rq, okB_can, if_pos rfl, den_can, canN, bval_natB, mkQ_of]
/-- Valid fields are the fields of their number. -/
theorem can_rq {n : Bool} {s t : ByteArray} (h : okB n s t = true) : canS (rq n s t) = n ∧ canN (rq n s t) = s ∧ canD (rq n s t) = t := by
  have hx : ∃ x : Rat, n = canS x ∧ s = canN x ∧ t = canD x := by
    unfold okB at h
    rw [Bool.and_eq_true, Bool.and_eq_true, decide_eq_true_iff, decide_eq_true_iff] at h
    obtain ⟨⟨hs, ht⟩, h⟩ := h
    by_cases h0 : s.size = 0
    · rw [if_pos h0] at h
      simp only [Bool.and_eq_true, Bool.not_eq_true', decide_eq_true_iff] at h
      refine ⟨0, by simp [canS, h.1], ?_, ?_⟩
      · rw [size_nil.1 h0]; simp [canN, natB_zero]
      · rw [size_nil.1 h.2]; simp [canD]
    · rw [if_neg h0] at h
      have ha : bval s ≠ 0 := fun e => h0 (by rw [← hs, e, natB_zero]; rfl)
      obtain ⟨b, hb0, hbc, hbt⟩ : ∃ b, b ≠ 0 ∧ Nat.Coprime (bval s) b ∧ t = if b = 1 then ⟨#[]⟩ else natB b := by
        by_cases h1 : t.size = 0
        · exact ⟨1, by omega, by simp [Nat.Coprime], by rw [if_pos rfl]; exact size_nil.1 h1⟩
        · simp only [h1, decide_false, Bool.false_or, Bool.and_eq_true, decide_eq_true_iff, natB_eq_one] at h
          refine ⟨bval t, fun e => h1 (by rw [← ht, e, natB_zero]; rfl), h.2, ?_⟩
          rw [if_neg (fun e => h.1 (by rw [← ht, e, natB_one])), ht]
      refine ⟨⟨if n then -(bval s : Int) else bval s, b, hb0, ?_⟩, ?_, ?_, ?_⟩
      · cases n <;> simpa using hbc
      · cases n <;> simp [canS] <;> omega
      · cases n <;> simp [canN, hs]
      · simp only [canD]; exact hbt
  obtain ⟨x, rfl, rfl, rfl⟩ := hx
  rw [rq_can]
  exact ⟨rfl, rfl, rfl⟩
theorem rq_not {n : Bool} {s t : ByteArray} (h : okB n s t = false) : rq n s t = 0 := by rw [rq, h]; rfl
theorem can_zero : canS 0 = false ∧ canN 0 = ⟨#[]⟩ ∧ canD 0 = ⟨#[]⟩ := by
  refine ⟨rfl, ?_, rfl⟩
  rw [canN, ← natB_zero]; rfl
/-- The parts of a fraction. -/
theorem mkQ_parts {n : Bool} {a b : Nat} (hb : b ≠ 0) : (mkQ n a b).num = (if n then -((a / Nat.gcd a b : Nat) : Int) else ((a / Nat.gcd a b : Nat) : Int)) ∧ (mkQ n a b).den = b / Nat.gcd a b := by
  unfold mkQ
  rw [Rat.num_mkRat, Rat.den_mkRat, if_neg hb, if_neg hb, Nat.gcd_comm]
  have hna : (if n then -(a : Int) else (a : Int)).natAbs = a := by cases n <;> simp
  rw [hna]
  refine ⟨?_, rfl⟩
  have hd : ((Nat.gcd a b : Nat) : Int) ∣ (a : Int) := Int.natCast_dvd_natCast.2 (Nat.gcd_dvd_left a b)
  cases n
  · simp
  · simp [Int.neg_ediv_of_dvd hd]
theorem mkQ_zero {n : Bool} {b : Nat} : mkQ n 0 b = 0 := by cases n <;> simp [mkQ]
theorem mkQ_can {n : Bool} {a b : Nat} (hb : b ≠ 0) (ha : a ≠ 0) : canS (mkQ n a b) = n ∧ canN (mkQ n a b) = natB (a / Nat.gcd a b) ∧ canD (mkQ n a b) = if b / Nat.gcd a b = 1 then ⟨#[]⟩ else natB (b / Nat.gcd a b) := by
  obtain ⟨h1, h2⟩ := mkQ_parts (n := n) (a := a) hb
  have hg : 0 < a / Nat.gcd a b := Nat.div_pos (Nat.gcd_le_left b (Nat.pos_of_ne_zero ha)) (Nat.gcd_pos_of_pos_right a (Nat.pos_of_ne_zero hb))
  refine ⟨?_, ?_, ?_⟩
  · rw [canS, h1]
    generalize a / Nat.gcd a b = k at *
    cases n
    · simp
    · simp; omega
  · rw [canN, h1]
    generalize a / Nat.gcd a b = k at *
    cases n <;> simp
  · rw [canD, h2]
end Go.Proofs.YtnimgfnknlkkdaaGreatDoor.Num
set_option linter.unusedVariables false
set_option linter.unusedSimpArgs false
open Go
namespace Go.Proofs.YtnimgfnknlkkdaaGreatDoor.H
open Go Go.RowKit Go.Proofs.YtnimgfnknlkkdaaGreatDoorW.PrintWords Go.Proofs.YtnimgfnknlkkdaaGreatDoorW.PrintLast Go.Proofs.YtnimgfnknlkkdaaGreatDoorW.PrintMore Go.Proofs.YtnimgfnknlkkdaaGreatDoor.Num
/-- The value of a number of the program: sign, numerator, denominator. -/
abbrev RV (n : Bool) (s t : ByteArray) : Value := .agg #[.bool n, .string s, .string t]
def denB (t : ByteArray) : ByteArray := if t.size = 0 then natB 1 else t
def sgnI (n : Bool) (s : ByteArray) : Int := if s.size = 0 then 0 else if n then -1 else 1
theorem isEmpty_iff (t : ByteArray) : t.toList.isEmpty = decide (t.size = 0) := by
  rw [ByteArray.toList_eq, Bool.eq_iff_iff]
  rw [List.isEmpty_iff, decide_eq_true_iff, ← List.length_eq_zero_iff]
  show t.data.toList.length = 0 ↔ t.data.size = 0
  rw [Array.length_toList]
theorem str_eq (a b : ByteArray) : (a.toList == b.toList) = decide (a = b) := by
  rw [ByteArray.toList_eq, ByteArray.toList_eq, Bool.eq_iff_iff, beq_iff_eq, decide_eq_true_iff]
  exact ⟨fun h => by cases a; cases b; simp_all, fun h => by rw [h]⟩
theorem one_eq (a : ByteArray) : (a.toList == [1]) = decide (a = ⟨#[1]⟩) := by
  rw [← str_eq a ⟨#[1]⟩, ByteArray.toList_eq ⟨#[1]⟩]
theorem nil_iff (t : ByteArray) : t.toList = [] ↔ t.size = 0 := by
  have := isEmpty_iff t
  rw [Bool.eq_iff_iff, List.isEmpty_iff, decide_eq_true_iff] at this
  exact this
theorem one_iff (t : ByteArray) : t.toList = [1] ↔ t = ⟨#[1]⟩ := by
  have := one_eq t
  rwa [Bool.eq_iff_iff, beq_iff_eq, decide_eq_true_iff] at this
theorem one_ne : (⟨#[1]⟩ : ByteArray) ≠ ByteArray.empty := by decide
theorem ret_b {a b : Bool} (h : a = b) : Ending.returned (.bool a) = Ending.returned (.bool b) := by rw [h]
theorem rational_den (n : Bool) (s t : ByteArray) (w : World) :
    Calls Tryz.prog 54 #[RV n s t] w fun e w' => e = .returned (.string (denB t)) ∧ Below w.heap.size w w' := by
  go_enter Tryz.func54, Tryz.ntmps54
  go_wp2
  all_goals go_ret
  all_goals rename_i h
  all_goals rw [isEmpty_iff] at h
  all_goals exact ⟨ret_s (by simp at h; simp [denB, h, natB_one]), below_alloc (Below.refl _ _) _⟩
theorem rational_signOf (n : Bool) (s t : ByteArray) (w : World) :
    Calls Tryz.prog 50 #[RV n s t] w fun e w' => e = .returned (.int .i64 (sgnI n s)) ∧ Below w.heap.size w w' := by
  go_enter Tryz.func50, Tryz.ntmps50
  go_wp2
  all_goals go_ret
  all_goals refine ⟨ret_i ?_, below_alloc (Below.refl _ _) _⟩
  all_goals (simp only [isEmpty_iff] at *; simp_all [sgnI])
set_option maxRecDepth 100000 in
set_option maxHeartbeats 1000000 in
theorem rational_Valid (n : Bool) (s t : ByteArray) (w : World) (hs : s.size ≤ 549755813888) (ht : t.size ≤ 549755813888) :
    Calls Tryz.prog 87 #[RV n s t] w fun e w' => e = .returned (.bool (okB n s t)) ∧ Below w.heap.size w w' := by
  have P1 := Lib.hid (fun w => natural_Normalize s w)
  have P2 := Lib.hid (fun w => natural_Normalize t w)
  have G := Lib.hid (fun w => natural_GCD s t w hs ht)
  have R := Aside0.mk (show okB n s t = (decide (natB (bval s) = s) && decide (natB (bval t) = t) && (if s.size = 0 then !n && decide (t.size = 0) else decide (t.size = 0) || (decide (t ≠ ⟨#[1]⟩) && decide (natB (Nat.gcd (bval s) (bval t)) = ⟨#[1]⟩)))) from rfl)
  have g1 := str_eq (natB (bval s)) s
  have g2 := str_eq (natB (bval t)) t
  generalize okB n s t = r at *
  generalize natB (bval s) = x at *
  generalize natB (bval t) = y at *
  generalize natB (Nat.gcd (bval s) (bval t)) = z at *
  by_cases h1 : x = s
  · rw [decide_eq_true h1] at g1
    by_cases h2 : y = t
    · rw [decide_eq_true h2] at g2
      go_enter Tryz.func87, Tryz.ntmps87
      go_wp2_with (fail)
      go_quiet (first | (go_at_call 88; refine Calls.quiet_of_same (P1.out _)) | (go_at_call 88; refine Calls.quiet_of_same (P2.out _)))
      go_wp2_with (go_at_call 89; refine (G.out _).mono ?_; rintro e w4 ⟨rfl, hb4⟩)
      all_goals go_ret
      all_goals (refine ⟨ret_b (by rw [R.out]; simp only [isEmpty_iff, one_eq, str_eq, nil_iff, one_iff] at *; simp_all [one_ne]), ?_⟩)
      all_goals first | exact below_step (pw_below_drewN (below_alloc (Below.refl _ _) _) _) hb4 | exact pw_below_drewN (below_alloc (Below.refl _ _) _) _
    · rw [decide_eq_false h2] at g2
      go_enter Tryz.func87, Tryz.ntmps87
      go_wp2_with (fail)
      go_quiet (first | (go_at_call 88; refine Calls.quiet_of_same (P1.out _)) | (go_at_call 88; refine Calls.quiet_of_same (P2.out _)))
      go_wp2_with (fail)
      go_ret
      exact ⟨ret_b (by rw [R.out]; simp [h2]), pw_below_drewN (below_alloc (Below.refl _ _) _) _⟩
  · rw [decide_eq_false h1] at g1
    go_enter Tryz.func87, Tryz.ntmps87
    go_wp2_with (fail)
    go_quiet (first | (go_at_call 88; refine Calls.quiet_of_same (P1.out _)) | (go_at_call 88; refine Calls.quiet_of_same (P2.out _)))
    go_wp2_with (fail)
    go_ret
    exact ⟨ret_b (by rw [R.out]; simp [h1]), pw_below_drewN (below_alloc (Below.refl _ _) _) _⟩
end Go.Proofs.YtnimgfnknlkkdaaGreatDoor.H
