import Derived.Test.YtnimgfnknlkkdaaGreatDoorK3
set_option linter.unusedVariables false
set_option linter.unusedSimpArgs false
open Go
namespace Go.Proofs.YtnimgfnknlkkdaaGreatDoor.H
open Go Go.RowKit Go.Proofs.YtnimgfnknlkkdaaGreatDoorW.PrintWords Go.Proofs.YtnimgfnknlkkdaaGreatDoorW.PrintLast Go.Proofs.YtnimgfnknlkkdaaGreatDoorW.PrintMore Go.Proofs.YtnimgfnknlkkdaaGreatDoor.Num
def minQ (x y : Rat) : Rat := if x ≤ y then x else y
def maxQ (x y : Rat) : Rat := if y ≤ x then x else y
set_option maxRecDepth 100000 in
set_option maxHeartbeats 1000000 in
theorem rational_Min (n1 : Bool) (s1 t1 : ByteArray) (n2 : Bool) (s2 t2 : ByteArray) (w : World) (hs1 : s1.size ≤ 137438953472) (ht1 : t1.size ≤ 137438953472) (hs2 : s2.size ≤ 137438953472) (ht2 : t2.size ≤ 137438953472)
    (z1 : Sz (rq n1 s1 t1) 137438953472) (z2 : Sz (rq n2 s2 t2) 137438953472) :
    Calls Tryz.prog 29 #[RV n1 s1 t1, RV n2 s2 t2] w fun e w' => e = .returned (QV (minQ (rq n1 s1 t1) (rq n2 s2 t2))) ∧ Below w.heap.size w w' := by
  have C1 := Lib.hid (fun w => rational_clean n1 s1 t1 w (by omega) (by omega))
  have C2 := Lib.hid (fun w => rational_clean n2 s2 t2 w (by omega) (by omega))
  have CM := Lib.hid (fun w => rational_Compare n1 s1 t1 n2 s2 t2 w hs1 ht1 hs2 ht2 z1 z2)
  clear hs1 ht1 hs2 ht2 z1 z2
  generalize rq n1 s1 t1 = x at *
  generalize rq n2 s2 t2 = y at *
  have hle := @cmpQ_le x y
  have hz : QV (minQ x y) = if x ≤ y then QV x else QV y := by unfold minQ; split <;> rfl
  rw [hz]
  clear hz
  generalize cmpQ x y = c at *
  simp only [QV] at C1 C2 ⊢
  generalize canS x = xS at *
  generalize canN x = xN at *
  generalize canD x = xD at *
  generalize canS y = yS at *
  generalize canN y = yN at *
  generalize canD y = yD at *
  by_cases h : x ≤ y
  · have hc := hle.2 h
    have R := Lib.hid h
    clear h hle
    rw [if_pos R.out]
    go_enter Tryz.func29, Tryz.ntmps29
    go_wp2_with (fail)
    refine (CM.out _).mono ?_
    rintro e w1 ⟨rfl, hb1⟩
    obtain ⟨h1, h2, h3, hB⟩ := three w (.cells #[.bool n1, .string s1, .string t1] 23) (.cells #[.bool n2, .string s2, .string t2] 23) (.cells #[.bool false, .string ⟨#[]⟩, .string ⟨#[]⟩] 23) 0
    rw [show ∀ w : World, w.drewN 0 = w from fun _ => rfl] at h1 h2 h3 hB
    have H := Lib.hid (And.intro (heap_b hb1 h3) (below_s hb1 hB))
    obtain ⟨a1, a2, a3⟩ := (cells3 (heap_b hb1 h1)).1
    clear h1 h2 h3 hB hb1 CM
    go_wp2_with (go_at_call 51; refine (C1.out _).mono ?_; rintro e w2 ⟨rfl, hb2⟩; obtain ⟨⟨c1, c2, c3⟩, c4, c5, c6⟩ := cells3 (heap_b hb2 H.out.1))
    refine bodyPost_ret (v := RV xS xN xD) ?_ rfl ⟨rfl, ?_⟩
    · exact results_q rfl _ _ (w.heap.size + 1 + 1) rfl (by go_simp) (by go_simp) (by go_simp)
    · exact below_set (below_set (below_set (below_s hb2 H.out.2) (Nat.le_add_right _ 2)) (Nat.le_add_right _ 2)) (Nat.le_add_right _ 2)
  · have hc : ¬ _ := fun k => h (hle.1 k)
    have R := Lib.hid h
    clear h hle
    rw [if_neg R.out]
    go_enter Tryz.func29, Tryz.ntmps29
    go_wp2_with (fail)
    refine (CM.out _).mono ?_
    rintro e w1 ⟨rfl, hb1⟩
    obtain ⟨h1, h2, h3, hB⟩ := three w (.cells #[.bool n1, .string s1, .string t1] 23) (.cells #[.bool n2, .string s2, .string t2] 23) (.cells #[.bool false, .string ⟨#[]⟩, .string ⟨#[]⟩] 23) 0
    rw [show ∀ w : World, w.drewN 0 = w from fun _ => rfl] at h1 h2 h3 hB
    have H := Lib.hid (And.intro (heap_b hb1 h3) (below_s hb1 hB))
    obtain ⟨a1, a2, a3⟩ := (cells3 (heap_b hb1 h2)).1
    clear h1 h2 h3 hB hb1 CM
    go_wp2_with (go_at_call 51; refine (C2.out _).mono ?_; rintro e w2 ⟨rfl, hb2⟩; obtain ⟨⟨c1, c2, c3⟩, c4, c5, c6⟩ := cells3 (heap_b hb2 H.out.1))
    refine bodyPost_ret (v := RV yS yN yD) ?_ rfl ⟨rfl, ?_⟩
    · exact results_q rfl _ _ (w.heap.size + 1 + 1) rfl (by go_simp) (by go_simp) (by go_simp)
    · exact below_set (below_set (below_set (below_s hb2 H.out.2) (Nat.le_add_right _ 2)) (Nat.le_add_right _ 2)) (Nat.le_add_right _ 2)
set_option maxRecDepth 100000 in
set_option maxHeartbeats 1000000 in
theorem rational_Max (n1 : Bool) (s1 t1 : ByteArray) (n2 : Bool) (s2 t2 : ByteArray) (w : World) (hs1 : s1.size ≤ 137438953472) (ht1 : t1.size ≤ 137438953472) (hs2 : s2.size ≤ 137438953472) (ht2 : t2.size ≤ 137438953472)
    (z1 : Sz (rq n1 s1 t1) 137438953472) (z2 : Sz (rq n2 s2 t2) 137438953472) :
    Calls Tryz.prog 86 #[RV n1 s1 t1, RV n2 s2 t2] w fun e w' => e = .returned (QV (maxQ (rq n1 s1 t1) (rq n2 s2 t2))) ∧ Below w.heap.size w w' := by
  have C1 := Lib.hid (fun w => rational_clean n1 s1 t1 w (by omega) (by omega))
  have C2 := Lib.hid (fun w => rational_clean n2 s2 t2 w (by omega) (by omega))
  have CM := Lib.hid (fun w => rational_Compare n1 s1 t1 n2 s2 t2 w hs1 ht1 hs2 ht2 z1 z2)
  clear hs1 ht1 hs2 ht2 z1 z2
  generalize rq n1 s1 t1 = x at *
  generalize rq n2 s2 t2 = y at *
  have hle := @cmpQ_ge x y
  have hz : QV (maxQ x y) = if y ≤ x then QV x else QV y := by unfold maxQ; split <;> rfl
  rw [hz]
  clear hz
  generalize cmpQ x y = c at *
  simp only [QV] at C1 C2 ⊢
  generalize canS x = xS at *
  generalize canN x = xN at *
  generalize canD x = xD at *
  generalize canS y = yS at *
  generalize canN y = yN at *
  generalize canD y = yD at *
  by_cases h : y ≤ x
  · have hc := hle.2 h
    have R := Lib.hid h
    clear h hle
    rw [if_pos R.out]
    go_enter Tryz.func86, Tryz.ntmps86
    go_wp2_with (fail)
    refine (CM.out _).mono ?_
    rintro e w1 ⟨rfl, hb1⟩
    obtain ⟨h1, h2, h3, hB⟩ := three w (.cells #[.bool n1, .string s1, .string t1] 23) (.cells #[.bool n2, .string s2, .string t2] 23) (.cells #[.bool false, .string ⟨#[]⟩, .string ⟨#[]⟩] 23) 0
    rw [show ∀ w : World, w.drewN 0 = w from fun _ => rfl] at h1 h2 h3 hB
    have H := Lib.hid (And.intro (heap_b hb1 h3) (below_s hb1 hB))
    obtain ⟨a1, a2, a3⟩ := (cells3 (heap_b hb1 h1)).1
    clear h1 h2 h3 hB hb1 CM
    go_wp2_with (go_at_call 51; refine (C1.out _).mono ?_; rintro e w2 ⟨rfl, hb2⟩; obtain ⟨⟨c1, c2, c3⟩, c4, c5, c6⟩ := cells3 (heap_b hb2 H.out.1))
    refine bodyPost_ret (v := RV xS xN xD) ?_ rfl ⟨rfl, ?_⟩
    · exact results_q rfl _ _ (w.heap.size + 1 + 1) rfl (by go_simp) (by go_simp) (by go_simp)
    · exact below_set (below_set (below_set (below_s hb2 H.out.2) (Nat.le_add_right _ 2)) (Nat.le_add_right _ 2)) (Nat.le_add_right _ 2)
  · have hc : ¬ _ := fun k => h (hle.1 k)
    have R := Lib.hid h
    clear h hle
    rw [if_neg R.out]
    go_enter Tryz.func86, Tryz.ntmps86
    go_wp2_with (fail)
    refine (CM.out _).mono ?_
    rintro e w1 ⟨rfl, hb1⟩
    obtain ⟨h1, h2, h3, hB⟩ := three w (.cells #[.bool n1, .string s1, .string t1] 23) (.cells #[.bool n2, .string s2, .string t2] 23) (.cells #[.bool false, .string ⟨#[]⟩, .string ⟨#[]⟩] 23) 0
    rw [show ∀ w : World, w.drewN 0 = w from fun _ => rfl] at h1 h2 h3 hB
    have H := Lib.hid (And.intro (heap_b hb1 h3) (below_s hb1 hB))
    obtain ⟨a1, a2, a3⟩ := (cells3 (heap_b hb1 h2)).1
    clear h1 h2 h3 hB hb1 CM
    go_wp2_with (go_at_call 51; refine (C2.out _).mono ?_; rintro e w2 ⟨rfl, hb2⟩; obtain ⟨⟨c1, c2, c3⟩, c4, c5, c6⟩ := cells3 (heap_b hb2 H.out.1))
    refine bodyPost_ret (v := RV yS yN yD) ?_ rfl ⟨rfl, ?_⟩
    · exact results_q rfl _ _ (w.heap.size + 1 + 1) rfl (by go_simp) (by go_simp) (by go_simp)
    · exact below_set (below_set (below_set (below_s hb2 H.out.2) (Nat.le_add_right _ 2)) (Nat.le_add_right _ 2)) (Nat.le_add_right _ 2)
end Go.Proofs.YtnimgfnknlkkdaaGreatDoor.H
set_option linter.unusedVariables false
set_option linter.unusedSimpArgs false
open Go
namespace Go.Proofs.YtnimgfnknlkkdaaGreatDoor.H
open Go Go.RowKit Go.Proofs.YtnimgfnknlkkdaaGreatDoorW.PrintWords Go.Proofs.YtnimgfnknlkkdaaGreatDoorW.PrintLast Go.Proofs.YtnimgfnknlkkdaaGreatDoorW.PrintMore Go.Proofs.YtnimgfnknlkkdaaGreatDoor.Num
theorem results_qb {fn : Func} {p b : Tmp} (h : fn.results = #[.cell p 23, .tmp b]) (tmps : Array Value) (w : World) (g : Nat) {x y z v : Value} (hp : tmps.getD p undef = .pointer (some ⟨g, 0, none⟩)) (hb : tmps.getD b undef = v)
    (h0 : w.cell? ⟨g, 0, none⟩ = some x) (h1 : w.cell? ⟨g, 1, none⟩ = some y) (h2 : w.cell? ⟨g, 2, none⟩ = some z) : (results fn tmps).run Tryz.prog w = .ok (.tuple #[.agg #[x, y, z], v]) w := by
  have hp' : tmps[p]?.getD undef = .pointer (some ⟨g, 0, none⟩) := by simpa using hp
  have hb' : tmps[b]?.getD undef = v := by simpa using hb
  simp only [results, h]
  simp [Sem.run_bind, Result.andThen, asAddr, hp', hb']
  go_simp
set_option maxRecDepth 100000 in
set_option maxHeartbeats 1000000 in
theorem rational_Make (n : Bool) (s t : ByteArray) (w : World) (hs : s.size ≤ 549755813888) (ht : t.size ≤ 549755813888) (h0 : bval t ≠ 0) :
    Calls Tryz.prog 171 #[.bool n, .string s, .string t] w fun e w' => e = .returned (.tuple #[QV (mkQ n (bval s) (bval t)), .bool true]) ∧ Below w.heap.size w w' := by
  have P := Lib.hid (fun w => natural_Normalize t w)
  have R := Lib.hid (fun w => rational_reduced n s t w hs ht h0)
  have g0 : (natB (bval t)).toList.isEmpty = false := by rw [natB_isEmpty]; exact decide_eq_false h0
  generalize mkQ n (bval s) (bval t) = z at *
  generalize natB (bval t) = t2 at *
  simp only [QV] at R ⊢
  generalize canS z = zS at *
  generalize canN z = zN at *
  generalize canD z = zD at *
  clear h0
  go_enter Tryz.func171, Tryz.ntmps171
  go_wp2_with (fail)
  refine (P.out _).mono ?_
  rintro e w1 ⟨rfl, hw⟩
  have H1 := Lib.hid (heap_new w (.cells #[.bool false, .string ⟨#[]⟩, .string ⟨#[]⟩] 23))
  have HB := Aside0.mk (below_alloc (Below.refl w.heap.size w) (.cells #[.bool false, .string ⟨#[]⟩, .string ⟨#[]⟩] 23))
  rw [← hw] at H1 HB
  clear hw
  go_wp2_with (go_at_call 52; refine (R.out _).mono ?_; rintro e w2 ⟨rfl, hb2⟩; obtain ⟨⟨c1, c2, c3⟩, c4, c5, c6⟩ := cells3 (heap_b hb2 H1.out))
  refine bodyPost_ret (v := .tuple #[RV zS zN zD, .bool true]) ?_ rfl ⟨rfl, ?_⟩
  · exact results_qb rfl _ _ w.heap.size rfl (by rfl) (by go_simp) (by go_simp) (by go_simp)
  · exact below_set (below_set (below_set (below_step HB.out hb2) (Nat.le_refl _)) (Nat.le_refl _)) (Nat.le_refl _)
set_option maxRecDepth 100000 in
set_option maxHeartbeats 1000000 in
theorem rational_Divide (n1 : Bool) (s1 t1 : ByteArray) (n2 : Bool) (s2 t2 : ByteArray) (w : World) (hs1 : s1.size ≤ 137438953472) (ht1 : t1.size ≤ 137438953472) (hs2 : s2.size ≤ 137438953472) (ht2 : t2.size ≤ 137438953472)
    (z1 : Sz (rq n1 s1 t1) 137438953472) (z2 : Sz (rq n2 s2 t2) 137438953472) (hne : rq n2 s2 t2 ≠ 0) :
    Calls Tryz.prog 130 #[RV n1 s1 t1, RV n2 s2 t2] w fun e w' => e = .returned (.tuple #[QV (rq n1 s1 t1 / rq n2 s2 t2), .bool true]) ∧ Below w.heap.size w w' := by
  have C1 := Lib.hid (fun w => rational_clean n1 s1 t1 w (by omega) (by omega))
  have C2 := Lib.hid (fun w => rational_clean n2 s2 t2 w (by omega) (by omega))
  clear hs1 ht1 hs2 ht2
  generalize rq n1 s1 t1 = x at *
  generalize rq n2 s2 t2 = y at *
  obtain ⟨z1a, z1b⟩ := z1
  obtain ⟨z2a, z2b⟩ := z2
  unfold canN at z1a z2a
  have DX := Lib.hid (fun w => rational_den (canS x) (canN x) (canD x) w)
  have DY := Lib.hid (fun w => rational_den (canS y) (canN y) (canD y) w)
  simp only [denB, denB_can] at DX DY
  have hne2 : y.num ≠ 0 := fun e => hne (Rat.num_eq_zero.1 e)
  have MN := Lib.hid (fun w => natural_Multiply (canN x) (natB y.den) w (by unfold canN; omega) (by omega))
  have MD := Lib.hid (fun w => natural_Multiply (natB x.den) (canN y) w (by omega) (by unfold canN; omega))
  simp only [canN, bval_natB] at MN MD DX DY
  have zN := natB_size_mul z1a z2b
  have zD := natB_size_mul z1b z2a
  have hnz : x.den * y.num.natAbs ≠ 0 := Nat.mul_ne_zero x.den_nz (by omega)
  have RD := Lib.hid (fun w => rational_Make (canS x != canS y) (natB (x.num.natAbs * y.den)) (natB (x.den * y.num.natAbs)) w (by omega) (by omega) (by rw [bval_natB]; exact hnz))
  simp only [bval_natB] at RD
  rw [← div_over x hne2] at RD
  clear hne hne2 hnz
  generalize x / y = z at *
  simp only [QV, canN] at C1 C2 RD ⊢
  clear z1a z1b z2a z2b zN zD
  generalize natB (x.num.natAbs * y.den) = mN at *
  generalize natB (x.den * y.num.natAbs) = mD at *
  generalize canS z = zS at *
  generalize natB z.num.natAbs = zN at *
  generalize canD z = zD at *
  generalize canS x = xS at *
  generalize natB x.num.natAbs = xN at *
  generalize canD x = xD at *
  generalize natB x.den = xd at *
  generalize canS y = yS at *
  generalize natB y.num.natAbs = yN at *
  generalize canD y = yD at *
  generalize natB y.den = yd at *
  go_enter Tryz.func130, Tryz.ntmps130
  go_wp2_with (fail)
  obtain ⟨wr, hwr⟩ : ∃ wr, wr = (((w.alloc (.cells #[.bool n1, .string s1, .string t1] 23)).alloc (.cells #[.bool n2, .string s2, .string t2] 23)).alloc (.cells #[.bool false, .string ⟨#[]⟩, .string ⟨#[]⟩] 23)) := ⟨_, rfl⟩
  have T3 := three w (.cells #[.bool n1, .string s1, .string t1] 23) (.cells #[.bool n2, .string s2, .string t2] 23) (.cells #[.bool false, .string ⟨#[]⟩, .string ⟨#[]⟩] 23) 0
  rw [show ∀ w : World, w.drewN 0 = w from fun _ => rfl, ← hwr] at T3
  rw [← hwr]
  clear hwr
  obtain ⟨h1, h2, h3, hB⟩ := T3
  go_cut [] (fun wc => Aside0 (Two w w.heap.size xS xN xD yS yN yD wc) ∧ Aside0 (wc.heap[w.heap.size + 1 + 1]? = some (.cells #[.bool false, .string ⟨#[]⟩, .string ⟨#[]⟩] 23)))
  case first =>
    obtain ⟨a1, a2, a3⟩ := (cells3 h1).1
    obtain ⟨b1, b2, b3⟩ := (cells3 h2).1
    have HB := Aside0.mk hB
    have HH := Aside0.mk (And.intro h1 (And.intro h2 h3))
    clear hB h1 h2 h3 DX DY MN MD RD
    go_region_with (first | (go_at_call_of 51 s1; refine (C1.out _).mono ?_; rintro e w1 ⟨rfl, hb1⟩; have u1 := pw_cell_below hb1 b1; have u2 := pw_cell_below hb1 b2; have u3 := pw_cell_below hb1 b3) | (go_at_call_of 51 s2; refine (C2.out _).mono ?_; rintro e w2 ⟨rfl, hb2⟩; obtain ⟨⟨c1, c2, c3⟩, c4, c5, c6⟩ := cells3 (heap_b hb2 (heap_b hb1 HH.out.1)); obtain ⟨⟨d1, d2, d3⟩, d4, d5, d6⟩ := cells3 (heap_b hb2 (heap_b hb1 HH.out.2.1))))
    all_goals
      have hfin := clean_two (heap_b hb2 (heap_b hb1 HH.out.1)) (heap_b hb2 (heap_b hb1 HH.out.2.1)) (below_s hb2 (below_s hb1 (below_drew HB.out))) (Nat.le_refl _) xS xN xD yS yN yD
      go_wp2_with (fail)
      go_meet
      case rel => exact ⟨⟨hfin⟩, ⟨clean_third (heap_b hb2 (heap_b hb1 HH.out.2.2))⟩⟩
  case rest =>
    obtain ⟨⟨hT⟩, ⟨hH⟩⟩ := hcut
    have S0 := Lib.hid (And.intro (cells3 hT.1).1 (And.intro (cells3 hT.2.1).1 (Aside0.mk hT.2.2)))
    have H3 := Lib.hid hH
    clear hT hH C1 C2 h1 h2 h3 hB
    go_wp2_with (fail)
    go_region_held3 (fun w' => (w'.cell? ⟨w.heap.size, 0, none⟩ = some (.bool xS) ∧ w'.cell? ⟨w.heap.size, 1, none⟩ = some (.string xN) ∧ w'.cell? ⟨w.heap.size, 2, none⟩ = some (.string xD)) ∧ (w'.cell? ⟨w.heap.size + 1, 0, none⟩ = some (.bool yS) ∧ w'.cell? ⟨w.heap.size + 1, 1, none⟩ = some (.string yN) ∧ w'.cell? ⟨w.heap.size + 1, 2, none⟩ = some (.string yD)) ∧ Aside0 (Below w.heap.size w w'))
      (first | exact keep6 S0.out (pw_below_drewN (Below.refl _ _) 1) | exact keep6 (by assumption) (by assumption) | exact keepS6 (by omega) (by omega) (Nat.le_add_right _ 2) (by assumption) rfl)
      (first | (go_at_call_of 53 xN; refine (MN.out _).mono ?_; rintro e w1 ⟨rfl, hb1⟩) | (go_at_call_of 54 xN; refine (DX.out _).mono ?_; rintro e w2 ⟨rfl, hb2⟩) | (go_at_call_of 54 yN; refine (DY.out _).mono ?_; rintro e w3 ⟨rfl, hb3⟩) | (go_at_call_of 53 xd; refine (MD.out _).mono ?_; rintro e w4 ⟨rfl, hb4⟩) | (go_at_call 171; refine (RD.out _).mono ?_; rintro e w5 ⟨rfl, hb5⟩; obtain ⟨⟨c1, c2, c3⟩, c4, c5, c6⟩ := cells3 (heap_b hb5 (heap_b hb4 (heap_b hb2 (heap_b hb1 (heap_b hb3 H3.out)))))))
    rename_i hS9
    go_wp2_with (fail)
    refine bodyPost_ret (v := .tuple #[RV zS zN zD, .bool true]) ?_ rfl ⟨rfl, ?_⟩
    · exact results_qb rfl _ _ (w.heap.size + 1 + 1) rfl (by rfl) (by go_simp) (by go_simp) (by go_simp)
    · exact hS9.2.2.out
end Go.Proofs.YtnimgfnknlkkdaaGreatDoor.H
set_option linter.unusedVariables false
set_option linter.unusedSimpArgs false
open Go
namespace Go.Proofs.YtnimgfnknlkkdaaGreatDoor.H
open Go Go.RowKit Go.Proofs.YtnimgfnknlkkdaaGreatDoorW.PrintWords Go.Proofs.YtnimgfnknlkkdaaGreatDoorW.PrintLast Go.Proofs.YtnimgfnknlkkdaaGreatDoorW.PrintMore Go.Proofs.YtnimgfnknlkkdaaGreatDoor.Num
theorem rational_negate (x : Rat) (w : World) : Calls Tryz.prog 63 #[QV x] w fun e w' => e = .returned (QV (-x)) ∧ Below w.heap.size w w' := by
  obtain ⟨n1, n2, n3⟩ := can_neg x
  have h0 : decide (x.num ≠ 0) = !(natB x.num.natAbs).toList.isEmpty := by
    rw [natB_isEmpty, Bool.eq_iff_iff]
    simp
  simp only [QV, n1, n2, n3, h0]
  unfold canN
  clear n1 n2 n3 h0
  generalize natB x.num.natAbs = xN at *
  generalize canD x = xD at *
  generalize canS x = xS at *
  go_enter Tryz.func63, Tryz.ntmps63
  cases xS
  · go_wp2
    refine bodyPost_ret (v := RV (!xN.toList.isEmpty) xN xD) ?_ rfl ⟨ret_v (by simp), ?_⟩
    · exact results_q rfl _ _ (w.heap.size + 1) rfl (by go_simp) (by go_simp) (by go_simp)
    · go_simp
      exact below_alloc (below_alloc (Below.refl _ _) _) _
  · go_wp2
    refine bodyPost_ret (v := RV false xN xD) ?_ rfl ⟨ret_v (by simp), ?_⟩
    · exact results_q rfl _ _ (w.heap.size + 1) rfl (by go_simp) (by go_simp) (by go_simp)
    · go_simp
      exact below_alloc (below_alloc (Below.refl _ _) _) _
set_option maxRecDepth 100000 in
set_option maxHeartbeats 1000000 in
theorem rational_Subtract (n1 : Bool) (s1 t1 : ByteArray) (n2 : Bool) (s2 t2 : ByteArray) (w : World) (hs1 : s1.size ≤ 137438953472) (ht1 : t1.size ≤ 137438953472) (hs2 : s2.size ≤ 137438953472) (ht2 : t2.size ≤ 137438953472)
    (z1 : Sz (rq n1 s1 t1) 137438953472) (z2 : Sz (rq n2 s2 t2) 137438953472) :
    Calls Tryz.prog 34 #[RV n1 s1 t1, RV n2 s2 t2] w fun e w' => e = .returned (QV (rq n1 s1 t1 - rq n2 s2 t2)) ∧ Below w.heap.size w w' := by
  have C1 := Lib.hid (fun w => rational_clean n1 s1 t1 w (by omega) (by omega))
  have C2 := Lib.hid (fun w => rational_clean n2 s2 t2 w (by omega) (by omega))
  have NG := Lib.hid (fun w => rational_negate (rq n2 s2 t2) w)
  have z3 : Sz (-(rq n2 s2 t2)) 137438953472 := ⟨by rw [(can_neg _).2.1]; exact z2.1, by rw [Rat.neg_den]; exact z2.2⟩
  have AD := Lib.hid (fun w => rational_add (rq n1 s1 t1) (-(rq n2 s2 t2)) w z1.1 z1.2 z3.1 z3.2)
  rw [Rat.sub_eq_add_neg]
  clear z1 z2 z3 hs1 ht1 hs2 ht2
  generalize rq n1 s1 t1 = x at *
  generalize rq n2 s2 t2 = y at *
  generalize x + -y = z at *
  generalize -y = y2 at *
  simp only [QV] at AD C1 C2 NG ⊢
  generalize canS z = zS at *
  generalize canN z = zN at *
  generalize canD z = zD at *
  generalize canS x = xS at *
  generalize canN x = xN at *
  generalize canD x = xD at *
  generalize canS y2 = y2S at *
  generalize canN y2 = y2N at *
  generalize canD y2 = y2D at *
  generalize canS y = yS at *
  generalize canN y = yN at *
  generalize canD y = yD at *
  go_enter Tryz.func34, Tryz.ntmps34
  go_wp2_with (fail)
  obtain ⟨wr, hwr⟩ : ∃ wr, wr = (((w.alloc (.cells #[.bool n1, .string s1, .string t1] 23)).alloc (.cells #[.bool n2, .string s2, .string t2] 23)).alloc (.cells #[.bool false, .string ⟨#[]⟩, .string ⟨#[]⟩] 23)) := ⟨_, rfl⟩
  have T3 := three w (.cells #[.bool n1, .string s1, .string t1] 23) (.cells #[.bool n2, .string s2, .string t2] 23) (.cells #[.bool false, .string ⟨#[]⟩, .string ⟨#[]⟩] 23) 0
  rw [show ∀ w : World, w.drewN 0 = w from fun _ => rfl, ← hwr] at T3
  rw [← hwr]
  clear hwr
  obtain ⟨h1, h2, h3, hB⟩ := T3
  have S0 := Lib.hid (And.intro (cells3 h1).1 (And.intro (cells3 h2).1 (Aside0.mk hB)))
  have H3 := Lib.hid h3
  clear h1 h2 h3 hB
  go_region_held3 (fun w' => (w'.cell? ⟨w.heap.size, 0, none⟩ = some (.bool n1) ∧ w'.cell? ⟨w.heap.size, 1, none⟩ = some (.string s1) ∧ w'.cell? ⟨w.heap.size, 2, none⟩ = some (.string t1)) ∧ (w'.cell? ⟨w.heap.size + 1, 0, none⟩ = some (.bool n2) ∧ w'.cell? ⟨w.heap.size + 1, 1, none⟩ = some (.string s2) ∧ w'.cell? ⟨w.heap.size + 1, 2, none⟩ = some (.string t2)) ∧ Aside0 (Below w.heap.size w w'))
    (first | exact keep6 S0.out (pw_below_drewN (Below.refl _ _) 1) | exact keep6 (by assumption) (by assumption) | exact keepS6 (by omega) (by omega) (Nat.le_add_right _ 2) (by assumption) rfl)
    (first | (go_at_call_of 51 s1; refine (C1.out _).mono ?_; rintro e w1 ⟨rfl, hb1⟩) | (go_at_call_of 51 s2; refine (C2.out _).mono ?_; rintro e w2 ⟨rfl, hb2⟩) | (go_at_call 63; refine (NG.out _).mono ?_; rintro e w4 ⟨rfl, hb4⟩) | (go_at_call 56; refine (AD.out _).mono ?_; rintro e w3 ⟨rfl, hb3⟩; obtain ⟨⟨c1, c2, c3⟩, c4, c5, c6⟩ := cells3 (heap_b hb3 (heap_b hb4 (heap_b hb2 (heap_b hb1 H3.out))))))
  rename_i hS9
  go_wp2_with (fail)
  refine bodyPost_ret (v := RV zS zN zD) ?_ rfl ⟨rfl, ?_⟩
  · exact results_q rfl _ _ (w.heap.size + 1 + 1) rfl (by go_simp) (by go_simp) (by go_simp)
  · exact hS9.2.2.out
end Go.Proofs.YtnimgfnknlkkdaaGreatDoor.H
set_option linter.unusedVariables false
set_option linter.unusedSimpArgs false
open Go
namespace Go.Proofs.YtnimgfnknlkkdaaGreatDoor.H
open Go Go.RowKit Go.Proofs.YtnimgfnknlkkdaaGreatDoorW.PrintWords Go.Proofs.YtnimgfnknlkkdaaGreatDoorW.PrintLast Go.Proofs.YtnimgfnknlkkdaaGreatDoorW.PrintMore Go.Proofs.YtnimgfnknlkkdaaGreatDoor.Num
/-! The distribution's data, as they are kept, and the operations over numbers in lowest terms. -/
abbrev OkQ (x : Rat) : Prop := Sz x 137438953472
theorem OkQ.d {x : Rat} (h : OkQ x) : (canD x).size ≤ 137438953472 := by
  unfold canD
  split
  · decide
  · exact h.2
abbrev RQ (x : Rat) : Value := RV (canS x) (canN x) (canD x)
theorem add_q (x y : Rat) (w : World) (hx : OkQ x) (hy : OkQ y) : Calls Tryz.prog 24 #[RQ x, RQ y] w fun e w' => e = .returned (RQ (x + y)) ∧ Below w.heap.size w w' := by
  have h := rational_Add (canS x) (canN x) (canD x) (canS y) (canN y) (canD y) w hx.1 hx.d hy.1 hy.d (by rw [rq_can]; exact hx) (by rw [rq_can]; exact hy)
  rwa [rq_can, rq_can] at h
theorem sub_q (x y : Rat) (w : World) (hx : OkQ x) (hy : OkQ y) : Calls Tryz.prog 34 #[RQ x, RQ y] w fun e w' => e = .returned (RQ (x - y)) ∧ Below w.heap.size w w' := by
  have h := rational_Subtract (canS x) (canN x) (canD x) (canS y) (canN y) (canD y) w hx.1 hx.d hy.1 hy.d (by rw [rq_can]; exact hx) (by rw [rq_can]; exact hy)
  rwa [rq_can, rq_can] at h
theorem mul_q (x y : Rat) (w : World) (hx : OkQ x) (hy : OkQ y) : Calls Tryz.prog 22 #[RQ x, RQ y] w fun e w' => e = .returned (RQ (x * y)) ∧ Below w.heap.size w w' := by
  have h := rational_Multiply (canS x) (canN x) (canD x) (canS y) (canN y) (canD y) w hx.1 hx.d hy.1 hy.d (by rw [rq_can]; exact hx) (by rw [rq_can]; exact hy)
  rwa [rq_can, rq_can] at h
theorem div_q (x y : Rat) (w : World) (hx : OkQ x) (hy : OkQ y) (h0 : y ≠ 0) : Calls Tryz.prog 130 #[RQ x, RQ y] w fun e w' => e = .returned (.tuple #[RQ (x / y), .bool true]) ∧ Below w.heap.size w w' := by
  have h := rational_Divide (canS x) (canN x) (canD x) (canS y) (canN y) (canD y) w hx.1 hx.d hy.1 hy.d (by rw [rq_can]; exact hx) (by rw [rq_can]; exact hy) (by rw [rq_can]; exact h0)
  rwa [rq_can, rq_can] at h
theorem cmp_q (x y : Rat) (w : World) (hx : OkQ x) (hy : OkQ y) : Calls Tryz.prog 26 #[RQ x, RQ y] w fun e w' => e = .returned (.int .i64 (cmpQ x y)) ∧ Below w.heap.size w w' := by
  have h := rational_Compare (canS x) (canN x) (canD x) (canS y) (canN y) (canD y) w hx.1 hx.d hy.1 hy.d (by rw [rq_can]; exact hx) (by rw [rq_can]; exact hy)
  rwa [rq_can, rq_can] at h
theorem max_q (x y : Rat) (w : World) (hx : OkQ x) (hy : OkQ y) : Calls Tryz.prog 86 #[RQ x, RQ y] w fun e w' => e = .returned (RQ (maxQ x y)) ∧ Below w.heap.size w w' := by
  have h := rational_Max (canS x) (canN x) (canD x) (canS y) (canN y) (canD y) w hx.1 hx.d hy.1 hy.d (by rw [rq_can]; exact hx) (by rw [rq_can]; exact hy)
  rwa [rq_can, rq_can] at h
/-- Numbers that came in as fields, short enough. -/
structure ShortR (r : RatF) : Prop where
  n : r.num.size ≤ 137438953472
  d : r.den.size ≤ 137438953472
  q : OkQ r.q
structure TierV where
  parts : List (Int × Rat)
  sum : Rat
structure PoolV where
  members : List Int
  ladder : List TierV
def zWPart : Int × Rat := (0, 0)
def zWTier : TierV := ⟨[], 0⟩
def zPool : PoolV := ⟨[], []⟩
def TierV.add (t : TierV) (c : Int) (x : Rat) : TierV := ⟨t.parts ++ [(c, x)], t.sum + x⟩
def kWPart : Kd (Int × Rat) := Kd.pair (Kd.int .i64) kQ
def kWTier : Kd TierV := Kd.iso (Kd.pair (Kd.slice 169 kWPart) kQ) (fun x => (x.parts, x.sum))
def kPool : Kd PoolV := Kd.iso (Kd.pair (Kd.slice 3 (Kd.int .i64)) (Kd.slice 124 kWTier)) (fun x => (x.members, x.ladder))
def cQ (x : Rat) : List Value := [.bool (canS x), .string (canN x), .string (canD x)]
theorem kQ_open {w : World} {x : Rat} {cs : List Value} (h : kQ.K w x cs) : cs = [.bool (canS x), .string (canN x), .string (canD x)] := kR3_open (x := ⟨canS x, canN x, canD x⟩) h
theorem kQ_mk (w : World) (base : Nat) (ok : Nat → Prop) (x : Rat) : kQ.M w base ok x [.bool (canS x), .string (canN x), .string (canD x)] := kR3_mk w base ok ⟨canS x, canN x, canD x⟩
theorem kWPart_open {w : World} {x : Int × Rat} {cs : List Value} (h : kWPart.K w x cs) : cs = [.int .i64 x.1, .bool (canS x.2), .string (canN x.2), .string (canD x.2)] := by
  obtain ⟨c0, c1, rfl, h0, h1⟩ := h
  have h0' : c0 = [.int .i64 x.1] := h0
  rw [h0', kQ_open h1]; rfl
theorem kWPart_mk (w : World) (base : Nat) (ok : Nat → Prop) (x : Int × Rat) : kWPart.M w base ok x [.int .i64 x.1, .bool (canS x.2), .string (canN x.2), .string (canD x.2)] := ⟨[.int .i64 x.1], _, rfl, rfl, kQ_mk w base ok x.2⟩
theorem kWTier_open {w : World} {x : TierV} {cs : List Value} (h : kWTier.K w x cs) : ∃ v, cs = [v, .bool (canS x.sum), .string (canN x.sum), .string (canD x.sum)] ∧ IsRow kWPart w v x.parts := by
  obtain ⟨c0, c1, rfl, ⟨A, c, rfl, h0, h2⟩, h1⟩ := h
  rw [kQ_open h1]
  exact ⟨_, rfl, A, c, rfl, h0, h2⟩
theorem kPool_open {w : World} {x : PoolV} {cs : List Value} (h : kPool.K w x cs) : ∃ v u, cs = [v, u] ∧ IsRow (Kd.int .i64) w v x.members ∧ IsRow kWTier w u x.ladder := by
  obtain ⟨c0, c1, rfl, ⟨A, c, rfl, h0, h2⟩, ⟨B, d, rfl, h3, h4⟩⟩ := h
  exact ⟨_, _, rfl, ⟨A, c, rfl, h0, h2⟩, B, d, rfl, h3, h4⟩
def rdWP (xs : List (Int × Rat)) (i : Nat) : Int × Rat := xs.getD i zWPart
def rdT (xs : List TierV) (i : Nat) : TierV := xs.getD i zWTier
def rdPool (xs : List PoolV) (i : Nat) : PoolV := xs.getD i zPool
theorem at_Q {w : World} {A : Option Addr} {xs : List Rat} (h : kQ.C w A xs.length xs) {i : Nat} (h1 : i < xs.length) :
    ∃ ad, A = some ad ∧ w.cell? (ad.add (i * 3)) = some (.bool (canS (rdQ xs i))) ∧ w.cell? ⟨(ad.add (i * 3)).block, (ad.add (i * 3)).off + 1, none⟩ = some (.string (canN (rdQ xs i))) ∧ w.cell? ⟨(ad.add (i * 3)).block, (ad.add (i * 3)).off + 2, none⟩ = some (.string (canD (rdQ xs i))) := by
  obtain ⟨ad, cs, e1, _, hK, hc0⟩ := Kd.C_get h (0 : Rat) (i : Int) (by omega) (by omega)
  rw [Int.toNat_natCast, show kQ.sz = 3 from rfl] at hc0
  rw [Int.toNat_natCast] at hK
  obtain rfl := kQ_open hK
  exact ⟨ad, e1, hc0 0 _ rfl, by rw [← add_field _ _ 1 (by omega)]; exact hc0 1 _ rfl, by rw [← add_field _ _ 2 (by omega)]; exact hc0 2 _ rfl⟩
/-- The cells of an element of four. -/
theorem four {α : Type} {d : Kd α} (hd : d.sz = 4) {w : World} {A : Option Addr} {xs : List α} (h : d.C w A xs.length xs) (z : α) {i : Nat} (h1 : i < xs.length) {P : Value → Prop} {b c e : Value} (ho : ∀ cs, d.K w (xs.getD i z) cs → ∃ a, cs = [a, b, c, e] ∧ P a) :
    ∃ ad a, A = some ad ∧ P a ∧ w.cell? (ad.add (i * 4)) = some a ∧ w.cell? ⟨(ad.add (i * 4)).block, (ad.add (i * 4)).off + 1, none⟩ = some b ∧ w.cell? ⟨(ad.add (i * 4)).block, (ad.add (i * 4)).off + 2, none⟩ = some c ∧ w.cell? ⟨(ad.add (i * 4)).block, (ad.add (i * 4)).off + 3, none⟩ = some e := by
  obtain ⟨ad, cs, e1, _, hK, hc0⟩ := Kd.C_get h z (i : Int) (by omega) (by omega)
  rw [Int.toNat_natCast, hd] at hc0
  rw [Int.toNat_natCast] at hK
  obtain ⟨a, rfl, hP⟩ := ho cs hK
  exact ⟨ad, a, e1, hP, hc0 0 _ rfl, by rw [← add_field _ _ 1 (by omega)]; exact hc0 1 _ rfl, by rw [← add_field _ _ 2 (by omega)]; exact hc0 2 _ rfl, by rw [← add_field _ _ 3 (by omega)]; exact hc0 3 _ rfl⟩
theorem at_WPart {w : World} {A : Option Addr} {xs : List (Int × Rat)} (h : kWPart.C w A xs.length xs) {i : Nat} (h1 : i < xs.length) :
    ∃ ad, A = some ad ∧ w.cell? (ad.add (i * 4)) = some (.int .i64 (rdWP xs i).1) ∧ w.cell? ⟨(ad.add (i * 4)).block, (ad.add (i * 4)).off + 1, none⟩ = some (.bool (canS (rdWP xs i).2)) ∧ w.cell? ⟨(ad.add (i * 4)).block, (ad.add (i * 4)).off + 2, none⟩ = some (.string (canN (rdWP xs i).2)) ∧ w.cell? ⟨(ad.add (i * 4)).block, (ad.add (i * 4)).off + 3, none⟩ = some (.string (canD (rdWP xs i).2)) := by
  obtain ⟨ad, a, e, rfl, h2⟩ := four (P := fun a => a = .int .i64 (rdWP xs i).1) rfl h zWPart h1 (fun cs hK => ⟨_, kWPart_open hK, rfl⟩)
  exact ⟨ad, e, h2⟩
theorem at_WTier {w : World} {A : Option Addr} {xs : List TierV} (h : kWTier.C w A xs.length xs) {i : Nat} (h1 : i < xs.length) :
    ∃ ad v, A = some ad ∧ IsRow kWPart w v (rdT xs i).parts ∧ w.cell? (ad.add (i * 4)) = some v ∧ w.cell? ⟨(ad.add (i * 4)).block, (ad.add (i * 4)).off + 1, none⟩ = some (.bool (canS (rdT xs i).sum)) ∧ w.cell? ⟨(ad.add (i * 4)).block, (ad.add (i * 4)).off + 2, none⟩ = some (.string (canN (rdT xs i).sum)) ∧ w.cell? ⟨(ad.add (i * 4)).block, (ad.add (i * 4)).off + 3, none⟩ = some (.string (canD (rdT xs i).sum)) :=
  four rfl h zWTier h1 (fun cs hK => kWTier_open hK)
theorem at_Pool {w : World} {A : Option Addr} {xs : List PoolV} (h : kPool.C w A xs.length xs) {i : Nat} (h1 : i < xs.length) :
    ∃ ad v u, A = some ad ∧ IsRow (Kd.int .i64) w v (rdPool xs i).members ∧ IsRow kWTier w u (rdPool xs i).ladder ∧ w.cell? (ad.add (i * 2)) = some v ∧ w.cell? ⟨(ad.add (i * 2)).block, (ad.add (i * 2)).off + 1, none⟩ = some u := by
  obtain ⟨ad, cs, e1, _, hK, hc0⟩ := Kd.C_get h zPool (i : Int) (by omega) (by omega)
  rw [Int.toNat_natCast, show kPool.sz = 2 from rfl] at hc0
  rw [Int.toNat_natCast] at hK
  obtain ⟨v, u, rfl, h2, h3⟩ := kPool_open hK
  exact ⟨ad, v, u, e1, h2, h3, hc0 0 _ rfl, by rw [← add_field _ _ 1 (by omega)]; exact hc0 1 _ rfl⟩
theorem infoQ : (Tryz.prog.info? 23).map (fun i => (i.zero, i.size, i.bytes)) = some (some (.agg #[.bool false, .string ⟨#[]⟩, .string ⟨#[]⟩]), 3, 40) := by kernel_rfl
theorem infoWPart : (Tryz.prog.info? 169).map (fun i => (i.zero, i.size, i.bytes)) = some (some (.agg #[.int .i64 0, .bool false, .string ⟨#[]⟩, .string ⟨#[]⟩]), 4, 48) := by kernel_rfl
theorem infoWTier : (Tryz.prog.info? 124).map (fun i => (i.zero, i.size, i.bytes)) = some (some (.agg #[.slice none 0 0, .bool false, .string ⟨#[]⟩, .string ⟨#[]⟩]), 4, 64) := by kernel_rfl
theorem infoPool : (Tryz.prog.info? 127).map (fun i => (i.zero, i.size, i.bytes)) = some (some (.agg #[.slice none 0 0, .slice none 0 0]), 2, 48) := by kernel_rfl
/-- An operation that the walk of a drawn region does not try to take first. -/
def hideOp (o : Oper) : Oper := o
end Go.Proofs.YtnimgfnknlkkdaaGreatDoor.H
set_option linter.unusedVariables false
set_option linter.unusedSimpArgs false
open Go
namespace Go.Proofs.YtnimgfnknlkkdaaGreatDoor.H
open Go Go.RowKit Go.Proofs.YtnimgfnknlkkdaaGreatDoorW.PrintWords Go.Proofs.YtnimgfnknlkkdaaGreatDoorW.PrintLast Go.Proofs.YtnimgfnknlkkdaaGreatDoorW.PrintMore Go.Proofs.YtnimgfnknlkkdaaGreatDoor.Num
attribute [local go_sem] hideOp
/-! (*result).add -/
structure ResV where
  claims : List Rat
  reserve : Rat
def ResV.add (r : ResV) (c : Int) (x : Rat) : ResV := if c = -1 then ⟨r.claims, r.reserve + x⟩ else ⟨r.claims.set c.toNat (rdQ r.claims c.toNat + x), r.reserve⟩
/-- The result that lies in block gr, the call's own. -/
def OwnR (w : World) (base gr : Nat) (v : Value) (r : ResV) : Prop :=
  w.heap[gr]? = some (.cells #[v, .bool (canS r.reserve), .string (canN r.reserve), .string (canD r.reserve)] 133) ∧ base ≤ gr ∧ kQ.R 23 w base (fun _ => True) v r.claims
theorem OwnR.below {w w1 : World} {base gr : Nat} {v : Value} {r : ResV} (h : OwnR w base gr v r) (hb : Below w.heap.size w w1) : OwnR w1 base gr v r := by
  obtain ⟨h1, h2, h3⟩ := h
  exact ⟨heap_b hb h1, h2, Kd.R_below h3 hb⟩
theorem OwnR.lt {w : World} {base gr : Nat} {v : Value} {r : ResV} (h : OwnR w base gr v r) : gr < w.heap.size ∧ ∀ k, v.ownBlock = some k → k < w.heap.size := ⟨blk_lt h.1, Kd.R_lt h.2.2⟩
/-- All stands but the result's own blocks; what lay ahead of w0 stands. -/
def Fr (w0 w : World) (gr : Nat) (v : Value) (w' : World) : Prop := Below w0.heap.size w0 w' ∧ KeepBut w w' gr v.ownBlock
theorem Fr.refl {w0 w : World} {gr : Nat} {v : Value} (h : Below w0.heap.size w0 w) : Fr w0 w gr v w := ⟨h, KeepBut.refl _ _ _⟩
theorem Fr.below {w0 w w1 w2 : World} {gr : Nat} {v : Value} (h : Fr w0 w gr v w1) (hb : Below w1.heap.size w1 w2) : Fr w0 w gr v w2 :=
  ⟨below_step h.1 hb, KeepBut.trans h.2 (KeepBut.of_below hb gr v.ownBlock) (.inl rfl)⟩
theorem Fr.set {w0 w w1 : World} {gr : Nat} {v : Value} (h : Fr w0 w gr v w1) {g : Nat} (hg : g = gr ∨ some g = v.ownBlock) (hB : w0.heap.size ≤ g) (j : Nat) (u : Value) : Fr w0 w gr v (w1.setCell ⟨g, j, none⟩ u) := by
  refine ⟨below_set h.1 hB, ?_, fun i hi h1 h2 => ?_⟩
  · exact Nat.le_trans h.2.1 (KeepBut.set_ (KeepBut.refl w1 g none) j u).1
  · rw [heap_far u (by rcases hg with rfl | hg; exact h1; intro e; subst e; exact h2 hg)]
    exact h.2.2 i hi h1 h2
theorem Fr.trans {w0 w w1 w2 : World} {gr : Nat} {v : Value} (h : Fr w0 w gr v w1) (k : Fr w0 w1 gr v w2) : Fr w0 w gr v w2 := ⟨k.1, KeepBut.trans h.2 k.2 (.inl rfl)⟩
theorem kQ_E : ∀ q, q ∈ 23 :: kQ.E → q ≠ 133 := by
  intro q hq
  have h : q ∈ ([23] : List Nat) := hq
  simp at h
  omega
theorem OwnR.put {w : World} {base gr : Nat} {v : Value} {r : ResV} (h : OwnR w base gr v r) (y : Rat) :
    OwnR (((w.setCell ⟨gr, 1, none⟩ (.bool (canS y))).setCell ⟨gr, 2, none⟩ (.string (canN y))).setCell ⟨gr, 3, none⟩ (.string (canD y))) base gr v ⟨r.claims, y⟩ := by
  obtain ⟨h1, h2, h3⟩ := h
  have b1 := blk_set h1 1 (.bool (canS y))
  have b2 := blk_set b1 2 (.string (canN y))
  have b3 := blk_set b2 3 (.string (canD y))
  refine ⟨?_, h2, ?_⟩
  · rw [b3]
    rfl
  · exact Kd.R_set (Kd.R_set (Kd.R_set h3 h1 kQ_E 1 _) b1 kQ_E 2 _) b2 kQ_E 3 _
theorem OwnR.store {w : World} {base gr g n cap : Nat} {r : ResV} (h : w.heap[gr]? = some (.cells #[.slice (some ⟨g, 0, none⟩) n cap, .bool (canS r.reserve), .string (canN r.reserve), .string (canD r.reserve)] 133)) (hb : base ≤ gr) (hR : kQ.R 23 w base (fun _ => True) (.slice (some ⟨g, 0, none⟩) n cap) r.claims) {i : Nat} (hi : i < r.claims.length) (y : Rat) :
    OwnR (w.setCells g (i * 3) [.bool (canS y), .string (canN y), .string (canD y)]) base gr (.slice (some ⟨g, 0, none⟩) n cap) ⟨r.claims.set i y, r.reserve⟩ ∧ base ≤ g ∧ g ≠ gr := by
  have hn := (Kd.R_reads' hR).1
  obtain ⟨c, hcl, -, hcc, -⟩ := Kd.R_elem hR (0 : Rat) (i : Int) (by omega) (by omega)
  have hgr : gr ≠ g := by
    have := Kd.R_ne hR h (by decide)
    simpa [Value.ownBlock] using this
  have h2 := (Kd.R_seg (seg := [.bool (canS y), .string (canN y), .string (canD y)]) (j := 0) (x' := y) (okp := fun _ => False) hR (i : Int) (by omega) (by omega) hcl hcc (by show 0 + 3 ≤ 3; omega) (by
    rw [show c.drop (0 + [Value.bool (canS y), .string (canN y), .string (canD y)].length) = [] from List.drop_eq_nil_of_le (by rw [hcl]; exact Nat.le_refl 3)]
    simpa using kQ_mk w base _ y) (fun _ hk => hk.elim))
  rw [Int.toNat_natCast] at h2
  refine ⟨⟨?_, hb, h2.1⟩, Kd.R_base hR g (by simp [Value.ownBlock]), hgr.symm⟩
  rw [setCells_far _ _ _ hgr]
  exact h
theorem keep3 {w0 w w1 w2 : World} {g gr : Nat} {v v0 v1 v2 : Value} (h : (w1.cell? ⟨g, 0, none⟩ = some v0 ∧ w1.cell? ⟨g, 1, none⟩ = some v1 ∧ w1.cell? ⟨g, 2, none⟩ = some v2) ∧ Aside0 (Fr w0 w gr v w1)) (hb : Below w1.heap.size w1 w2) :
    (w2.cell? ⟨g, 0, none⟩ = some v0 ∧ w2.cell? ⟨g, 1, none⟩ = some v1 ∧ w2.cell? ⟨g, 2, none⟩ = some v2) ∧ Aside0 (Fr w0 w gr v w2) :=
  ⟨⟨pw_cell_below hb h.1.1, pw_cell_below hb h.1.2.1, pw_cell_below hb h.1.2.2⟩, ⟨h.2.out.below hb⟩⟩
theorem keepS3 {w0 w w1 W : World} {g gr g2 o1 o2 o3 : Nat} {v v0 v1 v2 x y z : Value} (hg : g ≠ g2) (hB : w0.heap.size ≤ g2) (hg2 : g2 = gr ∨ some g2 = v.ownBlock) (h : (w1.cell? ⟨g, 0, none⟩ = some v0 ∧ w1.cell? ⟨g, 1, none⟩ = some v1 ∧ w1.cell? ⟨g, 2, none⟩ = some v2) ∧ Aside0 (Fr w0 w gr v w1))
    (hW : W = ((w1.setCell ⟨g2, o1, none⟩ x).setCell ⟨g2, o2, none⟩ y).setCell ⟨g2, o3, none⟩ z) :
    (W.cell? ⟨g, 0, none⟩ = some v0 ∧ W.cell? ⟨g, 1, none⟩ = some v1 ∧ W.cell? ⟨g, 2, none⟩ = some v2) ∧ Aside0 (Fr w0 w gr v W) := by
  subst hW
  obtain ⟨⟨h1, h2, h3⟩, h7⟩ := h
  have hg' : g2 ≠ g := hg.symm
  refine ⟨⟨?_, ?_, ?_⟩, ⟨((h7.out.set hg2 hB _ _).set hg2 hB _ _).set hg2 hB _ _⟩⟩ <;> simp [World.cell?_setCell_other, hg, hg', h1, h2, h3]
theorem cells4 {w : World} {g : Nat} {a b c d : Value} {t : TypeId} (h : w.heap[g]? = some (.cells #[a, b, c, d] t)) :
    (w.cell? ⟨g, 0, none⟩ = some a ∧ w.cell? ⟨g, 1, none⟩ = some b ∧ w.cell? ⟨g, 2, none⟩ = some c ∧ w.cell? ⟨g, 3, none⟩ = some d) ∧ w.frozen? ⟨g, 0, none⟩ = false ∧ w.frozen? ⟨g, 1, none⟩ = false ∧ w.frozen? ⟨g, 2, none⟩ = false ∧ w.frozen? ⟨g, 3, none⟩ = false :=
  ⟨⟨blk_cell h 0, blk_cell h 1, blk_cell h 2, blk_cell h 3⟩, blk_frozen h 0, blk_frozen h 1, blk_frozen h 2, blk_frozen h 3⟩
theorem keep4 {w0 w w1 w2 : World} {a : Addr} {g gr : Nat} {v u v0 v1 v2 : Value} (h : w1.cell? a = some u ∧ (w1.cell? ⟨g, 0, none⟩ = some v0 ∧ w1.cell? ⟨g, 1, none⟩ = some v1 ∧ w1.cell? ⟨g, 2, none⟩ = some v2) ∧ Aside0 (Fr w0 w gr v w1)) (hb : Below w1.heap.size w1 w2) :
    w2.cell? a = some u ∧ (w2.cell? ⟨g, 0, none⟩ = some v0 ∧ w2.cell? ⟨g, 1, none⟩ = some v1 ∧ w2.cell? ⟨g, 2, none⟩ = some v2) ∧ Aside0 (Fr w0 w gr v w2) :=
  ⟨pw_cell_below hb h.1, keep3 h.2 hb⟩
theorem keepS4 {w0 w w1 W : World} {a : Addr} {g gr g2 o1 o2 o3 : Nat} {v u v0 v1 v2 x y z : Value} (ha : a.block ≠ g2) (hg : g ≠ g2) (hB : w0.heap.size ≤ g2) (hg2 : g2 = gr ∨ some g2 = v.ownBlock) (h : w1.cell? a = some u ∧ (w1.cell? ⟨g, 0, none⟩ = some v0 ∧ w1.cell? ⟨g, 1, none⟩ = some v1 ∧ w1.cell? ⟨g, 2, none⟩ = some v2) ∧ Aside0 (Fr w0 w gr v w1))
    (hW : W = ((w1.setCell ⟨g2, o1, none⟩ x).setCell ⟨g2, o2, none⟩ y).setCell ⟨g2, o3, none⟩ z) :
    W.cell? a = some u ∧ (W.cell? ⟨g, 0, none⟩ = some v0 ∧ W.cell? ⟨g, 1, none⟩ = some v1 ∧ W.cell? ⟨g, 2, none⟩ = some v2) ∧ Aside0 (Fr w0 w gr v W) := by
  refine ⟨?_, keepS3 hg hB hg2 h.2 hW⟩
  subst hW
  rw [World.cell?_setCell_far _ _ _ _ (Ne.symm ha), World.cell?_setCell_far _ _ _ _ (Ne.symm ha), World.cell?_setCell_far _ _ _ _ (Ne.symm ha)]
  exact h.1
set_option maxRecDepth 100000 in
set_option maxHeartbeats 1000000 in
theorem w_result_add (r : ResV) (c : Int) (x : Rat) (gr : Nat) (v : Value) (w0 w : World) (hO : OwnR w w0.heap.size gr v r) (hB : Below w0.heap.size w0 w) (hx : OkQ x) (hr : if c = -1 then OkQ r.reserve else OkQ (rdQ r.claims c.toNat)) (hc : c = -1 ∨ 0 ≤ c ∧ c < r.claims.length) :
    Calls Tryz.prog 120 #[.pointer (some ⟨gr, 0, none⟩), .int .i64 c, RQ x] w fun e w' => e = .returned (.tuple #[]) ∧ OwnR w' w0.heap.size gr v (r.add c x) ∧ Fr w0 w gr v w' := by
  have hsz := hB.size
  by_cases h : c = -1
  · subst h
    rw [if_pos rfl] at hr
    have AD := Lib.hid (fun w => add_q r.reserve x w hr hx)
    have PU := Aside0.mk (fun {w : World} (h : OwnR w w0.heap.size gr v r) => h.put (r.reserve + x))
    have HR := Lib.hid (show r.add (-1) x = ⟨r.claims, r.reserve + x⟩ from if_pos rfl)
    have HO := Aside0.mk (hO.below (below_alloc (Below.refl _ _) (.cells #[.bool (canS x), .string (canN x), .string (canD x)] 23)))
    obtain ⟨hH, hg, hV⟩ := HO.out
    obtain ⟨hlt, -⟩ := hO.lt
    clear hO
    have H1 := Lib.hid hH
    have HB1 := Aside0.mk (Fr.below (gr := gr) (v := v) (Fr.refl hB) (below_alloc (Below.refl _ _) (.cells #[.bool (canS x), .string (canN x), .string (canD x)] 23)))
    have HN := Lib.hid (heap_new w (.cells #[.bool (canS x), .string (canN x), .string (canD x)] 23))
    clear hV hr hc hx hB
    simp only [RQ] at AD ⊢
    generalize r.reserve + x = y at *
    generalize r.add (-1) x = r2 at *
    generalize r.claims = rc at *
    generalize r.reserve = z at *
    generalize canS y = yS at *
    generalize canN y = yN at *
    generalize canD y = yD at *
    generalize canS x = xS at *
    generalize canN x = xN at *
    generalize canD x = xD at *
    generalize canS z = zS at *
    generalize canN z = zN at *
    generalize canD z = zD at *
    go_enter Tryz.func120, Tryz.ntmps120
    go_wp2_with (fail)
    obtain ⟨wr, hwr⟩ : ∃ wr, wr = (w.alloc (.cells #[.bool xS, .string xN, .string xD] 23)) := ⟨_, rfl⟩
    rw [← hwr] at hH H1 HO HB1 HN
    rw [← hwr]
    have hws : wr.heap.size = w.heap.size + 1 := by rw [hwr]; exact size_new _ _
    clear hwr
    have S0 := Lib.hid (And.intro (cells3 HN.out).1 HB1)
    obtain ⟨⟨a0, a1, a2, a3⟩, f0, f1, f2, f3⟩ := cells4 hH
    have hne : w.heap.size ≠ gr := by omega
    clear hH
    conv => enter [2, 2, 1, 2, 2, 2, 2, 1]; change hideOp _
    go_region_held3 (fun w' => (w'.cell? ⟨w.heap.size, 0, none⟩ = some (.bool xS) ∧ w'.cell? ⟨w.heap.size, 1, none⟩ = some (.string xN) ∧ w'.cell? ⟨w.heap.size, 2, none⟩ = some (.string xD)) ∧ Aside0 (Fr w0 w gr v w'))
      (first | exact keep3 S0.out (pw_below_drewN (Below.refl _ _) 1) | exact keep3 (by assumption) (by assumption) | exact keepS3 hne hg (.inl rfl) (by assumption) rfl)
      (first | (go_at_call 24; refine (AD.out _).mono ?_; rintro e w2 ⟨rfl, hb2⟩; obtain ⟨⟨c0, c1, c2, c3⟩, d0, d1, d2, d3⟩ := cells4 (heap_b hb2 (show wr.drew.heap[gr]? = _ from H1.out)); have HO2 := Aside0.mk ((HO.out.below (pw_below_drewN (Below.refl _ _) 1)).below hb2)))
    rename_i hS9
    go_wp2_with (fail)
    refine bodyPost_ret (results_none rfl _ _ _) rfl ⟨rfl, ?_, hS9.2.out⟩
    rw [HR.out]
    exact PU.out HO2.out
  · have hc' := hc.resolve_left h
    rw [if_neg h] at hr
    obtain ⟨i, rfl⟩ : ∃ i : Nat, c = (i : Int) := ⟨c.toNat, by omega⟩
    rw [Int.toNat_natCast] at hr
    have hi : i < r.claims.length := by omega
    have AD := Lib.hid (fun w => add_q (rdQ r.claims i) x w hr hx)
    have HR := Lib.hid (show r.add (i : Int) x = ⟨r.claims.set i (rdQ r.claims i + x), r.reserve⟩ by rw [ResV.add, if_neg h, Int.toNat_natCast])
    have hB1 := Fr.below (gr := gr) (v := v) (Fr.refl hB) (below_alloc (Below.refl _ _) (.cells #[.bool (canS x), .string (canN x), .string (canD x)] 23))
    have hO1 := hO.below (below_alloc (Below.refl _ _) (.cells #[.bool (canS x), .string (canN x), .string (canD x)] 23))
    obtain ⟨hH0, hg0, hV0⟩ := hO
    obtain ⟨g, cap, rfl, hg1, hg2, -⟩ := Kd.R_form hV0 (by omega)
    have hlt := blk_lt hH0
    have hV1 := Kd.R_below hV0 (below_alloc (Below.refl _ _) (.cells #[.bool (canS x), .string (canN x), .string (canD x)] 23))
    have hH1 := heap_b (below_alloc (Below.refl _ _) (.cells #[.bool (canS x), .string (canN x), .string (canD x)] 23)) hH0
    have hne2 : g ≠ gr := by
      have := Kd.R_ne hV0 hH0 (by decide)
      simpa [Value.ownBlock] using Ne.symm this
    have HN := Lib.hid (heap_new w (.cells #[.bool (canS x), .string (canN x), .string (canD x)] 23))
    have OS := Aside0.mk (fun {W : World} (h : W.heap[gr]? = some (.cells #[.slice (some ⟨g, 0, none⟩) r.claims.length cap, .bool (canS r.reserve), .string (canN r.reserve), .string (canD r.reserve)] 133)) (hR : kQ.R 23 W w0.heap.size (fun _ => True) (.slice (some ⟨g, 0, none⟩) r.claims.length cap) r.claims) => OwnR.store h hg0 hR hi (rdQ r.claims i + x))
    have CE := Aside0.mk (fun {W : World} (hR : kQ.R 23 W w0.heap.size (fun _ => True) (.slice (some ⟨g, 0, none⟩) r.claims.length cap) r.claims) => Kd.R_elem hR (0 : Rat) (i : Int) (by omega) (by omega))
    have hsz1 : (w.alloc (.cells #[.bool (canS x), .string (canN x), .string (canD x)] 23)).heap.size = w.heap.size + 1 := size_new _ _
    have HI := Lib.hid hi
    have hp0 : (0 : Int) ≤ (i : Int) := by omega
    have hp1 : (i : Int) < (r.claims.length : Int) := by omega
    have hq := (hV1).2
    clear hV0 hH0 hr hc hc' hx hB h hq
    simp only [RQ] at AD ⊢
    have hel : ∀ {W : World}, kQ.R 23 W w0.heap.size (fun _ => True) (.slice (some ⟨g, 0, none⟩) r.claims.length cap) r.claims → (W.cell? ⟨g, i * 3, none⟩ = some (.bool (canS (rdQ r.claims i))) ∧ W.cell? ⟨g, i * 3 + 1, none⟩ = some (.string (canN (rdQ r.claims i))) ∧ W.cell? ⟨g, i * 3 + 2, none⟩ = some (.string (canD (rdQ r.claims i)))) ∧ W.frozen? ⟨g, i * 3, none⟩ = false ∧ W.frozen? ⟨g, i * 3 + 1, none⟩ = false ∧ W.frozen? ⟨g, i * 3 + 2, none⟩ = false := by
      intro W hR
      obtain ⟨c, hcl, hM, hcc, hff⟩ := CE.out hR
      obtain rfl := kQ_open (kQ.K_of_M hM)
      rw [Int.toNat_natCast] at hcc hff
      exact ⟨⟨hcc 0 _ rfl, hcc 1 _ rfl, hcc 2 _ rfl⟩, hff 0, hff 1, hff 2⟩
    have HE := Aside0.mk @hel
    clear hel CE
    generalize rdQ r.claims i + x = y at *
    generalize rdQ r.claims i = z at *
    generalize r.add (i : Int) x = r2 at *
    generalize r.claims = rc at *
    generalize r.reserve = rs at *
    generalize canS y = yS at *
    generalize canN y = yN at *
    generalize canD y = yD at *
    generalize canS x = xS at *
    generalize canN x = xN at *
    generalize canD x = xD at *
    generalize canS z = zS at *
    generalize canN z = zN at *
    generalize canD z = zD at *
    generalize canS rs = sS at *
    generalize canN rs = sN at *
    generalize canD rs = sD at *
    have h : ((i : Int) == -1) = false := by simp
    go_enter Tryz.func120, Tryz.ntmps120
    go_wp2_with (fail)
    obtain ⟨wr, hwr⟩ : ∃ wr, wr = (w.alloc (.cells #[.bool xS, .string xN, .string xD] 23)) := ⟨_, rfl⟩
    rw [← hwr] at hH1 hO1 hV1 HN hB1 hsz1
    rw [← hwr]
    clear hwr
    have a0 := (cells4 hH1).1.1
    have S0 := Lib.hid (And.intro a0 (And.intro (cells3 HN.out).1 (Aside0.mk hB1)))
    have HV1 := Aside0.mk hV1
    have HH1 := Aside0.mk hH1
    obtain ⟨⟨e0, e1, e2⟩, f0, f1, f2⟩ := HE.out hV1
    have hne : w.heap.size ≠ g := by omega
    clear hH1 hV1 hO1 hB1
    conv => enter [2, 2, 1, 2, 2, 2, 2, 2, 2, 2, 2, 2, 2, 2, 1]; change hideOp _
    go_region_held3 (fun w' => w'.cell? ⟨gr, 0, none⟩ = some (.slice (some ⟨g, 0, none⟩) rc.length cap) ∧ (w'.cell? ⟨w.heap.size, 0, none⟩ = some (.bool xS) ∧ w'.cell? ⟨w.heap.size, 1, none⟩ = some (.string xN) ∧ w'.cell? ⟨w.heap.size, 2, none⟩ = some (.string xD)) ∧ Aside0 (Fr w0 w gr (.slice (some ⟨g, 0, none⟩) rc.length cap) w'))
      (first | exact keep4 S0.out (pw_below_drewN (Below.refl _ _) 1) | exact keep4 (by assumption) (by assumption) | exact keepS4 hne2.symm hne hg1 (.inr (by simp [Value.ownBlock])) (by assumption) rfl)
      (first | (go_at_call 24; refine (AD.out _).mono ?_; rintro e w2 ⟨rfl, hb2⟩; have HV2 := Aside0.mk (Kd.R_below (Kd.R_below HV1.out (pw_below_drewN (Below.refl _ _) 1)) hb2); obtain ⟨⟨k0, k1, k2⟩, l0, l1, l2⟩ := HE.out HV2.out; have HH2 := Aside0.mk (heap_b hb2 (show wr.drew.heap[gr]? = _ from HH1.out))))
    rename_i hS9
    refine bodyPost_end (results_none rfl _ _ _) rfl ⟨rfl, ?_, hS9.2.2.out⟩
    rw [HR.out]
    exact (OS.out HH2.out HV2.out).1
end Go.Proofs.YtnimgfnknlkkdaaGreatDoor.H
set_option linter.unusedVariables false
set_option linter.unusedSimpArgs false
open Go
namespace Go.Proofs.YtnimgfnknlkkdaaGreatDoor.H
open Go Go.RowKit Go.Proofs.YtnimgfnknlkkdaaGreatDoorW.PrintWords Go.Proofs.YtnimgfnknlkkdaaGreatDoorW.PrintLast Go.Proofs.YtnimgfnknlkkdaaGreatDoorW.PrintMore Go.Proofs.YtnimgfnknlkkdaaGreatDoor.Num
/-! (*result).share -/
def ResV.adds (r : ResV) (xs : List (Int × Rat)) : ResV := xs.foldl (fun r a => r.add a.1 a.2) r
structure AddOk (r : ResV) (a : Int × Rat) : Prop where
  x : OkQ a.2
  o : if a.1 = -1 then OkQ r.reserve else OkQ (rdQ r.claims a.1.toNat)
  c : a.1 = -1 ∨ 0 ≤ a.1 ∧ a.1 < r.claims.length
def AddsOk (r : ResV) (xs : List (Int × Rat)) : Prop := ∀ i, i < xs.length → AddOk (r.adds (xs.take i)) (rdWP xs i)
theorem adds_succ (r : ResV) (xs : List (Int × Rat)) {i : Nat} (h : i < xs.length) : r.adds (xs.take (i + 1)) = (r.adds (xs.take i)).add (rdWP xs i).1 (rdWP xs i).2 := by
  rw [rdWP, List.take_succ_eq_append_getElem h, ResV.adds, List.foldl_append, List.getD_eq_getElem?_getD, List.getElem?_eq_getElem h]
  rfl
theorem adds_append (r : ResV) (xs ys : List (Int × Rat)) : r.adds (xs ++ ys) = (r.adds xs).adds ys := List.foldl_append
theorem addsOk_left {r : ResV} {xs ys : List (Int × Rat)} (h : AddsOk r (xs ++ ys)) : AddsOk r xs := fun i hi => by
  have := h i (by rw [List.length_append]; omega)
  rw [List.take_append_of_le_length (by omega), rdWP, List.getD_eq_getElem?_getD, List.getElem?_append_left hi, ← List.getD_eq_getElem?_getD] at this
  exact this
theorem addsOk_right {r : ResV} {xs ys : List (Int × Rat)} (h : AddsOk r (xs ++ ys)) : AddsOk (r.adds xs) ys := fun i hi => by
  have := h (xs.length + i) (by rw [List.length_append]; omega)
  rw [rdWP, List.take_length_add_append, adds_append, List.getD_eq_getElem?_getD, List.getElem?_append_right (by omega), Nat.add_sub_cancel_left, ← List.getD_eq_getElem?_getD] at this
  exact this
def sharesOf (ps : List (Int × Rat)) (q : Rat) : List (Int × Rat) := ps.map (fun p => (p.1, p.2 * q))
theorem sharesOf_at (ps : List (Int × Rat)) (q : Rat) {i : Nat} (h : i < ps.length) : rdWP (sharesOf ps q) i = ((rdWP ps i).1, (rdWP ps i).2 * q) := by
  rw [rdWP, rdWP, sharesOf, List.getD_eq_getElem?_getD, List.getD_eq_getElem?_getD, List.getElem?_map, List.getElem?_eq_getElem h]
  rfl
theorem rdWP_mem {ps : List (Int × Rat)} {i : Nat} (h : i < ps.length) : rdWP ps i ∈ ps := by
  rw [rdWP, List.getD_eq_getElem?_getD, List.getElem?_eq_getElem h]
  exact List.getElem_mem h
theorem cell_keepBut {w w1 : World} {g : Nat} {row : Option Nat} {a : Addr} {u : Value} (hk : KeepBut w w1 g row) (hc : w.cell? a = some u) (h1 : a.block ≠ g) (h2 : some a.block ≠ row) : w1.cell? a = some u := by
  have := hk.2 a.block (World.block_lt_of_cell? w a hc) h1 h2
  simpa [World.cell?, this] using hc
/-- What a round of a sharing loop holds: a part, a quota, the frame. -/
abbrev Held7 (w0 w : World) (gr : Nat) (v : Value) (g1 g2 : Nat) (a0 a1 a2 a3 b0 b1 b2 : Value) (w' : World) : Prop :=
  (w'.cell? ⟨g1, 0, none⟩ = some a0 ∧ w'.cell? ⟨g1, 1, none⟩ = some a1 ∧ w'.cell? ⟨g1, 2, none⟩ = some a2 ∧ w'.cell? ⟨g1, 3, none⟩ = some a3) ∧ (w'.cell? ⟨g2, 0, none⟩ = some b0 ∧ w'.cell? ⟨g2, 1, none⟩ = some b1 ∧ w'.cell? ⟨g2, 2, none⟩ = some b2) ∧ Aside0 (Fr w0 w gr v w')
theorem Held7.below {w0 w w1 w2 : World} {gr g1 g2 : Nat} {v a0 a1 a2 a3 b0 b1 b2 : Value} (h : Held7 w0 w gr v g1 g2 a0 a1 a2 a3 b0 b1 b2 w1) (hb : Below w1.heap.size w1 w2) : Held7 w0 w gr v g1 g2 a0 a1 a2 a3 b0 b1 b2 w2 :=
  ⟨⟨pw_cell_below hb h.1.1, pw_cell_below hb h.1.2.1, pw_cell_below hb h.1.2.2.1, pw_cell_below hb h.1.2.2.2⟩, ⟨pw_cell_below hb h.2.1.1, pw_cell_below hb h.2.1.2.1, pw_cell_below hb h.2.1.2.2⟩, ⟨h.2.2.out.below hb⟩⟩
theorem Held7.fr {w0 w w1 w2 : World} {gr g1 g2 : Nat} {v a0 a1 a2 a3 b0 b1 b2 : Value} (h : Held7 w0 w gr v g1 g2 a0 a1 a2 a3 b0 b1 b2 w1) (hf : Fr w0 w1 gr v w2) (h1 : g1 ≠ gr) (h2 : g2 ≠ gr) (h3 : some g1 ≠ v.ownBlock) (h4 : some g2 ≠ v.ownBlock) : Held7 w0 w gr v g1 g2 a0 a1 a2 a3 b0 b1 b2 w2 :=
  ⟨⟨cell_keepBut hf.2 h.1.1 h1 h3, cell_keepBut hf.2 h.1.2.1 h1 h3, cell_keepBut hf.2 h.1.2.2.1 h1 h3, cell_keepBut hf.2 h.1.2.2.2 h1 h3⟩, ⟨cell_keepBut hf.2 h.2.1.1 h2 h4, cell_keepBut hf.2 h.2.1.2.1 h2 h4, cell_keepBut hf.2 h.2.1.2.2 h2 h4⟩, ⟨h.2.2.out.trans hf⟩⟩
theorem own_ne_lt {v : Value} {n k : Nat} (h : ∀ k, v.ownBlock = some k → k < n) (hk : n ≤ k) : some k ≠ v.ownBlock := fun e => by have := h k e.symm; omega
set_option maxRecDepth 100000 in
set_option maxHeartbeats 1000000 in
theorem w_share (r : ResV) (t : TierV) (tv : Value) (x : Rat) (gr : Nat) (v : Value) (w0 w : World) (hO : OwnR w w0.heap.size gr v r) (hB : Below w0.heap.size w0 w) (hT : IsRow kWPart w0 tv t.parts) (hx : OkQ x) (hs : OkQ t.sum) (h0 : t.sum ≠ 0) (hq : OkQ (x / t.sum)) (hp : ∀ p ∈ t.parts, OkQ p.2) (ha : AddsOk r (sharesOf t.parts (x / t.sum))) :
    Calls Tryz.prog 121 #[.pointer (some ⟨gr, 0, none⟩), .agg #[tv, .bool (canS t.sum), .string (canN t.sum), .string (canD t.sum)], RQ x] w fun e w' => e = .returned (.tuple #[]) ∧ OwnR w' w0.heap.size gr v (r.adds (sharesOf t.parts (x / t.sum))) ∧ Fr w0 w gr v w' := by
  have DV := Lib.hid (fun w => div_q x t.sum w hx hs h0)
  have HB := Aside0.mk (Fr.refl (gr := gr) (v := v) hB)
  have HO := Aside0.mk hO
  obtain ⟨hgr, hvv⟩ := hO.lt
  have HV := Aside0.mk hvv
  have HA := Aside0.mk ha
  have HP := Aside0.mk hp
  have HQ := Aside0.mk hq
  obtain ⟨A, c, rfl, hc, hC⟩ := hT
  have HT := Aside0.mk hC
  have hm := hC.2.1
  clear hO hB hx hs h0 hvv ha hp hq hC
  simp only [RQ] at DV ⊢
  generalize x / t.sum = q at *
  generalize t.parts = ps at *
  generalize t.sum = s at *
  generalize canS x = xS at *
  generalize canN x = xN at *
  generalize canD x = xD at *
  generalize canS s = sS at *
  generalize canN s = sN at *
  generalize canD s = sD at *
  have T2 := two_new w (.cells #[.slice A ps.length c, .bool sS, .string sN, .string sD] 124) (.cells #[.bool xS, .string xN, .string xD] 23)
  have N1 := Lib.hid T2.1
  have N2 := Lib.hid T2.2.1
  have NB := Aside0.mk T2.2.2
  have NS := Lib.hid (show ((w.alloc (.cells #[.slice A ps.length c, .bool sS, .string sN, .string sD] 124)).alloc (.cells #[.bool xS, .string xN, .string xD] 23)).heap.size = w.heap.size + 2 by rw [size_new, size_new])
  clear T2
  go_enter Tryz.func121, Tryz.ntmps121
  go_wp2_with (fail)
  obtain ⟨wr, hwr⟩ : ∃ wr, wr = ((w.alloc (.cells #[.slice A ps.length c, .bool sS, .string sN, .string sD] 124)).alloc (.cells #[.bool xS, .string xN, .string xD] 23)) := ⟨_, rfl⟩
  rw [← hwr] at N1 N2 NB NS
  rw [← hwr]
  clear hwr
  refine (DV.out _).mono ?_
  rintro e w1 ⟨rfl, hb1⟩
  have M1 := Lib.hid (heap_b hb1 N1.out)
  have MF := Aside0.mk ((HB.out.below NB.out).below hb1)
  have MO := Aside0.mk ((HO.out.below NB.out).below hb1)
  have MS := Lib.hid (show w.heap.size + 2 ≤ w1.heap.size by have := hb1.size; have := NS.out; omega)
  obtain ⟨⟨a0, a1, a2, a3⟩, -⟩ := cells4 M1.out
  clear hb1 DV N1 N2 NB NS HB HO
  have ML0 := Aside0.mk (fun (z : Rat) (hz : OkQ z) (w : World) => mul_q z q w hz HQ.out)
  simp only [RQ] at ML0
  generalize canS q = qS at *
  generalize canN q = qN at *
  generalize canD q = qD at *
  have O1 := Lib.hid (heap_new w1 (.cells #[.bool qS, .string qN, .string qD] 23))
  have OF := Aside0.mk (MF.out.below (below_alloc (Below.refl _ _) (.cells #[.bool qS, .string qN, .string qD] 23)))
  have OO := Aside0.mk (MO.out.below (below_alloc (Below.refl _ _) (.cells #[.bool qS, .string qN, .string qD] 23)))
  have OT := Lib.hid (heap_old (o := .cells #[.bool qS, .string qN, .string qD] 23) M1.out)
  obtain ⟨⟨b0, b1, b2, b3⟩, -⟩ := cells4 OT.out
  go_wp2
  obtain ⟨qb, hqb⟩ : ∃ qb, qb = w1.heap.size := ⟨_, rfl⟩
  obtain ⟨wl, hwl⟩ : ∃ wl, wl = w1.alloc (.cells #[.bool qS, .string qN, .string qD] 23) := ⟨_, rfl⟩
  rw [← hqb, ← hwl] at O1
  rw [← hwl] at OF OO
  rw [← hqb] at MS
  rw [← hqb, ← hwl]
  clear hqb hwl OT b0 b1 b2 b3 a0 a1 a2 a3 M1 MF MO
  have hq1 : qb ≠ gr := by have := MS.out; omega
  have hq2 := Aside0.mk (own_ne_lt HV.out (Nat.le_trans (Nat.le_add_right _ 2) MS.out))
  go_loopw [20] (fun v20 w' => ∃ i : Nat, i ≤ ps.length ∧ v20 = .int .i64 i ∧ Aside0 (OwnR w' w0.heap.size gr v (r.adds ((sharesOf ps q).take i))) ∧ Aside0 (w'.heap[qb]? = some (.cells #[.bool qS, .string qN, .string qD] 23)) ∧ Aside0 (Fr w0 w gr v w')) (fun v20 _ => ps.length - (intOf v20).toNat)
  case atStart => exact ⟨0, Nat.zero_le _, rfl, by rw [List.take_zero]; exact OO, ⟨O1.out⟩, OF⟩
  case round =>
    clear O1 OO OF
    obtain ⟨i, hi, rfl, hO, hX, hF⟩ := hrel
    rcases Nat.lt_or_ge i ps.length with hlt | hge
    · obtain ⟨ad, rfl, x0, x1, x2, x3⟩ := at_WPart (Kd.C_below HT.out hF.out.1) hlt
      have hp0 : (0 : Int) ≤ (i : Int) := by omega
      have hp1 : (i : Int) < (ps.length : Int) := by omega
      have hls : i < (sharesOf ps q).length := by rw [sharesOf, List.length_map]; exact hlt
      have hAo := HA.out i hls
      have HSU := Lib.hid (adds_succ r (sharesOf ps q) hls)
      rw [sharesOf_at ps q hlt] at hAo HSU
      have hPo := HP.out _ (rdWP_mem hlt)
      have ML := Lib.hid (fun w => ML0.out (rdWP ps i).2 hPo w)
      have RA := Aside0.mk (fun (w' : World) h1 h2 => w_result_add (r.adds ((sharesOf ps q).take i)) (rdWP ps i).1 ((rdWP ps i).2 * q) gr v w0 w' h1 h2 hAo.x hAo.o hAo.c)
      clear hPo hAo hls
      obtain ⟨⟨b0, b1, b2⟩, -⟩ := cells3 hX.out
      simp only [RQ] at RA
      generalize (rdWP ps i).2 * q = y at *
      generalize (rdWP ps i).1 = pc at *
      generalize (rdWP ps i).2 = z at *
      generalize r.adds ((sharesOf ps q).take i) = r1 at *
      generalize canS y = yS at *
      generalize canN y = yN at *
      generalize canD y = yD at *
      generalize canS z = zS at *
      generalize canN z = zN at *
      generalize canD z = zD at *
      go_wp2_with (fail)
      have hb5 := below_alloc (Below.refl wr.heap.size wr) (.cells #[.int .i64 pc, .bool zS, .string zN, .string zD] 169)
      have P1 := (cells4 (heap_new wr (.cells #[.int .i64 pc, .bool zS, .string zN, .string zD] 169))).1
      have P2 := (cells3 (heap_b hb5 hX.out)).1
      have PF := Aside0.mk (hF.out.below hb5)
      have PO := Aside0.mk (hO.out.below hb5)
      have PX := Aside0.mk (heap_b hb5 hX.out)
      have hlt2 := hO.out.lt
      have hp3 : wr.heap.size ≠ gr := by have := hlt2.1; omega
      have hp4 := Aside0.mk (own_ne_lt hlt2.2 (Nat.le_refl _))
      clear hlt2 hO hF hX
      obtain ⟨ws, hws⟩ : ∃ ws, ws = wr.alloc (.cells #[.int .i64 pc, .bool zS, .string zN, .string zD] 169) := ⟨_, rfl⟩
      rw [← hws] at P1 P2 PF PO PX hb5
      rw [← hws]
      clear hws b0 b1 b2 x0 x1 x2 x3 hb5
      have S0 := Lib.hid (And.intro P1 (And.intro P2 PF))
      clear P1 P2
      go_region_held3 (fun w' => (w'.cell? ⟨wr.heap.size, 0, none⟩ = some (.int .i64 pc) ∧ w'.cell? ⟨wr.heap.size, 1, none⟩ = some (.bool zS) ∧ w'.cell? ⟨wr.heap.size, 2, none⟩ = some (.string zN) ∧ w'.cell? ⟨wr.heap.size, 3, none⟩ = some (.string zD)) ∧ (w'.cell? ⟨qb, 0, none⟩ = some (.bool qS) ∧ w'.cell? ⟨qb, 1, none⟩ = some (.string qN) ∧ w'.cell? ⟨qb, 2, none⟩ = some (.string qD)) ∧ Aside0 (Fr w0 w gr v w'))
        (first | exact Held7.below S0.out (pw_below_drewN (Below.refl _ _) 1) | exact Held7.below (by assumption) (by assumption) | exact Held7.fr (by assumption) (by assumption) hp3 hq1 hp4.out hq2.out)
        (first | (go_at_call 22; refine (ML.out _).mono ?_; rintro e w3 ⟨rfl, hb3⟩; have PO3 := Aside0.mk ((PO.out.below (pw_below_drewN (Below.refl _ _) 1)).below hb3); have PX3 := Aside0.mk (heap_b hb3 (show ws.drew.heap[qb]? = _ from PX.out)); have PF3 := Aside0.mk ((PF.out.below (pw_below_drewN (Below.refl _ _) 1)).below hb3).1) | (go_at_call 120; refine (RA.out _ PO3.out PF3.out).mono ?_; rintro e w4 ⟨rfl, ho4, hf4⟩; have PO4 := Aside0.mk ho4; clear ho4))
      rename_i hS9
      go_wp2
      go_roundw
      case measure => simp [intOf]; omega
      case rel => exact ⟨i + 1, hlt, by go_num, by rw [HSU.out]; exact PO4, ⟨(hf4.2.blk PX3.out hq1 hq2.out)⟩, hS9.2.2⟩
    · obtain rfl : i = ps.length := by omega
      rw [show ps.length = (sharesOf ps q).length from (List.length_map ..).symm, List.take_length] at hO
      go_wp2
      go_end0
      exact ⟨rfl, hO.out, hF.out⟩
end Go.Proofs.YtnimgfnknlkkdaaGreatDoor.H
set_option linter.unusedVariables false
set_option linter.unusedSimpArgs false
open Go
namespace Go.Proofs.YtnimgfnknlkkdaaGreatDoor.H
open Go Go.RowKit Go.Proofs.YtnimgfnknlkkdaaGreatDoorW.PrintWords Go.Proofs.YtnimgfnknlkkdaaGreatDoorW.PrintLast Go.Proofs.YtnimgfnknlkkdaaGreatDoorW.PrintMore Go.Proofs.YtnimgfnknlkkdaaGreatDoor.Num
/-! (ladder).split -/
def leftAt (l : List TierV) (m : Rat) (k : Nat) : Rat := (l.take k).foldl (fun m t => m - t.sum) m
def splitK : List TierV → Rat → Nat
  | [], _ => 0
  | t :: l, m => if m < t.sum then 0 else splitK l (m - t.sum) + 1
theorem leftAt_zero (l : List TierV) (m : Rat) : leftAt l m 0 = m := by rw [leftAt, List.take_zero]; rfl
theorem leftAt_succ (l : List TierV) (m : Rat) {i : Nat} (h : i < l.length) : leftAt l m (i + 1) = leftAt l m i - (rdT l i).sum := by
  rw [leftAt, List.take_succ_eq_append_getElem h, List.foldl_append, rdT, List.getD_eq_getElem?_getD, List.getElem?_eq_getElem h]
  rfl
theorem splitK_le : ∀ (l : List TierV) (m : Rat), splitK l m ≤ l.length
  | [], _ => Nat.le_refl _
  | t :: l, m => by
    rw [splitK]
    split
    · exact Nat.zero_le _
    · exact Nat.succ_le_succ (splitK_le l _)
theorem splitK_at : ∀ (l : List TierV) (m : Rat) (i : Nat), i < l.length → (∀ k, k < i → ¬ leftAt l m k < (rdT l k).sum) → leftAt l m i < (rdT l i).sum → splitK l m = i
  | [], _, i, h, _, _ => by simp at h
  | t :: l, m, 0, h, _, h2 => by rw [splitK, if_pos (show m < t.sum from h2)]
  | t :: l, m, i + 1, h, h1, h2 => by
    rw [splitK, if_neg (show ¬ m < t.sum from h1 0 (by omega))]
    congr 1
    exact splitK_at l _ i (by simp at h; omega) (fun k hk => h1 (k + 1) (by omega)) h2
theorem splitK_all : ∀ (l : List TierV) (m : Rat), (∀ k, k < l.length → ¬ leftAt l m k < (rdT l k).sum) → splitK l m = l.length
  | [], _, _ => rfl
  | t :: l, m, h => by
    rw [splitK, if_neg (show ¬ m < t.sum from h 0 (by simp))]
    rw [List.length_cons, splitK_all l _ (fun k hk => h (k + 1) (by simp; omega))]
theorem results_tq {fn : Func} {p b : Tmp} (h : fn.results = #[.tmp b, .cell p 23]) (tmps : Array Value) (w : World) (g : Nat) {x y z v : Value} (hp : tmps.getD p undef = .pointer (some ⟨g, 0, none⟩)) (hb : tmps.getD b undef = v)
    (h0 : w.cell? ⟨g, 0, none⟩ = some x) (h1 : w.cell? ⟨g, 1, none⟩ = some y) (h2 : w.cell? ⟨g, 2, none⟩ = some z) : (results fn tmps).run Tryz.prog w = .ok (.tuple #[v, .agg #[x, y, z]]) w := by
  have hp' : tmps[p]?.getD undef = .pointer (some ⟨g, 0, none⟩) := by simpa using hp
  have hb' : tmps[b]?.getD undef = v := by simpa using hb
  simp only [results, h]
  simp [Sem.run_bind, Result.andThen, asAddr, hp', hb']
  go_simp
theorem keepB3 {w0 w1 w2 : World} {g : Nat} {v0 v1 v2 : Value} (h : (w1.cell? ⟨g, 0, none⟩ = some v0 ∧ w1.cell? ⟨g, 1, none⟩ = some v1 ∧ w1.cell? ⟨g, 2, none⟩ = some v2) ∧ Aside0 (Below w0.heap.size w0 w1)) (hb : Below w1.heap.size w1 w2) :
    (w2.cell? ⟨g, 0, none⟩ = some v0 ∧ w2.cell? ⟨g, 1, none⟩ = some v1 ∧ w2.cell? ⟨g, 2, none⟩ = some v2) ∧ Aside0 (Below w0.heap.size w0 w2) :=
  ⟨⟨pw_cell_below hb h.1.1, pw_cell_below hb h.1.2.1, pw_cell_below hb h.1.2.2⟩, ⟨below_step h.2.out hb⟩⟩
theorem keepSB3 {w0 w1 W : World} {g g2 : Nat} {v0 v1 v2 x y z : Value} (hg : g ≠ g2) (hB : w0.heap.size ≤ g2) (h : (w1.cell? ⟨g, 0, none⟩ = some v0 ∧ w1.cell? ⟨g, 1, none⟩ = some v1 ∧ w1.cell? ⟨g, 2, none⟩ = some v2) ∧ Aside0 (Below w0.heap.size w0 w1))
    (hW : W = ((w1.setCell ⟨g2, 0, none⟩ x).setCell ⟨g2, 1, none⟩ y).setCell ⟨g2, 2, none⟩ z) :
    (W.cell? ⟨g, 0, none⟩ = some v0 ∧ W.cell? ⟨g, 1, none⟩ = some v1 ∧ W.cell? ⟨g, 2, none⟩ = some v2) ∧ Aside0 (Below w0.heap.size w0 W) := by
  subst hW
  obtain ⟨⟨h1, h2, h3⟩, h7⟩ := h
  have hg' : g2 ≠ g := hg.symm
  refine ⟨⟨?_, ?_, ?_⟩, ⟨below_set (below_set (below_set h7.out hB) hB) hB⟩⟩ <;> simp [World.cell?_setCell_other, hg, hg', h1, h2, h3]
theorem rdT_mem {l : List TierV} {i : Nat} (h : i < l.length) : rdT l i ∈ l := by
  rw [rdT, List.getD_eq_getElem?_getD, List.getElem?_eq_getElem h]
  exact List.getElem_mem h
set_option maxRecDepth 100000 in
set_option maxHeartbeats 1000000 in
theorem w_split (l : List TierV) (m : Rat) (A : Option Addr) (c : Nat) (w : World) (hC : kWTier.C w A l.length l) (hc : l.length ≤ c) (hs : ∀ t ∈ l, OkQ t.sum) (hm : ∀ k, k ≤ l.length → OkQ (leftAt l m k)) :
    Calls Tryz.prog 119 #[.slice A l.length c, RQ m] w fun e w' => e = .returned (.tuple #[.int .i64 (splitK l m), RQ (leftAt l m (splitK l m))]) ∧ Below w.heap.size w w' := by
  have HC := Aside0.mk hC
  have hmx := hC.2.1
  have HS := Aside0.mk hs
  have HM := Aside0.mk hm
  have T2 := two_new w (.cells #[.bool (canS m), .string (canN m), .string (canD m)] 23) (.cells #[.bool false, .string ⟨#[]⟩, .string ⟨#[]⟩] 23)
  have N1 := Lib.hid T2.1
  have N2 := Lib.hid T2.2.1
  have NB := Aside0.mk T2.2.2
  have KA := Aside0.mk (splitK_at l m)
  have KE := Aside0.mk (splitK_all l m)
  have L0 := Lib.hid (leftAt_zero l m)
  have LS := Aside0.mk (fun (i : Nat) (h : i < l.length) => leftAt_succ l m h)
  have KL := Lib.hid (splitK_le l m)
  clear T2 hC hs hm
  simp only [RQ]
  generalize splitK l m = K at *
  have HQ := Lib.hid (show ∀ i, K = i → RV (canS (leftAt l m K)) (canN (leftAt l m K)) (canD (leftAt l m K)) = RV (canS (leftAt l m i)) (canN (leftAt l m i)) (canD (leftAt l m i)) from fun i e => by rw [e])
  generalize RV (canS (leftAt l m K)) (canN (leftAt l m K)) (canD (leftAt l m K)) = out at *
  go_enter Tryz.func119, Tryz.ntmps119
  go_wp2_with (fail)
  obtain ⟨wl, hwl⟩ : ∃ wl, wl = ((w.alloc (.cells #[.bool (canS m), .string (canN m), .string (canD m)] 23)).alloc (.cells #[.bool false, .string ⟨#[]⟩, .string ⟨#[]⟩] 23)) := ⟨_, rfl⟩
  rw [← hwl] at N1 N2 NB
  rw [← hwl]
  clear hwl
  go_loopw [10] (fun v10 w' => ∃ i : Nat, i ≤ l.length ∧ v10 = .int .i64 i ∧ Aside0 (∀ k, k < i → ¬ leftAt l m k < (rdT l k).sum) ∧ Aside0 (w'.heap[w.heap.size]? = some (.cells #[.bool (canS (leftAt l m i)), .string (canN (leftAt l m i)), .string (canD (leftAt l m i))] 23)) ∧ Aside0 (w'.heap[w.heap.size + 1]? = some (.cells #[.bool false, .string ⟨#[]⟩, .string ⟨#[]⟩] 23)) ∧ Aside0 (Below w.heap.size w w')) (fun v10 _ => l.length - (intOf v10).toNat)
  case atStart => exact ⟨0, Nat.zero_le _, rfl, ⟨fun k hk => by omega⟩, by rw [L0.out]; exact ⟨N1.out⟩, ⟨N2.out⟩, NB⟩
  case round =>
    clear N1 N2 NB L0
    obtain ⟨i, hi, rfl, hA, hX, hY, hF⟩ := hrel
    rcases Nat.lt_or_ge i l.length with hlt | hge
    · obtain ⟨ad, tv, rfl, hrow, x0, x1, x2, x3⟩ := at_WTier (Kd.C_below HC.out hF.out) hlt
      have hp0 : (0 : Int) ≤ (i : Int) := by omega
      have hp1 : (i : Int) < (l.length : Int) := by omega
      have hok1 := HM.out i hi
      have hok2 := HS.out _ (rdT_mem hlt)
      have CM := Lib.hid (fun w => cmp_q (leftAt l m i) (rdT l i).sum w hok1 hok2)
      have SU := Lib.hid (fun w => sub_q (leftAt l m i) (rdT l i).sum w hok1 hok2)
      have hK := KA.out i hlt hA.out
      obtain ⟨A', c', rfl, hcc', hC'⟩ := hrow
      clear hcc' hC'
      generalize (rdT l i).parts.length = n' at *
      have hS1 := Lib.hid (LS.out i hlt)
      have hb3 := below_alloc (Below.refl wr.heap.size wr) (.cells #[.slice A' n' c', .bool (canS (rdT l i).sum), .string (canN (rdT l i).sum), .string (canD (rdT l i).sum)] 124)
      have P1 := Lib.hid (heap_new wr (.cells #[.slice A' n' c', .bool (canS (rdT l i).sum), .string (canN (rdT l i).sum), .string (canD (rdT l i).sum)] 124))
      have PX := Lib.hid (heap_b hb3 hX.out)
      have PY := Lib.hid (heap_b hb3 hY.out)
      have PF := Aside0.mk (below_s hb3 hF.out)
      have hz := Lib.hid (show w.heap.size + 2 ≤ wr.heap.size by have := blk_lt hY.out; omega)
      clear hok1 hok2 hX hY hF hb3
      by_cases hcmp : leftAt l m i < (rdT l i).sum
      · have g := cmpQ_neg.2 hcmp
        have R := Lib.hid (hK hcmp)
        clear hK hcmp SU hS1 hA KA KE LS HM HS
        have R2 := Lib.hid (HQ.out i R.out)
        clear HQ
        simp only [RQ] at CM
        generalize canS (rdT l i).sum = sS at *
        generalize canN (rdT l i).sum = sN at *
        generalize canD (rdT l i).sum = sD at *
        generalize cmpQ (leftAt l m i) (rdT l i).sum = cv at *
        generalize leftAt l m i = y at *
        generalize canS y = yS at *
        generalize canN y = yN at *
        generalize canD y = yD at *
        obtain ⟨⟨a0, a1, a2, a3⟩, -⟩ := cells4 P1.out
        obtain ⟨⟨b0, b1, b2⟩, -⟩ := cells3 PX.out
        go_wp2_with (go_at_call 26; refine (CM.out _).mono ?_; rintro e w3 ⟨rfl, hb3⟩; have QX := Lib.hid (heap_b hb3 PX.out); have QY := Lib.hid (heap_b hb3 PY.out); have QF := Aside0.mk (below_s hb3 PF.out); clear hb3)
        clear a0 a1 a2 a3 b0 b1 b2
        have S0 := Lib.hid (And.intro (cells3 QX.out).1 QF)
        obtain ⟨⟨d0, d1, d2⟩, d3, d4, d5⟩ := cells3 QY.out
        go_region_held3 (fun w' => (w'.cell? ⟨w.heap.size, 0, none⟩ = some (.bool yS) ∧ w'.cell? ⟨w.heap.size, 1, none⟩ = some (.string yN) ∧ w'.cell? ⟨w.heap.size, 2, none⟩ = some (.string yD)) ∧ Aside0 (Below w.heap.size w w'))
          (first | exact keepB3 S0.out (pw_below_drewN (Below.refl _ _) 1) | exact keepB3 (by assumption) (by assumption) | exact keepSB3 (by omega) (Nat.le_add_right _ 1) (by assumption) rfl)
          (fail)
        rename_i hS9
        go_wp2_with (fail)
        refine bodyPost_ret (v := .tuple #[.int .i64 i, RV yS yN yD]) ?_ rfl ⟨by rw [R.out, R2.out], hS9.2.out⟩
        exact results_tq rfl _ _ (w.heap.size + 1) rfl (by rfl) (by go_simp) (by go_simp) (by go_simp)
      · have g : ¬ cmpQ (leftAt l m i) (rdT l i).sum < 0 := fun h => hcmp (cmpQ_neg.1 h)
        have HA2 := Aside0.mk (show ∀ k, k < i + 1 → ¬ leftAt l m k < (rdT l k).sum from fun k hk => by
          rcases Nat.lt_or_ge k i with h | h
          · exact hA.out k h
          · obtain rfl : k = i := by omega
            exact hcmp)
        clear hK hcmp hA KA KE LS HM HS
        rw [← hS1.out] at SU
        simp only [RQ] at CM SU
        generalize canS (rdT l i).sum = sS at *
        generalize canN (rdT l i).sum = sN at *
        generalize canD (rdT l i).sum = sD at *
        generalize cmpQ (leftAt l m i) (rdT l i).sum = cv at *
        obtain ⟨zS, hzS⟩ : ∃ s, s = canS (leftAt l m (i + 1)) := ⟨_, rfl⟩
        obtain ⟨zN, hzN⟩ : ∃ s, s = canN (leftAt l m (i + 1)) := ⟨_, rfl⟩
        obtain ⟨zD, hzD⟩ : ∃ s, s = canD (leftAt l m (i + 1)) := ⟨_, rfl⟩
        rw [← hzS, ← hzN, ← hzD] at SU
        have HZ := Lib.hid (And.intro hzS (And.intro hzN hzD))
        clear hzS hzN hzD
        generalize leftAt l m i = y at *
        generalize canS y = yS at *
        generalize canN y = yN at *
        generalize canD y = yD at *
        obtain ⟨⟨a0, a1, a2, a3⟩, -⟩ := cells4 P1.out
        obtain ⟨⟨b0, b1, b2⟩, -⟩ := cells3 PX.out
        go_wp2_with (first | (go_at_call 26; refine (CM.out _).mono ?_; rintro e w3 ⟨rfl, hb3⟩; have QT := Lib.hid (heap_b hb3 P1.out); have QX := Lib.hid (heap_b hb3 PX.out); have QY := Lib.hid (heap_b hb3 PY.out); have QF := Aside0.mk (below_s hb3 PF.out); obtain ⟨⟨c0, c1, c2, c3⟩, -⟩ := cells4 QT.out; obtain ⟨⟨d0, d1, d2⟩, -⟩ := cells3 QX.out; clear hb3) | (go_at_call 34; refine (SU.out _).mono ?_; rintro e w4 ⟨rfl, hb4⟩; have RX := Lib.hid (heap_b hb4 QX.out); have RY := Lib.hid (heap_b hb4 QY.out); have RF := Aside0.mk (below_s hb4 QF.out); obtain ⟨⟨e0, e1, e2⟩, e3, e4, e5⟩ := cells3 RX.out; clear hb4))
        go_roundw
        case measure => simp [intOf]; omega
        case rel => exact ⟨i + 1, hlt, by go_num, HA2, by rw [← HZ.out.1, ← HZ.out.2.1, ← HZ.out.2.2]; exact ⟨set3 RX.out _ _ _⟩, ⟨by rw [heap_far _ (by omega), heap_far _ (by omega), heap_far _ (by omega)]; exact RY.out⟩, ⟨below_set (below_set (below_set RF.out (Nat.le_refl _)) (Nat.le_refl _)) (Nat.le_refl _)⟩⟩
    · obtain rfl : i = l.length := by omega
      have R := Lib.hid (KE.out hA.out)
      have R2 := Lib.hid (HQ.out _ R.out)
      clear HQ
      have S0 := Lib.hid (And.intro (cells3 hX.out).1 hF)
      obtain ⟨⟨d0, d1, d2⟩, d3, d4, d5⟩ := cells3 hY.out
      clear hX hY hF hA KA KE LS HM HS
      generalize leftAt l m l.length = y at *
      generalize canS y = yS at *
      generalize canN y = yN at *
      generalize canD y = yD at *
      go_wp2_with (fail)
      go_region_held3 (fun w' => (w'.cell? ⟨w.heap.size, 0, none⟩ = some (.bool yS) ∧ w'.cell? ⟨w.heap.size, 1, none⟩ = some (.string yN) ∧ w'.cell? ⟨w.heap.size, 2, none⟩ = some (.string yD)) ∧ Aside0 (Below w.heap.size w w'))
        (first | exact keepB3 S0.out (pw_below_drewN (Below.refl _ _) 1) | exact keepB3 (by assumption) (by assumption) | exact keepSB3 (by omega) (Nat.le_add_right _ 1) (by assumption) rfl)
        (fail)
      rename_i hS9
      go_wp2_with (fail)
      refine bodyPost_ret (v := .tuple #[.int .i64 l.length, RV yS yN yD]) ?_ rfl ⟨by rw [R.out, R2.out], hS9.2.out⟩
      exact results_tq rfl _ _ (w.heap.size + 1) rfl (by rfl) (by go_simp) (by go_simp) (by go_simp)
end Go.Proofs.YtnimgfnknlkkdaaGreatDoor.H
set_option linter.unusedVariables false
set_option linter.unusedSimpArgs false
open Go
namespace Go.Proofs.YtnimgfnknlkkdaaGreatDoor.H
open Go Go.RowKit Go.Proofs.YtnimgfnknlkkdaaGreatDoorW.PrintWords Go.Proofs.YtnimgfnknlkkdaaGreatDoorW.PrintLast Go.Proofs.YtnimgfnknlkkdaaGreatDoorW.PrintMore Go.Proofs.YtnimgfnknlkkdaaGreatDoor.Num
attribute [local go_sem] hideOp
/-! (*tier).add -/
theorem same_set {w u : World} {k : Nat} (h : w.heap[k]? = u.heap[k]?) (a : Addr) (v : Value) : (w.setCell a v).heap[k]? = (u.setCell a v).heap[k]? := by
  simp only [World.setCell, Array.getElem?_modify, h]
theorem setCell_size (w : World) (a : Addr) (v : Value) : (w.setCell a v).heap.size = w.heap.size := by simp [World.setCell]
theorem keepG {W w1 : World} {row : Option Nat} {g : Nat} {v0 v1 v2 : Value} (h : W.cell? ⟨g, 0, none⟩ = some v0 ∧ W.cell? ⟨g, 1, none⟩ = some v1 ∧ W.cell? ⟨g, 2, none⟩ = some v2) (hg : W.grownBy w1 row) (hne : some g ≠ row) :
    w1.cell? ⟨g, 0, none⟩ = some v0 ∧ w1.cell? ⟨g, 1, none⟩ = some v1 ∧ w1.cell? ⟨g, 2, none⟩ = some v2 := by
  have := hg.block g (World.block_lt_of_cell? W _ h.1) hne
  simpa [World.cell?, this] using h
theorem keepS1 {w1 W : World} {g g2 o : Nat} {v0 v1 v2 x : Value} (hg : g2 ≠ g) (h : w1.cell? ⟨g, 0, none⟩ = some v0 ∧ w1.cell? ⟨g, 1, none⟩ = some v1 ∧ w1.cell? ⟨g, 2, none⟩ = some v2) (hW : W = w1.setCell ⟨g2, o, none⟩ x) :
    W.cell? ⟨g, 0, none⟩ = some v0 ∧ W.cell? ⟨g, 1, none⟩ = some v1 ∧ W.cell? ⟨g, 2, none⟩ = some v2 := by
  subst hW
  rw [World.cell?_setCell_far _ _ _ _ hg, World.cell?_setCell_far _ _ _ _ hg, World.cell?_setCell_far _ _ _ _ hg]
  exact h
theorem cell_same {w u : World} {a : Addr} {x : Value} (h : u.heap[a.block]? = w.heap[a.block]?) (hc : w.cell? a = some x) : u.cell? a = some x := by simpa [World.cell?, h] using hc
theorem frozen_same {w u : World} {a : Addr} (h : u.heap[a.block]? = w.heap[a.block]?) (hc : w.frozen? a = false) : u.frozen? a = false := by simpa [World.frozen?, h] using hc
theorem R_setfar {α : Type} {d : Kd α} {e : Nat} {w : World} {base : Nat} {ok : Nat → Prop} {v : Value} {xs : List α} {g : Nat} (hE : d.E = []) (h : d.R e w base ok v xs) (hne : some g ≠ v.ownBlock) (j : Nat) (u : Value) : d.R e (w.setCell ⟨g, j, none⟩ u) base (fun _ => True) v xs :=
  Kd.R_mono (Kd.R_far (Kd.R_tight hE h) (fun k hk => by rintro rfl; exact hne hk) u) (fun _ _ => trivial)
theorem keepC {w1 w2 : World} {p0 p1 p2 : Addr} {v0 v1 v2 : Value} (h : w1.cell? p0 = some v0 ∧ w1.cell? p1 = some v1 ∧ w1.cell? p2 = some v2) (hb : Below w1.heap.size w1 w2) :
    w2.cell? p0 = some v0 ∧ w2.cell? p1 = some v1 ∧ w2.cell? p2 = some v2 := ⟨pw_cell_below hb h.1, pw_cell_below hb h.2.1, pw_cell_below hb h.2.2⟩
set_option maxRecDepth 100000 in
set_option maxHeartbeats 1000000 in
theorem w_add (t : TierV) (cl : Int) (x : Rat) (g o : Nat) (tv : Value) (w0 w : World) (hT : w.cell? ⟨g, o, none⟩ = some tv ∧ w.cell? ⟨g, o + 1, none⟩ = some (.bool (canS t.sum)) ∧ w.cell? ⟨g, o + 2, none⟩ = some (.string (canN t.sum)) ∧ w.cell? ⟨g, o + 3, none⟩ = some (.string (canD t.sum)))
    (hF : ∀ j, w.frozen? ⟨g, j, none⟩ = false) (hR : kWPart.R 169 w w0.heap.size (fun _ => True) tv t.parts) (hg : w0.heap.size ≤ g) (hgv : some g ≠ tv.ownBlock) (hB : Below w0.heap.size w0 w) (hx : OkQ x) (hs : OkQ t.sum) (hl : t.parts.length ≤ 1099511627776) :
    Calls Tryz.prog 81 #[.pointer (some ⟨g, o, none⟩), .int .i64 cl, RQ x] w fun e w' => e = .returned (.tuple #[]) ∧ Below w0.heap.size w0 w' ∧ w.heap.size ≤ w'.heap.size ∧ ∃ A c, kWPart.R 169 w' w0.heap.size (fun _ => True) (.slice A (t.add cl x).parts.length c) (t.add cl x).parts ∧ ((Value.slice A (t.add cl x).parts.length c).ownBlock = tv.ownBlock ∨ ∃ b, (Value.slice A (t.add cl x).parts.length c).ownBlock = some b ∧ w.heap.size ≤ b) ∧
      ∀ k, k < w.heap.size → some k ≠ tv.ownBlock → w'.heap[k]? = (w.setCells g o [.slice A (t.add cl x).parts.length c, .bool (canS (t.add cl x).sum), .string (canN (t.add cl x).sum), .string (canD (t.add cl x).sum)]).heap[k]? := by
  have AD := Lib.hid (fun w => add_q t.sum x w hs hx)
  have hsz := hB.size
  obtain ⟨c0, c1, c2, c3⟩ := hT
  have hglt : g < w.heap.size := World.block_lt_of_cell? w _ c0
  have b1 := below_alloc (Below.refl w.heap.size w) (.cells #[.bool (canS x), .string (canN x), .string (canD x)] 23)
  have N1 := Lib.hid (heap_new w (.cells #[.bool (canS x), .string (canN x), .string (canD x)] 23))
  have NS := Lib.hid (size_new w (.cells #[.bool (canS x), .string (canN x), .string (canD x)] 23))
  have NR := Aside0.mk (Kd.R_below hR b1)
  have NB := Aside0.mk (below_s b1 hB)
  have N1B := Aside0.mk b1
  have c00 := Lib.hid c0
  have d1 := Lib.hid c1
  have d2 := Lib.hid c2
  have d3 := Lib.hid c3
  replace c0 := pw_cell_below b1 c0
  replace c1 := pw_cell_below b1 c1
  replace c2 := pw_cell_below b1 c2
  replace c3 := pw_cell_below b1 c3
  have HOW := Aside0.mk (Kd.R_lt hR)
  clear hx hs b1 hR
  obtain ⟨A0, n0, rfl⟩ := Kd.R_slice NR.out
  simp only [RQ, TierV.add] at AD ⊢
  generalize t.sum + x = y at *
  generalize t.parts = ps at *
  generalize t.sum = s at *
  obtain ⟨xS, hxS⟩ : ∃ xS, xS = canS x := ⟨_, rfl⟩
  obtain ⟨xN, hxN⟩ : ∃ xS, xS = canN x := ⟨_, rfl⟩
  obtain ⟨xD, hxD⟩ : ∃ xS, xS = canD x := ⟨_, rfl⟩
  rw [← hxS, ← hxN, ← hxD] at AD N1 NR NB N1B NS c0 c1 c2 c3 ⊢
  have MK := Aside0.mk (fun (W : World) (base : Nat) => show kWPart.M W base (fun _ => False) (cl, x) [.int .i64 cl, .bool xS, .string xN, .string xD] by rw [hxS, hxN, hxD]; exact kWPart_mk W base _ (cl, x))
  clear hxS hxN hxD
  generalize canS y = yS at *
  generalize canN y = yN at *
  generalize canD y = yD at *
  generalize canS s = sS at *
  generalize canN s = sN at *
  generalize canD s = sD at *
  go_enter Tryz.func81, Tryz.ntmps81
  go_wp2_with (fail)
  obtain ⟨wr, hwr⟩ : ∃ wr, wr = w.alloc (.cells #[.bool xS, .string xN, .string xD] 23) := ⟨_, rfl⟩
  rw [← hwr] at N1 NR NB N1B NS c0 c1 c2 c3
  rw [← hwr]
  clear hwr
  have HG := Aside0.mk (own_ne_lt HOW.out (Nat.le_refl _))
  go_cut [] (fun wc => Aside0 (∃ A c, kWPart.R 169 wc w0.heap.size (fun _ => True) (.slice A (ps.length + 1) c) (ps ++ [(cl, x)]) ∧ ((Value.slice A (ps.length + 1) c).ownBlock = (Value.slice A0 ps.length n0).ownBlock ∨ ∃ b, (Value.slice A (ps.length + 1) c).ownBlock = some b ∧ w.heap.size ≤ b) ∧ Below w0.heap.size w0 wc ∧ w.heap.size + 1 ≤ wc.heap.size ∧ wc.heap[w.heap.size]? = some (.cells #[.bool xS, .string xN, .string xD] 23) ∧ ∀ k, k < w.heap.size → some k ≠ (Value.slice A0 ps.length n0).ownBlock → wc.heap[k]? = (w.setCell ⟨g, o, none⟩ (.slice A (ps.length + 1) c)).heap[k]?))
  case first =>
    have m0 := (cells3 N1.out).1
    have S0 := Lib.hid m0
    have c0d : wr.drew.cell? ⟨g, o, none⟩ = _ := c0
    have c0e : (wr.alloc (.cells #[.int .i64 cl, .bool xS, .string xN, .string xD] 169)).drew.cell? ⟨g, o, none⟩ = _ := pw_cell_below (below_alloc (Below.refl _ _) _) c0
    clear m0 c1 c2 c3
    conv => enter [2, 2, 1, 2, 2, 2, 2, 1]; change hideOp _
    go_region_held3 (fun w' => w'.cell? ⟨w.heap.size, 0, none⟩ = some (.bool xS) ∧ w'.cell? ⟨w.heap.size, 1, none⟩ = some (.string xN) ∧ w'.cell? ⟨w.heap.size, 2, none⟩ = some (.string xD))
      (first | exact keepC S0.out (pw_below_drewN (Below.refl _ _) 1) | exact keepC S0.out (below_alloc (pw_below_drewN (Below.refl _ _) 1) _) | exact keepG (W := wr.drew) S0.out hg3 HG.out | exact keepS1 (by omega) (by assumption) rfl)
      (first | (refine Kd.R_append_step kWPart w0.heap.size (by rfl) _ _ 122 169 _ 48 (by rfl) Tryz.underlying122 infoWPart rfl (by decide) (by decide) (.slice A0 ps.length n0) ps (cl, x) [.int .i64 cl, .bool xS, .string xN, .string xD] (fun _ => True) (fun _ => False) (by rfl) (by rfl) (MK.out _ _) (fun _ hk => hk.elim) (fun _ _ => trivial) (Kd.R_drew NR.out) (below_drew NB.out) (below_drew NB.out).size (by omega) ?_; intro v3 w3 ho3 hb3 hg3 hat3; obtain ⟨A3, n3, rfl⟩ : ∃ A c, v3 = .slice A (ps.length + 1) c := (by obtain ⟨A, c, h⟩ := Kd.R_slice ho3; exact ⟨A, c, by rw [h, List.length_append]; rfl⟩); have HO3 := Aside0.mk ho3; have HB3 := Aside0.mk hb3; have HT3 := Aside0.mk hat3; have hsm := Lib.hid (fun (k : Nat) (h1 : k < w.heap.size) h2 => (hg3.block k (Nat.lt_of_lt_of_le h1 N1B.out.size) h2).trans (N1B.out.block k h1)); have e0 := cell_same (hsm.out g hglt hgv) c00.out; have e1 := frozen_same (a := ⟨g, o, none⟩) (hsm.out g hglt hgv) (hF o); clear ho3 hb3 hat3))
    all_goals
      have hne : some g ≠ (Value.slice A3 (ps.length + 1) n3).ownBlock := by
        rcases HT3.out with h | ⟨b, h, hb⟩
        · rw [h]; exact hgv
        · rw [h]
          intro e
          injection e with e
          have h2 : wr.heap.size ≤ b := hb
          have := NS.out
          omega
      go_wp2_with (fail)
      go_meet
      case rel =>
        refine ⟨A3, n3, R_setfar rfl HO3.out hne _ _, ?_, below_set HB3.out hg, ?_, ?_, fun k h1 h2 => same_set (hsm.out k h1 h2) _ _⟩
        · rcases HT3.out with h | ⟨b, h, hb⟩
          · exact .inl h
          · exact .inr ⟨b, h, by have h2 : wr.heap.size ≤ b := hb; have := NS.out; omega⟩
        · rw [setCell_size]
          have h1 := hg3.size
          have h2 : wr.drew.heap.size = w.heap.size + 1 := NS.out
          omega
        · rw [heap_far _ (by omega), hg3.block _ (by have h2 : wr.drew.heap.size = w.heap.size + 1 := NS.out; omega) HG.out]
          exact N1.out
  case rest =>
    obtain ⟨A, n, hRc, hat, hBc, hszc, hbox, hsame⟩ := hcut.out
    have k0 := hsame g hglt hgv
    have s1 : wc.cell? ⟨g, o + 1, none⟩ = some (.bool sS) := cell_same k0 (by rw [World.cell?_setCell_other _ _ _ _ (by simp)]; exact d1.out)
    have s2 : wc.cell? ⟨g, o + 2, none⟩ = some (.string sN) := cell_same k0 (by rw [World.cell?_setCell_other _ _ _ _ (by simp)]; exact d2.out)
    have s3 : wc.cell? ⟨g, o + 3, none⟩ = some (.string sD) := cell_same k0 (by rw [World.cell?_setCell_other _ _ _ _ (by simp)]; exact d3.out)
    have fz : ∀ j, wc.frozen? ⟨g, j, none⟩ = false := fun j => by
      have h1 : (w.setCell ⟨g, o, none⟩ (.slice A (ps.length + 1) n)).frozen? ⟨g, j, none⟩ = false := by simp [hF]
      exact frozen_same (a := ⟨g, j, none⟩) k0 h1
    have HRc := Aside0.mk hRc
    have HAt := Aside0.mk hat
    have HBc := Aside0.mk hBc
    have HSM := Lib.hid hsame
    have HBX := Lib.hid hbox
    have S0 := Lib.hid (cells3 hbox).1
    have HSZ := Lib.hid hszc
    clear hRc hat hBc hsame hbox k0 N1 NR NB N1B c0 c1 c2 c3 hszc
    go_wp2_with (fail)
    have hgc : g < wc.heap.size := by have := HSZ.out; omega
    have t1 : wc.drew.cell? ⟨g, o + 1, none⟩ = _ := s1
    have t2 : wc.drew.cell? ⟨g, o + 2, none⟩ = _ := s2
    have t3 : wc.drew.cell? ⟨g, o + 3, none⟩ = _ := s3
    conv => enter [2, 2, 1, 2, 2, 2, 2, 1]; change hideOp _
    go_region_held3 (fun w' => w'.cell? ⟨w.heap.size, 0, none⟩ = some (.bool xS) ∧ w'.cell? ⟨w.heap.size, 1, none⟩ = some (.string xN) ∧ w'.cell? ⟨w.heap.size, 2, none⟩ = some (.string xD))
      (first | exact keepC S0.out (pw_below_drewN (Below.refl _ _) 1) | exact keepC (by assumption) (by assumption) | exact keepS1 (by omega) (keepS1 (by omega) (keepS1 (by omega) (by assumption) rfl) rfl) rfl)
      (first | (go_at_call 24; refine (AD.out _).mono ?_; rintro e w4 ⟨rfl, hb4⟩; have r1 := pw_cell_below hb4 t1; have r2 := pw_cell_below hb4 t2; have r3 := pw_cell_below hb4 t3; have fz4 : ∀ j, w4.frozen? ⟨g, j, none⟩ = false := (fun j => frozen_same (a := ⟨g, j, none⟩) (hb4.block g hgc) (fz j)); have HB4 := Aside0.mk hb4))
    go_wp2_with (fail)
    have hne : some g ≠ (Value.slice A (ps.length + 1) n).ownBlock := by
      rcases HAt.out with h | ⟨b, h, hb⟩
      · rw [h]; exact hgv
      · rw [h]
        intro e
        injection e with e
        omega
    refine bodyPost_end (results_none rfl _ _ _) rfl ⟨rfl, below_set (below_set (below_set (below_s HB4.out (below_drew HBc.out)) hg) hg) hg, ?_, A, n, ?_, ?_, fun k h1 h2 => ?_⟩
    · rw [setCell_size, setCell_size, setCell_size]
      have h1 := HB4.out.size
      have h2 : wc.drew.heap.size = wc.heap.size := rfl
      have := HSZ.out
      omega
    · rw [List.length_append]
      exact R_setfar rfl (R_setfar rfl (R_setfar rfl (Kd.R_below (Kd.R_drew HRc.out) HB4.out) hne _ _) hne _ _) hne _ _
    · rw [List.length_append]
      exact HAt.out
    · rw [List.length_append]
      refine same_set (same_set (same_set ?_ _ _) _ _) _ _
      exact (HB4.out.block k (by have h2 : wc.drew.heap.size = wc.heap.size := rfl; have := HSZ.out; omega)).trans (HSM.out k h1 h2)
end Go.Proofs.YtnimgfnknlkkdaaGreatDoor.H
set_option linter.unusedVariables false
set_option linter.unusedSimpArgs false
open Go
namespace Go.Proofs.YtnimgfnknlkkdaaGreatDoor.H
open Go Go.RowKit Go.Proofs.YtnimgfnknlkkdaaGreatDoorW.PrintWords Go.Proofs.YtnimgfnknlkkdaaGreatDoorW.PrintLast Go.Proofs.YtnimgfnknlkkdaaGreatDoorW.PrintMore Go.Proofs.YtnimgfnknlkkdaaGreatDoor.Num
/-! (ladder).pay -/
def flatP (l : List TierV) (j : Nat) : List (Int × Rat) := ((l.take j).map TierV.parts).flatten
def shareAt (l : List TierV) (m : Rat) (k : Nat) : List (Int × Rat) := if k < l.length then sharesOf (rdT l k).parts (leftAt l m k / (rdT l k).sum) else []
def paysOf (l : List TierV) (m : Rat) : List (Int × Rat) := flatP l (splitK l m) ++ shareAt l m (splitK l m)
theorem flatP_zero (l : List TierV) : flatP l 0 = [] := by simp [flatP]
theorem flatP_succ (l : List TierV) {j : Nat} (h : j < l.length) : flatP l (j + 1) = flatP l j ++ (rdT l j).parts := by
  rw [flatP, List.take_succ_eq_append_getElem h, List.map_append, List.flatten_append, flatP, rdT, List.getD_eq_getElem?_getD, List.getElem?_eq_getElem h]
  simp
theorem flatP_pre (l : List TierV) : ∀ {j k : Nat}, j ≤ k → k ≤ l.length → ∃ rest, flatP l k = flatP l j ++ rest
  | j, 0, h, _ => ⟨[], by simp [Nat.le_zero.1 h]⟩
  | j, k + 1, h, hk => by
    rcases Nat.lt_or_ge j (k + 1) with h1 | h1
    · obtain ⟨rest, hr⟩ := flatP_pre l (j := j) (k := k) (by omega) (by omega)
      exact ⟨rest ++ (rdT l k).parts, by rw [flatP_succ l (by omega), hr, List.append_assoc]⟩
    · obtain rfl : j = k + 1 := by omega
      exact ⟨[], by simp⟩
theorem left_nonneg : ∀ (l : List TierV) (m : Rat), 0 ≤ m → 0 ≤ leftAt l m (splitK l m)
  | [], m, h => h
  | t :: l, m, h => by
    rw [splitK]
    split
    · exact h
    · rename_i h2
      show 0 ≤ leftAt l (m - t.sum) (splitK l (m - t.sum))
      refine left_nonneg l _ ?_
      have : t.sum ≤ m := Rat.not_lt.1 h2
      exact (Rat.le_iff_sub_nonneg _ _).1 this
theorem splitK_lt : ∀ (l : List TierV) (m : Rat), splitK l m < l.length → leftAt l m (splitK l m) < (rdT l (splitK l m)).sum
  | [], m, h => by simp at h
  | t :: l, m, h => by
    rw [splitK] at h ⊢
    split
    · rename_i h2
      exact h2
    · rename_i h2
      rw [if_neg h2] at h
      exact splitK_lt l (m - t.sum) (by simp at h; omega)
theorem sum_ne {l : List TierV} {m : Rat} (h : 0 ≤ m) (hk : splitK l m < l.length) : (rdT l (splitK l m)).sum ≠ 0 := fun e => by
  have h1 := splitK_lt l m hk
  have h2 := left_nonneg l m h
  rw [e] at h1
  exact absurd h1 (Rat.not_lt.2 h2)
theorem keepP {w0 w w1 w2 : World} {gr g : Nat} {p0 p1 p2 p3 : Addr} {v a0 a1 a2 a3 b0 b1 b2 : Value} (h : (w1.cell? p0 = some a0 ∧ w1.cell? p1 = some a1 ∧ w1.cell? p2 = some a2 ∧ w1.cell? p3 = some a3) ∧ (w1.cell? ⟨g, 0, none⟩ = some b0 ∧ w1.cell? ⟨g, 1, none⟩ = some b1 ∧ w1.cell? ⟨g, 2, none⟩ = some b2) ∧ Aside0 (Fr w0 w gr v w1)) (hb : Below w1.heap.size w1 w2) :
    (w2.cell? p0 = some a0 ∧ w2.cell? p1 = some a1 ∧ w2.cell? p2 = some a2 ∧ w2.cell? p3 = some a3) ∧ (w2.cell? ⟨g, 0, none⟩ = some b0 ∧ w2.cell? ⟨g, 1, none⟩ = some b1 ∧ w2.cell? ⟨g, 2, none⟩ = some b2) ∧ Aside0 (Fr w0 w gr v w2) :=
  ⟨⟨pw_cell_below hb h.1.1, pw_cell_below hb h.1.2.1, pw_cell_below hb h.1.2.2.1, pw_cell_below hb h.1.2.2.2⟩, ⟨pw_cell_below hb h.2.1.1, pw_cell_below hb h.2.1.2.1, pw_cell_below hb h.2.1.2.2⟩, ⟨h.2.2.out.below hb⟩⟩
theorem keepPF {w0 w w1 w2 : World} {gr g : Nat} {p0 p1 p2 p3 : Addr} {v a0 a1 a2 a3 b0 b1 b2 : Value} (y : w0.cell? p0 = some a0 ∧ w0.cell? p1 = some a1 ∧ w0.cell? p2 = some a2 ∧ w0.cell? p3 = some a3)
    (h : (w1.cell? p0 = some a0 ∧ w1.cell? p1 = some a1 ∧ w1.cell? p2 = some a2 ∧ w1.cell? p3 = some a3) ∧ (w1.cell? ⟨g, 0, none⟩ = some b0 ∧ w1.cell? ⟨g, 1, none⟩ = some b1 ∧ w1.cell? ⟨g, 2, none⟩ = some b2) ∧ Aside0 (Fr w0 w gr v w1)) (hf : Fr w0 w1 gr v w2) (h2 : g ≠ gr) (h4 : some g ≠ v.ownBlock) :
    (w2.cell? p0 = some a0 ∧ w2.cell? p1 = some a1 ∧ w2.cell? p2 = some a2 ∧ w2.cell? p3 = some a3) ∧ (w2.cell? ⟨g, 0, none⟩ = some b0 ∧ w2.cell? ⟨g, 1, none⟩ = some b1 ∧ w2.cell? ⟨g, 2, none⟩ = some b2) ∧ Aside0 (Fr w0 w gr v w2) :=
  ⟨⟨pw_cell_below hf.1 y.1, pw_cell_below hf.1 y.2.1, pw_cell_below hf.1 y.2.2.1, pw_cell_below hf.1 y.2.2.2⟩, ⟨cell_keepBut hf.2 h.2.1.1 h2 h4, cell_keepBut hf.2 h.2.1.2.1 h2 h4, cell_keepBut hf.2 h.2.1.2.2 h2 h4⟩, ⟨h.2.2.out.trans hf⟩⟩
structure PayOk (r : ResV) (l : List TierV) (m : Rat) : Prop where
  nn : 0 ≤ m
  sums : ∀ t ∈ l, OkQ t.sum
  left : ∀ k, k ≤ l.length → OkQ (leftAt l m k)
  caps : ∀ t ∈ l, ∀ p ∈ t.parts, OkQ p.2
  quota : splitK l m < l.length → OkQ (leftAt l m (splitK l m) / (rdT l (splitK l m)).sum)
  adds : AddsOk r (paysOf l m)
set_option maxRecDepth 100000 in
set_option maxHeartbeats 1000000 in
theorem w_pay (r : ResV) (l : List TierV) (m : Rat) (A : Option Addr) (c : Nat) (gr : Nat) (v : Value) (w0 w : World) (hO : OwnR w w0.heap.size gr v r) (hB : Below w0.heap.size w0 w) (hC : kWTier.C w0 A l.length l) (hc : l.length ≤ c) (hk : PayOk r l m) :
    Calls Tryz.prog 84 #[.slice A l.length c, RQ m, .pointer (some ⟨gr, 0, none⟩)] w fun e w' => e = .returned (.tuple #[]) ∧ OwnR w' w0.heap.size gr v (r.adds (paysOf l m)) ∧ Fr w0 w gr v w' := by
  have SP := Lib.hid (fun (w' : World) h => w_split l m A c w' h hc hk.sums hk.left)
  have HC := Aside0.mk hC
  have hmx := hC.2.1
  have HB := Aside0.mk (Fr.refl (gr := gr) (v := v) hB)
  have HO := Aside0.mk hO
  obtain ⟨hgr, hvv⟩ := hO.lt
  have HV := Aside0.mk hvv
  have HP := Aside0.mk hk.caps
  have hK := splitK_le l m
  have HA := Aside0.mk (addsOk_left hk.adds)
  have HA2 := Aside0.mk (addsOk_right hk.adds)
  have HPO := Lib.hid (show r.adds (paysOf l m) = (r.adds (flatP l (splitK l m))).adds (shareAt l m (splitK l m)) from adds_append _ _ _)
  have HSQ := Aside0.mk (fun h => And.intro (hk.quota h) (And.intro (sum_ne hk.nn h) (And.intro (hk.sums _ (rdT_mem h)) (hk.caps _ (rdT_mem h)))))
  have HL := Aside0.mk (hk.left _ hK)
  clear hO hB hvv hC hk
  rw [HPO.out]
  generalize splitK l m = K at *
  clear HPO
  have HSH := Lib.hid (show shareAt l m K = if K < l.length then sharesOf (rdT l K).parts (leftAt l m K / (rdT l K).sum) else [] from rfl)
  generalize shareAt l m K = sh at *
  generalize leftAt l m K = left at *
  simp only [RQ] at SP ⊢
  obtain ⟨mv, hmv⟩ : ∃ mv, mv = RV (canS m) (canN m) (canD m) := ⟨_, rfl⟩
  have N1 := Lib.hid (heap_new w (.cells #[.bool (canS m), .string (canN m), .string (canD m)] 23))
  have NB := Aside0.mk (below_alloc (Below.refl w.heap.size w) (.cells #[.bool (canS m), .string (canN m), .string (canD m)] 23))
  have NS := Lib.hid (size_new w (.cells #[.bool (canS m), .string (canN m), .string (canD m)] 23))
  clear hmv mv
  go_enter Tryz.func84, Tryz.ntmps84
  go_wp2_with (fail)
  obtain ⟨wl, hwl⟩ : ∃ wl, wl = (w.alloc (.cells #[.bool (canS m), .string (canN m), .string (canD m)] 23)) := ⟨_, rfl⟩
  rw [← hwl] at N1 NB NS
  rw [← hwl]
  clear hwl
  refine (SP.out _ (Kd.C_below HC.out (HB.out.below NB.out).1)).mono ?_
  rintro e w1 ⟨rfl, hb1⟩
  have MF := Aside0.mk ((HB.out.below NB.out).below hb1)
  have MO := Aside0.mk ((HO.out.below NB.out).below hb1)
  have MS := Lib.hid (show w.heap.size + 1 ≤ w1.heap.size by have := hb1.size; have := NS.out; omega)
  have SHA := Aside0.mk (fun (h : K < l.length) (w0 w' : World) (v : Value) (tv : Value) r1 h1 h2 h3 h4 => w_share r1 (rdT l K) tv left gr v w0 w' h1 h2 h3 HL.out (HSQ.out h).2.2.1 (HSQ.out h).2.1 (HSQ.out h).1 (HSQ.out h).2.2.2 h4)
  simp only [RQ] at SHA
  clear hb1 SP N1 NB NS HB HO HL HSQ
  generalize canS m = mS at *
  generalize canN m = mN at *
  generalize canD m = mD at *
  generalize canS left = qS at *
  generalize canN left = qN at *
  generalize canD left = qD at *
  have O1 := Lib.hid (heap_new w1 (.cells #[.bool qS, .string qN, .string qD] 23))
  have OF := Aside0.mk (MF.out.below (below_alloc (Below.refl _ _) (.cells #[.bool qS, .string qN, .string qD] 23)))
  have OO := Aside0.mk (MO.out.below (below_alloc (Below.refl _ _) (.cells #[.bool qS, .string qN, .string qD] 23)))
  have hK0 : (0 : Int) ≤ (K : Int) := by omega
  have hK1 : (K : Int) ≤ (c : Int) := by omega
  have hK2 : (K : Int) ≤ (l.length : Int) := by omega
  go_wp2
  obtain ⟨lb, hlb⟩ : ∃ lb, lb = w1.heap.size := ⟨_, rfl⟩
  obtain ⟨wo, hwo⟩ : ∃ wo, wo = w1.alloc (.cells #[.bool qS, .string qN, .string qD] 23) := ⟨_, rfl⟩
  rw [← hlb, ← hwo] at O1
  rw [← hwo] at OF OO
  rw [← hlb] at MS
  rw [← hlb, ← hwo]
  clear hlb hwo MF MO
  have hl1 : lb ≠ gr := by have := MS.out; omega
  have hl2 := Aside0.mk (own_ne_lt HV.out (Nat.le_trans (Nat.le_add_right _ 1) MS.out))
  go_loopw [22] (fun v22 w' => ∃ j : Nat, j ≤ K ∧ v22 = .int .i64 j ∧ Aside0 (OwnR w' w0.heap.size gr v (r.adds (flatP l j))) ∧ Aside0 (w'.heap[lb]? = some (.cells #[.bool qS, .string qN, .string qD] 23)) ∧ Aside0 (Fr w0 w gr v w')) (fun v22 _ => K - (intOf v22).toNat)
  case atStart => exact ⟨0, Nat.zero_le _, rfl, by rw [flatP_zero]; exact OO, ⟨O1.out⟩, OF⟩
  case round =>
    clear O1 OO OF
    obtain ⟨j, hj, rfl, hO, hX, hF⟩ := hrel
    rcases Nat.lt_or_ge j K with hlt | hge
    · obtain ⟨ad, tv, rfl, ⟨A', c', rfl, hcc', hC'⟩, x0, x1, x2, x3⟩ := at_WTier HC.out (show j < l.length by omega)
      replace x0 := pw_cell_below hF.out.1 x0
      replace x1 := pw_cell_below hF.out.1 x1
      replace x2 := pw_cell_below hF.out.1 x2
      replace x3 := pw_cell_below hF.out.1 x3
      have HC' := Aside0.mk hC'
      have hpx := hC'.2.1
      have hp0 : (0 : Int) ≤ (j : Int) := by omega
      have hp1 : (j : Int) < (K : Int) := by omega
      have HPJ := Aside0.mk (HP.out _ (rdT_mem (show j < l.length by omega)))
      have HAJ := Aside0.mk (show AddsOk (r.adds (flatP l j)) (rdT l j).parts by
        obtain ⟨rest, hr⟩ := flatP_pre l (show j + 1 ≤ K by omega) hK
        have h := HA.out
        rw [hr, flatP_succ l (by omega)] at h
        exact addsOk_right (addsOk_left h))
      have HRJ := Lib.hid (show r.adds (flatP l (j + 1)) = (r.adds (flatP l j)).adds (rdT l j).parts by rw [flatP_succ l (by omega), adds_append])
      clear hC' hcc'
      generalize (rdT l j).parts = ps at *
      generalize r.adds (flatP l j) = rj at *
      generalize canS (rdT l j).sum = sS at *
      generalize canN (rdT l j).sum = sN at *
      generalize canD (rdT l j).sum = sD at *
      have hb3 := below_alloc (Below.refl wr.heap.size wr) (.cells #[.slice A' ps.length c', .bool sS, .string sN, .string sD] 124)
      have P1 := Lib.hid (heap_new wr (.cells #[.slice A' ps.length c', .bool sS, .string sN, .string sD] 124))
      have PX := Aside0.mk (heap_b hb3 hX.out)
      have PF := Aside0.mk (hF.out.below hb3)
      have PO := Aside0.mk (hO.out.below hb3)
      obtain ⟨⟨a0, a1, a2, a3⟩, -⟩ := cells4 P1.out
      clear hO hF hX hb3
      go_wp2
      obtain ⟨wp, hwp⟩ : ∃ wp, wp = wr.alloc (.cells #[.slice A' ps.length c', .bool sS, .string sN, .string sD] 124) := ⟨_, rfl⟩
      rw [← hwp] at PX PF PO
      rw [← hwp]
      clear hwp a0 a1 a2 a3 P1 x0 x1 x2 x3
      go_loopw [29] (fun v29 w' => ∃ i : Nat, i ≤ ps.length ∧ v29 = .int .i64 i ∧ Aside0 (OwnR w' w0.heap.size gr v (rj.adds (ps.take i))) ∧ Aside0 (w'.heap[lb]? = some (.cells #[.bool qS, .string qN, .string qD] 23)) ∧ Aside0 (Fr w0 w gr v w')) (fun v29 _ => ps.length - (intOf v29).toNat)
      case atStart => exact ⟨0, Nat.zero_le _, rfl, by rw [List.take_zero]; exact PO, PX, PF⟩
      case round =>
        clear PO PX PF
        obtain ⟨i, hi, rfl, hO, hX, hF⟩ := hrel
        rcases Nat.lt_or_ge i ps.length with hlt2 | hge2
        · obtain ⟨ad2, rfl, x0, x1, x2, x3⟩ := at_WPart (Kd.C_below HC'.out hF.out.1) hlt2
          have hp2 : (0 : Int) ≤ (i : Int) := by omega
          have hp3 : (i : Int) < (ps.length : Int) := by omega
          have hAo := HAJ.out i hlt2
          have HSU := Lib.hid (adds_succ rj ps hlt2)
          have RA := Aside0.mk (fun (w' : World) h1 h2 => w_result_add (rj.adds (ps.take i)) (rdWP ps i).1 (rdWP ps i).2 gr v w0 w' h1 h2 hAo.x hAo.o hAo.c)
          simp only [RQ] at RA
          clear hAo
          generalize (rdWP ps i).1 = pc at *
          generalize (rdWP ps i).2 = z at *
          generalize rj.adds (ps.take i) = r1 at *
          generalize canS z = zS at *
          generalize canN z = zN at *
          generalize canD z = zD at *
          have hb5 := below_alloc (Below.refl wr.heap.size wr) (.cells #[.int .i64 pc, .bool zS, .string zN, .string zD] 169)
          obtain ⟨⟨a0, a1, a2, a3⟩, -⟩ := cells4 (heap_new wr (.cells #[.int .i64 pc, .bool zS, .string zN, .string zD] 169))
          have QX := Aside0.mk (heap_b hb5 hX.out)
          have QF := Aside0.mk (hF.out.below hb5)
          have QO := Aside0.mk (hO.out.below hb5)
          clear hb5 hO hF hX
          go_wp2_with (go_at_call 120; refine (RA.out _ QO.out QF.out.1).mono ?_; rintro e w4 ⟨rfl, ho4, hf4⟩; have PO4 := Aside0.mk ho4; have PF4 := Aside0.mk (QF.out.trans hf4); have PX4 := Aside0.mk (hf4.2.blk QX.out hl1 hl2.out); clear ho4 hf4)
          go_roundw
          case measure => simp [intOf]; omega
          case rel => exact ⟨i + 1, hlt2, by go_num, by rw [HSU.out]; exact PO4, PX4, PF4⟩
        · obtain rfl : i = ps.length := by omega
          rw [List.take_length] at hO
          go_wp2
          go_roundw
          case measure => simp [intOf]; omega
          case rel => exact ⟨j + 1, hlt, by go_num, by rw [HRJ.out]; exact hO, hX, hF⟩
    · obtain rfl : j = K := by omega
      by_cases hlt : j < l.length
      · have R := Lib.hid (show sh = sharesOf (rdT l j).parts (left / (rdT l j).sum) by rw [HSH.out, if_pos hlt])
        rw [R.out] at HA2
        clear HSH
        obtain ⟨ad, tv, rfl, hrow, y0, y1, y2, y3⟩ := at_WTier HC.out hlt
        have SA := Aside0.mk (fun (w' : World) h1 h2 => SHA.out hlt w0 w' v tv (r.adds (flatP l j)) h1 h2 hrow HA2.out)
        obtain ⟨A', c', rfl, hcc', hC'⟩ := hrow
        clear hcc' hC' SHA HA2 HA HP
        have Y := Lib.hid (And.intro y0 (And.intro y1 (And.intro y2 y3)))
        have S0 := Lib.hid (And.intro (And.intro (pw_cell_below hF.out.1 y0) (And.intro (pw_cell_below hF.out.1 y1) (And.intro (pw_cell_below hF.out.1 y2) (pw_cell_below hF.out.1 y3)))) (And.intro (cells3 hX.out).1 hF))
        have hp0 : (0 : Int) ≤ (j : Int) := by omega
        have hp1 : (j : Int) < (l.length : Int) := by omega
        have PO := Aside0.mk hO.out
        have PF := Aside0.mk hF.out
        clear y0 y1 y2 y3 hX hF hO
        generalize (rdT l j).parts.length = n' at *
        generalize canS (rdT l j).sum = sS at *
        generalize canN (rdT l j).sum = sN at *
        generalize canD (rdT l j).sum = sD at *
        go_wp2_with (fail)
        go_region_held3 (fun w' => (w'.cell? (ad.add (j * 4)) = some (.slice A' n' c') ∧ w'.cell? ⟨(ad.add (j * 4)).block, (ad.add (j * 4)).off + 1, none⟩ = some (.bool sS) ∧ w'.cell? ⟨(ad.add (j * 4)).block, (ad.add (j * 4)).off + 2, none⟩ = some (.string sN) ∧ w'.cell? ⟨(ad.add (j * 4)).block, (ad.add (j * 4)).off + 3, none⟩ = some (.string sD)) ∧ (w'.cell? ⟨lb, 0, none⟩ = some (.bool qS) ∧ w'.cell? ⟨lb, 1, none⟩ = some (.string qN) ∧ w'.cell? ⟨lb, 2, none⟩ = some (.string qD)) ∧ Aside0 (Fr w0 w gr v w'))
          (first | exact keepP S0.out (pw_below_drewN (Below.refl _ _) 1) | exact keepPF Y.out (by assumption) (by assumption) hl1 hl2.out)
          (first | (go_at_call 121; refine (SA.out _ (PO.out.below (pw_below_drewN (Below.refl _ _) 1)) (PF.out.below (pw_below_drewN (Below.refl _ _) 1)).1).mono ?_; rintro e w4 ⟨rfl, ho4, hf4⟩; have PO4 := Aside0.mk ho4; clear ho4))
        rename_i hS9
        go_wp2_with (fail)
        refine bodyPost_end (results_none rfl _ _ _) rfl ⟨rfl, by rw [R.out]; exact PO4.out, hS9.2.2.out⟩
      · have R := Lib.hid (show sh = [] by rw [HSH.out, if_neg hlt])
        have g : ¬ (j : Int) < (l.length : Int) := by omega
        clear HSH hlt HA2 SHA
        go_wp2
        go_end0
        exact ⟨rfl, by rw [R.out]; exact hO.out, hF.out⟩
end Go.Proofs.YtnimgfnknlkkdaaGreatDoor.H
