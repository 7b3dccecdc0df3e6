import Derived.Test.YtnimgfnknlkkdaaGreatDoorK2
import Derived.Sort.OwnSortedInts
set_option linter.unusedVariables false
set_option linter.unusedSimpArgs false
open Go
namespace Go.Proofs.YtnimgfnknlkkdaaGreatDoor.H
open Go Go.RowKit Go.Proofs.YtnimgfnknlkkdaaGreatDoorW.PrintWords Go.Proofs.YtnimgfnknlkkdaaGreatDoorW.PrintLast Go.Proofs.YtnimgfnknlkkdaaGreatDoorW.PrintMore Go.Proofs.YtnimgfnknlkkdaaGreatDoor.Num
/-- The value of a number of the program in lowest terms. -/
def QV (x : Rat) : Value := RV (canS x) (canN x) (canD x)
theorem ret_v {a b : Value} (h : a = b) : Ending.returned a = Ending.returned b := by rw [h]
/-- Three cells of a block, and that they can be written. -/
theorem cells3 {w : World} {g : Nat} {a b c : Value} {t : TypeId} (h : w.heap[g]? = some (.cells #[a, b, c] t)) :
    (w.cell? ⟨g, 0, none⟩ = some a ∧ w.cell? ⟨g, 1, none⟩ = some b ∧ w.cell? ⟨g, 2, none⟩ = some c) ∧ (w.frozen? ⟨g, 0, none⟩ = false ∧ w.frozen? ⟨g, 1, none⟩ = false ∧ w.frozen? ⟨g, 2, none⟩ = false) := by
  refine ⟨⟨?_, ?_, ?_⟩, ?_, ?_, ?_⟩ <;> simp [World.cell?, World.frozen?, h]
theorem heap_new (w : World) (o : Obj) : (w.alloc o).heap[w.heap.size]? = some o := by
  show (w.heap.push o)[w.heap.size]? = _
  simp
theorem size_new (w : World) (o : Obj) : (w.alloc o).heap.size = w.heap.size + 1 := by
  show (w.heap.push o).size = _
  simp
theorem heap_old {w : World} {g : Nat} {o o2 : Obj} (h : w.heap[g]? = some o2) : (w.alloc o).heap[g]? = some o2 := by
  show (w.heap.push o)[g]? = _
  rw [Array.getElem?_push_lt (Array.getElem?_eq_some_iff.1 h).1]
  exact (Array.getElem?_eq_getElem _).symm.trans h
theorem heap_below {w w1 : World} {g : Nat} {o : Obj} (h : w.heap[g]? = some o) (hb : Below w.heap.size w w1) : w1.heap[g]? = some o :=
  (hb.block g (Array.getElem?_eq_some_iff.1 h).1).trans h
theorem heap_b {w w1 : World} {g : Nat} {o : Obj} (hb : Below w.heap.size w w1) (h : w.heap[g]? = some o) : w1.heap[g]? = some o := heap_below h hb
theorem below_s {w0 w w1 : World} (hb : Below w.heap.size w w1) (h : Below w0.heap.size w0 w) : Below w0.heap.size w0 w1 := below_step h hb
theorem results_q {fn : Func} {p : Tmp} (h : fn.results = #[.cell p 23]) (tmps : Array Value) (w : World) (g : Nat) {a b c : Value} (hp : tmps.getD p undef = .pointer (some ⟨g, 0, none⟩))
    (h0 : w.cell? ⟨g, 0, none⟩ = some a) (h1 : w.cell? ⟨g, 1, none⟩ = some b) (h2 : w.cell? ⟨g, 2, none⟩ = some c) : (results fn tmps).run Tryz.prog w = .ok (.agg #[a, b, c]) w := by
  have hp' : tmps[p]?.getD undef = .pointer (some ⟨g, 0, none⟩) := by simpa using hp
  simp only [results, h]
  simp [Sem.run_bind, Result.andThen, asAddr, hp']
  go_simp
set_option maxRecDepth 100000 in
set_option maxHeartbeats 1000000 in
theorem rational_clean (n : Bool) (s t : ByteArray) (w : World) (hs : s.size ≤ 549755813888) (ht : t.size ≤ 549755813888) :
    Calls Tryz.prog 51 #[RV n s t] w fun e w' => e = .returned (QV (rq n s t)) ∧ Below w.heap.size w w' := by
  have V := Lib.hid (fun w => rational_Valid n s t w hs ht)
  have C1 := Aside0.mk (@can_rq n s t)
  have C2 := Aside0.mk (@rq_not n s t)
  generalize rq n s t = q at *
  generalize okB n s t = r at *
  go_enter Tryz.func51, Tryz.ntmps51
  cases r
  · obtain rfl := C2.out rfl
    go_wp2_with (fail)
    refine (V.out _).mono ?_
    rintro e w1 ⟨rfl, hb1⟩
    have h1 := cells3 (heap_below (heap_new _ _) hb1)
    rw [size_new] at h1
    obtain ⟨⟨h2, h3, h4⟩, h5, h6, h7⟩ := h1
    have HB := Aside0.mk hb1
    clear hb1
    go_wp2
    refine bodyPost_ret (v := RV false ⟨#[]⟩ ⟨#[]⟩) ?_ rfl ⟨ret_v (by rw [QV, can_zero.1, can_zero.2.1, can_zero.2.2]), ?_⟩
    · refine results_q rfl _ _ (w.heap.size + 1) rfl ?_ ?_ ?_
      all_goals go_simp
    · exact below_set (below_set (below_set (below_step (below_alloc (below_alloc (Below.refl _ _) _) _) HB.out) (Nat.le_add_right _ _)) (Nat.le_add_right _ _)) (Nat.le_add_right _ _)
  · obtain ⟨c1, c2, c3⟩ := C1.out rfl
    have c4 : QV q = RV n s t := by rw [QV, c1, c2, c3]
    go_wp2_with (fail)
    refine (V.out _).mono ?_
    rintro e w1 ⟨rfl, hb1⟩
    have h1 := cells3 (heap_below (heap_new _ _) hb1)
    have k1 := cells3 (heap_below (heap_old (heap_new _ _)) hb1)
    rw [size_new] at h1
    obtain ⟨⟨h2, h3, h4⟩, h5, h6, h7⟩ := h1
    obtain ⟨⟨k2, k3, k4⟩, -⟩ := k1
    have HB := Aside0.mk hb1
    clear hb1
    go_wp2
    refine bodyPost_ret (v := RV n s t) ?_ rfl ⟨ret_v c4.symm, ?_⟩
    · refine results_q rfl _ _ (w.heap.size + 1) rfl ?_ ?_ ?_
      all_goals go_simp
    · exact below_set (below_set (below_set (below_step (below_alloc (below_alloc (Below.refl _ _) _) _) HB.out) (Nat.le_add_right _ _)) (Nat.le_add_right _ _)) (Nat.le_add_right _ _)
theorem sgn_can (x : Rat) : sgnI (canS x) (canN x) = x.num.sign := by
  unfold sgnI canS canN
  simp only [natB_size_zero]
  rcases Int.lt_trichotomy x.num 0 with h | h | h
  · rw [if_neg (by omega), Int.sign_eq_neg_one_of_neg h]; simp [h]
  · rw [h]; rfl
  · have h2 : ¬ x.num < 0 := by omega
    rw [if_neg (by omega), Int.sign_eq_one_of_pos h]; simp [h2]
theorem rational_Sign (n : Bool) (s t : ByteArray) (w : World) (hs : s.size ≤ 549755813888) (ht : t.size ≤ 549755813888) :
    Calls Tryz.prog 21 #[RV n s t] w fun e w' => e = .returned (.int .i64 (rq n s t).num.sign) ∧ Below w.heap.size w w' := by
  have V := Lib.hid (fun w => rational_clean n s t w hs ht)
  generalize rq n s t = q at *
  have S := Lib.hid (fun w => rational_signOf (canS q) (canN q) (canD q) w)
  rw [sgn_can] at S
  rw [QV] at V
  go_enter Tryz.func21, Tryz.ntmps21
  go_wp2_with (fail)
  refine (V.out _).mono ?_
  rintro e w1 ⟨rfl, hb1⟩
  have HB := Aside0.mk hb1
  clear hb1
  go_wp2_with (fail)
  refine (S.out _).mono ?_
  rintro e w2 ⟨rfl, hb2⟩
  go_wp2
  go_ret
  exact ⟨rfl, below_step (below_step (below_alloc (Below.refl _ _) _) HB.out) hb2⟩
end Go.Proofs.YtnimgfnknlkkdaaGreatDoor.H
set_option linter.unusedVariables false
set_option linter.unusedSimpArgs false
open Go
namespace Go.Proofs.YtnimgfnknlkkdaaGreatDoor.H
open Go Go.RowKit Go.Proofs.YtnimgfnknlkkdaaGreatDoorW.PrintWords Go.Proofs.YtnimgfnknlkkdaaGreatDoorW.PrintLast Go.Proofs.YtnimgfnknlkkdaaGreatDoorW.PrintMore Go.Proofs.YtnimgfnknlkkdaaGreatDoor.Num
/-! The kinds of the waterfall's data, as they are read. -/
/-- A number's fields, valid or not. -/
structure RatF where
  neg : Bool
  num : ByteArray
  den : ByteArray
def RatF.v (r : RatF) : Value := RV r.neg r.num r.den
def RatF.q (r : RatF) : Rat := rq r.neg r.num r.den
def zR : RatF := ⟨false, ⟨#[]⟩, ⟨#[]⟩⟩
structure ClaimV where
  holder : Int
  rank : Int
  amount : RatF
structure PartV where
  claim : Int
  capped : Bool
  cap : RatF
def zClaim : ClaimV := ⟨0, 0, zR⟩
def zPart : PartV := ⟨0, false, zR⟩
def kR3 : Kd RatF := Kd.iso (Kd.pair Kd.bool (Kd.pair Kd.string Kd.string)) (fun x => (x.neg, x.num, x.den))
def kClaim : Kd ClaimV := Kd.iso (Kd.pair (Kd.int .i64) (Kd.pair (Kd.int .i64) kR3)) (fun x => (x.holder, x.rank, x.amount))
def kPart : Kd PartV := Kd.iso (Kd.pair (Kd.int .i64) (Kd.pair Kd.bool kR3)) (fun x => (x.claim, x.capped, x.cap))
def kTier : Kd (List PartV) := Kd.slice 38 kPart
def kAgr : Kd (List (List PartV)) := Kd.slice 36 kTier
def kQ : Kd Rat := Kd.iso kR3 (fun x => (⟨canS x, canN x, canD x⟩ : RatF))
theorem kR3_open {w : World} {x : RatF} {cs : List Value} (h : kR3.K w x cs) : cs = [.bool x.neg, .string x.num, .string x.den] := by
  obtain ⟨c0, c1, rfl, h0, c2, c3, rfl, h2, h3⟩ := h
  have h0' : c0 = [.bool x.neg] := h0
  have h2' : c2 = [.string x.num] := h2
  have h3' : c3 = [.string x.den] := h3
  rw [h0', h2', h3']; rfl
theorem kClaim_open {w : World} {x : ClaimV} {cs : List Value} (h : kClaim.K w x cs) : cs = [.int .i64 x.holder, .int .i64 x.rank, .bool x.amount.neg, .string x.amount.num, .string x.amount.den] := by
  obtain ⟨c0, c1, rfl, h0, c2, c3, rfl, h2, h3⟩ := h
  have h0' : c0 = [.int .i64 x.holder] := h0
  have h2' : c2 = [.int .i64 x.rank] := h2
  rw [h0', h2', kR3_open h3]; rfl
theorem kPart_open {w : World} {x : PartV} {cs : List Value} (h : kPart.K w x cs) : cs = [.int .i64 x.claim, .bool x.capped, .bool x.cap.neg, .string x.cap.num, .string x.cap.den] := by
  obtain ⟨c0, c1, rfl, h0, c2, c3, rfl, h2, h3⟩ := h
  have h0' : c0 = [.int .i64 x.claim] := h0
  have h2' : c2 = [.bool x.capped] := h2
  rw [h0', h2', kR3_open h3]; rfl
theorem kR3_mk (w : World) (base : Nat) (ok : Nat → Prop) (x : RatF) : kR3.M w base ok x [.bool x.neg, .string x.num, .string x.den] := ⟨[.bool x.neg], _, rfl, rfl, [.string x.num], [.string x.den], rfl, rfl, rfl⟩
theorem kPart_mk (w : World) (base : Nat) (ok : Nat → Prop) (x : PartV) : kPart.M w base ok x [.int .i64 x.claim, .bool x.capped, .bool x.cap.neg, .string x.cap.num, .string x.cap.den] := ⟨[.int .i64 x.claim], _, rfl, rfl, [.bool x.capped], _, rfl, rfl, kR3_mk w base ok x.cap⟩
def rdC (xs : List ClaimV) (i : Nat) : ClaimV := xs.getD i zClaim
def rdP (xs : List PartV) (i : Nat) : PartV := xs.getD i zPart
def rowAt {α : Type} (xs : List (List α)) (i : Nat) : List α := xs.getD i []
def rdQ (xs : List Rat) (i : Nat) : Rat := xs.getD i 0
/-- The cells of an element of five. -/
theorem five {α : Type} {d : Kd α} (hd : d.sz = 5) {w : World} {A : Option Addr} {xs : List α} (h : d.C w A xs.length xs) (z : α) {i : Nat} (h1 : i < xs.length) {a b c e f : Value} (ho : ∀ cs, d.K w (xs.getD i z) cs → cs = [a, b, c, e, f]) :
    ∃ ad, A = some ad ∧ w.cell? (ad.add (i * 5)) = some a ∧ w.cell? ⟨(ad.add (i * 5)).block, (ad.add (i * 5)).off + 1, none⟩ = some b ∧ w.cell? ⟨(ad.add (i * 5)).block, (ad.add (i * 5)).off + 2, none⟩ = some c ∧ w.cell? ⟨(ad.add (i * 5)).block, (ad.add (i * 5)).off + 3, none⟩ = some e ∧ w.cell? ⟨(ad.add (i * 5)).block, (ad.add (i * 5)).off + 4, none⟩ = some f := by
  obtain ⟨ad, cs, e1, _, hK, hc0⟩ := Kd.C_get h z (i : Int) (by omega) (by omega)
  rw [Int.toNat_natCast, hd] at hc0
  rw [Int.toNat_natCast] at hK
  obtain rfl := ho cs hK
  exact ⟨ad, e1, hc0 0 _ rfl, by rw [← add_field _ _ 1 (by omega)]; exact hc0 1 _ rfl, by rw [← add_field _ _ 2 (by omega)]; exact hc0 2 _ rfl, by rw [← add_field _ _ 3 (by omega)]; exact hc0 3 _ rfl, by rw [← add_field _ _ 4 (by omega)]; exact hc0 4 _ rfl⟩
theorem at_Claim {w : World} {A : Option Addr} {xs : List ClaimV} (h : kClaim.C w A xs.length xs) {i : Nat} (h1 : i < xs.length) :
    ∃ ad, A = some ad ∧ w.cell? (ad.add (i * 5)) = some (.int .i64 (rdC xs i).holder) ∧ w.cell? ⟨(ad.add (i * 5)).block, (ad.add (i * 5)).off + 1, none⟩ = some (.int .i64 (rdC xs i).rank) ∧ w.cell? ⟨(ad.add (i * 5)).block, (ad.add (i * 5)).off + 2, none⟩ = some (.bool (rdC xs i).amount.neg) ∧ w.cell? ⟨(ad.add (i * 5)).block, (ad.add (i * 5)).off + 3, none⟩ = some (.string (rdC xs i).amount.num) ∧ w.cell? ⟨(ad.add (i * 5)).block, (ad.add (i * 5)).off + 4, none⟩ = some (.string (rdC xs i).amount.den) :=
  five rfl h zClaim h1 (fun _ hK => kClaim_open hK)
theorem at_Part {w : World} {A : Option Addr} {xs : List PartV} (h : kPart.C w A xs.length xs) {i : Nat} (h1 : i < xs.length) :
    ∃ ad, A = some ad ∧ w.cell? (ad.add (i * 5)) = some (.int .i64 (rdP xs i).claim) ∧ w.cell? ⟨(ad.add (i * 5)).block, (ad.add (i * 5)).off + 1, none⟩ = some (.bool (rdP xs i).capped) ∧ w.cell? ⟨(ad.add (i * 5)).block, (ad.add (i * 5)).off + 2, none⟩ = some (.bool (rdP xs i).cap.neg) ∧ w.cell? ⟨(ad.add (i * 5)).block, (ad.add (i * 5)).off + 3, none⟩ = some (.string (rdP xs i).cap.num) ∧ w.cell? ⟨(ad.add (i * 5)).block, (ad.add (i * 5)).off + 4, none⟩ = some (.string (rdP xs i).cap.den) :=
  five rfl h zPart h1 (fun _ hK => kPart_open hK)
/-- A row of elements that is read, as a value. -/
def IsRow {α : Type} (d : Kd α) (w : World) (v : Value) (l : List α) : Prop := ∃ A c, v = .slice A l.length c ∧ l.length ≤ c ∧ d.C w A l.length l
theorem IsRow.below {α : Type} {d : Kd α} {w w1 : World} {v : Value} {l : List α} (h : IsRow d w v l) (hb : Below w.heap.size w w1) : IsRow d w1 v l := by
  obtain ⟨A, c, e, hc, hC⟩ := h
  exact ⟨A, c, e, hc, Kd.C_below hC hb⟩
theorem row_of_R {α : Type} {d : Kd α} {e : Nat} {w : World} {base : Nat} {ok : Nat → Prop} {v : Value} {l : List α} (h : d.R e w base ok v l) : IsRow d w v l := by
  obtain ⟨A, c, e, hc, hC⟩ := Kd.R_reads h
  exact ⟨A, c, e, hc, hC⟩
/-- An element that is itself a slice. -/
theorem at_row {α : Type} {d : Kd α} {e : Nat} {w : World} {A : Option Addr} {xs : List (List α)} (h : (Kd.slice e d).C w A xs.length xs) {i : Nat} (h1 : i < xs.length) :
    ∃ ad v, A = some ad ∧ w.cell? (ad.add i) = some v ∧ IsRow d w v (rowAt xs i) := by
  obtain ⟨ad, cs, e1, _, ⟨A', c', rfl, hc', hC'⟩, hc0⟩ := Kd.C_get h [] (i : Int) (by omega) (by omega)
  have hsz : (Kd.slice e d).sz = 1 := rfl
  rw [Int.toNat_natCast] at hc' hC' hc0
  rw [hsz, Nat.mul_one] at hc0
  exact ⟨ad, _, e1, hc0 0 _ rfl, A', c', rfl, hc', hC'⟩
end Go.Proofs.YtnimgfnknlkkdaaGreatDoor.H
set_option linter.unusedVariables false
set_option linter.unusedSimpArgs false
open Go
namespace Go.Proofs.YtnimgfnknlkkdaaGreatDoor.H
open Go Go.RowKit Go.Proofs.YtnimgfnknlkkdaaGreatDoorW.PrintWords Go.Proofs.YtnimgfnknlkkdaaGreatDoorW.PrintLast Go.Proofs.YtnimgfnknlkkdaaGreatDoorW.PrintMore Go.Proofs.YtnimgfnknlkkdaaGreatDoor.Num
theorem infoPart : (Tryz.prog.info? 38).map (fun i => (i.zero, i.size, i.bytes)) = some (some (.agg #[.int .i64 0, .bool false, .bool false, .string ⟨#[]⟩, .string ⟨#[]⟩]), 5, 56) := by kernel_rfl
abbrev OwnP (w : World) (base : Nat) (v : Value) (l : List PartV) : Prop := Kd.R kPart 38 w base (fun _ => True) v l
set_option maxRecDepth 100000 in
set_option maxHeartbeats 1000000 in
theorem slices_Grow_nil (n : Nat) (w : World) (hn : n ≤ 1099511627776) :
    Calls Tryz.prog 111 #[.slice none 0 0, .int .i64 n] w fun e w' => ∃ v, e = .returned v ∧ OwnP w' w.heap.size v [] ∧ Below w.heap.size w w' := by
  have h0 : ¬ (n : Int) < 0 := by omega
  rcases Nat.eq_zero_or_pos n with rfl | hp
  · go_enter Tryz.func111, Tryz.ntmps111
    go_wp2
    go_ret
    exact ⟨_, rfl, Kd.R_nil _ _ _ _ _, Below.refl _ _⟩
  · have h1 : (0 : Int) < (n : Int) := by omega
    go_enter Tryz.func111, Tryz.ntmps111
    go_wp2_with (at_builtin; refine Kd.R_append_zeros kPart w.heap.size rfl _ _ 36 3 38 _ 56 rfl Tryz.underlying36 Tryz.underlying3 infoPart rfl (by decide) (by decide) (.slice none 0 0) [] zPart n (fun _ => True) (by rfl) (by rfl) (kPart_mk _ _ _ zPart) (fun _ _ => trivial) (Kd.R_nil _ _ _ _ _) (by omega) (Below.refl w.heap.size w) (Nat.le_refl _) (by simp; omega) ?_; intro v1 w1 hr hb _ _; obtain ⟨A1, c1, rfl⟩ := Kd.R_slice hr; simp only [List.nil_append, List.length_replicate, Int.toNat_natCast] at hr ⊢; have HR := Aside0.mk hr; have HB := Aside0.mk hb; clear hr hb)
    go_ret
    exact ⟨_, rfl, by have := Kd.R_take HR.out (m := 0) (Nat.zero_le _); simpa using this, HB.out⟩
theorem flat_succ (ts : List (List PartV)) {i : Nat} (h : i < ts.length) : (ts.take (i + 1)).flatten = (ts.take i).flatten ++ rowAt ts i := by
  rw [List.take_succ_eq_append_getElem h, List.flatten_append, rowAt, List.getD_eq_getElem?_getD, List.getElem?_eq_getElem h]
  simp
theorem flat_le (ts : List (List PartV)) (i : Nat) : (ts.take i).flatten.length ≤ ts.flatten.length := by
  conv => rhs; rw [← List.take_append_drop i ts]
  rw [List.flatten_append, List.length_append]
  omega
def flen (ts : List (List PartV)) (i : Nat) : Nat := (ts.take i).flatten.length
set_option maxRecDepth 100000 in
set_option maxHeartbeats 1000000 in
theorem slices_Concat (ts : List (List PartV)) (A : Option Addr) (c : Nat) (w : World) (hC : kTier.C w A ts.length ts) (hc : ts.length ≤ c) (hsz : ts.flatten.length ≤ 1099511627776) :
    Calls Tryz.prog 73 #[.slice A ts.length c] w fun e w' => ∃ v, e = .returned v ∧ IsRow kPart w' v ts.flatten ∧ Below w.heap.size w w' := by
  have HC := Aside0.mk hC
  have hm := hC.2.1
  have HL := Aside0.mk (flat_le ts)
  have HSZ := Aside0.mk hsz
  have HS := Aside0.mk (@flat_succ ts)
  clear hC
  go_enter Tryz.func73, Tryz.ntmps73
  go_wp2
  go_loopw [3, 11] (fun v3 v11 w' => ∃ i : Nat, i ≤ ts.length ∧ v11 = .int .i64 i ∧ v3 = .int .i64 (flen ts i : Int) ∧ w' = w) (fun _ v11 _ => ts.length - (intOf v11).toNat)
  case atStart => exact ⟨0, Nat.zero_le _, rfl, by simp [flen], rfl⟩
  case round =>
    obtain ⟨i, hi, rfl, rfl, rfl⟩ := hrel
    have hl0 : flen ts i ≤ ts.flatten.length := HL.out i
    rcases Nat.lt_or_ge i ts.length with hlt | hge
    · obtain ⟨ad, v, rfl, hx, A1, c1, rfl, hc1, hC1⟩ := at_row HC.out hlt
      have hl1 : flen ts (i + 1) ≤ ts.flatten.length := HL.out (i + 1)
      have hs : flen ts (i + 1) = flen ts i + (rowAt ts i).length := by unfold flen; rw [HS.out hlt, List.length_append]
      have hs2 : (flen ts (i + 1) : Int) = flen ts i + ((rowAt ts i).length : Int) := by rw [hs]; omega
      have HS2 := Lib.hid hs2
      have hl2 : flen ts i + (rowAt ts i).length ≤ 1099511627776 := by omega
      have hp0 : (0 : Int) ≤ (i : Int) := by omega
      have hp1 : (i : Int) < (ts.length : Int) := by omega
      clear hs hs2 hC1 hl1 hl0
      generalize (rowAt ts i).length = k at *
      generalize flen ts i = q at *
      have hnn : ¬ (q : Int) + k < 0 := by omega
      go_wp2
      go_roundw
      case measure => simp [intOf]; omega
      case rel => exact ⟨i + 1, hlt, by go_num, by rw [HS2.out], by first | rfl | trivial⟩
    · obtain rfl : i = ts.length := by omega
      obtain ⟨wo, hwo⟩ : ∃ wo, wo = wr := ⟨_, rfl⟩
      subst hwo
      have hN : flen ts ts.length ≤ 1099511627776 := by omega
      clear hl0 hsz
      generalize flen ts ts.length = N at *
      have G := Lib.hid (fun w => slices_Grow_nil N w hN)
      go_wp2_with (fail)
      refine (G.out _).mono ?_
      rintro e w1 ⟨v1, rfl, hr1, hb1⟩
      have HR1 := Aside0.mk hr1
      have HB1 := Aside0.mk hb1
      clear hr1 hb1
      go_wp2
      go_loopw [6, 27] (fun v6 v27 w' => ∃ i : Nat, i ≤ ts.length ∧ v27 = .int .i64 i ∧ Aside0 (OwnP w' wo.heap.size v6 (ts.take i).flatten) ∧ Aside0 (Below wo.heap.size wo w')) (fun _ v27 _ => ts.length - (intOf v27).toNat)
      case atStart => exact ⟨0, Nat.zero_le _, rfl, HR1, HB1⟩
      case round =>
        clear HR1 HB1
        obtain ⟨i, hi, rfl, ho, hb⟩ := hrel
        rcases Nat.lt_or_ge i ts.length with hlt | hge
        · obtain ⟨ad, v, rfl, hx, A1, c1, rfl, hc1, hC1⟩ := at_row (Kd.C_below HC.out hb.out) hlt
          have hp0 : (0 : Int) ≤ (i : Int) := by omega
          have hp1 : (i : Int) < (ts.length : Int) := by omega
          have HC1 := Aside0.mk hC1
          have hbd : ((ts.take i).flatten.length + (rowAt ts i).length) * 56 ≤ 140737488355328 := by
            have := HL.out (i + 1)
            have := HSZ.out
            have h8 := HL.out (i + 1)
            rw [HS.out hlt, List.length_append] at h8
            omega
          clear hC1
          go_wp2_with (at_builtin; refine Kd.R_append_rows kPart (Rr := kPart.K wr) wo.heap.size rfl _ _ 36 38 _ 56 rfl Tryz.underlying36 infoPart rfl (by decide) (by decide) _ _ (rowAt ts i) A1 (rowAt ts i).length c1 (fun _ => True) (fun _ => False) (by rfl) (by rfl) ho.out HC1.out (fun x cs hK => by rw [kPart_open hK]; exact kPart_mk _ _ _ x) (fun _ hk => hk.elim) (fun _ _ => trivial) hb.out hb.out.size hbd ?_; clear ho; intro v2 w2 hr2 hb2 _ _)
          go_roundw
          case measure => simp [intOf]; omega
          case rel => exact ⟨i + 1, hlt, by go_num, ⟨by rw [HS.out hlt]; exact hr2⟩, ⟨hb2⟩⟩
        · obtain rfl : i = ts.length := by omega
          have ho2 := row_of_R ho.out
          rw [List.take_length] at ho2
          have HO := Aside0.mk ho2
          clear ho ho2
          go_wp2
          go_ret
          exact ⟨_, rfl, HO.out, hb.out⟩
end Go.Proofs.YtnimgfnknlkkdaaGreatDoor.H
set_option linter.unusedVariables false
set_option linter.unusedSimpArgs false
open Go
namespace Go.Proofs.YtnimgfnknlkkdaaGreatDoor.H
open Go Go.RowKit Go.Proofs.YtnimgfnknlkkdaaGreatDoorW.PrintWords Go.Proofs.YtnimgfnknlkkdaaGreatDoorW.PrintLast Go.Proofs.YtnimgfnknlkkdaaGreatDoorW.PrintMore Go.Proofs.YtnimgfnknlkkdaaGreatDoor.Num
theorem w_long (A : Option Addr) (n c : Nat) (w : World) : Calls Tryz.prog 72 #[.slice A n c] w fun e w' => e = .returned (.bool (decide (24 < n))) ∧ w' = w := by
  by_cases h : 24 < n
  · have h2 : (24 : Int) < (n : Int) := by omega
    go_enter Tryz.func72, Tryz.ntmps72
    go_wp2
    go_ret
    exact ⟨ret_b (by simp [h]), rfl⟩
  · have h2 : ¬ (24 : Int) < (n : Int) := by omega
    go_enter Tryz.func72, Tryz.ntmps72
    go_wp2
    go_ret
    exact ⟨ret_b (by simp [h]), rfl⟩
def longB (ts : List (List PartV)) : Bool := ts.any (fun t => decide (24 < t.length))
def IdxPost (ts : List (List PartV)) (w : World) (e : Ending) (w' : World) : Prop := ∃ k : Int, e = .returned (.int .i64 k) ∧ (longB ts = decide (0 ≤ k)) ∧ w' = w
theorem longB_yes {ts : List (List PartV)} {i : Nat} (h : i < ts.length) (h2 : 24 < (rowAt ts i).length) : longB ts = true := by
  unfold longB
  rw [List.any_eq_true]
  refine ⟨ts[i], List.getElem_mem h, ?_⟩
  rw [rowAt, List.getD_eq_getElem?_getD, List.getElem?_eq_getElem h] at h2
  simpa using h2
theorem longB_no {ts : List (List PartV)} (h : ∀ k, k < ts.length → ¬ 24 < (rowAt ts k).length) : longB ts = false := by
  unfold longB
  rw [List.any_eq_false]
  intro t ht
  obtain ⟨k, hk, rfl⟩ := List.getElem_of_mem ht
  have := h k hk
  rw [rowAt, List.getD_eq_getElem?_getD, List.getElem?_eq_getElem hk] at this
  simpa using this
set_option maxRecDepth 100000 in
set_option maxHeartbeats 1000000 in
theorem slices_IndexFunc (ts : List (List PartV)) (A : Option Addr) (c : Nat) (w : World) (hC : kTier.C w A ts.length ts) (hc : ts.length ≤ c) :
    Calls Tryz.prog 110 #[.slice A ts.length c, .func (.func 72) #[] #[]] w (IdxPost ts w) := by
  have HC := Aside0.mk hC
  have hm := hC.2.1
  have HY := Aside0.mk (@longB_yes ts)
  have HN := Aside0.mk (@longB_no ts)
  clear hC
  go_enter Tryz.func110, Tryz.ntmps110
  go_wp2
  go_loopw [8] (fun v8 w' => ∃ i : Nat, i ≤ ts.length ∧ v8 = .int .i64 i ∧ Aside0 (∀ k, k < i → ¬ 24 < (rowAt ts k).length) ∧ w' = w) (fun v8 _ => ts.length - (intOf v8).toNat)
  case atStart => exact ⟨0, Nat.zero_le _, rfl, ⟨fun k hk => by omega⟩, rfl⟩
  case round =>
    obtain ⟨i, hi, rfl, hA, rfl⟩ := hrel
    rcases Nat.lt_or_ge i ts.length with hlt | hge
    · obtain ⟨ad, v, rfl, hx, A1, c1, rfl, hc1, hC1⟩ := at_row HC.out hlt
      have hp0 : (0 : Int) ≤ (i : Int) := by omega
      have hp1 : (i : Int) < (ts.length : Int) := by omega
      have CL := Lib.hid (fun w => w_long A1 (rowAt ts i).length c1 w)
      by_cases hb : 24 < (rowAt ts i).length
      · rw [decide_eq_true hb] at CL
        have HB := Aside0.mk (HY.out hlt hb)
        clear hb hC1 hc1 HY
        generalize (rowAt ts i).length = k at *
        go_wp2_with (go_at_call 72; refine (CL.out _).mono ?_; rintro e w1 ⟨rfl, rfl⟩)
        go_ret
        exact ⟨i, rfl, by rw [HB.out]; simp, rfl⟩
      · rw [decide_eq_false hb] at CL
        have HB := Aside0.mk hb
        clear hb hC1 hc1
        generalize hk : (rowAt ts i).length = k at *
        have HK := Lib.hid hk
        clear hk
        go_wp2_with (go_at_call 72; refine (CL.out _).mono ?_; rintro e w1 ⟨rfl, rfl⟩)
        go_roundw
        case measure => simp [intOf]; omega
        case rel =>
          refine ⟨i + 1, hlt, by go_num, ⟨fun j hj => ?_⟩, by first | rfl | trivial⟩
          rcases Nat.lt_or_ge j i with h2 | h2
          · exact hA.out j h2
          · obtain rfl : j = i := by omega
            rw [HK.out]; exact HB.out
    · obtain rfl : i = ts.length := by omega
      go_wp2
      go_ret
      exact ⟨-1, rfl, by rw [HN.out hA.out]; rfl, rfl⟩
set_option maxRecDepth 100000 in
set_option maxHeartbeats 1000000 in
theorem slices_ContainsFunc (ts : List (List PartV)) (A : Option Addr) (c : Nat) (w : World) (hC : kTier.C w A ts.length ts) (hc : ts.length ≤ c) :
    Calls Tryz.prog 71 #[.slice A ts.length c, .func (.func 72) #[] #[]] w fun e w' => e = .returned (.bool (longB ts)) ∧ w' = w := by
  have I := Lib.hid (slices_IndexFunc ts A c w hC hc)
  have hm := hC.2.1
  clear hC
  go_enter Tryz.func71, Tryz.ntmps71
  go_wp2_with (fail)
  refine I.out.mono ?_
  rintro e w1 ⟨k, rfl, hk, rfl⟩
  have HK := Lib.hid hk
  clear hk
  go_wp2
  go_ret
  exact ⟨ret_b (by rw [HK.out]), rfl⟩
end Go.Proofs.YtnimgfnknlkkdaaGreatDoor.H
set_option linter.unusedVariables false
set_option linter.unusedSimpArgs false
open Go
namespace Go.Proofs.YtnimgfnknlkkdaaGreatDoor.H
open Go Go.RowKit Go.Proofs.YtnimgfnknlkkdaaGreatDoorW.PrintWords Go.Proofs.YtnimgfnknlkkdaaGreatDoorW.PrintLast Go.Proofs.YtnimgfnknlkkdaaGreatDoorW.PrintMore Go.Proofs.YtnimgfnknlkkdaaGreatDoor.Num
theorem cell_new (w : World) (cs : Array Value) (t : TypeId) (j : Nat) : (w.alloc (.cells cs t)).cell? ⟨w.heap.size, j, none⟩ = cs[j]? := by
  have h : (w.alloc (.cells cs t)).heap[w.heap.size]? = some (.cells cs t) := by show (w.heap.push _)[w.heap.size]? = _; simp
  unfold World.cell?
  rw [h]
  rfl
theorem ref_strip (l : List Int) (A : Option Addr) (c : Nat) (w : World) (hl : Lim l) (hc : l.length ≤ c) (hC : Kd.C (Kd.int .u32) w A l.length l) :
    Calls Tryz.prog 172 #[.slice A l.length c] w fun e w' => ∃ v, e = .returned v ∧ IsL w' v (dig (val l)) ∧ Drawn0 w w' := by
  have HC := Aside0.mk hC
  have hm := hC.2.1
  have HL := Aside0.mk hl
  clear hC hl
  go_enter Tryz.func172, Tryz.ntmps172
  go_wp2
  go_loopw [3] (fun v3 w' => ∃ n : Nat, n ≤ l.length ∧ v3 = .int .i64 n ∧ Aside0 (val (l.take n) = val l) ∧ Aside0 (Drawn0 w w')) (fun v3 _ => (intOf v3).toNat)
  case atStart => exact ⟨l.length, Nat.le_refl _, rfl, ⟨by simp⟩, ⟨Drawn0.refl w⟩⟩
  case round =>
    obtain ⟨n, hn, rfl, hv, hd⟩ := hrel
    rcases Nat.eq_zero_or_pos n with rfl | h0
    · go_wp2
      go_ret
      exact ⟨_, rfl, trim_ends HL.out HC.out (Nat.zero_le _) hc (by simpa using hv.out) (.inl rfl) hd.out, hd.out⟩
    · obtain ⟨m, rfl⟩ : ∃ m, n = m + 1 := ⟨n - 1, by omega⟩
      have hi1 : (m : Int) < (l.length : Int) := by omega
      obtain ⟨ad, rfl, hx⟩ := C_word (Kd.C_below HC.out hd.out.below) (m : Int) (by omega) hi1
      rw [Int.toNat_natCast] at hx
      by_cases hz : rd l (m : Int) = 0
      · have hz0 : (rd l (m : Int) == 0) = true := beq_iff_eq.mpr hz
        go_wp2
        go_roundw
        case measure => simp [intOf]
        case rel => exact ⟨m, by omega, rfl, ⟨by rw [← hv.out, val_take_succ l m (by omega)]; simp [rd] at hz; simp [hz]⟩, hd⟩
      · have hz0 : (rd l (m : Int) == 0) = false := beq_eq_false_iff_ne.mpr hz
        go_wp2
        go_ret
        exact ⟨_, rfl, trim_ends HL.out HC.out hn hc hv.out (.inr (by simpa [rd] using hz)) hd.out, hd.out⟩
theorem strip_own {L : List Int} {A : Option Addr} {n c base : Nat} {w : World} (ho : Own w base (.slice A n c) L) (hl : Lim L) :
    Calls Tryz.prog 172 #[.slice A n c] w fun e w' => ∃ v, e = .returned v ∧ IsL w' v (dig (val L)) ∧ Drawn0 w w' := by
  obtain ⟨rfl, hc, hC⟩ := Kd.R_reads' ho
  exact ref_strip L A c w hl hc hC
theorem strip_isL {w : World} {v : Value} {l : List Int} (h : IsL w v l) (hl : Lim l) :
    Calls Tryz.prog 172 #[v] w fun e w' => ∃ v, e = .returned v ∧ IsL w' v (dig (val l)) ∧ Drawn0 w w' := by
  obtain ⟨A, c, rfl, hc, hC⟩ := h
  exact ref_strip l A c w hl hc hC
theorem dig_exact {l : List Int} (h : Lim l) (hb : l = [] ∨ 4294967296 ^ (l.length - 1) ≤ val l) : dig (val l) = l := by
  refine dig_val h (hb.imp_right fun h1 h2 => ?_)
  rcases Nat.eq_zero_or_pos l.length with h3 | h3
  · rw [List.length_eq_zero_iff.1 h3] at h1; simp [val] at h1
  have h4 := val_take_succ l (l.length - 1) (by omega)
  rw [List.take_of_length_le (by omega), h2] at h4
  have h5 := val_lt (lim_take (l.length - 1) h)
  rw [List.length_take, Nat.min_eq_left (by omega)] at h5
  simp at h4
  omega
theorem natB_low {x k : Nat} (h : (natB x).size = k + 1) : 256 ^ k ≤ x := Nat.le_of_not_lt fun h1 => by have := natB_size_le h1; omega
theorem limbs_exact {x q : Nat} {L : List Int} (hq : q = ((natB x).size + 3) / 4) (hL : L.length = q) (hl : Lim L) (hv : val L = x) : L = dig x := by
  rw [← hv]
  refine (dig_exact hl ?_).symm
  rcases Nat.eq_zero_or_pos q with h | h
  · exact .inl (List.length_eq_zero_iff.1 (by omega))
  · refine .inr ?_
    obtain ⟨k, hk⟩ : ∃ k, (natB x).size = k + 1 := ⟨(natB x).size - 1, by omega⟩
    have h1 := natB_low hk
    rw [hv, hL]
    refine Nat.le_trans ?_ h1
    rw [show (4294967296 : Nat) = 256 ^ 4 by rfl, ← Nat.pow_mul]
    exact Nat.pow_le_pow_right (by omega) (by omega)
set_option maxRecDepth 100000 in
set_option maxHeartbeats 400000 in
theorem ref_limbs (s0 : ByteArray) (w : World) (hs0 : s0.size ≤ 1099511627776) :
    Calls Tryz.prog 132 #[.string s0] w fun e w' => ∃ v, e = .returned v ∧ IsL w' v (dig (bval s0)) ∧ Below w.heap.size w w' := by
  have NZ := Lib.hid (fun w => ref_Normalize s0 w hs0)
  have hs : (natB (bval s0)).size ≤ 1099511627776 := Nat.le_trans (natB_size_self s0) hs0
  have hbv := Lib.hid (bval_natB (bval s0))
  obtain ⟨x, hx⟩ : ∃ x, x = bval s0 := ⟨_, rfl⟩
  rw [← hx] at NZ hs hbv ⊢
  have HX := Lib.hid (fun (q : Nat) (L : List Int) hq hL hl hv => @limbs_exact x q L hq hL hl hv)
  clear hx hs0
  generalize natB x = s at *
  obtain ⟨q, hq⟩ : ∃ q : Nat, q = (s.size + 3) / 4 := ⟨_, rfl⟩
  have hq1 : ((s.size : Int) + 3) / 4 = (q : Int) := by omega
  have HQ := Lib.hid hq
  have hq2 : q ≤ 274877906944 := by omega
  clear hq
  have HQ1 := Lib.hid hq1
  clear hq1
  go_enter Tryz.func132, Tryz.ntmps132
  go_wp2_with (fail)
  refine (NZ.out _).mono ?_
  rintro e w0 ⟨rfl, rfl⟩
  have HB := Aside0.mk (Below.refl w0.heap.size w0)
  go_wp2_with (refine makeK Tryz.underlying137 infoU32 (by decide) (N := 11) rfl rfl rfl q (congrArg (Value.int .i64) HQ1.out) (congrArg (Value.int .i64) HQ1.out) (by omega) ?_; intro v w1 ho hb)
  go_loopw [4] (fun v13 w' => ∃ (i : Nat) (L : List Int), i ≤ s.size ∧ v13 = .int .i64 i ∧ Aside0 (L.length = q ∧ Lim L ∧ val L = tailv s i) ∧ Aside0 (Own w' w0.heap.size v L) ∧ Aside0 (Below w0.heap.size w0 w')) (fun v13 _ => s.size - (intOf v13).toNat)
  case atStart => exact ⟨0, _, Nat.zero_le _, rfl, ⟨by simp, lim_zeros _, by rw [val_zeros, tailv]; simp [bvl, List.drop_eq_nil_of_le]⟩, ⟨ho⟩, ⟨hb⟩⟩
  case round =>
    clear ho hb
    obtain ⟨i, L, hi, rfl, hL, ho, hb⟩ := hrel
    rcases Nat.lt_or_ge i s.size with hlt | hge
    · go_wp2
      refine region_tail 22 (by kernel_rfl) (by kernel_rfl) ?_
      intro w2 hw2
      have ho2 : Own w2 w0.heap.size v L := hw2 ▸ Kd.R_drew ho.out
      have hb2 : Below w0.heap.size w0 w2 := hw2 ▸ below_drew hb.out
      clear hw2 ho hb
      obtain ⟨j, hj⟩ : ∃ j, j = i / 4 := ⟨_, rfl⟩
      obtain ⟨m, hm⟩ : ∃ m, m = s.size - 1 - i := ⟨_, rfl⟩
      obtain ⟨r, hr⟩ : ∃ r, r = i % 4 := ⟨_, rfl⟩
      have hjl : j < L.length := by rw [hL.out.1, HQ.out, hj]; omega
      have hml : m < s.size := by omega
      have hr4 : r < 4 := by omega
      obtain ⟨g, cap, rfl, hg1, hg2, cells, hg3⟩ := Kd.R_form ho2 (by omega)
      obtain ⟨hx, hf⟩ := Kd.R_celln 0 ho2 (j : Int) (by omega) (by omega)
      rw [Int.toNat_natCast] at hx hf
      have f1 : IntKind.i64.wrap ((i : Int) / 4) = (j : Int) := by rw [IntKind.wrap_i64]; omega
      have f2 : IntKind.i64.wrap ((s.size : Int) - 1) = (s.size : Int) - 1 := by rw [IntKind.wrap_i64]; omega
      have f3 : IntKind.i64.wrap ((s.size : Int) - 1 - i) = (m : Int) := by rw [IntKind.wrap_i64]; omega
      have f4 : Int.tmod (i : Int) 4 = (r : Int) := by rw [Int.tmod_eq_emod_of_nonneg (by omega)]; omega
      obtain ⟨c, hc⟩ : ∃ c : Nat, c = (s[m]'hml).toNat := ⟨_, rfl⟩
      have hc1 : c < 256 := hc ▸ (s[m]'hml).toNat_lt
      have f6 : ∀ h, IntKind.u32.wrap (((s[m]'h).toNat : Nat) : Int) = (c : Int) := fun h => by rw [← hc, IntKind.wrap_u32]; omega
      have f5 : IntKind.i64.wrap (8 * (r : Int)) = 8 * (r : Int) := by rw [IntKind.wrap_i64]; omega
      have f7 : IntKind.u64.wrap (8 * (r : Int)) = 8 * (r : Int) := by rw [wrap_u64]; omega
      have HM := Lib.hid (And.intro hj (And.intro hm (And.intro hr hc)))
      clear hj hm hr hc
      clear hg3
      simp only [List.take_succ_cons, List.take_zero, List.drop_succ_cons, List.drop_zero]
      repeat still_step
      refine wpStill_nil ?_
      go_wp2_with (refine storeK infoU32 (p := 40) (j := j) rfl rfl rfl ho2 hb2 (Nat.le_refl _) hjl rfl rfl ?_; clear ho2 hb2; intro w4 ho4 hb4)
      go_roundw
      case measure => simp [intOf]; omega
      case rel =>
        obtain ⟨e1, e2, e3, e4⟩ := HM.out
        obtain ⟨p1, p2⟩ := parse_round hL.out.2.1 hL.out.2.2 hlt e1 e3 e2 hml e4 hjl
        exact ⟨i + 1, _, hlt, by go_num, ⟨by rw [List.length_set]; exact hL.out.1, p1, p2⟩, ⟨ho4⟩, ⟨hb4⟩⟩
    · obtain rfl : i = s.size := by omega
      go_wp2
      go_ret
      exact ⟨_, rfl, HX.out q L HQ.out hL.out.1 hL.out.2.1 (by rw [hL.out.2.2, tailv_all, hbv.out]) ▸ own_isL ho.out, hb.out⟩
end Go.Proofs.YtnimgfnknlkkdaaGreatDoor.H
set_option linter.unusedVariables false
set_option linter.unusedSimpArgs false
open Go
namespace Go.Proofs.YtnimgfnknlkkdaaGreatDoor.H
open Go Go.RowKit Go.Proofs.YtnimgfnknlkkdaaGreatDoorW.PrintWords Go.Proofs.YtnimgfnknlkkdaaGreatDoorW.PrintLast Go.Proofs.YtnimgfnknlkkdaaGreatDoorW.PrintMore Go.Proofs.YtnimgfnknlkkdaaGreatDoor.Num
theorem bvi_snoc4 (M : List Int) (a b c d : Int) : bvi (M ++ [a, b, c, d]) = (((bvi M * 256 + a.toNat) * 256 + b.toNat) * 256 + c.toNat) * 256 + d.toNat := by
  simp [bvi, List.foldl_append]
theorem byt_app4 {M : List Int} (h : Byt M) {a b c d : Int} (ha : 0 ≤ a ∧ a < 256) (hb : 0 ≤ b ∧ b < 256) (hc : 0 ≤ c ∧ c < 256) (hd : 0 ≤ d ∧ d < 256) : Byt (M ++ [a, b, c, d]) := fun x hx => by
  simp only [List.mem_append, List.mem_cons, List.not_mem_nil, or_false] at hx
  rcases hx with hx | rfl | rfl | rfl | rfl
  · exact h x hx
  all_goals assumption
theorem text_step {L M : List Int} (hL : Lim L) (hM : Byt M) {j : Nat} (hj : j < L.length) (hv : bvi M = val (L.drop (j + 1))) {x : Int} (hx : x = L.getD j 0) :
    Byt (M ++ [x / 16777216, x / 65536 % 256, x / 256 % 256, x % 256]) ∧ bvi (M ++ [x / 16777216, x / 65536 % 256, x / 256 % 256, x % 256]) = val (L.drop j) := by
  have h1 := lim_get hL j
  have h2 := val_drop L j hj
  rw [← hx] at h1 h2
  refine ⟨byt_app4 hM (by omega) (by omega) (by omega) (by omega), ?_⟩
  rw [bvi_snoc4, hv, h2]
  omega
theorem size_new' (w : World) (o : Obj) : (w.alloc o).heap.size = w.heap.size + 1 := by
  show (w.heap.push o).size = _
  simp
theorem heap_new' (w : World) (o : Obj) : (w.alloc o).heap[w.heap.size]? = some o := by
  show (w.heap.push o)[w.heap.size]? = _
  simp
section
variable {P : Program} {ops : Array Oper} {rest : List Oper} {o : Oper} {a : Act} {Q : Exit → Act → World → Prop} {W : World}
/-- append(xs, numbers that were just written out ..) -/
theorem appendK {k : IntKind} {e t te : TypeId} {bytes : Nat} (hu : P.underlying t = some (.slice e)) (hi : (P.info? e).map (fun i => (i.zero, i.size, i.bytes)) = some (some (.int k 0), 1, bytes))
    (hgd : o.guard = none) {s x : Operand} (ho : o.op = .call { callee := .builtin .append, args := #[s, x], argTypes := #[t, t] }) {base : Nat} {w0 : World} {v : Value} {L : List Int} {cells : Array Value} (new : List Int) (hcells : cells.toList = new.map (Value.int k)) (hnew : 0 < new.length)
    (hs : a.eval s = v) (hx : a.eval x = .slice (some ⟨W.heap.size, 0, none⟩) new.length new.length) (hown : OwnK k e W base v L) (hb : Below w0.heap.size w0 W) (hbase : w0.heap.size ≤ base) (hbase2 : base ≤ W.heap.size) (hsz : L.length + new.length ≤ 4611686018427387904) (hby : (L.length + new.length) * bytes ≤ 140737488355328)
    (h : ∀ v' w', OwnK k e w' base v' (L ++ new) → Below w0.heap.size w0 w' → wpList P ops Q rest (a.put o.dst v') w') : wpList P ops Q (o :: rest) a (W.alloc (.cells cells te)) := by
  obtain ⟨i0, hi0, hzz⟩ := Option.map_eq_some_iff.1 hi
  simp only [Prod.mk.injEq] at hzz
  have h1 := Kd.own_of_R (Kd.R_below hown (below_alloc (Below.refl _ _) (.cells cells te)))
  refine wpList_append_lies _ hgd s x t ho base e i0 (.int k 0) 1 bytes hu hi0 hzz.1 hzz.2.1 hzz.2.2 rfl (by omega) v L.length _ hs h1 ⟨W.heap.size, 0, none⟩ new.length new.length (new.map (Value.int k)) hx (by simp) (fun j u hj => ?_) (fun u hu => ?_) hnew (by simp only [Go.maxLen]; omega) hby (by rw [size_new']; omega) _ rfl (fun g cap w' h2 h3 h4 h5 => ?_)
  · rw [← hcells, Array.getElem?_toList] at hj
    have e : (Addr.add ⟨W.heap.size, 0, none⟩ j) = ⟨W.heap.size, j, none⟩ := by cases j <;> simp [Addr.add]
    rw [e]
    rw [cell_new]
    exact hj
  · obtain ⟨y, -, rfl⟩ := List.mem_map.1 hu
    rfl
  · refine h _ _ ?_ ?_
    · refine Kd.R_of_own ?_ (fun _ _ => trivial)
      rw [List.length_append, encs_append]
      exact h2
    · refine pw_below_grown (below_alloc hb _) _ (by rw [size_new']; have := hb.size; omega) h3 (fun k hk => ?_)
      exact Nat.le_trans hbase (own_base h1 k hk)
end
section
variable {P : Program} {ops : Array Oper} {rest : List Oper} {o : Oper} {a : Act} {Q : Exit → Act → World → Prop} {W : World}
/-- make([]T, 0, c) -/
theorem makeCapK {k : IntKind} {e t : TypeId} {bytes : Nat} (hu : P.underlying t = some (.slice e)) (hi : (P.info? e).map (fun i => (i.zero, i.size, i.bytes)) = some (some (.int k 0), 1, bytes)) (hb0 : 0 < bytes)
    (hgd : o.guard = none) {x y : Operand} (ho : o.op = .makeSlice t x y) (c : Nat) (hx : a.eval x = .int .i64 0) (hy : a.eval y = .int .i64 c) (hn : c * bytes ≤ 281474976710656)
    (h : ∀ v w1, OwnK k e w1 W.heap.size v [] → Below W.heap.size W w1 → wpList P ops Q rest (a.put o.dst v) w1) : wpList P ops Q (o :: rest) a W := by
  obtain ⟨i0, hi0, hzz⟩ := Option.map_eq_some_iff.1 hi
  simp only [Prod.mk.injEq] at hzz
  have hc : c ≤ 281474976710656 := Nat.le_trans (Nat.le_mul_of_pos_right _ hb0) hn
  have hr := run_make (P := P) W t e i0 (.int k 0) hu hi0 hzz.1 .i64 .i64 0 (c : Int) (Int.le_refl _) (by omega)
    (by
      have h3 : ((i0.bytes * c : Nat) : Int) ≤ 281474976710656 := by rw [hzz.2.2, Nat.mul_comm]; omega
      rwa [Int.natCast_mul] at h3) (by omega)
  simp only [Int.toNat_natCast, Int.toNat_zero] at hr
  refine Kd.event_run hgd (w1 := W.alloc (.cells (madeCells (Value.int k 0).cells (c * i0.size)) e)) (v := .slice (some ⟨W.heap.size, 0, none⟩) 0 c) (by simp [execOp, ho, hx, hy, hr]) (h _ _ (Kd.R_of_own ?_ (fun _ _ => trivial)) (below_alloc (Below.refl _ _) _))
  refine ⟨rfl, .inr ⟨W.heap.size, c, madeCells (Value.int k 0).cells (c * i0.size), rfl, Nat.le_refl _, heap_new' _ _, Nat.zero_le _, by simp only [Go.maxLen]; omega, ?_, by simp [encs]⟩⟩
  rw [size_madeCells, hzz.2.1]
end
set_option maxRecDepth 100000 in
set_option maxHeartbeats 1000000 in
theorem ref_text (x : Nat) (A : Option Addr) (c : Nat) (w : World) (L : List Int) (hx : val L = x) (hl : Lim L) (hc : L.length ≤ c) (hC : Kd.C (Kd.int .u32) w A L.length L) (hn : L.length ≤ 274877906944) :
    Calls Tryz.prog 131 #[.slice A L.length c] w fun e w' => e = .returned (.string (natB x)) ∧ Below w.heap.size w w' := by
  have ST := Lib.hid (ref_strip L A c w hl hc hC)
  have hD : (dig (val L)).length ≤ 274877906944 := by
    refine Nat.le_trans (dig_length_le (k := L.length) (val_lt hl)) hn
  rw [hx] at ST hD
  have V1 := Lib.hid (val_dig x)
  have L1 := Aside0.mk (lim_dig x)
  have hlt := Lib.hid (dig_lt x)
  clear hl hC hc hn hx
  generalize dig x = D at *
  obtain ⟨q, hq⟩ : ∃ q, q = D.length := ⟨_, rfl⟩
  have HQ := Lib.hid hq
  have e4 : (4 : Int) * (q : Int) = ((4 * q : Nat) : Int) := by omega
  have HE := Lib.hid e4
  rw [← hq] at hD
  clear hq e4
  go_enter Tryz.func131, Tryz.ntmps131
  go_wp2_with (fail)
  refine ST.out.mono ?_
  rintro e w1 ⟨v1, rfl, ⟨A1, c1, rfl, hc1, hC1⟩, hd1⟩
  rw [← HQ.out] at hc1 ⊢
  have HA := Aside0.mk hC1
  have HD1 := Aside0.mk hd1
  clear hC1 hd1
  go_wp2_with (refine makeCapK Tryz.underlying177 infoU8 (by decide) rfl rfl (4 * q) rfl (congrArg (Value.int .i64) HE.out) (by omega) ?_; intro v w2 ho hb)
  go_loopw [3, 4] (fun v3 v4 w' => ∃ (n : Nat) (M : List Int), n ≤ q ∧ v4 = .int .i64 ((n : Int) - 1) ∧ M.length + 4 * n = 4 * q ∧ Aside0 (Byt M ∧ bvi M = val (D.drop n)) ∧ Aside0 (OwnK .u8 5 w' w1.heap.size v3 M) ∧ Aside0 (Below w1.heap.size w1 w')) (fun _ v4 _ => (intOf v4 + 1).toNat)
  case atStart => exact ⟨q, [], Nat.le_refl _, rfl, by simp, ⟨fun x hx => absurd hx (by simp), by rw [List.drop_of_length_le (by rw [HQ.out]; exact Nat.le_refl _)]; rfl⟩, ⟨ho⟩, ⟨hb⟩⟩
  case round =>
    clear ho hb
    obtain ⟨n, M, hn, rfl, hML, hM, ho, hb⟩ := hrel
    rcases Nat.eq_zero_or_pos n with rfl | h0
    · obtain ⟨A3, c3, rfl, hc3, hC3⟩ := Kd.R_reads ho.out
      have hcv : (convert 177 9 (.slice A3 M.length c3)).run Tryz.prog wr = .ok (.string (strOfNums M)) wr := Kd.C_string Tryz.underlying177 Tryz.underlying5 Tryz.underlying9 hC3
      clear hC3
      have HV := Lib.hid (show natB (bval (strOfNums M)) = natB x by rw [bval_strOfNums hM.out.1, hM.out.2, List.drop_zero, V1.out])
      have hsz : (strOfNums M).size ≤ 1099511627776 := by show (strOfNums M).data.size ≤ _; rw [← Array.length_toList, strOfNums_list, List.length_map]; omega
      have NZ := Lib.hid (fun w => ref_Normalize (strOfNums M) w hsz)
      rw [HV.out] at NZ
      clear hsz
      go_wp2_with (go_at_call 158; refine (NZ.out _).mono ?_; rintro e w4 ⟨rfl, rfl⟩)
      go_ret
      exact ⟨rfl, below_step HD1.out.below hb.out⟩
    · obtain ⟨m, rfl⟩ : ∃ m, n = m + 1 := ⟨n - 1, by omega⟩
      obtain ⟨ad, rfl, hx⟩ := C_word (Kd.C_below HA.out hb.out) (m : Int) (by omega) (by have := HQ.out; omega)
      rw [Int.toNat_natCast, rd_nat] at hx
      have k1 := lim_get L1.out m
      have HS := Lib.hid (text_step L1.out hM.out.1 (by have := HQ.out; omega) hM.out.2 (x := D.getD m 0) rfl)
      generalize D.getD m 0 = y at *
      obtain ⟨k1a, k1b⟩ := k1
      go_wp2_with (at_builtin; refine appendK Tryz.underlying177 infoU8 rfl rfl [y / 16777216, y / 65536 % 256, y / 256 % 256, y % 256] (by rfl) (by simp) rfl rfl ho.out hb.out (Nat.le_refl _) hb.out.size (by simp; omega) (by simp; omega) ?_; intro v4 w4 ho4 hb4)
      go_roundw
      case measure => simp [intOf]
      case rel => exact ⟨m, _, by omega, by first | rfl | go_num, by simp; omega, ⟨HS.out⟩, ⟨ho4⟩, ⟨hb4⟩⟩
theorem text_isL {n : Nat} {v : Value} {w : World} (h : IsL w v (dig n)) (hn : (dig n).length ≤ 274877906944) :
    Calls Tryz.prog 131 #[v] w fun e w' => e = .returned (.string (natB n)) ∧ Below w.heap.size w w' := by
  obtain ⟨A, c, rfl, hc, hC⟩ := h
  exact ref_text n A c w (dig n) (val_dig n) (lim_dig n) hc hC hn
end Go.Proofs.YtnimgfnknlkkdaaGreatDoor.H
set_option linter.unusedVariables false
set_option linter.unusedSimpArgs false
open Go
namespace Go.Proofs.YtnimgfnknlkkdaaGreatDoor.H
open Go Go.RowKit Go.Proofs.YtnimgfnknlkkdaaGreatDoorW.PrintWords Go.Proofs.YtnimgfnknlkkdaaGreatDoorW.PrintLast Go.Proofs.YtnimgfnknlkkdaaGreatDoorW.PrintMore Go.Proofs.YtnimgfnknlkkdaaGreatDoor.Num
theorem infoI64 : (Tryz.prog.info? 3).map (fun i => (i.zero, i.size, i.bytes)) = some (some (.int .i64 0), 1, 8) := by kernel_rfl
abbrev OwnI (w : World) (base : Nat) (v : Value) (l : List Int) : Prop := OwnK .i64 3 w base v l
def sortZ (zs : List Int) : List Int := zs.mergeSort (fun x y => decide (x ≤ y))
theorem sort_own {w : World} {base : Nat} {v : Value} {zs : List Int} (ho : OwnI w base v zs) (hl : zs.length ≤ 1099511627776) :
    Calls Tryz.prog 74 #[v] w fun e w' => e = .returned (.tuple #[]) ∧ OwnI w' base v (sortZ zs) ∧ w.grownBy w' v.ownBlock := by
  rcases (Kd.own_of_R ho).2 with ⟨rfl, h0⟩ | ⟨g, cap, cur, rfl, hbase, hb, h1, h2, h3, h4⟩
  · obtain rfl : zs = [] := List.length_eq_zero_iff.1 h0
    exact (Tryz.slices_Sort_int_none none 0 w).mono fun e w' ⟨he, hw⟩ => ⟨he, by rw [hw, show sortZ ([] : List Int) = [] by simp [sortZ]]; exact Kd.R_nil _ _ _ _ _, by rw [hw]; exact grown_refl _ _⟩
  · have h5 : cur.toList.take zs.length = zs.map (Value.int .i64) := by simpa [encs] using h4
    refine (Tryz.slices_Sort_int g 0 cap zs w (holds_of_blockI hb h5) (Array.getElem?_eq_some_iff.1 hb).1 (by omega)).mono fun e w' ⟨he, n, os, hw⟩ => ⟨he, ?_, ?_⟩
    · rw [hw]
      refine Kd.R_of_own ?_ (fun _ _ => trivial)
      have hlen : (sortZ zs).length = zs.length := by simp [sortZ]
      have := ownsRow_sortedI (w := w) (n := n) (os := os) (ss := zs) (ts := sortZ zs) hlen hbase hb h1 h2 h3
      rw [hlen]
      exact this
    · rw [hw]
      exact grownBy_sortedI _
theorem compact_none (p : Option Addr) (c : Nat) (w : World) : Calls Tryz.prog 75 #[.slice p 0 c] w fun e w' => e = .returned (.slice p 0 c) ∧ w' = w := by
  go_enter Tryz.func75, Tryz.ntmps75
  go_wp2
  go_ret
  exact ⟨rfl, rfl⟩
theorem compact_own {w : World} {base : Nat} {v : Value} {zs : List Int} (ho : OwnI w base v zs) (hl : zs.length ≤ 1099511627776) :
    Calls Tryz.prog 75 #[v] w fun e w' => ∃ v', e = .returned v' ∧ OwnI w' base v' (Lib.compact zs) ∧ w.grownBy w' v.ownBlock := by
  rcases (Kd.own_of_R ho).2 with ⟨rfl, h0⟩ | ⟨g, cap, cur, rfl, hbase, hb, h1, h2, h3, h4⟩
  · obtain rfl : zs = [] := List.length_eq_zero_iff.1 h0
    exact (compact_none none 0 w).mono fun e w' ⟨he, hw⟩ => ⟨_, he, by rw [hw, show Lib.compact ([] : List Int) = [] from rfl]; exact Kd.R_nil _ _ _ _ _, by rw [hw]; exact grown_refl _ _⟩
  · have h5 : cur.toList.take zs.length = zs.map (Value.int .i64) := by simpa [encs] using h4
    have hcl := Lib.compact_length_le zs
    refine (Tryz.slices_Compact_int g 0 cap zs w (holds_of_blockI hb h5) (by omega) h1).mono fun e w' ⟨he, q, hw⟩ => ⟨_, he, ?_, ?_⟩
    · have hlen : (Lib.compact zs ++ List.replicate (zs.length - (Lib.compact zs).length) 0).length = zs.length := by simp; omega
      have h6 := ownsRow_sortedI (w := w) (n := q) (os := #[]) (ss := zs) (ts := Lib.compact zs ++ List.replicate (zs.length - (Lib.compact zs).length) 0) hlen hbase hb h1 h2 h3
      rw [Go.Sort.grow_empty] at h6
      have h7 : OwnI w' base (.slice (some ⟨g, 0, none⟩) zs.length cap) (Lib.compact zs ++ List.replicate (zs.length - (Lib.compact zs).length) 0) := by
        rw [hw]
        refine Kd.R_of_own ?_ (fun _ _ => trivial)
        rw [hlen]
        exact h6
      have h8 := Kd.R_take h7 (m := (Lib.compact zs).length) (by omega)
      rwa [List.take_left] at h8
    · have := grownBy_sortedI (w := w) (g := g) (n := q) (os := #[]) (Lib.compact zs ++ List.replicate (zs.length - (Lib.compact zs).length) 0).toArray
      rw [Go.Sort.grow_empty] at this
      rw [hw]
      exact this
def memZ (ps : List PartV) : List Int := (ps.filter (fun p => decide (p.claim ≠ -1))).map (fun p => p.claim)
def memL (ts : List (List PartV)) : List Int := Lib.compact (sortZ (memZ ts.flatten))
theorem memZ_succ (ps : List PartV) {i : Nat} (h : i < ps.length) : memZ (ps.take (i + 1)) = if (rdP ps i).claim = -1 then memZ (ps.take i) else memZ (ps.take i) ++ [(rdP ps i).claim] := by
  unfold memZ rdP
  rw [List.take_succ_eq_append_getElem h, List.filter_append, List.map_append, List.getD_eq_getElem?_getD, List.getElem?_eq_getElem h, Option.getD_some]
  by_cases h2 : ps[i].claim = -1 <;> simp [h2, List.filter_cons]
theorem memZ_len (ps : List PartV) : (memZ ps).length ≤ ps.length := by
  unfold memZ
  rw [List.length_map]
  exact List.length_filter_le _ _
set_option maxRecDepth 100000 in
set_option maxHeartbeats 1000000 in
theorem w_members (ts : List (List PartV)) (A : Option Addr) (c : Nat) (w : World) (hC : kTier.C w A ts.length ts) (hc : ts.length ≤ c) (hsz : ts.flatten.length ≤ 1099511627776) :
    Calls Tryz.prog 43 #[.agg #[.slice A ts.length c]] w fun e w' => ∃ v, e = .returned v ∧ OwnI w' w.heap.size v (memL ts) ∧ Below w.heap.size w w' := by
  have CC := Aside0.mk (fun {w : World} hC => slices_Concat ts A c w hC hc hsz)
  have HC := Aside0.mk hC
  have hm := hC.2.1
  have HM := Lib.hid (show memL ts = Lib.compact (sortZ (memZ ts.flatten)) from rfl)
  generalize memL ts = r at *
  generalize ts.flatten = ps at *
  clear hC
  go_enter Tryz.func43, Tryz.ntmps43
  go_wp2_with (fail)
  refine (CC.out (Kd.C_below HC.out (below_alloc (Below.refl _ _) _))).mono ?_
  rintro e w1 ⟨v1, rfl, ⟨A1, c1, rfl, hc1, hC1⟩, hb1⟩
  have HC1 := Aside0.mk hC1
  have HB1 := Aside0.mk (below_step (below_alloc (Below.refl w.heap.size w) _) hb1)
  have hm1 := hC1.2.1
  clear hC1 hb1 CC HC
  go_wp2
  go_loopw [3, 10] (fun v3 v10 w' => ∃ i : Nat, i ≤ ps.length ∧ v10 = .int .i64 i ∧ Aside0 (OwnI w' w1.heap.size v3 (memZ (ps.take i))) ∧ Aside0 (Below w1.heap.size w1 w')) (fun _ v10 _ => ps.length - (intOf v10).toNat)
  case atStart => exact ⟨0, Nat.zero_le _, rfl, ⟨Kd.R_nil _ _ _ _ _⟩, ⟨Below.refl _ _⟩⟩
  case round =>
    obtain ⟨i, hi, rfl, ho, hb⟩ := hrel
    rcases Nat.lt_or_ge i ps.length with hlt | hge
    · obtain ⟨ad, rfl, x0, x1, x2, x3, x4⟩ := at_Part (Kd.C_below HC1.out hb.out) hlt
      have hp0 : (0 : Int) ≤ (i : Int) := by omega
      have hp1 : (i : Int) < (ps.length : Int) := by omega
      have HS := Lib.hid (memZ_succ ps hlt)
      have hq : (memZ (ps.take i)).length ≤ 1099511627776 := by
        have := memZ_len (ps.take i)
        rw [List.length_take] at this
        omega
      have HQ := Aside0.mk hq
      clear hq
      generalize rdP ps i = p at *
      generalize p.claim = pc at *
      by_cases h : pc = -1
      · have g : (pc == -1) = true := by simp [h]
        have R := Lib.hid (show memZ (ps.take (i + 1)) = memZ (ps.take i) by rw [HS.out, if_pos h])
        clear h HS
        go_wp2
        go_roundw
        case measure => simp [intOf]; omega
        case rel => exact ⟨i + 1, hlt, by go_num, ⟨by rw [R.out]; exact Kd.R_below ho.out (below_alloc (Below.refl _ _) _)⟩, ⟨below_alloc hb.out _⟩⟩
      · have g : (pc == -1) = false := by simp [h]
        have R := Lib.hid (show memZ (ps.take (i + 1)) = memZ (ps.take i) ++ [pc] by rw [HS.out, if_neg h])
        clear h HS
        go_wp2_with (at_builtin; refine appendK Tryz.underlying77 infoI64 rfl rfl [pc] (by rfl) (by simp) (by rfl) (by rw [size_new']; rfl) (Kd.R_below ho.out (below_alloc (Below.refl _ _) _)) (below_alloc hb.out _) (Nat.le_refl _) (by rw [size_new']; exact Nat.le_succ_of_le hb.out.size) (by have := HQ.out; simp; omega) (by have := HQ.out; simp; omega) ?_; clear ho; intro v4 w4 ho4 hb4)
        go_roundw
        case measure => simp [intOf]; omega
        case rel => exact ⟨i + 1, hlt, by go_num, ⟨by rw [R.out]; exact ho4⟩, ⟨hb4⟩⟩
    · obtain rfl : i = ps.length := by omega
      rw [List.take_length] at ho
      have hq : (memZ ps).length ≤ 1099511627776 := Nat.le_trans (memZ_len ps) hsz
      have SO := Aside0.mk (sort_own ho.out hq)
      have hq2 : (sortZ (memZ ps)).length ≤ 1099511627776 := by simp [sortZ]; exact hq
      go_wp2_with (fail)
      refine SO.out.mono ?_
      rintro e w2 ⟨rfl, ho2, hg2⟩
      have HB2 := Aside0.mk (pw_below_grown hb.out _ hb.out.size hg2 (fun k hk => own_base (Kd.own_of_R ho.out) k hk))
      have CO := Aside0.mk (compact_own ho2 hq2)
      have HO2 := Aside0.mk ho2
      clear ho2 hg2 hq hq2
      go_wp2_with (fail)
      refine CO.out.mono ?_
      rintro e w3 ⟨v3, rfl, ho3, hg3⟩
      have HB3 := Aside0.mk (pw_below_grown HB2.out _ HB2.out.size hg3 (fun k hk => own_base (Kd.own_of_R HO2.out) k hk))
      have HR := Aside0.mk (Kd.R_lower ho3 HB1.out.size)
      clear ho3 hg3
      go_wp2
      go_ret
      exact ⟨_, rfl, by rw [HM.out]; exact HR.out, below_step HB1.out HB3.out⟩
end Go.Proofs.YtnimgfnknlkkdaaGreatDoor.H
set_option linter.unusedVariables false
set_option linter.unusedSimpArgs false
open Go
namespace Go.Proofs.YtnimgfnknlkkdaaGreatDoor.H
open Go Go.RowKit Go.Proofs.YtnimgfnknlkkdaaGreatDoorW.PrintWords Go.Proofs.YtnimgfnknlkkdaaGreatDoorW.PrintLast Go.Proofs.YtnimgfnknlkkdaaGreatDoorW.PrintMore Go.Proofs.YtnimgfnknlkkdaaGreatDoor.Num
theorem natB_isEmpty (n : Nat) : (natB n).toList.isEmpty = decide (n = 0) := by rw [isEmpty_iff, Bool.eq_iff_iff, decide_eq_true_iff, decide_eq_true_iff, natB_size_zero]
theorem natB_is_one (n : Nat) : ((natB n).toList == [1]) = decide (n = 1) := by rw [one_eq, Bool.eq_iff_iff, decide_eq_true_iff, decide_eq_true_iff, natB_eq_one]
theorem natB_nil_iff (n : Nat) : (natB n).toList = [] ↔ n = 0 := by rw [nil_iff, natB_size_zero]
theorem natB_one_iff (n : Nat) : (natB n).toList = [1] ↔ n = 1 := by rw [one_iff, natB_eq_one]
theorem QV_of {x : Rat} {n : Bool} {s t : ByteArray} (h1 : canS x = n) (h2 : canN x = s) (h3 : canD x = t) : QV x = RV n s t := by rw [QV, h1, h2, h3]
set_option maxRecDepth 100000 in
set_option maxHeartbeats 1000000 in
theorem rational_reduced (n : Bool) (s t : ByteArray) (w : World) (hs : s.size ≤ 549755813888) (ht : t.size ≤ 549755813888) (h0 : bval t ≠ 0) :
    Calls Tryz.prog 52 #[.bool n, .string s, .string t] w fun e w' => e = .returned (QV (mkQ n (bval s) (bval t))) ∧ Below w.heap.size w w' := by
  have P1 := Lib.hid (fun w => natural_Normalize s w)
  have P2 := Lib.hid (fun w => natural_Normalize t w)
  have D1 := natB_size_self s
  have D2 := natB_size_self t
  generalize bval s = a at *
  generalize bval t = b at *
  have G := Lib.hid (fun w => natural_GCD (natB a) (natB b) w (by omega) (by omega))
  have D3 : (natB (Nat.gcd a b)).size ≤ (natB b).size := natB_size_mono (Nat.gcd_le_right a (Nat.pos_of_ne_zero h0))
  have V1 := Lib.hid (fun w => natural_Divide (natB a) (natB (Nat.gcd a b)) w (by omega) (by omega))
  have V2 := Lib.hid (fun w => natural_Divide (natB b) (natB (Nat.gcd a b)) w (by omega) (by omega))
  simp only [bval_natB] at G V1 V2
  have hg : Nat.gcd a b ≠ 0 := fun e => h0 (Nat.eq_zero_of_gcd_eq_zero_right e)
  simp only [if_neg hg] at V1 V2
  have Z := Aside0.mk (@mkQ_zero n b)
  have C := Aside0.mk (fun ha => @mkQ_can n a b h0 ha)
  generalize hq : mkQ n a b = q at *
  generalize hgg : Nat.gcd a b = g at *
  have HG := Lib.hid hgg
  clear D1 D2 D3 hs ht hgg
  go_enter Tryz.func52, Tryz.ntmps52
  go_wp2_with (first | (go_at_call 88; refine (P1.out _).mono ?_; rintro e w1 ⟨rfl, rfl⟩) | (go_at_call 88; refine (P2.out _).mono ?_; rintro e w1 ⟨rfl, rfl⟩) | (go_at_call 89; refine (G.out _).mono ?_; rintro e w2 ⟨rfl, hb2⟩; obtain ⟨⟨c1, c2, c3⟩, c4, c5, c6⟩ := cells3 (heap_below (heap_new _ _) hb2)) | (go_at_call 90; refine (V1.out _).mono ?_; rintro e w3 ⟨rfl, hb3⟩; clear V1 c1 c2 c3 c4 c5 c6; have hb4 := below_step hb2 hb3; clear hb2 hb3; obtain ⟨⟨c1, c2, c3⟩, c4, c5, c6⟩ := cells3 (heap_below (heap_new _ _) hb4)) | (go_at_call 90; refine (V2.out _).mono ?_; rintro e w5 ⟨rfl, hb5⟩; clear V2 c1 c2 c3 c4 c5 c6; have hb2 := below_step hb4 hb5; clear hb4 hb5; obtain ⟨⟨c1, c2, c3⟩, c4, c5, c6⟩ := cells3 (heap_below (heap_new _ _) hb2)))
  all_goals (simp only [natB_isEmpty, natB_is_one, natB_nil_iff, natB_one_iff, Bool.not_eq_true', decide_eq_true_iff, decide_eq_false_iff_not] at *)
  · rename_i h1
    refine bodyPost_ret (v := RV false ⟨#[]⟩ ⟨#[]⟩) ?_ rfl ⟨ret_v ?_, ?_⟩
    · exact results_q rfl _ _ w.heap.size rfl (by go_simp) (by go_simp) (by go_simp)
    · rw [← hq, h1, Z.out]; exact (QV_of can_zero.1 can_zero.2.1 can_zero.2.2).symm
    · go_simp; first | exact below_alloc (Below.refl _ _) _ | exact below_set (below_set (below_set (below_alloc (Below.refl _ _) _) (Nat.le_refl _)) (Nat.le_refl _)) (Nat.le_refl _)
  · rename_i h1 h2 h3 h4
    obtain ⟨k1, k2, k3⟩ := C.out h1
    rw [if_pos h4] at k3
    refine bodyPost_ret (v := RV n (natB (a / g)) ⟨#[]⟩) ?_ rfl ⟨ret_v (QV_of k1 k2 k3).symm, ?_⟩
    · exact results_q rfl _ _ w.heap.size rfl (by go_simp) (by go_simp) (by go_simp)
    · exact below_set (below_set (below_set (below_step (below_alloc (Below.refl _ _) _) hb2) (Nat.le_refl _)) (Nat.le_refl _)) (Nat.le_refl _)
  · rename_i h1 h2 h3 h4
    obtain ⟨k1, k2, k3⟩ := C.out h1
    rw [if_neg h4] at k3
    refine bodyPost_ret (v := RV n (natB (a / g)) (natB (b / g))) ?_ rfl ⟨ret_v (QV_of k1 k2 k3).symm, ?_⟩
    · exact results_q rfl _ _ w.heap.size rfl (by go_simp) (by go_simp) (by go_simp)
    · exact below_set (below_set (below_set (below_step (below_alloc (Below.refl _ _) _) hb2) (Nat.le_refl _)) (Nat.le_refl _)) (Nat.le_refl _)
  · rename_i h1 h2 h3 h4
    exact absurd h4 h2
  · rename_i h1 h2 h3 h4
    obtain ⟨k1, k2, k3⟩ := C.out h1
    have hg1 : g = 1 := by simpa using h3
    rw [hg1, Nat.div_one] at k2 k3
    rw [if_neg h4] at k3
    refine bodyPost_ret (v := RV n (natB a) (natB b)) ?_ rfl ⟨ret_v (QV_of k1 k2 k3).symm, ?_⟩
    · exact results_q rfl _ _ w.heap.size rfl (by go_simp) (by go_simp) (by go_simp)
    · exact below_set (below_set (below_set (below_step (below_alloc (Below.refl _ _) _) hb2) (Nat.le_refl _)) (Nat.le_refl _)) (Nat.le_refl _)
  · rename_i h1 h2 h3
    obtain ⟨k1, k2, k3⟩ := C.out h1
    have hg1 : g = 1 := by rw [← HG.out, h3, Nat.gcd_one_right]
    rw [hg1, Nat.div_one] at k2 k3
    rw [if_pos h3] at k3
    refine bodyPost_ret (v := RV n (natB a) ⟨#[]⟩) ?_ rfl ⟨ret_v (QV_of k1 k2 k3).symm, ?_⟩
    · exact results_q rfl _ _ w.heap.size rfl (by go_simp) (by go_simp) (by go_simp)
    · go_simp; first | exact below_alloc (Below.refl _ _) _ | exact below_set (below_set (below_set (below_alloc (Below.refl _ _) _) (Nat.le_refl _)) (Nat.le_refl _)) (Nat.le_refl _)
  · rename_i h1 h2 h3
    simp [h3] at h2
end Go.Proofs.YtnimgfnknlkkdaaGreatDoor.H
/- Sums and products of fractions. -/
set_option linter.unusedVariables false
set_option linter.unusedSimpArgs false
namespace Go.Proofs.YtnimgfnknlkkdaaGreatDoor.Num
open Go
theorem mkRat_add_same (a b : Int) {d : Nat} (h : d ≠ 0) : mkRat a d + mkRat b d = mkRat (a + b) d := by
  rw [Rat.mkRat_add_mkRat a b h h, ← Int.add_mul, Rat.mkRat_mul_right h]
theorem mkQ_add_same {s : Bool} {X Y d : Nat} (h : d ≠ 0) : mkQ s X d + mkQ s Y d = mkQ s (X + Y) d := by
  unfold mkQ
  rw [mkRat_add_same _ _ h]
  congr 1
  cases s <;> simp <;> omega
theorem mkQ_add_ge {s r : Bool} {X Y d : Nat} (h : d ≠ 0) (hs : s ≠ r) (hX : Y ≤ X) : mkQ s X d + mkQ r Y d = mkQ s (X - Y) d := by
  unfold mkQ
  rw [mkRat_add_same _ _ h]
  congr 1
  cases s <;> cases r <;> simp at hs ⊢ <;> omega
theorem mkQ_add_lt {s r : Bool} {X Y d : Nat} (h : d ≠ 0) (hs : s ≠ r) (hX : X < Y) : mkQ s X d + mkQ r Y d = mkQ r (Y - X) d := by
  rw [Rat.add_comm]
  exact mkQ_add_ge h (Ne.symm hs) (Nat.le_of_lt hX)
theorem mkQ_scale {s : Bool} {X d k : Nat} (hk : k ≠ 0) : mkQ s (X * k) (d * k) = mkQ s X d := by
  unfold mkQ
  have e : (if s then -((X * k : Nat) : Int) else ((X * k : Nat) : Int)) = (if s then -(X : Int) else (X : Int)) * (k : Int) := by cases s <;> simp [Int.neg_mul]
  rw [e]
  exact Rat.mkRat_mul_right hk
theorem mkQ_mul {s r : Bool} {X Y d e : Nat} : mkQ s X d * mkQ r Y e = mkQ (s != r) (X * Y) (d * e) := by
  unfold mkQ
  rw [Rat.mkRat_mul_mkRat]
  congr 1
  cases s <;> cases r <;> simp [Int.neg_mul, Int.mul_neg]
/-- The sum, over one denominator or over the product of the two. -/
theorem sum_over (x y : Rat) : ∃ X Y d : Nat, d ≠ 0 ∧ x = mkQ (canS x) X d ∧ y = mkQ (canS y) Y d ∧
    (if canD x = canD y then X = x.num.natAbs ∧ Y = y.num.natAbs ∧ d = x.den else X = x.num.natAbs * y.den ∧ Y = y.num.natAbs * x.den ∧ d = x.den * y.den) := by
  by_cases h : canD x = canD y
  · have e : x.den = y.den := by rw [← den_can x, ← den_can y, h]
    exact ⟨x.num.natAbs, y.num.natAbs, x.den, x.den_nz, mkQ_of.symm, by rw [e]; exact mkQ_of.symm, by rw [if_pos h]; exact ⟨rfl, rfl, rfl⟩⟩
  · refine ⟨x.num.natAbs * y.den, y.num.natAbs * x.den, x.den * y.den, Nat.mul_ne_zero x.den_nz y.den_nz, ?_, ?_, by rw [if_neg h]; exact ⟨rfl, rfl, rfl⟩⟩
    · rw [mkQ_scale y.den_nz, mkQ_of]
    · rw [Nat.mul_comm x.den, mkQ_scale x.den_nz, mkQ_of]
theorem natB_size_mul {a b i j : Nat} (ha : (natB a).size ≤ i) (hb : (natB b).size ≤ j) : (natB (a * b)).size ≤ i + j := by
  refine natB_size_le ?_
  have h1 := bval_lt (natB a)
  have h2 := bval_lt (natB b)
  rw [bval_natB] at h1 h2
  have h3 : a < 256 ^ i := Nat.lt_of_lt_of_le h1 (Nat.pow_le_pow_right (by omega) ha)
  have h4 : b < 256 ^ j := Nat.lt_of_lt_of_le h2 (Nat.pow_le_pow_right (by omega) hb)
  rw [Nat.pow_add]
  exact Nat.mul_lt_mul'' h3 h4
theorem natB_size_add {a b i : Nat} (ha : (natB a).size ≤ i) (hb : (natB b).size ≤ i) : (natB (a + b)).size ≤ i + 1 := by
  refine natB_size_le ?_
  have h1 := bval_lt (natB a)
  have h2 := bval_lt (natB b)
  rw [bval_natB] at h1 h2
  have h3 : a < 256 ^ i := Nat.lt_of_lt_of_le h1 (Nat.pow_le_pow_right (by omega) ha)
  have h4 : b < 256 ^ i := Nat.lt_of_lt_of_le h2 (Nat.pow_le_pow_right (by omega) hb)
  rw [Nat.pow_succ]
  omega
theorem denB_can (x : Rat) : (if (canD x).size = 0 then natB 1 else canD x) = natB x.den := by
  unfold canD
  split
  · rename_i h; rw [if_pos (by rfl), h]
  · rw [if_neg (by rw [natB_size_zero]; exact x.den_nz)]
end Go.Proofs.YtnimgfnknlkkdaaGreatDoor.Num
set_option linter.unusedVariables false
set_option linter.unusedSimpArgs false
open Go
namespace Go.Proofs.YtnimgfnknlkkdaaGreatDoor.H
open Go Go.RowKit Go.Proofs.YtnimgfnknlkkdaaGreatDoorW.PrintWords Go.Proofs.YtnimgfnknlkkdaaGreatDoorW.PrintLast Go.Proofs.YtnimgfnknlkkdaaGreatDoorW.PrintMore Go.Proofs.YtnimgfnknlkkdaaGreatDoor.Num
/-- Cells that are there stay, whatever is made behind them. -/
theorem keep6 {w0 w1 w2 : World} {a0 a1 a2 a3 a4 a5 : Addr} {v0 v1 v2 v3 v4 v5 : Value} (h : (w1.cell? a0 = some v0 ∧ w1.cell? a1 = some v1 ∧ w1.cell? a2 = some v2) ∧ (w1.cell? a3 = some v3 ∧ w1.cell? a4 = some v4 ∧ w1.cell? a5 = some v5) ∧ Aside0 (Below w0.heap.size w0 w1)) (hb : Below w1.heap.size w1 w2) :
    (w2.cell? a0 = some v0 ∧ w2.cell? a1 = some v1 ∧ w2.cell? a2 = some v2) ∧ (w2.cell? a3 = some v3 ∧ w2.cell? a4 = some v4 ∧ w2.cell? a5 = some v5) ∧ Aside0 (Below w0.heap.size w0 w2) :=
  ⟨⟨pw_cell_below hb h.1.1, pw_cell_below hb h.1.2.1, pw_cell_below hb h.1.2.2⟩, ⟨pw_cell_below hb h.2.1.1, pw_cell_below hb h.2.1.2.1, pw_cell_below hb h.2.1.2.2⟩, ⟨below_step h.2.2.out hb⟩⟩
theorem keep1 {w0 w1 w2 : World} {a0 : Addr} {v0 : Value} (h : w1.cell? a0 = some v0 ∧ Aside0 (Below w0.heap.size w0 w1)) (hb : Below w1.heap.size w1 w2) : w2.cell? a0 = some v0 ∧ Aside0 (Below w0.heap.size w0 w2) :=
  ⟨pw_cell_below hb h.1, ⟨below_step h.2.out hb⟩⟩
/-- Three cells of another block are written. -/
theorem keepS {w0 w1 : World} {g g2 : Nat} {v0 x y z : Value} (hg : g ≠ g2) (hB : w0.heap.size ≤ g2) (h : w1.cell? ⟨g, 0, none⟩ = some v0 ∧ Aside0 (Below w0.heap.size w0 w1)) :
    (((w1.setCell ⟨g2, 0, none⟩ x).setCell ⟨g2, 1, none⟩ y).setCell ⟨g2, 2, none⟩ z).cell? ⟨g, 0, none⟩ = some v0 ∧ Aside0 (Below w0.heap.size w0 (((w1.setCell ⟨g2, 0, none⟩ x).setCell ⟨g2, 1, none⟩ y).setCell ⟨g2, 2, none⟩ z)) := by
  obtain ⟨h1, h2⟩ := h
  refine ⟨?_, ⟨below_set (below_set (below_set h2.out hB) hB) hB⟩⟩
  have hg' : g2 ≠ g := hg.symm
  simp [World.cell?_setCell_other, hg, hg', h1]
theorem three (w : World) (o1 o2 o3 : Obj) (n : Nat) : ((((w.alloc o1).alloc o2).alloc o3).drewN n).heap[w.heap.size]? = some o1 ∧ ((((w.alloc o1).alloc o2).alloc o3).drewN n).heap[w.heap.size + 1]? = some o2 ∧ ((((w.alloc o1).alloc o2).alloc o3).drewN n).heap[w.heap.size + 1 + 1]? = some o3 ∧ Below w.heap.size w ((((w.alloc o1).alloc o2).alloc o3).drewN n) := by
  have e1 := heap_new w o1
  have e2 := heap_new (w.alloc o1) o2
  have e3 := heap_new ((w.alloc o1).alloc o2) o3
  rw [size_new] at e2
  rw [size_new, size_new] at e3
  exact ⟨heap_old (heap_old e1), heap_old e2, e3, pw_below_drewN (below_alloc (below_alloc (below_alloc (Below.refl _ _) _) _) _) n⟩
set_option maxRecDepth 100000 in
set_option maxHeartbeats 1000000 in
theorem rational_add (x y : Rat) (w : World) (hx1 : (canN x).size ≤ 137438953472) (hx2 : (natB x.den).size ≤ 137438953472) (hy1 : (canN y).size ≤ 137438953472) (hy2 : (natB y.den).size ≤ 137438953472) :
    Calls Tryz.prog 56 #[QV x, QV y] w fun e w' => e = .returned (QV (x + y)) ∧ Below w.heap.size w w' := by
  obtain ⟨X, Y, d, hd0, hX, hY, hc⟩ := sum_over x y
  have zX : (natB X).size ≤ 274877906944 := by
    split at hc
    · rw [hc.1]; exact Nat.le_trans hx1 (by omega)
    · rw [hc.1]; exact Nat.le_trans (natB_size_mul hx1 hy2) (by omega)
  have zY : (natB Y).size ≤ 274877906944 := by
    split at hc
    · rw [hc.2.1]; exact Nat.le_trans hy1 (by omega)
    · rw [hc.2.1]; exact Nat.le_trans (natB_size_mul hy1 hx2) (by omega)
  have zd : (natB d).size ≤ 274877906944 := by
    split at hc
    · rw [hc.2.2]; exact Nat.le_trans hx2 (by omega)
    · rw [hc.2.2]; exact Nat.le_trans (natB_size_mul hx2 hy2) (by omega)
  have zXY := natB_size_add zX zY
  have DX := Lib.hid (fun w => rational_den (canS x) (canN x) (canD x) w)
  have DY := Lib.hid (fun w => rational_den (canS y) (canN y) (canD y) w)
  simp only [denB, denB_can] at DX DY
  have AD := Lib.hid (fun w => natural_Add (natB X) (natB Y) w (by omega) (by omega))
  have S1 := Lib.hid (fun w => natural_Subtract (natB X) (natB Y) w (by omega) (by omega))
  have S2 := Lib.hid (fun w => natural_Subtract (natB Y) (natB X) w (by omega) (by omega))
  have RD := Lib.hid (fun n Z w (hZ : (natB Z).size ≤ 549755813888) => rational_reduced n (natB Z) (natB d) w hZ (by omega) (by rw [bval_natB]; exact hd0))
  simp only [bval_natB] at AD S1 S2 RD
  have zs1 : (natB (X - Y)).size ≤ 549755813888 := Nat.le_trans (natB_size_mono (Nat.sub_le X Y)) (by omega)
  have zs2 : (natB (Y - X)).size ≤ 549755813888 := Nat.le_trans (natB_size_mono (Nat.sub_le Y X)) (by omega)
  have e12 : x + y = mkQ (canS x) X d + mkQ (canS y) Y d := by rw [← hX, ← hY]
  have F0 := Aside0.mk (fun (h : canS x = canS y) w => (show x + y = mkQ (canS x) (X + Y) d by rw [e12, ← h, mkQ_add_same hd0]) ▸ RD.out (canS x) (X + Y) w (by omega))
  have F1 := Aside0.mk (fun (h : canS x ≠ canS y) (hXY : Y ≤ X) w => (show x + y = mkQ (canS x) (X - Y) d by rw [e12, mkQ_add_ge hd0 h hXY]) ▸ RD.out (canS x) (X - Y) w zs1)
  have F2 := Aside0.mk (fun (h : canS x ≠ canS y) (hXY : X < Y) w => (show x + y = mkQ (canS y) (Y - X) d by rw [e12, mkQ_add_lt hd0 h hXY]) ▸ RD.out (canS y) (Y - X) w zs2)
  clear hX hY zs1 zs2 zX zY zd zXY RD e12
  have MX := Lib.hid (fun w => natural_Multiply (canN x) (natB y.den) w (by omega) (by omega))
  have MY := Lib.hid (fun w => natural_Multiply (canN y) (natB x.den) w (by omega) (by omega))
  have MD := Lib.hid (fun w => natural_Multiply (natB x.den) (natB y.den) w (by omega) (by omega))
  simp only [bval_natB, canN] at MX MY MD DX DY
  have HE := Aside0.mk (fun h : canD x = canD y => show natB x.num.natAbs = natB X ∧ natB y.num.natAbs = natB Y ∧ natB x.den = natB d by rw [if_pos h] at hc; rw [hc.1, hc.2.1, hc.2.2]; exact ⟨rfl, rfl, rfl⟩)
  have HN := Aside0.mk (fun h : ¬ canD x = canD y => show X = x.num.natAbs * y.den ∧ Y = y.num.natAbs * x.den ∧ d = x.den * y.den by rw [if_neg h] at hc; exact hc)
  clear hc hx1 hx2 hy1 hy2
  have gD := str_eq (canD x) (canD y)
  simp only [QV, canN] at F0 F1 F2 ⊢
  generalize x.num.natAbs * y.den = X' at *
  generalize y.num.natAbs * x.den = Y' at *
  generalize x.den * y.den = d' at *
  generalize natB x.num.natAbs = p at *
  generalize natB y.num.natAbs = r at *
  generalize canD x = tx at *
  generalize canD y = ty at *
  generalize natB x.den = dx at *
  generalize natB y.den = dy at *
  generalize natB (x + y).num.natAbs = zN at *
  generalize canD (x + y) = zD at *
  generalize canS (x + y) = zS at *
  generalize canS x = n1 at *
  generalize canS y = n2 at *
  have NQ := @below_set
  clear NQ
  go_enter Tryz.func56, Tryz.ntmps56
  go_wp2_with (fail)
  go_quiet (fail)
  obtain ⟨wr, hwr⟩ : ∃ wr, wr = (((w.alloc (.cells #[.bool n1, .string p, .string tx] 23)).alloc (.cells #[.bool n2, .string r, .string ty] 23)).alloc (.cells #[.bool false, .string ⟨#[]⟩, .string ⟨#[]⟩] 23)).drewN nq := ⟨_, rfl⟩
  have T3 := three w (.cells #[.bool n1, .string p, .string tx] 23) (.cells #[.bool n2, .string r, .string ty] 23) (.cells #[.bool false, .string ⟨#[]⟩, .string ⟨#[]⟩] 23) nq
  rw [← hwr] at T3 ⊢
  clear hwr
  obtain ⟨h1, h2, h3, hB⟩ := T3
  have S0 := Lib.hid (And.intro (cells3 h1).1 (And.intro (cells3 h2).1 (Aside0.mk hB)))
  have H3 := Lib.hid h3
  clear h1 h2 h3 hB
  obtain ⟨⟨k1, k2, k3⟩, ⟨m1, m2, m3⟩, -⟩ := S0.out
  go_upto_if 20 with (fail)
  go_cut [5, 6, 7] (fun v5 v6 v7 wc => v5 = .string (natB X) ∧ v6 = .string (natB Y) ∧ v7 = .string (natB d) ∧ Aside0 (((fun w' => (w'.cell? ⟨w.heap.size, 0, none⟩ = some (.bool n1) ∧ w'.cell? ⟨w.heap.size, 1, none⟩ = some (.string p) ∧ w'.cell? ⟨w.heap.size, 2, none⟩ = some (.string tx)) ∧ (w'.cell? ⟨w.heap.size + 1, 0, none⟩ = some (.bool n2) ∧ w'.cell? ⟨w.heap.size + 1, 1, none⟩ = some (.string r) ∧ w'.cell? ⟨w.heap.size + 1, 2, none⟩ = some (.string ty)) ∧ Aside0 (Below w.heap.size w w'))) wc) ∧ Aside0 (wc.heap[w.heap.size + 1 + 1]? = some (.cells #[.bool false, .string ⟨#[]⟩, .string ⟨#[]⟩] 23)))
  case first =>
    by_cases h : tx = ty
    · have g : decide (tx = ty) = true := decide_eq_true h
      have Q := Aside0.mk (HE.out h)
      clear gD h
      rw [g, Bool.not_true]
      go_wp2_with (fail)
      refine (DX.out _).mono ?_
      rintro e w1 ⟨rfl, hb1⟩
      go_wp2_with (fail)
      go_meet
      case rel => exact ⟨by rw [Q.out.1], by rw [Q.out.2.1], by rw [Q.out.2.2], ⟨keep6 S0.out hb1⟩, ⟨heap_below H3.out hb1⟩⟩
    · have g : decide (tx = ty) = false := decide_eq_false h
      obtain ⟨q1, q2, q3⟩ := HN.out h
      rw [← q1] at MX
      rw [← q2] at MY
      rw [← q3] at MD
      clear gD h q1 q2 q3
      rw [g, Bool.not_false]
      go_wp2_with (fail)
      clear k1 k2 k3 m1 m2 m3
      go_region_held3 (fun w' => (w'.cell? ⟨w.heap.size, 0, none⟩ = some (.bool n1) ∧ w'.cell? ⟨w.heap.size, 1, none⟩ = some (.string p) ∧ w'.cell? ⟨w.heap.size, 2, none⟩ = some (.string tx)) ∧ (w'.cell? ⟨w.heap.size + 1, 0, none⟩ = some (.bool n2) ∧ w'.cell? ⟨w.heap.size + 1, 1, none⟩ = some (.string r) ∧ w'.cell? ⟨w.heap.size + 1, 2, none⟩ = some (.string ty)) ∧ Aside0 (Below w.heap.size w w'))
        (first | exact keep6 S0.out (pw_below_drewN (Below.refl _ _) 1) | exact keep6 (by assumption) (by assumption))
        (first | (go_at_call_of 54 ty; refine (DY.out _).mono ?_; rintro e w1 ⟨rfl, hb1⟩) | (go_at_call_of 54 tx; refine (DX.out _).mono ?_; rintro e w2 ⟨rfl, hb2⟩) | (go_at_call_of 53 p; refine (MX.out _).mono ?_; rintro e w3 ⟨rfl, hb3⟩) | (go_at_call_of 53 r; refine (MY.out _).mono ?_; rintro e w4 ⟨rfl, hb4⟩))
      rename_i hS
      have H4 := Lib.hid (heap_below (heap_below (heap_below (heap_below (show wr.drew.heap[w.heap.size + 1 + 1]? = _ from H3.out) hb1) hb3) hb2) hb4)
      have S4 := Lib.hid hS
      clear hS hb1 hb2 hb3 hb4 S0 H3
      go_wp2_with (fail)
      go_region_held3 (fun w' => (w'.cell? ⟨w.heap.size, 0, none⟩ = some (.bool n1) ∧ w'.cell? ⟨w.heap.size, 1, none⟩ = some (.string p) ∧ w'.cell? ⟨w.heap.size, 2, none⟩ = some (.string tx)) ∧ (w'.cell? ⟨w.heap.size + 1, 0, none⟩ = some (.bool n2) ∧ w'.cell? ⟨w.heap.size + 1, 1, none⟩ = some (.string r) ∧ w'.cell? ⟨w.heap.size + 1, 2, none⟩ = some (.string ty)) ∧ Aside0 (Below w.heap.size w w'))
        (first | exact keep6 S4.out (pw_below_drewN (Below.refl _ _) 1) | exact keep6 (by assumption) (by assumption))
        (first | (go_at_call_of 54 ty; refine (DY.out _).mono ?_; rintro e w6 ⟨rfl, hb6⟩) | (go_at_call_of 54 tx; refine (DX.out _).mono ?_; rintro e w5 ⟨rfl, hb5⟩) | (go_at_call_of 53 dx; refine (MD.out _).mono ?_; rintro e w7 ⟨rfl, hb7⟩))
      rename_i hS
      have H7 := Lib.hid (heap_below (heap_below (heap_below (show w4.drew.heap[w.heap.size + 1 + 1]? = _ from H4.out) hb5) hb6) hb7)
      have S7 := Lib.hid hS
      clear hS hb5 hb6 hb7 S4 H4
      go_wp2_with (fail)
      go_meet
      case rel => exact ⟨rfl, rfl, rfl, ⟨S7.out⟩, ⟨H7.out⟩⟩
  case rest =>
    clear DX DY MX MY MD HE HN S0 H3 k1 k2 k3 m1 m2 m3 gD
    obtain ⟨rfl, rfl, rfl, hS, hH⟩ := hcut
    obtain ⟨⟨k1, k2, k3⟩, ⟨m1, m2, m3⟩, hB⟩ := hS.out
    rename_i wc _ _
    by_cases hn : n1 = n2
    · have F := Lib.hid (F0.out hn)
      have g : (n1 == n2) = true := by simp [hn]
      clear F0 F1 F2 hn
      go_wp2_with (fail)
      go_region_held3 (fun w' => w'.cell? ⟨w.heap.size, 0, none⟩ = some (.bool n1) ∧ Aside0 (Below w.heap.size w w'))
        (first | exact ⟨k1, ⟨pw_below_drewN hB.out 1⟩⟩ | exact keep1 (by assumption) (by assumption) | exact keepS (by omega) (Nat.le_add_right _ 2) (by assumption))
        (first | (go_at_call 93; refine (AD.out _).mono ?_; rintro e w8 ⟨rfl, hb8⟩) | (go_at_call 52; refine (F.out _).mono ?_; rintro e w9 ⟨rfl, hb9⟩; obtain ⟨⟨c1, c2, c3⟩, c4, c5, c6⟩ := cells3 (heap_below (heap_below (show wc.drew.heap[w.heap.size + 1 + 1]? = _ from hH.out) hb8) hb9)))
      rename_i hS9
      go_wp2_with (fail)
      refine bodyPost_ret (v := RV zS zN zD) ?_ rfl ⟨rfl, ?_⟩
      · exact results_q rfl _ _ (w.heap.size + 1 + 1) rfl (by go_simp) (by go_simp) (by go_simp)
      · exact hS9.2.out
    · have g : (n1 == n2) = false := by simp [hn]
      by_cases hXY : Y ≤ X
      · have F := Lib.hid (F1.out hn hXY)
        have g2 : decide (Y ≤ X) = true := decide_eq_true hXY
        clear F0 F1 F2 hn hXY
        go_wp2_with (go_at_call 94; refine (S1.out _).mono ?_; rintro e w8 ⟨rfl, hb8⟩; have a1 := pw_cell_below hb8 k1; rw [g2]; clear g2)
        refine (F.out _).mono ?_
        rintro e w9 ⟨rfl, hb9⟩
        obtain ⟨⟨c1, c2, c3⟩, c4, c5, c6⟩ := cells3 (heap_below (heap_below hH.out hb8) hb9)
        go_wp2_with (fail)
        refine bodyPost_ret (v := RV zS zN zD) ?_ rfl ⟨rfl, ?_⟩
        · exact results_q rfl _ _ (w.heap.size + 1 + 1) rfl (by go_simp) (by go_simp) (by go_simp)
        · exact below_set (below_set (below_set (below_step (below_step hB.out hb8) hb9) (Nat.le_add_right _ 2)) (Nat.le_add_right _ 2)) (Nat.le_add_right _ 2)
      · have F := Lib.hid (F2.out hn (by omega))
        have g2 : decide (Y ≤ X) = false := decide_eq_false hXY
        clear F0 F1 F2 hn hXY
        go_wp2_with (fail)
        refine (S1.out _).mono ?_
        rintro e w8 ⟨rfl, hb8⟩
        rw [g2]
        clear g2
        go_wp2_with (fail)
        refine (S2.out _).mono ?_
        rintro e w7 ⟨rfl, hb7⟩
        have hb87 := below_step hb8 hb7
        have a1 := pw_cell_below hb87 m1
        go_wp2_with (fail)
        refine (F.out _).mono ?_
        rintro e w9 ⟨rfl, hb9⟩
        obtain ⟨⟨c1, c2, c3⟩, c4, c5, c6⟩ := cells3 (heap_below (heap_below hH.out hb87) hb9)
        go_wp2_with (fail)
        refine bodyPost_ret (v := RV zS zN zD) ?_ rfl ⟨rfl, ?_⟩
        · exact results_q rfl _ _ (w.heap.size + 1 + 1) rfl (by go_simp) (by go_simp) (by go_simp)
        · exact below_set (below_set (below_set (below_step (below_step hB.out hb87) hb9) (Nat.le_add_right _ 2)) (Nat.le_add_right _ 2)) (Nat.le_add_right _ 2)
end Go.Proofs.YtnimgfnknlkkdaaGreatDoor.H
set_option linter.unusedVariables false
set_option linter.unusedSimpArgs false
open Go
namespace Go.Proofs.YtnimgfnknlkkdaaGreatDoor.H
open Go Go.RowKit Go.Proofs.YtnimgfnknlkkdaaGreatDoorW.PrintWords Go.Proofs.YtnimgfnknlkkdaaGreatDoorW.PrintLast Go.Proofs.YtnimgfnknlkkdaaGreatDoorW.PrintMore Go.Proofs.YtnimgfnknlkkdaaGreatDoor.Num
/-- Three cells of another block are written. -/
theorem keepS6 {w0 w1 : World} {g h g2 : Nat} {v0 v1 v2 u0 u1 u2 x y z : Value} (hg : g ≠ g2) (hh : h ≠ g2) (hB : w0.heap.size ≤ g2)
    (hw : (w1.cell? ⟨g, 0, none⟩ = some v0 ∧ w1.cell? ⟨g, 1, none⟩ = some v1 ∧ w1.cell? ⟨g, 2, none⟩ = some v2) ∧ (w1.cell? ⟨h, 0, none⟩ = some u0 ∧ w1.cell? ⟨h, 1, none⟩ = some u1 ∧ w1.cell? ⟨h, 2, none⟩ = some u2) ∧ Aside0 (Below w0.heap.size w0 w1)) {W : World} (hW : W = ((w1.setCell ⟨g2, 0, none⟩ x).setCell ⟨g2, 1, none⟩ y).setCell ⟨g2, 2, none⟩ z) :
    (W.cell? ⟨g, 0, none⟩ = some v0 ∧ W.cell? ⟨g, 1, none⟩ = some v1 ∧ W.cell? ⟨g, 2, none⟩ = some v2) ∧ (W.cell? ⟨h, 0, none⟩ = some u0 ∧ W.cell? ⟨h, 1, none⟩ = some u1 ∧ W.cell? ⟨h, 2, none⟩ = some u2) ∧ Aside0 (Below w0.heap.size w0 W) := by
  subst hW
  obtain ⟨⟨h1, h2, h3⟩, ⟨h4, h5, h6⟩, h7⟩ := hw
  have hg' : g2 ≠ g := hg.symm
  have hh' : g2 ≠ h := hh.symm
  refine ⟨⟨?_, ?_, ?_⟩, ⟨?_, ?_, ?_⟩, ⟨below_set (below_set (below_set h7.out hB) hB) hB⟩⟩ <;> simp [World.cell?_setCell_other, hg, hg', hh, hh', h1, h2, h3, h4, h5, h6]
/-- The size of a number's parts, in bytes. -/
def Sz (x : Rat) (k : Nat) : Prop := (canN x).size ≤ k ∧ (natB x.den).size ≤ k
set_option maxRecDepth 100000 in
set_option maxHeartbeats 1000000 in
theorem rational_Add (n1 : Bool) (s1 t1 : ByteArray) (n2 : Bool) (s2 t2 : ByteArray) (w : World) (hs1 : s1.size ≤ 137438953472) (ht1 : t1.size ≤ 137438953472) (hs2 : s2.size ≤ 137438953472) (ht2 : t2.size ≤ 137438953472)
    (z1 : Sz (rq n1 s1 t1) 137438953472) (z2 : Sz (rq n2 s2 t2) 137438953472) :
    Calls Tryz.prog 24 #[RV n1 s1 t1, RV n2 s2 t2] w fun e w' => e = .returned (QV (rq n1 s1 t1 + rq n2 s2 t2)) ∧ Below w.heap.size w w' := by
  have C1 := Lib.hid (fun w => rational_clean n1 s1 t1 w (by omega) (by omega))
  have C2 := Lib.hid (fun w => rational_clean n2 s2 t2 w (by omega) (by omega))
  have AD := Lib.hid (fun w => rational_add (rq n1 s1 t1) (rq n2 s2 t2) w z1.1 z1.2 z2.1 z2.2)
  clear z1 z2 hs1 ht1 hs2 ht2
  generalize rq n1 s1 t1 = x at *
  generalize rq n2 s2 t2 = y at *
  generalize x + y = z at *
  simp only [QV] at AD C1 C2 ⊢
  generalize canS z = zS at *
  generalize canN z = zN at *
  generalize canD z = zD at *
  generalize canS x = xS at *
  generalize canN x = xN at *
  generalize canD x = xD at *
  generalize canS y = yS at *
  generalize canN y = yN at *
  generalize canD y = yD at *
  go_enter Tryz.func24, Tryz.ntmps24
  go_wp2_with (fail)
  obtain ⟨wr, hwr⟩ : ∃ wr, wr = (((w.alloc (.cells #[.bool n1, .string s1, .string t1] 23)).alloc (.cells #[.bool n2, .string s2, .string t2] 23)).alloc (.cells #[.bool false, .string ⟨#[]⟩, .string ⟨#[]⟩] 23)) := ⟨_, rfl⟩
  have T3 := three w (.cells #[.bool n1, .string s1, .string t1] 23) (.cells #[.bool n2, .string s2, .string t2] 23) (.cells #[.bool false, .string ⟨#[]⟩, .string ⟨#[]⟩] 23) 0
  rw [show ∀ w : World, w.drewN 0 = w from fun _ => rfl, ← hwr] at T3
  rw [← hwr]
  clear hwr
  obtain ⟨h1, h2, h3, hB⟩ := T3
  have S0 := Lib.hid (And.intro (cells3 h1).1 (And.intro (cells3 h2).1 (Aside0.mk hB)))
  have H3 := Lib.hid h3
  clear h1 h2 h3 hB
  go_region_held3 (fun w' => (w'.cell? ⟨w.heap.size, 0, none⟩ = some (.bool n1) ∧ w'.cell? ⟨w.heap.size, 1, none⟩ = some (.string s1) ∧ w'.cell? ⟨w.heap.size, 2, none⟩ = some (.string t1)) ∧ (w'.cell? ⟨w.heap.size + 1, 0, none⟩ = some (.bool n2) ∧ w'.cell? ⟨w.heap.size + 1, 1, none⟩ = some (.string s2) ∧ w'.cell? ⟨w.heap.size + 1, 2, none⟩ = some (.string t2)) ∧ Aside0 (Below w.heap.size w w'))
    (first | exact keep6 S0.out (pw_below_drewN (Below.refl _ _) 1) | exact keep6 (by assumption) (by assumption) | exact keepS6 (by omega) (by omega) (Nat.le_add_right _ 2) (by assumption) rfl)
    (first | (go_at_call_of 51 s1; refine (C1.out _).mono ?_; rintro e w1 ⟨rfl, hb1⟩) | (go_at_call_of 51 s2; refine (C2.out _).mono ?_; rintro e w2 ⟨rfl, hb2⟩) | (go_at_call 56; refine (AD.out _).mono ?_; rintro e w3 ⟨rfl, hb3⟩; obtain ⟨⟨c1, c2, c3⟩, c4, c5, c6⟩ := cells3 (heap_below (heap_below (heap_below (show wr.drew.heap[w.heap.size + 1 + 1]? = _ from H3.out) hb1) hb2) hb3)))
  rename_i hS9
  go_wp2_with (fail)
  refine bodyPost_ret (v := RV zS zN zD) ?_ rfl ⟨rfl, ?_⟩
  · exact results_q rfl _ _ (w.heap.size + 1 + 1) rfl (by go_simp) (by go_simp) (by go_simp)
  · exact hS9.2.2.out
end Go.Proofs.YtnimgfnknlkkdaaGreatDoor.H
/- Products, quotients, signs and comparisons of fractions. -/
set_option linter.unusedVariables false
set_option linter.unusedSimpArgs false
namespace Go.Proofs.YtnimgfnknlkkdaaGreatDoor.Num
open Go
theorem can_neg (x : Rat) : canS (-x) = (!canS x && decide (x.num ≠ 0)) ∧ canN (-x) = canN x ∧ canD (-x) = canD x := by
  refine ⟨?_, ?_, ?_⟩
  · unfold canS
    rw [Rat.neg_num, Bool.eq_iff_iff]
    simp only [decide_eq_true_eq, Bool.and_eq_true, Bool.not_eq_true', decide_eq_false_iff_not]
    omega
  · unfold canN
    rw [Rat.neg_num, Int.natAbs_neg]
  · unfold canD
    rw [Rat.neg_den]
theorem mul_over (x y : Rat) : x * y = mkQ (canS x != canS y) (x.num.natAbs * y.num.natAbs) (x.den * y.den) := by
  conv => lhs; rw [← @mkQ_of x, ← @mkQ_of y]
  rw [mkQ_mul]
theorem inv_over {y : Rat} (h : y.num ≠ 0) : y⁻¹ = mkQ (canS y) y.den y.num.natAbs := by
  have e : y⁻¹ * y = 1 := Rat.inv_mul_cancel y (fun e => h (by rw [e]; rfl))
  have e2 : mkQ (canS y) y.den y.num.natAbs * y = 1 := by
    conv => lhs; rhs; rw [← @mkQ_of y]
    rw [mkQ_mul]
    have hn : y.num.natAbs ≠ 0 := by omega
    simp only [bne_self_eq_false]
    have h2 := @mkQ_scale false 1 1 (y.den * y.num.natAbs) (Nat.mul_ne_zero y.den_nz hn)
    rw [Nat.one_mul] at h2
    rw [Nat.mul_comm y.num.natAbs y.den, h2]
    rfl
  have h3 : mkQ (canS y) y.den y.num.natAbs * y * y⁻¹ = y⁻¹ := by rw [e2, Rat.one_mul]
  rw [Rat.mul_assoc, Rat.mul_inv_cancel y (fun e => h (by rw [e]; rfl)), Rat.mul_one] at h3
  exact h3.symm
theorem div_over (x : Rat) {y : Rat} (h : y.num ≠ 0) : x / y = mkQ (canS x != canS y) (x.num.natAbs * y.den) (x.den * y.num.natAbs) := by
  rw [Rat.div_def, inv_over h]
  conv => lhs; lhs; rw [← @mkQ_of x]
  rw [mkQ_mul]
/-- The sign of a difference. -/
def cmpQ (x y : Rat) : Int := if x < y then -1 else if y < x then 1 else 0
theorem num_neg_iff {x : Rat} : x.num < 0 ↔ x < 0 := by
  have h := @Rat.num_nonneg x
  rw [← Int.not_le, ← Rat.not_le]
  exact not_congr h
theorem num_pos_iff {x : Rat} : 0 < x.num ↔ 0 < x := by
  have h := @num_neg_iff (-x)
  rw [Rat.neg_num] at h
  constructor
  · intro h1; have := h.1 (by omega); grind
  · intro h1; have := h.2 (by grind); omega
theorem num_sign_neg {x : Rat} : x.num.sign < 0 ↔ x < 0 := by
  rw [← num_neg_iff]
  constructor
  · intro h; exact Int.neg_of_sign_eq_neg_one (by rcases Int.lt_trichotomy x.num 0 with h2 | h2 | h2 <;> simp_all [Int.sign_eq_neg_one_of_neg, Int.sign_eq_one_of_pos])
  · intro h; rw [Int.sign_eq_neg_one_of_neg h]; omega
end Go.Proofs.YtnimgfnknlkkdaaGreatDoor.Num
set_option linter.unusedVariables false
set_option linter.unusedSimpArgs false
open Go
namespace Go.Proofs.YtnimgfnknlkkdaaGreatDoor.H
open Go Go.RowKit Go.Proofs.YtnimgfnknlkkdaaGreatDoorW.PrintWords Go.Proofs.YtnimgfnknlkkdaaGreatDoorW.PrintLast Go.Proofs.YtnimgfnknlkkdaaGreatDoorW.PrintMore Go.Proofs.YtnimgfnknlkkdaaGreatDoor.Num
/-- Two numbers in two blocks of their own; nothing old is touched. -/
def Two (w0 : World) (g : Nat) (n1 : Bool) (s1 t1 : ByteArray) (n2 : Bool) (s2 t2 : ByteArray) (w : World) : Prop :=
  w.heap[g]? = some (.cells #[.bool n1, .string s1, .string t1] 23) ∧ w.heap[g + 1]? = some (.cells #[.bool n2, .string s2, .string t2] 23) ∧ Below w0.heap.size w0 w
theorem Two.step {w0 w w1 : World} {g : Nat} {n1 : Bool} {s1 t1 : ByteArray} {n2 : Bool} {s2 t2 : ByteArray} (h : Two w0 g n1 s1 t1 n2 s2 t2 w) (hb : Below w.heap.size w w1) : Two w0 g n1 s1 t1 n2 s2 t2 w1 :=
  ⟨heap_below h.1 hb, heap_below h.2.1 hb, below_step h.2.2 hb⟩
theorem set3 {w : World} {g : Nat} {a b c : Value} {t : TypeId} (h : w.heap[g]? = some (.cells #[a, b, c] t)) (x y z : Value) : (((w.setCell ⟨g, 0, none⟩ x).setCell ⟨g, 1, none⟩ y).setCell ⟨g, 2, none⟩ z).heap[g]? = some (.cells #[x, y, z] t) := by
  have e1 := heap_setCell_same w g 0 _ t x h
  have e2 := heap_setCell_same _ g 1 _ t y e1
  have e3 := heap_setCell_same _ g 2 _ t z e2
  simpa using e3
theorem heap_far {w : World} {g k o : Nat} (u : Value) (hk : k ≠ g) : (w.setCell ⟨g, o, none⟩ u).heap[k]? = w.heap[k]? := Below.heap_setCell w ⟨g, o, none⟩ u k hk
theorem clean_two {W w0 : World} {g : Nat} {a b c d e f : Value} (h1 : W.heap[g]? = some (.cells #[a, b, c] 23)) (h2 : W.heap[g + 1]? = some (.cells #[d, e, f] 23)) (hB : Below w0.heap.size w0 W) (hg : w0.heap.size ≤ g) (n1 : Bool) (s1 t1 : ByteArray) (n2 : Bool) (s2 t2 : ByteArray) :
    Two w0 g n1 s1 t1 n2 s2 t2 ((((((W.setCell ⟨g, 0, none⟩ (.bool n1)).setCell ⟨g, 1, none⟩ (.string s1)).setCell ⟨g, 2, none⟩ (.string t1)).setCell ⟨g + 1, 0, none⟩ (.bool n2)).setCell ⟨g + 1, 1, none⟩ (.string s2)).setCell ⟨g + 1, 2, none⟩ (.string t2)) := by
  refine ⟨?_, set3 (a := d) (b := e) (c := f) ?_ _ _ _, ?_⟩
  · rw [heap_far _ (by omega), heap_far _ (by omega), heap_far _ (by omega)]
    exact set3 h1 _ _ _
  · rw [heap_far _ (by omega), heap_far _ (by omega), heap_far _ (by omega)]
    exact h2
  · exact below_set (below_set (below_set (below_set (below_set (below_set hB hg) hg) hg) (Nat.le_succ_of_le hg)) (Nat.le_succ_of_le hg)) (Nat.le_succ_of_le hg)
theorem clean_third {W : World} {g : Nat} {u0 u1 u2 u3 u4 u5 : Value} {o : Obj} (h3 : W.heap[g + 1 + 1]? = some o) :
    ((((((W.setCell ⟨g, 0, none⟩ u0).setCell ⟨g, 1, none⟩ u1).setCell ⟨g, 2, none⟩ u2).setCell ⟨g + 1, 0, none⟩ u3).setCell ⟨g + 1, 1, none⟩ u4).setCell ⟨g + 1, 2, none⟩ u5).heap[g + 1 + 1]? = some o := by
  rw [heap_far _ (by omega), heap_far _ (by omega), heap_far _ (by omega), heap_far _ (by omega), heap_far _ (by omega), heap_far _ (by omega)]
  exact h3
set_option maxRecDepth 100000 in
set_option maxHeartbeats 1000000 in
theorem rational_Multiply (n1 : Bool) (s1 t1 : ByteArray) (n2 : Bool) (s2 t2 : ByteArray) (w : World) (hs1 : s1.size ≤ 137438953472) (ht1 : t1.size ≤ 137438953472) (hs2 : s2.size ≤ 137438953472) (ht2 : t2.size ≤ 137438953472)
    (z1 : Sz (rq n1 s1 t1) 137438953472) (z2 : Sz (rq n2 s2 t2) 137438953472) :
    Calls Tryz.prog 22 #[RV n1 s1 t1, RV n2 s2 t2] w fun e w' => e = .returned (QV (rq n1 s1 t1 * rq n2 s2 t2)) ∧ Below w.heap.size w w' := by
  have C1 := Lib.hid (fun w => rational_clean n1 s1 t1 w (by omega) (by omega))
  have C2 := Lib.hid (fun w => rational_clean n2 s2 t2 w (by omega) (by omega))
  clear hs1 ht1 hs2 ht2
  generalize rq n1 s1 t1 = x at *
  generalize rq n2 s2 t2 = y at *
  obtain ⟨z1a, z1b⟩ := z1
  obtain ⟨z2a, z2b⟩ := z2
  unfold canN at z1a z2a
  have DX := Lib.hid (fun w => rational_den (canS x) (canN x) (canD x) w)
  have DY := Lib.hid (fun w => rational_den (canS y) (canN y) (canD y) w)
  simp only [denB, denB_can] at DX DY
  have MN := Lib.hid (fun w => natural_Multiply (canN x) (canN y) w (by unfold canN; omega) (by unfold canN; omega))
  have MD := Lib.hid (fun w => natural_Multiply (natB x.den) (natB y.den) w (by omega) (by omega))
  simp only [canN, bval_natB] at MN MD DX DY
  have zN := natB_size_mul z1a z2a
  have zD := natB_size_mul z1b z2b
  have RD := Lib.hid (fun w => rational_reduced (canS x != canS y) (natB (x.num.natAbs * y.num.natAbs)) (natB (x.den * y.den)) w (by omega) (by omega) (by rw [bval_natB]; exact Nat.mul_ne_zero x.den_nz y.den_nz))
  simp only [bval_natB] at RD
  rw [← mul_over] at RD
  generalize x * y = z at *
  simp only [QV, canN] at C1 C2 RD ⊢
  clear z1a z1b z2a z2b zN zD
  generalize natB (x.num.natAbs * y.num.natAbs) = mN at *
  generalize natB (x.den * y.den) = mD at *
  generalize canS z = zS at *
  generalize natB z.num.natAbs = zN at *
  generalize canD z = zD at *
  generalize canS x = xS at *
  generalize natB x.num.natAbs = xN at *
  generalize canD x = xD at *
  generalize natB x.den = xd at *
  generalize canS y = yS at *
  generalize natB y.num.natAbs = yN at *
  generalize canD y = yD at *
  generalize natB y.den = yd at *
  go_enter Tryz.func22, Tryz.ntmps22
  go_wp2_with (fail)
  obtain ⟨wr, hwr⟩ : ∃ wr, wr = (((w.alloc (.cells #[.bool n1, .string s1, .string t1] 23)).alloc (.cells #[.bool n2, .string s2, .string t2] 23)).alloc (.cells #[.bool false, .string ⟨#[]⟩, .string ⟨#[]⟩] 23)) := ⟨_, rfl⟩
  have T3 := three w (.cells #[.bool n1, .string s1, .string t1] 23) (.cells #[.bool n2, .string s2, .string t2] 23) (.cells #[.bool false, .string ⟨#[]⟩, .string ⟨#[]⟩] 23) 0
  rw [show ∀ w : World, w.drewN 0 = w from fun _ => rfl, ← hwr] at T3
  rw [← hwr]
  clear hwr
  obtain ⟨h1, h2, h3, hB⟩ := T3
  go_cut [] (fun wc => Aside0 (Two w w.heap.size xS xN xD yS yN yD wc) ∧ Aside0 (wc.heap[w.heap.size + 1 + 1]? = some (.cells #[.bool false, .string ⟨#[]⟩, .string ⟨#[]⟩] 23)))
  case first =>
    obtain ⟨a1, a2, a3⟩ := (cells3 h1).1
    obtain ⟨b1, b2, b3⟩ := (cells3 h2).1
    have HB := Aside0.mk hB
    have HH := Aside0.mk (And.intro h1 (And.intro h2 h3))
    clear hB h1 h2 h3 DX DY MN MD RD
    go_region_with (first | (go_at_call_of 51 s1; refine (C1.out _).mono ?_; rintro e w1 ⟨rfl, hb1⟩; have u1 := pw_cell_below hb1 b1; have u2 := pw_cell_below hb1 b2; have u3 := pw_cell_below hb1 b3) | (go_at_call_of 51 s2; refine (C2.out _).mono ?_; rintro e w2 ⟨rfl, hb2⟩; obtain ⟨⟨c1, c2, c3⟩, c4, c5, c6⟩ := cells3 (heap_b hb2 (heap_b hb1 HH.out.1)); obtain ⟨⟨d1, d2, d3⟩, d4, d5, d6⟩ := cells3 (heap_b hb2 (heap_b hb1 HH.out.2.1))))
    all_goals
      have hfin := clean_two (heap_b hb2 (heap_b hb1 HH.out.1)) (heap_b hb2 (heap_b hb1 HH.out.2.1)) (below_s hb2 (below_s hb1 (below_drew HB.out))) (Nat.le_refl _) xS xN xD yS yN yD
      go_wp2_with (fail)
      go_meet
      case rel => exact ⟨⟨hfin⟩, ⟨clean_third (heap_b hb2 (heap_b hb1 HH.out.2.2))⟩⟩
  case rest =>
    obtain ⟨⟨hT⟩, ⟨hH⟩⟩ := hcut
    have S0 := Lib.hid (And.intro (cells3 hT.1).1 (And.intro (cells3 hT.2.1).1 (Aside0.mk hT.2.2)))
    have H3 := Lib.hid hH
    clear hT hH C1 C2 h1 h2 h3 hB
    go_wp2_with (fail)
    go_region_held3 (fun w' => (w'.cell? ⟨w.heap.size, 0, none⟩ = some (.bool xS) ∧ w'.cell? ⟨w.heap.size, 1, none⟩ = some (.string xN) ∧ w'.cell? ⟨w.heap.size, 2, none⟩ = some (.string xD)) ∧ (w'.cell? ⟨w.heap.size + 1, 0, none⟩ = some (.bool yS) ∧ w'.cell? ⟨w.heap.size + 1, 1, none⟩ = some (.string yN) ∧ w'.cell? ⟨w.heap.size + 1, 2, none⟩ = some (.string yD)) ∧ Aside0 (Below w.heap.size w w'))
      (first | exact keep6 S0.out (pw_below_drewN (Below.refl _ _) 1) | exact keep6 (by assumption) (by assumption) | exact keepS6 (by omega) (by omega) (Nat.le_add_right _ 2) (by assumption) rfl)
      (first | (go_at_call_of 53 xN; refine (MN.out _).mono ?_; rintro e w1 ⟨rfl, hb1⟩) | (go_at_call_of 54 xN; refine (DX.out _).mono ?_; rintro e w2 ⟨rfl, hb2⟩) | (go_at_call_of 54 yN; refine (DY.out _).mono ?_; rintro e w3 ⟨rfl, hb3⟩) | (go_at_call_of 53 xd; refine (MD.out _).mono ?_; rintro e w4 ⟨rfl, hb4⟩) | (go_at_call 52; refine (RD.out _).mono ?_; rintro e w5 ⟨rfl, hb5⟩; obtain ⟨⟨c1, c2, c3⟩, c4, c5, c6⟩ := cells3 (heap_b hb5 (heap_b hb4 (heap_b hb3 (heap_b hb2 (heap_b hb1 H3.out)))))))
    rename_i hS9
    go_wp2_with (fail)
    refine bodyPost_ret (v := RV zS zN zD) ?_ rfl ⟨rfl, ?_⟩
    · exact results_q rfl _ _ (w.heap.size + 1 + 1) rfl (by go_simp) (by go_simp) (by go_simp)
    · exact hS9.2.2.out
end Go.Proofs.YtnimgfnknlkkdaaGreatDoor.H
/- The order of two fractions by their parts. -/
set_option linter.unusedVariables false
set_option linter.unusedSimpArgs false
namespace Go.Proofs.YtnimgfnknlkkdaaGreatDoor.Num
open Go
theorem num_abs_neg {x : Rat} (h : x.num < 0) (d : Nat) : x.num * (d : Int) = -((x.num.natAbs * d : Nat) : Int) := by
  rw [Int.natCast_mul, ← Int.neg_mul]; congr 1; omega
theorem num_abs_pos {x : Rat} (h : 0 ≤ x.num) (d : Nat) : x.num * (d : Int) = ((x.num.natAbs * d : Nat) : Int) := by
  rw [Int.natCast_mul]; congr 1; omega
theorem sign_cases (n : Int) : n < 0 ∧ n.sign = -1 ∨ n = 0 ∧ n.sign = 0 ∨ 0 < n ∧ n.sign = 1 := by
  rcases Int.lt_trichotomy n 0 with h | h | h
  · exact .inl ⟨h, Int.sign_eq_neg_one_of_neg h⟩
  · exact .inr (.inl ⟨h, by rw [h]; rfl⟩)
  · exact .inr (.inr ⟨h, Int.sign_eq_one_of_pos h⟩)
theorem cmp_signs {x y : Rat} (h : x.num.sign < y.num.sign) : cmpQ x y = -1 := by
  have hx : x < y := by
    have h1 := @num_neg_iff x
    have h2 := @num_neg_iff y
    have h3 := @num_pos_iff x
    have h4 := @num_pos_iff y
    have h5 := @Rat.num_eq_zero x
    have h6 := @Rat.num_eq_zero y
    rcases sign_cases x.num with ⟨a, b⟩ | ⟨a, b⟩ | ⟨a, b⟩ <;> rcases sign_cases y.num with ⟨c, d⟩ | ⟨c, d⟩ | ⟨c, d⟩ <;> (try (exfalso; omega))
    · have := h1.1 a; have := h6.1 c; grind
    · have := h1.1 a; have := h4.1 c; grind
    · have := h5.1 a; have := h4.1 c; grind
  rw [cmpQ, if_pos hx]
theorem cmpQ_swap (x y : Rat) : cmpQ y x = - cmpQ x y := by
  unfold cmpQ
  by_cases h : x < y
  · have h2 : ¬ y < x := by grind
    rw [if_neg h2, if_pos h, if_pos h]; rfl
  · by_cases h2 : y < x
    · rw [if_pos h2, if_neg h, if_pos h2]
    · rw [if_neg h2, if_neg h, if_neg h, if_neg h2]; rfl
theorem cmp_same {x y : Rat} (h : x.num.sign = y.num.sign) : cmpQ x y = if canS x then -cmpN (x.num.natAbs * y.den) (y.num.natAbs * x.den) else cmpN (x.num.natAbs * y.den) (y.num.natAbs * x.den) := by
  unfold cmpQ cmpN canS
  simp only [Rat.lt_iff]
  by_cases hx : x.num < 0
  · have hy : y.num < 0 := by rcases sign_cases x.num with ⟨a, b⟩ | ⟨a, b⟩ | ⟨a, b⟩ <;> rcases sign_cases y.num with ⟨c, d⟩ | ⟨c, d⟩ | ⟨c, d⟩ <;> omega
    rw [num_abs_neg hx, num_abs_neg hy]
    generalize x.num.natAbs * y.den = p
    generalize y.num.natAbs * x.den = q
    simp only [hx, decide_true, if_true]
    repeat' split
    all_goals omega
  · have hy : ¬ y.num < 0 := by rcases sign_cases x.num with ⟨a, b⟩ | ⟨a, b⟩ | ⟨a, b⟩ <;> rcases sign_cases y.num with ⟨c, d⟩ | ⟨c, d⟩ | ⟨c, d⟩ <;> omega
    rw [num_abs_pos (Int.not_lt.1 hx), num_abs_pos (Int.not_lt.1 hy)]
    generalize x.num.natAbs * y.den = p
    generalize y.num.natAbs * x.den = q
    simp only [hx, decide_false, Bool.false_eq_true, if_false]
    repeat' split
    all_goals omega
theorem cmpN_range (a b : Nat) : -1 ≤ cmpN a b ∧ cmpN a b ≤ 1 := by unfold cmpN; repeat' split <;> omega
theorem cmpQ_range (x y : Rat) : -1 ≤ cmpQ x y ∧ cmpQ x y ≤ 1 := by unfold cmpQ; repeat' split <;> omega
theorem cmpQ_neg {x y : Rat} : cmpQ x y < 0 ↔ x < y := by
  unfold cmpQ
  by_cases h : x < y
  · simp [h]
  · rw [if_neg h]; split <;> simp [h]
theorem cmpQ_pos {x y : Rat} : 0 < cmpQ x y ↔ y < x := by rw [← @cmpQ_neg y x, cmpQ_swap]; omega
theorem cmpQ_le {x y : Rat} : cmpQ x y ≤ 0 ↔ x ≤ y := by rw [← Int.not_lt, cmpQ_pos, Rat.not_lt]
theorem cmpQ_ge {x y : Rat} : 0 ≤ cmpQ x y ↔ y ≤ x := by rw [← Int.not_lt, cmpQ_neg, Rat.not_lt]
end Go.Proofs.YtnimgfnknlkkdaaGreatDoor.Num
set_option linter.unusedVariables false
set_option linter.unusedSimpArgs false
open Go
namespace Go.Proofs.YtnimgfnknlkkdaaGreatDoor.H
open Go Go.RowKit Go.Proofs.YtnimgfnknlkkdaaGreatDoorW.PrintWords Go.Proofs.YtnimgfnknlkkdaaGreatDoorW.PrintLast Go.Proofs.YtnimgfnknlkkdaaGreatDoorW.PrintMore Go.Proofs.YtnimgfnknlkkdaaGreatDoor.Num
theorem two_new (w : World) (o1 o2 : Obj) : ((w.alloc o1).alloc o2).heap[w.heap.size]? = some o1 ∧ ((w.alloc o1).alloc o2).heap[w.heap.size + 1]? = some o2 ∧ Below w.heap.size w ((w.alloc o1).alloc o2) := by
  refine ⟨heap_old (heap_new _ _), ?_, below_alloc (below_alloc (Below.refl _ _) _) _⟩
  have h := heap_new (w.alloc o1) o2
  rwa [size_new] at h
set_option maxRecDepth 100000 in
set_option maxHeartbeats 1000000 in
theorem rational_Compare (n1 : Bool) (s1 t1 : ByteArray) (n2 : Bool) (s2 t2 : ByteArray) (w : World) (hs1 : s1.size ≤ 137438953472) (ht1 : t1.size ≤ 137438953472) (hs2 : s2.size ≤ 137438953472) (ht2 : t2.size ≤ 137438953472)
    (z1 : Sz (rq n1 s1 t1) 137438953472) (z2 : Sz (rq n2 s2 t2) 137438953472) :
    Calls Tryz.prog 26 #[RV n1 s1 t1, RV n2 s2 t2] w fun e w' => e = .returned (.int .i64 (cmpQ (rq n1 s1 t1) (rq n2 s2 t2))) ∧ Below w.heap.size w w' := by
  have C1 := Lib.hid (fun w => rational_clean n1 s1 t1 w (by omega) (by omega))
  have C2 := Lib.hid (fun w => rational_clean n2 s2 t2 w (by omega) (by omega))
  clear hs1 ht1 hs2 ht2
  generalize rq n1 s1 t1 = x at *
  generalize rq n2 s2 t2 = y at *
  obtain ⟨z1a, z1b⟩ := z1
  obtain ⟨z2a, z2b⟩ := z2
  unfold canN at z1a z2a
  have DX := Lib.hid (fun w => rational_den (canS x) (canN x) (canD x) w)
  have DY := Lib.hid (fun w => rational_den (canS y) (canN y) (canD y) w)
  simp only [denB, denB_can] at DX DY
  have SX := Lib.hid (fun w => rational_signOf (canS x) (canN x) (canD x) w)
  have SY := Lib.hid (fun w => rational_signOf (canS y) (canN y) (canD y) w)
  rw [sgn_can] at SX SY
  have MX := Lib.hid (fun w => natural_Multiply (canN x) (natB y.den) w (by unfold canN; omega) (by omega))
  have MY := Lib.hid (fun w => natural_Multiply (canN y) (natB x.den) w (by unfold canN; omega) (by omega))
  simp only [canN, bval_natB] at MX MY DX DY SX SY
  have zX := natB_size_mul z1a z2b
  have zY := natB_size_mul z2a z1b
  have NC := Lib.hid (fun w => natural_Compare (natB (x.num.natAbs * y.den)) (natB (y.num.natAbs * x.den)) w (by omega) (by omega))
  simp only [bval_natB] at NC
  have K1 := Aside0.mk (@cmp_signs x y)
  have K2 := Aside0.mk (fun h => (@cmp_signs y x h))
  have K2b := Aside0.mk (@cmpQ_swap x y)
  have K3 := Aside0.mk (@cmp_same x y)
  have hr := cmpN_range (x.num.natAbs * y.den) (y.num.natAbs * x.den)
  simp only [QV, canN] at C1 C2
  clear z1a z1b z2a z2b zX zY
  generalize hQ : cmpQ x y = Q at *
  generalize cmpQ y x = Q2 at *
  clear hQ
  generalize cmpN (x.num.natAbs * y.den) (y.num.natAbs * x.den) = cN at *
  generalize natB (x.num.natAbs * y.den) = mX at *
  generalize natB (y.num.natAbs * x.den) = mY at *
  generalize x.num.sign = sx at *
  generalize y.num.sign = sy at *
  generalize canS x = xS at *
  generalize natB x.num.natAbs = xN at *
  generalize canD x = xD at *
  generalize natB x.den = xd at *
  generalize canS y = yS at *
  generalize natB y.num.natAbs = yN at *
  generalize canD y = yD at *
  generalize natB y.den = yd at *
  obtain ⟨hr1, hr2⟩ := hr
  go_enter Tryz.func26, Tryz.ntmps26
  go_wp2_with (fail)
  obtain ⟨wr, hwr⟩ : ∃ wr, wr = ((w.alloc (.cells #[.bool n1, .string s1, .string t1] 23)).alloc (.cells #[.bool n2, .string s2, .string t2] 23)) := ⟨_, rfl⟩
  have T3 := two_new w (.cells #[.bool n1, .string s1, .string t1] 23) (.cells #[.bool n2, .string s2, .string t2] 23)
  rw [← hwr] at T3
  rw [← hwr]
  clear hwr
  obtain ⟨h1, h2, hB⟩ := T3
  go_cut [] (fun wc => Aside0 (Two w w.heap.size xS xN xD yS yN yD wc))
  case first =>
    obtain ⟨a1, a2, a3⟩ := (cells3 h1).1
    obtain ⟨b1, b2, b3⟩ := (cells3 h2).1
    have HB := Aside0.mk hB
    have HH := Aside0.mk (And.intro h1 h2)
    clear hB h1 h2 DX DY MX MY NC SX SY K1 K2 K2b K3
    go_region_with (first | (go_at_call_of 51 s1; refine (C1.out _).mono ?_; rintro e w1 ⟨rfl, hb1⟩; have u1 := pw_cell_below hb1 b1; have u2 := pw_cell_below hb1 b2; have u3 := pw_cell_below hb1 b3) | (go_at_call_of 51 s2; refine (C2.out _).mono ?_; rintro e w2 ⟨rfl, hb2⟩; obtain ⟨⟨c1, c2, c3⟩, c4, c5, c6⟩ := cells3 (heap_b hb2 (heap_b hb1 HH.out.1)); obtain ⟨⟨d1, d2, d3⟩, d4, d5, d6⟩ := cells3 (heap_b hb2 (heap_b hb1 HH.out.2))))
    all_goals
      have hfin := clean_two (heap_b hb2 (heap_b hb1 HH.out.1)) (heap_b hb2 (heap_b hb1 HH.out.2)) (below_s hb2 (below_s hb1 (below_drew HB.out))) (Nat.le_refl _) xS xN xD yS yN yD
      go_wp2_with (fail)
      go_meet
      case rel => exact ⟨hfin⟩
  case rest =>
    obtain ⟨hT⟩ := hcut
    have S0 := Lib.hid (And.intro (cells3 hT.1).1 (And.intro (cells3 hT.2.1).1 (Aside0.mk hT.2.2)))
    clear hT C1 C2 h1 h2 hB
    go_wp2_with (fail)
    go_region_held3 (fun w' => (w'.cell? ⟨w.heap.size, 0, none⟩ = some (.bool xS) ∧ w'.cell? ⟨w.heap.size, 1, none⟩ = some (.string xN) ∧ w'.cell? ⟨w.heap.size, 2, none⟩ = some (.string xD)) ∧ (w'.cell? ⟨w.heap.size + 1, 0, none⟩ = some (.bool yS) ∧ w'.cell? ⟨w.heap.size + 1, 1, none⟩ = some (.string yN) ∧ w'.cell? ⟨w.heap.size + 1, 2, none⟩ = some (.string yD)) ∧ Aside0 (Below w.heap.size w w'))
      (first | exact keep6 S0.out (pw_below_drewN (Below.refl _ _) 1) | exact keep6 (by assumption) (by assumption))
      (first | (go_at_call_of 50 xN; refine (SX.out _).mono ?_; rintro e w1 ⟨rfl, hb1⟩) | (go_at_call_of 50 yN; refine (SY.out _).mono ?_; rintro e w2 ⟨rfl, hb2⟩))
    rename_i hS
    have S2 := Lib.hid hS
    clear hS hb1 hb2 S0
    rcases Int.lt_trichotomy sx sy with h | h | h
    · have g1 : (sx != sy) = true := by simp; omega
      have g2 : decide (sx < sy) = true := by simpa using h
      have R := Lib.hid (K1.out h)
      clear h
      go_wp2_with (fail)
      go_ret
      exact ⟨ret_i R.out.symm, S2.out.2.2.out⟩
    · have g1 : (sx != sy) = false := by simp [h]
      have R := Lib.hid (K3.out h)
      clear K1 K2 K2b K3 h
      go_wp2_with (fail)
      go_region_held3 (fun w' => (w'.cell? ⟨w.heap.size, 0, none⟩ = some (.bool xS) ∧ w'.cell? ⟨w.heap.size, 1, none⟩ = some (.string xN) ∧ w'.cell? ⟨w.heap.size, 2, none⟩ = some (.string xD)) ∧ (w'.cell? ⟨w.heap.size + 1, 0, none⟩ = some (.bool yS) ∧ w'.cell? ⟨w.heap.size + 1, 1, none⟩ = some (.string yN) ∧ w'.cell? ⟨w.heap.size + 1, 2, none⟩ = some (.string yD)) ∧ Aside0 (Below w.heap.size w w'))
        (first | exact keep6 S2.out (pw_below_drewN (Below.refl _ _) 1) | exact keep6 (by assumption) (by assumption) | assumption)
        (first | (go_at_call_of 54 yN; refine (DY.out _).mono ?_; rintro e w3 ⟨rfl, hb3⟩) | (go_at_call_of 53 xN; refine (MX.out _).mono ?_; rintro e w4 ⟨rfl, hb4⟩) | (go_at_call_of 54 xN; refine (DX.out _).mono ?_; rintro e w5 ⟨rfl, hb5⟩) | (go_at_call_of 53 yN; refine (MY.out _).mono ?_; rintro e w6 ⟨rfl, hb6⟩) | (go_at_call 57; refine (NC.out _).mono ?_; rintro e w7 ⟨rfl, rfl⟩))
      rename_i hS
      obtain ⟨⟨k1, k2, k3⟩, -, hBB⟩ := hS
      cases xS
      · have R2 : Q = cN := R.out
        clear R
        go_wp2_with (fail)
        go_ret
        exact ⟨ret_i R2.symm, hBB.out⟩
      · have R2 : Q = -cN := R.out
        clear R
        go_wp2_with (fail)
        go_ret
        exact ⟨ret_i R2.symm, hBB.out⟩
    · have g1 : (sx != sy) = true := by simp; omega
      have g2 : decide (sx < sy) = false := by simp; omega
      have R := Lib.hid (show Q = 1 by have a := K2.out h; have b := K2b.out; omega)
      clear h
      go_wp2_with (fail)
      go_ret
      exact ⟨ret_i R.out.symm, S2.out.2.2.out⟩
end Go.Proofs.YtnimgfnknlkkdaaGreatDoor.H
