import GoSem.Core.Value
import Derived.Laws.BitsLemmas
import Derived.Test.YtnimgfnknlkkdaaGreatDoorProg
import Derived.Below
import Derived.Deep.Draws
import Derived.Deep.AppendLies
import Derived.Maps.AppendAt
import Derived.OwnWalk
import Derived.Laws.BytesArg
import Derived.Laws.MakeOwn
import Derived.Laws.OwnMore
import Derived.Deep.OwnRows
import Derived.Tactics
import Derived.Lib.ConvBytes
import Derived.Laws.Slices
import Derived.WalkKit
import Derived.KernelRfl
import Derived.RowKit3
import Derived.Deep.LoopGhost
import Derived.Deep.QuietTactic
import Derived.BigQuiet
import Derived.WideLaws
import Derived.Deep.DeepCutAuto
import Derived.Deep.CutBlock
import Derived.Deep.RegionHeld3
import Derived.Laws.Rows
import Derived.Lib.AppendStr
import Derived.ArgAppend
import Derived.Laws.IdiomCopy
import Derived.OrdersHeld
import Derived.RowKit
import Derived.Test.YtnimgfnknlkkdaaGreatDoorWWords
import Derived.Test.YtnimgfnknlkkdaaGreatDoorWLast
import Derived.Test.YtnimgfnknlkkdaaGreatDoorWTab
import Derived.Test.YtnimgfnknlkkdaaGreatDoorWFour
import Derived.Test.YtnimgfnknlkkdaaGreatDoorWQPut
import Derived.Test.YtnimgfnknlkkdaaGreatDoorWApart
import Derived.Test.YtnimgfnknlkkdaaGreatDoorWArr
import Derived.Test.YtnimgfnknlkkdaaGreatDoorWZeros
import Derived.Test.YtnimgfnknlkkdaaGreatDoorWFoot
import Derived.Test.YtnimgfnknlkkdaaGreatDoorWKept
import Derived.Test.YtnimgfnknlkkdaaGreatDoorWShare
import Derived.Test.YtnimgfnknlkkdaaGreatDoorWN
import Derived.Test.YtnimgfnknlkkdaaGreatDoorWFootNe
import Derived.Test.YtnimgfnknlkkdaaGreatDoorWAt
import Derived.Test.YtnimgfnknlkkdaaGreatDoorWEqStruct
import Derived.Test.YtnimgfnknlkkdaaGreatDoorWRepsOne
import Derived.Test.YtnimgfnknlkkdaaGreatDoorWInv
import Derived.Test.YtnimgfnknlkkdaaGreatDoorWInvWords
import Derived.Test.YtnimgfnknlkkdaaGreatDoorWGuard
import Derived.Test.YtnimgfnknlkkdaaGreatDoorWNEv
import Derived.Test.YtnimgfnknlkkdaaGreatDoorWMore
import Derived.Test.YtnimgfnknlkkdaaGreatDoorShelf
import Derived.StillTailTactics
import Derived.Lib.Hide
import Derived.ChangeKeysEq
import Derived.Deep.DeepMust
import Derived.Outline
import Derived.Lib.Bytealg
/- Natural numbers as lists of digits in base 2^32 (least significant first) and as bytes (most significant first). -/
set_option linter.unusedVariables false
set_option linter.unusedSimpArgs false
namespace Go.Proofs.YtnimgfnknlkkdaaGreatDoor.Num

def Lim (l : List Int) : Prop := ∀ x ∈ l, 0 ≤ x ∧ x < 4294967296
def val : List Int → Nat
  | [] => 0
  | x :: l => x.toNat + 4294967296 * val l
theorem lim_nil : Lim [] := fun _ h => absurd h (by simp)
theorem lim_cons {x : Int} {l : List Int} (hx : 0 ≤ x ∧ x < 4294967296) (h : Lim l) : Lim (x :: l) := fun y hy => by
  rcases List.mem_cons.1 hy with rfl | hy
  · exact hx
  · exact h y hy
theorem lim_tail {x : Int} {l : List Int} (h : Lim (x :: l)) : Lim l := fun y hy => h y (List.mem_cons_of_mem _ hy)
theorem lim_head {x : Int} {l : List Int} (h : Lim (x :: l)) : 0 ≤ x ∧ x < 4294967296 := h x List.mem_cons_self
theorem lim_append {a b : List Int} (ha : Lim a) (hb : Lim b) : Lim (a ++ b) := fun x hx => by
  rcases List.mem_append.1 hx with h | h
  · exact ha x h
  · exact hb x h
theorem lim_take {l : List Int} (n : Nat) (h : Lim l) : Lim (l.take n) := fun x hx => h x (List.mem_of_mem_take hx)
theorem lim_drop {l : List Int} (n : Nat) (h : Lim l) : Lim (l.drop n) := fun x hx => h x (List.mem_of_mem_drop hx)
theorem lim_set {l : List Int} (n : Nat) {x : Int} (h : Lim l) (hx : 0 ≤ x ∧ x < 4294967296) : Lim (l.set n x) := fun y hy => by
  rcases List.mem_or_eq_of_mem_set hy with h1 | rfl
  · exact h y h1
  · exact hx
theorem lim_zeros (n : Nat) : Lim (List.replicate n 0) := fun x hx => by
  rw [List.eq_of_mem_replicate hx]; omega
theorem lim_get {l : List Int} (h : Lim l) (i : Nat) : 0 ≤ l.getD i 0 ∧ l.getD i 0 < 4294967296 := by
  by_cases hi : i < l.length
  · rw [List.getD_eq_getElem?_getD, List.getElem?_eq_getElem hi]; exact h _ (List.getElem_mem hi)
  · rw [List.getD_eq_getElem?_getD, List.getElem?_eq_none (by omega)]; simp
theorem val_append (a b : List Int) : val (a ++ b) = val a + 4294967296 ^ a.length * val b := by
  induction a with
  | nil => simp [val]
  | cons x a ih => simp only [List.cons_append, val, ih, List.length_cons, Nat.pow_succ]; grind
theorem val_zeros (n : Nat) : val (List.replicate n 0) = 0 := by
  induction n with
  | zero => rfl
  | succ n ih => simp [List.replicate_succ, val, ih]
theorem val_lt {l : List Int} (h : Lim l) : val l < 4294967296 ^ l.length := by
  induction l with
  | nil => simp [val]
  | cons x l ih =>
    have h1 := ih (lim_tail h)
    have h2 := lim_head h
    simp only [val, List.length_cons, Nat.pow_succ]
    omega
theorem take_succ_getD (l : List Int) (n : Nat) (h : n < l.length) : l.take (n + 1) = l.take n ++ [l.getD n 0] := by
  rw [List.take_succ_eq_append_getElem h, List.getD_eq_getElem?_getD, List.getElem?_eq_getElem h]; rfl
theorem val_take_succ (l : List Int) (n : Nat) (h : n < l.length) : val (l.take (n + 1)) = val (l.take n) + 4294967296 ^ n * (l.getD n 0).toNat := by
  rw [take_succ_getD l n h, val_append]
  simp [val, List.length_take, Nat.min_eq_left (Nat.le_of_lt h)]
theorem val_take_le (l : List Int) (n : Nat) : val (l.take n) ≤ val l := by
  conv => rhs; rw [← List.take_append_drop n l, val_append]
  omega

/-- The digits of a number. -/
def dig (n : Nat) : List Int := if h : n = 0 then [] else ((n % 4294967296 : Nat) : Int) :: dig (n / 4294967296)
  termination_by n
  decreasing_by omega
theorem dig_zero : dig 0 = [] := by rw [dig]; simp
theorem dig_pos {n : Nat} (h : n ≠ 0) : dig n = ((n % 4294967296 : Nat) : Int) :: dig (n / 4294967296) := by rw [dig]; simp [h]
theorem val_dig (n : Nat) : val (dig n) = n := by
  induction n using Nat.strongRecOn with
  | _ n ih =>
    by_cases h : n = 0
    · subst h; simp [dig_zero, val]
    · rw [dig_pos h, val, ih _ (by omega)]
      omega
theorem lim_dig (n : Nat) : Lim (dig n) := by
  induction n using Nat.strongRecOn with
  | _ n ih =>
    by_cases h : n = 0
    · subst h; rw [dig_zero]; exact lim_nil
    · rw [dig_pos h]
      exact lim_cons (by omega) (ih _ (by omega))
theorem dig_length_le {n k : Nat} (h : n < 4294967296 ^ k) : (dig n).length ≤ k := by
  induction k generalizing n with
  | zero => simp at h; subst h; simp [dig_zero]
  | succ k ih =>
    by_cases h0 : n = 0
    · subst h0; simp [dig_zero]
    · rw [dig_pos h0, List.length_cons]
      have := ih (n := n / 4294967296) (by rw [Nat.pow_succ] at h; exact Nat.div_lt_of_lt_mul (by rw [Nat.mul_comm]; exact h))
      omega
theorem dig_lt (n : Nat) : n < 4294967296 ^ (dig n).length := by
  have := val_lt (lim_dig n)
  rwa [val_dig] at this
theorem dig_nil {n : Nat} : dig n = [] ↔ n = 0 := ⟨fun h => by have := val_dig n; rw [h] at this; exact this.symm, fun h => by subst h; exact dig_zero⟩
theorem dig_len_pos {n : Nat} (h : n ≠ 0) : 0 < (dig n).length := by rw [dig_pos h]; simp
theorem dig_mono {a b : Nat} (h : a ≤ b) : (dig a).length ≤ (dig b).length := dig_length_le (Nat.lt_of_le_of_lt h (dig_lt b))
/-- A list whose last digit isn't 0 is the digits of its value. -/
theorem dig_val {l : List Int} (h : Lim l) (hl : l = [] ∨ l.getD (l.length - 1) 0 ≠ 0) : dig (val l) = l := by
  induction l with
  | nil => exact dig_zero
  | cons x l ih =>
    have h1 := lim_head h
    have hl' : (x :: l).getD ((x :: l).length - 1) 0 ≠ 0 := hl.resolve_left (by simp)
    have h3 : dig (val l) = l := by
      refine ih (lim_tail h) ?_
      cases l with
      | nil => exact .inl rfl
      | cons y l => exact .inr (by simpa using hl')
    have h4 : val (x :: l) ≠ 0 := by
      cases l with
      | nil => simp [val] at hl' ⊢; omega
      | cons y l =>
        intro h0
        have : val (y :: l) = 0 := by rw [val] at h0; omega
        rw [this, dig_zero] at h3
        simp at h3
    rw [dig_pos h4]
    have h5 : val (x :: l) % 4294967296 = x.toNat := by rw [val]; omega
    have h6 : val (x :: l) / 4294967296 = val l := by rw [val]; omega
    rw [h5, h6, h3]
    simp; omega
/-- What is left when zeros at the end are dropped. -/
theorem dig_take {l : List Int} (h : Lim l) {n : Nat} (hn : n ≤ l.length) (hv : val (l.take n) = val l) (hl : n = 0 ∨ l.getD (n - 1) 0 ≠ 0) : l.take n = dig (val l) := by
  rw [← hv]
  refine (dig_val (lim_take n h) ?_).symm
  rcases hl with rfl | hl
  · exact .inl (by simp)
  · rcases Nat.eq_zero_or_pos n with rfl | h0
    · exact .inl (by simp)
    · refine .inr ?_
      rw [List.length_take, Nat.min_eq_left hn]
      rw [List.getD_eq_getElem?_getD, List.getElem?_take, if_pos (by omega), ← List.getD_eq_getElem?_getD]
      exact hl
theorem dig_last {n : Nat} (h : n ≠ 0) : (dig n).getD ((dig n).length - 1) 0 ≠ 0 := by
  induction n using Nat.strongRecOn with
  | _ n ih =>
    rw [dig_pos h]
    by_cases h1 : n / 4294967296 = 0
    · rw [h1, dig_zero]
      show ((n % 4294967296 : Nat) : Int) ≠ 0
      omega
    · have := ih _ (by omega) h1
      have h2 := dig_len_pos h1
      rw [List.length_cons, show (dig (n / 4294967296)).length + 1 - 1 = ((dig (n / 4294967296)).length - 1) + 1 from by omega]
      rw [List.getD_cons_succ]
      exact this

/-! Bytes -/
def bvl (l : List UInt8) : Nat := l.foldl (fun a c => a * 256 + c.toNat) 0
theorem bvl_fold (l : List UInt8) (a : Nat) : l.foldl (fun a c => a * 256 + c.toNat) a = a * 256 ^ l.length + bvl l := by
  induction l generalizing a with
  | nil => simp [bvl]
  | cons c l ih =>
    have e : bvl (c :: l) = (0 * 256 + c.toNat) * 256 ^ l.length + bvl l := ih (0 * 256 + c.toNat)
    rw [List.foldl_cons, ih, e, List.length_cons, Nat.pow_succ]
    grind
theorem bvl_cons (c : UInt8) (l : List UInt8) : bvl (c :: l) = c.toNat * 256 ^ l.length + bvl l := by
  have := bvl_fold l (0 * 256 + c.toNat)
  simpa [bvl] using this
theorem bvl_append (a b : List UInt8) : bvl (a ++ b) = bvl a * 256 ^ b.length + bvl b := by
  unfold bvl; rw [List.foldl_append, bvl_fold]; rfl
theorem bvl_snoc (l : List UInt8) (c : UInt8) : bvl (l ++ [c]) = bvl l * 256 + c.toNat := by rw [bvl_append]; simp [bvl]
theorem bvl_lt (l : List UInt8) : bvl l < 256 ^ l.length := by
  induction l with
  | nil => simp [bvl]
  | cons c l ih =>
    rw [bvl_cons, List.length_cons, Nat.pow_succ]
    have hc := c.toNat_lt
    have : c.toNat * 256 ^ l.length ≤ 255 * 256 ^ l.length := Nat.mul_le_mul_right _ (by omega)
    omega
def natL (n : Nat) : List UInt8 := if h : n = 0 then [] else natL (n / 256) ++ [UInt8.ofNat (n % 256)]
  termination_by n
  decreasing_by omega
theorem natL_zero : natL 0 = [] := by rw [natL]; simp
theorem natL_pos {n : Nat} (h : n ≠ 0) : natL n = natL (n / 256) ++ [UInt8.ofNat (n % 256)] := by rw [natL]; simp [h]
theorem bvl_natL (n : Nat) : bvl (natL n) = n := by
  induction n using Nat.strongRecOn with
  | _ n ih =>
    by_cases h : n = 0
    · subst h; simp [natL_zero, bvl]
    · rw [natL_pos h, bvl_snoc, ih _ (by omega)]
      simp [UInt8.toNat_ofNat']
      omega
theorem natL_nil {n : Nat} : natL n = [] ↔ n = 0 := ⟨fun h => by have := bvl_natL n; rw [h] at this; exact this.symm, fun h => by subst h; exact natL_zero⟩
theorem dropWhile_nil {p : UInt8 → Bool} {l : List UInt8} : l.dropWhile p = [] ↔ ∀ x ∈ l, p x = true := by
  induction l with
  | nil => simp
  | cons a l ih =>
    rw [List.dropWhile_cons]
    by_cases h : p a = true
    · rw [if_pos h, ih]
      exact ⟨fun k x hx => by rcases List.mem_cons.1 hx with rfl | hx; exact h; exact k x hx, fun k x hx => k x (List.mem_cons_of_mem _ hx)⟩
    · rw [if_neg h]
      exact ⟨fun k => absurd k (by simp), fun k => absurd (k a List.mem_cons_self) h⟩
/-- Leading zero bytes don't count. -/
theorem natL_bvl (l : List UInt8) : natL (bvl l) = l.dropWhile (· == 0) := by
  have key : ∀ r : List UInt8, natL (bvl r.reverse) = r.reverse.dropWhile (· == 0) := by
    intro r
    induction r with
    | nil => simp [bvl, natL_zero]
    | cons c r ih =>
      rw [List.reverse_cons, bvl_snoc]
      have hc := c.toNat_lt
      by_cases h0 : bvl r.reverse * 256 + c.toNat = 0
      · have h1 : bvl r.reverse = 0 := by omega
        have h2 : c = 0 := by apply UInt8.toNat_inj.1; simp; omega
        rw [h0, natL_zero]
        rw [h1, natL_zero] at ih
        subst h2
        have h3 : ∀ x ∈ r.reverse, (x == 0) = true := dropWhile_nil.1 ih.symm
        symm
        rw [dropWhile_nil]
        intro x hx
        rcases List.mem_append.1 hx with h | h
        · exact h3 x h
        · simp at h; subst h; rfl
      · rw [natL_pos h0, show (bvl r.reverse * 256 + c.toNat) / 256 = bvl r.reverse by omega, show (bvl r.reverse * 256 + c.toNat) % 256 = c.toNat by omega, ih]
        have hc' : UInt8.ofNat c.toNat = c := by simp
        rw [hc', List.dropWhile_append]
        by_cases h1 : (r.reverse.dropWhile (· == 0)).isEmpty = true
        · rw [if_pos h1]
          have h2 : r.reverse.dropWhile (· == 0) = [] := by simpa using h1
          rw [h2] at ih ⊢
          have h3 : bvl r.reverse = 0 := natL_nil.1 ih
          have h4 : (c == 0) = false := by
            rw [beq_eq_false_iff_ne]
            rintro rfl
            simp at h0; omega
          simp [List.dropWhile, h4]
        · rw [if_neg h1]
  have := key l.reverse
  rwa [List.reverse_reverse] at this
theorem natL_length_le {n k : Nat} (h : n < 256 ^ k) : (natL n).length ≤ k := by
  induction k generalizing n with
  | zero => simp at h; subst h; simp [natL_zero]
  | succ k ih =>
    by_cases h0 : n = 0
    · subst h0; simp [natL_zero]
    · rw [natL_pos h0, List.length_append, List.length_singleton]
      have := ih (n := n / 256) (by rw [Nat.pow_succ] at h; exact Nat.div_lt_of_lt_mul (by rw [Nat.mul_comm]; exact h))
      omega
theorem natL_lt (n : Nat) : n < 256 ^ (natL n).length := by
  have := bvl_lt (natL n)
  rwa [bvl_natL] at this
theorem natL_inj {a b : Nat} (h : natL a = natL b) : a = b := by rw [← bvl_natL a, h, bvl_natL]
def natB (n : Nat) : ByteArray := ⟨(natL n).toArray⟩
def bval (s : ByteArray) : Nat := bvl s.data.toList
theorem bval_natB (n : Nat) : bval (natB n) = n := by simp [bval, natB, bvl_natL]
theorem natB_inj {a b : Nat} (h : natB a = natB b) : a = b := by rw [← bval_natB a, h, bval_natB]
theorem bval_lt (s : ByteArray) : bval s < 256 ^ s.size := by
  have := bvl_lt s.data.toList
  simpa [bval] using this
theorem natB_size_le {n k : Nat} (h : n < 256 ^ k) : (natB n).size ≤ k := by
  have := natL_length_le h
  simpa [natB, ByteArray.size] using this
theorem natB_zero : natB 0 = ⟨#[]⟩ := by simp [natB, natL_zero]
theorem natB_one : natB 1 = ⟨#[1]⟩ := by simp [natB, natL_pos, natL_zero]
theorem natB_list (n : Nat) : (natB n).data.toList = natL n := by simp [natB]
theorem natB_empty {n : Nat} : natB n = ⟨#[]⟩ ↔ n = 0 := ⟨fun h => by have := bval_natB n; rw [h] at this; simpa [bval, bvl] using this.symm, fun h => by subst h; exact natB_zero⟩
end Go.Proofs.YtnimgfnknlkkdaaGreatDoor.Num
/- Facts on digits that the walks need: what a store does to a list's value; or of two numbers that share no bit. -/
set_option linter.unusedVariables false
set_option linter.unusedSimpArgs false
namespace Go.Proofs.YtnimgfnknlkkdaaGreatDoor.Num
open Go
theorem val_set {l : List Int} {j : Nat} (h : j < l.length) (x : Int) : val (l.set j x) + (l.getD j 0).toNat * 4294967296 ^ j = val l + x.toNat * 4294967296 ^ j := by
  induction l generalizing j with
  | nil => simp at h
  | cons y l ih =>
    cases j with
    | zero => simp [val]; omega
    | succ j =>
      have := ih (j := j) (by simpa using h)
      simp only [List.set_cons_succ, val, List.getD_cons_succ, Nat.pow_succ]
      grind
theorem val_get_le (l : List Int) (j : Nat) : (l.getD j 0).toNat * 4294967296 ^ j ≤ val l := by
  by_cases h : j < l.length
  · have := val_set h 0
    have := val_set h (l.getD j 0)
    simp at *
    omega
  · rw [List.getD_eq_getElem?_getD, List.getElem?_eq_none (by omega)]; simp
theorem wraps_u32 (n : Int) (h0 : 0 ≤ n) (h1 : n < 2 ^ 32) : IntKind.u32.wrap n = n := by rw [IntKind.wrap_u32]; omega
theorem wrap_u64 (n : Int) : IntKind.u64.wrap n = n % 18446744073709551616 := by simp [IntKind.wrap, IntKind.bits, IntKind.signed]
theorem wraps_u64 (n : Int) (h0 : 0 ≤ n) (h1 : n < 2 ^ 64) : IntKind.u64.wrap n = n := by rw [wrap_u64]; omega
theorem or_comm (k : IntKind) (x y : Int) : bits .or k x y = bits .or k y x := by simp [bits, BitVec.or_comm]
/-- x | y where y is a multiple of 2^i and x is less. -/
theorem or_u32 (i : Nat) {x y : Int} (hx0 : 0 ≤ x) (hx : x < 2 ^ i) (hx1 : x < 2 ^ 32) (hy0 : 0 ≤ y) (hy : y % 2 ^ i = 0) (hy1 : y < 2 ^ 32) : bits .or .u32 x y = x + y := by
  rw [or_comm, bits_join .u32 32 (by decide) wraps_u32 i y x hy0 hy hy1 hx0 hx hx1]; omega
theorem or_u64 (i : Nat) {x y : Int} (hx0 : 0 ≤ x) (hx : x < 2 ^ i) (hx1 : x < 2 ^ 64) (hy0 : 0 ≤ y) (hy : y % 2 ^ i = 0) (hy1 : y < 2 ^ 64) : bits .or .u64 y x = y + x := by
  rw [bits_join .u64 64 (by decide) wraps_u64 i y x hy0 hy hy1 hx0 hx hx1]
/-- The value of the last i bytes. -/
def tailv (s : ByteArray) (i : Nat) : Nat := bvl (s.data.toList.drop (s.size - i))
theorem tailv_all (s : ByteArray) : tailv s s.size = bval s := by simp [tailv, bval]
theorem tailv_lt (s : ByteArray) (i : Nat) : tailv s i < 256 ^ i := by
  refine Nat.lt_of_lt_of_le (bvl_lt _) (Nat.pow_le_pow_right (by omega) ?_)
  rw [List.length_drop, show s.data.toList.length = s.size from rfl]; omega
theorem tailv_succ {s : ByteArray} {i m : Nat} (hi : i < s.size) (hm : m = s.size - 1 - i) (h : m < s.size) : tailv s (i + 1) = (s[m]'h).toNat * 256 ^ i + tailv s i := by
  have e : s.data.toList.drop (s.size - (i + 1)) = (s[m]'h) :: s.data.toList.drop (s.size - i) := by
    rw [show s.size - (i + 1) = m by omega, show s.size - i = m + 1 by omega]
    rw [List.drop_eq_getElem_cons (by simpa using h)]
    rfl
  rw [tailv, e, bvl_cons, tailv, List.length_drop, show s.data.toList.length = s.size from rfl, show s.size - (s.size - i) = i by omega]
theorem pow_256 (a b : Nat) : (256 : Nat) ^ (4 * a + b) = 2 ^ (8 * b) * 4294967296 ^ a := by
  rw [Nat.pow_add, Nat.pow_mul, Nat.mul_comm (2 ^ (8 * b)), Nat.pow_mul 2 8 b]
theorem parse_round {s : ByteArray} {L : List Int} {i j m r c : Nat} (hL : Lim L) (hv : val L = tailv s i) (hi : i < s.size) (hj : j = i / 4) (hr : r = i % 4) (hm : m = s.size - 1 - i) (h : m < s.size) (hc : c = (s[m]'h).toNat) (hjl : j < L.length) :
    Lim (L.set j (bits BinOp.or IntKind.u32 (L.getD j 0) (IntKind.u32.wrap (↑c * 2 ^ (8 * (r : Int)).toNat)))) ∧ val (L.set j (bits BinOp.or IntKind.u32 (L.getD j 0) (IntKind.u32.wrap (↑c * 2 ^ (8 * (r : Int)).toNat)))) = tailv s (i + 1) := by
  have hc1 : c < 256 := hc ▸ (s[m]'h).toNat_lt
  have hi4 : i = 4 * j + r := by omega
  have hd := lim_get hL j
  have hs := val_set hjl
  have hg := val_get_le L j
  have ht := tailv_lt s i
  rw [← hv, hi4, pow_256] at ht
  generalize L.getD j 0 = d at hd hs hg ⊢
  obtain ⟨d, rfl⟩ := Int.eq_ofNat_of_zero_le hd.1
  rw [Int.toNat_natCast] at hg hs
  have hdr : d < 2 ^ (8 * r) := Nat.lt_of_mul_lt_mul_right (Nat.lt_of_le_of_lt hg ht)
  have he : (8 * (r : Int)).toNat = 8 * r := by omega
  have hp : (2 : Nat) ^ (8 * r) ≤ 2 ^ 24 := Nat.pow_le_pow_right (by omega) (by omega)
  have hcp : c * 2 ^ (8 * r) ≤ 255 * 2 ^ (8 * r) := Nat.mul_le_mul_right _ (by omega)
  have hcp2 : d + c * 2 ^ (8 * r) < 2 ^ 32 := by omega
  rw [he]
  have hw : IntKind.u32.wrap ((c : Int) * 2 ^ (8 * r)) = ((c * 2 ^ (8 * r) : Nat) : Int) := by
    rw [wraps_u32]
    · simp
    · exact_mod_cast Nat.zero_le _
    · have : c * 2 ^ (8 * r) < 2 ^ 32 := by omega
      exact_mod_cast this
  rw [hw, or_u32 (8 * r) (by omega) (by exact_mod_cast hdr) (by omega) (by omega) (by rw [show (2 : Int) ^ (8 * r) = ((2 ^ (8 * r) : Nat) : Int) by simp]; exact_mod_cast Nat.mul_mod_left c (2 ^ (8 * r))) (by omega)]
  refine ⟨lim_set j hL (by omega), ?_⟩
  have h1 := hs ((d : Int) + ((c * 2 ^ (8 * r) : Nat) : Int))
  rw [show ((d : Int) + ((c * 2 ^ (8 * r) : Nat) : Int)).toNat = d + c * 2 ^ (8 * r) by omega] at h1
  rw [tailv_succ hi hm h, ← hc, hi4, pow_256, ← hi4, ← hv]
  grind
end Go.Proofs.YtnimgfnknlkkdaaGreatDoor.Num
/- What the hand texts lean on. -/
set_option linter.unusedVariables false
set_option linter.unusedSimpArgs false
namespace Go.Proofs.YtnimgfnknlkkdaaGreatDoor.H
open Go Go.RowKit Go.Proofs.YtnimgfnknlkkdaaGreatDoorW.PrintWords Go.Proofs.YtnimgfnknlkkdaaGreatDoorW.PrintLast Go.Proofs.YtnimgfnknlkkdaaGreatDoorW.PrintMore Go.Proofs.YtnimgfnknlkkdaaGreatDoor.Num

/-- The value v reads, in the world w, as a slice of digits. -/
def IsL (w : World) (v : Value) (l : List Int) : Prop := ∃ A c, v = .slice A l.length c ∧ l.length ≤ c ∧ Kd.C (Kd.int .u32) w A l.length l
theorem IsL.below {w w1 : World} {v : Value} {l : List Int} (h : IsL w v l) (hb : Below w.heap.size w w1) : IsL w1 v l := by
  obtain ⟨A, c, e, hc, hC⟩ := h
  exact ⟨A, c, e, hc, Kd.C_below hC hb⟩
theorem IsL.drewN {w : World} {v : Value} {l : List Int} (h : IsL w v l) (n : Nat) : IsL (w.drewN n) v l := h.below (pw_below_drewN (Below.refl _ _) n)
theorem C_take {α : Type} {d : Kd α} {w : World} {A : Option Addr} {xs : List α} (h : d.C w A xs.length xs) {n : Nat} (hn : n ≤ xs.length) : d.C w A (xs.take n).length (xs.take n) := by
  obtain ⟨h1, h2, h3⟩ := h
  refine ⟨rfl, by rw [List.length_take]; omega, fun h0 => ?_⟩
  obtain ⟨ad, e, hr⟩ := h3 (by rw [List.length_take] at h0; omega)
  refine ⟨ad, e, fun j p hp => hr j p ?_⟩
  rw [List.getElem?_take] at hp
  split at hp
  · exact hp
  · cases hp
theorem C_word {k : IntKind} {w : World} {A : Option Addr} {xs : List Int} (h : (Kd.int k).C w A xs.length xs) (i : Int) (h0 : 0 ≤ i) (h1 : i < (xs.length : Int)) : ∃ ad, A = some ad ∧ w.cell? (ad.add i.toNat) = some (.int k (rd xs i)) := Kd.at_int h i h0 h1
theorem infoU32 : (Tryz.prog.info? 140).map (fun i => (i.zero, i.size, i.bytes)) = some (some (.int .u32 0), 1, 4) := by kernel_rfl
theorem infoU8 : (Tryz.prog.info? 5).map (fun i => (i.zero, i.size, i.bytes)) = some (some (.int .u8 0), 1, 1) := by kernel_rfl
/-- The value v is, in w, a row of the call's own (made since base) with the numbers l. -/
abbrev OwnK (k : IntKind) (e : TypeId) (w : World) (base : Nat) (v : Value) (l : List Int) : Prop := Kd.R (Kd.int k) e w base (fun _ => True) v l
abbrev Own (w : World) (base : Nat) (v : Value) (l : List Int) : Prop := OwnK .u32 140 w base v l
section
variable {P : Program} {ops : Array Oper} {rest : List Oper} {o : Oper} {a : Act} {Q : Exit → Act → World → Prop} {W : World}
/-- make([]T, n) -/
theorem makeK {k : IntKind} {e t : TypeId} {bytes : Nat} (hu : P.underlying t = some (.slice e)) (hi : (P.info? e).map (fun i => (i.zero, i.size, i.bytes)) = some (some (.int k 0), 1, bytes)) (hb0 : 0 < bytes)
    {N : Tmp} (hd : o.dst = some N) (hgd : o.guard = none) {x y : Operand} (ho : o.op = .makeSlice t x y) (n : Nat) (hx : a.eval x = .int .i64 n) (hy : a.eval y = .int .i64 n) (hn : n * bytes ≤ 281474976710656)
    (h : ∀ v w1, OwnK k e w1 W.heap.size v (List.replicate n 0) → Below W.heap.size W w1 → wpList P ops Q rest (a.put o.dst v) w1) : wpList P ops Q (o :: rest) a W :=
  Kd.R_make (Kd.int k) _ e hgd hd t x y ho n hx hy hu (.int k 0) bytes hi rfl (show 0 < 1 by decide) hb0 0 (ok := fun _ => True) (okp := fun _ => True) rfl (fun _ hk => hk) trivial (by omega)
    (by rw [Int.toNat_natCast]; omega) (Below.refl _ _) (Nat.le_refl _) (fun v w1 hr hb _ _ => h v w1 (by simpa using hr) hb)
/-- xs[j] = x -/
theorem storeK {k : IntKind} {e : TypeId} {z : Value} {bytes : Nat} (hi : (P.info? e).map (fun i => (i.zero, i.size, i.bytes)) = some (some z, 1, bytes)) {p : Tmp} {v : Operand} (ho : o.op = .store e (.tmp p) v) (hgd : o.guard = none) (hN : o.dst = none) {base : Nat} {w0 : World} {g cap j n : Nat} {x : Int} {L : List Int}
    (hown : OwnK k e W base (.slice (some ⟨g, 0, none⟩) n cap) L) (hb : Below w0.heap.size w0 W) (hbase : w0.heap.size ≤ base) (hj : j < n) (hp : a.eval (.tmp p) = .pointer (some ⟨g, j, none⟩)) (hv : a.eval v = .int k x)
    (h : ∀ w', OwnK k e w' base (.slice (some ⟨g, 0, none⟩) n cap) (L.set j x) → Below w0.heap.size w0 w' → wpList P ops Q rest a w') : wpList P ops Q (o :: rest) a W := by
  obtain ⟨hn, -⟩ := Kd.R_reads' hown
  obtain ⟨g', cap', e1, hg1, hg2, -⟩ := Kd.R_form hown (by omega)
  injection e1 with e1 _ _
  injection e1 with e1
  injection e1 with e1
  subst e1
  obtain ⟨hx, hf⟩ := Kd.R_celln 0 hown (j : Int) (by omega) (by omega)
  rw [Int.toNat_natCast] at hx hf
  obtain ⟨h1, h2⟩ := Kd.R_putg hown (j : Int) x
  rw [Int.toNat_natCast] at h1 h2
  refine store_event hgd ho hN (w1 := W.setCell ⟨g, j, none⟩ (.int k x)) ?_ (fun w' hw => ?_)
  · generalize a.eval = ev at hp hv ⊢
    obtain ⟨i0, hi, hzz⟩ := Option.map_eq_some_iff.1 hi
    simp only [Prod.mk.injEq] at hzz
    have hty : (typeInfo e).run P W = .ok i0 W := Go.run_typeInfo W hi
    simp [execOp, ho, hp, hv, go_sem, hx, hf, sizeOf, hty, hzz.2.1]
  · subst hw
    exact h _ h1 (below_set hb (Nat.le_trans hbase hg1))
end
theorem region_tail {P : Program} (n : Nat) {id : Nat} {Q : Exit → Act → World → Prop} {a : Act} {w : World} {l : List Oper} (hm : P.follows .mixedOrders = true) (hB : Region.lexTailB .any l.toArray n = true)
    (h : ∀ w2, w2 = w.drew → wpStill P l.toArray w2 (fun a' => wpList P l.toArray Q (l.drop n) a' w2) (l.take n) a) : (Code.region id l.toArray true).wp P Q a w :=
  wp_region_still_tail n hm hB (h _ rfl)
end Go.Proofs.YtnimgfnknlkkdaaGreatDoor.H
set_option linter.unusedVariables false
set_option linter.unusedSimpArgs false
namespace Go.Proofs.YtnimgfnknlkkdaaGreatDoor.H
open Go Go.RowKit Go.Proofs.YtnimgfnknlkkdaaGreatDoorW.PrintWords Go.Proofs.YtnimgfnknlkkdaaGreatDoorW.PrintLast Go.Proofs.YtnimgfnknlkkdaaGreatDoorW.PrintMore Go.Proofs.YtnimgfnknlkkdaaGreatDoor.Num

theorem trim_ends {l : List Int} {A : Option Addr} {n c : Nat} {w w1 : World} (hl : Lim l) (hC : Kd.C (Kd.int .u32) w A l.length l) (hn : n ≤ l.length) (hc : l.length ≤ c) (hv : val (l.take n) = val l)
    (hz : n = 0 ∨ l.getD (n - 1) 0 ≠ 0) (hd : Drawn0 w w1) : IsL w1 (.slice A n c) (dig (val l)) := by
  have h := dig_take hl hn hv hz
  have h2 := C_take (Kd.C_below hC hd.below) hn
  have h3 : (l.take n).length = n := by rw [List.length_take]; omega
  rw [h] at h2 h3
  exact ⟨A, c, by rw [h3], by omega, h2⟩
theorem natural_trim (l : List Int) (A : Option Addr) (c : Nat) (w : World) (hl : Lim l) (hc : l.length ≤ c) (hC : Kd.C (Kd.int .u32) w A l.length l) :
    Calls Tryz.prog 124 #[.slice A l.length c] w fun e w' => ∃ v, e = .returned v ∧ IsL w' v (dig (val l)) ∧ Drawn0 w w' := by
  have HC := Aside0.mk hC
  have hm := hC.2.1
  have HL := Aside0.mk hl
  clear hC hl
  go_enter Tryz.func124, Tryz.ntmps124
  go_wp2
  go_loopw [3] (fun v3 w' => ∃ n : Nat, n ≤ l.length ∧ v3 = .int .i64 n ∧ Aside0 (val (l.take n) = val l) ∧ Aside0 (Drawn0 w w')) (fun v3 _ => (intOf v3).toNat)
  case atStart => exact ⟨l.length, Nat.le_refl _, rfl, ⟨by simp⟩, ⟨Drawn0.refl w⟩⟩
  case round =>
    obtain ⟨n, hn, rfl, hv, hd⟩ := hrel
    rcases Nat.eq_zero_or_pos n with rfl | h0
    · go_wp2
      go_ret
      exact ⟨_, rfl, trim_ends HL.out HC.out (Nat.zero_le _) hc (by simpa using hv.out) (.inl rfl) hd.out, hd.out⟩
    · obtain ⟨m, rfl⟩ : ∃ m, n = m + 1 := ⟨n - 1, by omega⟩
      have hi1 : (m : Int) < (l.length : Int) := by omega
      obtain ⟨ad, rfl, hx⟩ := C_word (Kd.C_below HC.out hd.out.below) (m : Int) (by omega) hi1
      rw [Int.toNat_natCast] at hx
      by_cases hz : rd l (m : Int) = 0
      · have hz0 : (rd l (m : Int) == 0) = true := beq_iff_eq.mpr hz
        go_wp2
        go_roundw
        case measure => simp [intOf]
        case rel => exact ⟨m, by omega, rfl, ⟨by rw [← hv.out, val_take_succ l m (by omega)]; simp [rd] at hz; simp [hz]⟩, hd⟩
      · have hz0 : (rd l (m : Int) == 0) = false := beq_eq_false_iff_ne.mpr hz
        go_wp2
        go_ret
        exact ⟨_, rfl, trim_ends HL.out HC.out hn hc hv.out (.inr (by simpa [rd] using hz)) hd.out, hd.out⟩
end Go.Proofs.YtnimgfnknlkkdaaGreatDoor.H
set_option linter.unusedVariables false
set_option linter.unusedSimpArgs false
open Go
namespace Go.Proofs.YtnimgfnknlkkdaaGreatDoor.H
open Go Go.RowKit Go.Proofs.YtnimgfnknlkkdaaGreatDoorW.PrintWords Go.Proofs.YtnimgfnknlkkdaaGreatDoorW.PrintLast Go.Proofs.YtnimgfnknlkkdaaGreatDoorW.PrintMore Go.Proofs.YtnimgfnknlkkdaaGreatDoor.Num
set_option maxRecDepth 100000 in
set_option maxHeartbeats 400000 in
theorem natural_parse (s : ByteArray) (w : World) (hs : s.size ≤ 1099511627776) :
    Calls Tryz.prog 91 #[.string s] w fun e w' => ∃ v, e = .returned v ∧ IsL w' v (dig (bval s)) ∧ Below w.heap.size w w' := by
  obtain ⟨q, hq⟩ : ∃ q : Nat, q = (s.size + 3) / 4 := ⟨_, rfl⟩
  have hq1 : ((s.size : Int) + 4 - 1) / 4 = (q : Int) := by omega
  have HQ := Lib.hid hq
  have hq2 : q ≤ 274877906944 := by omega
  clear hq
  have HQ1 := Lib.hid hq1
  clear hq1
  go_enter Tryz.func91, Tryz.ntmps91
  have HB := Aside0.mk (Below.refl w.heap.size w)
  go_wp2_with (refine makeK Tryz.underlying138 infoU32 (by decide) (N := 10) rfl rfl rfl q (congrArg (Value.int .i64) HQ1.out) (congrArg (Value.int .i64) HQ1.out) (by omega) ?_; intro v w1 ho hb)
  go_loopw [13] (fun v13 w' => ∃ (i : Nat) (L : List Int), i ≤ s.size ∧ v13 = .int .i64 i ∧ Aside0 (L.length = q ∧ Lim L ∧ val L = tailv s i) ∧ Aside0 (Own w' w.heap.size v L) ∧ Aside0 (Below w.heap.size w w')) (fun v13 _ => s.size - (intOf v13).toNat)
  case atStart => exact ⟨0, _, Nat.zero_le _, rfl, ⟨by simp, lim_zeros _, by rw [val_zeros, tailv]; simp [bvl, List.drop_eq_nil_of_le]⟩, ⟨ho⟩, ⟨hb⟩⟩
  case round =>
    clear ho hb
    obtain ⟨i, L, hi, rfl, hL, ho, hb⟩ := hrel
    rcases Nat.lt_or_ge i s.size with hlt | hge
    · go_wp2
      refine region_tail 18 (by kernel_rfl) (by kernel_rfl) ?_
      intro w2 hw2
      have ho2 : Own w2 w.heap.size v L := hw2 ▸ Kd.R_drew ho.out
      have hb2 : Below w.heap.size w w2 := hw2 ▸ below_drew hb.out
      clear hw2 ho hb
      obtain ⟨j, hj⟩ : ∃ j, j = i / 4 := ⟨_, rfl⟩
      obtain ⟨m, hm⟩ : ∃ m, m = s.size - 1 - i := ⟨_, rfl⟩
      obtain ⟨r, hr⟩ : ∃ r, r = i % 4 := ⟨_, rfl⟩
      have hjl : j < L.length := by rw [hL.out.1, HQ.out, hj]; omega
      have hml : m < s.size := by omega
      have hr4 : r < 4 := by omega
      obtain ⟨g, cap, rfl, hg1, hg2, cells, hg3⟩ := Kd.R_form ho2 (by omega)
      obtain ⟨hx, hf⟩ := Kd.R_celln 0 ho2 (j : Int) (by omega) (by omega)
      rw [Int.toNat_natCast] at hx hf
      have f1 : IntKind.i64.wrap ((i : Int) / 4) = (j : Int) := by rw [IntKind.wrap_i64]; omega
      have f2 : IntKind.i64.wrap ((s.size : Int) - 1) = (s.size : Int) - 1 := by rw [IntKind.wrap_i64]; omega
      have f3 : IntKind.i64.wrap ((s.size : Int) - 1 - i) = (m : Int) := by rw [IntKind.wrap_i64]; omega
      have f4 : Int.tmod (i : Int) 4 = (r : Int) := by rw [Int.tmod_eq_emod_of_nonneg (by omega)]; omega
      obtain ⟨c, hc⟩ : ∃ c : Nat, c = (s[m]'hml).toNat := ⟨_, rfl⟩
      have hc1 : c < 256 := hc ▸ (s[m]'hml).toNat_lt
      have f6 : ∀ h, IntKind.u32.wrap (((s[m]'h).toNat : Nat) : Int) = (c : Int) := fun h => by rw [← hc, IntKind.wrap_u32]; omega
      have f5 : IntKind.i64.wrap (8 * (r : Int)) = 8 * (r : Int) := by rw [IntKind.wrap_i64]; omega
      have HM := Lib.hid (And.intro hj (And.intro hm (And.intro hr hc)))
      clear hj hm hr hc
      clear hg3
      simp only [List.take_succ_cons, List.take_zero, List.drop_succ_cons, List.drop_zero]
      repeat still_step
      refine wpStill_nil ?_
      go_wp2_with (refine storeK infoU32 (p := 34) (j := j) rfl rfl rfl ho2 hb2 (Nat.le_refl _) hjl rfl rfl ?_; clear ho2 hb2; intro w4 ho4 hb4)
      go_roundw
      case measure => simp [intOf]; omega
      case rel =>
        obtain ⟨e1, e2, e3, e4⟩ := HM.out
        obtain ⟨p1, p2⟩ := parse_round hL.out.2.1 hL.out.2.2 hlt e1 e3 e2 hml e4 hjl
        exact ⟨i + 1, _, hlt, by go_num, ⟨by rw [List.length_set]; exact hL.out.1, p1, p2⟩, ⟨ho4⟩, ⟨hb4⟩⟩
    · obtain rfl : i = s.size := by omega
      obtain ⟨A, cap, rfl, hc, hC⟩ := Kd.R_reads ho.out
      have HV := Lib.hid (show val L = bval s by rw [hL.out.2.2, tailv_all])
      have hlim := Aside0.mk hL.out.2.1
      go_wp2_with (go_at_call 124; refine (natural_trim L A cap _ hlim.out hc hC).mono ?_; rintro e w4 ⟨v4, rfl, hr, hd⟩)
      go_ret
      rw [HV.out] at hr
      exact ⟨_, rfl, hr, below_step hb.out hd.below⟩
end Go.Proofs.YtnimgfnknlkkdaaGreatDoor.H
/- Lists of bytes as numbers, the most significant first; what limbs.text does to them. -/
set_option linter.unusedVariables false
set_option linter.unusedSimpArgs false
namespace Go.Proofs.YtnimgfnknlkkdaaGreatDoor.Num
open Go
def bvi (l : List Int) : Nat := l.foldl (fun a c => a * 256 + c.toNat) 0
def Byt (l : List Int) : Prop := ∀ x ∈ l, 0 ≤ x ∧ x < 256
theorem bvi_fold (l : List Int) (a : Nat) : l.foldl (fun a c => a * 256 + c.toNat) a = a * 256 ^ l.length + bvi l := by
  induction l generalizing a with
  | nil => simp [bvi]
  | cons c l ih =>
    have e : bvi (c :: l) = (0 * 256 + c.toNat) * 256 ^ l.length + bvi l := ih (0 * 256 + c.toNat)
    rw [List.foldl_cons, ih, e, List.length_cons, Nat.pow_succ]
    grind
theorem bvi_cons (c : Int) (l : List Int) : bvi (c :: l) = c.toNat * 256 ^ l.length + bvi l := by
  have := bvi_fold l (0 * 256 + c.toNat)
  simpa [bvi] using this
theorem bvi_zeros (n : Nat) : bvi (List.replicate n 0) = 0 := by
  induction n with
  | zero => rfl
  | succ n ih => rw [List.replicate_succ, bvi_cons, ih]; simp
theorem byt_zeros (n : Nat) : Byt (List.replicate n 0) := fun x hx => by
  rw [List.eq_of_mem_replicate hx]; omega
theorem byt_set {l : List Int} (n : Nat) {x : Int} (h : Byt l) (hx : 0 ≤ x ∧ x < 256) : Byt (l.set n x) := fun y hy => by
  rcases List.mem_or_eq_of_mem_set hy with h1 | rfl
  · exact h y h1
  · exact hx
theorem bvi_set {l : List Int} {p q : Nat} (h : p + q + 1 = l.length) (x : Int) : bvi (l.set p x) + (l.getD p 0).toNat * 256 ^ q = bvi l + x.toNat * 256 ^ q := by
  induction l generalizing p with
  | nil => simp at h
  | cons y l ih =>
    cases p with
    | zero =>
      have e : q = l.length := by simp at h; omega
      subst e
      simp only [List.set_cons_zero, bvi_cons, List.getD_cons_zero]
      omega
    | succ p =>
      have := ih (p := p) (by simp at h; omega)
      simp only [List.set_cons_succ, bvi_cons, List.getD_cons_succ, List.length_set]
      omega
theorem bvi_get_le {l : List Int} {p q : Nat} (h : p + q + 1 = l.length) : (l.getD p 0).toNat * 256 ^ q ≤ bvi l := by
  have := bvi_set h 0
  have := bvi_set h (l.getD p 0)
  simp at *
  omega
theorem strOfNums_list (l : List Int) : (strOfNums l).data.toList = l.map fun n => UInt8.ofNat n.toNat := by simp [strOfNums]
theorem bval_strOfNums {l : List Int} (h : Byt l) : bval (strOfNums l) = bvi l := by
  rw [bval, strOfNums_list]
  induction l with
  | nil => rfl
  | cons c l ih =>
    have hc := h c List.mem_cons_self
    rw [List.map_cons, bvl_cons, bvi_cons, ih (fun x hx => h x (List.mem_cons_of_mem _ hx)), List.length_map]
    simp [UInt8.toNat_ofNat']
    rw [Nat.mod_eq_of_lt (by omega)]
/-- A byte of a digit. -/
theorem text_byte {L : List Int} (hL : Lim L) {i j r : Nat} (hj : j = i / 4) (hr : r = i % 4) : (L.getD j 0).toNat / 2 ^ (8 * r) % 256 = val L / 256 ^ i % 256 := by
  have hi : i = 4 * j + r := by omega
  rw [hi, pow_256, Nat.mul_comm (2 ^ (8 * r)) (4294967296 ^ j), ← Nat.div_div_eq_div_mul]
  have h1 : val L / 4294967296 ^ j % 4294967296 = (L.getD j 0).toNat := by
    clear hi hr hj
    induction L generalizing j with
    | nil => simp [val]
    | cons x l ih =>
      have hx := lim_head hL
      cases j with
      | zero => simp only [val, Nat.pow_zero, Nat.div_one, List.getD_cons_zero]; omega
      | succ j =>
        rw [List.getD_cons_succ, ← ih (lim_tail hL), Nat.pow_succ, Nat.mul_comm (4294967296 ^ j), ← Nat.div_div_eq_div_mul]
        congr 2
        simp only [val]; omega
  rw [← h1]
  have hr4 : r = 0 ∨ r = 1 ∨ r = 2 ∨ r = 3 := by omega
  rcases hr4 with e | e | e | e <;> rw [e] <;> simp only [Nat.reduceMul, Nat.reducePow] <;> omega
theorem text_round {L M : List Int} {i j r n m : Nat} (hL : Lim L) (hM : Byt M) (hn : M.length = n) (hv : bvi M = val L % 256 ^ i) (hi : i < n) (hj : j = i / 4) (hr : r = i % 4) (hm : m = n - 1 - i) {c : Int} (hc : c = ((L.getD j 0).toNat / 2 ^ (8 * r) % 256 : Nat)) :
    Byt (M.set m c) ∧ bvi (M.set m c) = val L % 256 ^ (i + 1) := by
  have h0 : (M.getD m 0).toNat * 256 ^ i ≤ bvi M := bvi_get_le (by omega)
  have h1 := bvi_set (l := M) (p := m) (q := i) (by omega) c
  have h2 : bvi M < 256 ^ i := hv ▸ Nat.mod_lt _ (Nat.pow_pos (by omega))
  have h3 : (M.getD m 0).toNat = 0 := by
    rcases Nat.eq_zero_or_pos (M.getD m 0).toNat with h | h
    · exact h
    · have := Nat.mul_le_mul_right (256 ^ i) h
      omega
  rw [text_byte hL hj hr] at hc
  refine ⟨byt_set m hM (by omega), ?_⟩
  have h4 : c.toNat = val L / 256 ^ i % 256 := by omega
  rw [h3, h4, hv, Nat.zero_mul] at h1
  rw [Nat.pow_succ, Nat.mod_mul]
  rw [Nat.mul_comm (256 ^ i)]
  omega
end Go.Proofs.YtnimgfnknlkkdaaGreatDoor.Num
set_option linter.unusedVariables false
set_option linter.unusedSimpArgs false
open Go
namespace Go.Proofs.YtnimgfnknlkkdaaGreatDoor.H
open Go Go.RowKit Go.Proofs.YtnimgfnknlkkdaaGreatDoorW.PrintWords Go.Proofs.YtnimgfnknlkkdaaGreatDoorW.PrintLast Go.Proofs.YtnimgfnknlkkdaaGreatDoorW.PrintMore Go.Proofs.YtnimgfnknlkkdaaGreatDoor.Num
theorem natB_drop (s : ByteArray) : (⟨(Lib.trimLeftB s.data.toList 0).toArray⟩ : ByteArray) = natB (bval s) := by
  rw [natB, bval, natL_bvl]; rfl
theorem natural_Normalize (s : ByteArray) (w : World) :
    Calls Tryz.prog 88 #[.string s] w fun e w' => e = .returned (.string (natB (bval s))) ∧ w' = w := by
  go_enter Tryz.func88, Tryz.ntmps88
  go_wp2_with (go_at_call 122; refine (Tryz.strings_TrimLeft_one s 0 (by decide) _).mono ?_; rintro e w1 ⟨rfl, rfl⟩)
  go_ret
  exact ⟨by simp [natB_drop], rfl⟩
theorem rd_nat (l : List Int) (j : Nat) : rd l (j : Int) = l.getD j 0 := by simp [rd]
set_option maxRecDepth 100000 in
set_option maxHeartbeats 400000 in
theorem natural_text (L : List Int) (A : Option Addr) (c : Nat) (w : World) (hl : Lim L) (hc : L.length ≤ c) (hC : Kd.C (Kd.int .u32) w A L.length L) (hn : L.length ≤ 274877906944) :
    Calls Tryz.prog 92 #[.slice A L.length c] w fun e w' => e = .returned (.string (natB (val L))) ∧ Below w.heap.size w w' := by
  have HC := Aside0.mk hC
  have HL := Aside0.mk hl
  clear hC hl
  obtain ⟨q, hq⟩ : ∃ q : Nat, q = L.length * 4 := ⟨_, rfl⟩
  have hq1 : (L.length : Int) * 4 = (q : Int) := by omega
  have hq2 : q ≤ 1099511627776 := by omega
  have HQ := Lib.hid hq
  have HQ1 := Lib.hid hq1
  clear hq hq1
  go_enter Tryz.func92, Tryz.ntmps92
  go_wp2_with (refine makeK Tryz.underlying177 infoU8 (by decide) (N := 8) rfl rfl rfl q (congrArg (Value.int .i64) HQ1.out) (congrArg (Value.int .i64) HQ1.out) (by omega) ?_; intro v w1 ho hb; obtain ⟨A1, c1, rfl⟩ := Kd.R_slice ho; simp only [List.length_replicate] at ho ⊢)
  go_loopw [11] (fun v11 w' => ∃ (i : Nat) (M : List Int), i ≤ q ∧ v11 = .int .i64 i ∧ Aside0 (M.length = q ∧ Byt M ∧ bvi M = val L % 256 ^ i) ∧ Aside0 (OwnK .u8 5 w' w.heap.size (.slice A1 q c1) M) ∧ Aside0 (Below w.heap.size w w')) (fun v11 _ => q - (intOf v11).toNat)
  case atStart => exact ⟨0, _, Nat.zero_le _, rfl, ⟨by simp, byt_zeros _, by rw [bvi_zeros]; simp [Nat.mod_one]⟩, ⟨ho⟩, ⟨hb⟩⟩
  case round =>
    clear ho hb
    obtain ⟨i, M, hi, rfl, hM, ho, hb⟩ := hrel
    rcases Nat.lt_or_ge i q with hlt | hge
    · obtain ⟨j, hj⟩ : ∃ j, j = i / 4 := ⟨_, rfl⟩
      obtain ⟨m, hm⟩ : ∃ m, m = q - 1 - i := ⟨_, rfl⟩
      obtain ⟨r, hr⟩ : ∃ r, r = i % 4 := ⟨_, rfl⟩
      have hjl : j < L.length := by have := HQ.out; omega
      have hml : m < q := by omega
      have hr4 : r < 4 := by omega
      obtain ⟨ad, rfl, hx⟩ := C_word (Kd.C_below HC.out hb.out) (j : Int) (by omega) (by omega)
      rw [Int.toNat_natCast] at hx
      obtain ⟨g, cap, e1, hg1, hg2, cells, hg3⟩ := Kd.R_form ho.out (by have := hM.out.1; omega)
      obtain ⟨rfl, -, rfl⟩ : A1 = some ⟨g, 0, none⟩ ∧ q = M.length ∧ c1 = cap := by injection e1 with e1 e2 e3; exact ⟨e1, e2, e3⟩
      have f1 : IntKind.i64.wrap ((i : Int) / 4) = (j : Int) := by rw [IntKind.wrap_i64]; omega
      have f4 : Int.tmod (i : Int) 4 = (r : Int) := by rw [Int.tmod_eq_emod_of_nonneg (by omega)]; omega
      have f5 : (i : Int) % 4 = (r : Int) := by omega
      have f6 : (q : Int) - 1 - i = (m : Int) := by omega
      have HM := Lib.hid (And.intro hj (And.intro hm hr))
      clear hj hm hr hg3 e1
      go_wp2_with (refine storeK infoU8 (p := 30) (j := m) rfl rfl rfl ho.out hb.out (Nat.le_refl _) hml rfl rfl ?_; clear ho hb; intro w4 ho4 hb4)
      go_roundw
      case measure => simp [intOf]; omega
      case rel =>
        obtain ⟨e1, e2, e3⟩ := HM.out
        have h0 := lim_get HL.out j
        obtain ⟨p1, p2⟩ := text_round HL.out hM.out.2.1 hM.out.1 hM.out.2.2 hlt e1 e3 e2 (c := rd L ↑j / 2 ^ (8 * r) % 256) (by rw [← rd_nat] at h0 ⊢; obtain ⟨d, hd⟩ := Int.eq_ofNat_of_zero_le h0.1; rw [hd]; simp)
        exact ⟨i + 1, _, hlt, by go_num, ⟨by rw [List.length_set]; exact hM.out.1, p1, p2⟩, ⟨ho4⟩, ⟨hb4⟩⟩
    · obtain rfl : i = q := by omega
      obtain ⟨hl1, -, hC1⟩ := Kd.R_reads' ho.out
      have hcv : (convert 177 9 (.slice A1 i c1)).run Tryz.prog wr = .ok (.string (strOfNums M)) wr := Kd.C_string Tryz.underlying177 Tryz.underlying5 Tryz.underlying9 (by rw [← hl1] at hC1; exact hC1)
      clear hl1 hC1
      have HV := Lib.hid (show bval (strOfNums M) = val L by
        rw [bval_strOfNums hM.out.2.1, hM.out.2.2, Nat.mod_eq_of_lt]
        have := val_lt HL.out
        have e : (256 : Nat) ^ i = 4294967296 ^ L.length := by rw [HQ.out, Nat.mul_comm, Nat.pow_mul]
        rwa [e])
      go_wp2_with (go_at_call 88; refine (natural_Normalize _ _).mono ?_; rintro e w4 ⟨rfl, rfl⟩)
      go_ret
      exact ⟨by simp [HV.out], hb.out⟩
end Go.Proofs.YtnimgfnknlkkdaaGreatDoor.H
/- Comparing digit by digit; adding and subtracting with a carry. -/
set_option linter.unusedVariables false
set_option linter.unusedSimpArgs false
namespace Go.Proofs.YtnimgfnknlkkdaaGreatDoor.Num
open Go
theorem val_split (l : List Int) (n : Nat) (h : n ≤ l.length) : val l = val (l.take n) + 4294967296 ^ n * val (l.drop n) := by
  conv => lhs; rw [← List.take_append_drop n l, val_append, List.length_take, Nat.min_eq_left h]
theorem val_drop (l : List Int) (n : Nat) (h : n < l.length) : val (l.drop n) = (l.getD n 0).toNat + 4294967296 * val (l.drop (n + 1)) := by
  rw [List.drop_eq_getElem_cons h, val, List.getD_eq_getElem?_getD, List.getElem?_eq_getElem h]; rfl
theorem cmp_lt {a b : List Int} (ha : Lim a) (hb : Lim b) (hl : a.length = b.length) {m : Nat} (hm : m < a.length) (hd : a.drop (m + 1) = b.drop (m + 1)) (h : a.getD m 0 < b.getD m 0) : val a < val b := by
  rw [val_split a m (by omega), val_split b m (by omega), val_drop a m hm, val_drop b m (by omega), hd]
  have h1 := val_lt (lim_take m ha)
  rw [List.length_take, Nat.min_eq_left (by omega)] at h1
  have h2 := lim_get ha m
  have h3 := lim_get hb m
  have h4 : (a.getD m 0).toNat + 1 ≤ (b.getD m 0).toNat := by omega
  have h5 := Nat.mul_le_mul_left (4294967296 ^ m) (Nat.add_le_add_right h4 (4294967296 * val (b.drop (m + 1))))
  have h6 : 4294967296 ^ m * ((a.getD m 0).toNat + 1 + 4294967296 * val (b.drop (m + 1))) = 4294967296 ^ m * ((a.getD m 0).toNat + 4294967296 * val (b.drop (m + 1))) + 4294967296 ^ m := by grind
  omega
def cmpN (a b : Nat) : Int := if a < b then -1 else if b < a then 1 else 0
theorem cmpN_lt {a b : Nat} (h : a < b) : cmpN a b = -1 := by simp [cmpN, h]
theorem cmpN_gt {a b : Nat} (h : b < a) : cmpN a b = 1 := by unfold cmpN; rw [if_neg (by omega), if_pos h]
theorem cmpN_eq (a : Nat) : cmpN a a = 0 := by simp [cmpN]
theorem dig_short {a b : Nat} (h : (dig a).length < (dig b).length) : a < b := Nat.lt_of_not_le fun h1 => by
  have := dig_mono h1
  omega
theorem drop_same {a b : List Int} (hl : a.length = b.length) {m : Nat} (hm : m < a.length) (hd : a.drop (m + 1) = b.drop (m + 1)) (h : a.getD m 0 = b.getD m 0) : a.drop m = b.drop m := by
  have hm2 : m < b.length := by omega
  have e1 := List.drop_eq_getElem_cons hm
  have e2 := List.drop_eq_getElem_cons hm2
  rw [List.getD_eq_getElem?_getD, List.getD_eq_getElem?_getD, List.getElem?_eq_getElem hm, List.getElem?_eq_getElem hm2] at h
  simp only [Option.getD_some] at h
  rw [e1, e2, hd, h]
/-- One digit of a sum. -/
theorem add_round {x y o : List Int} {i : Nat} {c s d : Int} (hx : Lim x) (hy : Lim y) (ho : Lim o) (hc : 0 ≤ c ∧ c ≤ 1) (hi : i < x.length) (hio : i < o.length)
    (hz : val o + c.toNat * 4294967296 ^ i = val (x.take i) + val (y.take i)) (h0 : o.getD i 0 = 0) (hs : s = (x.getD i 0 + y.getD i 0 + c) % 4294967296) (hd : d = (x.getD i 0 + y.getD i 0 + c) / 4294967296) :
    Lim (o.set i s) ∧ (0 ≤ d ∧ d ≤ 1) ∧ val (o.set i s) + d.toNat * 4294967296 ^ (i + 1) = val (x.take (i + 1)) + val (y.take (i + 1)) := by
  have h1 := lim_get hx i
  have h2 := lim_get hy i
  refine ⟨lim_set i ho (by omega), by omega, ?_⟩
  have h3 := val_set hio s
  rw [h0] at h3
  have h4 : val (y.take (i + 1)) = val (y.take i) + 4294967296 ^ i * (y.getD i 0).toNat := by
    by_cases h : i < y.length
    · exact val_take_succ y i h
    · rw [List.take_of_length_le (by omega), List.take_of_length_le (by omega), List.getD_eq_getElem?_getD, List.getElem?_eq_none (by omega)]; simp
  rw [val_take_succ x i hi, h4]
  have h5 : s.toNat + d.toNat * 4294967296 = (x.getD i 0).toNat + (y.getD i 0).toNat + c.toNat := by omega
  have h6 : (s.toNat + d.toNat * 4294967296) * 4294967296 ^ i = ((x.getD i 0).toNat + (y.getD i 0).toNat + c.toNat) * 4294967296 ^ i := by rw [h5]
  rw [Nat.pow_succ]
  simp only [Nat.add_mul] at h6
  grind
def bor (x y c : Int) : Int := if x < y + c then 1 else 0
/-- One digit of a difference. -/
theorem sub_round {x y o : List Int} {i : Nat} {c s d : Int} (hx : Lim x) (hy : Lim y) (ho : Lim o) (hc : 0 ≤ c ∧ c ≤ 1) (hi : i < x.length) (hio : i < o.length)
    (hz : val o + val (y.take i) = val (x.take i) + c.toNat * 4294967296 ^ i) (h0 : o.getD i 0 = 0) (hs : s = (x.getD i 0 - y.getD i 0 - c) % 4294967296) (hd : d = bor (x.getD i 0) (y.getD i 0) c) :
    Lim (o.set i s) ∧ (0 ≤ d ∧ d ≤ 1) ∧ val (o.set i s) + val (y.take (i + 1)) = val (x.take (i + 1)) + d.toNat * 4294967296 ^ (i + 1) := by
  have h1 := lim_get hx i
  have h2 := lim_get hy i
  have hd' : (0 ≤ d ∧ d ≤ 1) ∧ s.toNat + (y.getD i 0).toNat + c.toNat = (x.getD i 0).toNat + d.toNat * 4294967296 := by
    rw [hd, hs]; unfold bor; split <;> omega
  refine ⟨lim_set i ho (by omega), hd'.1, ?_⟩
  have h3 := val_set hio s
  rw [h0] at h3
  have h4 : val (y.take (i + 1)) = val (y.take i) + 4294967296 ^ i * (y.getD i 0).toNat := by
    by_cases h : i < y.length
    · exact val_take_succ y i h
    · rw [List.take_of_length_le (by omega), List.take_of_length_le (by omega), List.getD_eq_getElem?_getD, List.getElem?_eq_none (by omega)]; simp
  rw [val_take_succ x i hi, h4]
  have h6 : (s.toNat + (y.getD i 0).toNat + c.toNat) * 4294967296 ^ i = ((x.getD i 0).toNat + d.toNat * 4294967296) * 4294967296 ^ i := by rw [hd'.2]
  rw [Nat.pow_succ]
  simp only [Nat.add_mul] at h6
  grind
end Go.Proofs.YtnimgfnknlkkdaaGreatDoor.Num
set_option linter.unusedVariables false
set_option linter.unusedSimpArgs false
open Go
namespace Go.Proofs.YtnimgfnknlkkdaaGreatDoor.H
open Go Go.RowKit Go.Proofs.YtnimgfnknlkkdaaGreatDoorW.PrintWords Go.Proofs.YtnimgfnknlkkdaaGreatDoorW.PrintLast Go.Proofs.YtnimgfnknlkkdaaGreatDoorW.PrintMore Go.Proofs.YtnimgfnknlkkdaaGreatDoor.Num
theorem natural_sign (n : Int) (w : World) : Calls Tryz.prog 95 #[.int .i64 n] w fun e w' => e = .returned (.int .i64 (if n < 0 then -1 else if 0 < n then 1 else 0)) ∧ w' = w := by
  rcases Int.lt_trichotomy n 0 with h | h | h
  · go_enter Tryz.func95, Tryz.ntmps95
    go_wp2
    go_ret
    exact ⟨by simp [h], rfl⟩
  · subst h
    go_enter Tryz.func95, Tryz.ntmps95
    go_wp2
    go_ret
    exact ⟨by simp, rfl⟩
  · have h2 : ¬ n < 0 := by omega
    go_enter Tryz.func95, Tryz.ntmps95
    go_wp2
    go_ret
    exact ⟨by simp [h, h2], rfl⟩
theorem ret_i {a b : Int} (h : a = b) : Ending.returned (.int .i64 a) = Ending.returned (.int .i64 b) := by rw [h]
set_option maxRecDepth 100000 in
set_option maxHeartbeats 400000 in
theorem natural_compare (a b : Nat) (A B : Option Addr) (c d : Nat) (w : World) (hA : Kd.C (Kd.int .u32) w A (dig a).length (dig a)) (hc : (dig a).length ≤ c) (hB : Kd.C (Kd.int .u32) w B (dig b).length (dig b)) (hd : (dig b).length ≤ d)
    (ha : (dig a).length ≤ 274877906944) (hb : (dig b).length ≤ 274877906944) :
    Calls Tryz.prog 126 #[.slice A (dig a).length c, .slice B (dig b).length d] w fun e w' => e = .returned (.int .i64 (cmpN a b)) ∧ Drawn0 w w' := by
  have HA := Aside0.mk hA
  have HB := Aside0.mk hB
  clear hA hB
  have hl1 := lim_dig a
  have hl2 := lim_dig b
  have V1 := Lib.hid (val_dig a)
  have V2 := Lib.hid (val_dig b)
  have S1 := Aside0.mk (@dig_short a b)
  have S2 := Aside0.mk (@dig_short b a)
  generalize dig a = la at *
  generalize dig b = lb at *
  have L1 := Aside0.mk hl1
  have L2 := Aside0.mk hl2
  clear hl1 hl2
  by_cases hl : la.length = lb.length
  · have hl' : ((la.length : Int) != (lb.length : Int)) = false := by simp [hl]
    have HL := Lib.hid hl
    clear hl
    go_enter Tryz.func126, Tryz.ntmps126
    go_wp2
    go_loopw [5] (fun v5 w' => ∃ n : Nat, n ≤ la.length ∧ v5 = .int .i64 ((n : Int) - 1) ∧ Aside0 (la.drop n = lb.drop n) ∧ Aside0 (Drawn0 w w')) (fun v5 _ => (intOf v5 + 1).toNat)
    case atStart => exact ⟨la.length, Nat.le_refl _, rfl, ⟨by rw [List.drop_length, HL.out, List.drop_length]⟩, ⟨Drawn0.refl w⟩⟩
    case round =>
      obtain ⟨n, hn, rfl, hv, hd⟩ := hrel
      rcases Nat.eq_zero_or_pos n with rfl | h0
      · have e : a = b := by
          have := hv.out
          simp at this
          rw [← V1.out, ← V2.out, this]
        subst e
        go_wp2
        go_ret
        exact ⟨ret_i (cmpN_eq a).symm, hd.out⟩
      · obtain ⟨m, rfl⟩ : ∃ m, n = m + 1 := ⟨n - 1, by omega⟩
        have hi1 : (m : Int) < (la.length : Int) := by omega
        have hi2 : (m : Int) < (lb.length : Int) := by have := HL.out; omega
        obtain ⟨ad, rfl, hx⟩ := C_word (Kd.C_below HA.out hd.out.below) (m : Int) (by omega) hi1
        obtain ⟨bd, rfl, hy⟩ := C_word (Kd.C_below HB.out hd.out.below) (m : Int) (by omega) hi2
        rw [Int.toNat_natCast] at hx hy
        have hlt := Aside0.mk (@cmp_lt la lb L1.out L2.out HL.out m (by omega) hv.out)
        have hgt := Aside0.mk (@cmp_lt lb la L2.out L1.out HL.out.symm m (by omega) hv.out.symm)
        have heq := Aside0.mk (@drop_same la lb HL.out m (by omega) hv.out)
        rw [← rd_nat, ← rd_nat] at hlt hgt heq
        generalize rd la (m : Int) = xa at *
        generalize rd lb (m : Int) = xb at *
        rw [V1.out, V2.out] at hlt hgt
        rcases Int.lt_trichotomy xa xb with h | h | h
        · have g1 : (xa != xb) = true := by simp; omega
          have g2 : decide (xa < xb) = true := by simpa using h
          go_wp2
          go_quiet (fail)
          go_wp2
          go_quiet (fail)
          go_wp2
          go_ret
          exact ⟨ret_i (cmpN_lt (hlt.out h)).symm, Drawn0.step (Drawn0.step hd.out _) _⟩
        · subst h
          go_wp2
          go_quiet (fail)
          go_wp2
          go_roundw
          case measure => simp [intOf]
          case rel => exact ⟨m, by omega, rfl, ⟨by first | exact heq.out rfl | exact heq.out trivial⟩, ⟨Drawn0.step hd.out _⟩⟩
        · have g1 : (xa != xb) = true := by simp; omega
          have g2 : decide (xa < xb) = false := by simp; omega
          go_wp2
          go_quiet (fail)
          go_wp2
          go_quiet (fail)
          go_wp2
          go_ret
          exact ⟨ret_i (cmpN_gt (hgt.out h)).symm, Drawn0.step (Drawn0.step hd.out _) _⟩
  · have hl' : ((la.length : Int) != (lb.length : Int)) = true := by simp; omega
    rcases Nat.lt_or_gt_of_ne hl with h | h
    · have R := Lib.hid (cmpN_lt (S1.out h))
      go_enter Tryz.func126, Tryz.ntmps126
      go_wp2_with (go_at_call 95; refine (natural_sign _ _).mono ?_; rintro e w1 ⟨rfl, rfl⟩)
      all_goals (go_ret; first | (exfalso; omega) | exact ⟨ret_i R.out.symm, Drawn0.refl _⟩)
    · have R := Lib.hid (cmpN_gt (S2.out h))
      go_enter Tryz.func126, Tryz.ntmps126
      go_wp2_with (go_at_call 95; refine (natural_sign _ _).mono ?_; rintro e w1 ⟨rfl, rfl⟩)
      all_goals (go_ret; first | (exfalso; omega) | exact ⟨ret_i R.out.symm, Drawn0.refl _⟩)
end Go.Proofs.YtnimgfnknlkkdaaGreatDoor.H
/- The borrow of a subtraction, by bits. -/
set_option linter.unusedVariables false
set_option linter.unusedSimpArgs false
namespace Go.Proofs.YtnimgfnknlkkdaaGreatDoor.Num
open Go
theorem bv_wrap (Z : BitVec 32) : IntKind.u32.wrap (Z.toNat : Int) = (Z.toNat : Int) := by
  have := Z.isLt
  exact wraps_u32 _ (by omega) (by exact_mod_cast this)
theorem bv_int (X : BitVec 32) : BitVec.ofInt 32 (X.toNat : Int) = X := by simp
theorem bv_and (X Y : BitVec 32) : bits .and .u32 (X.toNat : Int) (Y.toNat : Int) = ((X &&& Y).toNat : Int) := by
  show IntKind.u32.wrap ((BitVec.ofInt 32 (X.toNat : Int) &&& BitVec.ofInt 32 (Y.toNat : Int)).toNat : Int) = _
  rw [bv_int, bv_int, bv_wrap]
theorem bv_or (X Y : BitVec 32) : bits .or .u32 (X.toNat : Int) (Y.toNat : Int) = ((X ||| Y).toNat : Int) := by
  show IntKind.u32.wrap ((BitVec.ofInt 32 (X.toNat : Int) ||| BitVec.ofInt 32 (Y.toNat : Int)).toNat : Int) = _
  rw [bv_int, bv_int, bv_wrap]
theorem bv_xor (X Y : BitVec 32) : bits .xor .u32 (X.toNat : Int) (Y.toNat : Int) = ((X ^^^ Y).toNat : Int) := by
  show IntKind.u32.wrap ((BitVec.ofInt 32 (X.toNat : Int) ^^^ BitVec.ofInt 32 (Y.toNat : Int)).toNat : Int) = _
  rw [bv_int, bv_int, bv_wrap]
theorem bv_of (x : Int) (h0 : 0 ≤ x) (h1 : x < 4294967296) : ∃ X : BitVec 32, x = (X.toNat : Int) := by
  obtain ⟨n, rfl⟩ := Int.eq_ofNat_of_zero_le h0
  exact ⟨BitVec.ofNat 32 n, by rw [BitVec.toNat_ofNat, Nat.mod_eq_of_lt (by simp; omega)]⟩
theorem bv_top (Z : BitVec 32) : (Z.toNat : Int) / 2147483648 = if Z.msb = true then 1 else 0 := by
  rw [BitVec.msb_eq_decide]
  have := Z.isLt
  by_cases h : 2 ^ (32 - 1) ≤ Z.toNat <;> simp [h] <;> omega
theorem sub_borrow {x y c : Int} (hx0 : 0 ≤ x) (hx1 : x < 4294967296) (hy0 : 0 ≤ y) (hy1 : y < 4294967296) (hc0 : 0 ≤ c) (hc1 : c ≤ 1) :
    bits .or .u32 (bits .and .u32 (bits .xor .u32 IntKind.u32.max x) y) (bits .and .u32 (bits .xor .u32 IntKind.u32.max (bits .xor .u32 x y)) ((x - y - c) % 4294967296)) / 2147483648 = bor x y c := by
  unfold bor
  obtain ⟨D, hD⟩ := bv_of ((x - y - c) % 4294967296) (by omega) (by omega)
  obtain ⟨X, rfl⟩ := bv_of x hx0 hx1
  obtain ⟨Y, rfl⟩ := bv_of y hy0 hy1
  have hm : IntKind.u32.max = ((BitVec.allOnes 32).toNat : Int) := by decide
  rw [hD, hm]
  simp only [bv_xor, bv_and, bv_or, bv_top]
  simp only [BitVec.msb_or, BitVec.msb_and, BitVec.msb_xor, BitVec.msb_allOnes (show 0 < 32 by decide)]
  simp only [BitVec.msb_eq_decide]
  have hX := X.isLt
  have hY := Y.isLt
  have hDl := D.isLt
  by_cases h1 : 2 ^ (32 - 1) ≤ X.toNat <;> by_cases h2 : 2 ^ (32 - 1) ≤ Y.toNat <;> by_cases h3 : 2 ^ (32 - 1) ≤ D.toNat <;> simp [h1, h2, h3] <;> omega
end Go.Proofs.YtnimgfnknlkkdaaGreatDoor.Num
set_option linter.unusedVariables false
set_option linter.unusedSimpArgs false
open Go
namespace Go.Proofs.YtnimgfnknlkkdaaGreatDoor.H
open Go Go.RowKit Go.Proofs.YtnimgfnknlkkdaaGreatDoorW.PrintWords Go.Proofs.YtnimgfnknlkkdaaGreatDoorW.PrintLast Go.Proofs.YtnimgfnknlkkdaaGreatDoorW.PrintMore Go.Proofs.YtnimgfnknlkkdaaGreatDoor.Num
set_option maxHeartbeats 400000 in
theorem bits_Add32 (x y c : Int) (w : World) (hx : 0 ≤ x ∧ x < 4294967296) (hy : 0 ≤ y ∧ y < 4294967296) (hc : 0 ≤ c ∧ c ≤ 1) :
    Calls Tryz.prog 125 #[.int .u32 x, .int .u32 y, .int .u32 c] w fun e w' => e = .returned (.tuple #[.int .u32 ((x + y + c) % 4294967296), .int .u32 ((x + y + c) / 4294967296)]) ∧ w' = w := by
  obtain ⟨hx0, hx1⟩ := hx
  obtain ⟨hy0, hy1⟩ := hy
  obtain ⟨hc0, hc1⟩ := hc
  go_enter Tryz.func125, Tryz.ntmps125
  go_wp2
  go_ret2
  exact ⟨rfl, rfl⟩
theorem ret_tt {k k2 : IntKind} {x a b : Int} (h : a = b) : Ending.returned (.tuple #[.int k x, .int k2 a]) = Ending.returned (.tuple #[.int k x, .int k2 b]) := by rw [h]
set_option maxHeartbeats 400000 in
theorem bits_Sub32 (x y c : Int) (w : World) (hx : 0 ≤ x ∧ x < 4294967296) (hy : 0 ≤ y ∧ y < 4294967296) (hc : 0 ≤ c ∧ c ≤ 1) :
    Calls Tryz.prog 169 #[.int .u32 x, .int .u32 y, .int .u32 c] w fun e w' => e = .returned (.tuple #[.int .u32 ((x - y - c) % 4294967296), .int .u32 (bor x y c)]) ∧ w' = w := by
  obtain ⟨hx0, hx1⟩ := hx
  obtain ⟨hy0, hy1⟩ := hy
  obtain ⟨hc0, hc1⟩ := hc
  go_enter Tryz.func169, Tryz.ntmps169
  go_wp2
  go_ret2
  exact ⟨ret_tt (sub_borrow hx0 hx1 hy0 hy1 hc0 hc1), rfl⟩
theorem zero_set {M : List Int} {i : Nat} {x : Int} (h : ∀ j, i ≤ j → M.getD j 0 = 0) : ∀ j, i + 1 ≤ j → (M.set i x).getD j 0 = 0 := fun j hj => by
  rw [List.getD_eq_getElem?_getD, List.getElem?_set_ne (by omega), ← List.getD_eq_getElem?_getD]
  exact h j (by omega)
theorem zero_rep (n i : Nat) : ∀ j, i ≤ j → (List.replicate n (0 : Int)).getD j 0 = 0 := fun j _ => by
  rw [List.getD_eq_getElem?_getD, List.getElem?_replicate]
  split <;> rfl
theorem sub_end {M x y : List Int} {n : Nat} {c : Int} (hM : M.length = n) (hl : Lim M) (hc : 0 ≤ c ∧ c ≤ 1) (hx : x.length = n) (hy : y.length ≤ n) (hv : val M + val (y.take n) = val (x.take n) + c.toNat * 4294967296 ^ n) (hle : val y ≤ val x) : val M = val x - val y := by
  rw [List.take_of_length_le hy, List.take_of_length_le (by omega)] at hv
  have h1 := val_lt hl
  rw [hM] at h1
  rcases (by omega : c.toNat = 0 ∨ c.toNat = 1) with h | h
  · rw [h] at hv; omega
  · rw [h] at hv; omega
set_option maxRecDepth 100000 in
set_option maxHeartbeats 400000 in
theorem natural_sub (a b : Nat) (A B : Option Addr) (c d : Nat) (w : World) (hA : Kd.C (Kd.int .u32) w A (dig a).length (dig a)) (hc : (dig a).length ≤ c) (hB : Kd.C (Kd.int .u32) w B (dig b).length (dig b)) (hd : (dig b).length ≤ d)
    (ha : (dig a).length ≤ 274877906944) (hle : b ≤ a) :
    Calls Tryz.prog 127 #[.slice A (dig a).length c, .slice B (dig b).length d] w fun e w' => ∃ v, e = .returned v ∧ IsL w' v (dig (a - b)) ∧ Below w.heap.size w w' := by
  have HA := Aside0.mk hA
  have HB := Aside0.mk hB
  clear hA hB
  have hl1 := lim_dig a
  have hl2 := lim_dig b
  have V1 := Lib.hid (val_dig a)
  have V2 := Lib.hid (val_dig b)
  have hlen := dig_mono hle
  have HLE := Aside0.mk hle
  clear hle
  generalize dig a = la at *
  generalize dig b = lb at *
  have L1 := Aside0.mk hl1
  have L2 := Aside0.mk hl2
  clear hl1 hl2
  obtain ⟨n, hn⟩ : ∃ n, n = la.length := ⟨_, rfl⟩
  rw [← hn] at ha hc hlen HA ⊢
  have HN := Lib.hid hn
  clear hn
  go_enter Tryz.func127, Tryz.ntmps127
  go_wp2_with (refine makeK Tryz.underlying138 infoU32 (by decide) (N := 11) rfl rfl rfl n rfl rfl (by omega) ?_; intro v w1 ho hb; obtain ⟨A1, c1, rfl⟩ := Kd.R_slice ho; simp only [List.length_replicate] at ho ⊢)
  go_loopw [6, 14] (fun v6 v14 w' => ∃ (i : Nat) (M : List Int) (cb : Int), i ≤ n ∧ v6 = .int .u32 cb ∧ v14 = .int .i64 i ∧ Aside0 (M.length = n ∧ Lim M ∧ (0 ≤ cb ∧ cb ≤ 1) ∧ (∀ j, i ≤ j → M.getD j 0 = 0) ∧ val M + val (lb.take i) = val (la.take i) + cb.toNat * 4294967296 ^ i)
      ∧ Aside0 (Own w' w.heap.size (.slice A1 n c1) M) ∧ Aside0 (Below w.heap.size w w')) (fun _ v14 _ => n - (intOf v14).toNat)
  case atStart => exact ⟨0, _, 0, Nat.zero_le _, rfl, rfl, ⟨by simp, lim_zeros _, by omega, zero_rep _ _, by simp [val_zeros, val]⟩, ⟨ho⟩, ⟨hb⟩⟩
  case round =>
    clear ho hb
    obtain ⟨i, M, cb, hi, rfl, rfl, hM, ho, hb⟩ := hrel
    rcases Nat.lt_or_ge i n with hlt | hge
    · obtain ⟨ad, rfl, hx⟩ := C_word (HN.out ▸ Kd.C_below HA.out hb.out : Kd.C (Kd.int .u32) wr A la.length la) (i : Int) (by omega) (by have := HN.out; omega)
      rw [Int.toNat_natCast] at hx
      obtain ⟨g, cap, e1, hg1, hg2, cells, hg3⟩ := Kd.R_form ho.out (by have := hM.out.1; omega)
      obtain ⟨rfl, -, rfl⟩ : A1 = some ⟨g, 0, none⟩ ∧ n = M.length ∧ c1 = cap := by injection e1 with e1 e2 e3; exact ⟨e1, e2, e3⟩
      clear hg3 e1
      have K1 : 0 ≤ rd la (i : Int) ∧ rd la (i : Int) < 4294967296 := by rw [rd_nat]; exact lim_get L1.out i
      have K3 := hM.out.2.2.1
      have hsub := Aside0.mk (fun s dd => @sub_round la lb M i cb s dd L1.out L2.out hM.out.2.1 K3 (by have := HN.out; omega) (by have := hM.out.1; omega) hM.out.2.2.2.2 (hM.out.2.2.2.1 i (Nat.le_refl _)))
      by_cases hb2 : i < lb.length
      · obtain ⟨bd, rfl, hy⟩ := C_word (Kd.C_below HB.out hb.out) (i : Int) (by omega) (by omega)
        rw [Int.toNat_natCast] at hy
        have K2 : 0 ≤ rd lb (i : Int) ∧ rd lb (i : Int) < 4294967296 := by rw [rd_nat]; exact lim_get L2.out i
        rw [← rd_nat, ← rd_nat] at hsub
        go_wp2_with (first | (go_at_call 169; refine (bits_Sub32 _ _ _ _ K1 K2 K3).mono ?_; rintro e w4 ⟨rfl, rfl⟩) | (refine storeK infoU32 (p := 37) (j := i) rfl rfl rfl ho.out hb.out (Nat.le_refl _) hlt rfl rfl ?_; clear ho hb; intro w4 ho4 hb4))
        go_roundw
        case measure => simp [intOf]; omega
        case rel =>
          obtain ⟨p1, p2, p3⟩ := hsub.out _ _ rfl rfl
          exact ⟨i + 1, _, _, hlt, rfl, by go_num, ⟨by rw [List.length_set]; exact hM.out.1, p1, p2, zero_set hM.out.2.2.2.1, p3⟩, ⟨ho4⟩, ⟨hb4⟩⟩
      · have K2 : (0 : Int) ≤ 0 ∧ (0 : Int) < 4294967296 := by omega
        have hz : lb.getD i 0 = 0 := by rw [List.getD_eq_getElem?_getD, List.getElem?_eq_none (by omega)]; rfl
        rw [hz, ← rd_nat] at hsub
        clear hz
        go_wp2_with (first | (go_at_call 169; refine (bits_Sub32 _ _ _ _ K1 K2 K3).mono ?_; rintro e w4 ⟨rfl, rfl⟩) | (refine storeK infoU32 (p := 37) (j := i) rfl rfl rfl ho.out hb.out (Nat.le_refl _) hlt rfl rfl ?_; clear ho hb; intro w4 ho4 hb4))
        go_roundw
        case measure => simp [intOf]; omega
        case rel =>
          obtain ⟨p1, p2, p3⟩ := hsub.out ((rd la (i : Int) - cb) % 4294967296) _ (by simp) rfl
          exact ⟨i + 1, _, _, hlt, rfl, by go_num, ⟨by rw [List.length_set]; exact hM.out.1, p1, p2, zero_set hM.out.2.2.2.1, p3⟩, ⟨ho4⟩, ⟨hb4⟩⟩
    · obtain rfl : i = n := by omega
      obtain ⟨hl1, hcc, hC1⟩ := Kd.R_reads' ho.out
      have HV := Lib.hid (sub_end hM.out.1 hM.out.2.1 hM.out.2.2.1 HN.out.symm hlen hM.out.2.2.2.2 (by rw [V1.out, V2.out]; exact HLE.out))
      have HT := Lib.hid (natural_trim M A1 c1 wr hM.out.2.1 (hl1 ▸ hcc) hC1)
      rw [V1.out, V2.out] at HV
      rw [HV.out, ← hl1] at HT
      clear hl1 hcc hC1
      go_wp2_with (go_at_call 124; refine HT.out.mono ?_; rintro e w4 ⟨v4, rfl, hr, hd⟩)
      go_ret
      exact ⟨_, rfl, hr, below_step hb.out hd.below⟩
end Go.Proofs.YtnimgfnknlkkdaaGreatDoor.H
set_option linter.unusedVariables false
set_option linter.unusedSimpArgs false
open Go
namespace Go.Proofs.YtnimgfnknlkkdaaGreatDoor.H
open Go Go.RowKit Go.Proofs.YtnimgfnknlkkdaaGreatDoorW.PrintWords Go.Proofs.YtnimgfnknlkkdaaGreatDoorW.PrintLast Go.Proofs.YtnimgfnknlkkdaaGreatDoorW.PrintMore Go.Proofs.YtnimgfnknlkkdaaGreatDoor.Num
theorem dig_len_size {s : ByteArray} {n : Nat} (h : s.size ≤ 4 * n) : (dig (bval s)).length ≤ n := by
  refine dig_length_le (Nat.lt_of_lt_of_le (bval_lt s) ?_)
  rw [show (4294967296 : Nat) = 256 ^ 4 by rfl, ← Nat.pow_mul]
  exact Nat.pow_le_pow_right (by omega) h
theorem text_own {L : List Int} {A : Option Addr} {n c base : Nat} {w : World} (ho : Own w base (.slice A n c) L) (hl : Lim L) (hn : n ≤ 274877906944) :
    Calls Tryz.prog 92 #[.slice A n c] w fun e w' => e = .returned (.string (natB (val L))) ∧ Below w.heap.size w w' := by
  obtain ⟨rfl, hc, hC⟩ := Kd.R_reads' ho
  exact natural_text L A c w hl hc hC hn
theorem trim_own {L : List Int} {A : Option Addr} {n c base : Nat} {w : World} (ho : Own w base (.slice A n c) L) (hl : Lim L) :
    Calls Tryz.prog 124 #[.slice A n c] w fun e w' => ∃ v, e = .returned v ∧ IsL w' v (dig (val L)) ∧ Drawn0 w w' := by
  obtain ⟨rfl, hc, hC⟩ := Kd.R_reads' ho
  exact natural_trim L A c w hl hc hC
theorem add_end {M x y : List Int} {n : Nat} {c : Int} (hM : M.length = n + 1) (hl : Lim M) (hc : 0 ≤ c ∧ c ≤ 1) (h0 : M.getD n 0 = 0) (hx : x.length = n) (hy : y.length ≤ n) (hv : val M + c.toNat * 4294967296 ^ n = val (x.take n) + val (y.take n)) : Lim (M.set n c) ∧ val (M.set n c) = val x + val y := by
  rw [List.take_of_length_le hy, List.take_of_length_le (by omega)] at hv
  have h1 := val_set (l := M) (j := n) (by omega) c
  rw [h0] at h1
  exact ⟨lim_set n hl (by omega), by simp at h1; omega⟩
set_option maxRecDepth 100000 in
set_option maxHeartbeats 1000000 in
theorem natural_Add (s t : ByteArray) (w : World) (hs : s.size ≤ 549755813888) (ht : t.size ≤ 549755813888) :
    Calls Tryz.prog 93 #[.string s, .string t] w fun e w' => e = .returned (.string (natB (bval s + bval t))) ∧ Below w.heap.size w w' := by
  have D1 := dig_len_size (s := s) (n := 137438953472) (by omega)
  have D2 := dig_len_size (s := t) (n := 137438953472) (by omega)
  generalize ha : bval s = a at *
  generalize hb : bval t = b at *
  have P1 := Lib.hid (fun w => natural_parse s w (by omega))
  have P2 := Lib.hid (fun w => natural_parse t w (by omega))
  rw [ha] at P1
  rw [hb] at P2
  clear ha hb
  go_enter Tryz.func93, Tryz.ntmps93
  go_wp2_with (fail)
  refine (P1.out _).mono ?_
  rintro e w1 ⟨v1, rfl, ⟨A, c, rfl, hc, hA⟩, hb1⟩
  have HA := Aside0.mk hA
  have HB1 := Aside0.mk hb1
  clear hA hb1
  go_wp2_with (fail)
  refine (P2.out _).mono ?_
  rintro e w2 ⟨v2, rfl, ⟨B, d, rfl, hd, hB⟩, hb2⟩
  have HB := Aside0.mk hB
  have HA2 := Aside0.mk (Kd.C_below HA.out hb2)
  have HBW := Aside0.mk (below_step HB1.out hb2)
  clear hB hb2 HA HB1
  go_upto_if 19 with (fail)
  go_cut [5, 6] (fun v5 v6 wc => ∃ (x y : Nat) (A : Option Addr) (c : Nat) (B : Option Addr) (d : Nat), v5 = .slice A (dig x).length c ∧ v6 = .slice B (dig y).length d ∧ (dig y).length ≤ (dig x).length ∧ (dig x).length ≤ 137438953472 ∧ Aside0 (x + y = a + b) ∧ Aside0 (Kd.C (Kd.int .u32) wc A (dig x).length (dig x)) ∧ Aside0 (Kd.C (Kd.int .u32) wc B (dig y).length (dig y)) ∧ Aside0 (Below w.heap.size w wc))
  case first =>
    by_cases h : (dig a).length < (dig b).length
    · go_wp2
      go_meet
      case rel => exact ⟨b, a, B, d, A, c, rfl, rfl, by omega, D2, ⟨by omega⟩, HB, HA2, HBW⟩
    · go_wp2
      go_meet
      case rel => exact ⟨a, b, A, c, B, d, rfl, rfl, by omega, D1, ⟨rfl⟩, HA2, HB, HBW⟩
  case rest =>
    clear HA2 HB HBW hc hd P1 P2 D1 D2
    obtain ⟨x, y, A, c, B, d, rfl, rfl, hlen, hlx, HS, HA, HB, HBW⟩ := hcut
    have L1 := Aside0.mk (lim_dig x)
    have L2 := Aside0.mk (lim_dig y)
    have V1 := Lib.hid (val_dig x)
    have V2 := Lib.hid (val_dig y)
    generalize dig x = la at *
    generalize dig y = lb at *
    obtain ⟨n, hn⟩ : ∃ n, n = la.length := ⟨_, rfl⟩
    rw [← hn] at hlen hlx HA ⊢
    have HN := Lib.hid hn
    clear hn
    have en : (n : Int) + 1 = ((n + 1 : Nat) : Int) := by omega
    have EN := Lib.hid en
    clear en
    go_wp2_with (refine makeK Tryz.underlying138 infoU32 (by decide) (N := 25) rfl rfl rfl (n + 1) (congrArg (Value.int .i64) EN.out) (congrArg (Value.int .i64) EN.out) (by omega) ?_; intro v w1 ho hb; obtain ⟨A1, c1, rfl⟩ := Kd.R_slice ho; simp only [List.length_replicate] at ho ⊢)
    go_loopw [8, 28] (fun v8 v28 w' => ∃ (i : Nat) (M : List Int) (cb : Int), i ≤ n ∧ v8 = .int .u32 cb ∧ v28 = .int .i64 i ∧ Aside0 (M.length = n + 1 ∧ Lim M ∧ (0 ≤ cb ∧ cb ≤ 1) ∧ (∀ j, i ≤ j → M.getD j 0 = 0) ∧ val M + cb.toNat * 4294967296 ^ i = val (la.take i) + val (lb.take i))
      ∧ Aside0 (Own w' wc.heap.size (.slice A1 (n + 1) c1) M) ∧ Aside0 (Below wc.heap.size wc w')) (fun _ v28 _ => n - (intOf v28).toNat)
    case atStart => exact ⟨0, _, 0, Nat.zero_le _, rfl, rfl, ⟨by simp, lim_zeros _, by omega, zero_rep _ _, by simp [val_zeros, val]⟩, ⟨ho⟩, ⟨hb⟩⟩
    case round =>
      clear ho hb
      obtain ⟨i, M, cb, hi, rfl, rfl, hM, ho, hb⟩ := hrel
      obtain ⟨g, cap, e1, hg1, hg2, cells, hg3⟩ := Kd.R_form ho.out (by have := hM.out.1; omega)
      obtain ⟨rfl, -, rfl⟩ : A1 = some ⟨g, 0, none⟩ ∧ n + 1 = M.length ∧ c1 = cap := by injection e1 with e1 e2 e3; exact ⟨e1, e2, e3⟩
      clear hg3 e1
      have K3 := hM.out.2.2.1
      rcases Nat.lt_or_ge i n with hlt | hge
      · obtain ⟨ad, rfl, hx⟩ := C_word (HN.out ▸ Kd.C_below HA.out hb.out : Kd.C (Kd.int .u32) wr A la.length la) (i : Int) (by omega) (by have := HN.out; omega)
        rw [Int.toNat_natCast] at hx
        have K1 : 0 ≤ rd la (i : Int) ∧ rd la (i : Int) < 4294967296 := by rw [rd_nat]; exact lim_get L1.out i
        have hadd := Aside0.mk (fun s dd => @add_round la lb M i cb s dd L1.out L2.out hM.out.2.1 K3 (by have := HN.out; omega) (by have := hM.out.1; omega) hM.out.2.2.2.2 (hM.out.2.2.2.1 i (Nat.le_refl _)))
        by_cases hb2 : i < lb.length
        · obtain ⟨bd, rfl, hy⟩ := C_word (Kd.C_below HB.out hb.out) (i : Int) (by omega) (by omega)
          rw [Int.toNat_natCast] at hy
          have K2 : 0 ≤ rd lb (i : Int) ∧ rd lb (i : Int) < 4294967296 := by rw [rd_nat]; exact lim_get L2.out i
          rw [← rd_nat, ← rd_nat] at hadd
          go_wp2_with (first | (go_at_call 125; refine (bits_Add32 _ _ _ _ K1 K2 K3).mono ?_; rintro e w4 ⟨rfl, rfl⟩) | (refine storeK infoU32 (p := 51) (j := i) rfl rfl rfl ho.out hb.out (Nat.le_refl _) (by omega) rfl rfl ?_; clear ho hb; intro w4 ho4 hb4))
          go_roundw
          case measure => simp [intOf]; omega
          case rel =>
            obtain ⟨p1, p2, p3⟩ := hadd.out _ _ rfl rfl
            exact ⟨i + 1, _, _, hlt, rfl, by go_num, ⟨by rw [List.length_set]; exact hM.out.1, p1, p2, zero_set hM.out.2.2.2.1, p3⟩, ⟨ho4⟩, ⟨hb4⟩⟩
        · have K2 : (0 : Int) ≤ 0 ∧ (0 : Int) < 4294967296 := by omega
          have hz : lb.getD i 0 = 0 := by rw [List.getD_eq_getElem?_getD, List.getElem?_eq_none (by omega)]; rfl
          rw [hz, ← rd_nat] at hadd
          clear hz
          go_wp2_with (first | (go_at_call 125; refine (bits_Add32 _ _ _ _ K1 K2 K3).mono ?_; rintro e w4 ⟨rfl, rfl⟩) | (refine storeK infoU32 (p := 51) (j := i) rfl rfl rfl ho.out hb.out (Nat.le_refl _) (by omega) rfl rfl ?_; clear ho hb; intro w4 ho4 hb4))
          go_roundw
          case measure => simp [intOf]; omega
          case rel =>
            obtain ⟨p1, p2, p3⟩ := hadd.out ((rd la (i : Int) + cb) % 4294967296) ((rd la (i : Int) + cb) / 4294967296) (by simp) (by simp)
            exact ⟨i + 1, _, _, hlt, rfl, by go_num, ⟨by rw [List.length_set]; exact hM.out.1, p1, p2, zero_set hM.out.2.2.2.1, p3⟩, ⟨ho4⟩, ⟨hb4⟩⟩
      · obtain rfl : i = n := by omega
        have hfin := Lib.hid (add_end hM.out.1 hM.out.2.1 K3 (hM.out.2.2.2.1 i (Nat.le_refl _)) HN.out.symm hlen hM.out.2.2.2.2)
        rw [V1.out, V2.out, HS.out] at hfin
        go_wp2_with (first | (refine storeK infoU32 (p := 57) (j := i) rfl rfl rfl ho.out hb.out (Nat.le_refl _) (by omega) rfl rfl ?_; clear ho hb; intro w4 ho4 hb4; have HO4 := Aside0.mk ho4; have HB4 := Aside0.mk hb4; clear ho4 hb4) | (go_at_call 92; refine (text_own HO4.out hfin.out.1 (by omega)).mono ?_; rintro e w5 ⟨rfl, hb5⟩))
        go_ret
        exact ⟨by first | rfl | simp [hfin.out.2], below_step HBW.out (below_step HB4.out hb5)⟩
end Go.Proofs.YtnimgfnknlkkdaaGreatDoor.H
/- Multiplying digit by digit. -/
set_option linter.unusedVariables false
set_option linter.unusedSimpArgs false
namespace Go.Proofs.YtnimgfnknlkkdaaGreatDoor.Num
open Go
theorem mul_bound {u v : Int} (hu : 0 ≤ u ∧ u < 4294967296) (hv : 0 ≤ v ∧ v < 4294967296) : 0 ≤ u * v ∧ u * v ≤ 18446744065119617025 := by
  refine ⟨Int.mul_nonneg hu.1 hv.1, ?_⟩
  have h1 : u * v ≤ 4294967295 * v := Int.mul_le_mul_of_nonneg_right (by omega) hv.1
  omega
theorem mul_round {M y : List Int} {i k p T : Nat} {u c v q : Int} (hM : Lim M) (hy : Lim y) (hu : 0 ≤ u ∧ u < 4294967296) (hc : 0 ≤ c ∧ c < 4294967296) (hp : p = i + k) (hk : k < y.length) (hpl : p < M.length)
    (hz : val M + c.toNat * 4294967296 ^ p = T + u.toNat * val (y.take k) * 4294967296 ^ i) (hv : v = u * y.getD k 0 + M.getD p 0 + c) :
    Lim (M.set p (v % 4294967296)) ∧ (0 ≤ v / 4294967296 ∧ v / 4294967296 < 4294967296) ∧ val (M.set p (v % 4294967296)) + (v / 4294967296).toNat * 4294967296 ^ (p + 1) = T + u.toNat * val (y.take (k + 1)) * 4294967296 ^ i := by
  have h1 := lim_get hy k
  have h2 := lim_get hM p
  have h3 := mul_bound hu h1
  have hs := val_set hpl (v % 4294967296)
  rw [val_take_succ y k hk]
  generalize y.getD k 0 = d at *
  generalize M.getD p 0 = m at *
  obtain ⟨u, rfl⟩ := Int.eq_ofNat_of_zero_le hu.1
  obtain ⟨d, rfl⟩ := Int.eq_ofNat_of_zero_le h1.1
  obtain ⟨m, rfl⟩ := Int.eq_ofNat_of_zero_le h2.1
  obtain ⟨c, rfl⟩ := Int.eq_ofNat_of_zero_le hc.1
  have hv2 : v = ((u * d + m + c : Nat) : Int) := by rw [hv]; simp
  generalize hV : u * d + m + c = V at *
  subst hv2
  refine ⟨lim_set p hM (by omega), by omega, ?_⟩
  have e1 : ((V : Int) % 4294967296).toNat = V % 4294967296 := by omega
  have e2 : ((V : Int) / 4294967296).toNat = V / 4294967296 := by omega
  rw [e1] at hs
  rw [e2]
  simp only [Int.toNat_natCast] at *
  have e3 : (V % 4294967296 + V / 4294967296 * 4294967296) * 4294967296 ^ p = (u * d + m + c) * 4294967296 ^ p := by rw [hV, show V % 4294967296 + V / 4294967296 * 4294967296 = V by omega]
  subst hp
  rw [Nat.pow_succ]
  rw [Nat.pow_add] at *
  simp only [Nat.add_mul, Nat.mul_add] at *
  grind
end Go.Proofs.YtnimgfnknlkkdaaGreatDoor.Num
set_option linter.unusedVariables false
set_option linter.unusedSimpArgs false
open Go
namespace Go.Proofs.YtnimgfnknlkkdaaGreatDoor.H
open Go Go.RowKit Go.Proofs.YtnimgfnknlkkdaaGreatDoorW.PrintWords Go.Proofs.YtnimgfnknlkkdaaGreatDoorW.PrintLast Go.Proofs.YtnimgfnknlkkdaaGreatDoorW.PrintMore Go.Proofs.YtnimgfnknlkkdaaGreatDoor.Num
theorem zero_setlt {M : List Int} {i p : Nat} {x : Int} (h : ∀ j, i ≤ j → M.getD j 0 = 0) (hp : p < i) : ∀ j, i ≤ j → (M.set p x).getD j 0 = 0 := fun j hj => by
  rw [List.getD_eq_getElem?_getD, List.getElem?_set_ne (by omega), ← List.getD_eq_getElem?_getD]
  exact h j hj
theorem mul_end {M x y : List Int} {i k b : Nat} {c u : Int} (hl : i + k < M.length) (hM : Lim M) (hc : 0 ≤ c ∧ c < 4294967296) (h0 : M.getD (i + k) 0 = 0) (hi : i < x.length) (hu : u = x.getD i 0) (hk : k = y.length) (hb : val y = b)
    (hv : val M + c.toNat * 4294967296 ^ (i + k) = val (x.take i) * b + u.toNat * val (y.take k) * 4294967296 ^ i) : Lim (M.set (i + k) c) ∧ val (M.set (i + k) c) = val (x.take (i + 1)) * b := by
  have h1 := val_set hl c
  rw [h0] at h1
  rw [List.take_of_length_le (l := y) (by omega), hb] at hv
  refine ⟨lim_set _ hM hc, ?_⟩
  rw [val_take_succ x i hi, ← hu, Nat.add_mul]
  simp at h1
  rw [h1, hv]
  grind
theorem rdOf_nat (l : List Int) (j : Nat) : rdOf 0 l (j : Int) = l.getD j 0 := by simp [rdOf]
set_option maxRecDepth 100000 in
set_option maxHeartbeats 1000000 in
theorem natural_Multiply (s t : ByteArray) (w : World) (hs : s.size ≤ 549755813888) (ht : t.size ≤ 549755813888) :
    Calls Tryz.prog 53 #[.string s, .string t] w fun e w' => e = .returned (.string (natB (bval s * bval t))) ∧ Below w.heap.size w w' := by
  have D1 := dig_len_size (s := s) (n := 137438953472) (by omega)
  have D2 := dig_len_size (s := t) (n := 137438953472) (by omega)
  generalize ha : bval s = a at *
  generalize hb : bval t = b at *
  have P1 := Lib.hid (fun w => natural_parse s w (by omega))
  have P2 := Lib.hid (fun w => natural_parse t w (by omega))
  rw [ha] at P1
  rw [hb] at P2
  clear ha hb
  go_enter Tryz.func53, Tryz.ntmps53
  go_wp2_with (fail)
  refine (P1.out _).mono ?_
  rintro e w1 ⟨v1, rfl, ⟨A, c, rfl, hc, hA⟩, hb1⟩
  have HA := Aside0.mk hA
  have HB1 := Aside0.mk hb1
  clear hA hb1
  go_wp2_with (fail)
  refine (P2.out _).mono ?_
  rintro e w2 ⟨v2, rfl, ⟨B, d, rfl, hd, hB⟩, hb2⟩
  have HB := Aside0.mk hB
  have HA2 := Aside0.mk (Kd.C_below HA.out hb2)
  have HBW := Aside0.mk (below_step HB1.out hb2)
  clear hB hb2 HA HB1 P1 P2
  have L1 := Aside0.mk (lim_dig a)
  have L2 := Aside0.mk (lim_dig b)
  have V1 := Lib.hid (val_dig a)
  have V2 := Lib.hid (val_dig b)
  generalize dig a = la at *
  generalize dig b = lb at *
  obtain ⟨n, hn⟩ : ∃ n, n = la.length := ⟨_, rfl⟩
  obtain ⟨m, hm⟩ : ∃ m, m = lb.length := ⟨_, rfl⟩
  rw [← hn] at hc D1 HA2 ⊢
  rw [← hm] at hd D2 HB ⊢
  have HN := Lib.hid hn
  have HM := Lib.hid hm
  clear hn hm
  have en : (n : Int) + m = ((n + m : Nat) : Int) := by omega
  have EN := Lib.hid en
  clear en
  go_wp2_with (refine makeK Tryz.underlying138 infoU32 (by decide) (N := 23) rfl rfl rfl (n + m) (congrArg (Value.int .i64) EN.out) (congrArg (Value.int .i64) EN.out) (by omega) ?_; intro v w1 ho hb; obtain ⟨A1, c1, rfl⟩ := Kd.R_slice ho; simp only [List.length_replicate] at ho ⊢)
  go_loopw [26] (fun v26 w' => ∃ (i : Nat) (M : List Int), i ≤ n ∧ v26 = .int .i64 i ∧ Aside0 (M.length = n + m ∧ Lim M ∧ (∀ j, i + m ≤ j → M.getD j 0 = 0) ∧ val M = val (la.take i) * b)
    ∧ Aside0 (Own w' w2.heap.size (.slice A1 (n + m) c1) M) ∧ Aside0 (Below w2.heap.size w2 w')) (fun v26 _ => n - (intOf v26).toNat)
  case atStart => exact ⟨0, _, Nat.zero_le _, rfl, ⟨by simp, lim_zeros _, zero_rep _ _, by simp [val_zeros, val]⟩, ⟨ho⟩, ⟨hb⟩⟩
  case round =>
    clear ho hb
    obtain ⟨i, M, hi, rfl, hM, ho, hb⟩ := hrel
    rcases Nat.lt_or_ge i n with hlt | hge
    · obtain ⟨ad, rfl, hx⟩ := C_word (HN.out ▸ Kd.C_below HA2.out hb.out : Kd.C (Kd.int .u32) wr A la.length la) (i : Int) (by omega) (by have := HN.out; omega)
      rw [Int.toNat_natCast] at hx
      have K1 : 0 ≤ rd la (i : Int) ∧ rd la (i : Int) < 4294967296 := by rw [rd_nat]; exact lim_get L1.out i
      have HU := Lib.hid (rd_nat la i)
      generalize rd la (i : Int) = u at *
      obtain ⟨K1a, K1b⟩ := K1
      go_wp2
      obtain ⟨wo, hwo⟩ : ∃ wo : World, wo = wr := ⟨_, rfl⟩
      subst hwo
      go_loopw [10, 33] (fun v10 v33 w' => ∃ (k : Nat) (M : List Int) (cb : Int), k ≤ m ∧ v10 = .int .u64 cb ∧ v33 = .int .i64 k ∧ Aside0 (M.length = n + m ∧ Lim M ∧ (∀ j, i + m ≤ j → M.getD j 0 = 0) ∧ (0 ≤ cb ∧ cb < 4294967296) ∧ val M + cb.toNat * 4294967296 ^ (i + k) = val (la.take i) * b + u.toNat * val (lb.take k) * 4294967296 ^ i)
        ∧ Aside0 (Own w' w2.heap.size (.slice A1 (n + m) c1) M) ∧ Aside0 (Below w2.heap.size w2 w')) (fun _ v33 _ => m - (intOf v33).toNat)
      case atStart => exact ⟨0, M, 0, Nat.zero_le _, rfl, rfl, ⟨hM.out.1, hM.out.2.1, hM.out.2.2.1, by omega, by rw [hM.out.2.2.2]; simp [val]⟩, ho, hb⟩
      case round =>
        clear hx ho hb hM
        obtain ⟨k, M, cb, hk, rfl, rfl, hM, ho, hb⟩ := hrel
        obtain ⟨K3a, K3b⟩ := hM.out.2.2.2.1
        obtain ⟨g, cap, e1, hg1, hg2, cells, hg3⟩ := Kd.R_form ho.out (by have := hM.out.1; omega)
        obtain ⟨rfl, -, rfl⟩ : A1 = some ⟨g, 0, none⟩ ∧ n + m = M.length ∧ c1 = cap := by injection e1 with e1 e2 e3; exact ⟨e1, e2, e3⟩
        clear hg3 e1
        rcases Nat.lt_or_ge k m with hkt | hkge
        · obtain ⟨bd, rfl, hy⟩ := C_word (HM.out ▸ Kd.C_below HB.out hb.out : Kd.C (Kd.int .u32) wr B lb.length lb) (k : Int) (by omega) (by have := HM.out; omega)
          obtain ⟨hz, hf⟩ := Kd.R_celln 0 ho.out ((i + k : Nat) : Int) (by omega) (by omega)
          rw [Int.toNat_natCast] at hy hz hf
          have K2 := lim_get L2.out k
          have K4 := lim_get hM.out.2.1 (i + k)
          have hmul := Aside0.mk (fun v => @mul_round M lb i k (i + k) (val (la.take i) * b) u cb v 0 hM.out.2.1 L2.out ⟨K1a, K1b⟩ ⟨K3a, K3b⟩ rfl (by have := HM.out; omega) (by have := hM.out.1; omega) hM.out.2.2.2.2)
          rw [rd_nat] at hy
          rw [rdOf_nat] at hz
          generalize lb.getD k 0 = y at *
          generalize M.getD (i + k) 0 = z at *
          obtain ⟨K2a, K2b⟩ := K2
          obtain ⟨K4a, K4b⟩ := K4
          obtain ⟨K5a, K5b⟩ := mul_bound ⟨K1a, K1b⟩ ⟨K2a, K2b⟩
          have K6 : (i : Int) + k < ((n + m : Nat) : Int) := by omega
          go_wp2_with (refine storeK infoU32 (p := 59) (j := i + k) rfl rfl rfl ho.out hb.out (Nat.le_refl _) (by omega) rfl rfl ?_; clear ho hb hz; intro w4 ho4 hb4)
          go_roundw
          case measure => simp [intOf]; omega
          case rel =>
            obtain ⟨p1, p2, p3⟩ := hmul.out _ rfl
            exact ⟨k + 1, _, _, hkt, rfl, by go_num, ⟨by rw [List.length_set]; exact hM.out.1, p1, zero_setlt hM.out.2.2.1 (by omega), p2, p3⟩, ⟨ho4⟩, ⟨hb4⟩⟩
        · obtain rfl : k = m := by omega
          have K6 : (i : Int) + k < ((n + k : Nat) : Int) := by omega
          go_wp2_with (refine storeK infoU32 (p := 70) (j := i + k) rfl rfl rfl ho.out hb.out (Nat.le_refl _) (by omega) rfl rfl ?_; clear ho hb; intro w4 ho4 hb4)
          go_roundw
          case measure => simp [intOf]; omega
          case rel =>
            obtain ⟨p1, p2⟩ := mul_end (by have := hM.out.1; omega) hM.out.2.1 ⟨K3a, K3b⟩ (hM.out.2.2.1 _ (Nat.le_refl _)) (by have := HN.out; omega) HU.out HM.out V2.out hM.out.2.2.2.2
            exact ⟨i + 1, _, hlt, by go_num, ⟨by rw [List.length_set]; exact hM.out.1, p1, zero_setlt (fun j hj => hM.out.2.2.1 j (by omega)) (by omega), p2⟩, ⟨ho4⟩, ⟨hb4⟩⟩
    · obtain rfl : i = n := by omega
      have hfin := Lib.hid (show val M = a * b by rw [hM.out.2.2.2, List.take_of_length_le (by have := HN.out; omega), V1.out])
      have hlm := Aside0.mk hM.out.2.1
      go_wp2_with (go_at_call 92; refine (text_own ho.out hlm.out (by omega)).mono ?_; rintro e w5 ⟨rfl, hb5⟩)
      go_ret
      exact ⟨by first | rfl | simp [hfin.out], below_step HBW.out (below_step hb.out hb5)⟩
end Go.Proofs.YtnimgfnknlkkdaaGreatDoor.H
/- Comparing bytes. -/
set_option linter.unusedVariables false
set_option linter.unusedSimpArgs false
namespace Go.Proofs.YtnimgfnknlkkdaaGreatDoor.Num
open Go
theorem cmp_bytes {a b : List UInt8} (h : a.length = b.length) : (Lib.compareBytes a b : Int) = cmpN (bvl a) (bvl b) := by
  induction a generalizing b with
  | nil =>
    cases b with
    | nil => simp [Lib.compareBytes, cmpN]
    | cons y b => simp at h
  | cons x a ih =>
    cases b with
    | nil => simp at h
    | cons y b =>
      have hl : a.length = b.length := by simpa using h
      have hx := bvl_lt a
      have hy := bvl_lt b
      rw [bvl_cons, bvl_cons, Lib.compareBytes]
      rw [hl] at hx ⊢
      rcases Nat.lt_trichotomy x.toNat y.toNat with h1 | h1 | h1
      · have h2 := Nat.mul_le_mul_right (256 ^ b.length) h1
        rw [if_pos (UInt8.lt_iff_toNat_lt.2 h1), cmpN_lt]
        rw [Nat.succ_mul] at h2
        omega
      · rw [if_neg (by rw [UInt8.lt_iff_toNat_lt]; omega), if_neg (by rw [UInt8.lt_iff_toNat_lt]; omega), ih hl, h1]
        unfold cmpN
        simp only [Nat.add_lt_add_iff_left]
      · have h2 := Nat.mul_le_mul_right (256 ^ b.length) h1
        rw [if_neg (by rw [UInt8.lt_iff_toNat_lt]; omega), if_pos (UInt8.lt_iff_toNat_lt.2 h1), cmpN_gt]
        rw [Nat.succ_mul] at h2
        omega
theorem natB_short {a b : Nat} (h : (natB a).size < (natB b).size) : a < b := Nat.lt_of_not_le fun h1 => by
  have : (natB b).size ≤ (natB a).size := by
    have h2 : b < 256 ^ (natL a).length := Nat.lt_of_le_of_lt h1 (natL_lt a)
    have := natB_size_le h2
    simpa [natB, ByteArray.size] using this
  omega
theorem natB_size_mono {a b : Nat} (h : a ≤ b) : (natB a).size ≤ (natB b).size := Nat.le_of_not_lt fun h1 => by
  have := natB_short h1
  omega
theorem natB_len (n : Nat) : (natB n).size = (natL n).length := by simp [natB, ByteArray.size]
end Go.Proofs.YtnimgfnknlkkdaaGreatDoor.Num
set_option linter.unusedVariables false
set_option linter.unusedSimpArgs false
open Go
namespace Go.Proofs.YtnimgfnknlkkdaaGreatDoor.H
open Go Go.RowKit Go.Proofs.YtnimgfnknlkkdaaGreatDoorW.PrintWords Go.Proofs.YtnimgfnknlkkdaaGreatDoorW.PrintLast Go.Proofs.YtnimgfnknlkkdaaGreatDoorW.PrintMore Go.Proofs.YtnimgfnknlkkdaaGreatDoor.Num
theorem text_dig {n : Nat} {v : Value} {w : World} (h : IsL w v (dig n)) (hn : (dig n).length ≤ 274877906944) :
    Calls Tryz.prog 92 #[v] w fun e w' => e = .returned (.string (natB n)) ∧ Below w.heap.size w w' := by
  obtain ⟨A, c, rfl, hc, hC⟩ := h
  have := natural_text (dig n) A c w (lim_dig n) hc hC hn
  rwa [val_dig] at this
theorem cmpN_neg {a b : Nat} : cmpN a b < 0 ↔ a < b := by unfold cmpN; split <;> (try split) <;> omega
theorem ret_sb {x y : ByteArray} {a b : Bool} (h : x = y) (k : a = b) : Ending.returned (.tuple #[.string x, .bool a]) = Ending.returned (.tuple #[.string y, .bool b]) := by rw [h, k]
set_option maxRecDepth 100000 in
set_option maxHeartbeats 1000000 in
theorem natural_Subtract (s t : ByteArray) (w : World) (hs : s.size ≤ 549755813888) (ht : t.size ≤ 549755813888) :
    Calls Tryz.prog 94 #[.string s, .string t] w fun e w' => e = .returned (.tuple #[.string (natB (bval s - bval t)), .bool (decide (bval t ≤ bval s))]) ∧ Below w.heap.size w w' := by
  have D1 := dig_len_size (s := s) (n := 137438953472) (by omega)
  have D2 := dig_len_size (s := t) (n := 137438953472) (by omega)
  generalize ha : bval s = a at *
  generalize hb : bval t = b at *
  have P1 := Lib.hid (fun w => natural_parse s w (by omega))
  have P2 := Lib.hid (fun w => natural_parse t w (by omega))
  rw [ha] at P1
  rw [hb] at P2
  clear ha hb
  go_enter Tryz.func94, Tryz.ntmps94
  go_wp2_with (fail)
  refine (P1.out _).mono ?_
  rintro e w1 ⟨v1, rfl, ⟨A, c, rfl, hc, hA⟩, hb1⟩
  have HA := Aside0.mk hA
  have HB1 := Aside0.mk hb1
  clear hA hb1
  go_wp2_with (fail)
  refine (P2.out _).mono ?_
  rintro e w2 ⟨v2, rfl, ⟨B, d, rfl, hd, hB⟩, hb2⟩
  have HB := Aside0.mk hB
  have HA2 := Aside0.mk (Kd.C_below HA.out hb2)
  have HBW := Aside0.mk (below_step HB1.out hb2)
  clear hB hb2 HA HB1 P1 P2
  have hcmp := cmpN_neg (a := a) (b := b)
  have HC := Lib.hid (fun w hA hB => natural_compare a b A B c d w hA hc hB hd (by omega) (by omega))
  by_cases h : a < b
  · have g : cmpN a b < 0 := hcmp.2 h
    clear hcmp
    go_wp2_with (go_at_call 126; refine (HC.out _ HA2.out HB.out).mono ?_; rintro e w3 ⟨rfl, hd3⟩)
    go_ret2
    exact ⟨ret_sb (by rw [Nat.sub_eq_zero_of_le (by omega), natB_zero]) (by simp; omega), below_step HBW.out hd3.below⟩
  · have g : ¬ cmpN a b < 0 := fun k => h (hcmp.1 k)
    clear hcmp
    have HS := Lib.hid (fun w hA hB => natural_sub a b A B c d w hA hc hB hd (by omega) (by omega))
    have HL := Lib.hid (show (dig (a - b)).length ≤ 274877906944 from by have := dig_mono (show a - b ≤ a by omega); omega)
    go_wp2_with (fail)
    refine (HC.out _ HA2.out HB.out).mono ?_
    rintro e w3 ⟨rfl, hd3⟩
    have HD3 := Aside0.mk hd3
    clear hd3
    go_wp2_with (fail)
    refine (HS.out _ (Kd.C_below HA2.out HD3.out.below) (Kd.C_below HB.out HD3.out.below)).mono ?_
    rintro e w4 ⟨v4, rfl, hr, hb4⟩
    have HR := Aside0.mk hr
    have HB4 := Aside0.mk hb4
    clear hr hb4
    go_wp2_with (fail)
    refine (text_dig HR.out HL.out).mono ?_
    rintro e w5 ⟨rfl, hb5⟩
    have HB5 := Aside0.mk hb5
    clear hb5
    go_wp2
    go_ret2
    exact ⟨ret_sb rfl (by simp; omega), below_step HBW.out (below_step HD3.out.below (below_step HB4.out HB5.out))⟩
theorem natB_size_self (s : ByteArray) : (natB (bval s)).size ≤ s.size := natB_size_le (bval_lt s)
set_option maxRecDepth 100000 in
set_option maxHeartbeats 1000000 in
theorem natural_Compare (s t : ByteArray) (w : World) (hs : s.size ≤ 549755813888) (ht : t.size ≤ 549755813888) :
    Calls Tryz.prog 57 #[.string s, .string t] w fun e w' => e = .returned (.int .i64 (cmpN (bval s) (bval t))) ∧ w' = w := by
  have D1 := natB_size_self s
  have D2 := natB_size_self t
  have P1 := Lib.hid (fun w => natural_Normalize s w)
  have P2 := Lib.hid (fun w => natural_Normalize t w)
  generalize bval s = a at *
  generalize bval t = b at *
  have S1 := Aside0.mk (@natB_short a b)
  have S2 := Aside0.mk (@natB_short b a)
  have C1 := Aside0.mk (fun h => @cmp_bytes (natL a) (natL b) h)
  rw [bvl_natL, bvl_natL, ← natB_len, ← natB_len, ← natB_list, ← natB_list] at C1
  generalize natB a = x at *
  generalize natB b = y at *
  by_cases hl : x.size = y.size
  · have hl' : ((x.size : Int) != (y.size : Int)) = false := by simp [hl]
    have R := Lib.hid (C1.out hl)
    have HS := Lib.hid (fun w => Tryz.strings_Compare x y w)
    rw [R.out] at HS
    clear hl
    go_enter Tryz.func57, Tryz.ntmps57
    go_wp2_with (fail)
    refine (P1.out _).mono ?_
    rintro e w1 ⟨rfl, rfl⟩
    go_wp2_with (fail)
    refine (P2.out _).mono ?_
    rintro e w1 ⟨rfl, rfl⟩
    go_wp2_with (go_at_call 96; refine (HS.out _).mono ?_; rintro e w1 ⟨rfl, rfl⟩)
    go_ret
    exact ⟨rfl, rfl⟩
  · have hl' : ((x.size : Int) != (y.size : Int)) = true := by simp; omega
    rcases Nat.lt_or_gt_of_ne hl with h | h
    · have R := Lib.hid (cmpN_lt (S1.out h))
      go_enter Tryz.func57, Tryz.ntmps57
      go_wp2_with (fail)
      refine (P1.out _).mono ?_
      rintro e w1 ⟨rfl, rfl⟩
      go_wp2_with (fail)
      refine (P2.out _).mono ?_
      rintro e w1 ⟨rfl, rfl⟩
      go_wp2_with (go_at_call 95; refine (natural_sign _ _).mono ?_; rintro e w1 ⟨rfl, rfl⟩)
      all_goals (go_ret; first | (exfalso; omega) | exact ⟨ret_i R.out.symm, rfl⟩)
    · have R := Lib.hid (cmpN_gt (S2.out h))
      go_enter Tryz.func57, Tryz.ntmps57
      go_wp2_with (fail)
      refine (P1.out _).mono ?_
      rintro e w1 ⟨rfl, rfl⟩
      go_wp2_with (fail)
      refine (P2.out _).mono ?_
      rintro e w1 ⟨rfl, rfl⟩
      go_wp2_with (go_at_call 95; refine (natural_sign _ _).mono ?_; rintro e w1 ⟨rfl, rfl⟩)
      all_goals (go_ret; first | (exfalso; omega) | exact ⟨ret_i R.out.symm, rfl⟩)
end Go.Proofs.YtnimgfnknlkkdaaGreatDoor.H
/- Division by one digit; shifts. -/
set_option linter.unusedVariables false
set_option linter.unusedSimpArgs false
namespace Go.Proofs.YtnimgfnknlkkdaaGreatDoor.Num
open Go
theorem drop_set_head {M : List Int} {n : Nat} (h : n < M.length) (x : Int) : (M.set n x).drop n = x :: M.drop (n + 1) := by
  rw [List.drop_eq_getElem_cons (by rw [List.length_set]; exact h)]
  simp [List.drop_set]
theorem or_shl {r x : Int} (hr : 0 ≤ r ∧ r < 4294967296) (hx : 0 ≤ x ∧ x < 4294967296) : bits .or .u64 (r * 4294967296) x = r * 4294967296 + x :=
  or_u64 32 hx.1 (by omega) (by omega) (by omega) (by omega) (by omega)
theorem ds_round {x M : List Int} {n : Nat} {d r t : Int} (hx : Lim x) (hM : Lim M) (hd : 0 < d ∧ d < 4294967296) (hr : 0 ≤ r ∧ r < d) (hn : n < x.length) (hnM : n < M.length)
    (hv : val (M.drop (n + 1)) * d.toNat + r.toNat = val (x.drop (n + 1))) (ht : t = r * 4294967296 + x.getD n 0) :
    (0 ≤ t ∧ t < 18446744073709551616) ∧ (0 ≤ t / d ∧ t / d ≤ 4294967295) ∧ (0 ≤ t % d ∧ t % d < d) ∧ Lim (M.set n (t / d)) ∧ val ((M.set n (t / d)).drop n) * d.toNat + (t % d).toNat = val (x.drop n) := by
  have h1 := lim_get hx n
  have hb : r * 4294967296 ≤ (d - 1) * 4294967296 := Int.mul_le_mul_of_nonneg_right (by omega) (by omega)
  have ht0 : 0 ≤ t := by omega
  have ht1 : t < d * 4294967296 := by omega
  have hq0 : 0 ≤ t / d := Int.ediv_nonneg ht0 (by omega)
  have hq1 : t / d < 4294967296 := Int.ediv_lt_of_lt_mul hd.1 (by rw [Int.mul_comm]; exact ht1)
  have hm0 := Int.emod_nonneg t (by omega : d ≠ 0)
  have hm1 := Int.emod_lt_of_pos t hd.1
  have hdm := Int.mul_ediv_add_emod t d
  refine ⟨⟨ht0, by omega⟩, ⟨hq0, by omega⟩, ⟨hm0, hm1⟩, lim_set n hM ⟨hq0, hq1⟩, ?_⟩
  rw [drop_set_head hnM, val, val_drop x n hn, ← hv]
  generalize t / d = q at *
  generalize t % d = m at *
  obtain ⟨q, rfl⟩ := Int.eq_ofNat_of_zero_le hq0
  obtain ⟨m, rfl⟩ := Int.eq_ofNat_of_zero_le hm0
  obtain ⟨r, rfl⟩ := Int.eq_ofNat_of_zero_le hr.1
  obtain ⟨d, rfl⟩ := Int.eq_ofNat_of_zero_le (Int.le_of_lt hd.1)
  generalize x.getD n 0 = y at *
  obtain ⟨y, rfl⟩ := Int.eq_ofNat_of_zero_le h1.1
  simp only [Int.toNat_natCast] at *
  have : d * q + m = r * 4294967296 + y := by rw [ht, ← Int.natCast_mul] at hdm; omega
  grind
theorem shift_num {m y b : Nat} (hb : b < 32) (hm : m < 2 ^ b) (hy : y < 4294967296) :
    y * 2 ^ b < 9223372036854775808 ∧ (y * 2 ^ b % 4294967296) % 2 ^ b = 0 ∧ m + y * 2 ^ b % 4294967296 < 4294967296 ∧ y * 2 ^ b / 4294967296 < 2 ^ b ∧ 2 ^ b ≤ 2147483648 := by
  have hp : (2 : Nat) ^ b ≤ 2147483648 := Nat.pow_le_pow_right (n := 2) (j := 31) (by omega) (by omega)
  have hp0 : 0 < (2 : Nat) ^ b := Nat.pow_pos (by omega)
  have hdvd : (2 : Nat) ^ b * 2 ^ (32 - b) = 4294967296 := by rw [← Nat.pow_add, show b + (32 - b) = 32 by omega]
  have hmod : y * 2 ^ b % 4294967296 = y % 2 ^ (32 - b) * 2 ^ b := by rw [← hdvd, Nat.mul_comm (2 ^ b) (2 ^ (32 - b)), Nat.mul_mod_mul_right]
  have hlow : y % 2 ^ (32 - b) < 2 ^ (32 - b) := Nat.mod_lt _ (Nat.pow_pos (by omega))
  have hlow2 : y % 2 ^ (32 - b) * 2 ^ b + 2 ^ b ≤ 4294967296 := by
    rw [← Nat.succ_mul, ← hdvd, Nat.mul_comm (2 ^ b)]; exact Nat.mul_le_mul_right _ hlow
  have htb : y * 2 ^ b ≤ 4294967295 * 2 ^ b := Nat.mul_le_mul_right _ (by omega)
  refine ⟨by omega, by rw [hmod]; exact Nat.mul_mod_left _ _, by omega, Nat.div_lt_of_lt_mul (by omega), hp⟩
theorem shift_or {m y b : Nat} (hb : b < 32) (hm : m < 2 ^ b) (hy : y < 4294967296) :
    bits .or .u32 (m : Int) ((y * 2 ^ b % 4294967296 : Nat) : Int) = (m : Int) + ((y * 2 ^ b % 4294967296 : Nat) : Int) := by
  obtain ⟨-, h2, h3, -, h5⟩ := shift_num hb hm hy
  have hcast : ((2 : Int) ^ b) = ((2 ^ b : Nat) : Int) := by simp
  generalize y * 2 ^ b % 4294967296 = R at *
  refine or_u32 b (by omega) (by rw [hcast]; omega) (by omega) (by omega) ?_ (by omega)
  rw [hcast, ← Int.natCast_emod, h2]
  rfl
theorem zero_or {h : Int} (h0 : 0 ≤ h) (h1 : h < 4294967296) : bits .or .u32 0 h = h := by
  rw [or_u32 0 (by omega) (by simp) (by simp) h0 (by simp) (by omega)]; simp
theorem shift_alg {V M1 M2 m R Q P : Nat} (h1 : M1 + m * P = V + (m * P + R * P)) (h4 : M2 + 0 * (P * 4294967296) = M1 + Q * (P * 4294967296)) : M2 = V + (R * P + Q * 4294967296 * P) := by
  have e : Q * (P * 4294967296) = Q * 4294967296 * P := by rw [Nat.mul_comm P, Nat.mul_assoc]
  omega
/-- One digit of a number shifted left: what is stored at i, and what is carried. -/
theorem shift_round {x M : List Int} {i n b y : Nat} (hx : Lim x) (hM : Lim M) (hb : b < 32) (hi : i < x.length) (hn : M.length = n) (hxn : x.length ≤ n)
    (h0 : ∀ j, i < j → M.getD j 0 = 0) {m : Nat} (hmm : M.getD i 0 = (m : Int)) (h1 : m < 2 ^ b) (hv : val M = val (x.take i) * 2 ^ b) (htop : val x * 2 ^ b < 4294967296 ^ n) (hy : x.getD i 0 = (y : Int)) :
    (i + 1 < n → val ((M.set i ((m + y * 2 ^ b % 4294967296 : Nat) : Int)).set (i + 1) ((y * 2 ^ b / 4294967296 : Nat) : Int)) = val (x.take (i + 1)) * 2 ^ b) ∧
    (¬ i + 1 < n → val (M.set i ((m + y * 2 ^ b % 4294967296 : Nat) : Int)) = val (x.take (i + 1)) * 2 ^ b) := by
  have hin : i < M.length := by omega
  have hz : ∀ z, (M.set i z).getD (i + 1) 0 = 0 := fun z => by
    rw [List.getD_eq_getElem?_getD, List.getElem?_set_ne (by omega), ← List.getD_eq_getElem?_getD]
    exact h0 _ (by omega)
  have hget := val_get_le x i
  rw [hy, Int.toNat_natCast] at hget
  have htake : val (x.take (i + 1)) * 2 ^ b = val M + y * 2 ^ b * 4294967296 ^ i := by
    rw [val_take_succ x i hi, hy, Int.toNat_natCast, hv]; grind
  have hs1 := val_set hin ((m + y * 2 ^ b % 4294967296 : Nat) : Int)
  rw [hmm, Int.toNat_natCast, Int.toNat_natCast, Nat.add_mul] at hs1
  have hsum : y * 2 ^ b * 4294967296 ^ i = y * 2 ^ b % 4294967296 * 4294967296 ^ i + y * 2 ^ b / 4294967296 * 4294967296 * 4294967296 ^ i := by
    rw [← Nat.add_mul, Nat.add_comm, Nat.mul_comm (y * 2 ^ b / 4294967296), Nat.div_add_mod]
  refine ⟨fun h3 => ?_, fun h3 => ?_⟩
  · have hs2 := val_set (l := M.set i ((m + y * 2 ^ b % 4294967296 : Nat) : Int)) (j := i + 1) (by rw [List.length_set]; omega) ((y * 2 ^ b / 4294967296 : Nat) : Int)
    rw [hz, Int.toNat_natCast, Nat.pow_succ] at hs2
    rw [htake, hsum]
    exact shift_alg hs1 hs2
  · have hin' : i + 1 = n := by omega
    have hT0 : y * 2 ^ b / 4294967296 = 0 := by
      have h5 : y * 4294967296 ^ i * 2 ^ b < 4294967296 ^ n := Nat.lt_of_le_of_lt (Nat.mul_le_mul_right _ hget) htop
      rw [Nat.mul_right_comm, ← hin', Nat.pow_succ, Nat.mul_comm (y * 2 ^ b)] at h5
      exact Nat.div_eq_of_lt (Nat.lt_of_mul_lt_mul_left h5)
    rw [hT0] at hsum
    rw [htake, hsum]
    omega
end Go.Proofs.YtnimgfnknlkkdaaGreatDoor.Num
set_option linter.unusedVariables false
set_option linter.unusedSimpArgs false
open Go
namespace Go.Proofs.YtnimgfnknlkkdaaGreatDoor.H
open Go Go.RowKit Go.Proofs.YtnimgfnknlkkdaaGreatDoorW.PrintWords Go.Proofs.YtnimgfnknlkkdaaGreatDoorW.PrintLast Go.Proofs.YtnimgfnknlkkdaaGreatDoorW.PrintMore Go.Proofs.YtnimgfnknlkkdaaGreatDoor.Num
theorem ret_vt {k : IntKind} {v : Value} {a b : Int} (h : a = b) : Ending.returned (.tuple #[v, .int k a]) = Ending.returned (.tuple #[v, .int k b]) := by rw [h]
set_option maxRecDepth 100000 in
set_option maxHeartbeats 1000000 in
theorem natural_divideSmall (la : List Int) (d : Int) (A : Option Addr) (c : Nat) (w : World) (hL : Lim la) (hA : Kd.C (Kd.int .u32) w A la.length la) (hc : la.length ≤ c) (hn : la.length ≤ 274877906944) (hd0 : 0 < d) (hd1 : d < 4294967296) :
    Calls Tryz.prog 164 #[.slice A la.length c, .int .u32 d] w fun e w' => ∃ v, e = .returned (.tuple #[v, .int .u32 ((val la : Int) % d)]) ∧ IsL w' v (dig (val la / d.toNat)) ∧ Below w.heap.size w w' := by
  have HA := Aside0.mk hA
  have L1 := Aside0.mk hL
  clear hA hL
  have hdne : (d == 0) = false := by simp; omega
  obtain ⟨n, hn'⟩ : ∃ n, n = la.length := ⟨_, rfl⟩
  rw [← hn'] at hc hn HA ⊢
  have HN := Lib.hid hn'
  clear hn'
  go_enter Tryz.func164, Tryz.ntmps164
  go_wp2_with (refine makeK Tryz.underlying138 infoU32 (by decide) (N := 12) rfl rfl rfl n rfl rfl (by omega) ?_; intro v w1 ho hb; obtain ⟨A1, c1, rfl⟩ := Kd.R_slice ho; simp only [List.length_replicate] at ho ⊢)
  go_loopw [7, 8] (fun v7 v8 w' => ∃ (i : Nat) (M : List Int) (r : Int), i ≤ n ∧ v7 = .int .u64 r ∧ v8 = .int .i64 ((i : Int) - 1) ∧ Aside0 (M.length = n ∧ Lim M ∧ (0 ≤ r ∧ r < d) ∧ val (M.drop i) * d.toNat + r.toNat = val (la.drop i))
    ∧ Aside0 (Own w' w.heap.size (.slice A1 n c1) M) ∧ Aside0 (Below w.heap.size w w')) (fun _ v8 _ => (intOf v8 + 1).toNat)
  case atStart => exact ⟨n, _, 0, Nat.le_refl _, rfl, rfl, ⟨by simp, lim_zeros _, by omega, by rw [List.drop_of_length_le (by simp), List.drop_of_length_le (by have := HN.out; omega)]; simp [val]⟩, ⟨ho⟩, ⟨hb⟩⟩
  case round =>
    clear ho hb
    obtain ⟨i, M, r, hi, rfl, rfl, hM, ho, hb⟩ := hrel
    rcases Nat.eq_zero_or_pos i with rfl | h0
    · have hfin : val M = val la / d.toNat ∧ r = (val la : Int) % d := by
        have h1 := hM.out.2.2.2
        simp only [List.drop_zero] at h1
        have h2 := hM.out.2.2.1
        obtain ⟨d, rfl⟩ := Int.eq_ofNat_of_zero_le (Int.le_of_lt hd0)
        obtain ⟨r, rfl⟩ := Int.eq_ofNat_of_zero_le h2.1
        simp only [Int.toNat_natCast] at h1 ⊢
        have h3 : r < d := by omega
        rw [← h1, Nat.mul_comm]
        exact ⟨by rw [Nat.mul_add_div (by omega), Nat.div_eq_of_lt h3]; rfl, by rw [← Int.natCast_emod, Nat.mul_add_mod, Nat.mod_eq_of_lt h3]⟩
      have HF := Lib.hid hfin
      have hlm := Aside0.mk hM.out.2.1
      have hr1 := hM.out.2.2.1.1
      have hr2 : r < 4294967296 := by have := hM.out.2.2.1; omega
      clear hfin
      go_wp2_with (go_at_call 124; refine (trim_own ho.out hlm.out).mono ?_; rintro e w5 ⟨v5, rfl, hr, hd5⟩)
      go_ret2
      rw [HF.out.1] at hr
      exact ⟨v5, ret_vt HF.out.2, hr, below_step hb.out hd5.below⟩
    · obtain ⟨m, rfl⟩ : ∃ m, i = m + 1 := ⟨i - 1, by omega⟩
      obtain ⟨ad, rfl, hx⟩ := C_word (HN.out ▸ Kd.C_below HA.out hb.out : Kd.C (Kd.int .u32) wr A la.length la) (m : Int) (by omega) (by have := HN.out; omega)
      rw [Int.toNat_natCast, rd_nat] at hx
      obtain ⟨g, cap, e1, hg1, hg2, cells, hg3⟩ := Kd.R_form ho.out (by have := hM.out.1; omega)
      obtain ⟨rfl, -, rfl⟩ : A1 = some ⟨g, 0, none⟩ ∧ n = M.length ∧ c1 = cap := by injection e1 with e1 e2 e3; exact ⟨e1, e2, e3⟩
      clear hg3 e1
      have K1 := lim_get L1.out m
      obtain ⟨K2a, K2b⟩ := hM.out.2.2.1
      have hr := @ds_round la M m d r _ L1.out hM.out.2.1 ⟨hd0, hd1⟩ ⟨K2a, K2b⟩ (by have := HN.out; omega) (by have := hM.out.1; omega) hM.out.2.2.2 rfl
      have hor := or_shl (r := r) (x := la.getD m 0) ⟨K2a, by omega⟩ K1
      generalize la.getD m 0 = x at *
      generalize r * 4294967296 + x = t at *
      obtain ⟨⟨q1, q2⟩, ⟨q3, q4⟩, ⟨q5, q6⟩, q7⟩ := hr
      obtain ⟨K1a, K1b⟩ := K1
      have Q7 := Aside0.mk q7
      clear q7
      go_wp2_with (refine storeK infoU32 (p := 35) (j := m) rfl rfl rfl ho.out hb.out (Nat.le_refl _) (by omega) rfl rfl ?_; clear ho hb; intro w4 ho4 hb4)
      go_roundw
      case measure => simp [intOf]
      case rel => exact ⟨m, _, _, by omega, rfl, rfl, ⟨by rw [List.length_set]; exact hM.out.1, Q7.out.1, ⟨q5, q6⟩, Q7.out.2⟩, ⟨ho4⟩, ⟨hb4⟩⟩
end Go.Proofs.YtnimgfnknlkkdaaGreatDoor.H
