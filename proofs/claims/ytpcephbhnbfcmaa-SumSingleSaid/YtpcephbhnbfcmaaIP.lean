-- The plain law SumSingle_pure: what the printed functions compute, with no program in sight.
import Derived.Test.YtpcephbhnbfcmaaI0
import Derived.Test.YtpcephbhnbfcmaaI1
import Derived.Test.YtpcephbhnbfcmaaI2
import Derived.Test.YtpcephbhnbfcmaaI3
import Derived.Test.YtpcephbhnbfcmaaI4
import Derived.Test.YtpcephbhnbfcmaaI5
import Derived.Test.YtpcephbhnbfcmaaI6
namespace Go.Proofs.Ytpcephbhnbfcmaa.I
open Go.RowKit Go.Proofs.YtpcephbhnbfcmaaW.PrintWords Go.Proofs.YtpcephbhnbfcmaaW.PrintLast Go.Proofs.YtpcephbhnbfcmaaW.PrintMore
set_option linter.unusedVariables false
set_option linter.unusedSimpArgs false
def Byt (l : List Int) : Prop := ∀ x ∈ l, 0 ≤ x ∧ x < 256
def byteN (l : List Int) (j : Nat) : Nat := (l.getD j 0).toNat
def bit (l : List Int) (i : Nat) : Bool := (byteN l (i / 8)).testBit (i % 8)
theorem Byt.getD {l : List Int} (h : Byt l) (j : Nat) : 0 ≤ l.getD j 0 ∧ l.getD j 0 < 256 := by
  rcases Nat.lt_or_ge j l.length with hj | hj
  · rw [List.getD_eq_getElem?_getD, List.getElem?_eq_getElem hj]
    exact h _ (List.getElem_mem hj)
  · rw [List.getD_eq_getElem?_getD, List.getElem?_eq_none hj]
    simp
theorem Byt.lt {l : List Int} (h : Byt l) (j : Nat) : byteN l j < 256 := by
  have := h.getD j
  unfold byteN
  omega
theorem Byt.cast {l : List Int} (h : Byt l) (j : Nat) : ((byteN l j : Nat) : Int) = l.getD j 0 := by
  have := h.getD j
  unfold byteN
  omega
theorem Byt.nil : Byt [] := fun _ h => by cases h
theorem Byt.cons {x : Int} {l : List Int} : Byt (x :: l) ↔ (0 ≤ x ∧ x < 256) ∧ Byt l := by
  constructor
  · intro h
    exact ⟨h x List.mem_cons_self, fun y hy => h y (List.mem_cons_of_mem _ hy)⟩
  · rintro ⟨h1, h2⟩ y hy
    rcases List.mem_cons.1 hy with rfl | hy
    · exact h1
    · exact h2 y hy
theorem Byt.append {a b : List Int} (ha : Byt a) (hb : Byt b) : Byt (a ++ b) := by
  intro x hx
  rcases List.mem_append.1 hx with h | h
  · exact ha x h
  · exact hb x h
theorem Byt.take {a : List Int} (ha : Byt a) (n : Nat) : Byt (a.take n) := fun x hx => ha x (List.mem_of_mem_take hx)
theorem Byt.drop {a : List Int} (ha : Byt a) (n : Nat) : Byt (a.drop n) := fun x hx => ha x (List.mem_of_mem_drop hx)
theorem Byt.replicate (n : Nat) {x : Int} (h : 0 ≤ x ∧ x < 256) : Byt (List.replicate n x) := fun y hy => by
  rw [(List.mem_replicate.1 hy).2]
  exact h
theorem Byt.set {l : List Int} (h : Byt l) (j : Nat) {x : Int} (hx : 0 ≤ x ∧ x < 256) : Byt (l.set j x) := fun y hy => by
  rcases List.mem_or_eq_of_mem_set hy with h1 | rfl
  · exact h y h1
  · exact hx
theorem bit_high (l : List Int) (i : Nat) (h : 8 * l.length ≤ i) : bit l i = false := by
  unfold bit byteN
  rw [List.getD_eq_getElem?_getD, List.getElem?_eq_none (by omega)]
  simp
theorem b_get : ∀ x : Fin 256, ∀ i : Fin 8, (Go.bits .and .u8 (shr .u8 (x.val : Int) (i.val : Int)) 1 == 1) = x.val.testBit i.val := by decide +kernel
def clrN (x i : Nat) : Nat := if x.testBit i then x - 2 ^ i else x
def orN (x i : Nat) : Nat := if x.testBit i then x else x + 2 ^ i
theorem b_clr : ∀ x : Fin 256, ∀ i : Fin 8, Go.bits .andNot .u8 (x.val : Int) (shl .u8 1 (i.val : Int)) = ((clrN x.val i.val : Nat) : Int) := by decide +kernel
theorem b_or : ∀ x : Fin 256, ∀ i : Fin 8, Go.bits .or .u8 (x.val : Int) (shl .u8 1 (i.val : Int)) = ((orN x.val i.val : Nat) : Int) := by decide +kernel
theorem n_clr_lt : ∀ x : Fin 256, ∀ i : Fin 8, clrN x.val i.val < 256 := by decide +kernel
theorem n_or_lt : ∀ x : Fin 256, ∀ i : Fin 8, orN x.val i.val < 256 := by decide +kernel
theorem n_ones : ∀ x : Fin 256, ones x.val = (List.range 8).countP (fun j => x.val.testBit j) := by decide +kernel
def getB (l : List Int) (i : Int) : Bool := decide (0 ≤ i) && bit l i.toNat
theorem get_eq (l : List Int) (hl : l.length ≤ 9000) (hB : Byt l) (i : Int) (hi : i < 9223372036854775808) : mask_get.f l i = some (getB l i) := by
  unfold mask_get.f getB
  by_cases h0 : 0 ≤ i
  · rw [if_pos h0]
    obtain ⟨n, rfl⟩ := Int.eq_ofNat_of_zero_le h0
    have ed : wrap64 (Int.tdiv (n : Int) 8) = ((n / 8 : Nat) : Int) := by
      rw [Int.tdiv_eq_ediv_of_nonneg (by omega)]
      unfold wrap64
      omega
    have em : Int.tmod (n : Int) 8 = ((n % 8 : Nat) : Int) := by
      rw [Int.tmod_eq_emod_of_nonneg (by omega)]
      omega
    rw [ed, em]
    by_cases h1 : n / 8 < l.length
    · rw [if_pos (by omega), if_pos (by omega), if_pos (by omega)]
      have hc := hB.cast (n / 8)
      have e := b_get ⟨byteN l (n / 8), hB.lt _⟩ ⟨n % 8, by omega⟩
      simp only at e
      unfold rd
      rw [Int.toNat_natCast, ← hc, e]
      simp [bit]
    · rw [if_neg (by omega)]
      rw [Int.toNat_natCast, bit_high l n (by omega)]
      simp
  · rw [if_neg h0]
    simp [h0]
/-- How many bits are set below place n. -/
def cntTo (l : List Int) (n : Nat) : Nat := (List.range n).countP (bit l)
def cnt (l : List Int) : Nat := cntTo l (8 * l.length)
theorem cntTo_succ (l : List Int) (n : Nat) : cntTo l (n + 1) = cntTo l n + if bit l n then 1 else 0 := by
  unfold cntTo
  rw [List.range_succ, List.countP_append]
  simp [List.countP_cons]
theorem cntTo_le (l : List Int) (n : Nat) : cntTo l n ≤ n := by
  unfold cntTo
  have := List.countP_le_length (p := bit l) (l := List.range n)
  simpa using this
theorem cntTo_byte (l : List Int) (hB : Byt l) (j : Nat) (hj : j < l.length) : cntTo l (8 * (j + 1)) = cntTo l (8 * j) + ones (byteN l j) := by
  have e := n_ones ⟨byteN l j, hB.lt j⟩
  simp only at e
  rw [e]
  unfold cntTo
  rw [show 8 * (j + 1) = 8 * j + 8 by omega, List.range_add, List.countP_append, List.countP_map]
  congr 1
  apply List.countP_congr
  intro i hi
  rw [List.mem_range] at hi
  simp only [Function.comp, bit, show (8 * j + i) / 8 = j by omega, show (8 * j + i) % 8 = i by omega]
theorem Ones8_eq (l : List Int) (hB : Byt l) (j : Nat) : Ones8.f (l.getD j 0) = some ((ones (byteN l j) : Nat) : Int) := by
  have h := hB.getD j
  unfold Ones8.f
  rw [if_pos h.1, if_pos h.2]
  rfl
theorem count_from (l : List Int) (hl : l.length ≤ 9000) (hB : Byt l) (d : Nat) : ∀ j : Nat, j + d = l.length → Ev (fun k => mask_Count.l0 k ((cntTo l (8 * j) : Nat) : Int) l (l.length : Int) (j : Int)) ((cnt l : Nat) : Int) := by
  induction d with
  | zero =>
    intro j hj
    refine Ev.step (f := fun _ => some ((cnt l : Nat) : Int)) (fun k => ?_) (Ev.now _)
    simp only [mask_Count.l0]
    rw [if_neg (by omega)]
    unfold cnt
    rw [show j = l.length by omega]
  | succ d ih =>
    intro j hj
    refine Ev.step (f := fun k => mask_Count.l0 k ((cntTo l (8 * (j + 1)) : Nat) : Int) l (l.length : Int) ((j + 1 : Nat) : Int)) (fun k => ?_) (ih (j + 1) (by omega))
    simp only [mask_Count.l0]
    rw [if_pos (by omega), if_pos (by omega), if_pos (by omega)]
    have e : rd l (j : Int) = l.getD j 0 := by unfold rd; rw [Int.toNat_natCast]
    rw [e, Ones8_eq l hB j]
    simp only [Option.bind_some]
    have hle := cntTo_le l (8 * (j + 1))
    rw [cntTo_byte l hB j (by omega)] at hle ⊢
    congr 1
    · unfold wrap64; omega
    · unfold wrap64; omega
theorem Count_ev (l : List Int) (hl : l.length ≤ 9000) (hB : Byt l) : Ev (fun k => mask_Count.f k l) ((cnt l : Nat) : Int) := by
  have h := count_from l hl hB l.length 0 (by omega)
  exact h
/-- The set bits below place n. -/
def sb (l : List Int) (n : Nat) : List Nat := (List.range n).filter (bit l)
def ints (l : List Nat) : List Int := l.map fun (x : Nat) => (x : Int)
theorem sb_length (l : List Int) (n : Nat) : (sb l n).length = cntTo l n := by
  unfold sb cntTo
  rw [List.countP_eq_length_filter]
theorem sb_succ (l : List Int) (n : Nat) : sb l (n + 1) = sb l n ++ if bit l n then [n] else [] := by
  unfold sb
  rw [List.range_succ, List.filter_append]
  congr 1
  cases h : bit l n <;> simp [h]
theorem sb_split (l : List Int) (m n : Nat) : sb l (m + n) = sb l m ++ ((List.range n).map (m + ·)).filter (bit l) := by
  unfold sb
  rw [List.range_add, List.filter_append]
/-- The first k set bits. -/
def firstBits (l : List Int) (k : Nat) : List Nat := (sb l (8 * l.length)).take k
theorem sb_take (l : List Int) (n : Nat) (h : n ≤ 8 * l.length) : sb l n = firstBits l (cntTo l n) := by
  unfold firstBits
  obtain ⟨d, hd⟩ := Nat.exists_eq_add_of_le h
  rw [hd, sb_split, ← sb_length, List.take_left']
  rfl
theorem bits_from (l : List Int) (hl : l.length ≤ 9000) (hB : Byt l) (K : Nat) (hK : K ≤ cnt l) (d : Nat) : ∀ i : Nat, i + d = 8 * l.length → cntTo l i ≤ K →
    Ev (fun k => mask_Bits.l0 k l (K : Int) (ints (sb l i)) (i : Int)) (ints (firstBits l K), true) := by
  have done : ∀ i : Nat, i ≤ 8 * l.length → cntTo l i = K → Ev (fun k => mask_Bits.l0 k l (K : Int) (ints (sb l i)) (i : Int)) (ints (firstBits l K), true) := by
    intro i hi hc
    refine Ev.step (f := fun _ => some (ints (firstBits l K), true)) (fun k => ?_) (Ev.now _)
    simp only [mask_Bits.l0]
    have hlen : (ints (sb l i)).length = K := by simp [ints, sb_length, hc]
    rw [hlen, if_neg (by omega), sb_take l i hi, hc]
  induction d with
  | zero =>
    intro i hi hc
    refine done i (by omega) ?_
    have : cntTo l i = cnt l := by unfold cnt; rw [show i = 8 * l.length by omega]
    omega
  | succ d ih =>
    intro i hi hc
    by_cases he : cntTo l i = K
    · exact done i (by omega) he
    · have hlen : (ints (sb l i)).length = cntTo l i := by simp [ints, sb_length]
      have hle := cntTo_le l i
      have hw : wrap64 ((i : Int) + 1) = ((i + 1 : Nat) : Int) := by unfold wrap64; omega
      have hs := cntTo_succ l i
      cases hb : bit l i with
      | true =>
        rw [hb] at hs
        simp only [if_true] at hs
        refine Ev.step (f := fun k => mask_Bits.l0 k l (K : Int) (ints (sb l (i + 1))) ((i + 1 : Nat) : Int)) (fun k => ?_) (ih (i + 1) (by omega) (by omega))
        simp only [mask_Bits.l0]
        rw [hlen, if_pos (by omega), get_eq l hl hB _ (by omega)]
        simp only [Option.bind_some, getB, Int.toNat_natCast, hb]
        rw [if_pos (by simp), if_pos (by omega), hw, sb_succ, hb]
        simp [ints]
      | false =>
        rw [hb] at hs
        refine Ev.step (f := fun k => mask_Bits.l0 k l (K : Int) (ints (sb l (i + 1))) ((i + 1 : Nat) : Int)) (fun k => ?_) (ih (i + 1) (by omega) (by simp at hs; omega))
        simp only [mask_Bits.l0]
        rw [hlen, if_pos (by omega), get_eq l hl hB _ (by omega)]
        simp only [Option.bind_some, getB, Int.toNat_natCast, hb]
        rw [if_neg (by simp), hw, sb_succ, hb]
        simp [ints]
/-- What Bits answers. -/
def bitsOf (l : List Int) (k : Int) : List Int × Bool := if 0 ≤ k ∧ k ≤ cnt l then (ints (firstBits l k.toNat), true) else ([], false)
theorem Bits_ev (l : List Int) (hl : l.length ≤ 9000) (hB : Byt l) (k0 : Int) : Ev (fun k => mask_Bits.f k l k0) (bitsOf l k0) := by
  have no : bitsOf l k0 = ([], false) → Ev (fun k => mask_Bits.j0 k l k0 true) (bitsOf l k0) := by
    intro h
    rw [h]
    refine Ev.step (f := fun _ => some (([] : List Int), false)) (fun k => ?_) (Ev.now _)
    simp [mask_Bits.j0]
  by_cases h0 : k0 < 0
  · refine Ev.congr (f := fun k => mask_Bits.j0 k l k0 true) (fun k => ?_) (no (by unfold bitsOf; rw [if_neg (by omega)]))
    unfold mask_Bits.f
    rw [if_pos h0]
  · refine Ev.congr (f := fun k => (mask_Count.f k l).bind fun t => mask_Bits.j0 k l k0 (decide (k0 > t))) (fun k => ?_) ?_
    · unfold mask_Bits.f
      rw [if_neg h0]
    · refine Ev.bind (Count_ev l hl hB) ?_
      by_cases h1 : k0 > ((cnt l : Nat) : Int)
      · have e : decide (k0 > ((cnt l : Nat) : Int)) = true := decide_eq_true h1
        simp only [e]
        exact no (by unfold bitsOf; rw [if_neg (by omega)])
      · have e : decide (k0 > ((cnt l : Nat) : Int)) = false := decide_eq_false h1
        simp only [e]
        obtain ⟨K, rfl⟩ := Int.eq_ofNat_of_zero_le (by omega : 0 ≤ k0)
        have hv : bitsOf l (K : Int) = (ints (firstBits l K), true) := by
          unfold bitsOf
          rw [if_pos (by omega), Int.toNat_natCast]
        rw [hv]
        have h := bits_from l hl hB K (by omega) (8 * l.length) 0 (by omega) (by simp [cntTo])
        refine Ev.step (f := fun k => mask_Bits.l0 k l (K : Int) ([] : List Int) 0) (fun k => ?_) ?_
        · simp [mask_Bits.j0]
        · exact h
def i64 (x : Int) : Prop := -9223372036854775808 ≤ x ∧ x < 9223372036854775808
def Rng (s : List Int) : Prop := ∀ x ∈ s, i64 x
theorem Rng.getD {s : List Int} (h : Rng s) (j : Nat) : i64 (s.getD j 0) := by
  rcases Nat.lt_or_ge j s.length with hj | hj
  · rw [List.getD_eq_getElem?_getD, List.getElem?_eq_getElem hj]
    exact h _ (List.getElem_mem hj)
  · rw [List.getD_eq_getElem?_getD, List.getElem?_eq_none hj]
    exact ⟨by simp, by simp⟩
def onN (x i : Nat) (on : Bool) : Nat := if on then orN (clrN x i) i else clrN x i
def setB (l : List Int) (i : Int) (on : Bool) : List Int := if 0 ≤ i ∧ i / 8 < l.length then l.set (i.toNat / 8) ((onN (byteN l (i.toNat / 8)) (i.toNat % 8) on : Nat) : Int) else l
theorem onN_lt {x i : Nat} (hx : x < 256) (hi : i < 8) (on : Bool) : onN x i on < 256 := by
  have h := n_clr_lt ⟨x, hx⟩ ⟨i, hi⟩
  unfold onN
  split
  · exact n_or_lt ⟨_, h⟩ ⟨i, hi⟩
  · exact h
theorem setB_length (l : List Int) (i : Int) (on : Bool) : (setB l i on).length = l.length := by
  unfold setB
  split <;> simp
theorem setB_Byt {l : List Int} (hB : Byt l) (i : Int) (on : Bool) : Byt (setB l i on) := by
  unfold setB
  split
  · refine hB.set _ ?_
    have := onN_lt (hB.lt (i.toNat / 8)) (show i.toNat % 8 < 8 by omega) on
    omega
  · exact hB
theorem set_ev (l : List Int) (hl : l.length ≤ 9000) (hB : Byt l) (i : Int) (hi : i64 i) (on : Bool) : Ev (fun k => mask_set.f k l i on) (setB l i on) := by
  have hi1 := hi.1
  have hi2 := hi.2
  by_cases h0 : i < 0
  · have e : setB l i on = l := by unfold setB; rw [if_neg (by omega)]
    rw [e]
    refine Ev.congr (f := fun k => mask_set.j0 k l i on true) (fun k => by unfold mask_set.f; rw [if_pos h0]) ?_
    refine Ev.step (f := fun _ => some l) (fun k => ?_) (Ev.now _)
    simp [mask_set.j0]
  · obtain ⟨n, rfl⟩ := Int.eq_ofNat_of_zero_le (by omega : 0 ≤ i)
    have ed : wrap64 (Int.tdiv (n : Int) 8) = ((n / 8 : Nat) : Int) := by
      rw [Int.tdiv_eq_ediv_of_nonneg (by omega)]
      unfold wrap64
      omega
    have em : Int.tmod (n : Int) 8 = ((n % 8 : Nat) : Int) := by
      rw [Int.tmod_eq_emod_of_nonneg (by omega)]
      omega
    refine Ev.congr (f := fun k => mask_set.j0 k l n on (decide (((n / 8 : Nat) : Int) ≥ (l.length : Int)))) (fun k => by unfold mask_set.f; rw [if_neg h0, ed]) ?_
    by_cases h1 : n / 8 < l.length
    · have e : setB l (n : Int) on = l.set (n / 8) ((onN (byteN l (n / 8)) (n % 8) on : Nat) : Int) := by
        unfold setB
        rw [if_pos (by omega), Int.toNat_natCast]
      rw [e]
      have hd : decide (((n / 8 : Nat) : Int) ≥ (l.length : Int)) = false := decide_eq_false (by omega)
      rw [hd]
      refine Ev.step (f := fun _ => some (l.set (n / 8) ((onN (byteN l (n / 8)) (n % 8) on : Nat) : Int))) (fun k => ?_) (Ev.now _)
      simp only [mask_set.j0]
      rw [if_neg (by simp), ed, em, if_pos (by omega), if_pos (by omega), if_pos (by omega)]
      have hc := hB.cast (n / 8)
      have e1 := b_clr ⟨byteN l (n / 8), hB.lt _⟩ ⟨n % 8, by omega⟩
      have e2 := b_or ⟨clrN (byteN l (n / 8)) (n % 8), n_clr_lt ⟨_, hB.lt _⟩ ⟨n % 8, by omega⟩⟩ ⟨n % 8, by omega⟩
      simp only at e1 e2
      simp only [Option.bind_some]
      unfold rd
      rw [Int.toNat_natCast, ← hc, e1]
      cases on with
      | true =>
        rw [if_pos rfl]
        have eg : (l.set (n / 8) ((clrN (byteN l (n / 8)) (n % 8) : Nat) : Int)).getD (n / 8) 0 = ((clrN (byteN l (n / 8)) (n % 8) : Nat) : Int) := by
          rw [List.getD_eq_getElem?_getD, List.getElem?_set]
          simp [h1]
        rw [eg, e2, List.set_set]
        simp [onN]
      | false =>
        rw [if_neg (by simp)]
        simp [onN]
    · have e : setB l (n : Int) on = l := by unfold setB; rw [if_neg (by omega)]
      rw [e]
      have hd : decide (((n / 8 : Nat) : Int) ≥ (l.length : Int)) = true := decide_eq_true (by omega)
      rw [hd]
      refine Ev.step (f := fun _ => some l) (fun k => ?_) (Ev.now _)
      simp [mask_set.j0]
def clearB (l : List Int) (s : List Int) : List Int := s.foldl (fun l i => setB l i false) l
theorem clearB_snoc (l s : List Int) (x : Int) : clearB l (s ++ [x]) = setB (clearB l s) x false := by
  unfold clearB
  rw [List.foldl_append]
  rfl
theorem clearB_length (l s : List Int) : (clearB l s).length = l.length := by
  induction s generalizing l with
  | nil => rfl
  | cons x s ih => exact (ih _).trans (setB_length _ _ _)
theorem clearB_Byt {l : List Int} (hB : Byt l) (s : List Int) : Byt (clearB l s) := by
  induction s generalizing l with
  | nil => exact hB
  | cons x s ih => exact ih (setB_Byt hB _ _)
theorem take_snoc_getD (s : List Int) (j : Nat) (hj : j < s.length) : s.take (j + 1) = s.take j ++ [s.getD j 0] := by
  rw [List.take_succ_eq_append_getElem hj, List.getD_eq_getElem?_getD, List.getElem?_eq_getElem hj]
  rfl
theorem rd_nat (s : List Int) (j : Nat) : rd s (j : Int) = s.getD j 0 := by unfold rd; rw [Int.toNat_natCast]
theorem clear_from (l s : List Int) (hl : l.length ≤ 9000) (hB : Byt l) (hs : s.length ≤ 9000) (hR : Rng s) (d : Nat) : ∀ j : Nat, j + d = s.length →
    Ev (fun k => mask_Clear.l0 k (clearB l (s.take j)) s (s.length : Int) (j : Int)) (clearB l s) := by
  induction d with
  | zero =>
    intro j hj
    refine Ev.step (f := fun _ => some (clearB l s)) (fun k => ?_) (Ev.now _)
    simp only [mask_Clear.l0]
    rw [if_neg (by omega), List.take_of_length_le (by omega)]
  | succ d ih =>
    intro j hj
    refine Ev.step (f := fun k => (mask_set.f k (clearB l (s.take j)) (s.getD j 0) false).bind fun t => mask_Clear.l0 k t s (s.length : Int) ((j + 1 : Nat) : Int)) (fun k => ?_) ?_
    · simp only [mask_Clear.l0]
      rw [if_pos (by omega), if_pos (by omega), if_pos (by omega), rd_nat, show wrap64 ((j : Int) + 1) = ((j + 1 : Nat) : Int) by unfold wrap64; omega]
    · refine Ev.bind (set_ev _ (by rw [clearB_length]; exact hl) (clearB_Byt hB _) _ (hR.getD j) false) ?_
      have h := ih (j + 1) (by omega)
      rw [take_snoc_getD s j (by omega), clearB_snoc] at h
      exact h
theorem CloneB_eq (l : List Int) (hl : l.length ≤ 9000) : CloneB.f l = some l := by
  unfold CloneB.f
  rw [if_pos (by omega)]
theorem Clear_ev (l s : List Int) (hl : l.length ≤ 9000) (hB : Byt l) (hs : s.length ≤ 9000) (hR : Rng s) : Ev (fun k => mask_Clear.f k l s) (clearB l s) := by
  refine Ev.congr (f := fun k => mask_Clear.l0 k l s (s.length : Int) 0) (fun k => by unfold mask_Clear.f; rw [CloneB_eq l hl]; rfl) ?_
  exact clear_from l s hl hB hs hR s.length 0 (by omega)
def andB (a b : List Int) : List Int := List.zipWith (fun x y => ((x.toNat &&& y.toNat : Nat) : Int)) a b
theorem andB_length (a b : List Int) : (andB a b).length = min a.length b.length := by simp [andB]
theorem byteN_andB {a b : List Int} (j : Nat) : byteN (andB a b) j = byteN a j &&& byteN b j := by
  unfold byteN andB
  rw [List.getD_eq_getElem?_getD, List.getElem?_zipWith, List.getD_eq_getElem?_getD, List.getD_eq_getElem?_getD]
  cases a[j]? <;> cases b[j]? <;> simp
theorem and_step {a b : List Int} (hA : Byt a) (hB : Byt b) (j : Nat) : Go.bits .and .u8 (a.getD j 0) (b.getD j 0) = ((byteN a j &&& byteN b j : Nat) : Int) := by
  have hk : ∀ n : Int, 0 ≤ n → n < 2 ^ 8 → IntKind.u8.wrap n = n := Go.wraps_u8
  rw [← hA.cast j, ← hB.cast j]
  exact (Go.bits_nat .u8 8 (by simp [IntKind.bits]) hk _ _ (hA.lt j) (hB.lt j)).1
/-- And's list, when its first j bytes are done. -/
def andTo (a b : List Int) (j : Nat) : List Int := (andB a b).take j ++ (a.take (min a.length b.length)).drop j
theorem andTo_length (a b : List Int) (j : Nat) (hj : j ≤ min a.length b.length) : (andTo a b j).length = min a.length b.length := by
  unfold andTo
  rw [List.length_append, List.length_take, List.length_drop, List.length_take, andB_length]
  omega
theorem andTo_getD (a b : List Int) (j : Nat) (hj : j < min a.length b.length) : (andTo a b j).getD j 0 = a.getD j 0 := by
  unfold andTo
  rw [List.getD_eq_getElem?_getD, List.getElem?_append, List.length_take, andB_length, if_neg (by omega), List.getElem?_drop, List.getElem?_take, List.getD_eq_getElem?_getD, if_pos (by omega)]
  congr 2
  omega
theorem andTo_succ (a b : List Int) (j : Nat) (hj : j < min a.length b.length) : (andTo a b j).set j ((byteN a j &&& byteN b j : Nat) : Int) = andTo a b (j + 1) := by
  apply List.ext_getElem?
  intro i
  have hl := andTo_length a b j (by omega)
  rw [List.getElem?_set]
  by_cases h : j = i
  · subst h
    rw [if_pos rfl, hl, if_pos hj]
    unfold andTo
    rw [List.getElem?_append, List.length_take, andB_length, if_pos (by omega), List.getElem?_take, if_pos (by omega)]
    have e := byteN_andB (a := a) (b := b) j
    have hlt : j < (andB a b).length := by rw [andB_length]; omega
    have ha : j < a.length := by omega
    have hb : j < b.length := by omega
    unfold andB
    rw [List.getElem?_zipWith, List.getElem?_eq_getElem ha, List.getElem?_eq_getElem hb]
    simp [byteN, List.getD_eq_getElem?_getD, List.getElem?_eq_getElem ha, List.getElem?_eq_getElem hb]
  · rw [if_neg h]
    unfold andTo
    rw [List.getElem?_append, List.getElem?_append, List.length_take, List.length_take, andB_length]
    by_cases h1 : i < j
    · rw [if_pos (by omega), if_pos (by omega), List.getElem?_take, List.getElem?_take, if_pos h1, if_pos (by omega)]
    · rw [if_neg (by omega), if_neg (by omega), List.getElem?_drop, List.getElem?_drop]
      congr 1
      omega
theorem and_from (a b : List Int) (hl : a.length ≤ 9000) (hA : Byt a) (hB : Byt b) (d : Nat) : ∀ j : Nat, j + d = min a.length b.length →
    Ev (fun k => mask_And.l0 k b (andTo a b j) ((min a.length b.length : Nat) : Int) (j : Int)) (andB a b) := by
  induction d with
  | zero =>
    intro j hj
    refine Ev.step (f := fun _ => some (andB a b)) (fun k => ?_) (Ev.now _)
    simp only [mask_And.l0]
    rw [if_neg (by omega)]
    unfold andTo
    rw [List.take_of_length_le (by rw [andB_length]; omega), List.drop_of_length_le (by rw [List.length_take]; omega), List.append_nil]
  | succ d ih =>
    intro j hj
    refine Ev.step (f := fun k => mask_And.l0 k b (andTo a b (j + 1)) ((min a.length b.length : Nat) : Int) ((j + 1 : Nat) : Int)) (fun k => ?_) (ih (j + 1) (by omega))
    simp only [mask_And.l0]
    rw [if_pos (by omega), if_pos (by omega), if_pos (by rw [andTo_length _ _ _ (by omega)]; omega), if_pos (by omega), rd_nat, rd_nat, andTo_getD a b j (by omega), and_step hA hB, Int.toNat_natCast, andTo_succ a b j (by omega), show wrap64 ((j : Int) + 1) = ((j + 1 : Nat) : Int) by unfold wrap64; omega]
theorem And_ev (a b : List Int) (hl : a.length ≤ 9000) (hA : Byt a) (hB : Byt b) : Ev (fun k => mask_And.f k a b) (andB a b) := by
  have em : mn (a.length : Int) (b.length : Int) = ((min a.length b.length : Nat) : Int) := by unfold mn; split <;> omega
  have hlen : (a.take (min a.length b.length)).length = min a.length b.length := by rw [List.length_take]; omega
  have h := and_from a b hl hA hB _ 0 (Nat.zero_add _)
  refine Ev.congr (f := fun k => mask_And.l0 k b (a.take (min a.length b.length)) ((min a.length b.length : Nat) : Int) 0) (fun k => ?_) h
  unfold mask_And.f
  rw [em, if_pos (by omega), if_pos (by omega), Int.toNat_natCast, CloneB_eq _ (by rw [hlen]; omega)]
  simp only [Option.bind_some]
  rw [hlen]
theorem ints_length (s : List Nat) : (ints s).length = s.length := by simp [ints]
theorem wrap64_id {x : Int} (h1 : -9223372036854775808 ≤ x) (h2 : x < 9223372036854775808) : wrap64 x = x := by unfold wrap64; omega
theorem Mod_eq (x n : Int) (h : 1 ≤ n) (h2 : n < 4611686018427387904) : ∃ v, made_Mod.f x n = some v ∧ 0 ≤ v ∧ v < n := by
  have a1 := Int.tmod_lt_of_pos x (show 0 < n by omega)
  have a2 : -n < Int.tmod x n := by
    have := Int.tmod_lt_of_pos (-x) (show 0 < n by omega)
    rw [Int.neg_tmod] at this
    omega
  unfold made_Mod.f
  rw [if_neg (by omega), if_neg (by omega)]
  by_cases h0 : Int.tmod x n < 0
  · rw [if_pos h0, wrap64_id (by omega) (by omega)]
    exact ⟨_, rfl, by omega, by omega⟩
  · rw [if_neg h0]
    exact ⟨_, rfl, by omega, by omega⟩
/-- Where the dice may stand. -/
def At (l : List Int) (a : Int) : Prop := 0 ≤ a ∧ a ≤ l.length
theorem Next_eq (l : List Int) (hl : l.length ≤ 9000) (a n : Int) (ha : At l a) (h : 1 ≤ n) (h2 : n < 4611686018427387904) :
    ∃ v b, made_Dice_Next.f l a n = some (v, b) ∧ 0 ≤ v ∧ v < n ∧ At l b ∧ a ≤ b ∧ (a = b → v = 0) := by
  have h0 := ha.1
  have h1 := ha.2
  unfold made_Dice_Next.f made_Dice_Left.f
  simp only [Option.bind_some]
  by_cases hc : a < (l.length : Int)
  · have e : wrap64 (wrap64 (a + 1) - 1) = a := by unfold wrap64; omega
    have e1 : wrap64 (a + 1) = a + 1 := by unfold wrap64; omega
    obtain ⟨v, hv, h3, h4⟩ := Mod_eq (rd l a) n h h2
    rw [decide_eq_true hc, if_pos rfl, e, if_pos h0, if_pos hc, hv, e1]
    exact ⟨v, a + 1, rfl, h3, h4, ⟨by omega, by omega⟩, by omega, by omega⟩
  · rw [decide_eq_false hc, if_neg (by simp)]
    exact ⟨0, a, rfl, by omega, by omega, ha, by omega, fun _ => rfl⟩
theorem Bytes_from (l : List Int) (hl : l.length ≤ 9000) (d : Nat) : ∀ (x : List Int) (a : Int), Byt x → x.length + d ≤ 9000 → At l a →
    ∃ y b, Ev (fun k => made_Dice_Bytes.l0 k x (d : Int) l a) (y, b) ∧ Byt y ∧ y.length = x.length + d ∧ At l b ∧ a ≤ b := by
  induction d with
  | zero =>
    intro x a hx hd ha
    refine ⟨x, a, Ev.step (f := fun _ => some (x, a)) (fun k => ?_) (Ev.now _), hx, rfl, ha, by omega⟩
    simp only [made_Dice_Bytes.l0]
    rw [if_neg (by omega)]
  | succ d ih =>
    intro x a hx hd ha
    obtain ⟨v, b, hv, h0, h1, hb, hab, _⟩ := Next_eq l hl a 256 ha (by omega) (by omega)
    obtain ⟨y, c, he, hy, hyl, hc, hbc⟩ := ih (x ++ [v % 256]) b (hx.append (Byt.cons.2 ⟨by omega, Byt.nil⟩)) (by simp; omega) hb
    refine ⟨y, c, Ev.step (f := fun k => made_Dice_Bytes.l0 k (x ++ [v % 256]) (d : Int) l b) (fun k => ?_) he, hy, by rw [hyl]; simp; omega, hc, by omega⟩
    simp only [made_Dice_Bytes.l0]
    rw [if_pos (by omega), hv]
    simp only [Option.bind_some]
    rw [if_pos (by omega), show wrap64 (((d + 1 : Nat) : Int) - 1) = (d : Int) by unfold wrap64; omega]
theorem Bytes_ev (l : List Int) (hl : l.length ≤ 9000) (a n : Int) (ha : At l a) (hn : 0 ≤ n) (hn2 : n ≤ 1000) :
    ∃ y b, Ev (fun k => made_Dice_Bytes.f k l a n) (y, b) ∧ Byt y ∧ (y.length : Int) ≤ n ∧ At l b ∧ a ≤ b := by
  obtain ⟨v, b, hv, h0, h1, hb, hab, _⟩ := Next_eq l hl a (wrap64 (n + 1)) ha (by unfold wrap64; omega) (by unfold wrap64; omega)
  obtain ⟨d, rfl⟩ := Int.eq_ofNat_of_zero_le h0
  have h3 : (d : Int) ≤ n := by revert h1; unfold wrap64; omega
  obtain ⟨y, c, he, hy, hyl, hc, hbc⟩ := Bytes_from l hl d [] b Byt.nil (by simp; omega) hb
  refine ⟨y, c, Ev.congr (f := fun k => made_Dice_Bytes.l0 k [] (d : Int) l b) (fun k => ?_) he, hy, by rw [hyl]; simp; omega, hc, by omega⟩
  unfold made_Dice_Bytes.f
  rw [hv]
  rfl
/-- The least number from s on that a divides, for a = 1 or 8. -/
def up (s a : Nat) : Nat := (s + (a - 1)) / a * a
theorem up_1 (s : Nat) : up s 1 = s := by unfold up; omega
theorem up_8 (s : Nat) : up s 8 = (s + 7) / 8 * 8 := rfl
def okS (p : S31) : Prop := badS p = false
theorem okS_iff (p : S31) : okS p ↔ 0 ≤ p.f0 ∧ p.f0 ≤ 1024 ∧ (p.f1 = 1 ∨ p.f1 = 8) ∧ (p.f2.length : Int) = p.f0 := by
  unfold okS badS
  simp only [Bool.not_eq_false', Bool.and_eq_true, Bool.or_eq_true, decide_eq_true_eq, and_assoc]
theorem up_ge (s : Nat) (a : Int) (h : a = 1 ∨ a = 8) : s ≤ up s a.toNat ∧ up s a.toNat < s + a.toNat ∧ up s a.toNat % a.toNat = 0 := by
  rcases h with rfl | rfl
  · rw [show (1 : Int).toNat = 1 from rfl, up_1]; omega
  · rw [show (8 : Int).toNat = 8 from rfl, up_8]; omega
/-- The state of a product that is laid out. -/
structure PS where
  s : Nat
  a : Nat
  sp : List Int
  os : List Nat
def PS.start : PS := ⟨0, 1, [], []⟩
def PS.add (t : PS) (p : S31) : PS := ⟨up t.s p.f1.toNat + p.f0.toNat, max t.a p.f1.toNat, t.sp ++ List.replicate (up t.s p.f1.toNat - t.s) 0 ++ p.f2, t.os ++ [up t.s p.f1.toNat]⟩
def layF : List S31 → PS → Option PS
  | [], t => some t
  | p :: ps, t => if 1024 < (t.add p).s then none else layF ps (t.add p)
abbrev LT9 := Int × Int × List Int × List Int × List S101 × List S79 × List Int × Bool × Int
/-- What the layout of valid parts is, in the words of the walks. -/
def layR : Option PS → LT9
  | none => (0, 0, [], [], [], [], [], false, 4)
  | some t => ((t.s : Int), (t.a : Int), t.sp, ints t.os, [], [], [], false, 0)
def PS.ok (t : PS) : Prop := t.s ≤ 1024 ∧ t.sp.length = t.s ∧ (t.a = 1 ∨ t.a = 8)
theorem PS.start_ok : PS.start.ok := ⟨by decide, rfl, .inl rfl⟩
theorem PS.add_ok {t : PS} (h : t.ok) {p : S31} (hp : okS p) (hs : ¬ 1024 < (t.add p).s) : (t.add p).ok := by
  obtain ⟨h1, h2, h3⟩ := h
  obtain ⟨p1, p2, p3, p4⟩ := (okS_iff p).1 hp
  have hu := up_ge t.s p.f1 p3
  refine ⟨by omega, ?_, ?_⟩
  · simp only [PS.add, List.length_append, List.length_replicate, h2]
    omega
  · simp only [PS.add]
    rcases h3 with h3 | h3 <;> rcases p3 with p3 | p3 <;> rw [h3, p3] <;> decide
theorem ints_snoc (s : List Nat) (x : Nat) : ints (s ++ [x]) = ints s ++ [(x : Int)] := by simp [ints]
theorem mx_nat (a : Nat) (x : Int) (h : 0 ≤ x) : mx (a : Int) x = ((max a x.toNat : Nat) : Int) := by unfold mx; split <;> omega
def badR : LT9 := (0, 0, [], [], [], [], [], false, 19)
/-- What Lay answers. -/
def layV (ps : List S31) : LT9 := if ps.any badS then badR else layR (layF ps PS.start)
theorem rAlign_eq (s : Nat) (hs : s ≤ 9000) (a : Int) (h : a = 1 ∨ a = 8) : ref16_Align.f (s : Int) a = some ((up s a.toNat : Nat) : Int) := by
  unfold ref16_Align.f
  rcases h with rfl | rfl
  · rw [if_neg (by omega), if_neg (by omega), show Int.tmod (s : Int) 1 = 0 from Int.tmod_one _, if_pos rfl, show (1 : Int).toNat = 1 from rfl, up_1]
  · have e : Int.tmod (s : Int) 8 = ((s % 8 : Nat) : Int) := by rw [Int.tmod_eq_emod_of_nonneg (by omega)]; omega
    rw [if_neg (by omega), if_neg (by omega), e, show (8 : Int).toNat = 8 from rfl, up_8]
    by_cases h : s % 8 = 0
    · rw [if_pos (by omega)]
      congr 1
      omega
    · rw [if_neg (by omega)]
      congr 1
      unfold wrap64
      omega
theorem rValid_eq (p : S31) : ref15_Valid.f p.f0 p.f1 p.f2 p.f3 p.f4 p.f5 p.f6 p.f7 = some (!(badS p)) := mask_Valid_eq p
theorem rd31_at (PP : List S31) (i : Nat) (hlt : i < PP.length) : rd_T31 PP (i : Int) = PP[i] := by
  unfold rd_T31
  rw [Int.toNat_natCast, List.getD_eq_getElem?_getD, List.getElem?_eq_getElem hlt]
  rfl
theorem rPad_from (PP : List S31) (e i s a : Int) (os : List Int) (b : Bool) (p : S31) (sp : List Int) (hp : p.f2.length ≤ 9000) (hi : wrap64 (i + 1) = i + 1) (r : LT9) (n : Nat) (hn : n ≤ 9000) (d : Nat) : ∀ (sp : List Int), sp.length + d = n →
    Ev (fun k => ref16_Lay.l1 k PP e (i + 1) (wrap64 ((n : Int) + p.f0)) (mx a p.f1) (sp ++ List.replicate d 0 ++ p.f2) os b) r →
    Ev (fun k => ref16_Lay.l2 k (n : Int) PP e i s a sp os b p.f0 p.f1 p.f2 p.f3 p.f4 p.f5 p.f6 p.f7) r := by
  induction d with
  | zero =>
    intro sp hs h
    refine Ev.step (f := fun k => ref16_Lay.l1 k PP e (i + 1) (wrap64 ((n : Int) + p.f0)) (mx a p.f1) (sp ++ p.f2) os b) (fun k => ?_) ?_
    · simp only [ref16_Lay.l2]
      rw [if_neg (by omega), if_pos (by omega), hi]
    · simp only [List.replicate_zero, List.append_nil] at h
      exact h
  | succ d ih =>
    intro sp hs h
    refine Ev.step (f := fun k => ref16_Lay.l2 k (n : Int) PP e i s a (sp ++ [0]) os b p.f0 p.f1 p.f2 p.f3 p.f4 p.f5 p.f6 p.f7) (fun k => ?_) (ih (sp ++ [0]) (by simp; omega) ?_)
    · simp only [ref16_Lay.l2]
      rw [if_pos (by omega), if_pos (by omega)]
    · have e : sp ++ [0] ++ List.replicate d 0 = sp ++ List.replicate (d + 1) (0 : Int) := by rw [List.replicate_succ, List.append_assoc, List.singleton_append]
      rw [e]
      exact h
theorem rLay_from (PP : List S31) (hP : PP.length ≤ 9000) (hok : ∀ p ∈ PP, okS p) (d : Nat) : ∀ (i : Nat) (t : PS), i + d = PP.length → t.ok → t.os.length = i →
    Ev (fun k => ref16_Lay.l1 k PP (PP.length : Int) (i : Int) (t.s : Int) (t.a : Int) t.sp (ints t.os) false) (layR (layF (PP.drop i) t)) := by
  induction d with
  | zero =>
    intro i t hi ht ho
    refine Ev.step (f := fun _ => some (layR (some t))) (fun k => ?_) ?_
    · simp only [ref16_Lay.l1]
      rw [if_neg (by omega)]
      rfl
    · rw [List.drop_of_length_le (by omega)]
      exact Ev.now _
  | succ d ih =>
    intro i t hi ht ho
    obtain ⟨h1, h2, h3⟩ := ht
    have hlt : i < PP.length := by omega
    have hp := hok _ (List.getElem_mem hlt)
    have hrd := rd31_at PP i hlt
    have hdrop : PP.drop i = PP[i] :: PP.drop (i + 1) := List.drop_eq_getElem_cons hlt
    rw [hdrop]
    revert hp hrd
    generalize PP[i] = p
    intro hp hrd
    obtain ⟨p1, p2, p3, p4⟩ := (okS_iff p).1 hp
    have hu := up_ge t.s p.f1 p3
    have hsum : wrap64 (((up t.s p.f1.toNat : Nat) : Int) + p.f0) = (((t.add p).s : Nat) : Int) := by
      simp only [PS.add]
      unfold wrap64
      omega
    have hos : (ints t.os).length < 17592186044416 := by rw [ints_length]; omega
    have hstep : ∀ k, ref16_Lay.l1 (k + 1) PP (PP.length : Int) (i : Int) (t.s : Int) (t.a : Int) t.sp (ints t.os) false = if 1024 < (t.add p).s then some (layR none) else ref16_Lay.l2 k ((up t.s p.f1.toNat : Nat) : Int) PP (PP.length : Int) (i : Int) (t.s : Int) (t.a : Int) t.sp (ints (t.add p).os) false p.f0 p.f1 p.f2 p.f3 p.f4 p.f5 p.f6 p.f7 := by
      intro k
      simp only [ref16_Lay.l1]
      rw [if_pos (by omega), if_pos (by omega), if_pos (by omega), hrd, rAlign_eq t.s (by omega) p.f1 p3]
      simp only [Option.bind_some]
      rw [hsum]
      by_cases hb : 1024 < (t.add p).s
      · rw [if_pos (by omega), if_pos hb]
        rfl
      · rw [if_neg (by omega), if_neg hb, if_pos hos]
        simp only [PS.add]
        rw [ints_snoc]
    by_cases hb : 1024 < (t.add p).s
    · refine Ev.step (f := fun _ => some (layR none)) (fun k => by rw [hstep, if_pos hb]) ?_
      simp only [layF, if_pos hb]
      exact Ev.now _
    · refine Ev.step (f := fun k => ref16_Lay.l2 k ((up t.s p.f1.toNat : Nat) : Int) PP (PP.length : Int) (i : Int) (t.s : Int) (t.a : Int) t.sp (ints (t.add p).os) false p.f0 p.f1 p.f2 p.f3 p.f4 p.f5 p.f6 p.f7) (fun k => by rw [hstep, if_neg hb]) ?_
      simp only [layF, if_neg hb]
      have hbs : (t.add p).s = up t.s p.f1.toNat + p.f0.toNat := rfl
      refine rPad_from PP _ (i : Int) _ _ _ _ p t.sp (by omega) (by unfold wrap64; omega) _ (up t.s p.f1.toNat) (by omega) (up t.s p.f1.toNat - t.s) t.sp (by omega) ?_
      rw [hsum, mx_nat _ _ (by omega), show (i : Int) + 1 = ((i + 1 : Nat) : Int) by omega]
      exact ih (i + 1) (t.add p) (by omega) (PS.add_ok ⟨h1, h2, h3⟩ hp hb) (by simp only [PS.add, List.length_append, List.length_singleton]; omega)
theorem rChk_from (PP : List S31) (hP : PP.length ≤ 9000) (d : Nat) : ∀ (i : Nat), i + d = PP.length →
    Ev (fun k => ref16_Lay.l0 k PP PP (PP.length : Int) (i : Int) 0 1 false) (if (PP.drop i).any badS then badR else if PP.any badS then badR else layR (layF PP PS.start)) ∨ (PP.take i).any badS = true := by
  induction d with
  | zero =>
    intro i hi
    rw [List.drop_of_length_le (by omega), List.take_of_length_le (by omega)]
    by_cases hb : PP.any badS = true
    · exact .inr hb
    · left
      simp only [List.any_nil, Bool.false_eq_true, if_false, hb]
      have hok : ∀ p ∈ PP, okS p := by
        intro p hp
        unfold okS
        cases h : badS p with
        | false => rfl
        | true => exact absurd (List.any_eq_true.2 ⟨p, hp, h⟩) hb
      have h := rLay_from PP hP hok PP.length 0 PS.start (by omega) PS.start_ok rfl
      rw [List.drop_zero] at h
      refine Ev.step (f := fun k => ref16_Lay.l1 k PP (PP.length : Int) 0 0 1 [] [] false) (fun k => ?_) h
      simp only [ref16_Lay.l0]
      rw [if_neg (by omega)]
  | succ d ih =>
    intro i hi
    have hlt : i < PP.length := by omega
    have hrd := rd31_at PP i hlt
    have hdrop : PP.drop i = PP[i] :: PP.drop (i + 1) := List.drop_eq_getElem_cons hlt
    have htake : PP.take (i + 1) = PP.take i ++ [PP[i]] := List.take_succ_eq_append_getElem hlt
    have hw : wrap64 ((i : Int) + 1) = ((i + 1 : Nat) : Int) := by unfold wrap64; omega
    rw [hdrop, List.any_cons]
    have hih := ih (i + 1) (by omega)
    rw [htake, List.any_append] at hih
    revert hih hrd
    generalize PP[i] = p
    intro hrd hih
    cases hp : badS p with
    | true =>
      left
      refine Ev.step (f := fun _ => some badR) (fun k => ?_) ?_
      · simp only [ref16_Lay.l0]
        rw [if_pos (by omega), if_pos (by omega), if_pos (by omega), hrd, rValid_eq, hp]
        rfl
      · rw [Bool.true_or, if_pos rfl]
        exact Ev.now _
    | false =>
      rcases hih with h | h
      · left
        rw [Bool.false_or]
        refine Ev.step (f := fun k => ref16_Lay.l0 k PP PP (PP.length : Int) ((i + 1 : Nat) : Int) 0 1 false) (fun k => ?_) h
        simp only [ref16_Lay.l0]
        rw [if_pos (by omega), if_pos (by omega), if_pos (by omega), hrd, rValid_eq, hp, hw]
        rfl
      · right
        simpa [hp] using h
theorem rLay_ev (ps : List S31) (hP : ps.length ≤ 9000) : Ev (fun k => ref16_Lay.f k ps) (layV ps) := by
  rcases rChk_from ps hP ps.length 0 (by omega) with h | h
  · rw [List.drop_zero] at h
    have e : (if ps.any badS then badR else if ps.any badS then badR else layR (layF ps PS.start)) = layV ps := by
      unfold layV
      by_cases hb : ps.any badS = true
      · rw [if_pos hb, if_pos hb]
      · rw [if_neg hb, if_neg hb]
    rw [e] at h
    exact h
  · simp at h
/-- What the layouts are whose rules the dice keep. -/
def Lok (p : S31) : Prop := Byt p.f2 ∧ p.f3.length ≤ 9000
theorem PS.add_Byt {t : PS} (ht : Byt t.sp) {p : S31} (hp : Lok p) : Byt (t.add p).sp := (ht.append (Byt.replicate _ (by omega))).append hp.1
theorem layF_Byt : ∀ (ps : List S31) (t : PS), Byt t.sp → (∀ p ∈ ps, Lok p) → ∀ u, layF ps t = some u → Byt u.sp
  | [], t, ht, _, u, h => by
    obtain rfl : t = u := Option.some.inj h
    exact ht
  | p :: ps, t, ht, hp, u, h => by
    simp only [layF] at h
    split at h
    · cases h
    · exact layF_Byt ps _ (PS.add_Byt ht (hp p List.mem_cons_self)) (fun q hq => hp q (List.mem_cons_of_mem _ hq)) u h
theorem layV_Byt (ps : List S31) (h : ∀ p ∈ ps, Lok p) : Byt (layV ps).2.2.1 := by
  unfold layV
  split
  · exact Byt.nil
  · cases hf : layF ps PS.start with
    | none => exact Byt.nil
    | some u => exact layF_Byt ps PS.start Byt.nil h u hf
theorem layF_os : ∀ (ps : List S31) (t u : PS), layF ps t = some u → u.os.length = t.os.length + ps.length
  | [], t, u, h => by
    obtain rfl : t = u := Option.some.inj h
    rfl
  | p :: ps, t, u, h => by
    simp only [layF] at h
    split at h
    · cases h
    · rw [layF_os ps _ u h]
      simp only [PS.add, List.length_append, List.length_cons, List.length_nil]
      omega
theorem layV_len (ps : List S31) : (layV ps).2.2.2.1.length ≤ ps.length := by
  unfold layV
  split
  · exact Nat.zero_le _
  · cases hf : layF ps PS.start with
    | none => exact Nat.zero_le _
    | some u =>
      show (ints u.os).length ≤ _
      rw [ints_length, layF_os ps PS.start u hf]
      show 0 + ps.length ≤ _
      omega
def S9 (r : LT9) : S31 := ⟨r.1, r.2.1, r.2.2.1, r.2.2.2.1, r.2.2.2.2.1, r.2.2.2.2.2.1, r.2.2.2.2.2.2.1, r.2.2.2.2.2.2.2.1⟩
def at9 (r : LT9) : Int := r.2.2.2.2.2.2.2.2
theorem Layout_ev (l : List Int) (hl : l.length ≤ 9000) (d : Nat) : ∀ a : Int, At l a → ((l.length : Int) - a).toNat ≤ d →
    ∃ r : LT9, Ev (fun k => made_Dice_Layout.f k l a) r ∧ Lok (S9 r) ∧ At l (at9 r) ∧ a ≤ at9 r := by
  induction d using Nat.strongRecOn with
  | _ d ih =>
  intro a ha hd
  obtain ⟨v, b, hv, h0, h1, hb, hab, hz⟩ := Next_eq l hl a 7 ha (by omega) (by omega)
  have go : ∀ (r : LT9) (g : Nat → Option LT9), (∀ k, made_Dice_Layout.f (k + 1) l a = g k) → Ev g r → Ev (fun k => made_Dice_Layout.f k l a) r := fun r g h1 h2 => Ev.step h1 h2
  by_cases c0 : v = 0
  · refine ⟨((8, 8, List.replicate 8 0, [], [], [], [], false, b) : LT9), go _ _ (fun k => by simp only [made_Dice_Layout.f]; rw [hv]; simp only [Option.bind_some]; rw [if_pos c0]) (Ev.now _), ?_, hb, hab⟩
    exact ⟨Byt.replicate 8 (show (0 : Int) ≤ 0 ∧ (0 : Int) < 256 by omega), Nat.zero_le _⟩
  by_cases c1 : v = 1
  · refine ⟨((1, 1, [0], [], [], [], [], false, b) : LT9), go _ _ (fun k => by simp only [made_Dice_Layout.f]; rw [hv]; simp only [Option.bind_some]; rw [if_neg c0, if_pos c1]) (Ev.now _), ?_, hb, hab⟩
    exact ⟨Byt.cons.2 ⟨by omega, Byt.nil⟩, Nat.zero_le _⟩
  by_cases c2 : v = 2
  · refine ⟨((1, 1, [254], [], [], [], [], false, b) : LT9), go _ _ (fun k => by simp only [made_Dice_Layout.f]; rw [hv]; simp only [Option.bind_some]; rw [if_neg c0, if_neg c1, if_pos c2]) (Ev.now _), ?_, hb, hab⟩
    exact ⟨Byt.cons.2 ⟨by omega, Byt.nil⟩, Nat.zero_le _⟩
  by_cases c3 : v = 3
  · refine ⟨((8, 8, [7, 0, 0, 0, 0, 0, 255, 255], [], [], [], [], true, b) : LT9), go _ _ (fun k => by simp only [made_Dice_Layout.f]; rw [hv]; simp only [Option.bind_some]; rw [if_neg c0, if_neg c1, if_neg c2, if_pos c3]) (Ev.now _), ?_, hb, hab⟩
    refine ⟨?_, Nat.zero_le _⟩
    intro x hx
    simp only [S9, List.mem_cons, List.not_mem_nil, or_false] at hx
    omega
  by_cases c4 : v = 4
  · have hlt : a < b := by
      rcases Int.lt_or_eq_of_le hab with h | h
      · exact h
      · exact absurd (hz h) c0
    have hb1 := hb.1
    have hb2 := hb.2
    have ha1 := ha.1
    obtain ⟨r1, e1, k1, m1, n1⟩ := ih ((l.length : Int) - b).toNat (by omega) b hb (by omega)
    have m11 := m1.1
    have m12 := m1.2
    obtain ⟨r2, e2, k2, m2, n2⟩ := ih ((l.length : Int) - at9 r1).toNat (by omega) (at9 r1) m1 (by omega)
    have e3 := rLay_ev [S9 r1, S9 r2] (by simp)
    have k3 := layV_Byt [S9 r1, S9 r2] (by
      intro p hp
      simp only [List.mem_cons, List.not_mem_nil, or_false] at hp
      rcases hp with rfl | rfl
      · exact k1
      · exact k2)
    refine ⟨(((layV [S9 r1, S9 r2]).1, (layV [S9 r1, S9 r2]).2.1, (layV [S9 r1, S9 r2]).2.2.1, (layV [S9 r1, S9 r2]).2.2.2.1, (layV [S9 r1, S9 r2]).2.2.2.2.1, (layV [S9 r1, S9 r2]).2.2.2.2.2.1, (layV [S9 r1, S9 r2]).2.2.2.2.2.2.1, (layV [S9 r1, S9 r2]).2.2.2.2.2.2.2.1, at9 r2) : LT9), go _ (fun k => (made_Dice_Layout.f k l b).bind fun bt168 => ((made_Dice_Layout.f k l bt168.2.2.2.2.2.2.2.2).bind fun bt187 => ((ref16_Lay.f k (([(⟨bt168.1, bt168.2.1, bt168.2.2.1, bt168.2.2.2.1, bt168.2.2.2.2.1, bt168.2.2.2.2.2.1, bt168.2.2.2.2.2.2.1, bt168.2.2.2.2.2.2.2.1⟩ : S31), (⟨bt187.1, bt187.2.1, bt187.2.2.1, bt187.2.2.2.1, bt187.2.2.2.2.1, bt187.2.2.2.2.2.1, bt187.2.2.2.2.2.2.1, bt187.2.2.2.2.2.2.2.1⟩ : S31)] : List (S31)))).bind fun bt209 => (some ((bt209.1, bt209.2.1, bt209.2.2.1, bt209.2.2.2.1, bt209.2.2.2.2.1, bt209.2.2.2.2.2.1, bt209.2.2.2.2.2.2.1, bt209.2.2.2.2.2.2.2.1, bt187.2.2.2.2.2.2.2.2) : LT9))))) (fun k => by simp only [made_Dice_Layout.f]; rw [hv]; simp only [Option.bind_some]; rw [if_neg c0, if_neg c1, if_neg c2, if_neg c3, if_pos c4]) ?_, ⟨k3, Nat.le_trans (layV_len [S9 r1, S9 r2]) (by simp)⟩, m2, by show a ≤ at9 r2; omega⟩
    refine Ev.bind e1 (Ev.bind e2 (Ev.bind e3 ?_))
    exact Ev.now _
  by_cases c5 : v = 5
  · refine ⟨((0, 1, [], [], [], [], [], false, b) : LT9), go _ _ (fun k => by simp only [made_Dice_Layout.f]; rw [hv]; simp only [Option.bind_some]; rw [if_neg c0, if_neg c1, if_neg c2, if_neg c3, if_neg c4, if_pos c5]) (Ev.now _), ?_, hb, hab⟩
    exact ⟨Byt.nil, Nat.zero_le _⟩
  · obtain ⟨y, c, e1, hy, hyl, hc, hbc⟩ := Bytes_ev l hl b 12 hb (by omega) (by omega)
    obtain ⟨v2, b2, hv2, h02, h12, hb2, hab2, _⟩ := Next_eq l hl c 2 hc (by omega) (by omega)
    refine ⟨(((y.length : Int), wrap64 (1 + (wrap64 (7 * v2))), y, [], [], [], [], false, b2) : LT9), go _ (fun k => (made_Dice_Bytes.f k l b 12).bind fun bt229 => ((made_Dice_Next.f l bt229.2 2).bind fun bt233 => (some (((bt229.1.length : Int), wrap64 (1 + (wrap64 (7 * bt233.1))), bt229.1, ([] : List Int), ([] : List (S101)), ([] : List (S79)), ([] : List Int), false, bt233.2) : LT9)))) (fun k => by simp only [made_Dice_Layout.f]; rw [hv]; simp only [Option.bind_some]; rw [if_neg c0, if_neg c1, if_neg c2, if_neg c3, if_neg c4, if_neg c5]) ?_, ⟨hy, Nat.zero_le _⟩, hb2, by show a ≤ b2; omega⟩
    refine Ev.bind e1 ?_
    simp only [hv2, Option.bind_some]
    exact Ev.now _
theorem any_ok {ps : List S31} (hok : ∀ p ∈ ps, okS p) : ps.any badS = false := by
  cases h : ps.any badS with
  | false => rfl
  | true =>
    obtain ⟨p, hp, hb⟩ := List.any_eq_true.1 h
    have := hok p hp
    unfold okS at this
    rw [hb] at this
    cases this
theorem and_ones : ∀ l : List Int, Byt l → andB (List.replicate l.length 255) l = l
  | [], _ => rfl
  | x :: l, h => by
    obtain ⟨hx, hl⟩ := Byt.cons.1 h
    have e : (((255 : Int).toNat &&& x.toNat : Nat) : Int) = x := by
      rw [show (255 : Int).toNat = 2 ^ 8 - 1 from rfl, Nat.and_comm, Nat.and_two_pow_sub_one_eq_mod]
      omega
    have ih := and_ones l hl
    unfold andB at ih ⊢
    rw [List.length_cons, List.replicate_succ, List.zipWith_cons_cons, ih, e]
theorem ext_full (l : List Int) (h : l.length ≤ 1024) : ext l (l.length : Int) = l := by
  rw [ext_n l (l.length : Int) l.length (by omega), List.take_of_length_le (Nat.le_refl _), Nat.sub_self, List.replicate_zero, List.append_nil]
theorem ext_none (n : Nat) (h : n ≤ 1024) : ext [] (n : Int) = List.replicate n 255 := by
  rw [ext_n [] (n : Int) n (by omega)]
  simp
theorem bits_none (l : List Int) (hl : l.length ≤ 9000) (hB : Byt l) : Ev (fun k => mask_Bits.f k l 0) (([] : List Int), true) := by
  have h := Bits_ev l hl hB 0
  have e : bitsOf l 0 = (([] : List Int), true) := by
    unfold bitsOf
    rw [if_pos ⟨Int.le_refl _, by omega⟩]
    rfl
  rw [e] at h
  exact h
theorem clear_none (l : List Int) (hl : l.length ≤ 9000) (hB : Byt l) : Ev (fun k => mask_Clear.f k l []) l :=
  Clear_ev l [] hl hB (by simp) (fun x hx => by cases hx)
theorem tag_one : Ev (fun k => sum_TagSize.f k 1) 0 := Ev.of (sum_TagSize.mono 1) (k := 60) (by decide +kernel)
theorem w01 : wrap64 (0 + 1) = 1 := by unfold wrap64; omega
theorem common_one (p : S31) (hp : okS p) (hB : Byt p.f2) : Ev (fun k => sum_common.f k [p] p.f0) p.f2 := by
  obtain ⟨p1, p2, p3, p4⟩ := (okS_iff p).1 hp
  have hn : p.f2.length ≤ 1024 := by omega
  have hrd : rd_T31 [p] 0 = p := rfl
  refine Ev.congr (f := fun k => sum_common.l0 k p.f0 (ext [] p.f0) false [p] 1 0) (fun k => ?_) ?_
  · unfold sum_common.f Extend.f
    rfl
  · by_cases h0 : p.f0 > 0
    · have e1 : ext [] p.f0 = List.replicate p.f2.length 255 := by
        rw [← p4]
        exact ext_none _ hn
      have e2 : ext p.f2 p.f0 = p.f2 := by
        rw [← p4]
        exact ext_full _ hn
      refine Ev.step (f := fun k => (mask_And.f k (ext [] p.f0) p.f2).bind fun t147 => sum_common.l0 k p.f0 t147 true [p] 1 1) (fun k => ?_) ?_
      · simp only [sum_common.l0]
        rw [if_pos (by omega), if_pos (by omega), if_pos (by simp), hrd, if_pos h0]
        unfold Extend.f
        simp only [Option.bind_some]
        rw [e2, w01]
      · rw [e1]
        have ha := And_ev (List.replicate p.f2.length 255) p.f2 (by simp; omega) (Byt.replicate _ (by omega)) hB
        rw [and_ones _ hB] at ha
        refine Ev.bind ha ?_
        refine Ev.step (f := fun _ => some p.f2) (fun k => ?_) (Ev.now _)
        simp only [sum_common.l0]
        rw [if_neg (by omega), if_pos trivial]
    · have e0 : p.f0 = 0 := by omega
      have e3 : p.f2 = [] := List.eq_nil_of_length_eq_zero (by omega)
      refine Ev.step (f := fun k => sum_common.l0 k p.f0 (ext [] p.f0) false [p] 1 1) (fun k => ?_) ?_
      · simp only [sum_common.l0]
        rw [if_pos (by omega), if_pos (by omega), if_pos (by simp), hrd, if_neg h0, w01]
      · refine Ev.step (f := fun _ => some p.f2) (fun k => ?_) (Ev.now _)
        simp only [sum_common.l0]
        rw [if_neg (by omega), if_neg (by simp), if_pos (by omega), e0, e3]
        rfl
def ca1 : List ByteArray := [(⟨#[99, 97]⟩ : ByteArray)]
theorem lay_one (p : S31) (hp : okS p) (hL : Lok p) : Ev (fun k => sum_Lay.f k [p] ca1 [false]) (p.f0, p.f1, p.f2, [], [], [(⟨(⟨#[99, 97]⟩ : ByteArray), false, p.f3, [], p.f0⟩ : S79)], [], false, 0) := by
  obtain ⟨p1, p2, p3, p4⟩ := (okS_iff p).1 hp
  have hn : p.f2.length ≤ 9000 := by omega
  have hrd : rd_T31 [p] 0 = p := rfl
  have hbad : [p].any badS = false := any_ok (fun q hq => by obtain rfl := List.mem_singleton.1 hq; exact hp)
  have hcl : CloneI.f p.f3 = some p.f3 := by
    unfold CloneI.f
    rw [if_pos (by have := hL.2; omega)]
  have m0 : mx 0 p.f0 = p.f0 := by unfold mx; split <;> omega
  have m1 : mx 1 p.f1 = p.f1 := by unfold mx; split <;> omega
  refine Ev.congr (f := fun k => sum_Lay.j0 k [p] ca1 [false] false) (fun k => ?_) ?_
  · unfold sum_Lay.f AnyBadS.f
    simp only [Option.bind_some]
    rw [hbad, if_pos (by simp [ca1]), if_pos (by simp [ca1])]
  · refine Ev.step (f := fun k => sum_Lay.l0 k ca1 [false] [] [p] 1 0 0 1 [] false) (fun k => ?_) ?_
    · simp only [sum_Lay.j0]
      rw [if_neg (by simp), if_neg (by simp [ca1])]
      rfl
    · refine Ev.step (f := fun k => sum_Lay.l0 k ca1 [false] [p] [p] 1 1 p.f0 p.f1 [(⟨(⟨#[99, 97]⟩ : ByteArray), false, p.f3, [], p.f0⟩ : S79)] false) (fun k => ?_) ?_
      · simp only [sum_Lay.l0]
        rw [if_pos (by omega), if_pos (by omega), if_pos (by simp), if_pos (by simp [ca1]), if_pos (by simp), hrd, hcl]
        simp only [Option.bind_some]
        rw [if_pos (by simp), if_neg (by simp [rdOf]), if_pos (by simp), m0, m1, w01]
        rfl
      · refine Ev.step (f := fun k => (sum_common.f k [p] p.f0).bind fun t286 => ((sum_TagSize.f k 1).bind fun t289 => ((mask_Bits.f k t286 t289).bind fun bt290 => (if bt290.2 = true then ((mask_Clear.f k t286 bt290.1).bind fun t294 => (some (p.f0, p.f1, t294, ([] : List Int), ([] : List (S101)), [(⟨(⟨#[99, 97]⟩ : ByteArray), false, p.f3, [], p.f0⟩ : S79)], bt290.1, false, 0))) else (if p.f0 = 1024 then (some (0, 0, ([] : List Int), ([] : List Int), ([] : List (S101)), ([] : List (S79)), ([] : List Int), false, 4)) else (sum_Lay.l1 k t286 ([] : List Int) t289 0 p.f0 p.f1 [(⟨(⟨#[99, 97]⟩ : ByteArray), false, p.f3, [], p.f0⟩ : S79)] false)))))) (fun k => ?_) ?_
        · simp only [sum_Lay.l0]
          rw [if_neg (by omega)]
          rfl
        · refine Ev.bind (common_one p hp hL.1) (Ev.bind tag_one (Ev.bind (bits_none _ hn hL.1) ?_))
          simp only [if_true]
          refine Ev.bind (clear_none _ hn hL.1) ?_
          exact Ev.now _
def ptr1 : S31 := ⟨8, 8, [7, 0, 0, 0, 0, 0, 255, 255], [], [], [], [], true⟩
theorem lay_ptr (p : S31) (hp : okS p) (hL : Lok p) : Ev (fun k => sum_Lay.f k [p] ca1 [true]) (8, 8, [7, 0, 0, 0, 0, 0, 255, 255], [], [], [(⟨(⟨#[99, 97]⟩ : ByteArray), true, p.f3, [], p.f0⟩ : S79)], [], false, 0) := by
  obtain ⟨p1, p2, p3, p4⟩ := (okS_iff p).1 hp
  have hrd : rd_T31 [p] 0 = p := rfl
  have hbad : [p].any badS = false := any_ok (fun q hq => by obtain rfl := List.mem_singleton.1 hq; exact hp)
  have hcl : CloneI.f p.f3 = some p.f3 := by
    unfold CloneI.f
    rw [if_pos (by have := hL.2; omega)]
  have hB : Byt ptr1.f2 := by
    intro x hx
    simp only [ptr1, List.mem_cons, List.not_mem_nil, or_false] at hx
    omega
  have hpp : okS ptr1 := by rfl
  refine Ev.congr (f := fun k => sum_Lay.j0 k [p] ca1 [true] false) (fun k => ?_) ?_
  · unfold sum_Lay.f AnyBadS.f
    simp only [Option.bind_some]
    rw [hbad, if_pos (by simp [ca1]), if_pos (by simp [ca1])]
  · refine Ev.step (f := fun k => sum_Lay.l0 k ca1 [true] [] [p] 1 0 0 1 [] false) (fun k => ?_) ?_
    · simp only [sum_Lay.j0]
      rw [if_neg (by simp), if_neg (by simp [ca1])]
      rfl
    · refine Ev.step (f := fun k => sum_Lay.l0 k ca1 [true] [ptr1] [p] 1 1 8 8 [(⟨(⟨#[99, 97]⟩ : ByteArray), true, p.f3, [], p.f0⟩ : S79)] false) (fun k => ?_) ?_
      · simp only [sum_Lay.l0]
        rw [if_pos (by omega), if_pos (by omega), if_pos (by simp), if_pos (by simp [ca1]), if_pos (by simp), hrd, hcl]
        simp only [Option.bind_some]
        rw [if_pos (by simp), if_pos (by simp [rdOf])]
        unfold sum_Pointer.f
        simp only [Option.bind_some]
        rw [if_pos (by simp), w01]
        rfl
      · refine Ev.step (f := fun k => (sum_common.f k [ptr1] 8).bind fun t286 => ((sum_TagSize.f k 1).bind fun t289 => ((mask_Bits.f k t286 t289).bind fun bt290 => (if bt290.2 = true then ((mask_Clear.f k t286 bt290.1).bind fun t294 => (some (8, 8, t294, ([] : List Int), ([] : List (S101)), [(⟨(⟨#[99, 97]⟩ : ByteArray), true, p.f3, [], p.f0⟩ : S79)], bt290.1, false, 0))) else (if (8 : Int) = 1024 then (some (0, 0, ([] : List Int), ([] : List Int), ([] : List (S101)), ([] : List (S79)), ([] : List Int), false, 4)) else (sum_Lay.l1 k t286 ([] : List Int) t289 0 8 8 [(⟨(⟨#[99, 97]⟩ : ByteArray), true, p.f3, [], p.f0⟩ : S79)] false)))))) (fun k => ?_) ?_
        · simp only [sum_Lay.l0]
          rw [if_neg (by omega)]
          rfl
        · refine Ev.bind (common_one ptr1 hpp hB) (Ev.bind tag_one (Ev.bind (bits_none _ (by simp [ptr1]) hB) ?_))
          simp only [if_true]
          refine Ev.bind (clear_none _ (by simp [ptr1]) hB) ?_
          exact Ev.now _
theorem awake17_eq : Awake17.f = some true := rfl
theorem SumSingle_pure : law17_SumSingle.Pure := by
  intro l _ _ _
  suffices h : Ev (fun k => law17_SumSingle.f k l) true from h.rounds
  by_cases hl : (l.length : Int) ≤ 700
  · obtain ⟨r, e1, k1, a1, n1⟩ := Layout_ev l (by omega) ((l.length : Int) - 0).toNat 0 ⟨by omega, by omega⟩ (by omega)
    have hv := rValid_eq (S9 r)
    simp only [S9] at hv
    refine Ev.congr (f := fun k => ((made_Dice_Layout.f k l 0).bind fun bt345 => ((ref15_Valid.f bt345.1 bt345.2.1 bt345.2.2.1 bt345.2.2.2.1 bt345.2.2.2.2.1 bt345.2.2.2.2.2.1 bt345.2.2.2.2.2.2.1 bt345.2.2.2.2.2.2.2.1).bind fun t365 => (if t365 = true then ((sum_Lay.f k (([(⟨bt345.1, bt345.2.1, bt345.2.2.1, bt345.2.2.2.1, bt345.2.2.2.2.1, bt345.2.2.2.2.2.1, bt345.2.2.2.2.2.2.1, bt345.2.2.2.2.2.2.2.1⟩ : S31)] : List (S31))) (([(⟨#[99, 97]⟩ : ByteArray)] : List ByteArray)) (([false] : List Bool))).bind fun bt376 => ((sum_Lay.f k (([(⟨bt345.1, bt345.2.1, bt345.2.2.1, bt345.2.2.2.1, bt345.2.2.2.2.1, bt345.2.2.2.2.2.1, bt345.2.2.2.2.2.2.1, bt345.2.2.2.2.2.2.2.1⟩ : S31)] : List (S31))) (([(⟨#[99, 97]⟩ : ByteArray)] : List ByteArray)) (([true] : List Bool))).bind fun bt405 => (if bt376.2.2.2.2.2.2.2.2 = 0 then (if bt405.2.2.2.2.2.2.2.2 = 0 then (if bt376.1 = bt345.1 then (if bt376.2.1 = bt345.2.1 then (if (strOfNums bt376.2.2.1).toList = (strOfNums bt345.2.2.1).toList then (if (bt376.2.2.2.2.2.2.1.length : Int) = 0 then (if bt405.1 = 8 then ((sum_Pointer.f).bind fun bt425 => (if (strOfNums bt405.2.2.1).toList = (strOfNums bt425.2.2.1).toList then (if (bt405.2.2.2.2.2.1.length : Int) = 1 then (if 0 < (bt405.2.2.2.2.2.1.length : Int) then (if ((rd_T79 bt405.2.2.2.2.2.1 0).f4) = bt345.1 then ((Awake17.f).bind fun t444 => (some t444)) else (some false)) else (none)) else (some false)) else (some false))) else (some false)) else (some false)) else (some false)) else (some false)) else (some false)) else (some false)) else (some false)))) else ((Awake17.f).bind fun t366 => (some t366)))))) (fun k => ?_) ?_
    · unfold law17_SumSingle.f made_Light.f made_Roll.f
      simp only [Option.bind_some]
      rw [decide_eq_true hl, if_pos rfl]
    · refine Ev.bind e1 ?_
      simp only [hv, Option.bind_some]
      cases hb : badS (S9 r) with
      | true =>
        simp only [S9] at hb
        simp only [hb, Bool.not_true, Bool.false_eq_true, if_false, awake17_eq, Option.bind_some]
        exact Ev.now _
      | false =>
        have hok : okS (S9 r) := hb
        simp only [S9] at hb
        simp only [hb, Bool.not_false, if_true]
        refine Ev.bind (lay_one (S9 r) hok k1) (Ev.bind (lay_ptr (S9 r) hok k1) ?_)
        simp only [S9, if_true, List.length_nil, List.length_singleton, sum_Pointer.f, Option.bind_some, awake17_eq]
        refine Ev.congr (f := fun _ => some true) (fun k => ?_) (Ev.now _)
        rw [if_pos (show ((0 : Nat) : Int) = 0 from rfl), if_pos (show ((1 : Nat) : Int) = 1 from rfl), if_pos (show (0 : Int) < ((1 : Nat) : Int) by decide)]
        exact if_pos rfl
  · refine Ev.congr (f := fun _ => some true) (fun k => ?_) (Ev.now _)
    unfold law17_SumSingle.f made_Light.f
    simp only [Option.bind_some]
    rw [decide_eq_false hl, if_neg (by simp), awake17_eq]
    rfl
end Go.Proofs.Ytpcephbhnbfcmaa.I
