-- The plain law MaskFits_pure: what the printed functions compute, with no program in sight.
import Derived.Test.YtpcephbhnbfcmaaD0
import Derived.Test.YtpcephbhnbfcmaaD1
import Derived.Test.YtpcephbhnbfcmaaD2
import Derived.Test.YtpcephbhnbfcmaaD3
import Derived.Test.YtpcephbhnbfcmaaD4
namespace Go.Proofs.Ytpcephbhnbfcmaa.D
open Go.RowKit Go.Proofs.YtpcephbhnbfcmaaW.PrintWords Go.Proofs.YtpcephbhnbfcmaaW.PrintLast Go.Proofs.YtpcephbhnbfcmaaW.PrintMore
set_option linter.unusedVariables false
set_option linter.unusedSimpArgs false
def Byt (l : List Int) : Prop := ∀ x ∈ l, 0 ≤ x ∧ x < 256
def byteN (l : List Int) (j : Nat) : Nat := (l.getD j 0).toNat
def bit (l : List Int) (i : Nat) : Bool := (byteN l (i / 8)).testBit (i % 8)
theorem Byt.getD {l : List Int} (h : Byt l) (j : Nat) : 0 ≤ l.getD j 0 ∧ l.getD j 0 < 256 := by
  rcases Nat.lt_or_ge j l.length with hj | hj
  · rw [List.getD_eq_getElem?_getD, List.getElem?_eq_getElem hj]
    exact h _ (List.getElem_mem hj)
  · rw [List.getD_eq_getElem?_getD, List.getElem?_eq_none hj]
    simp
theorem Byt.lt {l : List Int} (h : Byt l) (j : Nat) : byteN l j < 256 := by
  have := h.getD j
  unfold byteN
  omega
theorem Byt.cast {l : List Int} (h : Byt l) (j : Nat) : ((byteN l j : Nat) : Int) = l.getD j 0 := by
  have := h.getD j
  unfold byteN
  omega
theorem Byt.nil : Byt [] := fun _ h => by cases h
theorem Byt.cons {x : Int} {l : List Int} : Byt (x :: l) ↔ (0 ≤ x ∧ x < 256) ∧ Byt l := by
  constructor
  · intro h
    exact ⟨h x List.mem_cons_self, fun y hy => h y (List.mem_cons_of_mem _ hy)⟩
  · rintro ⟨h1, h2⟩ y hy
    rcases List.mem_cons.1 hy with rfl | hy
    · exact h1
    · exact h2 y hy
theorem Byt.append {a b : List Int} (ha : Byt a) (hb : Byt b) : Byt (a ++ b) := by
  intro x hx
  rcases List.mem_append.1 hx with h | h
  · exact ha x h
  · exact hb x h
theorem Byt.take {a : List Int} (ha : Byt a) (n : Nat) : Byt (a.take n) := fun x hx => ha x (List.mem_of_mem_take hx)
theorem Byt.drop {a : List Int} (ha : Byt a) (n : Nat) : Byt (a.drop n) := fun x hx => ha x (List.mem_of_mem_drop hx)
theorem Byt.replicate (n : Nat) {x : Int} (h : 0 ≤ x ∧ x < 256) : Byt (List.replicate n x) := fun y hy => by
  rw [(List.mem_replicate.1 hy).2]
  exact h
theorem Byt.set {l : List Int} (h : Byt l) (j : Nat) {x : Int} (hx : 0 ≤ x ∧ x < 256) : Byt (l.set j x) := fun y hy => by
  rcases List.mem_or_eq_of_mem_set hy with h1 | rfl
  · exact h y h1
  · exact hx
theorem bit_high (l : List Int) (i : Nat) (h : 8 * l.length ≤ i) : bit l i = false := by
  unfold bit byteN
  rw [List.getD_eq_getElem?_getD, List.getElem?_eq_none (by omega)]
  simp
theorem byteN_set (l : List Int) (j : Nat) (x : Int) (i : Nat) (hj : j < l.length) : byteN (l.set j x) i = if i = j then x.toNat else byteN l i := by
  unfold byteN
  rw [List.getD_eq_getElem?_getD, List.getElem?_set]
  by_cases h : j = i
  · subst h
    simp [hj]
  · have h2 : ¬ i = j := fun e => h e.symm
    simp [h, h2, List.getD_eq_getElem?_getD]
theorem b_get : ∀ x : Fin 256, ∀ i : Fin 8, (Go.bits .and .u8 (shr .u8 (x.val : Int) (i.val : Int)) 1 == 1) = x.val.testBit i.val := by decide +kernel
def clrN (x i : Nat) : Nat := if x.testBit i then x - 2 ^ i else x
def orN (x i : Nat) : Nat := if x.testBit i then x else x + 2 ^ i
theorem b_clr : ∀ x : Fin 256, ∀ i : Fin 8, Go.bits .andNot .u8 (x.val : Int) (shl .u8 1 (i.val : Int)) = ((clrN x.val i.val : Nat) : Int) := by decide +kernel
theorem b_or : ∀ x : Fin 256, ∀ i : Fin 8, Go.bits .or .u8 (x.val : Int) (shl .u8 1 (i.val : Int)) = ((orN x.val i.val : Nat) : Int) := by decide +kernel
theorem n_clr : ∀ x : Fin 256, ∀ i j : Fin 8, (clrN x.val i.val).testBit j.val = if j = i then false else x.val.testBit j.val := by decide +kernel
theorem n_or : ∀ x : Fin 256, ∀ i j : Fin 8, (orN x.val i.val).testBit j.val = if j = i then true else x.val.testBit j.val := by decide +kernel
theorem n_clr_lt : ∀ x : Fin 256, ∀ i : Fin 8, clrN x.val i.val < 256 := by decide +kernel
theorem n_or_lt : ∀ x : Fin 256, ∀ i : Fin 8, orN x.val i.val < 256 := by decide +kernel
theorem n_ones : ∀ x : Fin 256, ones x.val = (List.range 8).countP (fun j => x.val.testBit j) := by decide +kernel
def getB (l : List Int) (i : Int) : Bool := decide (0 ≤ i) && bit l i.toNat
theorem get_eq (l : List Int) (hl : l.length ≤ 9000) (hB : Byt l) (i : Int) (hi : i < 9223372036854775808) : mask_get.f l i = some (getB l i) := by
  unfold mask_get.f getB
  by_cases h0 : 0 ≤ i
  · rw [if_pos h0]
    obtain ⟨n, rfl⟩ := Int.eq_ofNat_of_zero_le h0
    have ed : wrap64 (Int.tdiv (n : Int) 8) = ((n / 8 : Nat) : Int) := by
      rw [Int.tdiv_eq_ediv_of_nonneg (by omega)]
      unfold wrap64
      omega
    have em : Int.tmod (n : Int) 8 = ((n % 8 : Nat) : Int) := by
      rw [Int.tmod_eq_emod_of_nonneg (by omega)]
      omega
    rw [ed, em]
    by_cases h1 : n / 8 < l.length
    · rw [if_pos (by omega), if_pos (by omega), if_pos (by omega)]
      have hc := hB.cast (n / 8)
      have e := b_get ⟨byteN l (n / 8), hB.lt _⟩ ⟨n % 8, by omega⟩
      simp only at e
      unfold rd
      rw [Int.toNat_natCast, ← hc, e]
      simp [bit]
    · rw [if_neg (by omega)]
      rw [Int.toNat_natCast, bit_high l n (by omega)]
      simp
  · rw [if_neg h0]
    simp [h0]
/-- How many bits are set below place n. -/
def cntTo (l : List Int) (n : Nat) : Nat := (List.range n).countP (bit l)
def cnt (l : List Int) : Nat := cntTo l (8 * l.length)
theorem cntTo_succ (l : List Int) (n : Nat) : cntTo l (n + 1) = cntTo l n + if bit l n then 1 else 0 := by
  unfold cntTo
  rw [List.range_succ, List.countP_append]
  simp [List.countP_cons]
theorem cntTo_le (l : List Int) (n : Nat) : cntTo l n ≤ n := by
  unfold cntTo
  have := List.countP_le_length (p := bit l) (l := List.range n)
  simpa using this
theorem cntTo_byte (l : List Int) (hB : Byt l) (j : Nat) (hj : j < l.length) : cntTo l (8 * (j + 1)) = cntTo l (8 * j) + ones (byteN l j) := by
  have e := n_ones ⟨byteN l j, hB.lt j⟩
  simp only at e
  rw [e]
  unfold cntTo
  rw [show 8 * (j + 1) = 8 * j + 8 by omega, List.range_add, List.countP_append, List.countP_map]
  congr 1
  apply List.countP_congr
  intro i hi
  rw [List.mem_range] at hi
  simp only [Function.comp, bit, show (8 * j + i) / 8 = j by omega, show (8 * j + i) % 8 = i by omega]
theorem Ones8_eq (l : List Int) (hB : Byt l) (j : Nat) : Ones8.f (l.getD j 0) = some ((ones (byteN l j) : Nat) : Int) := by
  have h := hB.getD j
  unfold Ones8.f
  rw [if_pos h.1, if_pos h.2]
  rfl
theorem count_from (l : List Int) (hl : l.length ≤ 9000) (hB : Byt l) (d : Nat) : ∀ j : Nat, j + d = l.length → Ev (fun k => mask_Count.l0 k ((cntTo l (8 * j) : Nat) : Int) l (l.length : Int) (j : Int)) ((cnt l : Nat) : Int) := by
  induction d with
  | zero =>
    intro j hj
    refine Ev.step (f := fun _ => some ((cnt l : Nat) : Int)) (fun k => ?_) (Ev.now _)
    simp only [mask_Count.l0]
    rw [if_neg (by omega)]
    unfold cnt
    rw [show j = l.length by omega]
  | succ d ih =>
    intro j hj
    refine Ev.step (f := fun k => mask_Count.l0 k ((cntTo l (8 * (j + 1)) : Nat) : Int) l (l.length : Int) ((j + 1 : Nat) : Int)) (fun k => ?_) (ih (j + 1) (by omega))
    simp only [mask_Count.l0]
    rw [if_pos (by omega), if_pos (by omega), if_pos (by omega)]
    have e : rd l (j : Int) = l.getD j 0 := by unfold rd; rw [Int.toNat_natCast]
    rw [e, Ones8_eq l hB j]
    simp only [Option.bind_some]
    have hle := cntTo_le l (8 * (j + 1))
    rw [cntTo_byte l hB j (by omega)] at hle ⊢
    congr 1
    · unfold wrap64; omega
    · unfold wrap64; omega
theorem Count_ev (l : List Int) (hl : l.length ≤ 9000) (hB : Byt l) : Ev (fun k => mask_Count.f k l) ((cnt l : Nat) : Int) := by
  have h := count_from l hl hB l.length 0 (by omega)
  exact h
/-- The set bits below place n. -/
def sb (l : List Int) (n : Nat) : List Nat := (List.range n).filter (bit l)
def ints (l : List Nat) : List Int := l.map fun (x : Nat) => (x : Int)
theorem sb_length (l : List Int) (n : Nat) : (sb l n).length = cntTo l n := by
  unfold sb cntTo
  rw [List.countP_eq_length_filter]
theorem sb_succ (l : List Int) (n : Nat) : sb l (n + 1) = sb l n ++ if bit l n then [n] else [] := by
  unfold sb
  rw [List.range_succ, List.filter_append]
  congr 1
  cases h : bit l n <;> simp [h]
theorem sb_split (l : List Int) (m n : Nat) : sb l (m + n) = sb l m ++ ((List.range n).map (m + ·)).filter (bit l) := by
  unfold sb
  rw [List.range_add, List.filter_append]
/-- The first k set bits. -/
def firstBits (l : List Int) (k : Nat) : List Nat := (sb l (8 * l.length)).take k
theorem sb_take (l : List Int) (n : Nat) (h : n ≤ 8 * l.length) : sb l n = firstBits l (cntTo l n) := by
  unfold firstBits
  obtain ⟨d, hd⟩ := Nat.exists_eq_add_of_le h
  rw [hd, sb_split, ← sb_length, List.take_left']
  rfl
theorem bits_from (l : List Int) (hl : l.length ≤ 9000) (hB : Byt l) (K : Nat) (hK : K ≤ cnt l) (d : Nat) : ∀ i : Nat, i + d = 8 * l.length → cntTo l i ≤ K →
    Ev (fun k => mask_Bits.l0 k l (K : Int) (ints (sb l i)) (i : Int)) (ints (firstBits l K), true) := by
  have done : ∀ i : Nat, i ≤ 8 * l.length → cntTo l i = K → Ev (fun k => mask_Bits.l0 k l (K : Int) (ints (sb l i)) (i : Int)) (ints (firstBits l K), true) := by
    intro i hi hc
    refine Ev.step (f := fun _ => some (ints (firstBits l K), true)) (fun k => ?_) (Ev.now _)
    simp only [mask_Bits.l0]
    have hlen : (ints (sb l i)).length = K := by simp [ints, sb_length, hc]
    rw [hlen, if_neg (by omega), sb_take l i hi, hc]
  induction d with
  | zero =>
    intro i hi hc
    refine done i (by omega) ?_
    have : cntTo l i = cnt l := by unfold cnt; rw [show i = 8 * l.length by omega]
    omega
  | succ d ih =>
    intro i hi hc
    by_cases he : cntTo l i = K
    · exact done i (by omega) he
    · have hlen : (ints (sb l i)).length = cntTo l i := by simp [ints, sb_length]
      have hle := cntTo_le l i
      have hw : wrap64 ((i : Int) + 1) = ((i + 1 : Nat) : Int) := by unfold wrap64; omega
      have hs := cntTo_succ l i
      cases hb : bit l i with
      | true =>
        rw [hb] at hs
        simp only [if_true] at hs
        refine Ev.step (f := fun k => mask_Bits.l0 k l (K : Int) (ints (sb l (i + 1))) ((i + 1 : Nat) : Int)) (fun k => ?_) (ih (i + 1) (by omega) (by omega))
        simp only [mask_Bits.l0]
        rw [hlen, if_pos (by omega), get_eq l hl hB _ (by omega)]
        simp only [Option.bind_some, getB, Int.toNat_natCast, hb]
        rw [if_pos (by simp), if_pos (by omega), hw, sb_succ, hb]
        simp [ints]
      | false =>
        rw [hb] at hs
        refine Ev.step (f := fun k => mask_Bits.l0 k l (K : Int) (ints (sb l (i + 1))) ((i + 1 : Nat) : Int)) (fun k => ?_) (ih (i + 1) (by omega) (by simp at hs; omega))
        simp only [mask_Bits.l0]
        rw [hlen, if_pos (by omega), get_eq l hl hB _ (by omega)]
        simp only [Option.bind_some, getB, Int.toNat_natCast, hb]
        rw [if_neg (by simp), hw, sb_succ, hb]
        simp [ints]
/-- What Bits answers. -/
def bitsOf (l : List Int) (k : Int) : List Int × Bool := if 0 ≤ k ∧ k ≤ cnt l then (ints (firstBits l k.toNat), true) else ([], false)
theorem Bits_ev (l : List Int) (hl : l.length ≤ 9000) (hB : Byt l) (k0 : Int) : Ev (fun k => mask_Bits.f k l k0) (bitsOf l k0) := by
  have no : bitsOf l k0 = ([], false) → Ev (fun k => mask_Bits.j0 k l k0 true) (bitsOf l k0) := by
    intro h
    rw [h]
    refine Ev.step (f := fun _ => some (([] : List Int), false)) (fun k => ?_) (Ev.now _)
    simp [mask_Bits.j0]
  by_cases h0 : k0 < 0
  · refine Ev.congr (f := fun k => mask_Bits.j0 k l k0 true) (fun k => ?_) (no (by unfold bitsOf; rw [if_neg (by omega)]))
    unfold mask_Bits.f
    rw [if_pos h0]
  · refine Ev.congr (f := fun k => (mask_Count.f k l).bind fun t => mask_Bits.j0 k l k0 (decide (k0 > t))) (fun k => ?_) ?_
    · unfold mask_Bits.f
      rw [if_neg h0]
    · refine Ev.bind (Count_ev l hl hB) ?_
      by_cases h1 : k0 > ((cnt l : Nat) : Int)
      · have e : decide (k0 > ((cnt l : Nat) : Int)) = true := decide_eq_true h1
        simp only [e]
        exact no (by unfold bitsOf; rw [if_neg (by omega)])
      · have e : decide (k0 > ((cnt l : Nat) : Int)) = false := decide_eq_false h1
        simp only [e]
        obtain ⟨K, rfl⟩ := Int.eq_ofNat_of_zero_le (by omega : 0 ≤ k0)
        have hv : bitsOf l (K : Int) = (ints (firstBits l K), true) := by
          unfold bitsOf
          rw [if_pos (by omega), Int.toNat_natCast]
        rw [hv]
        have h := bits_from l hl hB K (by omega) (8 * l.length) 0 (by omega) (by simp [cntTo])
        refine Ev.step (f := fun k => mask_Bits.l0 k l (K : Int) ([] : List Int) 0) (fun k => ?_) ?_
        · simp [mask_Bits.j0]
        · exact h
def i64 (x : Int) : Prop := -9223372036854775808 ≤ x ∧ x < 9223372036854775808
def Rng (s : List Int) : Prop := ∀ x ∈ s, i64 x
theorem Rng.getD {s : List Int} (h : Rng s) (j : Nat) : i64 (s.getD j 0) := by
  rcases Nat.lt_or_ge j s.length with hj | hj
  · rw [List.getD_eq_getElem?_getD, List.getElem?_eq_getElem hj]
    exact h _ (List.getElem_mem hj)
  · rw [List.getD_eq_getElem?_getD, List.getElem?_eq_none hj]
    exact ⟨by simp, by simp⟩
def onN (x i : Nat) (on : Bool) : Nat := if on then orN (clrN x i) i else clrN x i
def setB (l : List Int) (i : Int) (on : Bool) : List Int := if 0 ≤ i ∧ i / 8 < l.length then l.set (i.toNat / 8) ((onN (byteN l (i.toNat / 8)) (i.toNat % 8) on : Nat) : Int) else l
theorem onN_lt {x i : Nat} (hx : x < 256) (hi : i < 8) (on : Bool) : onN x i on < 256 := by
  have h := n_clr_lt ⟨x, hx⟩ ⟨i, hi⟩
  unfold onN
  split
  · exact n_or_lt ⟨_, h⟩ ⟨i, hi⟩
  · exact h
theorem onN_bit {x i j : Nat} (hx : x < 256) (hi : i < 8) (hj : j < 8) (on : Bool) : (onN x i on).testBit j = if j = i then on else x.testBit j := by
  have h := n_clr_lt ⟨x, hx⟩ ⟨i, hi⟩
  have h1 := n_clr ⟨x, hx⟩ ⟨i, hi⟩ ⟨j, hj⟩
  have h2 := n_or ⟨clrN x i, h⟩ ⟨i, hi⟩ ⟨j, hj⟩
  simp only [Fin.mk.injEq] at h1 h2
  unfold onN
  cases on
  · simp only [Bool.false_eq_true, if_false]
    rw [h1]
  · simp only [if_true]
    rw [h2, h1]
    split <;> simp_all
theorem setB_length (l : List Int) (i : Int) (on : Bool) : (setB l i on).length = l.length := by
  unfold setB
  split <;> simp
theorem setB_Byt {l : List Int} (hB : Byt l) (i : Int) (on : Bool) : Byt (setB l i on) := by
  unfold setB
  split
  · refine hB.set _ ?_
    have := onN_lt (hB.lt (i.toNat / 8)) (show i.toNat % 8 < 8 by omega) on
    omega
  · exact hB
theorem bit_setB {l : List Int} (hB : Byt l) (i : Int) (on : Bool) (n : Nat) : bit (setB l i on) n = if (n : Int) = i ∧ n < 8 * l.length then on else bit l n := by
  unfold setB
  by_cases h : 0 ≤ i ∧ i / 8 < l.length
  · rw [if_pos h]
    have hj : i.toNat / 8 < l.length := by omega
    unfold bit
    rw [byteN_set _ _ _ _ hj]
    by_cases h1 : n / 8 = i.toNat / 8
    · rw [if_pos h1, Int.toNat_natCast, onN_bit (hB.lt _) (by omega) (by omega)]
      by_cases h2 : n % 8 = i.toNat % 8
      · rw [if_pos h2, if_pos (by omega)]
      · rw [if_neg h2, if_neg (by omega), h1]
    · rw [if_neg h1, if_neg (by omega)]
  · rw [if_neg h, if_neg (by omega)]
theorem set_ev (l : List Int) (hl : l.length ≤ 9000) (hB : Byt l) (i : Int) (hi : i64 i) (on : Bool) : Ev (fun k => mask_set.f k l i on) (setB l i on) := by
  have hi1 := hi.1
  have hi2 := hi.2
  by_cases h0 : i < 0
  · have e : setB l i on = l := by unfold setB; rw [if_neg (by omega)]
    rw [e]
    refine Ev.congr (f := fun k => mask_set.j0 k l i on true) (fun k => by unfold mask_set.f; rw [if_pos h0]) ?_
    refine Ev.step (f := fun _ => some l) (fun k => ?_) (Ev.now _)
    simp [mask_set.j0]
  · obtain ⟨n, rfl⟩ := Int.eq_ofNat_of_zero_le (by omega : 0 ≤ i)
    have ed : wrap64 (Int.tdiv (n : Int) 8) = ((n / 8 : Nat) : Int) := by
      rw [Int.tdiv_eq_ediv_of_nonneg (by omega)]
      unfold wrap64
      omega
    have em : Int.tmod (n : Int) 8 = ((n % 8 : Nat) : Int) := by
      rw [Int.tmod_eq_emod_of_nonneg (by omega)]
      omega
    refine Ev.congr (f := fun k => mask_set.j0 k l n on (decide (((n / 8 : Nat) : Int) ≥ (l.length : Int)))) (fun k => by unfold mask_set.f; rw [if_neg h0, ed]) ?_
    by_cases h1 : n / 8 < l.length
    · have e : setB l (n : Int) on = l.set (n / 8) ((onN (byteN l (n / 8)) (n % 8) on : Nat) : Int) := by
        unfold setB
        rw [if_pos (by omega), Int.toNat_natCast]
      rw [e]
      have hd : decide (((n / 8 : Nat) : Int) ≥ (l.length : Int)) = false := decide_eq_false (by omega)
      rw [hd]
      refine Ev.step (f := fun _ => some (l.set (n / 8) ((onN (byteN l (n / 8)) (n % 8) on : Nat) : Int))) (fun k => ?_) (Ev.now _)
      simp only [mask_set.j0]
      rw [if_neg (by simp), ed, em, if_pos (by omega), if_pos (by omega), if_pos (by omega)]
      have hc := hB.cast (n / 8)
      have e1 := b_clr ⟨byteN l (n / 8), hB.lt _⟩ ⟨n % 8, by omega⟩
      have e2 := b_or ⟨clrN (byteN l (n / 8)) (n % 8), n_clr_lt ⟨_, hB.lt _⟩ ⟨n % 8, by omega⟩⟩ ⟨n % 8, by omega⟩
      simp only at e1 e2
      simp only [Option.bind_some]
      unfold rd
      rw [Int.toNat_natCast, ← hc, e1]
      cases on with
      | true =>
        rw [if_pos rfl]
        have eg : (l.set (n / 8) ((clrN (byteN l (n / 8)) (n % 8) : Nat) : Int)).getD (n / 8) 0 = ((clrN (byteN l (n / 8)) (n % 8) : Nat) : Int) := by
          rw [List.getD_eq_getElem?_getD, List.getElem?_set]
          simp [h1]
        rw [eg, e2, List.set_set]
        simp [onN]
      | false =>
        rw [if_neg (by simp)]
        simp [onN]
    · have e : setB l (n : Int) on = l := by unfold setB; rw [if_neg (by omega)]
      rw [e]
      have hd : decide (((n / 8 : Nat) : Int) ≥ (l.length : Int)) = true := decide_eq_true (by omega)
      rw [hd]
      refine Ev.step (f := fun _ => some l) (fun k => ?_) (Ev.now _)
      simp [mask_set.j0]
def clearB (l : List Int) (s : List Int) : List Int := s.foldl (fun l i => setB l i false) l
theorem clearB_snoc (l s : List Int) (x : Int) : clearB l (s ++ [x]) = setB (clearB l s) x false := by
  unfold clearB
  rw [List.foldl_append]
  rfl
theorem clearB_length (l s : List Int) : (clearB l s).length = l.length := by
  induction s generalizing l with
  | nil => rfl
  | cons x s ih => exact (ih _).trans (setB_length _ _ _)
theorem clearB_Byt {l : List Int} (hB : Byt l) (s : List Int) : Byt (clearB l s) := by
  induction s generalizing l with
  | nil => exact hB
  | cons x s ih => exact ih (setB_Byt hB _ _)
theorem bit_clearB {l : List Int} (hB : Byt l) (s : List Int) (n : Nat) : bit (clearB l s) n = (bit l n && !(s.contains (n : Int))) := by
  induction s generalizing l with
  | nil => simp [clearB]
  | cons x s ih =>
    show bit (clearB (setB l x false) s) n = _
    rw [ih (setB_Byt hB _ _), bit_setB hB]
    by_cases h : (n : Int) = x
    · rcases Nat.lt_or_ge n (8 * l.length) with h1 | h1
      · rw [if_pos ⟨h, h1⟩]
        simp [h]
      · rw [if_neg (by omega), bit_high l n h1]
        simp
    · have h3 : ((n : Int) == x) = false := by simpa using h
      rw [if_neg (fun e => h e.1), List.contains_cons, h3]
      simp
theorem take_snoc_getD (s : List Int) (j : Nat) (hj : j < s.length) : s.take (j + 1) = s.take j ++ [s.getD j 0] := by
  rw [List.take_succ_eq_append_getElem hj, List.getD_eq_getElem?_getD, List.getElem?_eq_getElem hj]
  rfl
theorem rd_nat (s : List Int) (j : Nat) : rd s (j : Int) = s.getD j 0 := by unfold rd; rw [Int.toNat_natCast]
theorem clear_from (l s : List Int) (hl : l.length ≤ 9000) (hB : Byt l) (hs : s.length ≤ 9000) (hR : Rng s) (d : Nat) : ∀ j : Nat, j + d = s.length →
    Ev (fun k => mask_Clear.l0 k (clearB l (s.take j)) s (s.length : Int) (j : Int)) (clearB l s) := by
  induction d with
  | zero =>
    intro j hj
    refine Ev.step (f := fun _ => some (clearB l s)) (fun k => ?_) (Ev.now _)
    simp only [mask_Clear.l0]
    rw [if_neg (by omega), List.take_of_length_le (by omega)]
  | succ d ih =>
    intro j hj
    refine Ev.step (f := fun k => (mask_set.f k (clearB l (s.take j)) (s.getD j 0) false).bind fun t => mask_Clear.l0 k t s (s.length : Int) ((j + 1 : Nat) : Int)) (fun k => ?_) ?_
    · simp only [mask_Clear.l0]
      rw [if_pos (by omega), if_pos (by omega), if_pos (by omega), rd_nat, show wrap64 ((j : Int) + 1) = ((j + 1 : Nat) : Int) by unfold wrap64; omega]
    · refine Ev.bind (set_ev _ (by rw [clearB_length]; exact hl) (clearB_Byt hB _) _ (hR.getD j) false) ?_
      have h := ih (j + 1) (by omega)
      rw [take_snoc_getD s j (by omega), clearB_snoc] at h
      exact h
theorem CloneB_eq (l : List Int) (hl : l.length ≤ 9000) : CloneB.f l = some l := by
  unfold CloneB.f
  rw [if_pos (by omega)]
theorem Clear_ev (l s : List Int) (hl : l.length ≤ 9000) (hB : Byt l) (hs : s.length ≤ 9000) (hR : Rng s) : Ev (fun k => mask_Clear.f k l s) (clearB l s) := by
  refine Ev.congr (f := fun k => mask_Clear.l0 k l s (s.length : Int) 0) (fun k => by unfold mask_Clear.f; rw [CloneB_eq l hl]; rfl) ?_
  exact clear_from l s hl hB hs hR s.length 0 (by omega)
def andB (a b : List Int) : List Int := List.zipWith (fun x y => ((x.toNat &&& y.toNat : Nat) : Int)) a b
theorem andB_length (a b : List Int) : (andB a b).length = min a.length b.length := by simp [andB]
theorem andB_Byt {a : List Int} (hA : Byt a) (b : List Int) : Byt (andB a b) := by
  intro x hx
  obtain ⟨i, hi⟩ := List.mem_iff_getElem?.1 hx
  unfold andB at hi
  rw [List.getElem?_zipWith] at hi
  cases ha : a[i]? with
  | none => rw [ha] at hi; simp at hi
  | some y =>
    cases hb : b[i]? with
    | none => rw [ha, hb] at hi; simp at hi
    | some z =>
      rw [ha, hb] at hi
      simp only [Option.some.injEq] at hi
      have := hA y (List.mem_iff_getElem?.2 ⟨i, ha⟩)
      have h2 : y.toNat &&& z.toNat ≤ y.toNat := Nat.and_le_left
      omega
theorem byteN_andB {a b : List Int} (j : Nat) : byteN (andB a b) j = byteN a j &&& byteN b j := by
  unfold byteN andB
  rw [List.getD_eq_getElem?_getD, List.getElem?_zipWith, List.getD_eq_getElem?_getD, List.getD_eq_getElem?_getD]
  cases a[j]? <;> cases b[j]? <;> simp
theorem bit_andB (a b : List Int) (i : Nat) : bit (andB a b) i = (bit a i && bit b i) := by
  unfold bit
  rw [byteN_andB, Nat.testBit_and]
theorem and_step {a b : List Int} (hA : Byt a) (hB : Byt b) (j : Nat) : Go.bits .and .u8 (a.getD j 0) (b.getD j 0) = ((byteN a j &&& byteN b j : Nat) : Int) := by
  have hk : ∀ n : Int, 0 ≤ n → n < 2 ^ 8 → IntKind.u8.wrap n = n := Go.wraps_u8
  rw [← hA.cast j, ← hB.cast j]
  exact (Go.bits_nat .u8 8 (by simp [IntKind.bits]) hk _ _ (hA.lt j) (hB.lt j)).1
/-- And's list, when its first j bytes are done. -/
def andTo (a b : List Int) (j : Nat) : List Int := (andB a b).take j ++ (a.take (min a.length b.length)).drop j
theorem andTo_length (a b : List Int) (j : Nat) (hj : j ≤ min a.length b.length) : (andTo a b j).length = min a.length b.length := by
  unfold andTo
  rw [List.length_append, List.length_take, List.length_drop, List.length_take, andB_length]
  omega
theorem andTo_getD (a b : List Int) (j : Nat) (hj : j < min a.length b.length) : (andTo a b j).getD j 0 = a.getD j 0 := by
  unfold andTo
  rw [List.getD_eq_getElem?_getD, List.getElem?_append, List.length_take, andB_length, if_neg (by omega), List.getElem?_drop, List.getElem?_take, List.getD_eq_getElem?_getD, if_pos (by omega)]
  congr 2
  omega
theorem andTo_succ (a b : List Int) (j : Nat) (hj : j < min a.length b.length) : (andTo a b j).set j ((byteN a j &&& byteN b j : Nat) : Int) = andTo a b (j + 1) := by
  apply List.ext_getElem?
  intro i
  have hl := andTo_length a b j (by omega)
  rw [List.getElem?_set]
  by_cases h : j = i
  · subst h
    rw [if_pos rfl, hl, if_pos hj]
    unfold andTo
    rw [List.getElem?_append, List.length_take, andB_length, if_pos (by omega), List.getElem?_take, if_pos (by omega)]
    have e := byteN_andB (a := a) (b := b) j
    have hlt : j < (andB a b).length := by rw [andB_length]; omega
    have ha : j < a.length := by omega
    have hb : j < b.length := by omega
    unfold andB
    rw [List.getElem?_zipWith, List.getElem?_eq_getElem ha, List.getElem?_eq_getElem hb]
    simp [byteN, List.getD_eq_getElem?_getD, List.getElem?_eq_getElem ha, List.getElem?_eq_getElem hb]
  · rw [if_neg h]
    unfold andTo
    rw [List.getElem?_append, List.getElem?_append, List.length_take, List.length_take, andB_length]
    by_cases h1 : i < j
    · rw [if_pos (by omega), if_pos (by omega), List.getElem?_take, List.getElem?_take, if_pos h1, if_pos (by omega)]
    · rw [if_neg (by omega), if_neg (by omega), List.getElem?_drop, List.getElem?_drop]
      congr 1
      omega
theorem and_from (a b : List Int) (hl : a.length ≤ 9000) (hA : Byt a) (hB : Byt b) (d : Nat) : ∀ j : Nat, j + d = min a.length b.length →
    Ev (fun k => mask_And.l0 k b (andTo a b j) ((min a.length b.length : Nat) : Int) (j : Int)) (andB a b) := by
  induction d with
  | zero =>
    intro j hj
    refine Ev.step (f := fun _ => some (andB a b)) (fun k => ?_) (Ev.now _)
    simp only [mask_And.l0]
    rw [if_neg (by omega)]
    unfold andTo
    rw [List.take_of_length_le (by rw [andB_length]; omega), List.drop_of_length_le (by rw [List.length_take]; omega), List.append_nil]
  | succ d ih =>
    intro j hj
    refine Ev.step (f := fun k => mask_And.l0 k b (andTo a b (j + 1)) ((min a.length b.length : Nat) : Int) ((j + 1 : Nat) : Int)) (fun k => ?_) (ih (j + 1) (by omega))
    simp only [mask_And.l0]
    rw [if_pos (by omega), if_pos (by omega), if_pos (by rw [andTo_length _ _ _ (by omega)]; omega), if_pos (by omega), rd_nat, rd_nat, andTo_getD a b j (by omega), and_step hA hB, Int.toNat_natCast, andTo_succ a b j (by omega), show wrap64 ((j : Int) + 1) = ((j + 1 : Nat) : Int) by unfold wrap64; omega]
theorem And_ev (a b : List Int) (hl : a.length ≤ 9000) (hA : Byt a) (hB : Byt b) : Ev (fun k => mask_And.f k a b) (andB a b) := by
  have em : mn (a.length : Int) (b.length : Int) = ((min a.length b.length : Nat) : Int) := by unfold mn; split <;> omega
  have hlen : (a.take (min a.length b.length)).length = min a.length b.length := by rw [List.length_take]; omega
  have h := and_from a b hl hA hB _ 0 (Nat.zero_add _)
  refine Ev.congr (f := fun k => mask_And.l0 k b (a.take (min a.length b.length)) ((min a.length b.length : Nat) : Int) 0) (fun k => ?_) h
  unfold mask_And.f
  rw [em, if_pos (by omega), if_pos (by omega), Int.toNat_natCast, CloneB_eq _ (by rw [hlen]; omega)]
  simp only [Option.bind_some]
  rw [hlen]
theorem Fits_ev (a b : List Int) (hl : a.length ≤ 9000) (hA : Byt a) (hB : Byt b) : Ev (fun k => mask_Fits.f k a b) (decide (a.length = b.length) && decide (cnt (andB a b) = 0)) := by
  by_cases h : a.length = b.length
  · refine Ev.congr (f := fun k => (mask_And.f k a b).bind fun t => (mask_Count.f k t).bind fun c => some (c == 0)) (fun k => by unfold mask_Fits.f; rw [if_pos (by omega)]) ?_
    refine Ev.bind (And_ev a b hl hA hB) ?_
    refine Ev.bind (f := fun _ c => some (c == 0)) (Count_ev _ (by rw [andB_length]; omega) (andB_Byt hA b)) ?_
    have e : (((cnt (andB a b) : Nat) : Int) == 0) = (decide (a.length = b.length) && decide (cnt (andB a b) = 0)) := by
      simp [h]
      by_cases h2 : cnt (andB a b) = 0 <;> simp [h2]
    rw [e]
    exact Ev.now _
  · refine Ev.congr (f := fun _ => some false) (fun k => by unfold mask_Fits.f; rw [if_neg (by omega)]) ?_
    simp only [h, decide_false, Bool.false_and]
    exact Ev.now _
theorem awake_ev : Ev (fun k => libevolutionlaw15_awake.f k) true := Ev.of libevolutionlaw15_awake.mono (k := 60) (by decide +kernel)
theorem sb_at (l : List Int) : ∀ (n j p : Nat), (sb l n)[j]? = some p → bit l p = true ∧ cntTo l p = j ∧ p < n := by
  intro n
  induction n with
  | zero => intro j p h; simp [sb] at h
  | succ n ih =>
    intro j p h
    rw [sb_succ, List.getElem?_append] at h
    split at h
    · obtain ⟨h1, h2, h3⟩ := ih j p h
      exact ⟨h1, h2, by omega⟩
    · rename_i hj
      rw [sb_length] at h hj
      cases hb : bit l n with
      | false => rw [hb] at h; simp at h
      | true =>
        rw [hb] at h
        simp only [if_true] at h
        have h0 : j - cntTo l n = 0 := by
          rcases Nat.eq_zero_or_pos (j - cntTo l n) with h0 | h0
          · exact h0
          · rw [List.getElem?_eq_none (by simp; omega)] at h
            simp at h
        rw [h0] at h
        simp only [List.getElem?_cons_zero, Option.some.injEq] at h
        subst h
        exact ⟨hb, by omega, by omega⟩
theorem firstBits_at (l : List Int) (K j p : Nat) (h : (firstBits l K)[j]? = some p) : bit l p = true ∧ cntTo l p = j ∧ p < 8 * l.length := by
  unfold firstBits at h
  rw [List.getElem?_take] at h
  split at h
  · exact sb_at l _ j p h
  · simp at h
theorem firstBits_length (l : List Int) (K : Nat) (h : K ≤ cnt l) : (firstBits l K).length = K := by
  unfold firstBits
  rw [List.length_take, sb_length]
  unfold cnt at h
  omega
theorem ints_length (s : List Nat) : (ints s).length = s.length := by simp [ints]
theorem u8_of {x : Int} (h : (Lit.int .u8 x).wf = true) : 0 ≤ x ∧ x < 256 := by
  simp [Lit.wf, IntKind.min, IntKind.max, IntKind.bits, IntKind.signed] at h
  omega
theorem Byt_of {l : List Int} (h : ∀ x ∈ l, (Lit.int .u8 x).wf = true) : Byt l := fun x hx => u8_of (h x hx)
theorem firstBits_mem (l : List Int) (K p : Nat) (h : p ∈ firstBits l K) : bit l p = true ∧ p < 8 * l.length := by
  obtain ⟨j, hj⟩ := List.mem_iff_getElem?.1 h
  obtain ⟨h1, _, h3⟩ := firstBits_at l K j p hj
  exact ⟨h1, h3⟩
theorem firstBits_Rng (l : List Int) (hl : l.length ≤ 9000) (K : Nat) : Rng (ints (firstBits l K)) := by
  intro x hx
  obtain ⟨p, hp, rfl⟩ := List.mem_map.1 hx
  have := (firstBits_mem l K p hp).2
  exact ⟨by omega, by omega⟩
/-- What Extend makes. -/
theorem ext_length (l : List Int) (n : Nat) (hn : n ≤ 1024) : (ext l (n : Int)).length = n := by
  rw [ext_n l n n (by omega)]
  simp only [List.length_append, List.length_take, List.length_replicate]
  omega
theorem ext_Byt {l : List Int} (hB : Byt l) (a : Int) : Byt (ext l a) := (hB.take _).append (Byt.replicate _ (by omega))
theorem mem_ints (s : List Nat) (i : Nat) : (i : Int) ∈ ints s ↔ i ∈ s := by
  unfold ints
  rw [List.mem_map]
  constructor
  · rintro ⟨x, hx, h⟩
    rw [show i = x by omega]
    exact hx
  · intro h
    exact ⟨i, h, rfl⟩
theorem contains_all (l : List Int) (i : Nat) : (ints (firstBits l (cnt l))).contains (i : Int) = bit l i := by
  rw [Bool.eq_iff_iff, List.contains_iff_mem, mem_ints]
  unfold firstBits
  rw [List.take_of_length_le (by rw [sb_length]; exact Nat.le_refl _)]
  unfold sb
  rw [List.mem_filter, List.mem_range]
  constructor
  · intro h
    exact h.2
  · intro h
    refine ⟨?_, h⟩
    rcases Nat.lt_or_ge i (8 * l.length) with h1 | h1
    · exact h1
    · rw [bit_high l i h1] at h
      cases h
theorem cnt_zero (l : List Int) (h : ∀ i, bit l i = false) : cnt l = 0 := by
  unfold cnt cntTo
  rw [List.countP_eq_zero]
  intro i _
  rw [h i]
  simp
theorem cntTo_full (l : List Int) (n : Nat) (h : ∀ i, i < n → bit l i = true) : cntTo l n = n := by
  induction n with
  | zero => rfl
  | succ n ih =>
    rw [cntTo_succ, ih (fun i hi => h i (by omega)), h n (by omega)]
    rfl
theorem cntTo_parts (x y z : List Int) (n : Nat) (h : ∀ i, bit x i = (bit z i && !bit y i)) (hs : ∀ i, bit y i = true → bit z i = true) : cntTo x n + cntTo y n = cntTo z n := by
  induction n with
  | zero => rfl
  | succ n ih =>
    rw [cntTo_succ, cntTo_succ, cntTo_succ, h n, ← ih]
    have := hs n
    revert this
    cases bit z n <;> cases bit y n <;> simp <;> omega
theorem bit_ones (n i : Nat) (hi : i < 8 * n) : bit (List.replicate n 255) i = true := by
  unfold bit byteN
  rw [List.getD_eq_getElem?_getD, List.getElem?_replicate, if_pos (by omega)]
  have h : ∀ j : Fin 8, (255 : Nat).testBit j.val = true := by decide
  exact h ⟨i % 8, by omega⟩
theorem ext_nil (n : Nat) (hn : n ≤ 1024) : ext ([] : List Int) (n : Int) = List.replicate n 255 := by
  rw [ext_n [] n n (by omega)]
  simp
theorem MaskFits_pure : libevolutionlaw15_MaskFits.Pure := by
  intro a m _ _ hwa _ _ hwm
  have hA := Byt_of hwa
  have hM := Byt_of hwm
  suffices h : Ev (fun k => libevolutionlaw15_MaskFits.f k a m) true from h.rounds
  have hawake : Ev (fun k => libevolutionlaw15_MaskFits.j0 k a m true) true :=
    Ev.step (f := fun k => (libevolutionlaw15_awake.f k).bind fun t => some t) (fun k => by simp [libevolutionlaw15_MaskFits.j0]) (Ev.bind awake_ev (Ev.now _))
  by_cases h0 : (a.length : Int) > 200
  · exact Ev.congr (fun k => by unfold libevolutionlaw15_MaskFits.f; rw [if_pos h0]) hawake
  by_cases h1 : (m.length : Int) > 200
  · exact Ev.congr (fun k => by unfold libevolutionlaw15_MaskFits.f; rw [if_neg h0, decide_eq_true h1]) hawake
  refine Ev.congr (f := fun k => libevolutionlaw15_MaskFits.j0 k a m false) (fun k => by unfold libevolutionlaw15_MaskFits.f; rw [if_neg h0, decide_eq_false h1]) ?_
  have hxl := ext_length m a.length (by omega)
  have hxB := ext_Byt hM (a.length : Int)
  revert hxl hxB
  generalize hx : ext m (a.length : Int) = x
  intro hxl hxB
  have hE : Extend.f m (a.length : Int) = some x := by unfold Extend.f; rw [hx]
  have hbl := andB_length a x
  have hbB := andB_Byt hA x
  have hbb := bit_andB a x
  have hF := Fits_ev a x (by omega) hA hxB
  have hAnd := And_ev a x (by omega) hA hxB
  revert hbl hbB hbb hF hAnd
  generalize andB a x = both
  intro hbl hbB hbb hF hAnd
  rw [show decide (a.length = x.length) = true by simp [hxl], Bool.true_and] at hF
  have hbits : bitsOf both ((cnt both : Nat) : Int) = (ints (firstBits both (cnt both)), true) := by
    unfold bitsOf
    rw [if_pos (by omega), Int.toNat_natCast]
  have hR := firstBits_Rng both (by omega) (cnt both)
  have hLl := firstBits_length both (cnt both) (Nat.le_refl _)
  have hcl : cnt both ≤ 8 * both.length := cntTo_le both _
  have hl9 : (ints (firstBits both (cnt both))).length ≤ 9000 := by rw [ints_length]; omega
  have hleft := bit_clearB hxB (ints (firstBits both (cnt both)))
  have hleftl := clearB_length x (ints (firstBits both (cnt both)))
  have hleftB := clearB_Byt hxB (ints (firstBits both (cnt both)))
  have hClear := Clear_ev x (ints (firstBits both (cnt both))) (by omega) hxB hl9 hR
  simp only [contains_all] at hleft
  revert hleft hleftl hleftB hClear
  generalize clearB x (ints (firstBits both (cnt both))) = left
  intro hleftl hleftB hClear hleft
  have hfit : cnt (andB a left) = 0 := by
    apply cnt_zero
    intro i
    rw [bit_andB, hleft, hbb]
    cases bit a i <;> cases bit x i <;> rfl
  have hsum : cnt left + cnt both = cnt x := by
    unfold cnt
    rw [hleftl, show both.length = x.length by omega]
    refine cntTo_parts left both x _ (fun i => by rw [hleft]) (fun i h => ?_)
    rw [hbb, Bool.and_eq_true] at h
    exact h.2
  have hcx : cnt x ≤ 8 * x.length := cntTo_le x _
  refine Ev.step (f := fun k => (mask_And.f k a x).bind fun t634 => (if (x.length : Int) = (a.length : Int) then ((mask_Fits.f k a x).bind fun t637 => ((mask_Count.f k t634).bind fun t638 => (if (t637 != (t638 == 0)) = true then (libevolutionlaw15_MaskFits.j1 k a x t634 true) else (if ([] : List Int).length + x.length < 140737488355328 then ((some (([] : List Int) ++ x : List Int)).bind fun y639 => (if y639.length < 140737488355328 then ((mask_Fits.f k a (y639 ++ [0])).bind fun t645 => (libevolutionlaw15_MaskFits.j1 k a x t634 t645)) else (none))) else (none))))) else (libevolutionlaw15_MaskFits.j1 k a x t634 true))) (fun k => by simp only [libevolutionlaw15_MaskFits.j0, Bool.false_eq_true, if_false, hE, Option.bind_some]) ?_
  refine Ev.bind hAnd ?_
  simp only [if_pos (show (x.length : Int) = (a.length : Int) by omega)]
  refine Ev.bind hF ?_
  refine Ev.bind (Count_ev both (by omega) hbB) ?_
  have e : (decide (cnt both = 0) != (((cnt both : Nat) : Int) == 0)) = false := by
    by_cases h : cnt both = 0 <;> simp [h]
  simp only [e, Bool.false_eq_true, if_false, List.length_nil, List.nil_append, Option.bind_some]
  simp only [if_pos (show 0 + x.length < 140737488355328 by omega), if_pos (show x.length < 140737488355328 by omega)]
  refine Ev.bind (Fits_ev a (x ++ [0]) (by omega) hA (hxB.append (Byt.cons.2 ⟨by omega, Byt.nil⟩))) ?_
  have e2 : (decide (a.length = (x ++ [0]).length) && decide (cnt (andB a (x ++ [0])) = 0)) = false := by
    have h : ¬ a.length = (x ++ [(0 : Int)]).length := by
      rw [List.length_append, List.length_singleton]
      omega
    simp only [h, decide_false, Bool.false_and]
  simp only [e2]
  refine Ev.step (f := fun k => (mask_Count.f k both).bind fun t646 => ((mask_Bits.f k both t646).bind fun bt647 => ((mask_Clear.f k x bt647.1).bind fun t651 => (if bt647.2 = true then ((mask_Fits.f k a t651).bind fun t654 => (if t654 = true then ((mask_Count.f k t651).bind fun t655 => ((mask_Count.f k both).bind fun t656 => ((mask_Count.f k x).bind fun t657 => (if (wrap64 (t655 + t656)) = t657 then ((Extend.f ([] : List Int) (a.length : Int)).bind fun t658 => ((mask_Count.f k t658).bind fun t661 => (if t661 = (wrap64 (8 * (a.length : Int))) then ((libevolutionlaw15_awake.f k).bind fun t662 => (some t662)) else (some false)))) else (some false))))) else (some false))) else (some false))))) (fun k => by simp only [libevolutionlaw15_MaskFits.j1, Bool.false_eq_true, if_false]) ?_
  refine Ev.bind (Count_ev both (by omega) hbB) ?_
  refine Ev.bind (Bits_ev both (by omega) hbB _) ?_
  rw [hbits]
  simp only [if_true]
  refine Ev.bind hClear ?_
  refine Ev.bind (Fits_ev a left (by omega) hA hleftB) ?_
  simp only [hfit, show decide (a.length = left.length) = true from decide_eq_true (by omega), decide_true, Bool.and_self, if_true]
  refine Ev.bind (Count_ev left (by omega) hleftB) ?_
  refine Ev.bind (Count_ev both (by omega) hbB) ?_
  refine Ev.bind (Count_ev x (by omega) hxB) ?_
  simp only [if_pos (show wrap64 (((cnt left : Nat) : Int) + ((cnt both : Nat) : Int)) = ((cnt x : Nat) : Int) by unfold wrap64; omega)]
  have hE2 : Extend.f ([] : List Int) (a.length : Int) = some (List.replicate a.length 255) := by
    unfold Extend.f
    rw [ext_nil _ (by omega)]
  simp only [hE2, Option.bind_some]
  refine Ev.bind (Count_ev (List.replicate a.length 255) (by simp; omega) (Byt.replicate _ (by omega))) ?_
  have hfull : cnt (List.replicate a.length (255 : Int)) = 8 * a.length := by
    unfold cnt
    rw [List.length_replicate]
    exact cntTo_full _ _ (fun i hi => bit_ones _ i hi)
  simp only [hfull, if_pos (show ((8 * a.length : Nat) : Int) = wrap64 (8 * (a.length : Int)) by unfold wrap64; omega)]
  exact Ev.bind awake_ev (Ev.now _)
end Go.Proofs.Ytpcephbhnbfcmaa.D
