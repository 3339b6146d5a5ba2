-- The plain law MaskNumbers_pure: what the printed functions compute, with no program in sight.
import Derived.Test.YtpcephbhnbfcmaaB0
import Derived.Test.YtpcephbhnbfcmaaB1
import Derived.Test.YtpcephbhnbfcmaaB2
import Derived.Test.YtpcephbhnbfcmaaB3
import Derived.Test.YtpcephbhnbfcmaaB4
namespace Go.Proofs.Ytpcephbhnbfcmaa.B
open Go.RowKit Go.Proofs.YtpcephbhnbfcmaaW.PrintWords Go.Proofs.YtpcephbhnbfcmaaW.PrintLast Go.Proofs.YtpcephbhnbfcmaaW.PrintMore
set_option linter.unusedVariables false
set_option linter.unusedSimpArgs false
def Byt (l : List Int) : Prop := ∀ x ∈ l, 0 ≤ x ∧ x < 256
def byteN (l : List Int) (j : Nat) : Nat := (l.getD j 0).toNat
def bit (l : List Int) (i : Nat) : Bool := (byteN l (i / 8)).testBit (i % 8)
theorem Byt.getD {l : List Int} (h : Byt l) (j : Nat) : 0 ≤ l.getD j 0 ∧ l.getD j 0 < 256 := by
  rcases Nat.lt_or_ge j l.length with hj | hj
  · rw [List.getD_eq_getElem?_getD, List.getElem?_eq_getElem hj]
    exact h _ (List.getElem_mem hj)
  · rw [List.getD_eq_getElem?_getD, List.getElem?_eq_none hj]
    simp
theorem Byt.lt {l : List Int} (h : Byt l) (j : Nat) : byteN l j < 256 := by
  have := h.getD j
  unfold byteN
  omega
theorem Byt.cast {l : List Int} (h : Byt l) (j : Nat) : ((byteN l j : Nat) : Int) = l.getD j 0 := by
  have := h.getD j
  unfold byteN
  omega
theorem Byt.nil : Byt [] := fun _ h => by cases h
theorem Byt.cons {x : Int} {l : List Int} : Byt (x :: l) ↔ (0 ≤ x ∧ x < 256) ∧ Byt l := by
  constructor
  · intro h
    exact ⟨h x List.mem_cons_self, fun y hy => h y (List.mem_cons_of_mem _ hy)⟩
  · rintro ⟨h1, h2⟩ y hy
    rcases List.mem_cons.1 hy with rfl | hy
    · exact h1
    · exact h2 y hy
theorem Byt.append {a b : List Int} (ha : Byt a) (hb : Byt b) : Byt (a ++ b) := by
  intro x hx
  rcases List.mem_append.1 hx with h | h
  · exact ha x h
  · exact hb x h
theorem Byt.take {a : List Int} (ha : Byt a) (n : Nat) : Byt (a.take n) := fun x hx => ha x (List.mem_of_mem_take hx)
theorem Byt.replicate (n : Nat) {x : Int} (h : 0 ≤ x ∧ x < 256) : Byt (List.replicate n x) := fun y hy => by
  rw [(List.mem_replicate.1 hy).2]
  exact h
theorem Byt.set {l : List Int} (h : Byt l) (j : Nat) {x : Int} (hx : 0 ≤ x ∧ x < 256) : Byt (l.set j x) := fun y hy => by
  rcases List.mem_or_eq_of_mem_set hy with h1 | rfl
  · exact h y h1
  · exact hx
theorem bit_high (l : List Int) (i : Nat) (h : 8 * l.length ≤ i) : bit l i = false := by
  unfold bit byteN
  rw [List.getD_eq_getElem?_getD, List.getElem?_eq_none (by omega)]
  simp
theorem byteN_set (l : List Int) (j : Nat) (x : Int) (i : Nat) (hj : j < l.length) : byteN (l.set j x) i = if i = j then x.toNat else byteN l i := by
  unfold byteN
  rw [List.getD_eq_getElem?_getD, List.getElem?_set]
  by_cases h : j = i
  · subst h
    simp [hj]
  · have h2 : ¬ i = j := fun e => h e.symm
    simp [h, h2, List.getD_eq_getElem?_getD]
theorem b_get : ∀ x : Fin 256, ∀ i : Fin 8, (Go.bits .and .u8 (shr .u8 (x.val : Int) (i.val : Int)) 1 == 1) = x.val.testBit i.val := by decide +kernel
def clrN (x i : Nat) : Nat := if x.testBit i then x - 2 ^ i else x
def orN (x i : Nat) : Nat := if x.testBit i then x else x + 2 ^ i
theorem b_clr : ∀ x : Fin 256, ∀ i : Fin 8, Go.bits .andNot .u8 (x.val : Int) (shl .u8 1 (i.val : Int)) = ((clrN x.val i.val : Nat) : Int) := by decide +kernel
theorem b_or : ∀ x : Fin 256, ∀ i : Fin 8, Go.bits .or .u8 (x.val : Int) (shl .u8 1 (i.val : Int)) = ((orN x.val i.val : Nat) : Int) := by decide +kernel
theorem n_clr : ∀ x : Fin 256, ∀ i j : Fin 8, (clrN x.val i.val).testBit j.val = if j = i then false else x.val.testBit j.val := by decide +kernel
theorem n_or : ∀ x : Fin 256, ∀ i j : Fin 8, (orN x.val i.val).testBit j.val = if j = i then true else x.val.testBit j.val := by decide +kernel
theorem n_clr_lt : ∀ x : Fin 256, ∀ i : Fin 8, clrN x.val i.val < 256 := by decide +kernel
theorem n_or_lt : ∀ x : Fin 256, ∀ i : Fin 8, orN x.val i.val < 256 := by decide +kernel
theorem n_ones : ∀ x : Fin 256, ones x.val = (List.range 8).countP (fun j => x.val.testBit j) := by decide +kernel
def getB (l : List Int) (i : Int) : Bool := decide (0 ≤ i) && bit l i.toNat
theorem get_eq (l : List Int) (hl : l.length ≤ 9000) (hB : Byt l) (i : Int) (hi : i < 9223372036854775808) : mask_get.f l i = some (getB l i) := by
  unfold mask_get.f getB
  by_cases h0 : 0 ≤ i
  · rw [if_pos h0]
    obtain ⟨n, rfl⟩ := Int.eq_ofNat_of_zero_le h0
    have ed : wrap64 (Int.tdiv (n : Int) 8) = ((n / 8 : Nat) : Int) := by
      rw [Int.tdiv_eq_ediv_of_nonneg (by omega)]
      unfold wrap64
      omega
    have em : Int.tmod (n : Int) 8 = ((n % 8 : Nat) : Int) := by
      rw [Int.tmod_eq_emod_of_nonneg (by omega)]
      omega
    rw [ed, em]
    by_cases h1 : n / 8 < l.length
    · rw [if_pos (by omega), if_pos (by omega), if_pos (by omega)]
      have hc := hB.cast (n / 8)
      have e := b_get ⟨byteN l (n / 8), hB.lt _⟩ ⟨n % 8, by omega⟩
      simp only at e
      unfold rd
      rw [Int.toNat_natCast, ← hc, e]
      simp [bit]
    · rw [if_neg (by omega)]
      rw [Int.toNat_natCast, bit_high l n (by omega)]
      simp
  · rw [if_neg h0]
    simp [h0]
/-- How many bits are set below place n. -/
def cntTo (l : List Int) (n : Nat) : Nat := (List.range n).countP (bit l)
def cnt (l : List Int) : Nat := cntTo l (8 * l.length)
theorem cntTo_succ (l : List Int) (n : Nat) : cntTo l (n + 1) = cntTo l n + if bit l n then 1 else 0 := by
  unfold cntTo
  rw [List.range_succ, List.countP_append]
  simp [List.countP_cons]
theorem cntTo_le (l : List Int) (n : Nat) : cntTo l n ≤ n := by
  unfold cntTo
  have := List.countP_le_length (p := bit l) (l := List.range n)
  simpa using this
theorem cntTo_byte (l : List Int) (hB : Byt l) (j : Nat) (hj : j < l.length) : cntTo l (8 * (j + 1)) = cntTo l (8 * j) + ones (byteN l j) := by
  have e := n_ones ⟨byteN l j, hB.lt j⟩
  simp only at e
  rw [e]
  unfold cntTo
  rw [show 8 * (j + 1) = 8 * j + 8 by omega, List.range_add, List.countP_append, List.countP_map]
  congr 1
  apply List.countP_congr
  intro i hi
  rw [List.mem_range] at hi
  simp only [Function.comp, bit, show (8 * j + i) / 8 = j by omega, show (8 * j + i) % 8 = i by omega]
theorem Ones8_eq (l : List Int) (hB : Byt l) (j : Nat) : Ones8.f (l.getD j 0) = some ((ones (byteN l j) : Nat) : Int) := by
  have h := hB.getD j
  unfold Ones8.f
  rw [if_pos h.1, if_pos h.2]
  rfl
theorem count_from (l : List Int) (hl : l.length ≤ 9000) (hB : Byt l) (d : Nat) : ∀ j : Nat, j + d = l.length → Ev (fun k => mask_Count.l0 k ((cntTo l (8 * j) : Nat) : Int) l (l.length : Int) (j : Int)) ((cnt l : Nat) : Int) := by
  induction d with
  | zero =>
    intro j hj
    refine Ev.step (f := fun _ => some ((cnt l : Nat) : Int)) (fun k => ?_) (Ev.now _)
    simp only [mask_Count.l0]
    rw [if_neg (by omega)]
    unfold cnt
    rw [show j = l.length by omega]
  | succ d ih =>
    intro j hj
    refine Ev.step (f := fun k => mask_Count.l0 k ((cntTo l (8 * (j + 1)) : Nat) : Int) l (l.length : Int) ((j + 1 : Nat) : Int)) (fun k => ?_) (ih (j + 1) (by omega))
    simp only [mask_Count.l0]
    rw [if_pos (by omega), if_pos (by omega), if_pos (by omega)]
    have e : rd l (j : Int) = l.getD j 0 := by unfold rd; rw [Int.toNat_natCast]
    rw [e, Ones8_eq l hB j]
    simp only [Option.bind_some]
    have hle := cntTo_le l (8 * (j + 1))
    rw [cntTo_byte l hB j (by omega)] at hle ⊢
    congr 1
    · unfold wrap64; omega
    · unfold wrap64; omega
theorem Count_ev (l : List Int) (hl : l.length ≤ 9000) (hB : Byt l) : Ev (fun k => mask_Count.f k l) ((cnt l : Nat) : Int) := by
  have h := count_from l hl hB l.length 0 (by omega)
  exact h
/-- The set bits below place n. -/
def sb (l : List Int) (n : Nat) : List Nat := (List.range n).filter (bit l)
def ints (l : List Nat) : List Int := l.map fun (x : Nat) => (x : Int)
theorem sb_length (l : List Int) (n : Nat) : (sb l n).length = cntTo l n := by
  unfold sb cntTo
  rw [List.countP_eq_length_filter]
theorem sb_succ (l : List Int) (n : Nat) : sb l (n + 1) = sb l n ++ if bit l n then [n] else [] := by
  unfold sb
  rw [List.range_succ, List.filter_append]
  congr 1
  cases h : bit l n <;> simp [h]
theorem sb_split (l : List Int) (m n : Nat) : sb l (m + n) = sb l m ++ ((List.range n).map (m + ·)).filter (bit l) := by
  unfold sb
  rw [List.range_add, List.filter_append]
/-- The first k set bits. -/
def firstBits (l : List Int) (k : Nat) : List Nat := (sb l (8 * l.length)).take k
theorem sb_take (l : List Int) (n : Nat) (h : n ≤ 8 * l.length) : sb l n = firstBits l (cntTo l n) := by
  unfold firstBits
  obtain ⟨d, hd⟩ := Nat.exists_eq_add_of_le h
  rw [hd, sb_split, ← sb_length, List.take_left']
  rfl
theorem bits_from (l : List Int) (hl : l.length ≤ 9000) (hB : Byt l) (K : Nat) (hK : K ≤ cnt l) (d : Nat) : ∀ i : Nat, i + d = 8 * l.length → cntTo l i ≤ K →
    Ev (fun k => mask_Bits.l0 k l (K : Int) (ints (sb l i)) (i : Int)) (ints (firstBits l K), true) := by
  have done : ∀ i : Nat, i ≤ 8 * l.length → cntTo l i = K → Ev (fun k => mask_Bits.l0 k l (K : Int) (ints (sb l i)) (i : Int)) (ints (firstBits l K), true) := by
    intro i hi hc
    refine Ev.step (f := fun _ => some (ints (firstBits l K), true)) (fun k => ?_) (Ev.now _)
    simp only [mask_Bits.l0]
    have hlen : (ints (sb l i)).length = K := by simp [ints, sb_length, hc]
    rw [hlen, if_neg (by omega), sb_take l i hi, hc]
  induction d with
  | zero =>
    intro i hi hc
    refine done i (by omega) ?_
    have : cntTo l i = cnt l := by unfold cnt; rw [show i = 8 * l.length by omega]
    omega
  | succ d ih =>
    intro i hi hc
    by_cases he : cntTo l i = K
    · exact done i (by omega) he
    · have hlen : (ints (sb l i)).length = cntTo l i := by simp [ints, sb_length]
      have hle := cntTo_le l i
      have hw : wrap64 ((i : Int) + 1) = ((i + 1 : Nat) : Int) := by unfold wrap64; omega
      have hs := cntTo_succ l i
      cases hb : bit l i with
      | true =>
        rw [hb] at hs
        simp only [if_true] at hs
        refine Ev.step (f := fun k => mask_Bits.l0 k l (K : Int) (ints (sb l (i + 1))) ((i + 1 : Nat) : Int)) (fun k => ?_) (ih (i + 1) (by omega) (by omega))
        simp only [mask_Bits.l0]
        rw [hlen, if_pos (by omega), get_eq l hl hB _ (by omega)]
        simp only [Option.bind_some, getB, Int.toNat_natCast, hb]
        rw [if_pos (by simp), if_pos (by omega), hw, sb_succ, hb]
        simp [ints]
      | false =>
        rw [hb] at hs
        refine Ev.step (f := fun k => mask_Bits.l0 k l (K : Int) (ints (sb l (i + 1))) ((i + 1 : Nat) : Int)) (fun k => ?_) (ih (i + 1) (by omega) (by simp at hs; omega))
        simp only [mask_Bits.l0]
        rw [hlen, if_pos (by omega), get_eq l hl hB _ (by omega)]
        simp only [Option.bind_some, getB, Int.toNat_natCast, hb]
        rw [if_neg (by simp), hw, sb_succ, hb]
        simp [ints]
/-- What Bits answers. -/
def bitsOf (l : List Int) (k : Int) : List Int × Bool := if 0 ≤ k ∧ k ≤ cnt l then (ints (firstBits l k.toNat), true) else ([], false)
theorem Bits_ev (l : List Int) (hl : l.length ≤ 9000) (hB : Byt l) (k0 : Int) : Ev (fun k => mask_Bits.f k l k0) (bitsOf l k0) := by
  have no : bitsOf l k0 = ([], false) → Ev (fun k => mask_Bits.j0 k l k0 true) (bitsOf l k0) := by
    intro h
    rw [h]
    refine Ev.step (f := fun _ => some (([] : List Int), false)) (fun k => ?_) (Ev.now _)
    simp [mask_Bits.j0]
  by_cases h0 : k0 < 0
  · refine Ev.congr (f := fun k => mask_Bits.j0 k l k0 true) (fun k => ?_) (no (by unfold bitsOf; rw [if_neg (by omega)]))
    unfold mask_Bits.f
    rw [if_pos h0]
  · refine Ev.congr (f := fun k => (mask_Count.f k l).bind fun t => mask_Bits.j0 k l k0 (decide (k0 > t))) (fun k => ?_) ?_
    · unfold mask_Bits.f
      rw [if_neg h0]
    · refine Ev.bind (Count_ev l hl hB) ?_
      by_cases h1 : k0 > ((cnt l : Nat) : Int)
      · have e : decide (k0 > ((cnt l : Nat) : Int)) = true := decide_eq_true h1
        simp only [e]
        exact no (by unfold bitsOf; rw [if_neg (by omega)])
      · have e : decide (k0 > ((cnt l : Nat) : Int)) = false := decide_eq_false h1
        simp only [e]
        obtain ⟨K, rfl⟩ := Int.eq_ofNat_of_zero_le (by omega : 0 ≤ k0)
        have hv : bitsOf l (K : Int) = (ints (firstBits l K), true) := by
          unfold bitsOf
          rw [if_pos (by omega), Int.toNat_natCast]
        rw [hv]
        have h := bits_from l hl hB K (by omega) (8 * l.length) 0 (by omega) (by simp [cntTo])
        refine Ev.step (f := fun k => mask_Bits.l0 k l (K : Int) ([] : List Int) 0) (fun k => ?_) ?_
        · simp [mask_Bits.j0]
        · exact h
def i64 (x : Int) : Prop := -9223372036854775808 ≤ x ∧ x < 9223372036854775808
def Rng (s : List Int) : Prop := ∀ x ∈ s, i64 x
theorem Rng.getD {s : List Int} (h : Rng s) (j : Nat) : i64 (s.getD j 0) := by
  rcases Nat.lt_or_ge j s.length with hj | hj
  · rw [List.getD_eq_getElem?_getD, List.getElem?_eq_getElem hj]
    exact h _ (List.getElem_mem hj)
  · rw [List.getD_eq_getElem?_getD, List.getElem?_eq_none hj]
    exact ⟨by simp, by simp⟩
def onN (x i : Nat) (on : Bool) : Nat := if on then orN (clrN x i) i else clrN x i
def setB (l : List Int) (i : Int) (on : Bool) : List Int := if 0 ≤ i ∧ i / 8 < l.length then l.set (i.toNat / 8) ((onN (byteN l (i.toNat / 8)) (i.toNat % 8) on : Nat) : Int) else l
theorem onN_lt {x i : Nat} (hx : x < 256) (hi : i < 8) (on : Bool) : onN x i on < 256 := by
  have h := n_clr_lt ⟨x, hx⟩ ⟨i, hi⟩
  unfold onN
  split
  · exact n_or_lt ⟨_, h⟩ ⟨i, hi⟩
  · exact h
theorem onN_bit {x i j : Nat} (hx : x < 256) (hi : i < 8) (hj : j < 8) (on : Bool) : (onN x i on).testBit j = if j = i then on else x.testBit j := by
  have h := n_clr_lt ⟨x, hx⟩ ⟨i, hi⟩
  have h1 := n_clr ⟨x, hx⟩ ⟨i, hi⟩ ⟨j, hj⟩
  have h2 := n_or ⟨clrN x i, h⟩ ⟨i, hi⟩ ⟨j, hj⟩
  simp only [Fin.mk.injEq] at h1 h2
  unfold onN
  cases on
  · simp only [Bool.false_eq_true, if_false]
    rw [h1]
  · simp only [if_true]
    rw [h2, h1]
    split <;> simp_all
theorem setB_length (l : List Int) (i : Int) (on : Bool) : (setB l i on).length = l.length := by
  unfold setB
  split <;> simp
theorem setB_Byt {l : List Int} (hB : Byt l) (i : Int) (on : Bool) : Byt (setB l i on) := by
  unfold setB
  split
  · refine hB.set _ ?_
    have := onN_lt (hB.lt (i.toNat / 8)) (show i.toNat % 8 < 8 by omega) on
    omega
  · exact hB
theorem bit_setB {l : List Int} (hB : Byt l) (i : Int) (on : Bool) (n : Nat) : bit (setB l i on) n = if (n : Int) = i ∧ n < 8 * l.length then on else bit l n := by
  unfold setB
  by_cases h : 0 ≤ i ∧ i / 8 < l.length
  · rw [if_pos h]
    have hj : i.toNat / 8 < l.length := by omega
    unfold bit
    rw [byteN_set _ _ _ _ hj]
    by_cases h1 : n / 8 = i.toNat / 8
    · rw [if_pos h1, Int.toNat_natCast, onN_bit (hB.lt _) (by omega) (by omega)]
      by_cases h2 : n % 8 = i.toNat % 8
      · rw [if_pos h2, if_pos (by omega)]
      · rw [if_neg h2, if_neg (by omega), h1]
    · rw [if_neg h1, if_neg (by omega)]
  · rw [if_neg h, if_neg (by omega)]
theorem set_ev (l : List Int) (hl : l.length ≤ 9000) (hB : Byt l) (i : Int) (hi : i64 i) (on : Bool) : Ev (fun k => mask_set.f k l i on) (setB l i on) := by
  have hi1 := hi.1
  have hi2 := hi.2
  by_cases h0 : i < 0
  · have e : setB l i on = l := by unfold setB; rw [if_neg (by omega)]
    rw [e]
    refine Ev.congr (f := fun k => mask_set.j0 k l i on true) (fun k => by unfold mask_set.f; rw [if_pos h0]) ?_
    refine Ev.step (f := fun _ => some l) (fun k => ?_) (Ev.now _)
    simp [mask_set.j0]
  · obtain ⟨n, rfl⟩ := Int.eq_ofNat_of_zero_le (by omega : 0 ≤ i)
    have ed : wrap64 (Int.tdiv (n : Int) 8) = ((n / 8 : Nat) : Int) := by
      rw [Int.tdiv_eq_ediv_of_nonneg (by omega)]
      unfold wrap64
      omega
    have em : Int.tmod (n : Int) 8 = ((n % 8 : Nat) : Int) := by
      rw [Int.tmod_eq_emod_of_nonneg (by omega)]
      omega
    refine Ev.congr (f := fun k => mask_set.j0 k l n on (decide (((n / 8 : Nat) : Int) ≥ (l.length : Int)))) (fun k => by unfold mask_set.f; rw [if_neg h0, ed]) ?_
    by_cases h1 : n / 8 < l.length
    · have e : setB l (n : Int) on = l.set (n / 8) ((onN (byteN l (n / 8)) (n % 8) on : Nat) : Int) := by
        unfold setB
        rw [if_pos (by omega), Int.toNat_natCast]
      rw [e]
      have hd : decide (((n / 8 : Nat) : Int) ≥ (l.length : Int)) = false := decide_eq_false (by omega)
      rw [hd]
      refine Ev.step (f := fun _ => some (l.set (n / 8) ((onN (byteN l (n / 8)) (n % 8) on : Nat) : Int))) (fun k => ?_) (Ev.now _)
      simp only [mask_set.j0]
      rw [if_neg (by simp), ed, em, if_pos (by omega), if_pos (by omega), if_pos (by omega)]
      have hc := hB.cast (n / 8)
      have e1 := b_clr ⟨byteN l (n / 8), hB.lt _⟩ ⟨n % 8, by omega⟩
      have e2 := b_or ⟨clrN (byteN l (n / 8)) (n % 8), n_clr_lt ⟨_, hB.lt _⟩ ⟨n % 8, by omega⟩⟩ ⟨n % 8, by omega⟩
      simp only at e1 e2
      simp only [Option.bind_some]
      unfold rd
      rw [Int.toNat_natCast, ← hc, e1]
      cases on with
      | true =>
        rw [if_pos rfl]
        have eg : (l.set (n / 8) ((clrN (byteN l (n / 8)) (n % 8) : Nat) : Int)).getD (n / 8) 0 = ((clrN (byteN l (n / 8)) (n % 8) : Nat) : Int) := by
          rw [List.getD_eq_getElem?_getD, List.getElem?_set]
          simp [h1]
        rw [eg, e2, List.set_set]
        simp [onN]
      | false =>
        rw [if_neg (by simp)]
        simp [onN]
    · have e : setB l (n : Int) on = l := by unfold setB; rw [if_neg (by omega)]
      rw [e]
      have hd : decide (((n / 8 : Nat) : Int) ≥ (l.length : Int)) = true := decide_eq_true (by omega)
      rw [hd]
      refine Ev.step (f := fun _ => some l) (fun k => ?_) (Ev.now _)
      simp [mask_set.j0]
def clearB (l : List Int) (s : List Int) : List Int := s.foldl (fun l i => setB l i false) l
theorem clearB_snoc (l s : List Int) (x : Int) : clearB l (s ++ [x]) = setB (clearB l s) x false := by
  unfold clearB
  rw [List.foldl_append]
  rfl
theorem clearB_length (l s : List Int) : (clearB l s).length = l.length := by
  induction s generalizing l with
  | nil => rfl
  | cons x s ih => exact (ih _).trans (setB_length _ _ _)
theorem clearB_Byt {l : List Int} (hB : Byt l) (s : List Int) : Byt (clearB l s) := by
  induction s generalizing l with
  | nil => exact hB
  | cons x s ih => exact ih (setB_Byt hB _ _)
theorem bit_clearB {l : List Int} (hB : Byt l) (s : List Int) (n : Nat) : bit (clearB l s) n = (bit l n && !(s.contains (n : Int))) := by
  induction s generalizing l with
  | nil => simp [clearB]
  | cons x s ih =>
    show bit (clearB (setB l x false) s) n = _
    rw [ih (setB_Byt hB _ _), bit_setB hB]
    by_cases h : (n : Int) = x
    · rcases Nat.lt_or_ge n (8 * l.length) with h1 | h1
      · rw [if_pos ⟨h, h1⟩]
        simp [h]
      · rw [if_neg (by omega), bit_high l n h1]
        simp
    · have h3 : ((n : Int) == x) = false := by simpa using h
      rw [if_neg (fun e => h e.1), List.contains_cons, h3]
      simp
theorem take_snoc_getD (s : List Int) (j : Nat) (hj : j < s.length) : s.take (j + 1) = s.take j ++ [s.getD j 0] := by
  rw [List.take_succ_eq_append_getElem hj, List.getD_eq_getElem?_getD, List.getElem?_eq_getElem hj]
  rfl
theorem rd_nat (s : List Int) (j : Nat) : rd s (j : Int) = s.getD j 0 := by unfold rd; rw [Int.toNat_natCast]
theorem clear_from (l s : List Int) (hl : l.length ≤ 9000) (hB : Byt l) (hs : s.length ≤ 9000) (hR : Rng s) (d : Nat) : ∀ j : Nat, j + d = s.length →
    Ev (fun k => mask_Clear.l0 k (clearB l (s.take j)) s (s.length : Int) (j : Int)) (clearB l s) := by
  induction d with
  | zero =>
    intro j hj
    refine Ev.step (f := fun _ => some (clearB l s)) (fun k => ?_) (Ev.now _)
    simp only [mask_Clear.l0]
    rw [if_neg (by omega), List.take_of_length_le (by omega)]
  | succ d ih =>
    intro j hj
    refine Ev.step (f := fun k => (mask_set.f k (clearB l (s.take j)) (s.getD j 0) false).bind fun t => mask_Clear.l0 k t s (s.length : Int) ((j + 1 : Nat) : Int)) (fun k => ?_) ?_
    · simp only [mask_Clear.l0]
      rw [if_pos (by omega), if_pos (by omega), if_pos (by omega), rd_nat, show wrap64 ((j : Int) + 1) = ((j + 1 : Nat) : Int) by unfold wrap64; omega]
    · refine Ev.bind (set_ev _ (by rw [clearB_length]; exact hl) (clearB_Byt hB _) _ (hR.getD j) false) ?_
      have h := ih (j + 1) (by omega)
      rw [take_snoc_getD s j (by omega), clearB_snoc] at h
      exact h
theorem CloneB_eq (l : List Int) (hl : l.length ≤ 9000) : CloneB.f l = some l := by
  unfold CloneB.f
  rw [if_pos (by omega)]
theorem Clear_ev (l s : List Int) (hl : l.length ≤ 9000) (hB : Byt l) (hs : s.length ≤ 9000) (hR : Rng s) : Ev (fun k => mask_Clear.f k l s) (clearB l s) := by
  refine Ev.congr (f := fun k => mask_Clear.l0 k l s (s.length : Int) 0) (fun k => by unfold mask_Clear.f; rw [CloneB_eq l hl]; rfl) ?_
  exact clear_from l s hl hB hs hR s.length 0 (by omega)
/-- Bit i of a number, as Put takes it. -/
def nbit (n : Int) (i : Nat) : Bool := decide (i < 63) && (Go.bits .and .i64 (shr .i64 n (i : Int)) 1 == 1)
def putFrom (l : List Int) (n : Int) : Nat → List Int → List Int
  | _, [] => l
  | i, b :: s => putFrom (setB l b (nbit n i)) n (i + 1) s
def putB (l s : List Int) (n : Int) : List Int := putFrom l n 0 s
theorem putFrom_length (n : Int) (s : List Int) : ∀ (l : List Int) (i : Nat), (putFrom l n i s).length = l.length := by
  induction s with
  | nil => intro l i; rfl
  | cons b s ih => intro l i; exact (ih _ _).trans (setB_length _ _ _)
theorem putFrom_Byt (n : Int) (s : List Int) : ∀ {l : List Int} (_ : Byt l) (i : Nat), Byt (putFrom l n i s) := by
  induction s with
  | nil => intro l h i; exact h
  | cons b s ih => intro l h i; exact ih (setB_Byt h _ _) _
theorem putB_length (l s : List Int) (n : Int) : (putB l s n).length = l.length := putFrom_length n s l 0
theorem putB_Byt {l : List Int} (hB : Byt l) (s : List Int) (n : Int) : Byt (putB l s n) := putFrom_Byt n s hB 0
/-- The list that Put has made when the first j bits are done. -/
def putTo (l s : List Int) (n : Int) (j : Nat) : List Int := putB l (s.take j) n
theorem putFrom_snoc (n : Int) (x : Int) (s : List Int) : ∀ (l : List Int) (i : Nat), putFrom l n i (s ++ [x]) = setB (putFrom l n i s) x (nbit n (i + s.length)) := by
  induction s with
  | nil => intro l i; rfl
  | cons b s ih =>
    intro l i
    show putFrom (setB l b (nbit n i)) n (i + 1) (s ++ [x]) = _
    rw [ih]
    simp only [putFrom, List.length_cons]
    congr 2
    omega
theorem putTo_succ (l s : List Int) (n : Int) (j : Nat) (hj : j < s.length) : putTo l s n (j + 1) = setB (putTo l s n j) (s.getD j 0) (nbit n j) := by
  unfold putTo putB
  rw [take_snoc_getD s j hj, putFrom_snoc, List.length_take]
  congr 2
  omega
theorem put_from (l s : List Int) (n : Int) (hl : l.length ≤ 9000) (hB : Byt l) (hs : s.length ≤ 9000) (hR : Rng s) (d : Nat) : ∀ j : Nat, j + d = s.length →
    Ev (fun k => mask_Put.l0 k n (putTo l s n j) s (s.length : Int) (j : Int)) (putB l s n) := by
  induction d with
  | zero =>
    intro j hj
    refine Ev.step (f := fun _ => some (putB l s n)) (fun k => ?_) (Ev.now _)
    simp only [mask_Put.l0]
    rw [if_neg (by omega)]
    unfold putTo
    rw [List.take_of_length_le (by omega)]
  | succ d ih =>
    intro j hj
    refine Ev.step (f := fun k => (mask_set.f k (putTo l s n j) (s.getD j 0) (nbit n j)).bind fun t => mask_Put.l0 k n t s (s.length : Int) ((j + 1 : Nat) : Int)) (fun k => ?_) ?_
    · simp only [mask_Put.l0]
      rw [if_pos (by omega), if_pos (by omega), if_pos (by omega), rd_nat, show wrap64 ((j : Int) + 1) = ((j + 1 : Nat) : Int) by unfold wrap64; omega]
      by_cases h : j < 63
      · rw [if_pos (by omega)]
        simp [nbit, h]
      · rw [if_neg (by omega)]
        simp [nbit, h]
    · refine Ev.bind (set_ev _ (by show (putB _ _ _).length ≤ 9000; rw [putB_length]; exact hl) (putB_Byt hB _ _) _ (hR.getD j) _) ?_
      have h := ih (j + 1) (by omega)
      rw [putTo_succ l s n j (by omega)] at h
      exact h
theorem Put_ev (l s : List Int) (n : Int) (hl : l.length ≤ 9000) (hB : Byt l) (hs : s.length ≤ 9000) (hR : Rng s) : Ev (fun k => mask_Put.f k l s n) (putB l s n) := by
  refine Ev.congr (f := fun k => mask_Put.l0 k n l s (s.length : Int) 0) (fun k => by unfold mask_Put.f; rw [CloneB_eq l hl]; rfl) ?_
  exact put_from l s n hl hB hs hR s.length 0 (by omega)
/-- The number whose bit i, for i below j, is the i-th of the bits. -/
def accTo (l s : List Int) : Nat → Nat
  | 0 => 0
  | j + 1 => accTo l s j + if getB l (s.getD j 0) then 2 ^ j else 0
theorem accTo_lt (l s : List Int) : ∀ j, accTo l s j < 2 ^ j
  | 0 => by simp [accTo]
  | j + 1 => by
    have := accTo_lt l s j
    simp only [accTo]
    rw [Nat.pow_succ]
    split <;> omega
theorem accTo_congr (l l' s s' : List Int) (j : Nat) (h : ∀ i, i < j → getB l (s.getD i 0) = getB l' (s'.getD i 0)) : accTo l s j = accTo l' s' j := by
  induction j with
  | zero => rfl
  | succ j ih =>
    simp only [accTo]
    rw [ih (fun i hi => h i (by omega)), h j (by omega)]
def getV (l s : List Int) : Nat := accTo l s (min s.length 62)
theorem or_step (x j : Nat) (hx : x < 2 ^ j) (hj : j < 62) : Go.bits .or .i64 (x : Int) (shl .i64 1 (j : Int)) = ((x + 2 ^ j : Nat) : Int) := by
  have hp : 2 ^ j < 2 ^ 62 := Nat.pow_lt_pow_right (by omega) hj
  have hp2 : (2 : Nat) ^ 62 = 4611686018427387904 := by decide
  have hk : ∀ n : Int, 0 ≤ n → n < 2 ^ 62 → IntKind.i64.wrap n = n := by
    intro n h0 h1
    rw [IntKind.wrap_i64]
    have : (2 : Int) ^ 62 = 4611686018427387904 := by decide
    omega
  have es : shl .i64 1 (j : Int) = ((2 ^ j : Nat) : Int) := by
    unfold shl
    rw [Int.toNat_natCast, Nat.min_eq_left (by simp [IntKind.bits]; omega), Int.one_mul]
    rw [show ((2 : Int) ^ j) = ((2 ^ j : Nat) : Int) by simp]
    apply hk
    · omega
    · exact_mod_cast hp
  rw [es, (Go.bits_nat .i64 62 (by simp [IntKind.bits]) hk x (2 ^ j) (by omega) hp).2]
  congr 1
  have := Nat.two_pow_add_eq_or_of_lt hx 1
  rw [Nat.mul_one] at this
  rw [Nat.or_comm, ← this, Nat.add_comm]
theorem get_from (l s : List Int) (hl : l.length ≤ 9000) (hB : Byt l) (hs : s.length ≤ 62) (hR : Rng s) (d : Nat) : ∀ j : Nat, j + d = s.length →
    Ev (fun k => mask_Get.l0 k l ((accTo l s j : Nat) : Int) s (s.length : Int) (j : Int)) ((accTo l s s.length : Nat) : Int) := by
  induction d with
  | zero =>
    intro j hj
    refine Ev.step (f := fun _ => some ((accTo l s s.length : Nat) : Int)) (fun k => ?_) (Ev.now _)
    simp only [mask_Get.l0]
    rw [if_neg (by omega), show j = s.length by omega]
  | succ d ih =>
    intro j hj
    refine Ev.step (f := fun k => mask_Get.l0 k l ((accTo l s (j + 1) : Nat) : Int) s (s.length : Int) ((j + 1 : Nat) : Int)) (fun k => ?_) (ih (j + 1) (by omega))
    simp only [mask_Get.l0]
    rw [if_pos (by omega), if_pos (by omega), if_pos (by omega), rd_nat, show wrap64 ((j : Int) + 1) = ((j + 1 : Nat) : Int) by unfold wrap64; omega, get_eq l hl hB _ (hR.getD j).2]
    simp only [Option.bind_some, accTo]
    by_cases h : getB l (s.getD j 0) = true
    · rw [if_pos h, if_pos h, or_step _ _ (accTo_lt l s j) (by omega)]
    · rw [if_neg h, if_neg h]
      rfl
theorem getD_take (s : List Int) (n i : Nat) (h : i < n) : (s.take n).getD i 0 = s.getD i 0 := by
  rw [List.getD_eq_getElem?_getD, List.getD_eq_getElem?_getD, List.getElem?_take, if_pos h]
theorem Get_ev (l s : List Int) (hl : l.length ≤ 9000) (hB : Byt l) (hs : s.length ≤ 9000) (hR : Rng s) : Ev (fun k => mask_Get.f k l s) ((getV l s : Nat) : Int) := by
  have em : mn (s.length : Int) 62 = ((min s.length 62 : Nat) : Int) := by unfold mn; split <;> omega
  have hlen : (s.take (min s.length 62)).length = min s.length 62 := by rw [List.length_take]; omega
  have h := get_from l (s.take (min s.length 62)) hl hB (by rw [hlen]; omega) (fun x hx => hR x (List.mem_of_mem_take hx)) _ 0 (Nat.zero_add _)
  have e : accTo l (s.take (min s.length 62)) (s.take (min s.length 62)).length = getV l s := by
    rw [hlen]
    unfold getV
    exact accTo_congr _ _ _ _ _ (fun i hi => by rw [getD_take _ _ _ hi])
  rw [e] at h
  refine Ev.congr (f := fun k => mask_Get.l0 k l 0 (s.take (min s.length 62)) ((s.take (min s.length 62)).length : Int) 0) (fun k => ?_) h
  unfold mask_Get.f
  rw [em, if_pos (by omega), if_pos (by omega), Int.toNat_natCast]
theorem awake_ev : Ev (fun k => libevolutionlaw15_awake.f k) true := Ev.of libevolutionlaw15_awake.mono (k := 60) (by decide +kernel)
theorem b_bit : ∀ x : Fin 256, ∀ i : Fin 8, Go.bits .and .u8 (shr .u8 (x.val : Int) (i.val : Int)) 1 = if x.val.testBit i.val then 1 else 0 := by decide +kernel
theorem div8 (n : Nat) (h : n < 4611686018427387904) : wrap64 (Int.tdiv (n : Int) 8) = ((n / 8 : Nat) : Int) := by
  rw [Int.tdiv_eq_ediv_of_nonneg (by omega)]
  unfold wrap64
  omega
theorem mod8 (n : Nat) (h : n < 4611686018427387904) : IntKind.u64.wrap (Int.tmod (n : Int) 8) = ((n % 8 : Nat) : Int) := by
  rw [Int.tmod_eq_emod_of_nonneg (by omega), IntKind.wrap_u64]
  omega
theorem at_bit (l : List Int) (hB : Byt l) (n : Nat) : Go.bits .and .u8 (shr .u8 (rd l ((n / 8 : Nat) : Int)) ((n % 8 : Nat) : Int)) 1 = if bit l n then 1 else 0 := by
  have e := b_bit ⟨byteN l (n / 8), hB.lt _⟩ ⟨n % 8, by omega⟩
  simp only at e
  rw [rd_nat, ← hB.cast, e]
  rfl
theorem sb_at (l : List Int) : ∀ (n j p : Nat), (sb l n)[j]? = some p → bit l p = true ∧ cntTo l p = j ∧ p < n := by
  intro n
  induction n with
  | zero => intro j p h; simp [sb] at h
  | succ n ih =>
    intro j p h
    rw [sb_succ, List.getElem?_append] at h
    split at h
    · obtain ⟨h1, h2, h3⟩ := ih j p h
      exact ⟨h1, h2, by omega⟩
    · rename_i hj
      rw [sb_length] at h hj
      cases hb : bit l n with
      | false => rw [hb] at h; simp at h
      | true =>
        rw [hb] at h
        simp only [if_true] at h
        have h0 : j - cntTo l n = 0 := by
          rcases Nat.eq_zero_or_pos (j - cntTo l n) with h0 | h0
          · exact h0
          · rw [List.getElem?_eq_none (by simp; omega)] at h
            simp at h
        rw [h0] at h
        simp only [List.getElem?_cons_zero, Option.some.injEq] at h
        subst h
        exact ⟨hb, by omega, by omega⟩
theorem firstBits_at (l : List Int) (K j p : Nat) (h : (firstBits l K)[j]? = some p) : bit l p = true ∧ cntTo l p = j ∧ p < 8 * l.length := by
  unfold firstBits at h
  rw [List.getElem?_take] at h
  split at h
  · exact sb_at l _ j p h
  · simp at h
theorem firstBits_length (l : List Int) (K : Nat) (h : K ≤ cnt l) : (firstBits l K).length = K := by
  unfold firstBits
  rw [List.length_take, sb_length]
  unfold cnt at h
  omega
theorem ints_length (s : List Nat) : (ints s).length = s.length := by simp [ints]
theorem ints_getD (s : List Nat) (j : Nat) : (ints s).getD j 0 = ((s.getD j 0 : Nat) : Int) := by
  unfold ints
  rw [List.getD_eq_getElem?_getD, List.getElem?_map, List.getD_eq_getElem?_getD]
  cases s[j]? <;> simp
theorem u8_of {x : Int} (h : (Lit.int .u8 x).wf = true) : 0 ≤ x ∧ x < 256 := by
  simp [Lit.wf, IntKind.min, IntKind.max, IntKind.bits, IntKind.signed] at h
  omega
theorem Byt_of {l : List Int} (h : ∀ x ∈ l, (Lit.int .u8 x).wf = true) : Byt l := fun x hx => u8_of (h x hx)
theorem nbit_nat (n i : Nat) (hn : n < 2 ^ 62) (hi : i < 62) : nbit (n : Int) i = n.testBit i := by
  have hp : 2 ^ i < 2 ^ 62 := Nat.pow_lt_pow_right (by omega) hi
  have hk : ∀ n : Int, 0 ≤ n → n < 2 ^ 62 → IntKind.i64.wrap n = n := by
    intro n h0 h1
    rw [IntKind.wrap_i64]
    have : (2 : Int) ^ 62 = 4611686018427387904 := by decide
    omega
  have es : shr .i64 (n : Int) (i : Int) = ((n / 2 ^ i : Nat) : Int) := by
    unfold shr
    rw [Int.toNat_natCast, Nat.min_eq_left (by simp [IntKind.bits]; omega)]
    norm_cast
  unfold nbit
  rw [es]
  have e := (Go.bits_nat .i64 62 (by simp [IntKind.bits]) hk (n / 2 ^ i) 1 (Nat.lt_of_le_of_lt (Nat.div_le_self _ _) hn) (by decide)).1
  have e1 : ((1 : Nat) : Int) = 1 := rfl
  rw [e1] at e
  rw [e, Nat.and_one_is_mod, Nat.testBit_eq_decide_div_mod_eq]
  simp only [show i < 63 by omega, decide_true, Bool.true_and]
  have := Nat.mod_two_eq_zero_or_one (n / 2 ^ i)
  rcases this with h | h <;> rw [h] <;> rfl
theorem bit_putFrom_out (n : Int) (s : List Int) (p : Nat) (hp : (p : Int) ∉ s) : ∀ (l : List Int) (_ : Byt l) (i : Nat), bit (putFrom l n i s) p = bit l p := by
  induction s with
  | nil => intro l _ i; rfl
  | cons b s ih =>
    intro l hB i
    rw [List.mem_cons, not_or] at hp
    show bit (putFrom (setB l b (nbit n i)) n (i + 1) s) p = _
    rw [ih hp.2 _ (setB_Byt hB _ _), bit_setB hB, if_neg (fun e => hp.1 e.1)]
theorem bit_putFrom_in (n : Int) (s : List Int) (p : Nat) (hs : s.Nodup) : ∀ (l : List Int) (_ : Byt l) (i j : Nat), s[j]? = some (p : Int) → p < 8 * l.length → bit (putFrom l n i s) p = nbit n (i + j) := by
  induction s with
  | nil => intro l _ i j h; simp at h
  | cons b s ih =>
    intro l hB i j h hp
    rw [List.nodup_cons] at hs
    show bit (putFrom (setB l b (nbit n i)) n (i + 1) s) p = _
    cases j with
    | zero =>
      simp only [List.getElem?_cons_zero, Option.some.injEq] at h
      subst h
      rw [bit_putFrom_out n s p hs.1 _ (setB_Byt hB _ _), bit_setB hB, if_pos ⟨rfl, hp⟩]
      rfl
    | succ j =>
      rw [List.getElem?_cons_succ] at h
      rw [ih hs.2 _ (setB_Byt hB _ _) (i + 1) j h (by rw [setB_length]; exact hp)]
      congr 1
      omega
theorem accTo_num (l s : List Int) (v : Nat) : ∀ j : Nat, (∀ i, i < j → getB l (s.getD i 0) = v.testBit i) → accTo l s j = v % 2 ^ j
  | 0, _ => by simp [accTo, Nat.mod_one]
  | j + 1, h => by
    simp only [accTo]
    rw [accTo_num l s v j (fun i hi => h i (by omega)), h j (by omega), Nat.mod_pow_succ, Nat.testBit_eq_decide_div_mod_eq]
    rcases Nat.mod_two_eq_zero_or_one (v / 2 ^ j) with h1 | h1 <;> simp [h1]
theorem accTo_zero (l s : List Int) : ∀ j : Nat, (∀ i, i < j → getB l (s.getD i 0) = false) → accTo l s j = 0
  | 0, _ => rfl
  | j + 1, h => by
    simp only [accTo]
    rw [accTo_zero l s j (fun i hi => h i (by omega)), h j (by omega)]
    rfl
theorem ints_nodup {s : List Nat} (h : s.Nodup) : (ints s).Nodup := by
  unfold ints
  unfold List.Nodup at h ⊢
  rw [List.pairwise_map]
  exact h.imp (fun hn e => hn (by omega))
theorem firstBits_nodup (l : List Int) (K : Nat) : (firstBits l K).Nodup := by
  unfold firstBits sb
  exact ((List.nodup_range.filter _).sublist (List.take_sublist _ _))
theorem firstBits_mem (l : List Int) (K p : Nat) (h : p ∈ firstBits l K) : bit l p = true ∧ p < 8 * l.length := by
  obtain ⟨j, hj⟩ := List.mem_iff_getElem?.1 h
  obtain ⟨h1, _, h3⟩ := firstBits_at l K j p hj
  exact ⟨h1, h3⟩
theorem firstBits_Rng (l : List Int) (hl : l.length ≤ 9000) (K : Nat) : Rng (ints (firstBits l K)) := by
  intro x hx
  obtain ⟨p, hp, rfl⟩ := List.mem_map.1 hx
  have := (firstBits_mem l K p hp).2
  exact ⟨by omega, by omega⟩
theorem ints_at (s : List Nat) (j : Nat) (hj : j < s.length) : ∃ p, s[j]? = some p ∧ (ints s)[j]? = some (p : Int) ∧ (ints s).getD j 0 = (p : Int) := by
  refine ⟨s[j], List.getElem?_eq_getElem hj, ?_, ?_⟩
  · unfold ints
    rw [List.getElem?_map, List.getElem?_eq_getElem hj]
    rfl
  · rw [ints_getD, List.getD_eq_getElem?_getD, List.getElem?_eq_getElem hj]
    rfl
/-- What was put into different bits is there again. -/
theorem get_put (l : List Int) (hB : Byt l) (s : List Nat) (hs : s.Nodup) (hin : ∀ p ∈ s, p < 8 * l.length) (hlen : s.length ≤ 62) (v : Nat) (hv : v < 2 ^ s.length) : getV (putB l (ints s) (v : Int)) (ints s) = v := by
  unfold getV
  rw [ints_length, Nat.min_eq_left hlen, accTo_num _ _ v, Nat.mod_eq_of_lt hv]
  intro i hi
  obtain ⟨p, h1, h2, h3⟩ := ints_at s i hi
  have hp := hin p (List.mem_iff_getElem?.2 ⟨i, h1⟩)
  rw [h3]
  have e := bit_putFrom_in (v : Int) (ints s) p (ints_nodup hs) l hB 0 i h2 hp
  have hv2 : v < 2 ^ 62 := Nat.lt_of_lt_of_le hv (Nat.pow_le_pow_right (by omega) hlen)
  rw [Nat.zero_add, nbit_nat v i hv2 (by omega)] at e
  unfold getB putB
  rw [Int.toNat_natCast, e]
  simp
theorem get_clear (l : List Int) (hB : Byt l) (s : List Int) : getV (clearB l s) s = 0 := by
  unfold getV
  apply accTo_zero
  intro i hi
  have hm : s.getD i 0 ∈ s := by
    rw [List.getD_eq_getElem?_getD, List.getElem?_eq_getElem (by omega)]
    exact List.getElem_mem _
  revert hm
  generalize s.getD i 0 = x
  intro hm
  unfold getB
  by_cases h0 : 0 ≤ x
  · rw [bit_clearB hB, Int.toNat_of_nonneg h0, List.contains_iff_mem.2 hm]
    simp only [Bool.not_true, Bool.and_false]
  · simp only [decide_eq_false h0, Bool.false_and]
theorem bit_put_out (l : List Int) (hB : Byt l) (s : List Int) (v : Int) (p : Nat) (hp : (p : Int) ∉ s) : bit (putB l s v) p = bit l p := bit_putFrom_out v s p hp l hB 0
/-- What Extend makes. -/
theorem ext_length (l : List Int) (n : Nat) (hn : n ≤ 1024) : (ext l (n : Int)).length = n := by
  rw [ext_n l n n (by omega)]
  simp only [List.length_append, List.length_take, List.length_replicate]
  omega
theorem ext_Byt {l : List Int} (hB : Byt l) (a : Int) : Byt (ext l a) := (hB.take _).append (Byt.replicate _ (by omega))
theorem num_l1 (b L y : List Int) (i : Nat) (hi : i < 8 * b.length) (hb : b.length ≤ 9000) (hy : y.length = b.length) (hBb : Byt b) (hBy : Byt y) (hL : L.length ≤ 9000) (hs : (i : Int) ∉ L → bit b i = bit y i)
    (next : Ev (fun k => libevolutionlaw15_MaskNumbers.l0 k b L y ((i + 1 : Nat) : Int)) true) (d : Nat) : ∀ (j : Nat) (F : Bool), j + d = L.length → F = (L.take j).contains (i : Int) →
    Ev (fun k => libevolutionlaw15_MaskNumbers.l1 k b L y (i : Int) F L (L.length : Int) (j : Int)) true := by
  have hw : wrap64 ((i : Int) + 1) = ((i + 1 : Nat) : Int) := by unfold wrap64; omega
  induction d with
  | zero =>
    intro j F hj hF
    rw [List.take_of_length_le (by omega)] at hF
    refine Ev.step (f := fun k => libevolutionlaw15_MaskNumbers.l0 k b L y ((i + 1 : Nat) : Int)) (fun k => ?_) next
    simp only [libevolutionlaw15_MaskNumbers.l1]
    rw [if_neg (by omega), hw]
    cases F with
    | true => rw [if_pos rfl]
    | false =>
      have hn : (i : Int) ∉ L := by
        intro h
        rw [List.contains_iff_mem.2 h] at hF
        cases hF
      rw [if_neg (by simp), div8 i (by omega), mod8 i (by omega), if_pos (by omega), if_pos (by omega), if_pos (by omega), if_pos (by omega), at_bit b hBb, at_bit y hBy, hs hn, if_pos rfl]
  | succ d ih =>
    intro j F hj hF
    refine Ev.step (f := fun k => libevolutionlaw15_MaskNumbers.l1 k b L y (i : Int) (F || (i : Int) == L.getD j 0) L (L.length : Int) ((j + 1 : Nat) : Int)) (fun k => ?_) (ih (j + 1) _ (by omega) ?_)
    · simp only [libevolutionlaw15_MaskNumbers.l1]
      rw [if_pos (by omega), if_pos (by omega), if_pos (by omega), rd_nat, show wrap64 ((j : Int) + 1) = ((j + 1 : Nat) : Int) by unfold wrap64; omega]
      cases F with
      | true => rw [if_pos rfl]; rfl
      | false => rw [if_neg (by simp)]; rfl
    · rw [take_snoc_getD L j (by omega), hF]
      have e : ∀ (s : List Int) (x y : Int), (s ++ [y]).contains x = (s.contains x || x == y) := by
        intro s x y
        rw [Bool.eq_iff_iff]
        simp
      rw [e]
theorem num_l0 (b L y : List Int) (hb : b.length ≤ 9000) (hy : y.length = b.length) (hBb : Byt b) (hBy : Byt y) (hL : L.length ≤ 9000) (hs : ∀ i : Nat, (i : Int) ∉ L → bit b i = bit y i) (d : Nat) : ∀ i : Nat, i + d = 8 * b.length →
    Ev (fun k => libevolutionlaw15_MaskNumbers.l0 k b L y (i : Int)) true := by
  induction d with
  | zero =>
    intro i hi
    refine Ev.step (f := fun k => (libevolutionlaw15_awake.f k).bind fun t => some t) (fun k => ?_) (Ev.bind awake_ev (Ev.now _))
    simp only [libevolutionlaw15_MaskNumbers.l0]
    rw [if_neg (by unfold wrap64; omega)]
  | succ d ih =>
    intro i hi
    refine Ev.step (f := fun k => libevolutionlaw15_MaskNumbers.l1 k b L y (i : Int) false L (L.length : Int) ((0 : Nat) : Int)) (fun k => ?_) (num_l1 b L y i (by omega) hb hy hBb hBy hL (hs i) (ih (i + 1) (by omega)) L.length 0 false (by omega) (by simp))
    simp only [libevolutionlaw15_MaskNumbers.l0]
    rw [if_pos (by unfold wrap64; omega)]
    rfl
theorem u16_of {x : Int} (h : (Lit.int .u16 x).wf = true) : 0 ≤ x ∧ x < 65536 := by
  simp [Lit.wf, IntKind.min, IntKind.max, IntKind.bits, IntKind.signed] at h
  omega
theorem shl_one (K : Nat) (hK : K < 62) : shl .i64 1 (K : Int) = ((2 ^ K : Nat) : Int) := by
  have hp : 2 ^ K < 2 ^ 62 := Nat.pow_lt_pow_right (by omega) hK
  have hp2 : (2 : Nat) ^ 62 = 4611686018427387904 := by decide
  unfold shl
  rw [Int.toNat_natCast, Nat.min_eq_left (by simp [IntKind.bits]; omega), Int.one_mul, show ((2 : Int) ^ K) = ((2 ^ K : Nat) : Int) by simp, IntKind.wrap_i64]
  revert hp
  generalize 2 ^ K = z
  intro hp
  omega
theorem MaskNumbers_pure : libevolutionlaw15_MaskNumbers.Pure := by
  intro b m n0 k0 _ _ hwb _ _ hwm hn hk
  have hB := Byt_of hwb
  have hM := Byt_of hwm
  have hn2 := u16_of hn
  have hk2 := u8_of hk
  obtain ⟨n, rfl⟩ := Int.eq_ofNat_of_zero_le hn2.1
  obtain ⟨q, rfl⟩ := Int.eq_ofNat_of_zero_le hk2.1
  suffices h : Ev (fun k => libevolutionlaw15_MaskNumbers.f k b m n q) true from h.rounds
  have hawake : Ev (fun k => libevolutionlaw15_MaskNumbers.j0 k b m n q true) true :=
    Ev.step (f := fun k => (libevolutionlaw15_awake.f k).bind fun t => some t) (fun k => by simp [libevolutionlaw15_MaskNumbers.j0]) (Ev.bind awake_ev (Ev.now _))
  by_cases h0 : (b.length : Int) = 0
  · exact Ev.congr (fun k => by unfold libevolutionlaw15_MaskNumbers.f; rw [if_pos h0]) hawake
  by_cases h1 : (b.length : Int) > 100
  · exact Ev.congr (fun k => by unfold libevolutionlaw15_MaskNumbers.f; rw [if_neg h0, decide_eq_true h1]) hawake
  refine Ev.congr (f := fun k => libevolutionlaw15_MaskNumbers.j0 k b m n q false) (fun k => by unfold libevolutionlaw15_MaskNumbers.f; rw [if_neg h0, decide_eq_false h1]) ?_
  have hxl := ext_length m b.length (by omega)
  have hxB := ext_Byt hM (b.length : Int)
  have hq : wrap64 (Int.tmod (q : Int) 17) = ((q % 17 : Nat) : Int) := by
    rw [Int.tmod_eq_emod_of_nonneg (by omega)]
    unfold wrap64
    omega
  revert hxl hxB
  generalize hx : ext m (b.length : Int) = x
  intro hxl hxB
  have hE : Extend.f m (b.length : Int) = some x := by unfold Extend.f; rw [hx]
  have hK : q % 17 < 17 := by omega
  generalize q % 17 = K at hq hK
  by_cases hc : K ≤ cnt x
  · have hv : bitsOf x (K : Int) = (ints (firstBits x K), true) := by
      unfold bitsOf
      rw [if_pos (by omega), Int.toNat_natCast]
    have hlen := firstBits_length x K hc
    have hmem := fun p => firstBits_mem x K p
    have hnd := firstBits_nodup x K
    have hR := firstBits_Rng x (by omega) K
    revert hlen hmem hnd hR hv
    generalize firstBits x K = L
    intro hv hlen hmem hnd hR
    have hsl : shl .i64 1 (IntKind.u64.wrap (((ints L).length : Int))) = ((2 ^ K : Nat) : Int) := by
      rw [ints_length, hlen, IntKind.wrap_u64, show ((K : Int) % 18446744073709551616) = (K : Int) by omega, shl_one K (by omega)]
    have hpos : 0 < 2 ^ K := Nat.two_pow_pos K
    have hvn : Int.tmod (wrap64 (n : Int)) ((2 ^ K : Nat) : Int) = ((n % 2 ^ K : Nat) : Int) := by
      rw [show wrap64 (n : Int) = (n : Int) by unfold wrap64; omega, Int.tmod_eq_emod_of_nonneg (by omega)]
      norm_cast
    have hvlt : n % 2 ^ K < 2 ^ L.length := by rw [hlen]; exact Nat.mod_lt _ hpos
    have hyl := putB_length b (ints L) ((n % 2 ^ K : Nat) : Int)
    have hyB := putB_Byt hB (ints L) ((n % 2 ^ K : Nat) : Int)
    have hgp := get_put b hB L hnd (fun p hp => by have := (hmem p hp).2; omega) (by omega) (n % 2 ^ K) hvlt
    have hgc := get_clear _ hyB (ints L)
    have hl9 : (ints L).length ≤ 9000 := by rw [ints_length]; omega
    have hP := Put_ev b (ints L) ((n % 2 ^ K : Nat) : Int) (by omega) hB hl9 hR
    have hout : ∀ i : Nat, (i : Int) ∉ ints L → bit b i = bit (putB b (ints L) ((n % 2 ^ K : Nat) : Int)) i := fun i hi => (bit_put_out b hB _ _ i hi).symm
    revert hyl hyB hgp hgc hP hout
    generalize putB b (ints L) ((n % 2 ^ K : Nat) : Int) = y
    intro hyl hyB hgp hgc hP hout
    refine Ev.step (f := fun k => (mask_Bits.f k x (K : Int)).bind fun bt612 => (if bt612.2 = true then (if 0 ≤ (IntKind.u64.wrap ((bt612.1.length : Int))) then (if (shl .i64 1 (IntKind.u64.wrap ((bt612.1.length : Int)))) = 0 then (none) else ((mask_Put.f k b bt612.1 (Int.tmod (wrap64 (n : Int)) (shl .i64 1 (IntKind.u64.wrap ((bt612.1.length : Int)))))).bind fun t618 => (if (t618.length : Int) = (b.length : Int) then ((mask_Get.f k t618 bt612.1).bind fun t621 => (if t621 = (Int.tmod (wrap64 (n : Int)) (shl .i64 1 (IntKind.u64.wrap ((bt612.1.length : Int))))) then ((mask_Clear.f k t618 bt612.1).bind fun t622 => ((mask_Get.f k t622 bt612.1).bind fun t625 => (libevolutionlaw15_MaskNumbers.j1 k b bt612.1 t618 (t625 != 0)))) else (libevolutionlaw15_MaskNumbers.j1 k b bt612.1 t618 true))) else (libevolutionlaw15_MaskNumbers.j1 k b bt612.1 t618 true)))) else (none)) else ((mask_Count.f k x).bind fun t616 => (if t616 < (K : Int) then ((libevolutionlaw15_awake.f k).bind fun t617 => (some t617)) else (some false))))) (fun k => ?_) ?_
    · simp only [libevolutionlaw15_MaskNumbers.j0, Bool.false_eq_true, if_false, hE, Option.bind_some, hq]
    · refine Ev.bind (Bits_ev x (by omega) hxB (K : Int)) ?_
      rw [hv]
      simp only [if_true, hsl, hvn]
      simp only [if_neg (show ¬ ((2 ^ K : Nat) : Int) = 0 by omega), if_pos (show (0 : Int) ≤ IntKind.u64.wrap (((ints L).length : Int)) by rw [IntKind.wrap_u64]; omega)]
      refine Ev.bind hP ?_
      simp only [if_pos (show (y.length : Int) = (b.length : Int) by omega)]
      refine Ev.bind (Get_ev y (ints L) (by omega) hyB hl9 hR) ?_
      simp only [if_pos (show ((getV y (ints L) : Nat) : Int) = ((n % 2 ^ K : Nat) : Int) by rw [hgp])]
      refine Ev.bind (Clear_ev y (ints L) (by omega) hyB hl9 hR) ?_
      refine Ev.bind (Get_ev _ (ints L) (by rw [clearB_length]; omega) (clearB_Byt hyB _) hl9 hR) ?_
      rw [hgc]
      refine Ev.step (f := fun k => libevolutionlaw15_MaskNumbers.l0 k b (ints L) y ((0 : Nat) : Int)) (fun k => by simp [libevolutionlaw15_MaskNumbers.j1]) ?_
      exact num_l0 b (ints L) y (by omega) hyl hB hyB hl9 hout (8 * b.length) 0 (by omega)
  · have hv : bitsOf x (K : Int) = ([], false) := by
      unfold bitsOf
      rw [if_neg (by omega)]
    refine Ev.step (f := fun k => (mask_Bits.f k x (K : Int)).bind fun bt612 => (if bt612.2 = true then (if 0 ≤ (IntKind.u64.wrap ((bt612.1.length : Int))) then (if (shl .i64 1 (IntKind.u64.wrap ((bt612.1.length : Int)))) = 0 then (none) else ((mask_Put.f k b bt612.1 (Int.tmod (wrap64 (n : Int)) (shl .i64 1 (IntKind.u64.wrap ((bt612.1.length : Int)))))).bind fun t618 => (if (t618.length : Int) = (b.length : Int) then ((mask_Get.f k t618 bt612.1).bind fun t621 => (if t621 = (Int.tmod (wrap64 (n : Int)) (shl .i64 1 (IntKind.u64.wrap ((bt612.1.length : Int))))) then ((mask_Clear.f k t618 bt612.1).bind fun t622 => ((mask_Get.f k t622 bt612.1).bind fun t625 => (libevolutionlaw15_MaskNumbers.j1 k b bt612.1 t618 (t625 != 0)))) else (libevolutionlaw15_MaskNumbers.j1 k b bt612.1 t618 true))) else (libevolutionlaw15_MaskNumbers.j1 k b bt612.1 t618 true)))) else (none)) else ((mask_Count.f k x).bind fun t616 => (if t616 < (K : Int) then ((libevolutionlaw15_awake.f k).bind fun t617 => (some t617)) else (some false))))) (fun k => ?_) ?_
    · simp only [libevolutionlaw15_MaskNumbers.j0, Bool.false_eq_true, if_false, hE, Option.bind_some, hq]
    · refine Ev.bind (Bits_ev x (by omega) hxB (K : Int)) ?_
      rw [hv]
      simp only [Bool.false_eq_true, if_false]
      refine Ev.bind (Count_ev x (by omega) hxB) ?_
      simp only [if_pos (show ((cnt x : Nat) : Int) < (K : Int) by omega)]
      exact Ev.bind awake_ev (Ev.now _)
end Go.Proofs.Ytpcephbhnbfcmaa.B
