-- The plain law MaskLooks_pure: what the printed functions compute, with no program in sight.
import Derived.Test.YtpcephbhnbfcmaaM0
import Derived.Test.YtpcephbhnbfcmaaM1
import Derived.Test.YtpcephbhnbfcmaaM2
import Derived.Test.YtpcephbhnbfcmaaM3
import Derived.Test.YtpcephbhnbfcmaaM4
namespace Go.Proofs.Ytpcephbhnbfcmaa.M
open Go.RowKit Go.Proofs.YtpcephbhnbfcmaaW.PrintWords Go.Proofs.YtpcephbhnbfcmaaW.PrintLast Go.Proofs.YtpcephbhnbfcmaaW.PrintMore
set_option linter.unusedVariables false
set_option linter.unusedSimpArgs false
def Byt (l : List Int) : Prop := ∀ x ∈ l, 0 ≤ x ∧ x < 256
def byteN (l : List Int) (j : Nat) : Nat := (l.getD j 0).toNat
def bit (l : List Int) (i : Nat) : Bool := (byteN l (i / 8)).testBit (i % 8)
theorem Byt.getD {l : List Int} (h : Byt l) (j : Nat) : 0 ≤ l.getD j 0 ∧ l.getD j 0 < 256 := by
  rcases Nat.lt_or_ge j l.length with hj | hj
  · rw [List.getD_eq_getElem?_getD, List.getElem?_eq_getElem hj]
    exact h _ (List.getElem_mem hj)
  · rw [List.getD_eq_getElem?_getD, List.getElem?_eq_none hj]
    simp
theorem Byt.lt {l : List Int} (h : Byt l) (j : Nat) : byteN l j < 256 := by
  have := h.getD j
  unfold byteN
  omega
theorem Byt.cast {l : List Int} (h : Byt l) (j : Nat) : ((byteN l j : Nat) : Int) = l.getD j 0 := by
  have := h.getD j
  unfold byteN
  omega
theorem Byt.nil : Byt [] := fun _ h => by cases h
theorem Byt.cons {x : Int} {l : List Int} : Byt (x :: l) ↔ (0 ≤ x ∧ x < 256) ∧ Byt l := by
  constructor
  · intro h
    exact ⟨h x List.mem_cons_self, fun y hy => h y (List.mem_cons_of_mem _ hy)⟩
  · rintro ⟨h1, h2⟩ y hy
    rcases List.mem_cons.1 hy with rfl | hy
    · exact h1
    · exact h2 y hy
theorem Byt.append {a b : List Int} (ha : Byt a) (hb : Byt b) : Byt (a ++ b) := by
  intro x hx
  rcases List.mem_append.1 hx with h | h
  · exact ha x h
  · exact hb x h
theorem Byt.take {a : List Int} (ha : Byt a) (n : Nat) : Byt (a.take n) := fun x hx => ha x (List.mem_of_mem_take hx)
theorem Byt.drop {a : List Int} (ha : Byt a) (n : Nat) : Byt (a.drop n) := fun x hx => ha x (List.mem_of_mem_drop hx)
theorem Byt.replicate (n : Nat) {x : Int} (h : 0 ≤ x ∧ x < 256) : Byt (List.replicate n x) := fun y hy => by
  rw [(List.mem_replicate.1 hy).2]
  exact h
theorem Byt.set {l : List Int} (h : Byt l) (j : Nat) {x : Int} (hx : 0 ≤ x ∧ x < 256) : Byt (l.set j x) := fun y hy => by
  rcases List.mem_or_eq_of_mem_set hy with h1 | rfl
  · exact h y h1
  · exact hx
theorem bit_high (l : List Int) (i : Nat) (h : 8 * l.length ≤ i) : bit l i = false := by
  unfold bit byteN
  rw [List.getD_eq_getElem?_getD, List.getElem?_eq_none (by omega)]
  simp
theorem b_get : ∀ x : Fin 256, ∀ i : Fin 8, (Go.bits .and .u8 (shr .u8 (x.val : Int) (i.val : Int)) 1 == 1) = x.val.testBit i.val := by decide +kernel
def clrN (x i : Nat) : Nat := if x.testBit i then x - 2 ^ i else x
def orN (x i : Nat) : Nat := if x.testBit i then x else x + 2 ^ i
theorem b_clr : ∀ x : Fin 256, ∀ i : Fin 8, Go.bits .andNot .u8 (x.val : Int) (shl .u8 1 (i.val : Int)) = ((clrN x.val i.val : Nat) : Int) := by decide +kernel
theorem b_or : ∀ x : Fin 256, ∀ i : Fin 8, Go.bits .or .u8 (x.val : Int) (shl .u8 1 (i.val : Int)) = ((orN x.val i.val : Nat) : Int) := by decide +kernel
theorem n_clr_lt : ∀ x : Fin 256, ∀ i : Fin 8, clrN x.val i.val < 256 := by decide +kernel
theorem n_or_lt : ∀ x : Fin 256, ∀ i : Fin 8, orN x.val i.val < 256 := by decide +kernel
theorem n_ones : ∀ x : Fin 256, ones x.val = (List.range 8).countP (fun j => x.val.testBit j) := by decide +kernel
theorem n_ext {x y : Nat} (hx : x < 256) (hy : y < 256) (h : ∀ j, j < 8 → x.testBit j = y.testBit j) : x = y := by
  apply Nat.eq_of_testBit_eq
  intro j
  rcases Nat.lt_or_ge j 8 with hj | hj
  · exact h j hj
  · have h1 : 2 ^ 8 ≤ 2 ^ j := Nat.pow_le_pow_right (by omega) hj
    rw [Nat.testBit_lt_two_pow (by omega), Nat.testBit_lt_two_pow (by omega)]
def getB (l : List Int) (i : Int) : Bool := decide (0 ≤ i) && bit l i.toNat
theorem get_eq (l : List Int) (hl : l.length ≤ 9000) (hB : Byt l) (i : Int) (hi : i < 9223372036854775808) : mask_get.f l i = some (getB l i) := by
  unfold mask_get.f getB
  by_cases h0 : 0 ≤ i
  · rw [if_pos h0]
    obtain ⟨n, rfl⟩ := Int.eq_ofNat_of_zero_le h0
    have ed : wrap64 (Int.tdiv (n : Int) 8) = ((n / 8 : Nat) : Int) := by
      rw [Int.tdiv_eq_ediv_of_nonneg (by omega)]
      unfold wrap64
      omega
    have em : Int.tmod (n : Int) 8 = ((n % 8 : Nat) : Int) := by
      rw [Int.tmod_eq_emod_of_nonneg (by omega)]
      omega
    rw [ed, em]
    by_cases h1 : n / 8 < l.length
    · rw [if_pos (by omega), if_pos (by omega), if_pos (by omega)]
      have hc := hB.cast (n / 8)
      have e := b_get ⟨byteN l (n / 8), hB.lt _⟩ ⟨n % 8, by omega⟩
      simp only at e
      unfold rd
      rw [Int.toNat_natCast, ← hc, e]
      simp [bit]
    · rw [if_neg (by omega)]
      rw [Int.toNat_natCast, bit_high l n (by omega)]
      simp
  · rw [if_neg h0]
    simp [h0]
/-- How many bits are set below place n. -/
def cntTo (l : List Int) (n : Nat) : Nat := (List.range n).countP (bit l)
def cnt (l : List Int) : Nat := cntTo l (8 * l.length)
theorem cntTo_succ (l : List Int) (n : Nat) : cntTo l (n + 1) = cntTo l n + if bit l n then 1 else 0 := by
  unfold cntTo
  rw [List.range_succ, List.countP_append]
  simp [List.countP_cons]
theorem cntTo_le (l : List Int) (n : Nat) : cntTo l n ≤ n := by
  unfold cntTo
  have := List.countP_le_length (p := bit l) (l := List.range n)
  simpa using this
theorem cntTo_byte (l : List Int) (hB : Byt l) (j : Nat) (hj : j < l.length) : cntTo l (8 * (j + 1)) = cntTo l (8 * j) + ones (byteN l j) := by
  have e := n_ones ⟨byteN l j, hB.lt j⟩
  simp only at e
  rw [e]
  unfold cntTo
  rw [show 8 * (j + 1) = 8 * j + 8 by omega, List.range_add, List.countP_append, List.countP_map]
  congr 1
  apply List.countP_congr
  intro i hi
  rw [List.mem_range] at hi
  simp only [Function.comp, bit, show (8 * j + i) / 8 = j by omega, show (8 * j + i) % 8 = i by omega]
theorem Ones8_eq (l : List Int) (hB : Byt l) (j : Nat) : Ones8.f (l.getD j 0) = some ((ones (byteN l j) : Nat) : Int) := by
  have h := hB.getD j
  unfold Ones8.f
  rw [if_pos h.1, if_pos h.2]
  rfl
theorem count_from (l : List Int) (hl : l.length ≤ 9000) (hB : Byt l) (d : Nat) : ∀ j : Nat, j + d = l.length → Ev (fun k => mask_Count.l0 k ((cntTo l (8 * j) : Nat) : Int) l (l.length : Int) (j : Int)) ((cnt l : Nat) : Int) := by
  induction d with
  | zero =>
    intro j hj
    refine Ev.step (f := fun _ => some ((cnt l : Nat) : Int)) (fun k => ?_) (Ev.now _)
    simp only [mask_Count.l0]
    rw [if_neg (by omega)]
    unfold cnt
    rw [show j = l.length by omega]
  | succ d ih =>
    intro j hj
    refine Ev.step (f := fun k => mask_Count.l0 k ((cntTo l (8 * (j + 1)) : Nat) : Int) l (l.length : Int) ((j + 1 : Nat) : Int)) (fun k => ?_) (ih (j + 1) (by omega))
    simp only [mask_Count.l0]
    rw [if_pos (by omega), if_pos (by omega), if_pos (by omega)]
    have e : rd l (j : Int) = l.getD j 0 := by unfold rd; rw [Int.toNat_natCast]
    rw [e, Ones8_eq l hB j]
    simp only [Option.bind_some]
    have hle := cntTo_le l (8 * (j + 1))
    rw [cntTo_byte l hB j (by omega)] at hle ⊢
    congr 1
    · unfold wrap64; omega
    · unfold wrap64; omega
theorem Count_ev (l : List Int) (hl : l.length ≤ 9000) (hB : Byt l) : Ev (fun k => mask_Count.f k l) ((cnt l : Nat) : Int) := by
  have h := count_from l hl hB l.length 0 (by omega)
  exact h
/-- The set bits below place n. -/
def sb (l : List Int) (n : Nat) : List Nat := (List.range n).filter (bit l)
def ints (l : List Nat) : List Int := l.map fun (x : Nat) => (x : Int)
theorem sb_length (l : List Int) (n : Nat) : (sb l n).length = cntTo l n := by
  unfold sb cntTo
  rw [List.countP_eq_length_filter]
theorem sb_succ (l : List Int) (n : Nat) : sb l (n + 1) = sb l n ++ if bit l n then [n] else [] := by
  unfold sb
  rw [List.range_succ, List.filter_append]
  congr 1
  cases h : bit l n <;> simp [h]
theorem sb_split (l : List Int) (m n : Nat) : sb l (m + n) = sb l m ++ ((List.range n).map (m + ·)).filter (bit l) := by
  unfold sb
  rw [List.range_add, List.filter_append]
/-- The first k set bits. -/
def firstBits (l : List Int) (k : Nat) : List Nat := (sb l (8 * l.length)).take k
theorem sb_take (l : List Int) (n : Nat) (h : n ≤ 8 * l.length) : sb l n = firstBits l (cntTo l n) := by
  unfold firstBits
  obtain ⟨d, hd⟩ := Nat.exists_eq_add_of_le h
  rw [hd, sb_split, ← sb_length, List.take_left']
  rfl
theorem bits_from (l : List Int) (hl : l.length ≤ 9000) (hB : Byt l) (K : Nat) (hK : K ≤ cnt l) (d : Nat) : ∀ i : Nat, i + d = 8 * l.length → cntTo l i ≤ K →
    Ev (fun k => mask_Bits.l0 k l (K : Int) (ints (sb l i)) (i : Int)) (ints (firstBits l K), true) := by
  have done : ∀ i : Nat, i ≤ 8 * l.length → cntTo l i = K → Ev (fun k => mask_Bits.l0 k l (K : Int) (ints (sb l i)) (i : Int)) (ints (firstBits l K), true) := by
    intro i hi hc
    refine Ev.step (f := fun _ => some (ints (firstBits l K), true)) (fun k => ?_) (Ev.now _)
    simp only [mask_Bits.l0]
    have hlen : (ints (sb l i)).length = K := by simp [ints, sb_length, hc]
    rw [hlen, if_neg (by omega), sb_take l i hi, hc]
  induction d with
  | zero =>
    intro i hi hc
    refine done i (by omega) ?_
    have : cntTo l i = cnt l := by unfold cnt; rw [show i = 8 * l.length by omega]
    omega
  | succ d ih =>
    intro i hi hc
    by_cases he : cntTo l i = K
    · exact done i (by omega) he
    · have hlen : (ints (sb l i)).length = cntTo l i := by simp [ints, sb_length]
      have hle := cntTo_le l i
      have hw : wrap64 ((i : Int) + 1) = ((i + 1 : Nat) : Int) := by unfold wrap64; omega
      have hs := cntTo_succ l i
      cases hb : bit l i with
      | true =>
        rw [hb] at hs
        simp only [if_true] at hs
        refine Ev.step (f := fun k => mask_Bits.l0 k l (K : Int) (ints (sb l (i + 1))) ((i + 1 : Nat) : Int)) (fun k => ?_) (ih (i + 1) (by omega) (by omega))
        simp only [mask_Bits.l0]
        rw [hlen, if_pos (by omega), get_eq l hl hB _ (by omega)]
        simp only [Option.bind_some, getB, Int.toNat_natCast, hb]
        rw [if_pos (by simp), if_pos (by omega), hw, sb_succ, hb]
        simp [ints]
      | false =>
        rw [hb] at hs
        refine Ev.step (f := fun k => mask_Bits.l0 k l (K : Int) (ints (sb l (i + 1))) ((i + 1 : Nat) : Int)) (fun k => ?_) (ih (i + 1) (by omega) (by simp at hs; omega))
        simp only [mask_Bits.l0]
        rw [hlen, if_pos (by omega), get_eq l hl hB _ (by omega)]
        simp only [Option.bind_some, getB, Int.toNat_natCast, hb]
        rw [if_neg (by simp), hw, sb_succ, hb]
        simp [ints]
/-- What Bits answers. -/
def bitsOf (l : List Int) (k : Int) : List Int × Bool := if 0 ≤ k ∧ k ≤ cnt l then (ints (firstBits l k.toNat), true) else ([], false)
theorem Bits_ev (l : List Int) (hl : l.length ≤ 9000) (hB : Byt l) (k0 : Int) : Ev (fun k => mask_Bits.f k l k0) (bitsOf l k0) := by
  have no : bitsOf l k0 = ([], false) → Ev (fun k => mask_Bits.j0 k l k0 true) (bitsOf l k0) := by
    intro h
    rw [h]
    refine Ev.step (f := fun _ => some (([] : List Int), false)) (fun k => ?_) (Ev.now _)
    simp [mask_Bits.j0]
  by_cases h0 : k0 < 0
  · refine Ev.congr (f := fun k => mask_Bits.j0 k l k0 true) (fun k => ?_) (no (by unfold bitsOf; rw [if_neg (by omega)]))
    unfold mask_Bits.f
    rw [if_pos h0]
  · refine Ev.congr (f := fun k => (mask_Count.f k l).bind fun t => mask_Bits.j0 k l k0 (decide (k0 > t))) (fun k => ?_) ?_
    · unfold mask_Bits.f
      rw [if_neg h0]
    · refine Ev.bind (Count_ev l hl hB) ?_
      by_cases h1 : k0 > ((cnt l : Nat) : Int)
      · have e : decide (k0 > ((cnt l : Nat) : Int)) = true := decide_eq_true h1
        simp only [e]
        exact no (by unfold bitsOf; rw [if_neg (by omega)])
      · have e : decide (k0 > ((cnt l : Nat) : Int)) = false := decide_eq_false h1
        simp only [e]
        obtain ⟨K, rfl⟩ := Int.eq_ofNat_of_zero_le (by omega : 0 ≤ k0)
        have hv : bitsOf l (K : Int) = (ints (firstBits l K), true) := by
          unfold bitsOf
          rw [if_pos (by omega), Int.toNat_natCast]
        rw [hv]
        have h := bits_from l hl hB K (by omega) (8 * l.length) 0 (by omega) (by simp [cntTo])
        refine Ev.step (f := fun k => mask_Bits.l0 k l (K : Int) ([] : List Int) 0) (fun k => ?_) ?_
        · simp [mask_Bits.j0]
        · exact h
def i64 (x : Int) : Prop := -9223372036854775808 ≤ x ∧ x < 9223372036854775808
def Rng (s : List Int) : Prop := ∀ x ∈ s, i64 x
theorem Rng.getD {s : List Int} (h : Rng s) (j : Nat) : i64 (s.getD j 0) := by
  rcases Nat.lt_or_ge j s.length with hj | hj
  · rw [List.getD_eq_getElem?_getD, List.getElem?_eq_getElem hj]
    exact h _ (List.getElem_mem hj)
  · rw [List.getD_eq_getElem?_getD, List.getElem?_eq_none hj]
    exact ⟨by simp, by simp⟩
def onN (x i : Nat) (on : Bool) : Nat := if on then orN (clrN x i) i else clrN x i
def setB (l : List Int) (i : Int) (on : Bool) : List Int := if 0 ≤ i ∧ i / 8 < l.length then l.set (i.toNat / 8) ((onN (byteN l (i.toNat / 8)) (i.toNat % 8) on : Nat) : Int) else l
theorem onN_lt {x i : Nat} (hx : x < 256) (hi : i < 8) (on : Bool) : onN x i on < 256 := by
  have h := n_clr_lt ⟨x, hx⟩ ⟨i, hi⟩
  unfold onN
  split
  · exact n_or_lt ⟨_, h⟩ ⟨i, hi⟩
  · exact h
theorem setB_length (l : List Int) (i : Int) (on : Bool) : (setB l i on).length = l.length := by
  unfold setB
  split <;> simp
theorem setB_Byt {l : List Int} (hB : Byt l) (i : Int) (on : Bool) : Byt (setB l i on) := by
  unfold setB
  split
  · refine hB.set _ ?_
    have := onN_lt (hB.lt (i.toNat / 8)) (show i.toNat % 8 < 8 by omega) on
    omega
  · exact hB
theorem set_ev (l : List Int) (hl : l.length ≤ 9000) (hB : Byt l) (i : Int) (hi : i64 i) (on : Bool) : Ev (fun k => mask_set.f k l i on) (setB l i on) := by
  have hi1 := hi.1
  have hi2 := hi.2
  by_cases h0 : i < 0
  · have e : setB l i on = l := by unfold setB; rw [if_neg (by omega)]
    rw [e]
    refine Ev.congr (f := fun k => mask_set.j0 k l i on true) (fun k => by unfold mask_set.f; rw [if_pos h0]) ?_
    refine Ev.step (f := fun _ => some l) (fun k => ?_) (Ev.now _)
    simp [mask_set.j0]
  · obtain ⟨n, rfl⟩ := Int.eq_ofNat_of_zero_le (by omega : 0 ≤ i)
    have ed : wrap64 (Int.tdiv (n : Int) 8) = ((n / 8 : Nat) : Int) := by
      rw [Int.tdiv_eq_ediv_of_nonneg (by omega)]
      unfold wrap64
      omega
    have em : Int.tmod (n : Int) 8 = ((n % 8 : Nat) : Int) := by
      rw [Int.tmod_eq_emod_of_nonneg (by omega)]
      omega
    refine Ev.congr (f := fun k => mask_set.j0 k l n on (decide (((n / 8 : Nat) : Int) ≥ (l.length : Int)))) (fun k => by unfold mask_set.f; rw [if_neg h0, ed]) ?_
    by_cases h1 : n / 8 < l.length
    · have e : setB l (n : Int) on = l.set (n / 8) ((onN (byteN l (n / 8)) (n % 8) on : Nat) : Int) := by
        unfold setB
        rw [if_pos (by omega), Int.toNat_natCast]
      rw [e]
      have hd : decide (((n / 8 : Nat) : Int) ≥ (l.length : Int)) = false := decide_eq_false (by omega)
      rw [hd]
      refine Ev.step (f := fun _ => some (l.set (n / 8) ((onN (byteN l (n / 8)) (n % 8) on : Nat) : Int))) (fun k => ?_) (Ev.now _)
      simp only [mask_set.j0]
      rw [if_neg (by simp), ed, em, if_pos (by omega), if_pos (by omega), if_pos (by omega)]
      have hc := hB.cast (n / 8)
      have e1 := b_clr ⟨byteN l (n / 8), hB.lt _⟩ ⟨n % 8, by omega⟩
      have e2 := b_or ⟨clrN (byteN l (n / 8)) (n % 8), n_clr_lt ⟨_, hB.lt _⟩ ⟨n % 8, by omega⟩⟩ ⟨n % 8, by omega⟩
      simp only at e1 e2
      simp only [Option.bind_some]
      unfold rd
      rw [Int.toNat_natCast, ← hc, e1]
      cases on with
      | true =>
        rw [if_pos rfl]
        have eg : (l.set (n / 8) ((clrN (byteN l (n / 8)) (n % 8) : Nat) : Int)).getD (n / 8) 0 = ((clrN (byteN l (n / 8)) (n % 8) : Nat) : Int) := by
          rw [List.getD_eq_getElem?_getD, List.getElem?_set]
          simp [h1]
        rw [eg, e2, List.set_set]
        simp [onN]
      | false =>
        rw [if_neg (by simp)]
        simp [onN]
    · have e : setB l (n : Int) on = l := by unfold setB; rw [if_neg (by omega)]
      rw [e]
      have hd : decide (((n / 8 : Nat) : Int) ≥ (l.length : Int)) = true := decide_eq_true (by omega)
      rw [hd]
      refine Ev.step (f := fun _ => some l) (fun k => ?_) (Ev.now _)
      simp [mask_set.j0]
def clearB (l : List Int) (s : List Int) : List Int := s.foldl (fun l i => setB l i false) l
theorem clearB_snoc (l s : List Int) (x : Int) : clearB l (s ++ [x]) = setB (clearB l s) x false := by
  unfold clearB
  rw [List.foldl_append]
  rfl
theorem clearB_length (l s : List Int) : (clearB l s).length = l.length := by
  induction s generalizing l with
  | nil => rfl
  | cons x s ih => exact (ih _).trans (setB_length _ _ _)
theorem clearB_Byt {l : List Int} (hB : Byt l) (s : List Int) : Byt (clearB l s) := by
  induction s generalizing l with
  | nil => exact hB
  | cons x s ih => exact ih (setB_Byt hB _ _)
theorem take_snoc_getD (s : List Int) (j : Nat) (hj : j < s.length) : s.take (j + 1) = s.take j ++ [s.getD j 0] := by
  rw [List.take_succ_eq_append_getElem hj, List.getD_eq_getElem?_getD, List.getElem?_eq_getElem hj]
  rfl
theorem rd_nat (s : List Int) (j : Nat) : rd s (j : Int) = s.getD j 0 := by unfold rd; rw [Int.toNat_natCast]
theorem clear_from (l s : List Int) (hl : l.length ≤ 9000) (hB : Byt l) (hs : s.length ≤ 9000) (hR : Rng s) (d : Nat) : ∀ j : Nat, j + d = s.length →
    Ev (fun k => mask_Clear.l0 k (clearB l (s.take j)) s (s.length : Int) (j : Int)) (clearB l s) := by
  induction d with
  | zero =>
    intro j hj
    refine Ev.step (f := fun _ => some (clearB l s)) (fun k => ?_) (Ev.now _)
    simp only [mask_Clear.l0]
    rw [if_neg (by omega), List.take_of_length_le (by omega)]
  | succ d ih =>
    intro j hj
    refine Ev.step (f := fun k => (mask_set.f k (clearB l (s.take j)) (s.getD j 0) false).bind fun t => mask_Clear.l0 k t s (s.length : Int) ((j + 1 : Nat) : Int)) (fun k => ?_) ?_
    · simp only [mask_Clear.l0]
      rw [if_pos (by omega), if_pos (by omega), if_pos (by omega), rd_nat, show wrap64 ((j : Int) + 1) = ((j + 1 : Nat) : Int) by unfold wrap64; omega]
    · refine Ev.bind (set_ev _ (by rw [clearB_length]; exact hl) (clearB_Byt hB _) _ (hR.getD j) false) ?_
      have h := ih (j + 1) (by omega)
      rw [take_snoc_getD s j (by omega), clearB_snoc] at h
      exact h
theorem CloneB_eq (l : List Int) (hl : l.length ≤ 9000) : CloneB.f l = some l := by
  unfold CloneB.f
  rw [if_pos (by omega)]
theorem Clear_ev (l s : List Int) (hl : l.length ≤ 9000) (hB : Byt l) (hs : s.length ≤ 9000) (hR : Rng s) : Ev (fun k => mask_Clear.f k l s) (clearB l s) := by
  refine Ev.congr (f := fun k => mask_Clear.l0 k l s (s.length : Int) 0) (fun k => by unfold mask_Clear.f; rw [CloneB_eq l hl]; rfl) ?_
  exact clear_from l s hl hB hs hR s.length 0 (by omega)
/-- Bit i of a number, as Put takes it. -/
def nbit (n : Int) (i : Nat) : Bool := decide (i < 63) && (Go.bits .and .i64 (shr .i64 n (i : Int)) 1 == 1)
def putFrom (l : List Int) (n : Int) : Nat → List Int → List Int
  | _, [] => l
  | i, b :: s => putFrom (setB l b (nbit n i)) n (i + 1) s
def putB (l s : List Int) (n : Int) : List Int := putFrom l n 0 s
theorem putFrom_length (n : Int) (s : List Int) : ∀ (l : List Int) (i : Nat), (putFrom l n i s).length = l.length := by
  induction s with
  | nil => intro l i; rfl
  | cons b s ih => intro l i; exact (ih _ _).trans (setB_length _ _ _)
theorem putFrom_Byt (n : Int) (s : List Int) : ∀ {l : List Int} (_ : Byt l) (i : Nat), Byt (putFrom l n i s) := by
  induction s with
  | nil => intro l h i; exact h
  | cons b s ih => intro l h i; exact ih (setB_Byt h _ _) _
theorem putB_length (l s : List Int) (n : Int) : (putB l s n).length = l.length := putFrom_length n s l 0
theorem putB_Byt {l : List Int} (hB : Byt l) (s : List Int) (n : Int) : Byt (putB l s n) := putFrom_Byt n s hB 0
/-- The list that Put has made when the first j bits are done. -/
def putTo (l s : List Int) (n : Int) (j : Nat) : List Int := putB l (s.take j) n
theorem putFrom_snoc (n : Int) (x : Int) (s : List Int) : ∀ (l : List Int) (i : Nat), putFrom l n i (s ++ [x]) = setB (putFrom l n i s) x (nbit n (i + s.length)) := by
  induction s with
  | nil => intro l i; rfl
  | cons b s ih =>
    intro l i
    show putFrom (setB l b (nbit n i)) n (i + 1) (s ++ [x]) = _
    rw [ih]
    simp only [putFrom, List.length_cons]
    congr 2
    omega
theorem putTo_succ (l s : List Int) (n : Int) (j : Nat) (hj : j < s.length) : putTo l s n (j + 1) = setB (putTo l s n j) (s.getD j 0) (nbit n j) := by
  unfold putTo putB
  rw [take_snoc_getD s j hj, putFrom_snoc, List.length_take]
  congr 2
  omega
theorem put_from (l s : List Int) (n : Int) (hl : l.length ≤ 9000) (hB : Byt l) (hs : s.length ≤ 9000) (hR : Rng s) (d : Nat) : ∀ j : Nat, j + d = s.length →
    Ev (fun k => mask_Put.l0 k n (putTo l s n j) s (s.length : Int) (j : Int)) (putB l s n) := by
  induction d with
  | zero =>
    intro j hj
    refine Ev.step (f := fun _ => some (putB l s n)) (fun k => ?_) (Ev.now _)
    simp only [mask_Put.l0]
    rw [if_neg (by omega)]
    unfold putTo
    rw [List.take_of_length_le (by omega)]
  | succ d ih =>
    intro j hj
    refine Ev.step (f := fun k => (mask_set.f k (putTo l s n j) (s.getD j 0) (nbit n j)).bind fun t => mask_Put.l0 k n t s (s.length : Int) ((j + 1 : Nat) : Int)) (fun k => ?_) ?_
    · simp only [mask_Put.l0]
      rw [if_pos (by omega), if_pos (by omega), if_pos (by omega), rd_nat, show wrap64 ((j : Int) + 1) = ((j + 1 : Nat) : Int) by unfold wrap64; omega]
      by_cases h : j < 63
      · rw [if_pos (by omega)]
        simp [nbit, h]
      · rw [if_neg (by omega)]
        simp [nbit, h]
    · refine Ev.bind (set_ev _ (by show (putB _ _ _).length ≤ 9000; rw [putB_length]; exact hl) (putB_Byt hB _ _) _ (hR.getD j) _) ?_
      have h := ih (j + 1) (by omega)
      rw [putTo_succ l s n j (by omega)] at h
      exact h
theorem Put_ev (l s : List Int) (n : Int) (hl : l.length ≤ 9000) (hB : Byt l) (hs : s.length ≤ 9000) (hR : Rng s) : Ev (fun k => mask_Put.f k l s n) (putB l s n) := by
  refine Ev.congr (f := fun k => mask_Put.l0 k n l s (s.length : Int) 0) (fun k => by unfold mask_Put.f; rw [CloneB_eq l hl]; rfl) ?_
  exact put_from l s n hl hB hs hR s.length 0 (by omega)
/-- The number whose bit i, for i below j, is the i-th of the bits. -/
def accTo (l s : List Int) : Nat → Nat
  | 0 => 0
  | j + 1 => accTo l s j + if getB l (s.getD j 0) then 2 ^ j else 0
theorem accTo_lt (l s : List Int) : ∀ j, accTo l s j < 2 ^ j
  | 0 => by simp [accTo]
  | j + 1 => by
    have := accTo_lt l s j
    simp only [accTo]
    rw [Nat.pow_succ]
    split <;> omega
theorem accTo_congr (l l' s s' : List Int) (j : Nat) (h : ∀ i, i < j → getB l (s.getD i 0) = getB l' (s'.getD i 0)) : accTo l s j = accTo l' s' j := by
  induction j with
  | zero => rfl
  | succ j ih =>
    simp only [accTo]
    rw [ih (fun i hi => h i (by omega)), h j (by omega)]
def getV (l s : List Int) : Nat := accTo l s (min s.length 62)
theorem or_step (x j : Nat) (hx : x < 2 ^ j) (hj : j < 62) : Go.bits .or .i64 (x : Int) (shl .i64 1 (j : Int)) = ((x + 2 ^ j : Nat) : Int) := by
  have hp : 2 ^ j < 2 ^ 62 := Nat.pow_lt_pow_right (by omega) hj
  have hp2 : (2 : Nat) ^ 62 = 4611686018427387904 := by decide
  have hk : ∀ n : Int, 0 ≤ n → n < 2 ^ 62 → IntKind.i64.wrap n = n := by
    intro n h0 h1
    rw [IntKind.wrap_i64]
    have : (2 : Int) ^ 62 = 4611686018427387904 := by decide
    omega
  have es : shl .i64 1 (j : Int) = ((2 ^ j : Nat) : Int) := by
    unfold shl
    rw [Int.toNat_natCast, Nat.min_eq_left (by simp [IntKind.bits]; omega), Int.one_mul]
    rw [show ((2 : Int) ^ j) = ((2 ^ j : Nat) : Int) by simp]
    apply hk
    · omega
    · exact_mod_cast hp
  rw [es, (Go.bits_nat .i64 62 (by simp [IntKind.bits]) hk x (2 ^ j) (by omega) hp).2]
  congr 1
  have := Nat.two_pow_add_eq_or_of_lt hx 1
  rw [Nat.mul_one] at this
  rw [Nat.or_comm, ← this, Nat.add_comm]
theorem get_from (l s : List Int) (hl : l.length ≤ 9000) (hB : Byt l) (hs : s.length ≤ 62) (hR : Rng s) (d : Nat) : ∀ j : Nat, j + d = s.length →
    Ev (fun k => mask_Get.l0 k l ((accTo l s j : Nat) : Int) s (s.length : Int) (j : Int)) ((accTo l s s.length : Nat) : Int) := by
  induction d with
  | zero =>
    intro j hj
    refine Ev.step (f := fun _ => some ((accTo l s s.length : Nat) : Int)) (fun k => ?_) (Ev.now _)
    simp only [mask_Get.l0]
    rw [if_neg (by omega), show j = s.length by omega]
  | succ d ih =>
    intro j hj
    refine Ev.step (f := fun k => mask_Get.l0 k l ((accTo l s (j + 1) : Nat) : Int) s (s.length : Int) ((j + 1 : Nat) : Int)) (fun k => ?_) (ih (j + 1) (by omega))
    simp only [mask_Get.l0]
    rw [if_pos (by omega), if_pos (by omega), if_pos (by omega), rd_nat, show wrap64 ((j : Int) + 1) = ((j + 1 : Nat) : Int) by unfold wrap64; omega, get_eq l hl hB _ (hR.getD j).2]
    simp only [Option.bind_some, accTo]
    by_cases h : getB l (s.getD j 0) = true
    · rw [if_pos h, if_pos h, or_step _ _ (accTo_lt l s j) (by omega)]
    · rw [if_neg h, if_neg h]
      rfl
theorem getD_take (s : List Int) (n i : Nat) (h : i < n) : (s.take n).getD i 0 = s.getD i 0 := by
  rw [List.getD_eq_getElem?_getD, List.getD_eq_getElem?_getD, List.getElem?_take, if_pos h]
theorem Get_ev (l s : List Int) (hl : l.length ≤ 9000) (hB : Byt l) (hs : s.length ≤ 9000) (hR : Rng s) : Ev (fun k => mask_Get.f k l s) ((getV l s : Nat) : Int) := by
  have em : mn (s.length : Int) 62 = ((min s.length 62 : Nat) : Int) := by unfold mn; split <;> omega
  have hlen : (s.take (min s.length 62)).length = min s.length 62 := by rw [List.length_take]; omega
  have h := get_from l (s.take (min s.length 62)) hl hB (by rw [hlen]; omega) (fun x hx => hR x (List.mem_of_mem_take hx)) _ 0 (Nat.zero_add _)
  have e : accTo l (s.take (min s.length 62)) (s.take (min s.length 62)).length = getV l s := by
    rw [hlen]
    unfold getV
    exact accTo_congr _ _ _ _ _ (fun i hi => by rw [getD_take _ _ _ hi])
  rw [e] at h
  refine Ev.congr (f := fun k => mask_Get.l0 k l 0 (s.take (min s.length 62)) ((s.take (min s.length 62)).length : Int) 0) (fun k => ?_) h
  unfold mask_Get.f
  rw [em, if_pos (by omega), if_pos (by omega), Int.toNat_natCast]
def andB (a b : List Int) : List Int := List.zipWith (fun x y => ((x.toNat &&& y.toNat : Nat) : Int)) a b
theorem andB_length (a b : List Int) : (andB a b).length = min a.length b.length := by simp [andB]
theorem andB_Byt {a : List Int} (hA : Byt a) (b : List Int) : Byt (andB a b) := by
  intro x hx
  obtain ⟨i, hi⟩ := List.mem_iff_getElem?.1 hx
  unfold andB at hi
  rw [List.getElem?_zipWith] at hi
  cases ha : a[i]? with
  | none => rw [ha] at hi; simp at hi
  | some y =>
    cases hb : b[i]? with
    | none => rw [ha, hb] at hi; simp at hi
    | some z =>
      rw [ha, hb] at hi
      simp only [Option.some.injEq] at hi
      have := hA y (List.mem_iff_getElem?.2 ⟨i, ha⟩)
      have h2 : y.toNat &&& z.toNat ≤ y.toNat := Nat.and_le_left
      omega
theorem byteN_andB {a b : List Int} (j : Nat) : byteN (andB a b) j = byteN a j &&& byteN b j := by
  unfold byteN andB
  rw [List.getD_eq_getElem?_getD, List.getElem?_zipWith, List.getD_eq_getElem?_getD, List.getD_eq_getElem?_getD]
  cases a[j]? <;> cases b[j]? <;> simp
theorem and_step {a b : List Int} (hA : Byt a) (hB : Byt b) (j : Nat) : Go.bits .and .u8 (a.getD j 0) (b.getD j 0) = ((byteN a j &&& byteN b j : Nat) : Int) := by
  have hk : ∀ n : Int, 0 ≤ n → n < 2 ^ 8 → IntKind.u8.wrap n = n := Go.wraps_u8
  rw [← hA.cast j, ← hB.cast j]
  exact (Go.bits_nat .u8 8 (by simp [IntKind.bits]) hk _ _ (hA.lt j) (hB.lt j)).1
/-- And's list, when its first j bytes are done. -/
def andTo (a b : List Int) (j : Nat) : List Int := (andB a b).take j ++ (a.take (min a.length b.length)).drop j
theorem andTo_length (a b : List Int) (j : Nat) (hj : j ≤ min a.length b.length) : (andTo a b j).length = min a.length b.length := by
  unfold andTo
  rw [List.length_append, List.length_take, List.length_drop, List.length_take, andB_length]
  omega
theorem andTo_getD (a b : List Int) (j : Nat) (hj : j < min a.length b.length) : (andTo a b j).getD j 0 = a.getD j 0 := by
  unfold andTo
  rw [List.getD_eq_getElem?_getD, List.getElem?_append, List.length_take, andB_length, if_neg (by omega), List.getElem?_drop, List.getElem?_take, List.getD_eq_getElem?_getD, if_pos (by omega)]
  congr 2
  omega
theorem andTo_succ (a b : List Int) (j : Nat) (hj : j < min a.length b.length) : (andTo a b j).set j ((byteN a j &&& byteN b j : Nat) : Int) = andTo a b (j + 1) := by
  apply List.ext_getElem?
  intro i
  have hl := andTo_length a b j (by omega)
  rw [List.getElem?_set]
  by_cases h : j = i
  · subst h
    rw [if_pos rfl, hl, if_pos hj]
    unfold andTo
    rw [List.getElem?_append, List.length_take, andB_length, if_pos (by omega), List.getElem?_take, if_pos (by omega)]
    have e := byteN_andB (a := a) (b := b) j
    have hlt : j < (andB a b).length := by rw [andB_length]; omega
    have ha : j < a.length := by omega
    have hb : j < b.length := by omega
    unfold andB
    rw [List.getElem?_zipWith, List.getElem?_eq_getElem ha, List.getElem?_eq_getElem hb]
    simp [byteN, List.getD_eq_getElem?_getD, List.getElem?_eq_getElem ha, List.getElem?_eq_getElem hb]
  · rw [if_neg h]
    unfold andTo
    rw [List.getElem?_append, List.getElem?_append, List.length_take, List.length_take, andB_length]
    by_cases h1 : i < j
    · rw [if_pos (by omega), if_pos (by omega), List.getElem?_take, List.getElem?_take, if_pos h1, if_pos (by omega)]
    · rw [if_neg (by omega), if_neg (by omega), List.getElem?_drop, List.getElem?_drop]
      congr 1
      omega
theorem and_from (a b : List Int) (hl : a.length ≤ 9000) (hA : Byt a) (hB : Byt b) (d : Nat) : ∀ j : Nat, j + d = min a.length b.length →
    Ev (fun k => mask_And.l0 k b (andTo a b j) ((min a.length b.length : Nat) : Int) (j : Int)) (andB a b) := by
  induction d with
  | zero =>
    intro j hj
    refine Ev.step (f := fun _ => some (andB a b)) (fun k => ?_) (Ev.now _)
    simp only [mask_And.l0]
    rw [if_neg (by omega)]
    unfold andTo
    rw [List.take_of_length_le (by rw [andB_length]; omega), List.drop_of_length_le (by rw [List.length_take]; omega), List.append_nil]
  | succ d ih =>
    intro j hj
    refine Ev.step (f := fun k => mask_And.l0 k b (andTo a b (j + 1)) ((min a.length b.length : Nat) : Int) ((j + 1 : Nat) : Int)) (fun k => ?_) (ih (j + 1) (by omega))
    simp only [mask_And.l0]
    rw [if_pos (by omega), if_pos (by omega), if_pos (by rw [andTo_length _ _ _ (by omega)]; omega), if_pos (by omega), rd_nat, rd_nat, andTo_getD a b j (by omega), and_step hA hB, Int.toNat_natCast, andTo_succ a b j (by omega), show wrap64 ((j : Int) + 1) = ((j + 1 : Nat) : Int) by unfold wrap64; omega]
theorem And_ev (a b : List Int) (hl : a.length ≤ 9000) (hA : Byt a) (hB : Byt b) : Ev (fun k => mask_And.f k a b) (andB a b) := by
  have em : mn (a.length : Int) (b.length : Int) = ((min a.length b.length : Nat) : Int) := by unfold mn; split <;> omega
  have hlen : (a.take (min a.length b.length)).length = min a.length b.length := by rw [List.length_take]; omega
  have h := and_from a b hl hA hB _ 0 (Nat.zero_add _)
  refine Ev.congr (f := fun k => mask_And.l0 k b (a.take (min a.length b.length)) ((min a.length b.length : Nat) : Int) 0) (fun k => ?_) h
  unfold mask_And.f
  rw [em, if_pos (by omega), if_pos (by omega), Int.toNat_natCast, CloneB_eq _ (by rw [hlen]; omega)]
  simp only [Option.bind_some]
  rw [hlen]
theorem Fits_ev (a b : List Int) (hl : a.length ≤ 9000) (hA : Byt a) (hB : Byt b) : Ev (fun k => mask_Fits.f k a b) (decide (a.length = b.length) && decide (cnt (andB a b) = 0)) := by
  by_cases h : a.length = b.length
  · refine Ev.congr (f := fun k => (mask_And.f k a b).bind fun t => (mask_Count.f k t).bind fun c => some (c == 0)) (fun k => by unfold mask_Fits.f; rw [if_pos (by omega)]) ?_
    refine Ev.bind (And_ev a b hl hA hB) ?_
    refine Ev.bind (f := fun _ c => some (c == 0)) (Count_ev _ (by rw [andB_length]; omega) (andB_Byt hA b)) ?_
    have e : (((cnt (andB a b) : Nat) : Int) == 0) = (decide (a.length = b.length) && decide (cnt (andB a b) = 0)) := by
      simp [h]
      by_cases h2 : cnt (andB a b) = 0 <;> simp [h2]
    rw [e]
    exact Ev.now _
  · refine Ev.congr (f := fun _ => some false) (fun k => by unfold mask_Fits.f; rw [if_neg (by omega)]) ?_
    simp only [h, decide_false, Bool.false_and]
    exact Ev.now _
theorem awake_ev : Ev (fun k => law15_awake.f k) true := Ev.of law15_awake.mono (k := 60) (by decide +kernel)
theorem b_bit : ∀ x : Fin 256, ∀ i : Fin 8, Go.bits .and .u8 (shr .u8 (x.val : Int) (i.val : Int)) 1 = if x.val.testBit i.val then 1 else 0 := by decide +kernel
theorem div8 (n : Nat) (h : n < 4611686018427387904) : wrap64 (Int.tdiv (n : Int) 8) = ((n / 8 : Nat) : Int) := by
  rw [Int.tdiv_eq_ediv_of_nonneg (by omega)]
  unfold wrap64
  omega
theorem mod8 (n : Nat) (h : n < 4611686018427387904) : IntKind.u64.wrap (Int.tmod (n : Int) 8) = ((n % 8 : Nat) : Int) := by
  rw [Int.tmod_eq_emod_of_nonneg (by omega), IntKind.wrap_u64]
  omega
theorem at_bit (l : List Int) (hB : Byt l) (n : Nat) : Go.bits .and .u8 (shr .u8 (rd l ((n / 8 : Nat) : Int)) ((n % 8 : Nat) : Int)) 1 = if bit l n then 1 else 0 := by
  have e := b_bit ⟨byteN l (n / 8), hB.lt _⟩ ⟨n % 8, by omega⟩
  simp only at e
  rw [rd_nat, ← hB.cast, e]
  rfl
theorem ints_length (s : List Nat) : (ints s).length = s.length := by simp [ints]
theorem u8_of {x : Int} (h : (Lit.int .u8 x).wf = true) : 0 ≤ x ∧ x < 256 := by
  simp [Lit.wf, IntKind.min, IntKind.max, IntKind.bits, IntKind.signed] at h
  omega
theorem Byt_of {l : List Int} (h : ∀ x ∈ l, (Lit.int .u8 x).wf = true) : Byt l := fun x hx => u8_of (h x hx)
/-- What Extend makes. -/
theorem ext_length (l : List Int) (n : Nat) (hn : n ≤ 1024) : (ext l (n : Int)).length = n := by
  rw [ext_n l n n (by omega)]
  simp only [List.length_append, List.length_take, List.length_replicate]
  omega
theorem ext_Byt {l : List Int} (hB : Byt l) (a : Int) : Byt (ext l a) := (hB.take _).append (Byt.replicate _ (by omega))
theorem rset_eq (l : List Int) (hl : l.length ≤ 9000) (hB : Byt l) (n : Nat) (hn : n < 4611686018427387904) : ref15_set.f l (n : Int) = some (bit l n) := by
  unfold ref15_set.f
  rw [if_pos (by omega), div8 n hn, mod8 n hn]
  by_cases h : n / 8 < l.length
  · rw [if_pos (by omega), if_pos (by omega), if_pos (by omega), at_bit l hB]
    cases bit l n <;> rfl
  · rw [if_neg (by omega), bit_high l n (by omega)]
theorem rcount_from (l : List Int) (hl : l.length ≤ 9000) (hB : Byt l) (d : Nat) : ∀ i : Nat, i + d = 8 * l.length → Ev (fun k => ref15_Count.l0 k l ((cntTo l i : Nat) : Int) (i : Int)) ((cnt l : Nat) : Int) := by
  induction d with
  | zero =>
    intro i hi
    refine Ev.step (f := fun _ => some ((cnt l : Nat) : Int)) (fun k => ?_) (Ev.now _)
    simp only [ref15_Count.l0]
    rw [if_neg (by unfold wrap64; omega)]
    unfold cnt
    rw [show i = 8 * l.length by omega]
  | succ d ih =>
    intro i hi
    have hle := cntTo_le l i
    have hs := cntTo_succ l i
    refine Ev.step (f := fun k => ref15_Count.l0 k l ((cntTo l (i + 1) : Nat) : Int) ((i + 1 : Nat) : Int)) (fun k => ?_) (ih (i + 1) (by omega))
    simp only [ref15_Count.l0]
    rw [if_pos (by unfold wrap64; omega), rset_eq l hl hB i (by omega)]
    simp only [Option.bind_some]
    rw [show wrap64 ((i : Int) + 1) = ((i + 1 : Nat) : Int) by unfold wrap64; omega]
    cases hb : bit l i with
    | true =>
      rw [hb] at hs
      simp only [if_true] at hs
      rw [if_pos rfl, hs, show wrap64 (((cntTo l i : Nat) : Int) + 1) = ((cntTo l i + 1 : Nat) : Int) by unfold wrap64; omega]
    | false =>
      rw [hb] at hs
      rw [if_neg (by simp), hs]
      simp
theorem rCount_ev (l : List Int) (hl : l.length ≤ 9000) (hB : Byt l) : Ev (fun k => ref15_Count.f k l) ((cnt l : Nat) : Int) :=
  rcount_from l hl hB (8 * l.length) 0 (by omega)
theorem rset_get (l : List Int) (hl : l.length ≤ 9000) (hB : Byt l) (i : Int) (hi : i64 i) : ref15_set.f l i = some (getB l i) := by
  by_cases h : 0 ≤ i
  · have e1 : IntKind.u64.wrap (Int.tmod i 8) = Int.tmod i 8 := by
      rw [Int.tmod_eq_emod_of_nonneg h, IntKind.wrap_u64]
      omega
    rw [← get_eq l hl hB i hi.2]
    unfold ref15_set.f mask_get.f
    rw [e1]
  · unfold ref15_set.f getB
    rw [if_neg (by omega), decide_eq_false h]
    rfl
theorem rchange_eq (k : Nat) (l : List Int) (i : Int) (on : Bool) : ref15_change.f k l i on = mask_set.f k l i on := by
  unfold ref15_change.f mask_set.f
  cases k with
  | zero => simp [ref15_change.j0, mask_set.j0]
  | succ k =>
    by_cases h : i < 0
    · rw [if_neg (by omega), if_pos h]
      simp [ref15_change.j0, mask_set.j0]
    · have e1 : IntKind.u64.wrap (Int.tmod i 8) = Int.tmod i 8 := by
        rw [Int.tmod_eq_emod_of_nonneg (by omega), IntKind.wrap_u64]
        omega
      rw [if_pos (by omega), if_neg h]
      simp only [ref15_change.j0, mask_set.j0, e1]
      by_cases h1 : wrap64 (Int.tdiv i 8) < (l.length : Int)
      · rw [show decide (wrap64 (Int.tdiv i 8) < (l.length : Int)) = true from decide_eq_true h1, show decide (wrap64 (Int.tdiv i 8) ≥ (l.length : Int)) = false from decide_eq_false (by omega)]
        simp only [if_true, Bool.false_eq_true, if_false]
      · rw [show decide (wrap64 (Int.tdiv i 8) < (l.length : Int)) = false from decide_eq_false h1, show decide (wrap64 (Int.tdiv i 8) ≥ (l.length : Int)) = true from decide_eq_true (by omega)]
        simp only [if_true, Bool.false_eq_true, if_false]
theorem rclear_l0 (s : List Int) (n : Int) : ∀ (k : Nat) (x : List Int) (i : Int), ref15_Clear.l0 k x s n i = mask_Clear.l0 k x s n i
  | 0, _, _ => rfl
  | k + 1, x, i => by simp only [ref15_Clear.l0, mask_Clear.l0, rchange_eq, rclear_l0 s n k]
theorem rClear_ev (l s : List Int) (hl : l.length ≤ 9000) (hB : Byt l) (hs : s.length ≤ 9000) (hR : Rng s) : Ev (fun k => ref15_Clear.f k l s) (clearB l s) := by
  refine Ev.congr (fun k => ?_) (Clear_ev l s hl hB hs hR)
  unfold ref15_Clear.f mask_Clear.f
  rw [CloneB_eq l hl, if_pos (by rw [List.length_nil]; omega), List.nil_append, rclear_l0]
  rfl
theorem rput_l0 (n : Int) (s : List Int) (m : Int) : ∀ (k : Nat) (x : List Int) (i : Int), -9223372036854775808 ≤ i → ref15_Put.l0 k n x s m i = mask_Put.l0 k n x s m i
  | 0, _, _, _ => rfl
  | k + 1, x, i, hi => by
    have hw : ∀ y, ref15_Put.l0 k n y s m (wrap64 (i + 1)) = mask_Put.l0 k n y s m (wrap64 (i + 1)) := fun y => rput_l0 n s m k y _ (by unfold wrap64; omega)
    simp only [ref15_Put.l0, mask_Put.l0, rchange_eq, hw]
    by_cases h0 : i < m
    · rw [if_pos h0, if_pos h0]
      by_cases h1 : 0 ≤ i
      · rw [if_pos h1, if_pos h1]
        by_cases h2 : i < (s.length : Int)
        · rw [if_pos h2, if_pos h2]
          by_cases h3 : i < 63
          · have e1 : IntKind.u64.wrap i = i := by rw [IntKind.wrap_u64]; omega
            rw [if_pos h3, if_pos h3, e1, if_pos h1]
          · rw [if_neg h3, if_neg h3]
        · rw [if_neg h2, if_neg h2]
      · rw [if_neg h1, if_neg h1]
    · rw [if_neg h0, if_neg h0]
theorem rPut_ev (l s : List Int) (n : Int) (hl : l.length ≤ 9000) (hB : Byt l) (hs : s.length ≤ 9000) (hR : Rng s) : Ev (fun k => ref15_Put.f k l s n) (putB l s n) := by
  refine Ev.congr (fun k => ?_) (Put_ev l s n hl hB hs hR)
  unfold ref15_Put.f mask_Put.f
  rw [CloneB_eq l hl, if_pos (by rw [List.length_nil]; omega), List.nil_append, rput_l0 _ _ _ _ _ _ (by omega)]
  rfl
theorem rget_from (l s : List Int) (hl : l.length ≤ 9000) (hB : Byt l) (hs : s.length ≤ 9000) (hR : Rng s) (d : Nat) : ∀ j : Nat, j + d = s.length →
    Ev (fun k => ref15_Get.l0 k l ((accTo l s (min j 62) : Nat) : Int) s (s.length : Int) (j : Int)) ((getV l s : Nat) : Int) := by
  induction d with
  | zero =>
    intro j hj
    refine Ev.step (f := fun _ => some ((getV l s : Nat) : Int)) (fun k => ?_) (Ev.now _)
    simp only [ref15_Get.l0]
    rw [if_neg (by omega), show j = s.length by omega]
    rfl
  | succ d ih =>
    intro j hj
    have h9 := ih (j + 1) (by omega)
    have hw : wrap64 ((j : Int) + 1) = ((j + 1 : Nat) : Int) := by unfold wrap64; omega
    by_cases h6 : j < 62
    · rw [show min (j + 1) 62 = j + 1 by omega] at h9
      rw [show min j 62 = j by omega]
      refine Ev.step (f := fun k => ref15_Get.l0 k l ((accTo l s (j + 1) : Nat) : Int) s (s.length : Int) ((j + 1 : Nat) : Int)) (fun k => ?_) h9
      simp only [ref15_Get.l0]
      have e1 : IntKind.u64.wrap (j : Int) = (j : Int) := by rw [IntKind.wrap_u64]; omega
      rw [if_pos (by omega), if_pos (by omega), if_pos (by omega), if_pos (by omega), rd_nat, hw, rset_get l hl hB _ (hR.getD j), e1]
      simp only [Option.bind_some, accTo]
      by_cases h : getB l (s.getD j 0) = true
      · rw [if_pos h, if_pos h, if_pos (by omega), or_step _ _ (accTo_lt l s j) (by omega)]
      · rw [if_neg h, if_neg h]
        rfl
    · rw [show min (j + 1) 62 = 62 by omega] at h9
      rw [show min j 62 = 62 by omega]
      refine Ev.step (f := fun k => ref15_Get.l0 k l ((accTo l s 62 : Nat) : Int) s (s.length : Int) ((j + 1 : Nat) : Int)) (fun k => ?_) h9
      simp only [ref15_Get.l0]
      rw [if_pos (by omega), if_pos (by omega), if_pos (by omega), if_neg (by omega), hw]
theorem rGet_ev (l s : List Int) (hl : l.length ≤ 9000) (hB : Byt l) (hs : s.length ≤ 9000) (hR : Rng s) : Ev (fun k => ref15_Get.f k l s) ((getV l s : Nat) : Int) :=
  rget_from l s hl hB hs hR s.length 0 (by omega)
theorem rbits_l0 (l : List Int) (hl : l.length ≤ 9000) (hB : Byt l) (n : Int) : ∀ (k : Nat) (x : List Int) (i : Int), i64 i → ref15_Bits.l0 k l n x i = mask_Bits.l0 k l n x i
  | 0, _, _, _ => rfl
  | k + 1, x, i, hi => by
    have hw : ∀ y, ref15_Bits.l0 k l n y (wrap64 (i + 1)) = mask_Bits.l0 k l n y (wrap64 (i + 1)) := fun y => rbits_l0 l hl hB n k y _ (by unfold i64 wrap64; omega)
    simp only [ref15_Bits.l0, mask_Bits.l0, rset_get l hl hB i hi, get_eq l hl hB i hi.2, hw]
theorem rbits_j0 (l : List Int) (hl : l.length ≤ 9000) (hB : Byt l) (n : Int) (b : Bool) : ∀ (k : Nat), ref15_Bits.j0 k l n b = mask_Bits.j0 k l n b
  | 0 => rfl
  | k + 1 => by simp only [ref15_Bits.j0, mask_Bits.j0, rbits_l0 l hl hB n k _ 0 (by unfold i64; omega)]
theorem rBits_ev (l : List Int) (hl : l.length ≤ 9000) (hB : Byt l) (k0 : Int) : Ev (fun k => ref15_Bits.f k l k0) (bitsOf l k0) := by
  obtain ⟨K1, h1⟩ := Bits_ev l hl hB k0
  obtain ⟨K2, h2⟩ := rCount_ev l hl hB
  obtain ⟨K3, h3⟩ := Count_ev l hl hB
  refine ⟨K1 + K2 + K3, fun k hk => ?_⟩
  have e : mask_Bits.f k l k0 = some (bitsOf l k0) := h1 k (by omega)
  have e2 : ref15_Count.f k l = some ((cnt l : Nat) : Int) := h2 k (by omega)
  have e3 : mask_Count.f k l = some ((cnt l : Nat) : Int) := h3 k (by omega)
  simp only [mask_Bits.f, ref15_Bits.f] at e ⊢
  rw [e3] at e
  rw [e2]
  simp only [Option.bind_some, rbits_j0 l hl hB] at e ⊢
  exact e
theorem getD_ext (l : List Int) (n i : Nat) (hn : n ≤ 1024) (hi : i < n) : (ext l (n : Int)).getD i 0 = if i < l.length then l.getD i 0 else 255 := by
  rw [ext_n l n n (by omega), List.getD_eq_getElem?_getD, List.getElem?_append, List.length_take]
  by_cases h : i < l.length
  · rw [if_pos h, if_pos (by omega), List.getElem?_take, if_pos hi, List.getD_eq_getElem?_getD]
  · rw [if_neg h, if_neg (by omega), List.getElem?_replicate, if_pos (by omega)]
    rfl
theorem rext_from (l : List Int) (a : Int) (n : Nat) (hn : n ≤ 1024) (hm : mn a 1024 = (n : Int) ∨ mn a 1024 < 0 ∧ n = 0) (hx : (ext l a).length = n) (hg : ∀ i, i < n → (ext l a).getD i 0 = if i < l.length then l.getD i 0 else 255) (d : Nat) : ∀ j : Nat, j + d = n →
    Ev (fun k => ref15_Extend.l0 k l a ((ext l a).take j) (j : Int)) (ext l a) := by
  induction d with
  | zero =>
    intro j hj
    refine Ev.step (f := fun _ => some (ext l a)) (fun k => ?_) (Ev.now _)
    simp only [ref15_Extend.l0]
    rw [if_neg (by omega), List.take_of_length_le (by omega)]
  | succ d ih =>
    intro j hj
    refine Ev.step (f := fun k => ref15_Extend.l0 k l a ((ext l a).take (j + 1)) ((j + 1 : Nat) : Int)) (fun k => ?_) (ih (j + 1) (by omega))
    simp only [ref15_Extend.l0]
    have hl : ((ext l a).take j).length < 140737488355328 := by rw [List.length_take]; omega
    rw [if_pos (by omega), if_pos hl, if_pos hl, take_snoc_getD _ j (by omega), hg j (by omega), show wrap64 ((j : Int) + 1) = ((j + 1 : Nat) : Int) by unfold wrap64; omega, rd_nat]
    by_cases h : j < l.length
    · rw [if_pos (by omega), if_pos (by omega), if_pos h]
    · rw [if_neg (by omega), if_neg h]
theorem rExtend_ev (l : List Int) (a : Int) : Ev (fun k => ref15_Extend.f k l a) (ext l a) := by
  obtain ⟨n, hn⟩ : ∃ n : Nat, (n : Int) = min (max a 0) 1024 := ⟨(min (max a 0) 1024).toNat, by omega⟩
  have hn1 : n ≤ 1024 := by omega
  have he : ext l a = ext l (n : Int) := by rw [ext_n l a n hn, ext_n l n n (by omega)]
  have hx : (ext l a).length = n := by rw [he]; exact ext_length l n hn1
  have h := rext_from l a n hn1 (by unfold mn; split <;> omega) hx (fun i hi => by rw [he]; exact getD_ext l n i hn1 hi) n 0 (by omega)
  exact h
theorem rand_from (a b : List Int) (hl : a.length ≤ 9000) (hA : Byt a) (hB : Byt b) (d : Nat) : ∀ j : Nat, j + d = min a.length b.length →
    Ev (fun k => ref15_And.l0 k a b ((andB a b).take j) (j : Int)) (andB a b) := by
  have hlen := andB_length a b
  induction d with
  | zero =>
    intro j hj
    refine Ev.step (f := fun _ => some (andB a b)) (fun k => ?_) (Ev.now _)
    simp only [ref15_And.l0]
    rw [List.take_of_length_le (by omega)]
    by_cases h : (j : Int) < (a.length : Int)
    · rw [if_pos h, if_neg (by omega)]
    · rw [if_neg h]
  | succ d ih =>
    intro j hj
    refine Ev.step (f := fun k => ref15_And.l0 k a b ((andB a b).take (j + 1)) ((j + 1 : Nat) : Int)) (fun k => ?_) (ih (j + 1) (by omega))
    simp only [ref15_And.l0]
    have e : (andB a b).getD j 0 = ((byteN a j &&& byteN b j : Nat) : Int) := by
      rw [← byteN_andB, (andB_Byt hA b).cast]
    rw [if_pos (by omega), if_pos (by omega), if_pos (by omega), if_pos (by rw [List.length_take]; omega), rd_nat, rd_nat, and_step hA hB, show wrap64 ((j : Int) + 1) = ((j + 1 : Nat) : Int) by unfold wrap64; omega, take_snoc_getD _ j (by omega), e]
theorem rAnd_ev (a b : List Int) (hl : a.length ≤ 9000) (hA : Byt a) (hB : Byt b) : Ev (fun k => ref15_And.f k a b) (andB a b) :=
  rand_from a b hl hA hB _ 0 (Nat.zero_add _)
theorem cnt_eq_zero (l : List Int) (hB : Byt l) : cnt l = 0 ↔ ∀ j, j < l.length → byteN l j = 0 := by
  constructor
  · intro h j hj
    refine n_ext (hB.lt j) (by omega) (fun i hi => ?_)
    rw [Nat.zero_testBit]
    unfold cnt cntTo at h
    rw [List.countP_eq_zero] at h
    have h1 := h (8 * j + i) (by rw [List.mem_range]; omega)
    unfold bit at h1
    rw [show (8 * j + i) / 8 = j by omega, show (8 * j + i) % 8 = i by omega] at h1
    simpa using h1
  · intro h
    unfold cnt cntTo
    rw [List.countP_eq_zero]
    intro i hi
    rw [List.mem_range] at hi
    unfold bit
    rw [h (i / 8) (by omega), Nat.zero_testBit]
    simp
theorem rfits_from (a b : List Int) (hl : a.length ≤ 9000) (hA : Byt a) (hB : Byt b) (he : a.length = b.length) (d : Nat) : ∀ j : Nat, j + d = a.length → (∀ i, i < j → byteN (andB a b) i = 0) →
    Ev (fun k => ref15_Fits.l0 k a b (j : Int)) (decide (cnt (andB a b) = 0)) := by
  have hlen := andB_length a b
  have hz := cnt_eq_zero (andB a b) (andB_Byt hA b)
  induction d with
  | zero =>
    intro j hj h
    refine Ev.step (f := fun _ => some (decide (cnt (andB a b) = 0))) (fun k => ?_) (Ev.now _)
    simp only [ref15_Fits.l0]
    rw [if_neg (by omega), decide_eq_true (hz.2 (fun i hi => h i (by omega)))]
  | succ d ih =>
    intro j hj h
    by_cases h0 : byteN (andB a b) j = 0
    · refine Ev.step (f := fun k => ref15_Fits.l0 k a b ((j + 1 : Nat) : Int)) (fun k => ?_) (ih (j + 1) (by omega) (fun i hi => by
        rcases Nat.lt_or_ge i j with h1 | h1
        · exact h i h1
        · rw [show i = j by omega]; exact h0))
      simp only [ref15_Fits.l0]
      rw [if_pos (by omega), if_pos (by omega), if_pos (by omega), rd_nat, rd_nat, and_step hA hB, ← byteN_andB, if_pos (by omega), show wrap64 ((j : Int) + 1) = ((j + 1 : Nat) : Int) by unfold wrap64; omega]
    · refine Ev.step (f := fun _ => some (decide (cnt (andB a b) = 0))) (fun k => ?_) (Ev.now _)
      simp only [ref15_Fits.l0]
      rw [if_pos (by omega), if_pos (by omega), if_pos (by omega), rd_nat, rd_nat, and_step hA hB, ← byteN_andB, if_neg (by omega), decide_eq_false (fun h1 => h0 (hz.1 h1 j (by omega)))]
theorem rFits_ev (a b : List Int) (hl : a.length ≤ 9000) (hA : Byt a) (hB : Byt b) : Ev (fun k => ref15_Fits.f k a b) (decide (a.length = b.length) && decide (cnt (andB a b) = 0)) := by
  by_cases h : a.length = b.length
  · refine Ev.congr (f := fun k => ref15_Fits.l0 k a b 0) (fun k => by unfold ref15_Fits.f; rw [if_pos (by omega)]) ?_
    rw [decide_eq_true h, Bool.true_and]
    exact rfits_from a b hl hA hB h a.length 0 (by omega) (fun i hi => by omega)
  · refine Ev.congr (f := fun _ => some false) (fun k => by unfold ref15_Fits.f; rw [if_neg (by omega)]) ?_
    simp only [h, decide_false, Bool.false_and]
    exact Ev.now _
theorem ints_from (a : List Int) (hl : a.length ≤ 90000) (d : Nat) : ∀ j : Nat, j + d = a.length → Ev (fun k => law15_ints.l0 k a a (a.length : Int) (j : Int)) true := by
  induction d with
  | zero =>
    intro j hj
    refine Ev.step (f := fun _ => some true) (fun k => ?_) (Ev.now _)
    simp only [law15_ints.l0]
    rw [if_neg (by omega)]
  | succ d ih =>
    intro j hj
    refine Ev.step (f := fun k => law15_ints.l0 k a a (a.length : Int) ((j + 1 : Nat) : Int)) (fun k => ?_) (ih (j + 1) (by omega))
    simp only [law15_ints.l0]
    rw [if_pos (by omega), if_pos (by omega), if_pos (by omega), if_pos (by omega), if_pos trivial, show wrap64 ((j : Int) + 1) = ((j + 1 : Nat) : Int) by unfold wrap64; omega]
theorem ints_ev (a : List Int) (hl : a.length ≤ 90000) : Ev (fun k => law15_ints.f k a a) true := by
  refine Ev.congr (f := fun k => law15_ints.l0 k a a (a.length : Int) 0) (fun k => by unfold law15_ints.f; rw [if_pos rfl]) ?_
  exact ints_from a hl a.length 0 (by omega)
theorem valid_eq (a b : Int) (l2 l3 : List Int) (l4 : List S101) (l5 : List S79) (l6 : List Int) (x : Bool) : ref15_Valid.f a b l2 l3 l4 l5 l6 x = mask_Valid.f a b l2 l3 l4 l5 l6 x := rfl
theorem valid_some (a b : Int) (l2 l3 : List Int) (l4 : List S101) (l5 : List S79) (l6 : List Int) (x : Bool) : ∃ r, mask_Valid.f a b l2 l3 l4 l5 l6 x = some r := by
  unfold mask_Valid.f
  repeat' split
  all_goals exact ⟨_, rfl⟩
theorem wf_i64 {x : Int} (h : (Lit.int .i64 x).wf = true) : i64 x := by
  simp [Lit.wf, IntKind.min, IntKind.max, IntKind.bits, IntKind.signed] at h
  exact ⟨by omega, by omega⟩
theorem Rng_of {s : List Int} (h : ∀ x ∈ s, (Lit.int .i64 x).wf = true) : Rng s := fun x hx => wf_i64 (h x hx)
theorem ML_done (l0 l1 : List Int) (h0 : l0.length ≤ 300) (h1 : l1.length ≤ 300) (hA : Byt l0) (hB : Byt l1) (n a : Int) (b : List Int × Bool) (hb : b.1.length ≤ 90000) (y : List (List Int)) (i : Int) (hi : ¬ i < (y.length : Int))
    (x0 x1 : Int) (x2 x3 : List Int) (x4 : List S101) (x5 : List S79) (x6 : List Int) (x7 : Bool) : Ev (fun k => law15_MaskLooks.l1 k l0 l1 n a b.1 b.2 b.1 b.2 y (y.length : Int) i x0 x1 x2 x3 x4 x5 x6 x7) true := by
  have hE := ext_length l1 l0.length (by omega)
  have hEB := ext_Byt hB (l0.length : Int)
  obtain ⟨K1, e1⟩ := rExtend_ev l0 a
  obtain ⟨K2, e2⟩ := And_ev l0 l1 (by omega) hA hB
  obtain ⟨K3, e3⟩ := rAnd_ev l0 l1 (by omega) hA hB
  obtain ⟨K4, e4⟩ := Count_ev l0 (by omega) hA
  obtain ⟨K5, e5⟩ := rCount_ev l0 (by omega) hA
  obtain ⟨K6, e6⟩ := ints_ev b.1 hb
  obtain ⟨K7, e7⟩ := Fits_ev l0 l1 (by omega) hA hB
  obtain ⟨K8, e8⟩ := rFits_ev l0 l1 (by omega) hA hB
  obtain ⟨K9, e9⟩ := Fits_ev l0 (ext l1 (l0.length : Int)) (by omega) hA hEB
  obtain ⟨K10, e10⟩ := rExtend_ev l1 (l0.length : Int)
  obtain ⟨K11, e11⟩ := rFits_ev l0 (ext l1 (l0.length : Int)) (by omega) hA hEB
  obtain ⟨K12, e12⟩ := awake_ev
  refine ⟨K1 + K2 + K3 + K4 + K5 + K6 + K7 + K8 + K9 + K10 + K11 + K12 + 1, fun k hk => ?_⟩
  obtain ⟨m, rfl⟩ : ∃ m, k = m + 1 := ⟨k - 1, by omega⟩
  obtain ⟨r, hr⟩ := valid_some x0 x1 x2 x3 x4 x5 x6 x7
  have E1 := e1 m (by omega)
  have E2 := e2 m (by omega)
  have E3 := e3 m (by omega)
  have E4 := e4 m (by omega)
  have E5 := e5 m (by omega)
  have E6 := e6 m (by omega)
  have E7 := e7 m (by omega)
  have E8 := e8 m (by omega)
  have E9 := e9 m (by omega)
  have E10 := e10 m (by omega)
  have E11 := e11 m (by omega)
  have E12 := e12 m (by omega)
  simp only at E1 E2 E3 E4 E5 E6 E7 E8 E9 E10 E11 E12
  simp only [law15_MaskLooks.l1]
  rw [if_neg hi]
  simp only [valid_eq, hr, Extend.f, E1, E2, E3, E4, E5, E6, E7, E8, E9, E10, E11, E12, Option.bind_some, beq_self_eq_true, if_true]
theorem rd_L5_nat (y : List (List Int)) (j : Nat) : rd_L5 y (j : Int) = y.getD j [] := by unfold rd_L5; first | rfl | simp
theorem ML_loop (l0 l1 : List Int) (h0 : l0.length ≤ 300) (h1 : l1.length ≤ 300) (hA : Byt l0) (hB : Byt l1) (n a : Int) (b : List Int × Bool) (hb : b.1.length ≤ 90000) (y : List (List Int)) (hy : y.length ≤ 9000) (hy2 : ∀ s ∈ y, s.length ≤ 9000 ∧ Rng s)
    (x0 x1 : Int) (x2 x3 : List Int) (x4 : List S101) (x5 : List S79) (x6 : List Int) (x7 : Bool) (d : Nat) : ∀ j : Nat, j + d = y.length → Ev (fun k => law15_MaskLooks.l1 k l0 l1 n a b.1 b.2 b.1 b.2 y (y.length : Int) (j : Int) x0 x1 x2 x3 x4 x5 x6 x7) true := by
  induction d with
  | zero => exact fun j hj => ML_done l0 l1 h0 h1 hA hB n a b hb y j (by omega) x0 x1 x2 x3 x4 x5 x6 x7
  | succ d ih =>
    intro j hj
    have hs : (y.getD j []) ∈ y := by
      rw [List.getD_eq_getElem?_getD, List.getElem?_eq_getElem (by omega)]
      exact List.getElem_mem _
    obtain ⟨hs1, hs2⟩ := hy2 _ hs
    obtain ⟨K1, e1⟩ := Clear_ev l0 (y.getD j []) (by omega) hA hs1 hs2
    obtain ⟨K2, e2⟩ := rClear_ev l0 (y.getD j []) (by omega) hA hs1 hs2
    obtain ⟨K3, e3⟩ := Put_ev l0 (y.getD j []) n (by omega) hA hs1 hs2
    obtain ⟨K4, e4⟩ := rPut_ev l0 (y.getD j []) n (by omega) hA hs1 hs2
    obtain ⟨K5, e5⟩ := Get_ev l0 (y.getD j []) (by omega) hA hs1 hs2
    obtain ⟨K6, e6⟩ := rGet_ev l0 (y.getD j []) (by omega) hA hs1 hs2
    obtain ⟨K7, e7⟩ := ih (j + 1) (by omega)
    refine ⟨K1 + K2 + K3 + K4 + K5 + K6 + K7 + 1, fun k hk => ?_⟩
    obtain ⟨m, rfl⟩ : ∃ m, k = m + 1 := ⟨k - 1, by omega⟩
    have E1 := e1 m (by omega)
    have E2 := e2 m (by omega)
    have E3 := e3 m (by omega)
    have E4 := e4 m (by omega)
    have E5 := e5 m (by omega)
    have E6 := e6 m (by omega)
    have E7 := e7 m (by omega)
    simp only at E1 E2 E3 E4 E5 E6 E7
    simp only [law15_MaskLooks.l1]
    rw [if_pos (by omega), if_pos (by omega), if_pos (by omega), rd_L5_nat, show wrap64 ((j : Int) + 1) = ((j + 1 : Nat) : Int) by unfold wrap64; omega]
    simp only [E1, E2, E3, E4, E5, E6, E7, Option.bind_some, if_true]
theorem ML_near (l0 l1 l2 : List Int) (h0 : l0.length ≤ 300) (h1 : l1.length ≤ 300) (h2 : l2.length ≤ 100) (hA : Byt l0) (hB : Byt l1) (hR : Rng l2) (a n : Int)
    (x0 x1 : Int) (x2 x3 : List Int) (x4 : List S101) (x5 : List S79) (x6 : List Int) (x7 : Bool) (d : Nat) : ∀ (z : List Int) (j : Nat), z.length = l2.length → Rng z → j + d = l2.length →
    Ev (fun k => law15_MaskLooks.l0 k l0 l1 l2 a n z (l2.length : Int) (j : Int) x0 x1 x2 x3 x4 x5 x6 x7) true := by
  induction d with
  | zero =>
    intro z j hz hzR hj
    have hbl : (bitsOf l0 (Int.tmod a 40)).1.length ≤ 90000 := by
      unfold bitsOf
      split
      · rw [ints_length]
        unfold firstBits
        rw [List.length_take, sb_length]
        have := cntTo_le l0 (8 * l0.length)
        omega
      · simp
    obtain ⟨K1, e1⟩ := Bits_ev l0 (by omega) hA (Int.tmod a 40)
    obtain ⟨K2, e2⟩ := rBits_ev l0 (by omega) hA (Int.tmod a 40)
    obtain ⟨K3, e3⟩ := ML_loop l0 l1 h0 h1 hA hB n (Int.tmod a 400) (bitsOf l0 (Int.tmod a 40)) hbl [l2, z] (by simp) (fun s hs => by
      rcases List.mem_cons.1 hs with rfl | hs
      · exact ⟨by omega, hR⟩
      · rw [List.mem_singleton.1 hs]
        exact ⟨by omega, hzR⟩) x0 x1 x2 x3 x4 x5 x6 x7 2 0 rfl
    refine ⟨K1 + K2 + K3 + 1, fun k hk => ?_⟩
    obtain ⟨m, rfl⟩ : ∃ m, k = m + 1 := ⟨k - 1, by omega⟩
    have E1 := e1 m (by omega)
    have E2 := e2 m (by omega)
    have E3 := e3 m (by omega)
    simp only at E1 E2 E3
    simp only [law15_MaskLooks.l0]
    rw [if_neg (by omega)]
    simp only [E1, E2, Option.bind_some]
    exact E3
  | succ d ih =>
    intro z j hz hzR hj
    have hw : wrap64 ((j : Int) + 1) = ((j + 1 : Nat) : Int) := by unfold wrap64; omega
    have same := ih z (j + 1) hz hzR (by omega)
    by_cases h3 : Int.tmod (rd z (j : Int)) 3 = 0
    · refine Ev.step (fun k => ?_) same
      simp only [law15_MaskLooks.l0]
      rw [if_pos (by omega), if_pos (by omega), if_pos (by omega), if_pos h3, hw]
    · by_cases hp : (l0.length : Int) > 0
      · have hw8 : wrap64 (8 * (l0.length : Int)) = 8 * (l0.length : Int) := by unfold wrap64; omega
        have hR2 : Rng (z.set j (Int.tmod (wrap64 (Int.tmod (rd z (j : Int)) (8 * (l0.length : Int)) + 8 * (l0.length : Int))) (8 * (l0.length : Int)))) := fun x hx => by
          rcases List.mem_or_eq_of_mem_set hx with hx | rfl
          · exact hzR x hx
          · have h5 := Int.tmod_lt_of_pos (wrap64 (Int.tmod (rd z (j : Int)) (8 * (l0.length : Int)) + 8 * (l0.length : Int))) (show 0 < 8 * (l0.length : Int) by omega)
            have h6 := Int.lt_tmod_of_pos (wrap64 (Int.tmod (rd z (j : Int)) (8 * (l0.length : Int)) + 8 * (l0.length : Int))) (show 0 < 8 * (l0.length : Int) by omega)
            unfold i64
            omega
        refine Ev.step (fun k => ?_) (ih _ (j + 1) (by rw [List.length_set]; exact hz) hR2 (by omega))
        simp only [law15_MaskLooks.l0]
        rw [if_pos (by omega), if_pos (by omega), if_pos (by omega), if_neg h3, if_pos hp, hw8, if_neg (by omega), hw, Int.toNat_natCast]
      · refine Ev.step (fun k => ?_) same
        simp only [law15_MaskLooks.l0]
        rw [if_pos (by omega), if_pos (by omega), if_pos (by omega), if_neg h3, if_neg hp, hw]
theorem MaskLooks_pure : law15_MaskLooks.Pure := by
  intro l0 l1 l2 a n x0 x1 x2 x3 x4 x5 x6 x7 hw0 hw1 hw2
  have hA := Byt_of hw0
  have hB := Byt_of hw1
  have hR := Rng_of hw2
  suffices h : Ev (fun k => law15_MaskLooks.f k l0 l1 l2 a n x0 x1 x2 x3 x4 x5 x6 x7) true from h.rounds
  have hawake : Ev (fun k => law15_MaskLooks.j0 k l0 l1 l2 a n true x0 x1 x2 x3 x4 x5 x6 x7) true :=
    Ev.step (f := fun k => (law15_awake.f k).bind fun t => some t) (fun k => by simp [law15_MaskLooks.j0]) (Ev.bind awake_ev (Ev.now _))
  by_cases h0 : (l0.length : Int) > 300
  · exact Ev.congr (fun k => by unfold law15_MaskLooks.f; rw [if_pos h0]) hawake
  by_cases h1 : (l1.length : Int) > 300
  · exact Ev.congr (fun k => by unfold law15_MaskLooks.f; rw [if_neg h0, if_pos h1]) hawake
  by_cases h2 : (l2.length : Int) > 100
  · exact Ev.congr (fun k => by unfold law15_MaskLooks.f; rw [if_neg h0, if_neg h1, if_pos h2]) hawake
  by_cases h3 : (x2.length : Int) > 3000
  · exact Ev.congr (fun k => by unfold law15_MaskLooks.f; rw [if_neg h0, if_neg h1, if_neg h2, decide_eq_true h3]) hawake
  refine Ev.congr (f := fun k => law15_MaskLooks.j0 k l0 l1 l2 a n false x0 x1 x2 x3 x4 x5 x6 x7) (fun k => by unfold law15_MaskLooks.f; rw [if_neg h0, if_neg h1, if_neg h2, decide_eq_false h3]) ?_
  refine Ev.step (fun k => ?_) (ML_near l0 l1 l2 (by omega) (by omega) (by omega) hA hB hR a n x0 x1 x2 x3 x4 x5 x6 x7 l2.length l2 0 rfl hR (by omega))
  simp only [law15_MaskLooks.j0]
  rw [if_neg (by simp), if_pos (by rw [List.length_nil]; omega), List.nil_append]
  rfl
end Go.Proofs.Ytpcephbhnbfcmaa.M
