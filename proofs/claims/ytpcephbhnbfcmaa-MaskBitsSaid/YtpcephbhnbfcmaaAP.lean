-- The plain law MaskBits_pure: what the printed functions compute, with no program in sight.
import Derived.Test.YtpcephbhnbfcmaaA0
import Derived.Test.YtpcephbhnbfcmaaA1
import Derived.Test.YtpcephbhnbfcmaaA2
import Derived.Test.YtpcephbhnbfcmaaA3
namespace Go.Proofs.Ytpcephbhnbfcmaa.A
open Go.RowKit Go.Proofs.YtpcephbhnbfcmaaW.PrintWords Go.Proofs.YtpcephbhnbfcmaaW.PrintLast Go.Proofs.YtpcephbhnbfcmaaW.PrintMore
set_option linter.unusedVariables false
set_option linter.unusedSimpArgs false
def Byt (l : List Int) : Prop := ∀ x ∈ l, 0 ≤ x ∧ x < 256
def byteN (l : List Int) (j : Nat) : Nat := (l.getD j 0).toNat
def bit (l : List Int) (i : Nat) : Bool := (byteN l (i / 8)).testBit (i % 8)
theorem Byt.getD {l : List Int} (h : Byt l) (j : Nat) : 0 ≤ l.getD j 0 ∧ l.getD j 0 < 256 := by
  rcases Nat.lt_or_ge j l.length with hj | hj
  · rw [List.getD_eq_getElem?_getD, List.getElem?_eq_getElem hj]
    exact h _ (List.getElem_mem hj)
  · rw [List.getD_eq_getElem?_getD, List.getElem?_eq_none hj]
    simp
theorem Byt.lt {l : List Int} (h : Byt l) (j : Nat) : byteN l j < 256 := by
  have := h.getD j
  unfold byteN
  omega
theorem Byt.cast {l : List Int} (h : Byt l) (j : Nat) : ((byteN l j : Nat) : Int) = l.getD j 0 := by
  have := h.getD j
  unfold byteN
  omega
theorem Byt.take {a : List Int} (ha : Byt a) (n : Nat) : Byt (a.take n) := fun x hx => ha x (List.mem_of_mem_take hx)
theorem Byt.set {l : List Int} (h : Byt l) (j : Nat) {x : Int} (hx : 0 ≤ x ∧ x < 256) : Byt (l.set j x) := fun y hy => by
  rcases List.mem_or_eq_of_mem_set hy with h1 | rfl
  · exact h y h1
  · exact hx
theorem bit_high (l : List Int) (i : Nat) (h : 8 * l.length ≤ i) : bit l i = false := by
  unfold bit byteN
  rw [List.getD_eq_getElem?_getD, List.getElem?_eq_none (by omega)]
  simp
theorem b_get : ∀ x : Fin 256, ∀ i : Fin 8, (Go.bits .and .u8 (shr .u8 (x.val : Int) (i.val : Int)) 1 == 1) = x.val.testBit i.val := by decide +kernel
theorem n_ones : ∀ x : Fin 256, ones x.val = (List.range 8).countP (fun j => x.val.testBit j) := by decide +kernel
def getB (l : List Int) (i : Int) : Bool := decide (0 ≤ i) && bit l i.toNat
theorem get_eq (l : List Int) (hl : l.length ≤ 9000) (hB : Byt l) (i : Int) (hi : i < 9223372036854775808) : mask_get.f l i = some (getB l i) := by
  unfold mask_get.f getB
  by_cases h0 : 0 ≤ i
  · rw [if_pos h0]
    obtain ⟨n, rfl⟩ := Int.eq_ofNat_of_zero_le h0
    have ed : wrap64 (Int.tdiv (n : Int) 8) = ((n / 8 : Nat) : Int) := by
      rw [Int.tdiv_eq_ediv_of_nonneg (by omega)]
      unfold wrap64
      omega
    have em : Int.tmod (n : Int) 8 = ((n % 8 : Nat) : Int) := by
      rw [Int.tmod_eq_emod_of_nonneg (by omega)]
      omega
    rw [ed, em]
    by_cases h1 : n / 8 < l.length
    · rw [if_pos (by omega), if_pos (by omega), if_pos (by omega)]
      have hc := hB.cast (n / 8)
      have e := b_get ⟨byteN l (n / 8), hB.lt _⟩ ⟨n % 8, by omega⟩
      simp only at e
      unfold rd
      rw [Int.toNat_natCast, ← hc, e]
      simp [bit]
    · rw [if_neg (by omega)]
      rw [Int.toNat_natCast, bit_high l n (by omega)]
      simp
  · rw [if_neg h0]
    simp [h0]
/-- How many bits are set below place n. -/
def cntTo (l : List Int) (n : Nat) : Nat := (List.range n).countP (bit l)
def cnt (l : List Int) : Nat := cntTo l (8 * l.length)
theorem cntTo_succ (l : List Int) (n : Nat) : cntTo l (n + 1) = cntTo l n + if bit l n then 1 else 0 := by
  unfold cntTo
  rw [List.range_succ, List.countP_append]
  simp [List.countP_cons]
theorem cntTo_le (l : List Int) (n : Nat) : cntTo l n ≤ n := by
  unfold cntTo
  have := List.countP_le_length (p := bit l) (l := List.range n)
  simpa using this
theorem cntTo_mono (l : List Int) {m n : Nat} (h : m ≤ n) : cntTo l m ≤ cntTo l n := by
  induction n with
  | zero => obtain rfl : m = 0 := by omega
            exact Nat.le_refl _
  | succ n ih =>
    rcases Nat.lt_or_ge m (n + 1) with h1 | h1
    · rw [cntTo_succ]
      have := ih (by omega)
      omega
    · obtain rfl : m = n + 1 := by omega
      exact Nat.le_refl _
theorem cntTo_byte (l : List Int) (hB : Byt l) (j : Nat) (hj : j < l.length) : cntTo l (8 * (j + 1)) = cntTo l (8 * j) + ones (byteN l j) := by
  have e := n_ones ⟨byteN l j, hB.lt j⟩
  simp only at e
  rw [e]
  unfold cntTo
  rw [show 8 * (j + 1) = 8 * j + 8 by omega, List.range_add, List.countP_append, List.countP_map]
  congr 1
  apply List.countP_congr
  intro i hi
  rw [List.mem_range] at hi
  simp only [Function.comp, bit, show (8 * j + i) / 8 = j by omega, show (8 * j + i) % 8 = i by omega]
theorem Ones8_eq (l : List Int) (hB : Byt l) (j : Nat) : Ones8.f (l.getD j 0) = some ((ones (byteN l j) : Nat) : Int) := by
  have h := hB.getD j
  unfold Ones8.f
  rw [if_pos h.1, if_pos h.2]
  rfl
theorem count_from (l : List Int) (hl : l.length ≤ 9000) (hB : Byt l) (d : Nat) : ∀ j : Nat, j + d = l.length → Ev (fun k => mask_Count.l0 k ((cntTo l (8 * j) : Nat) : Int) l (l.length : Int) (j : Int)) ((cnt l : Nat) : Int) := by
  induction d with
  | zero =>
    intro j hj
    refine Ev.step (f := fun _ => some ((cnt l : Nat) : Int)) (fun k => ?_) (Ev.now _)
    simp only [mask_Count.l0]
    rw [if_neg (by omega)]
    unfold cnt
    rw [show j = l.length by omega]
  | succ d ih =>
    intro j hj
    refine Ev.step (f := fun k => mask_Count.l0 k ((cntTo l (8 * (j + 1)) : Nat) : Int) l (l.length : Int) ((j + 1 : Nat) : Int)) (fun k => ?_) (ih (j + 1) (by omega))
    simp only [mask_Count.l0]
    rw [if_pos (by omega), if_pos (by omega), if_pos (by omega)]
    have e : rd l (j : Int) = l.getD j 0 := by unfold rd; rw [Int.toNat_natCast]
    rw [e, Ones8_eq l hB j]
    simp only [Option.bind_some]
    have hle := cntTo_le l (8 * (j + 1))
    rw [cntTo_byte l hB j (by omega)] at hle ⊢
    congr 1
    · unfold wrap64; omega
    · unfold wrap64; omega
theorem Count_ev (l : List Int) (hl : l.length ≤ 9000) (hB : Byt l) : Ev (fun k => mask_Count.f k l) ((cnt l : Nat) : Int) := by
  have h := count_from l hl hB l.length 0 (by omega)
  exact h
/-- The set bits below place n. -/
def sb (l : List Int) (n : Nat) : List Nat := (List.range n).filter (bit l)
def ints (l : List Nat) : List Int := l.map fun (x : Nat) => (x : Int)
theorem sb_length (l : List Int) (n : Nat) : (sb l n).length = cntTo l n := by
  unfold sb cntTo
  rw [List.countP_eq_length_filter]
theorem sb_succ (l : List Int) (n : Nat) : sb l (n + 1) = sb l n ++ if bit l n then [n] else [] := by
  unfold sb
  rw [List.range_succ, List.filter_append]
  congr 1
  cases h : bit l n <;> simp [h]
theorem sb_split (l : List Int) (m n : Nat) : sb l (m + n) = sb l m ++ ((List.range n).map (m + ·)).filter (bit l) := by
  unfold sb
  rw [List.range_add, List.filter_append]
/-- The first k set bits. -/
def firstBits (l : List Int) (k : Nat) : List Nat := (sb l (8 * l.length)).take k
theorem sb_take (l : List Int) (n : Nat) (h : n ≤ 8 * l.length) : sb l n = firstBits l (cntTo l n) := by
  unfold firstBits
  obtain ⟨d, hd⟩ := Nat.exists_eq_add_of_le h
  rw [hd, sb_split, ← sb_length, List.take_left']
  rfl
theorem bits_from (l : List Int) (hl : l.length ≤ 9000) (hB : Byt l) (K : Nat) (hK : K ≤ cnt l) (d : Nat) : ∀ i : Nat, i + d = 8 * l.length → cntTo l i ≤ K →
    Ev (fun k => mask_Bits.l0 k l (K : Int) (ints (sb l i)) (i : Int)) (ints (firstBits l K), true) := by
  have done : ∀ i : Nat, i ≤ 8 * l.length → cntTo l i = K → Ev (fun k => mask_Bits.l0 k l (K : Int) (ints (sb l i)) (i : Int)) (ints (firstBits l K), true) := by
    intro i hi hc
    refine Ev.step (f := fun _ => some (ints (firstBits l K), true)) (fun k => ?_) (Ev.now _)
    simp only [mask_Bits.l0]
    have hlen : (ints (sb l i)).length = K := by simp [ints, sb_length, hc]
    rw [hlen, if_neg (by omega), sb_take l i hi, hc]
  induction d with
  | zero =>
    intro i hi hc
    refine done i (by omega) ?_
    have : cntTo l i = cnt l := by unfold cnt; rw [show i = 8 * l.length by omega]
    omega
  | succ d ih =>
    intro i hi hc
    by_cases he : cntTo l i = K
    · exact done i (by omega) he
    · have hlen : (ints (sb l i)).length = cntTo l i := by simp [ints, sb_length]
      have hle := cntTo_le l i
      have hw : wrap64 ((i : Int) + 1) = ((i + 1 : Nat) : Int) := by unfold wrap64; omega
      have hs := cntTo_succ l i
      cases hb : bit l i with
      | true =>
        rw [hb] at hs
        simp only [if_true] at hs
        refine Ev.step (f := fun k => mask_Bits.l0 k l (K : Int) (ints (sb l (i + 1))) ((i + 1 : Nat) : Int)) (fun k => ?_) (ih (i + 1) (by omega) (by omega))
        simp only [mask_Bits.l0]
        rw [hlen, if_pos (by omega), get_eq l hl hB _ (by omega)]
        simp only [Option.bind_some, getB, Int.toNat_natCast, hb]
        rw [if_pos (by simp), if_pos (by omega), hw, sb_succ, hb]
        simp [ints]
      | false =>
        rw [hb] at hs
        refine Ev.step (f := fun k => mask_Bits.l0 k l (K : Int) (ints (sb l (i + 1))) ((i + 1 : Nat) : Int)) (fun k => ?_) (ih (i + 1) (by omega) (by simp at hs; omega))
        simp only [mask_Bits.l0]
        rw [hlen, if_pos (by omega), get_eq l hl hB _ (by omega)]
        simp only [Option.bind_some, getB, Int.toNat_natCast, hb]
        rw [if_neg (by simp), hw, sb_succ, hb]
        simp [ints]
/-- What Bits answers. -/
def bitsOf (l : List Int) (k : Int) : List Int × Bool := if 0 ≤ k ∧ k ≤ cnt l then (ints (firstBits l k.toNat), true) else ([], false)
theorem Bits_ev (l : List Int) (hl : l.length ≤ 9000) (hB : Byt l) (k0 : Int) : Ev (fun k => mask_Bits.f k l k0) (bitsOf l k0) := by
  have no : bitsOf l k0 = ([], false) → Ev (fun k => mask_Bits.j0 k l k0 true) (bitsOf l k0) := by
    intro h
    rw [h]
    refine Ev.step (f := fun _ => some (([] : List Int), false)) (fun k => ?_) (Ev.now _)
    simp [mask_Bits.j0]
  by_cases h0 : k0 < 0
  · refine Ev.congr (f := fun k => mask_Bits.j0 k l k0 true) (fun k => ?_) (no (by unfold bitsOf; rw [if_neg (by omega)]))
    unfold mask_Bits.f
    rw [if_pos h0]
  · refine Ev.congr (f := fun k => (mask_Count.f k l).bind fun t => mask_Bits.j0 k l k0 (decide (k0 > t))) (fun k => ?_) ?_
    · unfold mask_Bits.f
      rw [if_neg h0]
    · refine Ev.bind (Count_ev l hl hB) ?_
      by_cases h1 : k0 > ((cnt l : Nat) : Int)
      · have e : decide (k0 > ((cnt l : Nat) : Int)) = true := decide_eq_true h1
        simp only [e]
        exact no (by unfold bitsOf; rw [if_neg (by omega)])
      · have e : decide (k0 > ((cnt l : Nat) : Int)) = false := decide_eq_false h1
        simp only [e]
        obtain ⟨K, rfl⟩ := Int.eq_ofNat_of_zero_le (by omega : 0 ≤ k0)
        have hv : bitsOf l (K : Int) = (ints (firstBits l K), true) := by
          unfold bitsOf
          rw [if_pos (by omega), Int.toNat_natCast]
        rw [hv]
        have h := bits_from l hl hB K (by omega) (8 * l.length) 0 (by omega) (by simp [cntTo])
        refine Ev.step (f := fun k => mask_Bits.l0 k l (K : Int) ([] : List Int) 0) (fun k => ?_) ?_
        · simp [mask_Bits.j0]
        · exact h
def i64 (x : Int) : Prop := -9223372036854775808 ≤ x ∧ x < 9223372036854775808
def Rng (s : List Int) : Prop := ∀ x ∈ s, i64 x
theorem Rng.getD {s : List Int} (h : Rng s) (j : Nat) : i64 (s.getD j 0) := by
  rcases Nat.lt_or_ge j s.length with hj | hj
  · rw [List.getD_eq_getElem?_getD, List.getElem?_eq_getElem hj]
    exact h _ (List.getElem_mem hj)
  · rw [List.getD_eq_getElem?_getD, List.getElem?_eq_none hj]
    exact ⟨by simp, by simp⟩
theorem rd_nat (s : List Int) (j : Nat) : rd s (j : Int) = s.getD j 0 := by unfold rd; rw [Int.toNat_natCast]
theorem awake_ev : Ev (fun k => libevolutionlaw15_awake.f k) true := Ev.of libevolutionlaw15_awake.mono (k := 60) (by decide +kernel)
theorem b_bit : ∀ x : Fin 256, ∀ i : Fin 8, Go.bits .and .u8 (shr .u8 (x.val : Int) (i.val : Int)) 1 = if x.val.testBit i.val then 1 else 0 := by decide +kernel
theorem div8 (n : Nat) (h : n < 4611686018427387904) : wrap64 (Int.tdiv (n : Int) 8) = ((n / 8 : Nat) : Int) := by
  rw [Int.tdiv_eq_ediv_of_nonneg (by omega)]
  unfold wrap64
  omega
theorem mod8 (n : Nat) (h : n < 4611686018427387904) : IntKind.u64.wrap (Int.tmod (n : Int) 8) = ((n % 8 : Nat) : Int) := by
  rw [Int.tmod_eq_emod_of_nonneg (by omega), IntKind.wrap_u64]
  omega
theorem at_bit (l : List Int) (hB : Byt l) (n : Nat) : Go.bits .and .u8 (shr .u8 (rd l ((n / 8 : Nat) : Int)) ((n % 8 : Nat) : Int)) 1 = if bit l n then 1 else 0 := by
  have e := b_bit ⟨byteN l (n / 8), hB.lt _⟩ ⟨n % 8, by omega⟩
  simp only at e
  rw [rd_nat, ← hB.cast, e]
  rfl
theorem sb_at (l : List Int) : ∀ (n j p : Nat), (sb l n)[j]? = some p → bit l p = true ∧ cntTo l p = j ∧ p < n := by
  intro n
  induction n with
  | zero => intro j p h; simp [sb] at h
  | succ n ih =>
    intro j p h
    rw [sb_succ, List.getElem?_append] at h
    split at h
    · obtain ⟨h1, h2, h3⟩ := ih j p h
      exact ⟨h1, h2, by omega⟩
    · rename_i hj
      rw [sb_length] at h hj
      cases hb : bit l n with
      | false => rw [hb] at h; simp at h
      | true =>
        rw [hb] at h
        simp only [if_true] at h
        have h0 : j - cntTo l n = 0 := by
          rcases Nat.eq_zero_or_pos (j - cntTo l n) with h0 | h0
          · exact h0
          · rw [List.getElem?_eq_none (by simp; omega)] at h
            simp at h
        rw [h0] at h
        simp only [List.getElem?_cons_zero, Option.some.injEq] at h
        subst h
        exact ⟨hb, by omega, by omega⟩
theorem firstBits_at (l : List Int) (K j p : Nat) (h : (firstBits l K)[j]? = some p) : bit l p = true ∧ cntTo l p = j ∧ p < 8 * l.length := by
  unfold firstBits at h
  rw [List.getElem?_take] at h
  split at h
  · exact sb_at l _ j p h
  · simp at h
theorem firstBits_length (l : List Int) (K : Nat) (h : K ≤ cnt l) : (firstBits l K).length = K := by
  unfold firstBits
  rw [List.length_take, sb_length]
  unfold cnt at h
  omega
theorem ints_length (s : List Nat) : (ints s).length = s.length := by simp [ints]
theorem ints_getD (s : List Nat) (j : Nat) : (ints s).getD j 0 = ((s.getD j 0 : Nat) : Int) := by
  unfold ints
  rw [List.getD_eq_getElem?_getD, List.getElem?_map, List.getD_eq_getElem?_getD]
  cases s[j]? <;> simp
theorem bits_in (l : List Int) (hl : l.length ≤ 9000) (hB : Byt l) (L : List Int) (e : Int) (b : Nat) (j : Nat) (next : Ev (fun k => libevolutionlaw15_MaskBits.l0 k l (b : Int) L e ((j + 1 : Nat) : Int)) true)
    (hb : bit l b = true) (hlt : b < 8 * l.length) (s0 : Nat) (hs0 : s0 ≤ b) (hj : j < 9000000) (d : Nat) : ∀ i : Nat, i + d = b → s0 ≤ i → (∀ n, i ≤ n → n < b → bit l n = false) →
    Ev (fun k => libevolutionlaw15_MaskBits.l1 k l ((s0 : Int) - 1) (b : Int) (i : Int) L e (j : Int)) true := by
  induction d with
  | zero =>
    intro i hi _ _
    refine Ev.step (f := fun k => libevolutionlaw15_MaskBits.l0 k l (b : Int) L e ((j + 1 : Nat) : Int)) (fun k => ?_) next
    simp only [libevolutionlaw15_MaskBits.l1]
    rw [if_neg (by omega), if_neg (by omega), if_neg (by unfold wrap64; omega), div8 b (by omega), mod8 b (by omega), if_pos (by omega), if_pos (by omega), if_pos (by omega), at_bit l hB, hb]
    rw [if_neg (by simp), show wrap64 ((j : Int) + 1) = ((j + 1 : Nat) : Int) by unfold wrap64; omega]
  | succ d ih =>
    intro i hi hs hz
    refine Ev.step (f := fun k => libevolutionlaw15_MaskBits.l1 k l ((s0 : Int) - 1) (b : Int) ((i + 1 : Nat) : Int) L e (j : Int)) (fun k => ?_) (ih (i + 1) (by omega) (by omega) (fun n h1 h2 => hz n (by omega) h2))
    simp only [libevolutionlaw15_MaskBits.l1]
    rw [if_pos (by omega), div8 i (by omega), mod8 i (by omega), if_pos (by omega), if_pos (by omega), if_pos (by omega), at_bit l hB, hz i (by omega) (by omega)]
    rw [if_neg (by simp), show wrap64 ((i : Int) + 1) = ((i + 1 : Nat) : Int) by unfold wrap64; omega]
theorem bits_out (l : List Int) (hl : l.length ≤ 9000) (hB : Byt l) (K : Nat) (hK : K ≤ cnt l) (hK2 : K < 9000) (d : Nat) : ∀ j s0 : Nat, j + d = K → cntTo l s0 = j →
    Ev (fun k => libevolutionlaw15_MaskBits.l0 k l ((s0 : Int) - 1) (ints (firstBits l K)) ((ints (firstBits l K)).length : Int) (j : Int)) true := by
  have hlen : (ints (firstBits l K)).length = K := by rw [ints_length, firstBits_length l K hK]
  induction d with
  | zero =>
    intro j s0 hj hc
    refine Ev.step (f := fun k => (libevolutionlaw15_awake.f k).bind fun t => some t) (fun k => ?_) (Ev.bind awake_ev (Ev.now _))
    simp only [libevolutionlaw15_MaskBits.l0]
    rw [if_neg (by omega)]
  | succ d ih =>
    intro j s0 hj hc
    have hjl : j < (firstBits l K).length := by rw [firstBits_length l K hK]; omega
    obtain ⟨h1, h2, h3⟩ := firstBits_at l K j _ (List.getElem?_eq_getElem hjl)
    have hg : (ints (firstBits l K)).getD j 0 = (((firstBits l K)[j] : Nat) : Int) := by
      rw [ints_getD, List.getD_eq_getElem?_getD, List.getElem?_eq_getElem hjl]
      rfl
    revert h1 h2 h3 hg
    generalize (firstBits l K)[j] = b
    intro h1 h2 h3 hg
    have hs : cntTo l (b + 1) = j + 1 := by
      rw [cntTo_succ, h1, h2]
      rfl
    have hsb : s0 ≤ b := by
      rcases Nat.lt_or_ge b s0 with h | h
      · have := cntTo_mono l (show b + 1 ≤ s0 by omega)
        omega
      · exact h
    have hn := ih (j + 1) (b + 1) (by omega) hs
    have hb1 : (((b + 1 : Nat) : Int) - 1) = (b : Int) := by omega
    rw [hb1] at hn
    refine Ev.step (f := fun k => libevolutionlaw15_MaskBits.l1 k l ((s0 : Int) - 1) (b : Int) ((s0 : Nat) : Int) (ints (firstBits l K)) ((ints (firstBits l K)).length : Int) (j : Int)) (fun k => ?_)
      (bits_in l hl hB _ _ b j hn h1 h3 s0 hsb (by omega) (b - s0) s0 (by omega) (by omega) (fun n ha hb => ?_))
    · simp only [libevolutionlaw15_MaskBits.l0]
      rw [if_pos (by omega), if_pos (by omega), if_pos (by omega), rd_nat, hg, show wrap64 ((s0 : Int) - 1 + 1) = (s0 : Int) by unfold wrap64; omega]
    · cases hbn : bit l n with
      | false => rfl
      | true =>
        exfalso
        have e1 := cntTo_succ l n
        rw [hbn] at e1
        simp only [if_true] at e1
        have e2 := cntTo_mono l (show n + 1 ≤ b by omega)
        have e3 := cntTo_mono l ha
        omega
theorem u8_of {x : Int} (h : (Lit.int .u8 x).wf = true) : 0 ≤ x ∧ x < 256 := by
  simp [Lit.wf, IntKind.min, IntKind.max, IntKind.bits, IntKind.signed] at h
  omega
theorem Byt_of {l : List Int} (h : ∀ x ∈ l, (Lit.int .u8 x).wf = true) : Byt l := fun x hx => u8_of (h x hx)
theorem MaskBits_pure : libevolutionlaw15_MaskBits.Pure := by
  intro l a _ _ hw ha
  have hB := Byt_of hw
  have ha2 := u8_of ha
  suffices h : Ev (fun k => libevolutionlaw15_MaskBits.f k l a) true from h.rounds
  by_cases hl : (l.length : Int) > 100
  · refine Ev.congr (f := fun k => (libevolutionlaw15_awake.f k).bind fun t => some t) (fun k => ?_) (Ev.bind awake_ev (Ev.now _))
    unfold libevolutionlaw15_MaskBits.f
    rw [if_pos hl]
  · have hwr : wrap64 a = a := by unfold wrap64; omega
    unfold libevolutionlaw15_MaskBits.f
    simp only [if_neg hl, hwr]
    refine Ev.bind (Bits_ev l (by omega) hB a) (Ev.bind (Count_ev l (by omega) hB) ?_)
    by_cases hc : a ≤ ((cnt l : Nat) : Int)
    · have hv : bitsOf l a = (ints (firstBits l a.toNat), true) := by unfold bitsOf; rw [if_pos ⟨by omega, hc⟩]
      have hd : decide (((cnt l : Nat) : Int) ≥ a) = true := decide_eq_true hc
      rw [hv, hd]
      have hlen : (ints (firstBits l a.toNat)).length = a.toNat := by rw [ints_length, firstBits_length l _ (by omega)]
      simp only [bne_self_eq_false, Bool.false_eq_true, if_false, if_true]
      simp only [if_pos (show ((ints (firstBits l a.toNat)).length : Int) = a by omega)]
      have h := bits_out l (by omega) hB a.toNat (by omega) (by omega) a.toNat 0 0 (by omega) (by simp [cntTo])
      exact Ev.step (fun k => by simp [libevolutionlaw15_MaskBits.j0]) h
    · have hv : bitsOf l a = ([], false) := by unfold bitsOf; rw [if_neg (by omega)]
      have hd : decide (((cnt l : Nat) : Int) ≥ a) = false := decide_eq_false hc
      rw [hv, hd]
      simp only [bne_self_eq_false, Bool.false_eq_true, if_false]
      refine Ev.step (f := fun k => libevolutionlaw15_MaskBits.l0 k l (-1) [] 0 0) (fun k => by simp [libevolutionlaw15_MaskBits.j0]) ?_
      exact Ev.step (f := fun k => (libevolutionlaw15_awake.f k).bind fun t => some t) (fun k => by simp [libevolutionlaw15_MaskBits.l0]) (Ev.bind awake_ev (Ev.now _))
end Go.Proofs.Ytpcephbhnbfcmaa.A
