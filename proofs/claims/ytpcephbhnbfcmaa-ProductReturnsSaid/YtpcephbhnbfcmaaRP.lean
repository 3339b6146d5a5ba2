-- The plain law ProductReturns_pure: what the printed functions compute, with no program in sight.
import Derived.Test.YtpcephbhnbfcmaaR0
import Derived.Test.YtpcephbhnbfcmaaR1
import Derived.Test.YtpcephbhnbfcmaaR2
import Derived.Test.YtpcephbhnbfcmaaR3
import Derived.Test.YtpcephbhnbfcmaaR4
import Derived.Test.YtpcephbhnbfcmaaR5
import Derived.Test.YtpcephbhnbfcmaaR6
namespace Go.Proofs.Ytpcephbhnbfcmaa.R
open Go.RowKit Go.Proofs.YtpcephbhnbfcmaaW.PrintWords Go.Proofs.YtpcephbhnbfcmaaW.PrintLast Go.Proofs.YtpcephbhnbfcmaaW.PrintMore
set_option linter.unusedVariables false
set_option linter.unusedSimpArgs false
def Byt (l : List Int) : Prop := ∀ x ∈ l, 0 ≤ x ∧ x < 256
theorem Byt.getD {l : List Int} (h : Byt l) (j : Nat) : 0 ≤ l.getD j 0 ∧ l.getD j 0 < 256 := by
  rcases Nat.lt_or_ge j l.length with hj | hj
  · rw [List.getD_eq_getElem?_getD, List.getElem?_eq_getElem hj]
    exact h _ (List.getElem_mem hj)
  · rw [List.getD_eq_getElem?_getD, List.getElem?_eq_none hj]
    simp
theorem Byt.nil : Byt [] := fun _ h => by cases h
theorem Byt.cons {x : Int} {l : List Int} : Byt (x :: l) ↔ (0 ≤ x ∧ x < 256) ∧ Byt l := by
  constructor
  · intro h
    exact ⟨h x List.mem_cons_self, fun y hy => h y (List.mem_cons_of_mem _ hy)⟩
  · rintro ⟨h1, h2⟩ y hy
    rcases List.mem_cons.1 hy with rfl | hy
    · exact h1
    · exact h2 y hy
theorem Byt.append {a b : List Int} (ha : Byt a) (hb : Byt b) : Byt (a ++ b) := by
  intro x hx
  rcases List.mem_append.1 hx with h | h
  · exact ha x h
  · exact hb x h
theorem Byt.take {a : List Int} (ha : Byt a) (n : Nat) : Byt (a.take n) := fun x hx => ha x (List.mem_of_mem_take hx)
theorem Byt.drop {a : List Int} (ha : Byt a) (n : Nat) : Byt (a.drop n) := fun x hx => ha x (List.mem_of_mem_drop hx)
theorem Byt.replicate (n : Nat) {x : Int} (h : 0 ≤ x ∧ x < 256) : Byt (List.replicate n x) := fun y hy => by
  rw [(List.mem_replicate.1 hy).2]
  exact h
theorem Byt.set {l : List Int} (h : Byt l) (j : Nat) {x : Int} (hx : 0 ≤ x ∧ x < 256) : Byt (l.set j x) := fun y hy => by
  rcases List.mem_or_eq_of_mem_set hy with h1 | rfl
  · exact h y h1
  · exact hx
def ints (l : List Nat) : List Int := l.map fun (x : Nat) => (x : Int)
def i64 (x : Int) : Prop := -9223372036854775808 ≤ x ∧ x < 9223372036854775808
def Rng (s : List Int) : Prop := ∀ x ∈ s, i64 x
theorem Rng.getD {s : List Int} (h : Rng s) (j : Nat) : i64 (s.getD j 0) := by
  rcases Nat.lt_or_ge j s.length with hj | hj
  · rw [List.getD_eq_getElem?_getD, List.getElem?_eq_getElem hj]
    exact h _ (List.getElem_mem hj)
  · rw [List.getD_eq_getElem?_getD, List.getElem?_eq_none hj]
    exact ⟨by simp, by simp⟩
theorem rd_nat (s : List Int) (j : Nat) : rd s (j : Int) = s.getD j 0 := by unfold rd; rw [Int.toNat_natCast]
theorem ints_length (s : List Nat) : (ints s).length = s.length := by simp [ints]
theorem ints_getD (s : List Nat) (j : Nat) : (ints s).getD j 0 = ((s.getD j 0 : Nat) : Int) := by
  unfold ints
  rw [List.getD_eq_getElem?_getD, List.getElem?_map, List.getD_eq_getElem?_getD]
  cases s[j]? <;> simp
theorem wrap64_id {x : Int} (h1 : -9223372036854775808 ≤ x) (h2 : x < 9223372036854775808) : wrap64 x = x := by unfold wrap64; omega
theorem Mod_eq (x n : Int) (h : 1 ≤ n) (h2 : n < 4611686018427387904) : ∃ v, made_Mod.f x n = some v ∧ 0 ≤ v ∧ v < n := by
  have a1 := Int.tmod_lt_of_pos x (show 0 < n by omega)
  have a2 : -n < Int.tmod x n := by
    have := Int.tmod_lt_of_pos (-x) (show 0 < n by omega)
    rw [Int.neg_tmod] at this
    omega
  unfold made_Mod.f
  rw [if_neg (by omega), if_neg (by omega)]
  by_cases h0 : Int.tmod x n < 0
  · rw [if_pos h0, wrap64_id (by omega) (by omega)]
    exact ⟨_, rfl, by omega, by omega⟩
  · rw [if_neg h0]
    exact ⟨_, rfl, by omega, by omega⟩
/-- Where the dice may stand. -/
def At (l : List Int) (a : Int) : Prop := 0 ≤ a ∧ a ≤ l.length
theorem Next_eq (l : List Int) (hl : l.length ≤ 9000) (a n : Int) (ha : At l a) (h : 1 ≤ n) (h2 : n < 4611686018427387904) :
    ∃ v b, made_Dice_Next.f l a n = some (v, b) ∧ 0 ≤ v ∧ v < n ∧ At l b ∧ a ≤ b ∧ (a = b → v = 0) := by
  have h0 := ha.1
  have h1 := ha.2
  unfold made_Dice_Next.f made_Dice_Left.f
  simp only [Option.bind_some]
  by_cases hc : a < (l.length : Int)
  · have e : wrap64 (wrap64 (a + 1) - 1) = a := by unfold wrap64; omega
    have e1 : wrap64 (a + 1) = a + 1 := by unfold wrap64; omega
    obtain ⟨v, hv, h3, h4⟩ := Mod_eq (rd l a) n h h2
    rw [decide_eq_true hc, if_pos rfl, e, if_pos h0, if_pos hc, hv, e1]
    exact ⟨v, a + 1, rfl, h3, h4, ⟨by omega, by omega⟩, by omega, by omega⟩
  · rw [decide_eq_false hc, if_neg (by simp)]
    exact ⟨0, a, rfl, by omega, by omega, ha, by omega, fun _ => rfl⟩
theorem Bytes_from (l : List Int) (hl : l.length ≤ 9000) (d : Nat) : ∀ (x : List Int) (a : Int), Byt x → x.length + d ≤ 9000 → At l a →
    ∃ y b, Ev (fun k => made_Dice_Bytes.l0 k x (d : Int) l a) (y, b) ∧ Byt y ∧ y.length = x.length + d ∧ At l b ∧ a ≤ b := by
  induction d with
  | zero =>
    intro x a hx hd ha
    refine ⟨x, a, Ev.step (f := fun _ => some (x, a)) (fun k => ?_) (Ev.now _), hx, rfl, ha, by omega⟩
    simp only [made_Dice_Bytes.l0]
    rw [if_neg (by omega)]
  | succ d ih =>
    intro x a hx hd ha
    obtain ⟨v, b, hv, h0, h1, hb, hab, _⟩ := Next_eq l hl a 256 ha (by omega) (by omega)
    obtain ⟨y, c, he, hy, hyl, hc, hbc⟩ := ih (x ++ [v % 256]) b (hx.append (Byt.cons.2 ⟨by omega, Byt.nil⟩)) (by simp; omega) hb
    refine ⟨y, c, Ev.step (f := fun k => made_Dice_Bytes.l0 k (x ++ [v % 256]) (d : Int) l b) (fun k => ?_) he, hy, by rw [hyl]; simp; omega, hc, by omega⟩
    simp only [made_Dice_Bytes.l0]
    rw [if_pos (by omega), hv]
    simp only [Option.bind_some]
    rw [if_pos (by omega), show wrap64 (((d + 1 : Nat) : Int) - 1) = (d : Int) by unfold wrap64; omega]
theorem Bytes_ev (l : List Int) (hl : l.length ≤ 9000) (a n : Int) (ha : At l a) (hn : 0 ≤ n) (hn2 : n ≤ 1000) :
    ∃ y b, Ev (fun k => made_Dice_Bytes.f k l a n) (y, b) ∧ Byt y ∧ (y.length : Int) ≤ n ∧ At l b ∧ a ≤ b := by
  obtain ⟨v, b, hv, h0, h1, hb, hab, _⟩ := Next_eq l hl a (wrap64 (n + 1)) ha (by unfold wrap64; omega) (by unfold wrap64; omega)
  obtain ⟨d, rfl⟩ := Int.eq_ofNat_of_zero_le h0
  have h3 : (d : Int) ≤ n := by revert h1; unfold wrap64; omega
  obtain ⟨y, c, he, hy, hyl, hc, hbc⟩ := Bytes_from l hl d [] b Byt.nil (by simp; omega) hb
  refine ⟨y, c, Ev.congr (f := fun k => made_Dice_Bytes.l0 k [] (d : Int) l b) (fun k => ?_) he, hy, by rw [hyl]; simp; omega, hc, by omega⟩
  unfold made_Dice_Bytes.f
  rw [hv]
  rfl
/-- The least number from s on that a divides, for a = 1 or 8. -/
def up (s a : Nat) : Nat := (s + (a - 1)) / a * a
theorem up_1 (s : Nat) : up s 1 = s := by unfold up; omega
theorem up_8 (s : Nat) : up s 8 = (s + 7) / 8 * 8 := rfl
def okS (p : S31) : Prop := badS p = false
theorem okS_iff (p : S31) : okS p ↔ 0 ≤ p.f0 ∧ p.f0 ≤ 1024 ∧ (p.f1 = 1 ∨ p.f1 = 8) ∧ (p.f2.length : Int) = p.f0 := by
  unfold okS badS
  simp only [Bool.not_eq_false', Bool.and_eq_true, Bool.or_eq_true, decide_eq_true_eq, and_assoc]
theorem up_ge (s : Nat) (a : Int) (h : a = 1 ∨ a = 8) : s ≤ up s a.toNat ∧ up s a.toNat < s + a.toNat ∧ up s a.toNat % a.toNat = 0 := by
  rcases h with rfl | rfl
  · rw [show (1 : Int).toNat = 1 from rfl, up_1]; omega
  · rw [show (8 : Int).toNat = 8 from rfl, up_8]; omega
theorem Align_eq (s : Nat) (hs : s ≤ 9000) (a : Int) (h : a = 1 ∨ a = 8) : product_Align.f (s : Int) a = some ((up s a.toNat : Nat) : Int) := by
  unfold product_Align.f
  rcases h with rfl | rfl
  · rw [if_neg (by omega), if_neg (by omega), show Int.tmod (s : Int) 1 = 0 from Int.tmod_one _, if_neg (by omega), if_pos rfl, show (1 : Int).toNat = 1 from rfl, up_1]
  · have e : Int.tmod (s : Int) 8 = ((s % 8 : Nat) : Int) := by rw [Int.tmod_eq_emod_of_nonneg (by omega)]; omega
    rw [if_neg (by omega), if_neg (by omega), e, if_neg (by omega), show (8 : Int).toNat = 8 from rfl, up_8]
    by_cases h : s % 8 = 0
    · rw [if_pos (by omega)]
      congr 1
      omega
    · rw [if_neg (by omega)]
      congr 1
      unfold wrap64
      omega
/-- The state of a product that is laid out. -/
structure PS where
  s : Nat
  a : Nat
  sp : List Int
  os : List Nat
def PS.start : PS := ⟨0, 1, [], []⟩
def PS.add (t : PS) (p : S31) : PS := ⟨up t.s p.f1.toNat + p.f0.toNat, max t.a p.f1.toNat, t.sp ++ List.replicate (up t.s p.f1.toNat - t.s) 0 ++ p.f2, t.os ++ [up t.s p.f1.toNat]⟩
def layF : List S31 → PS → Option PS
  | [], t => some t
  | p :: ps, t => if 1024 < (t.add p).s then none else layF ps (t.add p)
abbrev LT9 := Int × Int × List Int × List Int × List S101 × List S79 × List Int × Bool × Int
/-- What the layout of valid parts is, in the words of the walks. -/
def layR : Option PS → LT9
  | none => (0, 0, [], [], [], [], [], false, 4)
  | some t => ((t.s : Int), (t.a : Int), t.sp, ints t.os, [], [], [], false, 0)
def PS.ok (t : PS) : Prop := t.s ≤ 1024 ∧ t.sp.length = t.s ∧ (t.a = 1 ∨ t.a = 8)
theorem PS.start_ok : PS.start.ok := ⟨by decide, rfl, .inl rfl⟩
theorem PS.add_ok {t : PS} (h : t.ok) {p : S31} (hp : okS p) (hs : ¬ 1024 < (t.add p).s) : (t.add p).ok := by
  obtain ⟨h1, h2, h3⟩ := h
  obtain ⟨p1, p2, p3, p4⟩ := (okS_iff p).1 hp
  have hu := up_ge t.s p.f1 p3
  refine ⟨by omega, ?_, ?_⟩
  · simp only [PS.add, List.length_append, List.length_replicate, h2]
    omega
  · simp only [PS.add]
    rcases h3 with h3 | h3 <;> rcases p3 with p3 | p3 <;> rw [h3, p3] <;> decide
theorem ints_snoc (s : List Nat) (x : Nat) : ints (s ++ [x]) = ints s ++ [(x : Int)] := by simp [ints]
theorem mx_nat (a : Nat) (x : Int) (h : 0 ≤ x) : mx (a : Int) x = ((max a x.toNat : Nat) : Int) := by unfold mx; split <;> omega
theorem pLay_from (PP : List S31) (hP : PP.length ≤ 9000) (hok : ∀ p ∈ PP, okS p) (d : Nat) : ∀ (i : Nat) (t : PS), i + d = PP.length → t.ok → t.os.length = i →
    Ev (fun k => product_Lay.l0 k PP (PP.length : Int) (i : Int) (t.s : Int) (t.a : Int) t.sp (ints t.os) false) (layR (layF (PP.drop i) t)) := by
  induction d with
  | zero =>
    intro i t hi ht ho
    refine Ev.step (f := fun _ => some (layR (some t))) (fun k => ?_) ?_
    · simp only [product_Lay.l0]
      rw [if_neg (by omega)]
      rfl
    · rw [List.drop_of_length_le (by omega)]
      exact Ev.now _
  | succ d ih =>
    intro i t hi ht ho
    obtain ⟨h1, h2, h3⟩ := ht
    have hlt : i < PP.length := by omega
    have hp := hok _ (List.getElem_mem hlt)
    have hrd : rd_T31 PP (i : Int) = PP[i] := by
      unfold rd_T31
      rw [Int.toNat_natCast, List.getD_eq_getElem?_getD, List.getElem?_eq_getElem hlt]
      rfl
    have hdrop : PP.drop i = PP[i] :: PP.drop (i + 1) := List.drop_eq_getElem_cons hlt
    rw [hdrop]
    revert hp hrd
    generalize PP[i] = p
    intro hp hrd
    obtain ⟨p1, p2, p3, p4⟩ := (okS_iff p).1 hp
    have hu := up_ge t.s p.f1 p3
    have hsum : wrap64 (((up t.s p.f1.toNat : Nat) : Int) + p.f0) = (((t.add p).s : Nat) : Int) := by
      simp only [PS.add]
      unfold wrap64
      omega
    have hstep : ∀ k, product_Lay.l0 (k + 1) PP (PP.length : Int) (i : Int) (t.s : Int) (t.a : Int) t.sp (ints t.os) false = if 1024 < (t.add p).s then some (layR none) else product_Lay.l0 k PP (PP.length : Int) ((i + 1 : Nat) : Int) ((t.add p).s : Int) ((t.add p).a : Int) (t.add p).sp (ints (t.add p).os) false := by
      intro k
      simp only [product_Lay.l0]
      rw [if_pos (by omega), if_pos (by omega), if_pos (by omega), hrd, Align_eq t.s (by omega) p.f1 p3]
      simp only [Option.bind_some]
      rw [hsum]
      by_cases hb : 1024 < (t.add p).s
      · rw [if_pos (by omega), if_pos hb]
        rfl
      · have hos : (ints t.os).length < 17592186044416 := by rw [ints_length]; omega
        have hsub : wrap64 (((up t.s p.f1.toNat : Nat) : Int) - (t.s : Int)) = ((up t.s p.f1.toNat - t.s : Nat) : Int) := by unfold wrap64; omega
        rw [if_neg (by omega), if_neg hb, if_pos hos, hsub, if_pos (by omega), Int.toNat_natCast, if_pos (by omega), if_pos (by simp; omega), show wrap64 ((i : Int) + 1) = ((i + 1 : Nat) : Int) by unfold wrap64; omega, mx_nat _ _ (by omega)]
        simp only [PS.add]
        rw [ints_snoc]
    by_cases hb : 1024 < (t.add p).s
    · refine Ev.step (f := fun _ => some (layR none)) (fun k => by rw [hstep, if_pos hb]) ?_
      simp only [layF, if_pos hb]
      exact Ev.now _
    · refine Ev.step (f := fun k => product_Lay.l0 k PP (PP.length : Int) ((i + 1 : Nat) : Int) ((t.add p).s : Int) ((t.add p).a : Int) (t.add p).sp (ints (t.add p).os) false) (fun k => by rw [hstep, if_neg hb]) ?_
      simp only [layF, if_neg hb]
      exact ih (i + 1) (t.add p) (by omega) (PS.add_ok ⟨h1, h2, h3⟩ hp hb) (by simp only [PS.add, List.length_append, List.length_singleton]; omega)
def badR : LT9 := (0, 0, [], [], [], [], [], false, 19)
/-- What Lay answers. -/
def layV (ps : List S31) : LT9 := if ps.any badS then badR else layR (layF ps PS.start)
theorem pLay_ev (ps : List S31) (hP : ps.length ≤ 9000) : Ev (fun k => product_Lay.f k ps) (layV ps) := by
  unfold layV
  by_cases hb : ps.any badS = true
  · rw [if_pos hb]
    refine Ev.congr (f := fun _ => some badR) (fun k => ?_) (Ev.now _)
    unfold product_Lay.f AnyBadP.f
    simp only [Option.bind_some]
    rw [if_pos hb]
    rfl
  · rw [if_neg hb]
    have hok : ∀ p ∈ ps, okS p := by
      intro p hp
      unfold okS
      cases h : badS p with
      | false => rfl
      | true => exact absurd (List.any_eq_true.2 ⟨p, hp, h⟩) hb
    refine Ev.congr (f := fun k => product_Lay.l0 k ps (ps.length : Int) 0 0 1 [] [] false) (fun k => ?_) ?_
    · unfold product_Lay.f AnyBadP.f
      simp only [Option.bind_some]
      rw [if_neg hb]
    · have h := pLay_from ps hP hok ps.length 0 PS.start (by omega) PS.start_ok rfl
      rw [List.drop_zero] at h
      exact h
theorem rAlign_eq (s : Nat) (hs : s ≤ 9000) (a : Int) (h : a = 1 ∨ a = 8) : ref16_Align.f (s : Int) a = some ((up s a.toNat : Nat) : Int) := by
  unfold ref16_Align.f
  rcases h with rfl | rfl
  · rw [if_neg (by omega), if_neg (by omega), show Int.tmod (s : Int) 1 = 0 from Int.tmod_one _, if_pos rfl, show (1 : Int).toNat = 1 from rfl, up_1]
  · have e : Int.tmod (s : Int) 8 = ((s % 8 : Nat) : Int) := by rw [Int.tmod_eq_emod_of_nonneg (by omega)]; omega
    rw [if_neg (by omega), if_neg (by omega), e, show (8 : Int).toNat = 8 from rfl, up_8]
    by_cases h : s % 8 = 0
    · rw [if_pos (by omega)]
      congr 1
      omega
    · rw [if_neg (by omega)]
      congr 1
      unfold wrap64
      omega
theorem rValid_eq (p : S31) : ref15_Valid.f p.f0 p.f1 p.f2 p.f3 p.f4 p.f5 p.f6 p.f7 = some (!(badS p)) := mask_Valid_eq p
theorem rd31_at (PP : List S31) (i : Nat) (hlt : i < PP.length) : rd_T31 PP (i : Int) = PP[i] := by
  unfold rd_T31
  rw [Int.toNat_natCast, List.getD_eq_getElem?_getD, List.getElem?_eq_getElem hlt]
  rfl
theorem rPad_from (PP : List S31) (e i s a : Int) (os : List Int) (b : Bool) (p : S31) (sp : List Int) (hp : p.f2.length ≤ 9000) (hi : wrap64 (i + 1) = i + 1) (r : LT9) (n : Nat) (hn : n ≤ 9000) (d : Nat) : ∀ (sp : List Int), sp.length + d = n →
    Ev (fun k => ref16_Lay.l1 k PP e (i + 1) (wrap64 ((n : Int) + p.f0)) (mx a p.f1) (sp ++ List.replicate d 0 ++ p.f2) os b) r →
    Ev (fun k => ref16_Lay.l2 k (n : Int) PP e i s a sp os b p.f0 p.f1 p.f2 p.f3 p.f4 p.f5 p.f6 p.f7) r := by
  induction d with
  | zero =>
    intro sp hs h
    refine Ev.step (f := fun k => ref16_Lay.l1 k PP e (i + 1) (wrap64 ((n : Int) + p.f0)) (mx a p.f1) (sp ++ p.f2) os b) (fun k => ?_) ?_
    · simp only [ref16_Lay.l2]
      rw [if_neg (by omega), if_pos (by omega), hi]
    · simp only [List.replicate_zero, List.append_nil] at h
      exact h
  | succ d ih =>
    intro sp hs h
    refine Ev.step (f := fun k => ref16_Lay.l2 k (n : Int) PP e i s a (sp ++ [0]) os b p.f0 p.f1 p.f2 p.f3 p.f4 p.f5 p.f6 p.f7) (fun k => ?_) (ih (sp ++ [0]) (by simp; omega) ?_)
    · simp only [ref16_Lay.l2]
      rw [if_pos (by omega), if_pos (by omega)]
    · have e : sp ++ [0] ++ List.replicate d 0 = sp ++ List.replicate (d + 1) (0 : Int) := by rw [List.replicate_succ, List.append_assoc, List.singleton_append]
      rw [e]
      exact h
theorem rLay_from (PP : List S31) (hP : PP.length ≤ 9000) (hok : ∀ p ∈ PP, okS p) (d : Nat) : ∀ (i : Nat) (t : PS), i + d = PP.length → t.ok → t.os.length = i →
    Ev (fun k => ref16_Lay.l1 k PP (PP.length : Int) (i : Int) (t.s : Int) (t.a : Int) t.sp (ints t.os) false) (layR (layF (PP.drop i) t)) := by
  induction d with
  | zero =>
    intro i t hi ht ho
    refine Ev.step (f := fun _ => some (layR (some t))) (fun k => ?_) ?_
    · simp only [ref16_Lay.l1]
      rw [if_neg (by omega)]
      rfl
    · rw [List.drop_of_length_le (by omega)]
      exact Ev.now _
  | succ d ih =>
    intro i t hi ht ho
    obtain ⟨h1, h2, h3⟩ := ht
    have hlt : i < PP.length := by omega
    have hp := hok _ (List.getElem_mem hlt)
    have hrd := rd31_at PP i hlt
    have hdrop : PP.drop i = PP[i] :: PP.drop (i + 1) := List.drop_eq_getElem_cons hlt
    rw [hdrop]
    revert hp hrd
    generalize PP[i] = p
    intro hp hrd
    obtain ⟨p1, p2, p3, p4⟩ := (okS_iff p).1 hp
    have hu := up_ge t.s p.f1 p3
    have hsum : wrap64 (((up t.s p.f1.toNat : Nat) : Int) + p.f0) = (((t.add p).s : Nat) : Int) := by
      simp only [PS.add]
      unfold wrap64
      omega
    have hos : (ints t.os).length < 17592186044416 := by rw [ints_length]; omega
    have hstep : ∀ k, ref16_Lay.l1 (k + 1) PP (PP.length : Int) (i : Int) (t.s : Int) (t.a : Int) t.sp (ints t.os) false = if 1024 < (t.add p).s then some (layR none) else ref16_Lay.l2 k ((up t.s p.f1.toNat : Nat) : Int) PP (PP.length : Int) (i : Int) (t.s : Int) (t.a : Int) t.sp (ints (t.add p).os) false p.f0 p.f1 p.f2 p.f3 p.f4 p.f5 p.f6 p.f7 := by
      intro k
      simp only [ref16_Lay.l1]
      rw [if_pos (by omega), if_pos (by omega), if_pos (by omega), hrd, rAlign_eq t.s (by omega) p.f1 p3]
      simp only [Option.bind_some]
      rw [hsum]
      by_cases hb : 1024 < (t.add p).s
      · rw [if_pos (by omega), if_pos hb]
        rfl
      · rw [if_neg (by omega), if_neg hb, if_pos hos]
        simp only [PS.add]
        rw [ints_snoc]
    by_cases hb : 1024 < (t.add p).s
    · refine Ev.step (f := fun _ => some (layR none)) (fun k => by rw [hstep, if_pos hb]) ?_
      simp only [layF, if_pos hb]
      exact Ev.now _
    · refine Ev.step (f := fun k => ref16_Lay.l2 k ((up t.s p.f1.toNat : Nat) : Int) PP (PP.length : Int) (i : Int) (t.s : Int) (t.a : Int) t.sp (ints (t.add p).os) false p.f0 p.f1 p.f2 p.f3 p.f4 p.f5 p.f6 p.f7) (fun k => by rw [hstep, if_neg hb]) ?_
      simp only [layF, if_neg hb]
      have hbs : (t.add p).s = up t.s p.f1.toNat + p.f0.toNat := rfl
      refine rPad_from PP _ (i : Int) _ _ _ _ p t.sp (by omega) (by unfold wrap64; omega) _ (up t.s p.f1.toNat) (by omega) (up t.s p.f1.toNat - t.s) t.sp (by omega) ?_
      rw [hsum, mx_nat _ _ (by omega), show (i : Int) + 1 = ((i + 1 : Nat) : Int) by omega]
      exact ih (i + 1) (t.add p) (by omega) (PS.add_ok ⟨h1, h2, h3⟩ hp hb) (by simp only [PS.add, List.length_append, List.length_singleton]; omega)
theorem rChk_from (PP : List S31) (hP : PP.length ≤ 9000) (d : Nat) : ∀ (i : Nat), i + d = PP.length →
    Ev (fun k => ref16_Lay.l0 k PP PP (PP.length : Int) (i : Int) 0 1 false) (if (PP.drop i).any badS then badR else if PP.any badS then badR else layR (layF PP PS.start)) ∨ (PP.take i).any badS = true := by
  induction d with
  | zero =>
    intro i hi
    rw [List.drop_of_length_le (by omega), List.take_of_length_le (by omega)]
    by_cases hb : PP.any badS = true
    · exact .inr hb
    · left
      simp only [List.any_nil, Bool.false_eq_true, if_false, hb]
      have hok : ∀ p ∈ PP, okS p := by
        intro p hp
        unfold okS
        cases h : badS p with
        | false => rfl
        | true => exact absurd (List.any_eq_true.2 ⟨p, hp, h⟩) hb
      have h := rLay_from PP hP hok PP.length 0 PS.start (by omega) PS.start_ok rfl
      rw [List.drop_zero] at h
      refine Ev.step (f := fun k => ref16_Lay.l1 k PP (PP.length : Int) 0 0 1 [] [] false) (fun k => ?_) h
      simp only [ref16_Lay.l0]
      rw [if_neg (by omega)]
  | succ d ih =>
    intro i hi
    have hlt : i < PP.length := by omega
    have hrd := rd31_at PP i hlt
    have hdrop : PP.drop i = PP[i] :: PP.drop (i + 1) := List.drop_eq_getElem_cons hlt
    have htake : PP.take (i + 1) = PP.take i ++ [PP[i]] := List.take_succ_eq_append_getElem hlt
    have hw : wrap64 ((i : Int) + 1) = ((i + 1 : Nat) : Int) := by unfold wrap64; omega
    rw [hdrop, List.any_cons]
    have hih := ih (i + 1) (by omega)
    rw [htake, List.any_append] at hih
    revert hih hrd
    generalize PP[i] = p
    intro hrd hih
    cases hp : badS p with
    | true =>
      left
      refine Ev.step (f := fun _ => some badR) (fun k => ?_) ?_
      · simp only [ref16_Lay.l0]
        rw [if_pos (by omega), if_pos (by omega), if_pos (by omega), hrd, rValid_eq, hp]
        rfl
      · rw [Bool.true_or, if_pos rfl]
        exact Ev.now _
    | false =>
      rcases hih with h | h
      · left
        rw [Bool.false_or]
        refine Ev.step (f := fun k => ref16_Lay.l0 k PP PP (PP.length : Int) ((i + 1 : Nat) : Int) 0 1 false) (fun k => ?_) h
        simp only [ref16_Lay.l0]
        rw [if_pos (by omega), if_pos (by omega), if_pos (by omega), hrd, rValid_eq, hp, hw]
        rfl
      · right
        simpa [hp] using h
theorem rLay_ev (ps : List S31) (hP : ps.length ≤ 9000) : Ev (fun k => ref16_Lay.f k ps) (layV ps) := by
  rcases rChk_from ps hP ps.length 0 (by omega) with h | h
  · rw [List.drop_zero] at h
    have e : (if ps.any badS then badR else if ps.any badS then badR else layR (layF ps PS.start)) = layV ps := by
      unfold layV
      by_cases hb : ps.any badS = true
      · rw [if_pos hb, if_pos hb]
      · rw [if_neg hb, if_neg hb]
    rw [e] at h
    exact h
  · simp at h
/-- What the layouts are whose rules the dice keep. -/
def Lok (p : S31) : Prop := Byt p.f2 ∧ p.f3.length ≤ 9000
theorem PS.add_Byt {t : PS} (ht : Byt t.sp) {p : S31} (hp : Lok p) : Byt (t.add p).sp := (ht.append (Byt.replicate _ (by omega))).append hp.1
theorem layF_Byt : ∀ (ps : List S31) (t : PS), Byt t.sp → (∀ p ∈ ps, Lok p) → ∀ u, layF ps t = some u → Byt u.sp
  | [], t, ht, _, u, h => by
    obtain rfl : t = u := Option.some.inj h
    exact ht
  | p :: ps, t, ht, hp, u, h => by
    simp only [layF] at h
    split at h
    · cases h
    · exact layF_Byt ps _ (PS.add_Byt ht (hp p List.mem_cons_self)) (fun q hq => hp q (List.mem_cons_of_mem _ hq)) u h
theorem layV_Byt (ps : List S31) (h : ∀ p ∈ ps, Lok p) : Byt (layV ps).2.2.1 := by
  unfold layV
  split
  · exact Byt.nil
  · cases hf : layF ps PS.start with
    | none => exact Byt.nil
    | some u => exact layF_Byt ps PS.start Byt.nil h u hf
theorem layF_os : ∀ (ps : List S31) (t u : PS), layF ps t = some u → u.os.length = t.os.length + ps.length
  | [], t, u, h => by
    obtain rfl : t = u := Option.some.inj h
    rfl
  | p :: ps, t, u, h => by
    simp only [layF] at h
    split at h
    · cases h
    · rw [layF_os ps _ u h]
      simp only [PS.add, List.length_append, List.length_cons, List.length_nil]
      omega
theorem layV_len (ps : List S31) : (layV ps).2.2.2.1.length ≤ ps.length := by
  unfold layV
  split
  · exact Nat.zero_le _
  · cases hf : layF ps PS.start with
    | none => exact Nat.zero_le _
    | some u =>
      show (ints u.os).length ≤ _
      rw [ints_length, layF_os ps PS.start u hf]
      show 0 + ps.length ≤ _
      omega
def S9 (r : LT9) : S31 := ⟨r.1, r.2.1, r.2.2.1, r.2.2.2.1, r.2.2.2.2.1, r.2.2.2.2.2.1, r.2.2.2.2.2.2.1, r.2.2.2.2.2.2.2.1⟩
def at9 (r : LT9) : Int := r.2.2.2.2.2.2.2.2
theorem layF_split : ∀ (ps : List S31) (t u : PS), t.ok → (∀ p ∈ ps, okS p) → layF ps t = some u → u.ok ∧ (∃ r, u.sp = t.sp ++ r) ∧ (∃ q, u.os = t.os ++ q) ∧ t.s ≤ u.s ∧ u.os.length = t.os.length + ps.length
  | [], t, u, ht, _, h => by
    obtain rfl : t = u := Option.some.inj h
    exact ⟨ht, ⟨[], by simp⟩, ⟨[], by simp⟩, Nat.le_refl _, rfl⟩
  | p :: ps, t, u, ht, hp, h => by
    simp only [layF] at h
    split at h
    · cases h
    · rename_i hb
      have hok := hp p List.mem_cons_self
      obtain ⟨p1, p2, p3, p4⟩ := (okS_iff p).1 hok
      have hu := up_ge t.s p.f1 p3
      obtain ⟨h1, ⟨r, hr⟩, ⟨q, hq⟩, h4, h5⟩ := layF_split ps (t.add p) u (PS.add_ok ht hok hb) (fun x hx => hp x (List.mem_cons_of_mem _ hx)) h
      have hs : t.s ≤ (t.add p).s := by
        show t.s ≤ up t.s p.f1.toNat + p.f0.toNat
        omega
      refine ⟨h1, ⟨List.replicate (up t.s p.f1.toNat - t.s) 0 ++ p.f2 ++ r, ?_⟩, ⟨[up t.s p.f1.toNat] ++ q, ?_⟩, by omega, ?_⟩
      · rw [hr]
        simp only [PS.add, List.append_assoc]
      · rw [hq]
        simp only [PS.add, List.append_assoc]
      · rw [h5]
        simp only [PS.add, List.length_append, List.length_cons, List.length_nil]
        omega
theorem awake16_eq : Awake16.f = some true := rfl
theorem any_ok {ps : List S31} (hok : ∀ p ∈ ps, okS p) : ps.any badS = false := by
  cases h : ps.any badS with
  | false => rfl
  | true =>
    obtain ⟨p, hp, hb⟩ := List.any_eq_true.1 h
    have := hok p hp
    unfold okS at this
    rw [hb] at this
    cases this
theorem layF_ok : ∀ (ps : List S31) (t : PS), t.ok → (∀ p ∈ ps, okS p) → ∀ u, layF ps t = some u → u.ok
  | [], t, ht, _, u, h => by
    obtain rfl : t = u := Option.some.inj h
    exact ht
  | p :: ps, t, ht, hp, u, h => by
    simp only [layF] at h
    split at h
    · cases h
    · rename_i hs
      exact layF_ok ps _ (PS.add_ok ht (hp p List.mem_cons_self) hs) (fun q hq => hp q (List.mem_cons_of_mem _ hq)) u h
theorem not_any {ps : List S31} (h : ¬ ps.any badS = true) : ∀ p ∈ ps, okS p := by
  intro p hp
  unfold okS
  cases h2 : badS p with
  | false => rfl
  | true => exact absurd (List.any_eq_true.2 ⟨p, hp, h2⟩) h
theorem layV_len2 (ps : List S31) : (layV ps).2.2.1.length ≤ 1024 := by
  unfold layV
  split
  · exact Nat.zero_le _
  · rename_i hb
    cases hf : layF ps PS.start with
    | none => exact Nat.zero_le _
    | some u =>
      obtain ⟨h1, h2, _⟩ := layF_ok ps PS.start PS.start_ok (not_any hb) u hf
      show u.sp.length ≤ 1024
      omega
theorem Layout_ev2 (l : List Int) (hl : l.length ≤ 9000) (d : Nat) : ∀ a : Int, At l a → ((l.length : Int) - a).toNat ≤ d →
    ∃ r : LT9, Ev (fun k => made_Dice_Layout.f k l a) r ∧ (Lok (S9 r) ∧ (S9 r).f2.length ≤ 9000) ∧ At l (at9 r) ∧ a ≤ at9 r := by
  induction d using Nat.strongRecOn with
  | _ d ih =>
  intro a ha hd
  obtain ⟨v, b, hv, h0, h1, hb, hab, hz⟩ := Next_eq l hl a 7 ha (by omega) (by omega)
  have go : ∀ (r : LT9) (g : Nat → Option LT9), (∀ k, made_Dice_Layout.f (k + 1) l a = g k) → Ev g r → Ev (fun k => made_Dice_Layout.f k l a) r := fun r g h1 h2 => Ev.step h1 h2
  by_cases c0 : v = 0
  · refine ⟨((8, 8, List.replicate 8 0, [], [], [], [], false, b) : LT9), go _ _ (fun k => by simp only [made_Dice_Layout.f]; rw [hv]; simp only [Option.bind_some]; rw [if_pos c0]) (Ev.now _), ?_, hb, hab⟩
    exact ⟨⟨Byt.replicate 8 (show (0 : Int) ≤ 0 ∧ (0 : Int) < 256 by omega), Nat.zero_le _⟩, by simp [S9]⟩
  by_cases c1 : v = 1
  · refine ⟨((1, 1, [0], [], [], [], [], false, b) : LT9), go _ _ (fun k => by simp only [made_Dice_Layout.f]; rw [hv]; simp only [Option.bind_some]; rw [if_neg c0, if_pos c1]) (Ev.now _), ?_, hb, hab⟩
    exact ⟨⟨Byt.cons.2 ⟨by omega, Byt.nil⟩, Nat.zero_le _⟩, by simp [S9]⟩
  by_cases c2 : v = 2
  · refine ⟨((1, 1, [254], [], [], [], [], false, b) : LT9), go _ _ (fun k => by simp only [made_Dice_Layout.f]; rw [hv]; simp only [Option.bind_some]; rw [if_neg c0, if_neg c1, if_pos c2]) (Ev.now _), ?_, hb, hab⟩
    exact ⟨⟨Byt.cons.2 ⟨by omega, Byt.nil⟩, Nat.zero_le _⟩, by simp [S9]⟩
  by_cases c3 : v = 3
  · refine ⟨((8, 8, [7, 0, 0, 0, 0, 0, 255, 255], [], [], [], [], true, b) : LT9), go _ _ (fun k => by simp only [made_Dice_Layout.f]; rw [hv]; simp only [Option.bind_some]; rw [if_neg c0, if_neg c1, if_neg c2, if_pos c3]) (Ev.now _), ?_, hb, hab⟩
    refine ⟨⟨?_, Nat.zero_le _⟩, by simp [S9]⟩
    intro x hx
    simp only [S9, List.mem_cons, List.not_mem_nil, or_false] at hx
    omega
  by_cases c4 : v = 4
  · have hlt : a < b := by
      rcases Int.lt_or_eq_of_le hab with h | h
      · exact h
      · exact absurd (hz h) c0
    have hb1 := hb.1
    have hb2 := hb.2
    have ha1 := ha.1
    obtain ⟨r1, e1, k1, m1, n1⟩ := ih ((l.length : Int) - b).toNat (by omega) b hb (by omega)
    have m11 := m1.1
    have m12 := m1.2
    obtain ⟨r2, e2, k2, m2, n2⟩ := ih ((l.length : Int) - at9 r1).toNat (by omega) (at9 r1) m1 (by omega)
    have e3 := rLay_ev [S9 r1, S9 r2] (by simp)
    have k3 := layV_Byt [S9 r1, S9 r2] (by
      intro p hp
      simp only [List.mem_cons, List.not_mem_nil, or_false] at hp
      rcases hp with rfl | rfl
      · exact k1.1
      · exact k2.1)
    refine ⟨(((layV [S9 r1, S9 r2]).1, (layV [S9 r1, S9 r2]).2.1, (layV [S9 r1, S9 r2]).2.2.1, (layV [S9 r1, S9 r2]).2.2.2.1, (layV [S9 r1, S9 r2]).2.2.2.2.1, (layV [S9 r1, S9 r2]).2.2.2.2.2.1, (layV [S9 r1, S9 r2]).2.2.2.2.2.2.1, (layV [S9 r1, S9 r2]).2.2.2.2.2.2.2.1, at9 r2) : LT9), go _ (fun k => (made_Dice_Layout.f k l b).bind fun bt168 => ((made_Dice_Layout.f k l bt168.2.2.2.2.2.2.2.2).bind fun bt187 => ((ref16_Lay.f k (([(⟨bt168.1, bt168.2.1, bt168.2.2.1, bt168.2.2.2.1, bt168.2.2.2.2.1, bt168.2.2.2.2.2.1, bt168.2.2.2.2.2.2.1, bt168.2.2.2.2.2.2.2.1⟩ : S31), (⟨bt187.1, bt187.2.1, bt187.2.2.1, bt187.2.2.2.1, bt187.2.2.2.2.1, bt187.2.2.2.2.2.1, bt187.2.2.2.2.2.2.1, bt187.2.2.2.2.2.2.2.1⟩ : S31)] : List (S31)))).bind fun bt209 => (some ((bt209.1, bt209.2.1, bt209.2.2.1, bt209.2.2.2.1, bt209.2.2.2.2.1, bt209.2.2.2.2.2.1, bt209.2.2.2.2.2.2.1, bt209.2.2.2.2.2.2.2.1, bt187.2.2.2.2.2.2.2.2) : LT9))))) (fun k => by simp only [made_Dice_Layout.f]; rw [hv]; simp only [Option.bind_some]; rw [if_neg c0, if_neg c1, if_neg c2, if_neg c3, if_pos c4]) ?_, ⟨⟨k3, Nat.le_trans (layV_len [S9 r1, S9 r2]) (by simp)⟩, Nat.le_trans (layV_len2 [S9 r1, S9 r2]) (by omega)⟩, m2, by show a ≤ at9 r2; omega⟩
    refine Ev.bind e1 (Ev.bind e2 (Ev.bind e3 ?_))
    exact Ev.now _
  by_cases c5 : v = 5
  · refine ⟨((0, 1, [], [], [], [], [], false, b) : LT9), go _ _ (fun k => by simp only [made_Dice_Layout.f]; rw [hv]; simp only [Option.bind_some]; rw [if_neg c0, if_neg c1, if_neg c2, if_neg c3, if_neg c4, if_pos c5]) (Ev.now _), ?_, hb, hab⟩
    exact ⟨⟨Byt.nil, Nat.zero_le _⟩, by simp [S9]⟩
  · obtain ⟨y, c, e1, hy, hyl, hc, hbc⟩ := Bytes_ev l hl b 12 hb (by omega) (by omega)
    obtain ⟨v2, b2, hv2, h02, h12, hb2, hab2, _⟩ := Next_eq l hl c 2 hc (by omega) (by omega)
    refine ⟨(((y.length : Int), wrap64 (1 + (wrap64 (7 * v2))), y, [], [], [], [], false, b2) : LT9), go _ (fun k => (made_Dice_Bytes.f k l b 12).bind fun bt229 => ((made_Dice_Next.f l bt229.2 2).bind fun bt233 => (some (((bt229.1.length : Int), wrap64 (1 + (wrap64 (7 * bt233.1))), bt229.1, ([] : List Int), ([] : List (S101)), ([] : List (S79)), ([] : List Int), false, bt233.2) : LT9)))) (fun k => by simp only [made_Dice_Layout.f]; rw [hv]; simp only [Option.bind_some]; rw [if_neg c0, if_neg c1, if_neg c2, if_neg c3, if_neg c4, if_neg c5]) ?_, ⟨⟨hy, Nat.zero_le _⟩, by show y.length ≤ 9000; omega⟩, hb2, by show a ≤ b2; omega⟩
    refine Ev.bind e1 ?_
    simp only [hv2, Option.bind_some]
    exact Ev.now _
theorem lay_facts : ∀ (ps : List S31) (t u : PS), t.ok → (∀ p ∈ ps, okS p) → layF ps t = some u → ∀ i p, ps[i]? = some p →
    t.s ≤ u.os.getD (t.os.length + i) 0 ∧ u.os.getD (t.os.length + i) 0 + p.f0.toNat ≤ u.s ∧ u.os.getD (t.os.length + i) 0 % p.f1.toNat = 0 ∧
    ∀ i', i < i' → i' < ps.length → u.os.getD (t.os.length + i) 0 + p.f0.toNat ≤ u.os.getD (t.os.length + i') 0
  | [], t, u, _, _, _, i, p, hi => by simp at hi
  | q :: ps, t, u, ht, hp, h, i, p, hi => by
    simp only [layF] at h
    split at h
    · cases h
    · rename_i hb
      have hok := hp q List.mem_cons_self
      obtain ⟨p1, p2, p3, p4⟩ := (okS_iff q).1 hok
      have hu := up_ge t.s q.f1 p3
      have ht' := PS.add_ok ht hok hb
      have hok' : ∀ x ∈ ps, okS x := fun x hx => hp x (List.mem_cons_of_mem _ hx)
      obtain ⟨_, _, ⟨r, hr⟩, hs2, _⟩ := layF_split ps (t.add q) u ht' hok' h
      have hl : (t.add q).os.length = t.os.length + 1 := by simp only [PS.add, List.length_append, List.length_singleton]
      have ih := lay_facts ps (t.add q) u ht' hok' h
      rw [hl] at ih
      have hs' : (t.add q).s = up t.s q.f1.toNat + q.f0.toNat := rfl
      cases i with
      | zero =>
        obtain rfl : q = p := by simpa using hi
        have h0 : u.os.getD (t.os.length + 0) 0 = up t.s q.f1.toNat := by
          rw [hr]
          simp only [PS.add]
          rw [List.getD_eq_getElem?_getD, List.append_assoc, List.getElem?_append, if_neg (by omega), Nat.add_zero, Nat.sub_self]
          rfl
        rw [h0]
        refine ⟨hu.1, by omega, hu.2.2, fun i' h1 h2 => ?_⟩
        obtain ⟨j, rfl⟩ : ∃ j, i' = j + 1 := ⟨i' - 1, by omega⟩
        have hj : j < ps.length := by simpa using h2
        obtain ⟨h3, _⟩ := ih j ps[j] (List.getElem?_eq_getElem hj)
        rw [show t.os.length + (j + 1) = t.os.length + 1 + j by omega]
        omega
      | succ i =>
        obtain ⟨h1, h2, h3, h4⟩ := ih i p (by simpa using hi)
        rw [show t.os.length + (i + 1) = t.os.length + 1 + i by omega]
        refine ⟨by omega, h2, h3, fun i' h5 h6 => ?_⟩
        obtain ⟨j, rfl⟩ : ∃ j, i' = j + 1 := ⟨i' - 1, by omega⟩
        have h7 := h4 j (by omega) (by simpa using h6)
        rw [show t.os.length + (j + 1) = t.os.length + 1 + j by omega]
        exact h7
def gd (Q : List (List Int)) (m : Nat) : List Int := Q.getD m []
def og (O : List Nat) (m : Nat) : Nat := O.getD m 0
def cov (O : List Nat) (Q : List (List Int)) (i j : Nat) : Prop := ∃ m, m < i ∧ og O m ≤ j ∧ j < og O m + (gd Q m).length
def Geo (O : List Nat) (Q : List (List Int)) (S : Nat) : Prop := O.length = Q.length ∧ Q.length ≤ 9000 ∧ S ≤ 1024 ∧ (∀ m, m < Q.length → og O m + (gd Q m).length ≤ S) ∧ (∀ m m', m < m' → m' < Q.length → og O m + (gd Q m).length ≤ og O m')
def JO (O : List Nat) (Q : List (List Int)) (S i : Nat) (out : List Int) : Prop := out.length = S ∧ (∀ m, m < i → ∀ t, t < (gd Q m).length → out.getD (og O m + t) 0 = (gd Q m).getD t 0) ∧ (∀ j, ¬ cov O Q i j → out.getD j 0 = 0)
def TK (O : List Nat) (Q : List (List Int)) (S i : Nat) (tk : List Bool) : Prop := tk.length = S ∧ ∀ j, ¬ cov O Q i j → tk.getD j false = false
theorem cov_mono {O : List Nat} {Q : List (List Int)} {i j : Nat} (h : cov O Q i j) : cov O Q (i + 1) j := by
  obtain ⟨m, h1, h2, h3⟩ := h
  exact ⟨m, by omega, h2, h3⟩
theorem cov_here {O : List Nat} {Q : List (List Int)} {i j : Nat} (h1 : og O i ≤ j) (h2 : j < og O i + (gd Q i).length) : cov O Q (i + 1) j := ⟨i, by omega, h1, h2⟩
theorem cov_succ {O : List Nat} {Q : List (List Int)} {i j : Nat} (h : cov O Q (i + 1) j) : cov O Q i j ∨ (og O i ≤ j ∧ j < og O i + (gd Q i).length) := by
  obtain ⟨m, h1, h2, h3⟩ := h
  rcases Nat.lt_or_ge m i with h4 | h4
  · exact .inl ⟨m, h4, h2, h3⟩
  · obtain rfl : m = i := by omega
    exact .inr ⟨h2, h3⟩
theorem not_cov {O : List Nat} {Q : List (List Int)} {S i j : Nat} (G : Geo O Q S) (hi : i < Q.length) (h : og O i ≤ j) : ¬ cov O Q i j := by
  rintro ⟨m, h1, h2, h3⟩
  have := G.2.2.2.2 m i h1 hi
  omega
theorem getD_set_eq {α : Type} (l : List α) (i j : Nat) (x d : α) : (l.set i x).getD j d = if i = j ∧ j < l.length then x else l.getD j d := by
  rw [List.getD_eq_getElem?_getD, List.getD_eq_getElem?_getD, List.getElem?_set]
  by_cases h : i = j
  · subst h
    by_cases h2 : i < l.length
    · rw [if_pos rfl, if_pos h2, if_pos ⟨rfl, h2⟩]
      rfl
    · rw [if_pos rfl, if_neg h2, if_neg (fun h3 => h2 h3.2), List.getElem?_eq_none (by omega)]
  · rw [if_neg h, if_neg (fun h3 => h h3.1)]
theorem getD_cpy : ∀ (ys xs : List Int) (off j : Nat), off + ys.length ≤ xs.length → (cpy xs off ys).getD j 0 = if off ≤ j ∧ j < off + ys.length then ys.getD (j - off) 0 else xs.getD j 0
  | [], xs, off, j, _ => by
    rw [if_neg (by simp only [List.length_nil]; omega)]
    rfl
  | y :: ys, xs, off, j, h => by
    simp only [List.length_cons] at h
    rw [cpy, getD_cpy ys (xs.set off y) (off + 1) j (by rw [List.length_set]; omega), getD_set_eq]
    simp only [List.length_cons]
    by_cases h1 : j = off
    · subst h1
      rw [if_neg (by omega), if_pos ⟨rfl, by omega⟩, if_pos (by omega), Nat.sub_self]
      rfl
    · by_cases h2 : off ≤ j ∧ j < off + (ys.length + 1)
      · rw [if_pos (by omega), if_pos h2, show j - off = (j - (off + 1)) + 1 by omega]
        rfl
      · rw [if_neg (by omega), if_neg (by omega), if_neg h2]
theorem getD_part {α : Type} (l : List α) (a b t : Nat) (d : α) : ((l.take b).drop a).getD t d = if a + t < b then l.getD (a + t) d else d := by
  rw [List.getD_eq_getElem?_getD, List.getElem?_drop, List.getElem?_take, List.getD_eq_getElem?_getD]
  split
  · rfl
  · rfl
theorem index_none (l : List Bool) (hl : l.length ≤ 9000) (h : ∀ j, l.getD j false = false) (d : Nat) : ∀ j : Nat, j + d = l.length → Ev (fun k => slices_Index_bool_bool.l0 k l true (l.length : Int) (j : Int)) (-1) := by
  induction d with
  | zero =>
    intro j hj
    refine Ev.step (f := fun _ => some (-1)) (fun k => ?_) (Ev.now _)
    simp only [slices_Index_bool_bool.l0]
    rw [if_neg (by omega)]
  | succ d ih =>
    intro j hj
    refine Ev.step (fun k => ?_) (ih (j + 1) (by omega))
    simp only [slices_Index_bool_bool.l0]
    have e : rdOf false l (j : Int) = false := by
      unfold rdOf
      rw [Int.toNat_natCast]
      exact h j
    rw [if_pos (by omega), if_pos (by omega), if_pos (by omega), e, if_neg (by decide), show wrap64 ((j : Int) + 1) = ((j + 1 : Nat) : Int) by unfold wrap64; omega]
theorem contains_none (l : List Bool) (hl : l.length ≤ 9000) (h : ∀ j, l.getD j false = false) : Ev (fun k => slices_Contains_bool_bool.f k l true) false := by
  refine Ev.congr (f := fun k => (slices_Index_bool_bool.l0 k l true (l.length : Int) ((0 : Nat) : Int)).bind fun t236 => (some (decide (t236 ≥ 0)))) (fun k => rfl) ?_
  refine Ev.bind (index_none l hl h l.length 0 (by omega)) ?_
  exact Ev.now _
theorem TK_part {O : List Nat} {Q : List (List Int)} {S i : Nat} {tk : List Bool} (G : Geo O Q S) (hi : i < Q.length) (h : TK O Q S i tk) : ∀ j, ((tk.take (og O i + (gd Q i).length)).drop (og O i)).getD j false = false := by
  intro j
  rw [getD_part]
  split
  · exact h.2 _ (not_cov G hi (by omega))
  · rfl
theorem JO_step {O : List Nat} {Q : List (List Int)} {S i : Nat} {out : List Int} (G : Geo O Q S) (hi : i < Q.length) (h : JO O Q S i out) : JO O Q S (i + 1) (cpy out (og O i) (gd Q i)) := by
  obtain ⟨h1, h2, h3⟩ := h
  have h4 := G.2.2.2.1 i hi
  refine ⟨by rw [cpy_length, h1], fun m hm t ht => ?_, fun j hj => ?_⟩
  · rw [getD_cpy _ _ _ _ (by omega)]
    rcases Nat.lt_or_ge m i with h5 | h5
    · have h6 := G.2.2.2.2 m i h5 hi
      rw [if_neg (by omega)]
      exact h2 m h5 t ht
    · obtain rfl : m = i := by omega
      rw [if_pos (by omega), Nat.add_sub_cancel_left]
  · rw [getD_cpy _ _ _ _ (by omega), if_neg (fun h5 => hj (cov_here h5.1 h5.2))]
    exact h3 j (fun h5 => hj (cov_mono h5))
theorem join_take (O : List Nat) (Q : List (List Int)) (S i : Nat) (G : Geo O Q S) (hi : i < Q.length) (out : List Int) (a : Int) (sp : List Int) (d : Nat) : ∀ (t : Nat) (tk : List Bool), t + d = (gd Q i).length → tk.length = S → (∀ j, ¬ cov O Q (i + 1) j → tk.getD j false = false) →
    ∃ tk', TK O Q S (i + 1) tk' ∧ ∀ r, Ev (fun k => product_Join.l0 k out tk' Q (Q.length : Int) ((i + 1 : Nat) : Int) (S : Int) a sp (ints O) [] [] [] false) r →
      Ev (fun k => product_Join.l1 k out tk (og O i : Int) Q (Q.length : Int) (i : Int) ((gd Q i).length : Int) (t : Int) (S : Int) a sp (ints O) [] [] [] false) r := by
  obtain ⟨G1, G2, G3, G4, G5⟩ := G
  have h4 := G4 i hi
  induction d with
  | zero =>
    intro t tk ht h1 h2
    refine ⟨tk, ⟨h1, h2⟩, fun r hr => Ev.step (fun k => ?_) hr⟩
    simp only [product_Join.l1]
    rw [if_neg (by omega), show wrap64 ((i : Int) + 1) = ((i + 1 : Nat) : Int) by unfold wrap64; omega]
  | succ d ih =>
    intro t tk ht h1 h2
    obtain ⟨tk', h5, h6⟩ := ih (t + 1) (tk.set (og O i + t) true) (by omega) (by rw [List.length_set, h1]) (fun j hj => by
      rw [getD_set_eq, if_neg (fun h7 => hj (cov_here (by omega) (by omega)))]
      exact h2 j hj)
    refine ⟨tk', h5, fun r hr => Ev.step (fun k => ?_) (h6 r hr)⟩
    have e : wrap64 ((og O i : Int) + (t : Int)) = ((og O i + t : Nat) : Int) := by unfold wrap64; omega
    simp only [product_Join.l1]
    rw [if_pos (by omega), e, if_pos (by omega), if_pos (by omega), Int.toNat_natCast, show wrap64 ((t : Int) + 1) = ((t + 1 : Nat) : Int) by unfold wrap64; omega]
theorem rd_ints (O : List Nat) (i : Nat) : rd (ints O) (i : Int) = (og O i : Int) := by
  rw [rd_nat, ints_getD]
  rfl
theorem rdL8 (Q : List (List Int)) (i : Nat) : rd_L8 Q (i : Int) = gd Q i := by
  unfold rd_L8
  rw [Int.toNat_natCast]
  rfl
theorem join_from (O : List Nat) (Q : List (List Int)) (S : Nat) (G : Geo O Q S) (a : Int) (sp : List Int) (d : Nat) : ∀ (i : Nat) (out : List Int) (tk : List Bool), i + d = Q.length → JO O Q S i out → TK O Q S i tk →
    ∃ o, JO O Q S Q.length o ∧ Ev (fun k => product_Join.l0 k out tk Q (Q.length : Int) (i : Int) (S : Int) a sp (ints O) [] [] [] false) (o, 0) := by
  induction d with
  | zero =>
    intro i out tk hi h1 h2
    obtain rfl : i = Q.length := by omega
    refine ⟨out, h1, Ev.step (f := fun _ => some (out, 0)) (fun k => ?_) (Ev.now _)⟩
    simp only [product_Join.l0]
    rw [if_neg (by omega)]
  | succ d ih =>
    intro i out tk hi h1 h2
    have hlt : i < Q.length := by omega
    obtain ⟨G1, G2, G3, G4, G5⟩ := G
    have G : Geo O Q S := ⟨G1, G2, G3, G4, G5⟩
    have h4 := G4 i hlt
    have hl := ints_length O
    obtain ⟨tk', h5, h6⟩ := join_take O Q S i G hlt (cpy out (og O i) (gd Q i)) a sp (gd Q i).length 0 tk (by omega) h2.1 (fun j hj => h2.2 j (fun h => hj (cov_mono h)))
    obtain ⟨o, h7, h8⟩ := ih (i + 1) _ tk' (by omega) (JO_step G hlt h1) h5
    refine ⟨o, h7, ?_⟩
    have ho := h1.1
    have ht := h2.1
    have hT := TK_part G hlt h2
    have H8 := Aside0.mk (h6 _ h8)
    clear h8 h6 h7 h5 h1 h2 ih
    have E1 : Aside0 (wrap64 ((S : Int) - (og O i : Int)) = ((S - og O i : Nat) : Int)) := ⟨by unfold wrap64; omega⟩
    have E2 : Aside0 (wrap64 ((og O i : Int) + ((gd Q i).length : Int)) = ((og O i + (gd Q i).length : Nat) : Int)) := ⟨by unfold wrap64; omega⟩
    refine Ev.step (f := fun k => (slices_Contains_bool_bool.f k ((tk.take (og O i + (gd Q i).length)).drop (og O i)) true).bind fun t251 => (product_Join.j2 k out tk (gd Q i) (og O i : Int) Q (Q.length : Int) (i : Int) t251 (S : Int) a sp (ints O) [] [] [] false)) (fun k => ?_) ?_
    · simp only [product_Join.l0]
      rw [if_pos (by omega), if_pos (by omega), if_pos (by omega), if_pos (by omega), rd_ints, rdL8, if_neg (by omega), if_neg (by omega), E1.out, E2.out, if_neg (by omega), if_pos (by omega), if_pos (by omega), if_pos (by omega), Int.toNat_natCast, Int.toNat_natCast]
    · refine Ev.bind (contains_none _ (by rw [List.length_drop, List.length_take]; omega) hT) ?_
      refine Ev.step (fun k => ?_) H8.out
      simp only [product_Join.j2]
      rw [if_neg (by decide), if_pos (by omega), if_pos (by omega), if_pos (by omega), Int.toNat_natCast]
      rfl
theorem JO_zero (O : List Nat) (Q : List (List Int)) (S : Nat) : JO O Q S 0 (List.replicate S 0) := by
  refine ⟨List.length_replicate, fun m hm => absurd hm (by omega), fun j _ => ?_⟩
  rw [List.getD_eq_getElem?_getD, List.getElem?_replicate]
  split <;> rfl
theorem TK_zero (O : List Nat) (Q : List (List Int)) (S : Nat) : TK O Q S 0 (List.replicate S false) := by
  refine ⟨List.length_replicate, fun j _ => ?_⟩
  rw [List.getD_eq_getElem?_getD, List.getElem?_replicate]
  split <;> rfl
theorem join_ev (O : List Nat) (Q : List (List Int)) (S : Nat) (G : Geo O Q S) (a : Int) (sp : List Int) (hv : mask_Valid.f (S : Int) a sp (ints O) [] [] [] false = some true) :
    ∃ o, JO O Q S Q.length o ∧ Ev (fun k => product_Join.f k (S : Int) a sp (ints O) [] [] [] false Q) (o, 0) := by
  obtain ⟨o, h1, h2⟩ := join_from O Q S G a sp Q.length 0 (List.replicate S 0) (List.replicate S false) (by omega) (JO_zero O Q S) (TK_zero O Q S)
  refine ⟨o, h1, ?_⟩
  have hn : ((Q.length : Int) != ((ints O).length : Int)) = false := by
    rw [ints_length, G.1]
    simp
  have hS := G.2.2.1
  refine Ev.congr (f := fun k => product_Join.j0 k Q false (S : Int) a sp (ints O) [] [] [] false) (fun k => ?_) (Ev.step (fun k => ?_) h2)
  · unfold product_Join.f
    rw [hv]
    simp only [Option.bind_some, if_true]
    rw [hn]
  · simp only [product_Join.j0]
    rw [if_neg (by decide), if_pos (by omega), Int.toNat_natCast, if_pos (by omega)]
    rfl
/-- The padding behind i parts. -/
def PD (O : List Nat) (Q : List (List Int)) (S i : Nat) (pd : List Int) : Prop := pd.length = S ∧ (∀ j, cov O Q i j → pd.getD j 0 = 0) ∧ (∀ j, j < S → ¬ cov O Q i j → pd.getD j 0 = 255)
theorem PD_zero (O : List Nat) (Q : List (List Int)) (S : Nat) : PD O Q S 0 (List.replicate S 255) := by
  refine ⟨List.length_replicate, fun j hj => ?_, fun j hj _ => ?_⟩
  · obtain ⟨m, h, _⟩ := hj
    omega
  · rw [List.getD_eq_getElem?_getD, List.getElem?_replicate, if_pos hj]
    rfl
theorem pad_in (O : List Nat) (Q : List (List Int)) (S i : Nat) (G : Geo O Q S) (hi : i < Q.length) (Z : List Int) (a : Int) (sp : List Int) (n : Int) (d : Nat) : ∀ (t : Nat) (pd : List Int), t + d = (gd Q i).length → pd.length = S →
    (∀ j, cov O Q i j ∨ (og O i ≤ j ∧ j < og O i + t) → pd.getD j 0 = 0) → (∀ j, j < S → ¬ cov O Q i j → ¬ (og O i ≤ j ∧ j < og O i + t) → pd.getD j 0 = 255) →
    ∃ pd', PD O Q S (i + 1) pd' ∧ ∀ r, Ev (fun k => product_Padding.l0 k Z pd' n ((i + 1 : Nat) : Int) (S : Int) a sp (ints O) [] [] [] false) r →
      Ev (fun k => product_Padding.l1 k Z pd (d : Int) ((og O i + t : Nat) : Int) n (i : Int) (S : Int) a sp (ints O) [] [] [] false) r := by
  obtain ⟨G1, G2, G3, G4, G5⟩ := G
  have h4 := G4 i hi
  induction d with
  | zero =>
    intro t pd ht h1 h2 h3
    refine ⟨pd, ⟨h1, fun j hj => h2 j ?_, fun j hj hc => h3 j hj (fun h => hc (cov_mono h)) (fun h => hc (cov_here h.1 (by omega)))⟩, fun r hr => Ev.step (fun k => ?_) hr⟩
    · rcases cov_succ hj with h | h
      · exact .inl h
      · exact .inr (by omega)
    · clear hr
      have e : wrap64 ((i : Int) + 1) = ((i + 1 : Nat) : Int) := by unfold wrap64; omega
      simp only [product_Padding.l1]
      rw [e]
      by_cases hS : ((og O i + t : Nat) : Int) < (S : Int)
      · rw [if_pos (by omega), if_pos hS, if_neg (by omega)]
      · rw [if_pos (by omega), if_neg hS]
  | succ d ih =>
    intro t pd ht h1 h2 h3
    obtain ⟨pd', h5, h6⟩ := ih (t + 1) (pd.set (og O i + t) 0) (by omega) (by rw [List.length_set, h1]) (fun j hj => by
      rw [getD_set_eq]
      by_cases h7 : og O i + t = j
      · rw [if_pos ⟨h7, by omega⟩]
      · rw [if_neg (fun h => h7 h.1)]
        refine h2 j ?_
        rcases hj with h | h
        · exact .inl h
        · exact .inr (by omega)) (fun j hj hc hn => by
      rw [getD_set_eq, if_neg (fun h => hn (by omega))]
      exact h3 j hj hc (fun h => hn (by omega)))
    refine ⟨pd', h5, fun r hr => Ev.step (fun k => ?_) (h6 r hr)⟩
    clear hr h6 h5 ih
    have e : wrap64 (((og O i + t : Nat) : Int) + 1) = ((og O i + (t + 1) : Nat) : Int) := by unfold wrap64; omega
    have e2 : wrap64 (((d + 1 : Nat) : Int) - 1) = ((d : Nat) : Int) := by unfold wrap64; omega
    simp only [product_Padding.l1]
    rw [e, e2]
    clear e e2
    rw [if_pos (by omega), if_pos (by omega), if_pos (by omega), if_pos (by omega), if_pos (by omega), Int.toNat_natCast]
theorem pad_from (O : List Nat) (Q : List (List Int)) (S : Nat) (G : Geo O Q S) (Z : List Int) (hZ : Z.length = Q.length) (hz : ∀ i, i < Q.length → Z.getD i 0 = ((gd Q i).length : Int)) (a : Int) (sp : List Int) (d : Nat) : ∀ (i : Nat) (pd : List Int), i + d = Q.length → PD O Q S i pd →
    ∃ o, PD O Q S Q.length o ∧ Ev (fun k => product_Padding.l0 k Z pd (Q.length : Int) (i : Int) (S : Int) a sp (ints O) [] [] [] false) o := by
  induction d with
  | zero =>
    intro i pd hi h1
    obtain rfl : i = Q.length := by omega
    refine ⟨pd, h1, Ev.step (f := fun _ => some pd) (fun k => ?_) (Ev.now _)⟩
    simp only [product_Padding.l0]
    rw [if_neg (by omega)]
  | succ d ih =>
    intro i pd hi h1
    have hlt : i < Q.length := by omega
    obtain ⟨pd', h5, h6⟩ := pad_in O Q S i G hlt Z a sp (Q.length : Int) (gd Q i).length 0 pd (by omega) h1.1 (fun j hj => by
      rcases hj with h | h
      · exact h1.2.1 j h
      · omega) (fun j hj hc _ => h1.2.2 j hj hc)
    obtain ⟨o, h7, h8⟩ := ih (i + 1) pd' (by omega) h5
    refine ⟨o, h7, ?_⟩
    have H8 := Aside0.mk (h6 _ h8)
    clear h8 h6 h7 h5 h1 ih
    have hl := ints_length O
    have hG := G.1
    have hzi : rd Z (i : Int) = ((gd Q i).length : Int) := by
      rw [rd_nat]
      exact hz i hlt
    refine Ev.step (f := fun k => product_Padding.j1 k Z pd (og O i : Int) ((gd Q i).length : Int) (Q.length : Int) (i : Int) false (S : Int) a sp (ints O) [] [] [] false) (fun k => ?_) ?_
    · simp only [product_Padding.l0]
      rw [rd_ints, hzi]
      clear hzi H8
      rw [if_pos (by omega), if_pos (by omega), if_pos (by omega), if_pos (by omega), if_neg (by omega)]
    · refine Ev.step (f := fun k => product_Padding.j2 k Z pd (og O i : Int) ((gd Q i).length : Int) (Q.length : Int) (i : Int) (S : Int) a sp (ints O) [] [] [] false) (fun k => ?_) ?_
      · simp only [product_Padding.j1]
        rw [if_neg (by decide)]
      · refine Ev.step (fun k => ?_) H8.out
        simp only [product_Padding.j2]
        rfl
theorem pad_ext (S : Nat) (h : S ≤ 1024) : ext [] (S : Int) = List.replicate S 255 := by
  rw [ext_n [] (S : Int) S (by omega)]
  simp
theorem pad_ev (O : List Nat) (Q : List (List Int)) (S : Nat) (G : Geo O Q S) (Z : List Int) (hZ : Z.length = Q.length) (hz : ∀ i, i < Q.length → Z.getD i 0 = ((gd Q i).length : Int)) (a : Int) (sp : List Int) (hv : mask_Valid.f (S : Int) a sp (ints O) [] [] [] false = some true) :
    ∃ o, PD O Q S Q.length o ∧ Ev (fun k => product_Padding.f k (S : Int) a sp (ints O) [] [] [] false Z) o := by
  obtain ⟨o, h1, h2⟩ := pad_from O Q S G Z hZ hz a sp Q.length 0 (List.replicate S 255) (by omega) (PD_zero O Q S)
  refine ⟨o, h1, ?_⟩
  have hm : mn ((ints O).length : Int) (Z.length : Int) = (Q.length : Int) := by
    rw [ints_length, G.1, hZ]
    unfold mn
    split <;> rfl
  refine Ev.congr (fun k => ?_) h2
  unfold product_Padding.f ExtendX.f
  rw [hv, hm, pad_ext S G.2.2.1]
  simp only [Option.bind_some, if_true]
  rfl
theorem part_eq (O : List Nat) (Q : List (List Int)) (S i : Nat) (G : Geo O Q S) (hi : i < Q.length) (out : List Int) (h : JO O Q S Q.length out) (a : Int) (sp : List Int) :
    product_Part.f (S : Int) a sp (ints O) [] [] [] false out (og O i : Int) ((gd Q i).length : Int) = some (gd Q i, 0) := by
  obtain ⟨h1, h2, h3⟩ := h
  obtain ⟨G1, G2, G3, G4, G5⟩ := G
  have h4 := G4 i hi
  have hE : (out.take (og O i + (gd Q i).length)).drop (og O i) = gd Q i := by
    apply List.ext_getElem
    · rw [List.length_drop, List.length_take]
      omega
    · intro t t1 t2
      have h5 := h2 i hi t t2
      rw [List.getElem_drop, List.getElem_take]
      rw [List.getD_eq_getElem?_getD, List.getD_eq_getElem?_getD, List.getElem?_eq_getElem t2, List.getElem?_eq_getElem (by omega)] at h5
      simpa using h5
  have e1 : wrap64 ((og O i : Int) + ((gd Q i).length : Int)) = ((og O i + (gd Q i).length : Nat) : Int) := by unfold wrap64; omega
  have e2 : wrap64 ((out.length : Int) - (og O i : Int)) = ((S - og O i : Nat) : Int) := by unfold wrap64; omega
  unfold product_Part.f CloneB.f
  rw [e1, e2]
  clear e1 e2
  rw [if_pos (by omega), if_neg (by omega), if_neg (by omega), if_neg (by omega), if_neg (by omega), if_pos (by omega), if_pos (by omega), if_pos (by omega), Int.toNat_natCast, Int.toNat_natCast, hE, if_pos (by omega)]
  rfl
def fills (q : List Int) : Prop := ∀ t, t < q.length → 1 ≤ q.getD t 0 ∧ q.getD t 0 ≤ 255
theorem ret_fill (l : List Int) (hl : l.length ≤ 9000) (M : List S31) (Q : List (List Int)) (Z : List Int) (hM : M.length ≤ 9000) (hQ : Q.length ≤ 9000) (hZ : Z.length ≤ 9000) (dd : Int) (n : Nat) (hn : n ≤ 1024) (f0 f1 : Int) (f2 f3 : List Int) (f4 : List S101) (f5 : List S79) (f6 : List Int) (f7 : Bool) (d : Nat) : ∀ (j : Nat) (p : List Int) (a : Int), j + d = n → p.length = n → (∀ t, t < j → 1 ≤ p.getD t 0 ∧ p.getD t 0 ≤ 255) → At l a →
    ∃ p' b, p'.length = n ∧ fills p' ∧ At l b ∧ ∀ r, Ev (fun k => law16_ProductReturns.l0 k (M ++ [(⟨f0, f1, f2, f3, f4, f5, f6, f7⟩ : S31)]) (Q ++ [p']) (Z ++ [f0]) (wrap64 (dd - 1)) l b) r →
      Ev (fun k => law16_ProductReturns.l1 k M Q Z dd p (n : Int) (j : Int) l a f0 f1 f2 f3 f4 f5 f6 f7) r := by
  induction d with
  | zero =>
    intro j p a hj hp hf ha
    refine ⟨p, a, hp, fun t ht => hf t (by omega), ha, fun r hr => Ev.step (fun k => ?_) hr⟩
    clear hr
    simp only [law16_ProductReturns.l1, Option.bind_some, List.length_singleton]
    rw [if_neg (by omega), if_pos (by omega), if_pos (by omega), if_pos (by omega)]
  | succ d ih =>
    intro j p a hj hp hf ha
    obtain ⟨v, b, hv, h0, h1, hb, _, _⟩ := Next_eq l hl a 255 ha (by omega) (by omega)
    have e : wrap64 (1 + v) % 256 = 1 + v := by
      rw [wrap64_id (by omega) (by omega)]
      omega
    obtain ⟨p', b', h5, h6, h7, h8⟩ := ih (j + 1) (p.set j (1 + v)) b (by omega) (by rw [List.length_set, hp]) (fun t ht => by
      rw [getD_set_eq]
      by_cases h : j = t
      · rw [if_pos ⟨h, by omega⟩]
        omega
      · rw [if_neg (fun h2 => h h2.1)]
        exact hf t (by omega)) hb
    refine ⟨p', b', h5, h6, h7, fun r hr => Ev.step (fun k => ?_) (h8 r hr)⟩
    clear hr h8 ih
    simp only [law16_ProductReturns.l1]
    rw [if_pos (by omega), hv]
    simp only [Option.bind_some]
    rw [if_pos (by omega), if_pos (by omega), Int.toNat_natCast, e, show wrap64 ((j : Int) + 1) = ((j + 1 : Nat) : Int) by unfold wrap64; omega]
theorem ret_pad (O : List Nat) (Q : List (List Int)) (S : Nat) (G : Geo O Q S) (hq : ∀ m, m < Q.length → fills (gd Q m)) (b pd : List Int) (hb : JO O Q S Q.length b) (hp : PD O Q S Q.length pd) (a : Int) (sp os : List Int) (d : Nat) : ∀ j : Nat, j + d = S →
    Ev (fun k => law16_ProductReturns.l3 k b pd (b.length : Int) (j : Int) (S : Int) a sp os [] [] [] false) true := by
  have hS := G.2.2.1
  have hb1 := hb.1
  have hp1 := hp.1
  induction d with
  | zero =>
    intro j hj
    refine Ev.step (f := fun _ => some true) (fun k => ?_) (Ev.now _)
    simp only [law16_ProductReturns.l3]
    rw [if_neg (by omega), if_pos (by omega), awake16_eq]
    rfl
  | succ d ih =>
    intro j hj
    refine Ev.step (fun k => ?_) (ih (j + 1) (by omega))
    clear ih
    have e : wrap64 ((j : Int) + 1) = ((j + 1 : Nat) : Int) := by unfold wrap64; omega
    simp only [law16_ProductReturns.l3]
    rw [e]
    clear e
    rw [if_pos (by omega), if_neg (by omega), if_pos (by omega), if_pos (by omega), if_pos (by omega), rd_nat, rd_nat]
    by_cases hc : cov O Q Q.length j
    · have h1 := hp.2.1 j hc
      obtain ⟨m, m1, m2, m3⟩ := hc
      have h2 := hb.2.1 m m1 (j - og O m) (by omega)
      have h3 := hq m m1 (j - og O m) (by omega)
      rw [show og O m + (j - og O m) = j by omega] at h2
      rw [h1, h2]
      have h4 : (((gd Q m).getD (j - og O m) 0) == 0) = false := by
        apply beq_eq_false_iff_ne.2
        omega
      rw [h4, if_neg (by decide), if_pos rfl]
    · have h1 := hp.2.2 j (by omega) hc
      have h2 := hb.2.2 j hc
      rw [h1, h2, if_neg (by decide), if_neg (by decide), if_pos rfl]
theorem ret_parts (O : List Nat) (Q : List (List Int)) (S : Nat) (G : Geo O Q S) (hq : ∀ m, m < Q.length → fills (gd Q m)) (M : List S31) (hM : M.length = Q.length) (hA : ∀ i p, M[i]? = some p → (p.f1 = 1 ∨ p.f1 = 8) ∧ og O i % p.f1.toNat = 0) (Z : List Int) (hZ : Z.length = Q.length) (hz : ∀ i, i < Q.length → Z.getD i 0 = ((gd Q i).length : Int))
    (b : List Int) (hb : JO O Q S Q.length b) (a : Int) (sp : List Int) (hv : mask_Valid.f (S : Int) a sp (ints O) [] [] [] false = some true) (d : Nat) : ∀ i : Nat, i + d = Q.length →
    Ev (fun k => law16_ProductReturns.l2 k M Z b Q (Q.length : Int) (i : Int) (S : Int) a sp (ints O) [] [] [] false) true := by
  have hn := G.2.1
  have hO := G.1
  have hl := ints_length O
  induction d with
  | zero =>
    intro i hi
    obtain ⟨o, h1, h2⟩ := pad_ev O Q S G Z hZ hz a sp hv
    refine Ev.step (f := fun k => (product_Padding.f k (S : Int) a sp (ints O) [] [] [] false Z).bind fun t => law16_ProductReturns.l3 k b t (b.length : Int) ((0 : Nat) : Int) (S : Int) a sp (ints O) [] [] [] false) (fun k => ?_) (Ev.bind h2 (ret_pad O Q S G hq b o hb h1 a sp (ints O) S 0 (by omega)))
    clear h2
    simp only [law16_ProductReturns.l2]
    rw [if_neg (by omega)]
    rfl
  | succ d ih =>
    intro i hi
    have hlt : i < Q.length := by omega
    obtain ⟨hf1, hf2⟩ := hA i M[i] (List.getElem?_eq_getElem (by omega))
    refine Ev.step (fun k => ?_) (ih (i + 1) (by omega))
    clear ih
    have e : wrap64 ((i : Int) + 1) = ((i + 1 : Nat) : Int) := by unfold wrap64; omega
    have hT : Int.tmod (og O i : Int) M[i].f1 = 0 := by
      rw [Int.tmod_eq_emod_of_nonneg (by omega)]
      rcases hf1 with h | h
      · rw [h]
        omega
      · rw [h, show (8 : Int).toNat = 8 from rfl] at hf2
        rw [h]
        omega
    have hf0 : M[i].f1 ≠ 0 := by
      rcases hf1 with h | h <;> rw [h] <;> decide
    clear hf1 hf2
    simp only [law16_ProductReturns.l2]
    rw [e, rd_ints, rdL8, part_eq O Q S i G hlt b hb a sp, rd31_at M i (by omega)]
    clear e
    simp only [Option.bind_some]
    rw [if_pos (by omega), if_pos (by omega), if_pos (by omega), if_pos (by omega), if_pos trivial, if_pos trivial, if_pos (by omega), if_neg hf0, if_pos hT]
def RQ (M : List S31) (Q : List (List Int)) (Z : List Int) : Prop := Z = Q.map (fun q => (q.length : Int)) ∧ M.map (fun p => p.f0) = Z ∧ (∀ q ∈ Q, fills q) ∧ (∀ p ∈ M, okS p)
theorem RQ_add {M : List S31} {Q : List (List Int)} {Z : List Int} (h : RQ M Q Z) {p : S31} {q : List Int} (hp : okS p) (hq : fills q) (he : (q.length : Int) = p.f0) : RQ (M ++ [p]) (Q ++ [q]) (Z ++ [p.f0]) := by
  obtain ⟨h1, h2, h3, h4⟩ := h
  refine ⟨?_, ?_, fun x hx => ?_, fun x hx => ?_⟩
  · rw [List.map_append, ← h1]
    simp [he]
  · rw [List.map_append, h2]
    rfl
  · rcases List.mem_append.1 hx with h | h
    · exact h3 x h
    · obtain rfl := List.mem_singleton.1 h
      exact hq
  · rcases List.mem_append.1 hx with h | h
    · exact h4 x h
    · obtain rfl := List.mem_singleton.1 h
      exact hp
theorem RQ_at {M : List S31} {Q : List (List Int)} {Z : List Int} (h : RQ M Q Z) (i : Nat) (hi : i < Q.length) : Z.getD i 0 = ((gd Q i).length : Int) ∧ ∀ p, M[i]? = some p → p.f0 = ((gd Q i).length : Int) := by
  obtain ⟨h1, h2, h3, h4⟩ := h
  have e : gd Q i = Q[i] := by
    unfold gd
    rw [List.getD_eq_getElem?_getD, List.getElem?_eq_getElem hi]
    rfl
  have hz : Z[i]? = some ((gd Q i).length : Int) := by
    rw [h1, List.getElem?_map, List.getElem?_eq_getElem hi, e]
    rfl
  refine ⟨by rw [List.getD_eq_getElem?_getD, hz]; rfl, fun p hp => ?_⟩
  rw [← h2, List.getElem?_map, hp] at hz
  exact Option.some.inj hz
theorem RQ_len {M : List S31} {Q : List (List Int)} {Z : List Int} (h : RQ M Q Z) : M.length = Q.length ∧ Z.length = Q.length := by
  obtain ⟨h1, h2, _⟩ := h
  have e1 : Z.length = Q.length := by rw [h1, List.length_map]
  have e2 : M.length = Z.length := by rw [← h2, List.length_map]
  exact ⟨by omega, e1⟩
theorem geo_of {M : List S31} {Q : List (List Int)} {Z : List Int} (h : RQ M Q Z) (hQ : Q.length ≤ 9000) (F : PS) (hf : layF M PS.start = some F) : Geo F.os Q F.s ∧ ∀ i p, M[i]? = some p → (p.f1 = 1 ∨ p.f1 = 8) ∧ og F.os i % p.f1.toNat = 0 := by
  obtain ⟨l1, l2⟩ := RQ_len h
  have hA := RQ_at h
  have hok := h.2.2.2
  obtain ⟨hF, _, _, _, hlen⟩ := layF_split M PS.start F PS.start_ok hok hf
  have hl := lay_facts M PS.start F PS.start_ok hok hf
  have e0 : PS.start.os.length = 0 := rfl
  rw [e0] at hl hlen
  simp only [Nat.zero_add] at hl hlen
  have hs := hF.1
  refine ⟨⟨by omega, hQ, hs, fun m hm => ?_, fun m m' hm hm' => ?_⟩, fun i p hp => ?_⟩
  · have hmM : M[m]? = some M[m] := List.getElem?_eq_getElem (by omega)
    obtain ⟨_, h2, _⟩ := hl m M[m] hmM
    have h3 := (hA m hm).2 M[m] hmM
    unfold og
    omega
  · have hmM : M[m]? = some M[m] := List.getElem?_eq_getElem (by omega)
    obtain ⟨_, _, _, h2⟩ := hl m M[m] hmM
    have h3 := (hA m (by omega)).2 M[m] hmM
    have h4 := h2 m' hm (by omega)
    unfold og
    omega
  · obtain ⟨_, _, h2, _⟩ := hl i p hp
    exact ⟨((okS_iff p).1 (hok p (List.mem_of_getElem? hp))).2.2.1, h2⟩
theorem ret_made (l : List Int) (hl : l.length ≤ 9000) (d : Nat) : ∀ (M : List S31) (Q : List (List Int)) (Z : List Int) (a : Int), M.length + d ≤ 9000 → RQ M Q Z → At l a →
    Ev (fun k => law16_ProductReturns.l0 k M Q Z (d : Int) l a) true := by
  induction d with
  | zero =>
    intro M Q Z a hM hR ha
    obtain ⟨l1, l2⟩ := RQ_len hR
    have hok := hR.2.2.2
    refine Ev.step (f := fun k => (product_Lay.f k M).bind fun bt324 => (if bt324.2.2.2.2.2.2.2.2 = 0 then ((product_Join.f k bt324.1 bt324.2.1 bt324.2.2.1 bt324.2.2.2.1 bt324.2.2.2.2.1 bt324.2.2.2.2.2.1 bt324.2.2.2.2.2.2.1 bt324.2.2.2.2.2.2.2.1 Q).bind fun bt344 => (if bt344.2 = 0 then (if (bt344.1.length : Int) = bt324.1 then (if (bt324.2.2.2.1.length : Int) = (Q.length : Int) then (law16_ProductReturns.l2 k M Z bt344.1 Q (Q.length : Int) 0 bt324.1 bt324.2.1 bt324.2.2.1 bt324.2.2.2.1 bt324.2.2.2.2.1 bt324.2.2.2.2.2.1 bt324.2.2.2.2.2.2.1 bt324.2.2.2.2.2.2.2.1) else (some false)) else (some false)) else (some false))) else (if bt324.2.2.2.2.2.2.2.2 = 4 then ((Awake16.f).bind fun t364 => (some t364)) else (some false)))) (fun k => ?_) ?_
    · simp only [law16_ProductReturns.l0]
      rw [if_neg (by omega)]
    · refine Ev.bind (pLay_ev M (by omega)) ?_
      unfold layV
      rw [any_ok hok]
      simp only [Bool.false_eq_true, if_false]
      cases hf : layF M PS.start with
      | none =>
        simp only [layR, awake16_eq, Option.bind_some]
        simp only [show ¬ ((4 : Int) = 0) by omega, if_false, if_true]
        exact Ev.now _
      | some F =>
        obtain ⟨hF, _, _, _, hlen⟩ := layF_split M PS.start F PS.start_ok hok hf
        obtain ⟨G, hA⟩ := geo_of hR (by omega) F hf
        have hv : mask_Valid.f (F.s : Int) (F.a : Int) F.sp (ints F.os) [] [] [] false = some true := by
          have h1 := mask_Valid_eq (⟨(F.s : Int), (F.a : Int), F.sp, ints F.os, [], [], [], false⟩ : S31)
          have h2 : okS (⟨(F.s : Int), (F.a : Int), F.sp, ints F.os, [], [], [], false⟩ : S31) := by
            obtain ⟨f1, f2, f3⟩ := hF
            refine (okS_iff _).2 ⟨?_, ?_, ?_, ?_⟩
            · show 0 ≤ (F.s : Int)
              omega
            · show (F.s : Int) ≤ 1024
              omega
            · show (F.a : Int) = 1 ∨ (F.a : Int) = 8
              omega
            · show (F.sp.length : Int) = (F.s : Int)
              omega
          rw [show badS (⟨(F.s : Int), (F.a : Int), F.sp, ints F.os, [], [], [], false⟩ : S31) = false from h2] at h1
          exact h1
        obtain ⟨o, h1, h2⟩ := join_ev F.os Q F.s G (F.a : Int) F.sp hv
        have hl1 : ((ints F.os).length : Int) = (Q.length : Int) := by
          rw [ints_length, G.1]
        have ho : (o.length : Int) = (F.s : Int) := by rw [h1.1]
        simp only [layR, if_true, hl1]
        refine Ev.bind h2 ?_
        simp only [if_true, ho]
        have hq : ∀ m, m < Q.length → fills (gd Q m) := by
          intro m hm
          unfold gd
          rw [List.getD_eq_getElem?_getD, List.getElem?_eq_getElem hm]
          exact hR.2.2.1 _ (List.getElem_mem hm)
        exact ret_parts F.os Q F.s G hq M l1 hA Z l2 (fun i hi => (RQ_at hR i hi).1) o h1 (F.a : Int) F.sp hv Q.length 0 (by omega)
  | succ d ih =>
    intro M Q Z a hM hR ha
    obtain ⟨l1, l2⟩ := RQ_len hR
    obtain ⟨r, e1, k1, a1, n1⟩ := Layout_ev2 l hl ((l.length : Int) - a).toNat a ha (by omega)
    have hw : wrap64 (((d + 1 : Nat) : Int) - 1) = (d : Int) := by unfold wrap64; omega
    refine Ev.step (f := fun k => (made_Dice_Layout.f k l a).bind fun bt279 => ((ref15_Valid.f bt279.1 bt279.2.1 bt279.2.2.1 bt279.2.2.2.1 bt279.2.2.2.2.1 bt279.2.2.2.2.2.1 bt279.2.2.2.2.2.2.1 bt279.2.2.2.2.2.2.2.1).bind fun t299 => (if t299 = true then (if 0 ≤ bt279.1 then (if (bt279.1 : Int).toNat ≤ 281474976710656 then ((some (List.replicate (bt279.1 : Int).toNat 0 : List Int)).bind fun y300 => (law16_ProductReturns.l1 k M Q Z ((d + 1 : Nat) : Int) y300 (y300.length : Int) 0 l bt279.2.2.2.2.2.2.2.2 bt279.1 bt279.2.1 bt279.2.2.1 bt279.2.2.2.1 bt279.2.2.2.2.1 bt279.2.2.2.2.2.1 bt279.2.2.2.2.2.2.1 bt279.2.2.2.2.2.2.2.1)) else (none)) else (none)) else (law16_ProductReturns.l0 k M Q Z (d : Int) l bt279.2.2.2.2.2.2.2.2)))) (fun k => ?_) ?_
    · simp only [law16_ProductReturns.l0]
      rw [if_pos (by omega), hw]
    · refine Ev.bind e1 ?_
      have hv := rValid_eq (S9 r)
      simp only [S9] at hv
      simp only [hv, Option.bind_some]
      cases hb : badS (S9 r) with
      | true =>
        simp only [S9] at hb
        simp only [hb, Bool.not_true, Bool.false_eq_true, if_false]
        exact ih M Q Z (at9 r) (by omega) hR a1
      | false =>
        have hb2 : okS (S9 r) := hb
        obtain ⟨p1, p2, p3, p4⟩ := (okS_iff (S9 r)).1 hb2
        simp only [S9] at hb
        simp only [hb, Bool.not_false, if_true]
        obtain ⟨n, hn⟩ : ∃ n : Nat, r.1 = (n : Int) := ⟨r.1.toNat, by have h0 : 0 ≤ r.1 := p1; omega⟩
        have hn2 : n ≤ 1024 := by
          have h0 : r.1 ≤ 1024 := p2
          omega
        obtain ⟨p', b, h5, h6, h7, h8⟩ := ret_fill l hl M Q Z (by omega) (by omega) (by omega) ((d + 1 : Nat) : Int) n hn2 r.1 r.2.1 r.2.2.1 r.2.2.2.1 r.2.2.2.2.1 r.2.2.2.2.2.1 r.2.2.2.2.2.2.1 r.2.2.2.2.2.2.2.1 n 0 (List.replicate n 0) (at9 r) (by omega) List.length_replicate (fun t ht => absurd ht (by omega)) a1
        have h9 := ih (M ++ [S9 r]) (Q ++ [p']) (Z ++ [r.1]) b (by rw [List.length_append, List.length_singleton]; omega) (RQ_add hR hb2 h6 (by rw [h5]; exact hn.symm)) h7
        rw [hw] at h8
        have h10 := h8 true h9
        clear h8 h9 ih e1 hv
        refine Ev.congr (fun k => ?_) h10
        clear h10
        rw [if_pos (by omega), if_pos (by omega)]
        rw [hn, Int.toNat_natCast, List.length_replicate]
        rfl
theorem ProductReturns_pure : law16_ProductReturns.Pure := by
  intro l _ _ _
  suffices h : Ev (fun k => law16_ProductReturns.f k l) true from h.rounds
  by_cases hl : (l.length : Int) ≤ 700
  · obtain ⟨v, b, hv, h0, h1, hb, _, _⟩ := Next_eq l (by omega) 0 7 ⟨by omega, by omega⟩ (by omega) (by omega)
    obtain ⟨d, rfl⟩ := Int.eq_ofNat_of_zero_le h0
    refine Ev.congr (f := fun k => law16_ProductReturns.l0 k [] [] [] (d : Int) l b) (fun k => ?_) (ret_made l (by omega) d [] [] [] b (by simp; omega) ⟨rfl, rfl, (fun q hq => by cases hq), (fun p hp => by cases hp)⟩ hb)
    unfold law16_ProductReturns.f made_Light.f made_Roll.f
    simp only [Option.bind_some]
    rw [decide_eq_true hl, if_pos rfl, hv]
    rfl
  · refine Ev.congr (f := fun _ => some true) (fun k => ?_) (Ev.now _)
    unfold law16_ProductReturns.f made_Light.f
    simp only [Option.bind_some]
    rw [decide_eq_false hl, if_neg (by simp), awake16_eq]
    rfl
end Go.Proofs.Ytpcephbhnbfcmaa.R
