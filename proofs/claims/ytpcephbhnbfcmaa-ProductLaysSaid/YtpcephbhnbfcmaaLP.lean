-- The plain law ProductLays_pure: what the printed functions compute, with no program in sight.
import Derived.Test.YtpcephbhnbfcmaaL0
import Derived.Test.YtpcephbhnbfcmaaL1
import Derived.Test.YtpcephbhnbfcmaaL2
import Derived.Test.YtpcephbhnbfcmaaL3
import Derived.Test.YtpcephbhnbfcmaaL4
import Derived.Test.YtpcephbhnbfcmaaL5
import Derived.Test.YtpcephbhnbfcmaaL6
namespace Go.Proofs.Ytpcephbhnbfcmaa.L
open Go.RowKit Go.Proofs.YtpcephbhnbfcmaaW.PrintWords Go.Proofs.YtpcephbhnbfcmaaW.PrintLast Go.Proofs.YtpcephbhnbfcmaaW.PrintMore
set_option linter.unusedVariables false
set_option linter.unusedSimpArgs false
def Byt (l : List Int) : Prop := ∀ x ∈ l, 0 ≤ x ∧ x < 256
theorem Byt.nil : Byt [] := fun _ h => by cases h
theorem Byt.cons {x : Int} {l : List Int} : Byt (x :: l) ↔ (0 ≤ x ∧ x < 256) ∧ Byt l := by
  constructor
  · intro h
    exact ⟨h x List.mem_cons_self, fun y hy => h y (List.mem_cons_of_mem _ hy)⟩
  · rintro ⟨h1, h2⟩ y hy
    rcases List.mem_cons.1 hy with rfl | hy
    · exact h1
    · exact h2 y hy
theorem Byt.append {a b : List Int} (ha : Byt a) (hb : Byt b) : Byt (a ++ b) := by
  intro x hx
  rcases List.mem_append.1 hx with h | h
  · exact ha x h
  · exact hb x h
theorem Byt.take {a : List Int} (ha : Byt a) (n : Nat) : Byt (a.take n) := fun x hx => ha x (List.mem_of_mem_take hx)
theorem Byt.drop {a : List Int} (ha : Byt a) (n : Nat) : Byt (a.drop n) := fun x hx => ha x (List.mem_of_mem_drop hx)
theorem Byt.replicate (n : Nat) {x : Int} (h : 0 ≤ x ∧ x < 256) : Byt (List.replicate n x) := fun y hy => by
  rw [(List.mem_replicate.1 hy).2]
  exact h
def ints (l : List Nat) : List Int := l.map fun (x : Nat) => (x : Int)
theorem ints_length (s : List Nat) : (ints s).length = s.length := by simp [ints]
theorem wrap64_id {x : Int} (h1 : -9223372036854775808 ≤ x) (h2 : x < 9223372036854775808) : wrap64 x = x := by unfold wrap64; omega
theorem Mod_eq (x n : Int) (h : 1 ≤ n) (h2 : n < 4611686018427387904) : ∃ v, made_Mod.f x n = some v ∧ 0 ≤ v ∧ v < n := by
  have a1 := Int.tmod_lt_of_pos x (show 0 < n by omega)
  have a2 : -n < Int.tmod x n := by
    have := Int.tmod_lt_of_pos (-x) (show 0 < n by omega)
    rw [Int.neg_tmod] at this
    omega
  unfold made_Mod.f
  rw [if_neg (by omega), if_neg (by omega)]
  by_cases h0 : Int.tmod x n < 0
  · rw [if_pos h0, wrap64_id (by omega) (by omega)]
    exact ⟨_, rfl, by omega, by omega⟩
  · rw [if_neg h0]
    exact ⟨_, rfl, by omega, by omega⟩
/-- Where the dice may stand. -/
def At (l : List Int) (a : Int) : Prop := 0 ≤ a ∧ a ≤ l.length
theorem Next_eq (l : List Int) (hl : l.length ≤ 9000) (a n : Int) (ha : At l a) (h : 1 ≤ n) (h2 : n < 4611686018427387904) :
    ∃ v b, made_Dice_Next.f l a n = some (v, b) ∧ 0 ≤ v ∧ v < n ∧ At l b ∧ a ≤ b ∧ (a = b → v = 0) := by
  have h0 := ha.1
  have h1 := ha.2
  unfold made_Dice_Next.f made_Dice_Left.f
  simp only [Option.bind_some]
  by_cases hc : a < (l.length : Int)
  · have e : wrap64 (wrap64 (a + 1) - 1) = a := by unfold wrap64; omega
    have e1 : wrap64 (a + 1) = a + 1 := by unfold wrap64; omega
    obtain ⟨v, hv, h3, h4⟩ := Mod_eq (rd l a) n h h2
    rw [decide_eq_true hc, if_pos rfl, e, if_pos h0, if_pos hc, hv, e1]
    exact ⟨v, a + 1, rfl, h3, h4, ⟨by omega, by omega⟩, by omega, by omega⟩
  · rw [decide_eq_false hc, if_neg (by simp)]
    exact ⟨0, a, rfl, by omega, by omega, ha, by omega, fun _ => rfl⟩
theorem Bytes_from (l : List Int) (hl : l.length ≤ 9000) (d : Nat) : ∀ (x : List Int) (a : Int), Byt x → x.length + d ≤ 9000 → At l a →
    ∃ y b, Ev (fun k => made_Dice_Bytes.l0 k x (d : Int) l a) (y, b) ∧ Byt y ∧ y.length = x.length + d ∧ At l b ∧ a ≤ b := by
  induction d with
  | zero =>
    intro x a hx hd ha
    refine ⟨x, a, Ev.step (f := fun _ => some (x, a)) (fun k => ?_) (Ev.now _), hx, rfl, ha, by omega⟩
    simp only [made_Dice_Bytes.l0]
    rw [if_neg (by omega)]
  | succ d ih =>
    intro x a hx hd ha
    obtain ⟨v, b, hv, h0, h1, hb, hab, _⟩ := Next_eq l hl a 256 ha (by omega) (by omega)
    obtain ⟨y, c, he, hy, hyl, hc, hbc⟩ := ih (x ++ [v % 256]) b (hx.append (Byt.cons.2 ⟨by omega, Byt.nil⟩)) (by simp; omega) hb
    refine ⟨y, c, Ev.step (f := fun k => made_Dice_Bytes.l0 k (x ++ [v % 256]) (d : Int) l b) (fun k => ?_) he, hy, by rw [hyl]; simp; omega, hc, by omega⟩
    simp only [made_Dice_Bytes.l0]
    rw [if_pos (by omega), hv]
    simp only [Option.bind_some]
    rw [if_pos (by omega), show wrap64 (((d + 1 : Nat) : Int) - 1) = (d : Int) by unfold wrap64; omega]
theorem Bytes_ev (l : List Int) (hl : l.length ≤ 9000) (a n : Int) (ha : At l a) (hn : 0 ≤ n) (hn2 : n ≤ 1000) :
    ∃ y b, Ev (fun k => made_Dice_Bytes.f k l a n) (y, b) ∧ Byt y ∧ (y.length : Int) ≤ n ∧ At l b ∧ a ≤ b := by
  obtain ⟨v, b, hv, h0, h1, hb, hab, _⟩ := Next_eq l hl a (wrap64 (n + 1)) ha (by unfold wrap64; omega) (by unfold wrap64; omega)
  obtain ⟨d, rfl⟩ := Int.eq_ofNat_of_zero_le h0
  have h3 : (d : Int) ≤ n := by revert h1; unfold wrap64; omega
  obtain ⟨y, c, he, hy, hyl, hc, hbc⟩ := Bytes_from l hl d [] b Byt.nil (by simp; omega) hb
  refine ⟨y, c, Ev.congr (f := fun k => made_Dice_Bytes.l0 k [] (d : Int) l b) (fun k => ?_) he, hy, by rw [hyl]; simp; omega, hc, by omega⟩
  unfold made_Dice_Bytes.f
  rw [hv]
  rfl
/-- The least number from s on that a divides, for a = 1 or 8. -/
def up (s a : Nat) : Nat := (s + (a - 1)) / a * a
theorem up_1 (s : Nat) : up s 1 = s := by unfold up; omega
theorem up_8 (s : Nat) : up s 8 = (s + 7) / 8 * 8 := rfl
def okS (p : S31) : Prop := badS p = false
theorem okS_iff (p : S31) : okS p ↔ 0 ≤ p.f0 ∧ p.f0 ≤ 1024 ∧ (p.f1 = 1 ∨ p.f1 = 8) ∧ (p.f2.length : Int) = p.f0 := by
  unfold okS badS
  simp only [Bool.not_eq_false', Bool.and_eq_true, Bool.or_eq_true, decide_eq_true_eq, and_assoc]
theorem up_ge (s : Nat) (a : Int) (h : a = 1 ∨ a = 8) : s ≤ up s a.toNat ∧ up s a.toNat < s + a.toNat ∧ up s a.toNat % a.toNat = 0 := by
  rcases h with rfl | rfl
  · rw [show (1 : Int).toNat = 1 from rfl, up_1]; omega
  · rw [show (8 : Int).toNat = 8 from rfl, up_8]; omega
theorem Align_eq (s : Nat) (hs : s ≤ 9000) (a : Int) (h : a = 1 ∨ a = 8) : product_Align.f (s : Int) a = some ((up s a.toNat : Nat) : Int) := by
  unfold product_Align.f
  rcases h with rfl | rfl
  · rw [if_neg (by omega), if_neg (by omega), show Int.tmod (s : Int) 1 = 0 from Int.tmod_one _, if_neg (by omega), if_pos rfl, show (1 : Int).toNat = 1 from rfl, up_1]
  · have e : Int.tmod (s : Int) 8 = ((s % 8 : Nat) : Int) := by rw [Int.tmod_eq_emod_of_nonneg (by omega)]; omega
    rw [if_neg (by omega), if_neg (by omega), e, if_neg (by omega), show (8 : Int).toNat = 8 from rfl, up_8]
    by_cases h : s % 8 = 0
    · rw [if_pos (by omega)]
      congr 1
      omega
    · rw [if_neg (by omega)]
      congr 1
      unfold wrap64
      omega
/-- The state of a product that is laid out. -/
structure PS where
  s : Nat
  a : Nat
  sp : List Int
  os : List Nat
def PS.start : PS := ⟨0, 1, [], []⟩
def PS.add (t : PS) (p : S31) : PS := ⟨up t.s p.f1.toNat + p.f0.toNat, max t.a p.f1.toNat, t.sp ++ List.replicate (up t.s p.f1.toNat - t.s) 0 ++ p.f2, t.os ++ [up t.s p.f1.toNat]⟩
def layF : List S31 → PS → Option PS
  | [], t => some t
  | p :: ps, t => if 1024 < (t.add p).s then none else layF ps (t.add p)
abbrev LT9 := Int × Int × List Int × List Int × List S101 × List S79 × List Int × Bool × Int
/-- What the layout of valid parts is, in the words of the walks. -/
def layR : Option PS → LT9
  | none => (0, 0, [], [], [], [], [], false, 4)
  | some t => ((t.s : Int), (t.a : Int), t.sp, ints t.os, [], [], [], false, 0)
def PS.ok (t : PS) : Prop := t.s ≤ 1024 ∧ t.sp.length = t.s ∧ (t.a = 1 ∨ t.a = 8)
theorem PS.start_ok : PS.start.ok := ⟨by decide, rfl, .inl rfl⟩
theorem PS.add_ok {t : PS} (h : t.ok) {p : S31} (hp : okS p) (hs : ¬ 1024 < (t.add p).s) : (t.add p).ok := by
  obtain ⟨h1, h2, h3⟩ := h
  obtain ⟨p1, p2, p3, p4⟩ := (okS_iff p).1 hp
  have hu := up_ge t.s p.f1 p3
  refine ⟨by omega, ?_, ?_⟩
  · simp only [PS.add, List.length_append, List.length_replicate, h2]
    omega
  · simp only [PS.add]
    rcases h3 with h3 | h3 <;> rcases p3 with p3 | p3 <;> rw [h3, p3] <;> decide
theorem ints_snoc (s : List Nat) (x : Nat) : ints (s ++ [x]) = ints s ++ [(x : Int)] := by simp [ints]
theorem mx_nat (a : Nat) (x : Int) (h : 0 ≤ x) : mx (a : Int) x = ((max a x.toNat : Nat) : Int) := by unfold mx; split <;> omega
theorem pLay_from (PP : List S31) (hP : PP.length ≤ 9000) (hok : ∀ p ∈ PP, okS p) (d : Nat) : ∀ (i : Nat) (t : PS), i + d = PP.length → t.ok → t.os.length = i →
    Ev (fun k => product_Lay.l0 k PP (PP.length : Int) (i : Int) (t.s : Int) (t.a : Int) t.sp (ints t.os) false) (layR (layF (PP.drop i) t)) := by
  induction d with
  | zero =>
    intro i t hi ht ho
    refine Ev.step (f := fun _ => some (layR (some t))) (fun k => ?_) ?_
    · simp only [product_Lay.l0]
      rw [if_neg (by omega)]
      rfl
    · rw [List.drop_of_length_le (by omega)]
      exact Ev.now _
  | succ d ih =>
    intro i t hi ht ho
    obtain ⟨h1, h2, h3⟩ := ht
    have hlt : i < PP.length := by omega
    have hp := hok _ (List.getElem_mem hlt)
    have hrd : rd_T31 PP (i : Int) = PP[i] := by
      unfold rd_T31
      rw [Int.toNat_natCast, List.getD_eq_getElem?_getD, List.getElem?_eq_getElem hlt]
      rfl
    have hdrop : PP.drop i = PP[i] :: PP.drop (i + 1) := List.drop_eq_getElem_cons hlt
    rw [hdrop]
    revert hp hrd
    generalize PP[i] = p
    intro hp hrd
    obtain ⟨p1, p2, p3, p4⟩ := (okS_iff p).1 hp
    have hu := up_ge t.s p.f1 p3
    have hsum : wrap64 (((up t.s p.f1.toNat : Nat) : Int) + p.f0) = (((t.add p).s : Nat) : Int) := by
      simp only [PS.add]
      unfold wrap64
      omega
    have hstep : ∀ k, product_Lay.l0 (k + 1) PP (PP.length : Int) (i : Int) (t.s : Int) (t.a : Int) t.sp (ints t.os) false = if 1024 < (t.add p).s then some (layR none) else product_Lay.l0 k PP (PP.length : Int) ((i + 1 : Nat) : Int) ((t.add p).s : Int) ((t.add p).a : Int) (t.add p).sp (ints (t.add p).os) false := by
      intro k
      simp only [product_Lay.l0]
      rw [if_pos (by omega), if_pos (by omega), if_pos (by omega), hrd, Align_eq t.s (by omega) p.f1 p3]
      simp only [Option.bind_some]
      rw [hsum]
      by_cases hb : 1024 < (t.add p).s
      · rw [if_pos (by omega), if_pos hb]
        rfl
      · have hos : (ints t.os).length < 17592186044416 := by rw [ints_length]; omega
        have hsub : wrap64 (((up t.s p.f1.toNat : Nat) : Int) - (t.s : Int)) = ((up t.s p.f1.toNat - t.s : Nat) : Int) := by unfold wrap64; omega
        rw [if_neg (by omega), if_neg hb, if_pos hos, hsub, if_pos (by omega), Int.toNat_natCast, if_pos (by omega), if_pos (by simp; omega), show wrap64 ((i : Int) + 1) = ((i + 1 : Nat) : Int) by unfold wrap64; omega, mx_nat _ _ (by omega)]
        simp only [PS.add]
        rw [ints_snoc]
    by_cases hb : 1024 < (t.add p).s
    · refine Ev.step (f := fun _ => some (layR none)) (fun k => by rw [hstep, if_pos hb]) ?_
      simp only [layF, if_pos hb]
      exact Ev.now _
    · refine Ev.step (f := fun k => product_Lay.l0 k PP (PP.length : Int) ((i + 1 : Nat) : Int) ((t.add p).s : Int) ((t.add p).a : Int) (t.add p).sp (ints (t.add p).os) false) (fun k => by rw [hstep, if_neg hb]) ?_
      simp only [layF, if_neg hb]
      exact ih (i + 1) (t.add p) (by omega) (PS.add_ok ⟨h1, h2, h3⟩ hp hb) (by simp only [PS.add, List.length_append, List.length_singleton]; omega)
def badR : LT9 := (0, 0, [], [], [], [], [], false, 19)
/-- What Lay answers. -/
def layV (ps : List S31) : LT9 := if ps.any badS then badR else layR (layF ps PS.start)
theorem pLay_ev (ps : List S31) (hP : ps.length ≤ 9000) : Ev (fun k => product_Lay.f k ps) (layV ps) := by
  unfold layV
  by_cases hb : ps.any badS = true
  · rw [if_pos hb]
    refine Ev.congr (f := fun _ => some badR) (fun k => ?_) (Ev.now _)
    unfold product_Lay.f AnyBadP.f
    simp only [Option.bind_some]
    rw [if_pos hb]
    rfl
  · rw [if_neg hb]
    have hok : ∀ p ∈ ps, okS p := by
      intro p hp
      unfold okS
      cases h : badS p with
      | false => rfl
      | true => exact absurd (List.any_eq_true.2 ⟨p, hp, h⟩) hb
    refine Ev.congr (f := fun k => product_Lay.l0 k ps (ps.length : Int) 0 0 1 [] [] false) (fun k => ?_) ?_
    · unfold product_Lay.f AnyBadP.f
      simp only [Option.bind_some]
      rw [if_neg hb]
    · have h := pLay_from ps hP hok ps.length 0 PS.start (by omega) PS.start_ok rfl
      rw [List.drop_zero] at h
      exact h
theorem rAlign_eq (s : Nat) (hs : s ≤ 9000) (a : Int) (h : a = 1 ∨ a = 8) : ref16_Align.f (s : Int) a = some ((up s a.toNat : Nat) : Int) := by
  unfold ref16_Align.f
  rcases h with rfl | rfl
  · rw [if_neg (by omega), if_neg (by omega), show Int.tmod (s : Int) 1 = 0 from Int.tmod_one _, if_pos rfl, show (1 : Int).toNat = 1 from rfl, up_1]
  · have e : Int.tmod (s : Int) 8 = ((s % 8 : Nat) : Int) := by rw [Int.tmod_eq_emod_of_nonneg (by omega)]; omega
    rw [if_neg (by omega), if_neg (by omega), e, show (8 : Int).toNat = 8 from rfl, up_8]
    by_cases h : s % 8 = 0
    · rw [if_pos (by omega)]
      congr 1
      omega
    · rw [if_neg (by omega)]
      congr 1
      unfold wrap64
      omega
theorem rValid_eq (p : S31) : ref15_Valid.f p.f0 p.f1 p.f2 p.f3 p.f4 p.f5 p.f6 p.f7 = some (!(badS p)) := mask_Valid_eq p
theorem rd31_at (PP : List S31) (i : Nat) (hlt : i < PP.length) : rd_T31 PP (i : Int) = PP[i] := by
  unfold rd_T31
  rw [Int.toNat_natCast, List.getD_eq_getElem?_getD, List.getElem?_eq_getElem hlt]
  rfl
theorem rPad_from (PP : List S31) (e i s a : Int) (os : List Int) (b : Bool) (p : S31) (sp : List Int) (hp : p.f2.length ≤ 9000) (hi : wrap64 (i + 1) = i + 1) (r : LT9) (n : Nat) (hn : n ≤ 9000) (d : Nat) : ∀ (sp : List Int), sp.length + d = n →
    Ev (fun k => ref16_Lay.l1 k PP e (i + 1) (wrap64 ((n : Int) + p.f0)) (mx a p.f1) (sp ++ List.replicate d 0 ++ p.f2) os b) r →
    Ev (fun k => ref16_Lay.l2 k (n : Int) PP e i s a sp os b p.f0 p.f1 p.f2 p.f3 p.f4 p.f5 p.f6 p.f7) r := by
  induction d with
  | zero =>
    intro sp hs h
    refine Ev.step (f := fun k => ref16_Lay.l1 k PP e (i + 1) (wrap64 ((n : Int) + p.f0)) (mx a p.f1) (sp ++ p.f2) os b) (fun k => ?_) ?_
    · simp only [ref16_Lay.l2]
      rw [if_neg (by omega), if_pos (by omega), hi]
    · simp only [List.replicate_zero, List.append_nil] at h
      exact h
  | succ d ih =>
    intro sp hs h
    refine Ev.step (f := fun k => ref16_Lay.l2 k (n : Int) PP e i s a (sp ++ [0]) os b p.f0 p.f1 p.f2 p.f3 p.f4 p.f5 p.f6 p.f7) (fun k => ?_) (ih (sp ++ [0]) (by simp; omega) ?_)
    · simp only [ref16_Lay.l2]
      rw [if_pos (by omega), if_pos (by omega)]
    · have e : sp ++ [0] ++ List.replicate d 0 = sp ++ List.replicate (d + 1) (0 : Int) := by rw [List.replicate_succ, List.append_assoc, List.singleton_append]
      rw [e]
      exact h
theorem rLay_from (PP : List S31) (hP : PP.length ≤ 9000) (hok : ∀ p ∈ PP, okS p) (d : Nat) : ∀ (i : Nat) (t : PS), i + d = PP.length → t.ok → t.os.length = i →
    Ev (fun k => ref16_Lay.l1 k PP (PP.length : Int) (i : Int) (t.s : Int) (t.a : Int) t.sp (ints t.os) false) (layR (layF (PP.drop i) t)) := by
  induction d with
  | zero =>
    intro i t hi ht ho
    refine Ev.step (f := fun _ => some (layR (some t))) (fun k => ?_) ?_
    · simp only [ref16_Lay.l1]
      rw [if_neg (by omega)]
      rfl
    · rw [List.drop_of_length_le (by omega)]
      exact Ev.now _
  | succ d ih =>
    intro i t hi ht ho
    obtain ⟨h1, h2, h3⟩ := ht
    have hlt : i < PP.length := by omega
    have hp := hok _ (List.getElem_mem hlt)
    have hrd := rd31_at PP i hlt
    have hdrop : PP.drop i = PP[i] :: PP.drop (i + 1) := List.drop_eq_getElem_cons hlt
    rw [hdrop]
    revert hp hrd
    generalize PP[i] = p
    intro hp hrd
    obtain ⟨p1, p2, p3, p4⟩ := (okS_iff p).1 hp
    have hu := up_ge t.s p.f1 p3
    have hsum : wrap64 (((up t.s p.f1.toNat : Nat) : Int) + p.f0) = (((t.add p).s : Nat) : Int) := by
      simp only [PS.add]
      unfold wrap64
      omega
    have hos : (ints t.os).length < 17592186044416 := by rw [ints_length]; omega
    have hstep : ∀ k, ref16_Lay.l1 (k + 1) PP (PP.length : Int) (i : Int) (t.s : Int) (t.a : Int) t.sp (ints t.os) false = if 1024 < (t.add p).s then some (layR none) else ref16_Lay.l2 k ((up t.s p.f1.toNat : Nat) : Int) PP (PP.length : Int) (i : Int) (t.s : Int) (t.a : Int) t.sp (ints (t.add p).os) false p.f0 p.f1 p.f2 p.f3 p.f4 p.f5 p.f6 p.f7 := by
      intro k
      simp only [ref16_Lay.l1]
      rw [if_pos (by omega), if_pos (by omega), if_pos (by omega), hrd, rAlign_eq t.s (by omega) p.f1 p3]
      simp only [Option.bind_some]
      rw [hsum]
      by_cases hb : 1024 < (t.add p).s
      · rw [if_pos (by omega), if_pos hb]
        rfl
      · rw [if_neg (by omega), if_neg hb, if_pos hos]
        simp only [PS.add]
        rw [ints_snoc]
    by_cases hb : 1024 < (t.add p).s
    · refine Ev.step (f := fun _ => some (layR none)) (fun k => by rw [hstep, if_pos hb]) ?_
      simp only [layF, if_pos hb]
      exact Ev.now _
    · refine Ev.step (f := fun k => ref16_Lay.l2 k ((up t.s p.f1.toNat : Nat) : Int) PP (PP.length : Int) (i : Int) (t.s : Int) (t.a : Int) t.sp (ints (t.add p).os) false p.f0 p.f1 p.f2 p.f3 p.f4 p.f5 p.f6 p.f7) (fun k => by rw [hstep, if_neg hb]) ?_
      simp only [layF, if_neg hb]
      have hbs : (t.add p).s = up t.s p.f1.toNat + p.f0.toNat := rfl
      refine rPad_from PP _ (i : Int) _ _ _ _ p t.sp (by omega) (by unfold wrap64; omega) _ (up t.s p.f1.toNat) (by omega) (up t.s p.f1.toNat - t.s) t.sp (by omega) ?_
      rw [hsum, mx_nat _ _ (by omega), show (i : Int) + 1 = ((i + 1 : Nat) : Int) by omega]
      exact ih (i + 1) (t.add p) (by omega) (PS.add_ok ⟨h1, h2, h3⟩ hp hb) (by simp only [PS.add, List.length_append, List.length_singleton]; omega)
theorem rChk_from (PP : List S31) (hP : PP.length ≤ 9000) (d : Nat) : ∀ (i : Nat), i + d = PP.length →
    Ev (fun k => ref16_Lay.l0 k PP PP (PP.length : Int) (i : Int) 0 1 false) (if (PP.drop i).any badS then badR else if PP.any badS then badR else layR (layF PP PS.start)) ∨ (PP.take i).any badS = true := by
  induction d with
  | zero =>
    intro i hi
    rw [List.drop_of_length_le (by omega), List.take_of_length_le (by omega)]
    by_cases hb : PP.any badS = true
    · exact .inr hb
    · left
      simp only [List.any_nil, Bool.false_eq_true, if_false, hb]
      have hok : ∀ p ∈ PP, okS p := by
        intro p hp
        unfold okS
        cases h : badS p with
        | false => rfl
        | true => exact absurd (List.any_eq_true.2 ⟨p, hp, h⟩) hb
      have h := rLay_from PP hP hok PP.length 0 PS.start (by omega) PS.start_ok rfl
      rw [List.drop_zero] at h
      refine Ev.step (f := fun k => ref16_Lay.l1 k PP (PP.length : Int) 0 0 1 [] [] false) (fun k => ?_) h
      simp only [ref16_Lay.l0]
      rw [if_neg (by omega)]
  | succ d ih =>
    intro i hi
    have hlt : i < PP.length := by omega
    have hrd := rd31_at PP i hlt
    have hdrop : PP.drop i = PP[i] :: PP.drop (i + 1) := List.drop_eq_getElem_cons hlt
    have htake : PP.take (i + 1) = PP.take i ++ [PP[i]] := List.take_succ_eq_append_getElem hlt
    have hw : wrap64 ((i : Int) + 1) = ((i + 1 : Nat) : Int) := by unfold wrap64; omega
    rw [hdrop, List.any_cons]
    have hih := ih (i + 1) (by omega)
    rw [htake, List.any_append] at hih
    revert hih hrd
    generalize PP[i] = p
    intro hrd hih
    cases hp : badS p with
    | true =>
      left
      refine Ev.step (f := fun _ => some badR) (fun k => ?_) ?_
      · simp only [ref16_Lay.l0]
        rw [if_pos (by omega), if_pos (by omega), if_pos (by omega), hrd, rValid_eq, hp]
        rfl
      · rw [Bool.true_or, if_pos rfl]
        exact Ev.now _
    | false =>
      rcases hih with h | h
      · left
        rw [Bool.false_or]
        refine Ev.step (f := fun k => ref16_Lay.l0 k PP PP (PP.length : Int) ((i + 1 : Nat) : Int) 0 1 false) (fun k => ?_) h
        simp only [ref16_Lay.l0]
        rw [if_pos (by omega), if_pos (by omega), if_pos (by omega), hrd, rValid_eq, hp, hw]
        rfl
      · right
        simpa [hp] using h
theorem rLay_ev (ps : List S31) (hP : ps.length ≤ 9000) : Ev (fun k => ref16_Lay.f k ps) (layV ps) := by
  rcases rChk_from ps hP ps.length 0 (by omega) with h | h
  · rw [List.drop_zero] at h
    have e : (if ps.any badS then badR else if ps.any badS then badR else layR (layF ps PS.start)) = layV ps := by
      unfold layV
      by_cases hb : ps.any badS = true
      · rw [if_pos hb, if_pos hb]
      · rw [if_neg hb, if_neg hb]
    rw [e] at h
    exact h
  · simp at h
/-- What the layouts are whose rules the dice keep. -/
def Lok (p : S31) : Prop := Byt p.f2 ∧ p.f3.length ≤ 9000
theorem PS.add_Byt {t : PS} (ht : Byt t.sp) {p : S31} (hp : Lok p) : Byt (t.add p).sp := (ht.append (Byt.replicate _ (by omega))).append hp.1
theorem layF_Byt : ∀ (ps : List S31) (t : PS), Byt t.sp → (∀ p ∈ ps, Lok p) → ∀ u, layF ps t = some u → Byt u.sp
  | [], t, ht, _, u, h => by
    obtain rfl : t = u := Option.some.inj h
    exact ht
  | p :: ps, t, ht, hp, u, h => by
    simp only [layF] at h
    split at h
    · cases h
    · exact layF_Byt ps _ (PS.add_Byt ht (hp p List.mem_cons_self)) (fun q hq => hp q (List.mem_cons_of_mem _ hq)) u h
theorem layV_Byt (ps : List S31) (h : ∀ p ∈ ps, Lok p) : Byt (layV ps).2.2.1 := by
  unfold layV
  split
  · exact Byt.nil
  · cases hf : layF ps PS.start with
    | none => exact Byt.nil
    | some u => exact layF_Byt ps PS.start Byt.nil h u hf
theorem layF_os : ∀ (ps : List S31) (t u : PS), layF ps t = some u → u.os.length = t.os.length + ps.length
  | [], t, u, h => by
    obtain rfl : t = u := Option.some.inj h
    rfl
  | p :: ps, t, u, h => by
    simp only [layF] at h
    split at h
    · cases h
    · rw [layF_os ps _ u h]
      simp only [PS.add, List.length_append, List.length_cons, List.length_nil]
      omega
theorem layV_len (ps : List S31) : (layV ps).2.2.2.1.length ≤ ps.length := by
  unfold layV
  split
  · exact Nat.zero_le _
  · cases hf : layF ps PS.start with
    | none => exact Nat.zero_le _
    | some u =>
      show (ints u.os).length ≤ _
      rw [ints_length, layF_os ps PS.start u hf]
      show 0 + ps.length ≤ _
      omega
def S9 (r : LT9) : S31 := ⟨r.1, r.2.1, r.2.2.1, r.2.2.2.1, r.2.2.2.2.1, r.2.2.2.2.2.1, r.2.2.2.2.2.2.1, r.2.2.2.2.2.2.2.1⟩
def at9 (r : LT9) : Int := r.2.2.2.2.2.2.2.2
theorem awake16_eq : Awake16.f = some true := rfl
theorem layF_ok : ∀ (ps : List S31) (t : PS), t.ok → (∀ p ∈ ps, okS p) → ∀ u, layF ps t = some u → u.ok
  | [], t, ht, _, u, h => by
    obtain rfl : t = u := Option.some.inj h
    exact ht
  | p :: ps, t, ht, hp, u, h => by
    simp only [layF] at h
    split at h
    · cases h
    · rename_i hs
      exact layF_ok ps _ (PS.add_ok ht (hp p List.mem_cons_self) hs) (fun q hq => hp q (List.mem_cons_of_mem _ hq)) u h
theorem not_any {ps : List S31} (h : ¬ ps.any badS = true) : ∀ p ∈ ps, okS p := by
  intro p hp
  unfold okS
  cases h2 : badS p with
  | false => rfl
  | true => exact absurd (List.any_eq_true.2 ⟨p, hp, h2⟩) h
theorem layV_len2 (ps : List S31) : (layV ps).2.2.1.length ≤ 1024 := by
  unfold layV
  split
  · exact Nat.zero_le _
  · rename_i hb
    cases hf : layF ps PS.start with
    | none => exact Nat.zero_le _
    | some u =>
      obtain ⟨h1, h2, _⟩ := layF_ok ps PS.start PS.start_ok (not_any hb) u hf
      show u.sp.length ≤ 1024
      omega
theorem Layout_ev2 (l : List Int) (hl : l.length ≤ 9000) (d : Nat) : ∀ a : Int, At l a → ((l.length : Int) - a).toNat ≤ d →
    ∃ r : LT9, Ev (fun k => made_Dice_Layout.f k l a) r ∧ (Lok (S9 r) ∧ (S9 r).f2.length ≤ 9000) ∧ At l (at9 r) ∧ a ≤ at9 r := by
  induction d using Nat.strongRecOn with
  | _ d ih =>
  intro a ha hd
  obtain ⟨v, b, hv, h0, h1, hb, hab, hz⟩ := Next_eq l hl a 7 ha (by omega) (by omega)
  have go : ∀ (r : LT9) (g : Nat → Option LT9), (∀ k, made_Dice_Layout.f (k + 1) l a = g k) → Ev g r → Ev (fun k => made_Dice_Layout.f k l a) r := fun r g h1 h2 => Ev.step h1 h2
  by_cases c0 : v = 0
  · refine ⟨((8, 8, List.replicate 8 0, [], [], [], [], false, b) : LT9), go _ _ (fun k => by simp only [made_Dice_Layout.f]; rw [hv]; simp only [Option.bind_some]; rw [if_pos c0]) (Ev.now _), ?_, hb, hab⟩
    exact ⟨⟨Byt.replicate 8 (show (0 : Int) ≤ 0 ∧ (0 : Int) < 256 by omega), Nat.zero_le _⟩, by simp [S9]⟩
  by_cases c1 : v = 1
  · refine ⟨((1, 1, [0], [], [], [], [], false, b) : LT9), go _ _ (fun k => by simp only [made_Dice_Layout.f]; rw [hv]; simp only [Option.bind_some]; rw [if_neg c0, if_pos c1]) (Ev.now _), ?_, hb, hab⟩
    exact ⟨⟨Byt.cons.2 ⟨by omega, Byt.nil⟩, Nat.zero_le _⟩, by simp [S9]⟩
  by_cases c2 : v = 2
  · refine ⟨((1, 1, [254], [], [], [], [], false, b) : LT9), go _ _ (fun k => by simp only [made_Dice_Layout.f]; rw [hv]; simp only [Option.bind_some]; rw [if_neg c0, if_neg c1, if_pos c2]) (Ev.now _), ?_, hb, hab⟩
    exact ⟨⟨Byt.cons.2 ⟨by omega, Byt.nil⟩, Nat.zero_le _⟩, by simp [S9]⟩
  by_cases c3 : v = 3
  · refine ⟨((8, 8, [7, 0, 0, 0, 0, 0, 255, 255], [], [], [], [], true, b) : LT9), go _ _ (fun k => by simp only [made_Dice_Layout.f]; rw [hv]; simp only [Option.bind_some]; rw [if_neg c0, if_neg c1, if_neg c2, if_pos c3]) (Ev.now _), ?_, hb, hab⟩
    refine ⟨⟨?_, Nat.zero_le _⟩, by simp [S9]⟩
    intro x hx
    simp only [S9, List.mem_cons, List.not_mem_nil, or_false] at hx
    omega
  by_cases c4 : v = 4
  · have hlt : a < b := by
      rcases Int.lt_or_eq_of_le hab with h | h
      · exact h
      · exact absurd (hz h) c0
    have hb1 := hb.1
    have hb2 := hb.2
    have ha1 := ha.1
    obtain ⟨r1, e1, k1, m1, n1⟩ := ih ((l.length : Int) - b).toNat (by omega) b hb (by omega)
    have m11 := m1.1
    have m12 := m1.2
    obtain ⟨r2, e2, k2, m2, n2⟩ := ih ((l.length : Int) - at9 r1).toNat (by omega) (at9 r1) m1 (by omega)
    have e3 := rLay_ev [S9 r1, S9 r2] (by simp)
    have k3 := layV_Byt [S9 r1, S9 r2] (by
      intro p hp
      simp only [List.mem_cons, List.not_mem_nil, or_false] at hp
      rcases hp with rfl | rfl
      · exact k1.1
      · exact k2.1)
    refine ⟨(((layV [S9 r1, S9 r2]).1, (layV [S9 r1, S9 r2]).2.1, (layV [S9 r1, S9 r2]).2.2.1, (layV [S9 r1, S9 r2]).2.2.2.1, (layV [S9 r1, S9 r2]).2.2.2.2.1, (layV [S9 r1, S9 r2]).2.2.2.2.2.1, (layV [S9 r1, S9 r2]).2.2.2.2.2.2.1, (layV [S9 r1, S9 r2]).2.2.2.2.2.2.2.1, at9 r2) : LT9), go _ (fun k => (made_Dice_Layout.f k l b).bind fun bt168 => ((made_Dice_Layout.f k l bt168.2.2.2.2.2.2.2.2).bind fun bt187 => ((ref16_Lay.f k (([(⟨bt168.1, bt168.2.1, bt168.2.2.1, bt168.2.2.2.1, bt168.2.2.2.2.1, bt168.2.2.2.2.2.1, bt168.2.2.2.2.2.2.1, bt168.2.2.2.2.2.2.2.1⟩ : S31), (⟨bt187.1, bt187.2.1, bt187.2.2.1, bt187.2.2.2.1, bt187.2.2.2.2.1, bt187.2.2.2.2.2.1, bt187.2.2.2.2.2.2.1, bt187.2.2.2.2.2.2.2.1⟩ : S31)] : List (S31)))).bind fun bt209 => (some ((bt209.1, bt209.2.1, bt209.2.2.1, bt209.2.2.2.1, bt209.2.2.2.2.1, bt209.2.2.2.2.2.1, bt209.2.2.2.2.2.2.1, bt209.2.2.2.2.2.2.2.1, bt187.2.2.2.2.2.2.2.2) : LT9))))) (fun k => by simp only [made_Dice_Layout.f]; rw [hv]; simp only [Option.bind_some]; rw [if_neg c0, if_neg c1, if_neg c2, if_neg c3, if_pos c4]) ?_, ⟨⟨k3, Nat.le_trans (layV_len [S9 r1, S9 r2]) (by simp)⟩, Nat.le_trans (layV_len2 [S9 r1, S9 r2]) (by omega)⟩, m2, by show a ≤ at9 r2; omega⟩
    refine Ev.bind e1 (Ev.bind e2 (Ev.bind e3 ?_))
    exact Ev.now _
  by_cases c5 : v = 5
  · refine ⟨((0, 1, [], [], [], [], [], false, b) : LT9), go _ _ (fun k => by simp only [made_Dice_Layout.f]; rw [hv]; simp only [Option.bind_some]; rw [if_neg c0, if_neg c1, if_neg c2, if_neg c3, if_neg c4, if_pos c5]) (Ev.now _), ?_, hb, hab⟩
    exact ⟨⟨Byt.nil, Nat.zero_le _⟩, by simp [S9]⟩
  · obtain ⟨y, c, e1, hy, hyl, hc, hbc⟩ := Bytes_ev l hl b 12 hb (by omega) (by omega)
    obtain ⟨v2, b2, hv2, h02, h12, hb2, hab2, _⟩ := Next_eq l hl c 2 hc (by omega) (by omega)
    refine ⟨(((y.length : Int), wrap64 (1 + (wrap64 (7 * v2))), y, [], [], [], [], false, b2) : LT9), go _ (fun k => (made_Dice_Bytes.f k l b 12).bind fun bt229 => ((made_Dice_Next.f l bt229.2 2).bind fun bt233 => (some (((bt229.1.length : Int), wrap64 (1 + (wrap64 (7 * bt233.1))), bt229.1, ([] : List Int), ([] : List (S101)), ([] : List (S79)), ([] : List Int), false, bt233.2) : LT9)))) (fun k => by simp only [made_Dice_Layout.f]; rw [hv]; simp only [Option.bind_some]; rw [if_neg c0, if_neg c1, if_neg c2, if_neg c3, if_neg c4, if_neg c5]) ?_, ⟨⟨hy, Nat.zero_le _⟩, by show y.length ≤ 9000; omega⟩, hb2, by show a ≤ b2; omega⟩
    refine Ev.bind e1 ?_
    simp only [hv2, Option.bind_some]
    exact Ev.now _
theorem Rare_eq (l : List Int) (hl : l.length ≤ 9000) (a n : Int) (ha : At l a) (h : 1 ≤ n) (h2 : n < 4611686018427387904) : ∃ v b, made_Dice_Rare.f l a n = some (v, b) ∧ At l b ∧ a ≤ b := by
  obtain ⟨v, b, hv, _, _, hb, hab, _⟩ := Next_eq l hl a n ha h h2
  refine ⟨v == wrap64 (n - 1), b, ?_, hb, hab⟩
  unfold made_Dice_Rare.f
  rw [hv]
  rfl
theorem Odd_ev (l : List Int) (hl : l.length ≤ 9000) (a : Int) (ha : At l a) : ∃ r : LT9, Ev (fun k => made_Dice_OddLayout.f k l a) r ∧ At l (at9 r) ∧ a ≤ at9 r := by
  obtain ⟨⟨r0, r1, r2, r3, r4, r5, r6, r7, b⟩, e1, ⟨_, hlen⟩, hb, hab⟩ := Layout_ev2 l hl _ a ha (Nat.le_refl _)
  have hlen2 : r2.length ≤ 9000 := hlen
  have hb' : At l b := hb
  have hab' : a ≤ b := hab
  obtain ⟨v, c, hv, hc, hbc⟩ := Rare_eq l hl b 4 hb' (by omega) (by omega)
  obtain ⟨w, d, hw, hw0, hw1, hd, hcd, _⟩ := Next_eq l hl c 4 hc (by omega) (by omega)
  obtain ⟨w4, d4, hw4, hw40, hw41, hd4, hdd4, _⟩ := Next_eq l hl d 4 hd (by omega) (by omega)
  obtain ⟨w3, d3, hw3, hw30, hw31, hd3, hdd3, _⟩ := Next_eq l hl d 3 hd (by omega) (by omega)
  obtain ⟨K, hK⟩ := e1
  have go : ∀ r : LT9, (∀ k, K ≤ k → made_Dice_OddLayout.f k l a = some r) → Ev (fun k => made_Dice_OddLayout.f k l a) r := fun r h => ⟨K, h⟩
  have hE : ∀ k, K ≤ k → made_Dice_Layout.f k l a = some (r0, r1, r2, r3, r4, r5, r6, r7, b) := hK
  cases v with
  | false =>
    refine ⟨(r0, r1, r2, r3, r4, r5, r6, r7, c), go _ (fun k hk => ?_), hc, by show a ≤ c; omega⟩
    unfold made_Dice_OddLayout.f
    rw [hE k hk]
    simp only [Option.bind_some, hv, Bool.false_eq_true, if_false]
  | true =>
    by_cases c0 : w = 0
    · refine ⟨(wrap64 (r0 + 1), r1, r2, r3, r4, r5, r6, r7, d), go _ (fun k hk => ?_), hd, by show a ≤ d; omega⟩
      unfold made_Dice_OddLayout.f
      rw [hE k hk]
      simp only [Option.bind_some, hv, if_true, hw]
      rw [if_pos c0]
    by_cases c1 : w = 1
    · refine ⟨(r0, rd [0, 2, 16, (-8)] w4, r2, r3, r4, r5, r6, r7, d4), go _ (fun k hk => ?_), hd4, by show a ≤ d4; omega⟩
      unfold made_Dice_OddLayout.f
      rw [hE k hk]
      simp only [Option.bind_some, hv, if_true, hw]
      rw [if_neg c0, if_pos c1, hw4]
      simp only [Option.bind_some]
      rw [if_pos hw40, if_pos (by simp; omega)]
    by_cases c2 : w = 2
    · refine ⟨(r0, r1, r2 ++ [0], r3, r4, r5, r6, r7, d), go _ (fun k hk => ?_), hd, by show a ≤ d; omega⟩
      unfold made_Dice_OddLayout.f
      rw [hE k hk]
      simp only [Option.bind_some, hv, if_true, hw]
      rw [if_neg c0, if_neg c1, if_pos c2, if_pos (by simp; omega)]
      simp only [List.nil_append]
      rw [if_pos (by omega)]
    · have c3 : w = 3 := by omega
      have hr : 0 ≤ rd [1021, 1024, 1025] w3 ∧ rd [1021, 1024, 1025] w3 ≤ 1025 := by
        have h3 : w3 = 0 ∨ w3 = 1 ∨ w3 = 2 := by omega
        rcases h3 with rfl | rfl | rfl <;> decide
      refine ⟨(rd [1021, 1024, 1025] w3, 1, List.replicate (rd [1021, 1024, 1025] w3 : Int).toNat 0, [], [], [], [], false, d3), go _ (fun k hk => ?_), hd3, by show a ≤ d3; omega⟩
      unfold made_Dice_OddLayout.f
      rw [hE k hk]
      simp only [Option.bind_some, hv, if_true, hw]
      rw [if_neg c0, if_neg c1, if_neg c2, if_pos c3]
      simp only [Option.bind_some, hw3]
      rw [if_pos hw30, if_pos (by simp; omega), if_pos hr.1, if_pos (by omega)]
theorem rints_from (a : List Int) (hl : a.length ≤ 90000) (d : Nat) : ∀ j : Nat, j + d = a.length → Ev (fun k => ref16_ints.l0 k a a (j : Int)) true := by
  induction d with
  | zero =>
    intro j hj
    refine Ev.step (f := fun _ => some true) (fun k => ?_) (Ev.now _)
    simp only [ref16_ints.l0]
    rw [if_neg (by omega)]
  | succ d ih =>
    intro j hj
    refine Ev.step (f := fun k => ref16_ints.l0 k a a ((j + 1 : Nat) : Int)) (fun k => ?_) (ih (j + 1) (by omega))
    simp only [ref16_ints.l0]
    rw [if_pos (by omega), if_pos (by omega), if_pos (by omega), if_pos trivial, show wrap64 ((j : Int) + 1) = ((j + 1 : Nat) : Int) by unfold wrap64; omega]
theorem rints_ev (a : List Int) (hl : a.length ≤ 90000) : Ev (fun k => ref16_ints.f k a a) true := by
  refine Ev.congr (f := fun k => ref16_ints.l0 k a a 0) (fun k => by unfold ref16_ints.f; rw [if_pos rfl]) ?_
  exact rints_from a hl a.length 0 (by omega)
theorem types_nil : Ev (fun k => ref16_types.f k [] []) true := Ev.of (fun k => ref16_types.mono [] [] k) (k := 3) (by decide +kernel)
theorem Same_ev (s a : Int) (sp os : List Int) (tb : List Int) (b : Bool) (hos : os.length ≤ 90000) (htb : tb.length ≤ 90000) : Ev (fun k => ref16_Same.f k s a sp os [] [] tb b s a sp os [] [] tb b) true := by
  obtain ⟨K1, e1⟩ := rints_ev os hos
  obtain ⟨K2, e2⟩ := rints_ev tb htb
  obtain ⟨K3, e3⟩ := types_nil
  refine ⟨K1 + K2 + K3 + 2, fun k hk => ?_⟩
  have E1 := e1 k (by omega)
  have E2 := e2 k (by omega)
  have E3 := e3 k (by omega)
  obtain ⟨m, rfl⟩ : ∃ m, k = m + 2 := ⟨k - 2, by omega⟩
  simp only at E1 E2 E3
  simp only [ref16_Same.f, E1, E2, E3, Option.bind_some, if_true, bne_self_eq_false, Bool.false_eq_true, if_false, Bool.not_true, ref16_Same.j0, ref16_Same.l0, List.length_nil]
  rw [if_neg (by omega)]
theorem layV_shape (ps : List S31) : ∃ s a sp os e, layV ps = (s, a, sp, os, [], [], [], false, e) := by
  unfold layV
  split
  · exact ⟨_, _, _, _, _, rfl⟩
  · cases layF ps PS.start with
    | none => exact ⟨_, _, _, _, _, rfl⟩
    | some u => exact ⟨_, _, _, _, _, rfl⟩
theorem align_same (a b : Int) (ha : 0 ≤ a ∧ a < 4611686018427387904) (hb : b ≤ 4611686018427387904) : product_Align.f a b = ref16_Align.f a b ∧ ∃ r, ref16_Align.f a b = some r := by
  unfold product_Align.f ref16_Align.f
  by_cases h1 : b < 1
  · rw [if_pos h1, if_pos h1]
    exact ⟨rfl, _, rfl⟩
  · have h2 : Int.tmod a b = a % b := Int.tmod_eq_emod_of_nonneg (by omega)
    have h3 := Int.emod_nonneg a (show b ≠ 0 by omega)
    have h4 := Int.emod_lt_of_pos a (show 0 < b by omega)
    have hb0 : ¬ b = 0 := by omega
    rw [h2]
    revert h3 h4
    generalize a % b = m
    intro h3 h4
    have hm : ¬ m < 0 := by omega
    simp only [if_neg h1, if_neg hb0, if_neg hm]
    by_cases h5 : m = 0
    · simp only [if_pos h5]
      exact ⟨trivial, _, rfl⟩
    · simp only [if_neg h5]
      refine ⟨?_, _, rfl⟩
      congr 1
      unfold wrap64
      omega
theorem PL_l3 (x2 x3 : Int) (y : List (List S31)) (i : Int) (p : List S31) (hp : p.length ≤ 9000) (h : Ev (fun k => law16_ProductLays.l2 k x2 x3 y (y.length : Int) (wrap64 (i + 1))) true) (d : Nat) : ∀ j : Nat, j + d = p.length →
    Ev (fun k => law16_ProductLays.l3 k x2 x3 y (y.length : Int) i p (p.length : Int) (j : Int)) true := by
  induction d with
  | zero =>
    intro j hj
    refine Ev.step (fun k => ?_) h
    simp only [law16_ProductLays.l3]
    rw [if_neg (by omega)]
  | succ d ih =>
    intro j hj
    refine Ev.step (fun k => ?_) (ih (j + 1) (by omega))
    have hlt : j < p.length := by omega
    simp only [law16_ProductLays.l3]
    rw [if_pos (by omega), if_pos (by omega), if_pos (by omega), rd31_at p j hlt, rValid_eq, show wrap64 ((j : Int) + 1) = ((j + 1 : Nat) : Int) by unfold wrap64; omega]
    simp only [Option.bind_some]
    cases hb : badS p[j] with
    | true => simp
    | false =>
      obtain ⟨p1, p2, p3, p4⟩ := (okS_iff p[j]).1 hb
      obtain ⟨h1, r, h2⟩ := align_same p[j].f0 p[j].f1 ⟨p1, by omega⟩ (by omega)
      simp only [product_Stride.f, ref16_Stride.f, h1, h2, Option.bind_some, Bool.not_false, if_true]
theorem PL_l2 (x2 x3 : Int) (h2 : 0 ≤ x2 ∧ x2 < 65536) (h3 : 0 ≤ x3 ∧ x3 < 65536) (y : List (List S31)) (hy : y.length ≤ 9000) (hy2 : ∀ p ∈ y, p.length ≤ 9000) (d : Nat) : ∀ j : Nat, j + d = y.length →
    Ev (fun k => law16_ProductLays.l2 k x2 x3 y (y.length : Int) (j : Int)) true := by
  induction d with
  | zero =>
    intro j hj
    have hm : Int.tmod x3 20 = x3 % 20 := Int.tmod_eq_emod_of_nonneg (by omega)
    obtain ⟨h1, r, h4⟩ := align_same (wrap64 x2) (wrap64 (Int.tmod x3 20)) (by unfold wrap64; omega) (by rw [hm]; unfold wrap64; omega)
    refine Ev.step (f := fun _ => some true) (fun k => ?_) (Ev.now _)
    simp only [law16_ProductLays.l2]
    rw [if_neg (by omega)]
    simp only [h1, h4, Option.bind_some, if_true, awake16_eq]
  | succ d ih =>
    intro j hj
    have hlt : j < y.length := by omega
    have hs : y[j] ∈ y := List.getElem_mem hlt
    have hrd : rd_L11 y (j : Int) = y[j] := by
      unfold rd_L11
      rw [Int.toNat_natCast, List.getD_eq_getElem?_getD, List.getElem?_eq_getElem hlt]
      rfl
    have hp := hy2 _ hs
    obtain ⟨s, a, sp, os, e, hV⟩ := layV_shape y[j]
    have hos := layV_len y[j]
    rw [hV] at hos
    have hos' : os.length ≤ 90000 := Nat.le_trans hos (by omega)
    obtain ⟨K1, e1⟩ := pLay_ev y[j] hp
    obtain ⟨K2, e2⟩ := rLay_ev y[j] hp
    obtain ⟨K3, e3⟩ := Same_ev s a sp os [] false hos' (by simp)
    have hw : wrap64 ((j : Int) + 1) = ((j + 1 : Nat) : Int) := by unfold wrap64; omega
    obtain ⟨K4, e4⟩ := PL_l3 x2 x3 y (j : Int) y[j] hp (by rw [hw]; exact ih (j + 1) (by omega)) y[j].length 0 (by omega)
    refine ⟨K1 + K2 + K3 + K4 + 1, fun k hk => ?_⟩
    obtain ⟨m, rfl⟩ : ∃ m, k = m + 1 := ⟨k - 1, by omega⟩
    have E1 := e1 m (by omega)
    have E2 := e2 m (by omega)
    have E3 := e3 m (by omega)
    have E4 := e4 m (by omega)
    simp only [hV] at E1 E2 E3 E4
    simp only [law16_ProductLays.l2]
    rw [if_pos (by omega), if_pos (by omega), if_pos (by omega), hrd]
    simp only [E1, E2, E3, Option.bind_some, if_true]
    exact E4
theorem PL_l1 (x0 : List S31) (h0 : x0.length ≤ 9000) (x2 x3 : Int) (h2 : 0 ≤ x2 ∧ x2 < 65536) (h3 : 0 ≤ x3 ∧ x3 < 65536) (l : List Int) (hl : l.length ≤ 9000) (d : Nat) : ∀ (A B : List S31) (a : Int), A.length + d ≤ 100 → B.length + d ≤ 100 → At l a →
    Ev (fun k => law16_ProductLays.l1 k x0 x2 x3 A B (d : Int) l a) true := by
  induction d with
  | zero =>
    intro A B a hA hB ha
    refine Ev.step (fun k => ?_) (PL_l2 x2 x3 h2 h3 [x0, A, B] (by simp) (fun p hp => by
      simp only [List.mem_cons, List.not_mem_nil, or_false] at hp
      rcases hp with rfl | rfl | rfl <;> omega) 3 0 rfl)
    simp only [law16_ProductLays.l1]
    rw [if_neg (by omega)]
    rfl
  | succ d ih =>
    intro A B a hA hB ha
    obtain ⟨r, e1, _, hr, _⟩ := Layout_ev2 l hl _ a ha (Nat.le_refl _)
    obtain ⟨q, e2, hq, _⟩ := Odd_ev l hl (at9 r) hr
    have h := ih (A ++ [S9 r]) (B ++ [S9 q]) (at9 q) (by simp; omega) (by simp; omega) hq
    obtain ⟨K1, e1⟩ := e1
    obtain ⟨K2, e2⟩ := e2
    obtain ⟨K3, e3⟩ := h
    refine ⟨K1 + K2 + K3 + 1, fun k hk => ?_⟩
    obtain ⟨m, rfl⟩ : ∃ m, k = m + 1 := ⟨k - 1, by omega⟩
    have E1 := e1 m (by omega)
    have E2 := e2 m (by omega)
    have E3 := e3 m (by omega)
    simp only [at9, S9] at E1 E2 E3
    simp only [law16_ProductLays.l1]
    rw [if_pos (by omega), E1]
    simp only [Option.bind_some]
    rw [if_pos (by omega), E2]
    simp only [Option.bind_some]
    rw [if_pos (by omega), show wrap64 (((d + 1 : Nat) : Int) - 1) = (d : Int) by unfold wrap64; omega]
    exact E3
theorem PL_l0 (x0 : List S31) (h0 : x0.length ≤ 9000) (x2 x3 : Int) (h2 : 0 ≤ x2 ∧ x2 < 65536) (h3 : 0 ≤ x3 ∧ x3 < 65536) (l : List Int) (hl : l.length ≤ 9000) (d : Nat) : ∀ j : Nat, j + d = x0.length →
    Ev (fun k => law16_ProductLays.l0 k x0 l x2 x3 x0 (x0.length : Int) (j : Int)) true := by
  induction d with
  | zero =>
    intro j hj
    obtain ⟨v, b, hv, hv0, hv1, hb, _, _⟩ := Next_eq l hl 0 7 ⟨by omega, by omega⟩ (by omega) (by omega)
    obtain ⟨d, rfl⟩ := Int.eq_ofNat_of_zero_le hv0
    refine Ev.step (fun k => ?_) (PL_l1 x0 h0 x2 x3 h2 h3 l hl d [] [] b (by simp; omega) (by simp; omega) hb)
    simp only [law16_ProductLays.l0]
    rw [if_neg (by omega)]
    simp only [made_Roll.f, Option.bind_some, hv]
  | succ d ih =>
    intro j hj
    by_cases h : (((rd_T31 x0 (j : Int)).f2).length : Int) > 2000
    · refine Ev.step (f := fun _ => some true) (fun k => ?_) (Ev.now _)
      simp only [law16_ProductLays.l0]
      rw [if_pos (by omega), if_pos (by omega), if_pos (by omega), if_pos h, awake16_eq]
      rfl
    · refine Ev.step (fun k => ?_) (ih (j + 1) (by omega))
      simp only [law16_ProductLays.l0]
      rw [if_pos (by omega), if_pos (by omega), if_pos (by omega), if_neg h, show wrap64 ((j : Int) + 1) = ((j + 1 : Nat) : Int) by unfold wrap64; omega]
theorem u16_wf {x : Int} (h : (Lit.int .u16 x).wf = true) : 0 ≤ x ∧ x < 65536 := by
  simp [Lit.wf, IntKind.min, IntKind.max, IntKind.bits, IntKind.signed] at h
  omega
theorem ProductLays_pure : law16_ProductLays.Pure := by
  intro l0 l1 a2 a3 w2 w3
  suffices h : Ev (fun k => law16_ProductLays.f k l0 l1 a2 a3) true from h.rounds
  by_cases h0 : (l0.length : Int) > 40
  · refine Ev.congr (f := fun _ => some true) (fun k => ?_) (Ev.now _)
    unfold law16_ProductLays.f
    rw [if_pos h0, awake16_eq]
    rfl
  by_cases h1 : (l1.length : Int) ≤ 700
  · refine Ev.congr (fun k => ?_) (PL_l0 l0 (by omega) a2 a3 (u16_wf w2) (u16_wf w3) l1 (by omega) l0.length 0 (by omega))
    unfold law16_ProductLays.f made_Light.f
    rw [if_neg h0]
    simp only [Option.bind_some, decide_eq_true h1, if_true]
    rfl
  · refine Ev.congr (f := fun _ => some true) (fun k => ?_) (Ev.now _)
    unfold law16_ProductLays.f made_Light.f
    rw [if_neg h0]
    simp only [Option.bind_some, decide_eq_false h1, Bool.false_eq_true, if_false, awake16_eq]
end Go.Proofs.Ytpcephbhnbfcmaa.L
