-- The plain law ProductSingle_pure: what the printed functions compute, with no program in sight.
import Derived.Test.YtpcephbhnbfcmaaF0
import Derived.Test.YtpcephbhnbfcmaaF1
import Derived.Test.YtpcephbhnbfcmaaF2
import Derived.Test.YtpcephbhnbfcmaaF3
import Derived.Test.YtpcephbhnbfcmaaF4
import Derived.Test.YtpcephbhnbfcmaaF5
import Derived.Test.YtpcephbhnbfcmaaF6
import Derived.Test.YtpcephbhnbfcmaaF7
namespace Go.Proofs.Ytpcephbhnbfcmaa.F
open Go.RowKit Go.Proofs.YtpcephbhnbfcmaaW.PrintWords Go.Proofs.YtpcephbhnbfcmaaW.PrintLast Go.Proofs.YtpcephbhnbfcmaaW.PrintMore
set_option linter.unusedVariables false
set_option linter.unusedSimpArgs false
def Byt (l : List Int) : Prop := ∀ x ∈ l, 0 ≤ x ∧ x < 256
theorem Byt.nil : Byt [] := fun _ h => by cases h
theorem Byt.cons {x : Int} {l : List Int} : Byt (x :: l) ↔ (0 ≤ x ∧ x < 256) ∧ Byt l := by
  constructor
  · intro h
    exact ⟨h x List.mem_cons_self, fun y hy => h y (List.mem_cons_of_mem _ hy)⟩
  · rintro ⟨h1, h2⟩ y hy
    rcases List.mem_cons.1 hy with rfl | hy
    · exact h1
    · exact h2 y hy
theorem Byt.append {a b : List Int} (ha : Byt a) (hb : Byt b) : Byt (a ++ b) := by
  intro x hx
  rcases List.mem_append.1 hx with h | h
  · exact ha x h
  · exact hb x h
theorem Byt.take {a : List Int} (ha : Byt a) (n : Nat) : Byt (a.take n) := fun x hx => ha x (List.mem_of_mem_take hx)
theorem Byt.drop {a : List Int} (ha : Byt a) (n : Nat) : Byt (a.drop n) := fun x hx => ha x (List.mem_of_mem_drop hx)
theorem Byt.replicate (n : Nat) {x : Int} (h : 0 ≤ x ∧ x < 256) : Byt (List.replicate n x) := fun y hy => by
  rw [(List.mem_replicate.1 hy).2]
  exact h
def ints (l : List Nat) : List Int := l.map fun (x : Nat) => (x : Int)
theorem ints_length (s : List Nat) : (ints s).length = s.length := by simp [ints]
theorem wrap64_id {x : Int} (h1 : -9223372036854775808 ≤ x) (h2 : x < 9223372036854775808) : wrap64 x = x := by unfold wrap64; omega
theorem Mod_eq (x n : Int) (h : 1 ≤ n) (h2 : n < 4611686018427387904) : ∃ v, made_Mod.f x n = some v ∧ 0 ≤ v ∧ v < n := by
  have a1 := Int.tmod_lt_of_pos x (show 0 < n by omega)
  have a2 : -n < Int.tmod x n := by
    have := Int.tmod_lt_of_pos (-x) (show 0 < n by omega)
    rw [Int.neg_tmod] at this
    omega
  unfold made_Mod.f
  rw [if_neg (by omega), if_neg (by omega)]
  by_cases h0 : Int.tmod x n < 0
  · rw [if_pos h0, wrap64_id (by omega) (by omega)]
    exact ⟨_, rfl, by omega, by omega⟩
  · rw [if_neg h0]
    exact ⟨_, rfl, by omega, by omega⟩
/-- Where the dice may stand. -/
def At (l : List Int) (a : Int) : Prop := 0 ≤ a ∧ a ≤ l.length
theorem Next_eq (l : List Int) (hl : l.length ≤ 9000) (a n : Int) (ha : At l a) (h : 1 ≤ n) (h2 : n < 4611686018427387904) :
    ∃ v b, made_Dice_Next.f l a n = some (v, b) ∧ 0 ≤ v ∧ v < n ∧ At l b ∧ a ≤ b ∧ (a = b → v = 0) := by
  have h0 := ha.1
  have h1 := ha.2
  unfold made_Dice_Next.f made_Dice_Left.f
  simp only [Option.bind_some]
  by_cases hc : a < (l.length : Int)
  · have e : wrap64 (wrap64 (a + 1) - 1) = a := by unfold wrap64; omega
    have e1 : wrap64 (a + 1) = a + 1 := by unfold wrap64; omega
    obtain ⟨v, hv, h3, h4⟩ := Mod_eq (rd l a) n h h2
    rw [decide_eq_true hc, if_pos rfl, e, if_pos h0, if_pos hc, hv, e1]
    exact ⟨v, a + 1, rfl, h3, h4, ⟨by omega, by omega⟩, by omega, by omega⟩
  · rw [decide_eq_false hc, if_neg (by simp)]
    exact ⟨0, a, rfl, by omega, by omega, ha, by omega, fun _ => rfl⟩
theorem Bytes_from (l : List Int) (hl : l.length ≤ 9000) (d : Nat) : ∀ (x : List Int) (a : Int), Byt x → x.length + d ≤ 9000 → At l a →
    ∃ y b, Ev (fun k => made_Dice_Bytes.l0 k x (d : Int) l a) (y, b) ∧ Byt y ∧ y.length = x.length + d ∧ At l b ∧ a ≤ b := by
  induction d with
  | zero =>
    intro x a hx hd ha
    refine ⟨x, a, Ev.step (f := fun _ => some (x, a)) (fun k => ?_) (Ev.now _), hx, rfl, ha, by omega⟩
    simp only [made_Dice_Bytes.l0]
    rw [if_neg (by omega)]
  | succ d ih =>
    intro x a hx hd ha
    obtain ⟨v, b, hv, h0, h1, hb, hab, _⟩ := Next_eq l hl a 256 ha (by omega) (by omega)
    obtain ⟨y, c, he, hy, hyl, hc, hbc⟩ := ih (x ++ [v % 256]) b (hx.append (Byt.cons.2 ⟨by omega, Byt.nil⟩)) (by simp; omega) hb
    refine ⟨y, c, Ev.step (f := fun k => made_Dice_Bytes.l0 k (x ++ [v % 256]) (d : Int) l b) (fun k => ?_) he, hy, by rw [hyl]; simp; omega, hc, by omega⟩
    simp only [made_Dice_Bytes.l0]
    rw [if_pos (by omega), hv]
    simp only [Option.bind_some]
    rw [if_pos (by omega), show wrap64 (((d + 1 : Nat) : Int) - 1) = (d : Int) by unfold wrap64; omega]
theorem Bytes_ev (l : List Int) (hl : l.length ≤ 9000) (a n : Int) (ha : At l a) (hn : 0 ≤ n) (hn2 : n ≤ 1000) :
    ∃ y b, Ev (fun k => made_Dice_Bytes.f k l a n) (y, b) ∧ Byt y ∧ (y.length : Int) ≤ n ∧ At l b ∧ a ≤ b := by
  obtain ⟨v, b, hv, h0, h1, hb, hab, _⟩ := Next_eq l hl a (wrap64 (n + 1)) ha (by unfold wrap64; omega) (by unfold wrap64; omega)
  obtain ⟨d, rfl⟩ := Int.eq_ofNat_of_zero_le h0
  have h3 : (d : Int) ≤ n := by revert h1; unfold wrap64; omega
  obtain ⟨y, c, he, hy, hyl, hc, hbc⟩ := Bytes_from l hl d [] b Byt.nil (by simp; omega) hb
  refine ⟨y, c, Ev.congr (f := fun k => made_Dice_Bytes.l0 k [] (d : Int) l b) (fun k => ?_) he, hy, by rw [hyl]; simp; omega, hc, by omega⟩
  unfold made_Dice_Bytes.f
  rw [hv]
  rfl
/-- The least number from s on that a divides, for a = 1 or 8. -/
def up (s a : Nat) : Nat := (s + (a - 1)) / a * a
theorem up_1 (s : Nat) : up s 1 = s := by unfold up; omega
theorem up_8 (s : Nat) : up s 8 = (s + 7) / 8 * 8 := rfl
def okS (p : S31) : Prop := badS p = false
theorem okS_iff (p : S31) : okS p ↔ 0 ≤ p.f0 ∧ p.f0 ≤ 1024 ∧ (p.f1 = 1 ∨ p.f1 = 8) ∧ (p.f2.length : Int) = p.f0 := by
  unfold okS badS
  simp only [Bool.not_eq_false', Bool.and_eq_true, Bool.or_eq_true, decide_eq_true_eq, and_assoc]
theorem up_ge (s : Nat) (a : Int) (h : a = 1 ∨ a = 8) : s ≤ up s a.toNat ∧ up s a.toNat < s + a.toNat ∧ up s a.toNat % a.toNat = 0 := by
  rcases h with rfl | rfl
  · rw [show (1 : Int).toNat = 1 from rfl, up_1]; omega
  · rw [show (8 : Int).toNat = 8 from rfl, up_8]; omega
theorem Align_eq (s : Nat) (hs : s ≤ 9000) (a : Int) (h : a = 1 ∨ a = 8) : product_Align.f (s : Int) a = some ((up s a.toNat : Nat) : Int) := by
  unfold product_Align.f
  rcases h with rfl | rfl
  · rw [if_neg (by omega), if_neg (by omega), show Int.tmod (s : Int) 1 = 0 from Int.tmod_one _, if_neg (by omega), if_pos rfl, show (1 : Int).toNat = 1 from rfl, up_1]
  · have e : Int.tmod (s : Int) 8 = ((s % 8 : Nat) : Int) := by rw [Int.tmod_eq_emod_of_nonneg (by omega)]; omega
    rw [if_neg (by omega), if_neg (by omega), e, if_neg (by omega), show (8 : Int).toNat = 8 from rfl, up_8]
    by_cases h : s % 8 = 0
    · rw [if_pos (by omega)]
      congr 1
      omega
    · rw [if_neg (by omega)]
      congr 1
      unfold wrap64
      omega
/-- The state of a product that is laid out. -/
structure PS where
  s : Nat
  a : Nat
  sp : List Int
  os : List Nat
def PS.start : PS := ⟨0, 1, [], []⟩
def PS.add (t : PS) (p : S31) : PS := ⟨up t.s p.f1.toNat + p.f0.toNat, max t.a p.f1.toNat, t.sp ++ List.replicate (up t.s p.f1.toNat - t.s) 0 ++ p.f2, t.os ++ [up t.s p.f1.toNat]⟩
def layF : List S31 → PS → Option PS
  | [], t => some t
  | p :: ps, t => if 1024 < (t.add p).s then none else layF ps (t.add p)
abbrev LT9 := Int × Int × List Int × List Int × List S101 × List S79 × List Int × Bool × Int
/-- What the layout of valid parts is, in the words of the walks. -/
def layR : Option PS → LT9
  | none => (0, 0, [], [], [], [], [], false, 4)
  | some t => ((t.s : Int), (t.a : Int), t.sp, ints t.os, [], [], [], false, 0)
def PS.ok (t : PS) : Prop := t.s ≤ 1024 ∧ t.sp.length = t.s ∧ (t.a = 1 ∨ t.a = 8)
theorem PS.start_ok : PS.start.ok := ⟨by decide, rfl, .inl rfl⟩
theorem PS.add_ok {t : PS} (h : t.ok) {p : S31} (hp : okS p) (hs : ¬ 1024 < (t.add p).s) : (t.add p).ok := by
  obtain ⟨h1, h2, h3⟩ := h
  obtain ⟨p1, p2, p3, p4⟩ := (okS_iff p).1 hp
  have hu := up_ge t.s p.f1 p3
  refine ⟨by omega, ?_, ?_⟩
  · simp only [PS.add, List.length_append, List.length_replicate, h2]
    omega
  · simp only [PS.add]
    rcases h3 with h3 | h3 <;> rcases p3 with p3 | p3 <;> rw [h3, p3] <;> decide
theorem ints_snoc (s : List Nat) (x : Nat) : ints (s ++ [x]) = ints s ++ [(x : Int)] := by simp [ints]
theorem mx_nat (a : Nat) (x : Int) (h : 0 ≤ x) : mx (a : Int) x = ((max a x.toNat : Nat) : Int) := by unfold mx; split <;> omega
theorem pLay_from (PP : List S31) (hP : PP.length ≤ 9000) (hok : ∀ p ∈ PP, okS p) (d : Nat) : ∀ (i : Nat) (t : PS), i + d = PP.length → t.ok → t.os.length = i →
    Ev (fun k => product_Lay.l0 k PP (PP.length : Int) (i : Int) (t.s : Int) (t.a : Int) t.sp (ints t.os) false) (layR (layF (PP.drop i) t)) := by
  induction d with
  | zero =>
    intro i t hi ht ho
    refine Ev.step (f := fun _ => some (layR (some t))) (fun k => ?_) ?_
    · simp only [product_Lay.l0]
      rw [if_neg (by omega)]
      rfl
    · rw [List.drop_of_length_le (by omega)]
      exact Ev.now _
  | succ d ih =>
    intro i t hi ht ho
    obtain ⟨h1, h2, h3⟩ := ht
    have hlt : i < PP.length := by omega
    have hp := hok _ (List.getElem_mem hlt)
    have hrd : rd_T31 PP (i : Int) = PP[i] := by
      unfold rd_T31
      rw [Int.toNat_natCast, List.getD_eq_getElem?_getD, List.getElem?_eq_getElem hlt]
      rfl
    have hdrop : PP.drop i = PP[i] :: PP.drop (i + 1) := List.drop_eq_getElem_cons hlt
    rw [hdrop]
    revert hp hrd
    generalize PP[i] = p
    intro hp hrd
    obtain ⟨p1, p2, p3, p4⟩ := (okS_iff p).1 hp
    have hu := up_ge t.s p.f1 p3
    have hsum : wrap64 (((up t.s p.f1.toNat : Nat) : Int) + p.f0) = (((t.add p).s : Nat) : Int) := by
      simp only [PS.add]
      unfold wrap64
      omega
    have hstep : ∀ k, product_Lay.l0 (k + 1) PP (PP.length : Int) (i : Int) (t.s : Int) (t.a : Int) t.sp (ints t.os) false = if 1024 < (t.add p).s then some (layR none) else product_Lay.l0 k PP (PP.length : Int) ((i + 1 : Nat) : Int) ((t.add p).s : Int) ((t.add p).a : Int) (t.add p).sp (ints (t.add p).os) false := by
      intro k
      simp only [product_Lay.l0]
      rw [if_pos (by omega), if_pos (by omega), if_pos (by omega), hrd, Align_eq t.s (by omega) p.f1 p3]
      simp only [Option.bind_some]
      rw [hsum]
      by_cases hb : 1024 < (t.add p).s
      · rw [if_pos (by omega), if_pos hb]
        rfl
      · have hos : (ints t.os).length < 17592186044416 := by rw [ints_length]; omega
        have hsub : wrap64 (((up t.s p.f1.toNat : Nat) : Int) - (t.s : Int)) = ((up t.s p.f1.toNat - t.s : Nat) : Int) := by unfold wrap64; omega
        rw [if_neg (by omega), if_neg hb, if_pos hos, hsub, if_pos (by omega), Int.toNat_natCast, if_pos (by omega), if_pos (by simp; omega), show wrap64 ((i : Int) + 1) = ((i + 1 : Nat) : Int) by unfold wrap64; omega, mx_nat _ _ (by omega)]
        simp only [PS.add]
        rw [ints_snoc]
    by_cases hb : 1024 < (t.add p).s
    · refine Ev.step (f := fun _ => some (layR none)) (fun k => by rw [hstep, if_pos hb]) ?_
      simp only [layF, if_pos hb]
      exact Ev.now _
    · refine Ev.step (f := fun k => product_Lay.l0 k PP (PP.length : Int) ((i + 1 : Nat) : Int) ((t.add p).s : Int) ((t.add p).a : Int) (t.add p).sp (ints (t.add p).os) false) (fun k => by rw [hstep, if_neg hb]) ?_
      simp only [layF, if_neg hb]
      exact ih (i + 1) (t.add p) (by omega) (PS.add_ok ⟨h1, h2, h3⟩ hp hb) (by simp only [PS.add, List.length_append, List.length_singleton]; omega)
def badR : LT9 := (0, 0, [], [], [], [], [], false, 19)
/-- What Lay answers. -/
def layV (ps : List S31) : LT9 := if ps.any badS then badR else layR (layF ps PS.start)
theorem pLay_ev (ps : List S31) (hP : ps.length ≤ 9000) : Ev (fun k => product_Lay.f k ps) (layV ps) := by
  unfold layV
  by_cases hb : ps.any badS = true
  · rw [if_pos hb]
    refine Ev.congr (f := fun _ => some badR) (fun k => ?_) (Ev.now _)
    unfold product_Lay.f AnyBadP.f
    simp only [Option.bind_some]
    rw [if_pos hb]
    rfl
  · rw [if_neg hb]
    have hok : ∀ p ∈ ps, okS p := by
      intro p hp
      unfold okS
      cases h : badS p with
      | false => rfl
      | true => exact absurd (List.any_eq_true.2 ⟨p, hp, h⟩) hb
    refine Ev.congr (f := fun k => product_Lay.l0 k ps (ps.length : Int) 0 0 1 [] [] false) (fun k => ?_) ?_
    · unfold product_Lay.f AnyBadP.f
      simp only [Option.bind_some]
      rw [if_neg hb]
    · have h := pLay_from ps hP hok ps.length 0 PS.start (by omega) PS.start_ok rfl
      rw [List.drop_zero] at h
      exact h
theorem rAlign_eq (s : Nat) (hs : s ≤ 9000) (a : Int) (h : a = 1 ∨ a = 8) : ref16_Align.f (s : Int) a = some ((up s a.toNat : Nat) : Int) := by
  unfold ref16_Align.f
  rcases h with rfl | rfl
  · rw [if_neg (by omega), if_neg (by omega), show Int.tmod (s : Int) 1 = 0 from Int.tmod_one _, if_pos rfl, show (1 : Int).toNat = 1 from rfl, up_1]
  · have e : Int.tmod (s : Int) 8 = ((s % 8 : Nat) : Int) := by rw [Int.tmod_eq_emod_of_nonneg (by omega)]; omega
    rw [if_neg (by omega), if_neg (by omega), e, show (8 : Int).toNat = 8 from rfl, up_8]
    by_cases h : s % 8 = 0
    · rw [if_pos (by omega)]
      congr 1
      omega
    · rw [if_neg (by omega)]
      congr 1
      unfold wrap64
      omega
theorem rValid_eq (p : S31) : ref15_Valid.f p.f0 p.f1 p.f2 p.f3 p.f4 p.f5 p.f6 p.f7 = some (!(badS p)) := mask_Valid_eq p
theorem rd31_at (PP : List S31) (i : Nat) (hlt : i < PP.length) : rd_T31 PP (i : Int) = PP[i] := by
  unfold rd_T31
  rw [Int.toNat_natCast, List.getD_eq_getElem?_getD, List.getElem?_eq_getElem hlt]
  rfl
theorem rPad_from (PP : List S31) (e i s a : Int) (os : List Int) (b : Bool) (p : S31) (sp : List Int) (hp : p.f2.length ≤ 9000) (hi : wrap64 (i + 1) = i + 1) (r : LT9) (n : Nat) (hn : n ≤ 9000) (d : Nat) : ∀ (sp : List Int), sp.length + d = n →
    Ev (fun k => ref16_Lay.l1 k PP e (i + 1) (wrap64 ((n : Int) + p.f0)) (mx a p.f1) (sp ++ List.replicate d 0 ++ p.f2) os b) r →
    Ev (fun k => ref16_Lay.l2 k (n : Int) PP e i s a sp os b p.f0 p.f1 p.f2 p.f3 p.f4 p.f5 p.f6 p.f7) r := by
  induction d with
  | zero =>
    intro sp hs h
    refine Ev.step (f := fun k => ref16_Lay.l1 k PP e (i + 1) (wrap64 ((n : Int) + p.f0)) (mx a p.f1) (sp ++ p.f2) os b) (fun k => ?_) ?_
    · simp only [ref16_Lay.l2]
      rw [if_neg (by omega), if_pos (by omega), hi]
    · simp only [List.replicate_zero, List.append_nil] at h
      exact h
  | succ d ih =>
    intro sp hs h
    refine Ev.step (f := fun k => ref16_Lay.l2 k (n : Int) PP e i s a (sp ++ [0]) os b p.f0 p.f1 p.f2 p.f3 p.f4 p.f5 p.f6 p.f7) (fun k => ?_) (ih (sp ++ [0]) (by simp; omega) ?_)
    · simp only [ref16_Lay.l2]
      rw [if_pos (by omega), if_pos (by omega)]
    · have e : sp ++ [0] ++ List.replicate d 0 = sp ++ List.replicate (d + 1) (0 : Int) := by rw [List.replicate_succ, List.append_assoc, List.singleton_append]
      rw [e]
      exact h
theorem rLay_from (PP : List S31) (hP : PP.length ≤ 9000) (hok : ∀ p ∈ PP, okS p) (d : Nat) : ∀ (i : Nat) (t : PS), i + d = PP.length → t.ok → t.os.length = i →
    Ev (fun k => ref16_Lay.l1 k PP (PP.length : Int) (i : Int) (t.s : Int) (t.a : Int) t.sp (ints t.os) false) (layR (layF (PP.drop i) t)) := by
  induction d with
  | zero =>
    intro i t hi ht ho
    refine Ev.step (f := fun _ => some (layR (some t))) (fun k => ?_) ?_
    · simp only [ref16_Lay.l1]
      rw [if_neg (by omega)]
      rfl
    · rw [List.drop_of_length_le (by omega)]
      exact Ev.now _
  | succ d ih =>
    intro i t hi ht ho
    obtain ⟨h1, h2, h3⟩ := ht
    have hlt : i < PP.length := by omega
    have hp := hok _ (List.getElem_mem hlt)
    have hrd := rd31_at PP i hlt
    have hdrop : PP.drop i = PP[i] :: PP.drop (i + 1) := List.drop_eq_getElem_cons hlt
    rw [hdrop]
    revert hp hrd
    generalize PP[i] = p
    intro hp hrd
    obtain ⟨p1, p2, p3, p4⟩ := (okS_iff p).1 hp
    have hu := up_ge t.s p.f1 p3
    have hsum : wrap64 (((up t.s p.f1.toNat : Nat) : Int) + p.f0) = (((t.add p).s : Nat) : Int) := by
      simp only [PS.add]
      unfold wrap64
      omega
    have hos : (ints t.os).length < 17592186044416 := by rw [ints_length]; omega
    have hstep : ∀ k, ref16_Lay.l1 (k + 1) PP (PP.length : Int) (i : Int) (t.s : Int) (t.a : Int) t.sp (ints t.os) false = if 1024 < (t.add p).s then some (layR none) else ref16_Lay.l2 k ((up t.s p.f1.toNat : Nat) : Int) PP (PP.length : Int) (i : Int) (t.s : Int) (t.a : Int) t.sp (ints (t.add p).os) false p.f0 p.f1 p.f2 p.f3 p.f4 p.f5 p.f6 p.f7 := by
      intro k
      simp only [ref16_Lay.l1]
      rw [if_pos (by omega), if_pos (by omega), if_pos (by omega), hrd, rAlign_eq t.s (by omega) p.f1 p3]
      simp only [Option.bind_some]
      rw [hsum]
      by_cases hb : 1024 < (t.add p).s
      · rw [if_pos (by omega), if_pos hb]
        rfl
      · rw [if_neg (by omega), if_neg hb, if_pos hos]
        simp only [PS.add]
        rw [ints_snoc]
    by_cases hb : 1024 < (t.add p).s
    · refine Ev.step (f := fun _ => some (layR none)) (fun k => by rw [hstep, if_pos hb]) ?_
      simp only [layF, if_pos hb]
      exact Ev.now _
    · refine Ev.step (f := fun k => ref16_Lay.l2 k ((up t.s p.f1.toNat : Nat) : Int) PP (PP.length : Int) (i : Int) (t.s : Int) (t.a : Int) t.sp (ints (t.add p).os) false p.f0 p.f1 p.f2 p.f3 p.f4 p.f5 p.f6 p.f7) (fun k => by rw [hstep, if_neg hb]) ?_
      simp only [layF, if_neg hb]
      have hbs : (t.add p).s = up t.s p.f1.toNat + p.f0.toNat := rfl
      refine rPad_from PP _ (i : Int) _ _ _ _ p t.sp (by omega) (by unfold wrap64; omega) _ (up t.s p.f1.toNat) (by omega) (up t.s p.f1.toNat - t.s) t.sp (by omega) ?_
      rw [hsum, mx_nat _ _ (by omega), show (i : Int) + 1 = ((i + 1 : Nat) : Int) by omega]
      exact ih (i + 1) (t.add p) (by omega) (PS.add_ok ⟨h1, h2, h3⟩ hp hb) (by simp only [PS.add, List.length_append, List.length_singleton]; omega)
theorem rChk_from (PP : List S31) (hP : PP.length ≤ 9000) (d : Nat) : ∀ (i : Nat), i + d = PP.length →
    Ev (fun k => ref16_Lay.l0 k PP PP (PP.length : Int) (i : Int) 0 1 false) (if (PP.drop i).any badS then badR else if PP.any badS then badR else layR (layF PP PS.start)) ∨ (PP.take i).any badS = true := by
  induction d with
  | zero =>
    intro i hi
    rw [List.drop_of_length_le (by omega), List.take_of_length_le (by omega)]
    by_cases hb : PP.any badS = true
    · exact .inr hb
    · left
      simp only [List.any_nil, Bool.false_eq_true, if_false, hb]
      have hok : ∀ p ∈ PP, okS p := by
        intro p hp
        unfold okS
        cases h : badS p with
        | false => rfl
        | true => exact absurd (List.any_eq_true.2 ⟨p, hp, h⟩) hb
      have h := rLay_from PP hP hok PP.length 0 PS.start (by omega) PS.start_ok rfl
      rw [List.drop_zero] at h
      refine Ev.step (f := fun k => ref16_Lay.l1 k PP (PP.length : Int) 0 0 1 [] [] false) (fun k => ?_) h
      simp only [ref16_Lay.l0]
      rw [if_neg (by omega)]
  | succ d ih =>
    intro i hi
    have hlt : i < PP.length := by omega
    have hrd := rd31_at PP i hlt
    have hdrop : PP.drop i = PP[i] :: PP.drop (i + 1) := List.drop_eq_getElem_cons hlt
    have htake : PP.take (i + 1) = PP.take i ++ [PP[i]] := List.take_succ_eq_append_getElem hlt
    have hw : wrap64 ((i : Int) + 1) = ((i + 1 : Nat) : Int) := by unfold wrap64; omega
    rw [hdrop, List.any_cons]
    have hih := ih (i + 1) (by omega)
    rw [htake, List.any_append] at hih
    revert hih hrd
    generalize PP[i] = p
    intro hrd hih
    cases hp : badS p with
    | true =>
      left
      refine Ev.step (f := fun _ => some badR) (fun k => ?_) ?_
      · simp only [ref16_Lay.l0]
        rw [if_pos (by omega), if_pos (by omega), if_pos (by omega), hrd, rValid_eq, hp]
        rfl
      · rw [Bool.true_or, if_pos rfl]
        exact Ev.now _
    | false =>
      rcases hih with h | h
      · left
        rw [Bool.false_or]
        refine Ev.step (f := fun k => ref16_Lay.l0 k PP PP (PP.length : Int) ((i + 1 : Nat) : Int) 0 1 false) (fun k => ?_) h
        simp only [ref16_Lay.l0]
        rw [if_pos (by omega), if_pos (by omega), if_pos (by omega), hrd, rValid_eq, hp, hw]
        rfl
      · right
        simpa [hp] using h
theorem rLay_ev (ps : List S31) (hP : ps.length ≤ 9000) : Ev (fun k => ref16_Lay.f k ps) (layV ps) := by
  rcases rChk_from ps hP ps.length 0 (by omega) with h | h
  · rw [List.drop_zero] at h
    have e : (if ps.any badS then badR else if ps.any badS then badR else layR (layF ps PS.start)) = layV ps := by
      unfold layV
      by_cases hb : ps.any badS = true
      · rw [if_pos hb, if_pos hb]
      · rw [if_neg hb, if_neg hb]
    rw [e] at h
    exact h
  · simp at h
/-- What the layouts are whose rules the dice keep. -/
def Lok (p : S31) : Prop := Byt p.f2
theorem PS.add_Byt {t : PS} (ht : Byt t.sp) {p : S31} (hp : Lok p) : Byt (t.add p).sp := (ht.append (Byt.replicate _ (by omega))).append hp
theorem layF_Byt : ∀ (ps : List S31) (t : PS), Byt t.sp → (∀ p ∈ ps, Lok p) → ∀ u, layF ps t = some u → Byt u.sp
  | [], t, ht, _, u, h => by
    obtain rfl : t = u := Option.some.inj h
    exact ht
  | p :: ps, t, ht, hp, u, h => by
    simp only [layF] at h
    split at h
    · cases h
    · exact layF_Byt ps _ (PS.add_Byt ht (hp p List.mem_cons_self)) (fun q hq => hp q (List.mem_cons_of_mem _ hq)) u h
theorem layV_Byt (ps : List S31) (h : ∀ p ∈ ps, Lok p) : Byt (layV ps).2.2.1 := by
  unfold layV
  split
  · exact Byt.nil
  · cases hf : layF ps PS.start with
    | none => exact Byt.nil
    | some u => exact layF_Byt ps PS.start Byt.nil h u hf
def S9 (r : LT9) : S31 := ⟨r.1, r.2.1, r.2.2.1, r.2.2.2.1, r.2.2.2.2.1, r.2.2.2.2.2.1, r.2.2.2.2.2.2.1, r.2.2.2.2.2.2.2.1⟩
def at9 (r : LT9) : Int := r.2.2.2.2.2.2.2.2
theorem Layout_ev (l : List Int) (hl : l.length ≤ 9000) (d : Nat) : ∀ a : Int, At l a → ((l.length : Int) - a).toNat ≤ d →
    ∃ r : LT9, Ev (fun k => made_Dice_Layout.f k l a) r ∧ Lok (S9 r) ∧ At l (at9 r) ∧ a ≤ at9 r := by
  induction d using Nat.strongRecOn with
  | _ d ih =>
  intro a ha hd
  obtain ⟨v, b, hv, h0, h1, hb, hab, hz⟩ := Next_eq l hl a 7 ha (by omega) (by omega)
  have go : ∀ (r : LT9) (g : Nat → Option LT9), (∀ k, made_Dice_Layout.f (k + 1) l a = g k) → Ev g r → Ev (fun k => made_Dice_Layout.f k l a) r := fun r g h1 h2 => Ev.step h1 h2
  by_cases c0 : v = 0
  · refine ⟨((8, 8, List.replicate 8 0, [], [], [], [], false, b) : LT9), go _ _ (fun k => by simp only [made_Dice_Layout.f]; rw [hv]; simp only [Option.bind_some]; rw [if_pos c0]) (Ev.now _), ?_, hb, hab⟩
    exact Byt.replicate 8 (show (0 : Int) ≤ 0 ∧ (0 : Int) < 256 by omega)
  by_cases c1 : v = 1
  · refine ⟨((1, 1, [0], [], [], [], [], false, b) : LT9), go _ _ (fun k => by simp only [made_Dice_Layout.f]; rw [hv]; simp only [Option.bind_some]; rw [if_neg c0, if_pos c1]) (Ev.now _), ?_, hb, hab⟩
    exact Byt.cons.2 ⟨by omega, Byt.nil⟩
  by_cases c2 : v = 2
  · refine ⟨((1, 1, [254], [], [], [], [], false, b) : LT9), go _ _ (fun k => by simp only [made_Dice_Layout.f]; rw [hv]; simp only [Option.bind_some]; rw [if_neg c0, if_neg c1, if_pos c2]) (Ev.now _), ?_, hb, hab⟩
    exact Byt.cons.2 ⟨by omega, Byt.nil⟩
  by_cases c3 : v = 3
  · refine ⟨((8, 8, [7, 0, 0, 0, 0, 0, 255, 255], [], [], [], [], true, b) : LT9), go _ _ (fun k => by simp only [made_Dice_Layout.f]; rw [hv]; simp only [Option.bind_some]; rw [if_neg c0, if_neg c1, if_neg c2, if_pos c3]) (Ev.now _), ?_, hb, hab⟩
    intro x hx
    simp only [S9, List.mem_cons, List.not_mem_nil, or_false] at hx
    omega
  by_cases c4 : v = 4
  · have hlt : a < b := by
      rcases Int.lt_or_eq_of_le hab with h | h
      · exact h
      · exact absurd (hz h) c0
    have hb1 := hb.1
    have hb2 := hb.2
    have ha1 := ha.1
    obtain ⟨r1, e1, k1, m1, n1⟩ := ih ((l.length : Int) - b).toNat (by omega) b hb (by omega)
    have m11 := m1.1
    have m12 := m1.2
    obtain ⟨r2, e2, k2, m2, n2⟩ := ih ((l.length : Int) - at9 r1).toNat (by omega) (at9 r1) m1 (by omega)
    have e3 := rLay_ev [S9 r1, S9 r2] (by simp)
    have k3 := layV_Byt [S9 r1, S9 r2] (by
      intro p hp
      simp only [List.mem_cons, List.not_mem_nil, or_false] at hp
      rcases hp with rfl | rfl
      · exact k1
      · exact k2)
    refine ⟨(((layV [S9 r1, S9 r2]).1, (layV [S9 r1, S9 r2]).2.1, (layV [S9 r1, S9 r2]).2.2.1, (layV [S9 r1, S9 r2]).2.2.2.1, (layV [S9 r1, S9 r2]).2.2.2.2.1, (layV [S9 r1, S9 r2]).2.2.2.2.2.1, (layV [S9 r1, S9 r2]).2.2.2.2.2.2.1, (layV [S9 r1, S9 r2]).2.2.2.2.2.2.2.1, at9 r2) : LT9), go _ (fun k => (made_Dice_Layout.f k l b).bind fun bt168 => ((made_Dice_Layout.f k l bt168.2.2.2.2.2.2.2.2).bind fun bt187 => ((ref16_Lay.f k (([(⟨bt168.1, bt168.2.1, bt168.2.2.1, bt168.2.2.2.1, bt168.2.2.2.2.1, bt168.2.2.2.2.2.1, bt168.2.2.2.2.2.2.1, bt168.2.2.2.2.2.2.2.1⟩ : S31), (⟨bt187.1, bt187.2.1, bt187.2.2.1, bt187.2.2.2.1, bt187.2.2.2.2.1, bt187.2.2.2.2.2.1, bt187.2.2.2.2.2.2.1, bt187.2.2.2.2.2.2.2.1⟩ : S31)] : List (S31)))).bind fun bt209 => (some ((bt209.1, bt209.2.1, bt209.2.2.1, bt209.2.2.2.1, bt209.2.2.2.2.1, bt209.2.2.2.2.2.1, bt209.2.2.2.2.2.2.1, bt209.2.2.2.2.2.2.2.1, bt187.2.2.2.2.2.2.2.2) : LT9))))) (fun k => by simp only [made_Dice_Layout.f]; rw [hv]; simp only [Option.bind_some]; rw [if_neg c0, if_neg c1, if_neg c2, if_neg c3, if_pos c4]) ?_, k3, m2, by show a ≤ at9 r2; omega⟩
    refine Ev.bind e1 (Ev.bind e2 (Ev.bind e3 ?_))
    exact Ev.now _
  by_cases c5 : v = 5
  · refine ⟨((0, 1, [], [], [], [], [], false, b) : LT9), go _ _ (fun k => by simp only [made_Dice_Layout.f]; rw [hv]; simp only [Option.bind_some]; rw [if_neg c0, if_neg c1, if_neg c2, if_neg c3, if_neg c4, if_pos c5]) (Ev.now _), ?_, hb, hab⟩
    exact Byt.nil
  · obtain ⟨y, c, e1, hy, hyl, hc, hbc⟩ := Bytes_ev l hl b 12 hb (by omega) (by omega)
    obtain ⟨v2, b2, hv2, h02, h12, hb2, hab2, _⟩ := Next_eq l hl c 2 hc (by omega) (by omega)
    refine ⟨(((y.length : Int), wrap64 (1 + (wrap64 (7 * v2))), y, [], [], [], [], false, b2) : LT9), go _ (fun k => (made_Dice_Bytes.f k l b 12).bind fun bt229 => ((made_Dice_Next.f l bt229.2 2).bind fun bt233 => (some (((bt229.1.length : Int), wrap64 (1 + (wrap64 (7 * bt233.1))), bt229.1, ([] : List Int), ([] : List (S101)), ([] : List (S79)), ([] : List Int), false, bt233.2) : LT9)))) (fun k => by simp only [made_Dice_Layout.f]; rw [hv]; simp only [Option.bind_some]; rw [if_neg c0, if_neg c1, if_neg c2, if_neg c3, if_neg c4, if_neg c5]) ?_, hy, hb2, by show a ≤ b2; omega⟩
    refine Ev.bind e1 ?_
    simp only [hv2, Option.bind_some]
    exact Ev.now _
theorem awake16_eq : Awake16.f = some true := rfl
theorem any_ok {ps : List S31} (hok : ∀ p ∈ ps, okS p) : ps.any badS = false := by
  cases h : ps.any badS with
  | false => rfl
  | true =>
    obtain ⟨p, hp, hb⟩ := List.any_eq_true.1 h
    have := hok p hp
    unfold okS at this
    rw [hb] at this
    cases this
def szs (M : List S31) : Nat := (M.map (fun p => p.f0.toNat)).sum
theorem szs_cons (p : S31) (M : List S31) : szs (p :: M) = p.f0.toNat + szs M := by simp [szs]
theorem szs_app (M N : List S31) : szs (M ++ N) = szs M + szs N := by simp [szs]
theorem layF_ones : ∀ (M : List S31) (t : PS), t.ok → (∀ p ∈ M, okS p ∧ p.f1 = 1) → t.s + szs M ≤ 1024 → ∃ u, layF M t = some u ∧ u.s = t.s + szs M ∧ u.a = t.a
  | [], t, _, _, _ => ⟨t, rfl, by simp [szs], rfl⟩
  | p :: M, t, ht, hp, hs => by
    obtain ⟨hok, h1⟩ := hp p List.mem_cons_self
    rw [szs_cons] at hs
    have e : (t.add p).s = t.s + p.f0.toNat := by
      simp only [PS.add]
      rw [h1, show (1 : Int).toNat = 1 from rfl, up_1]
    have ea : (t.add p).a = t.a := by
      simp only [PS.add]
      rw [h1]
      rcases ht.2.2 with h | h <;> rw [h] <;> rfl
    have hb : ¬ 1024 < (t.add p).s := by omega
    obtain ⟨u, hu, hus, hua⟩ := layF_ones M (t.add p) (PS.add_ok ht hok hb) (fun q hq => hp q (List.mem_cons_of_mem _ hq)) (by omega)
    refine ⟨u, ?_, ?_, ?_⟩
    · simp only [layF, if_neg hb]
      exact hu
    · rw [hus, e, szs_cons]
      omega
    · rw [hua, ea]
theorem layV_ones (M : List S31) (hp : ∀ p ∈ M, okS p ∧ p.f1 = 1) (hs : szs M ≤ 1024) : ∃ sp os, layV M = (((szs M : Nat) : Int), 1, sp, os, [], [], [], false, 0) := by
  obtain ⟨u, hu, hus, hua⟩ := layF_ones M PS.start PS.start_ok hp (by show 0 + szs M ≤ 1024; omega)
  refine ⟨u.sp, ints u.os, ?_⟩
  unfold layV
  rw [any_ok (fun p h => (hp p h).1), hu]
  simp only [Bool.false_eq_true, if_false, layR]
  rw [hus, hua]
  have e1 : PS.start.s = 0 := rfl
  have e2 : PS.start.a = 1 := rfl
  rw [e1, e2, Nat.zero_add]
  rfl
theorem layV_one (p : S31) (hp : okS p) : layV [p] = (p.f0, p.f1, p.f2, [0], [], [], [], false, 0) := by
  obtain ⟨p1, p2, p3, p4⟩ := (okS_iff p).1 hp
  have hu : up 0 p.f1.toNat = 0 := by rcases p3 with h | h <;> rw [h] <;> rfl
  have hs : (PS.start.add p).s = p.f0.toNat := by
    show up 0 p.f1.toNat + p.f0.toNat = _
    rw [hu, Nat.zero_add]
  have ha : (PS.start.add p).a = p.f1.toNat := by
    show max 1 p.f1.toNat = _
    rcases p3 with h | h <;> rw [h] <;> rfl
  have hsp : (PS.start.add p).sp = p.f2 := by
    show [] ++ List.replicate (up 0 p.f1.toNat - 0) 0 ++ p.f2 = _
    rw [hu]
    rfl
  have hos : (PS.start.add p).os = [0] := by
    show [] ++ [up 0 p.f1.toNat] = _
    rw [hu]
    rfl
  unfold layV
  rw [any_ok (fun q hq => by obtain rfl := List.mem_singleton.1 hq; exact hp)]
  simp only [Bool.false_eq_true, if_false, layF]
  rw [if_neg (by omega)]
  simp only [layR, hs, ha, hsp, hos]
  rw [show ((p.f0.toNat : Nat) : Int) = p.f0 by omega, show ((p.f1.toNat : Nat) : Int) = p.f1 by omega]
  rfl
theorem one_made (l : List Int) (hl : l.length ≤ 9000) (d : Nat) : ∀ (A B : List S31) (S : Nat) (a : Int), A.length + d ≤ 100 → B.length + d ≤ 100 → (∀ p ∈ A, okS p ∧ p.f1 = 1) → (∀ p ∈ B, okS p ∧ p.f1 = 1) → szs A = S → szs B = S → S + 9 * d ≤ 1000 → At l a →
    Ev (fun k => law16_ProductSingle.l0 k A B (S : Int) (d : Int) l a) true := by
  induction d with
  | zero =>
    intro A B S a hA hB pA pB sA sB hS ha
    obtain ⟨sp1, os1, e1⟩ := layV_ones A pA (by omega)
    obtain ⟨sp2, os2, e2⟩ := layV_ones B pB (by omega)
    refine Ev.step (f := fun k => (product_Lay.f k A).bind fun bt304 => ((product_Lay.f k B).bind fun bt324 => (if bt304.2.2.2.2.2.2.2.2 = 0 then (if bt324.2.2.2.2.2.2.2.2 = 0 then (if bt304.1 = (S : Int) then (if bt324.1 = (S : Int) then (if bt304.2.1 = 1 then ((Awake16.f).bind fun t344 => (some t344)) else (some false)) else (some false)) else (some false)) else (some false)) else (some false)))) (fun k => ?_) ?_
    · simp only [law16_ProductSingle.l0]
      rw [if_neg (by omega)]
    · refine Ev.bind (pLay_ev A (by omega)) (Ev.bind (pLay_ev B (by omega)) ?_)
      rw [e1, e2, sA, sB]
      simp only [if_true, awake16_eq, Option.bind_some]
      exact Ev.now _
  | succ d ih =>
    intro A B S a hA hB pA pB sA sB hS ha
    obtain ⟨y, b, e1, hy, hyl, hb, hab⟩ := Bytes_ev l hl a 9 ha (by omega) (by omega)
    have hok : okS (⟨(y.length : Int), 1, y, [], [], [], [], false⟩ : S31) := (okS_iff _).2 ⟨by show 0 ≤ (y.length : Int); omega, by show (y.length : Int) ≤ 1024; omega, .inl rfl, rfl⟩
    have hsz : szs [(⟨(y.length : Int), 1, y, [], [], [], [], false⟩ : S31)] = y.length := by simp [szs]
    have hw : wrap64 ((S : Int) + (y.length : Int)) = ((S + y.length : Nat) : Int) := by unfold wrap64; omega
    refine Ev.step (f := fun k => (made_Dice_Bytes.f k l a 9).bind fun bt287 => ((some (([(⟨(bt287.1.length : Int), 1, bt287.1, ([] : List Int), ([] : List (S101)), ([] : List (S79)), ([] : List Int), false⟩ : S31)] : List (S31)) : List (S31))).bind fun y292 => (if A.length + y292.length < 977343669134 then ((some (([(⟨(bt287.1.length : Int), 1, bt287.1, ([] : List Int), ([] : List (S101)), ([] : List (S79)), ([] : List Int), false⟩ : S31)] : List (S31)) : List (S31))).bind fun y298 => (if y298.length + B.length < 977343669134 then (law16_ProductSingle.l0 k (A ++ y292) (y298 ++ B) (wrap64 ((S : Int) + (bt287.1.length : Int))) (d : Int) l bt287.2) else (none))) else (none)))) (fun k => ?_) ?_
    · simp only [law16_ProductSingle.l0]
      rw [if_pos (by omega), show wrap64 (((d + 1 : Nat) : Int) - 1) = (d : Int) by unfold wrap64; omega]
    · refine Ev.bind e1 ?_
      simp only [Option.bind_some, List.length_singleton]
      simp only [if_pos (show A.length + 1 < 977343669134 by omega), if_pos (show 1 + B.length < 977343669134 by omega), hw]
      have hn := ih (A ++ [(⟨(y.length : Int), 1, y, [], [], [], [], false⟩ : S31)]) ([(⟨(y.length : Int), 1, y, [], [], [], [], false⟩ : S31)] ++ B) (S + y.length) b (by rw [List.length_append, List.length_singleton]; omega) (by rw [List.length_append, List.length_singleton]; omega)
      have h5 : S + y.length + 9 * d ≤ 1000 := by
        clear hok hw hsz hn
        omega
      refine hn (fun p hp => ?_) (fun p hp => ?_) ?_ ?_ h5 hb
      · rcases List.mem_append.1 hp with h | h
        · exact pA p h
        · obtain rfl := List.mem_singleton.1 h
          exact ⟨hok, rfl⟩
      · rcases List.mem_append.1 hp with h | h
        · obtain rfl := List.mem_singleton.1 h
          exact ⟨hok, rfl⟩
        · exact pB p h
      · rw [szs_app, hsz, sA]
      · rw [szs_app, hsz, sB, Nat.add_comm]
theorem one_j (l : List Int) (hl : l.length ≤ 9000) (a : Int) (ha : At l a) : Ev (fun k => law16_ProductSingle.j0 k l a) true := by
  obtain ⟨v, b, hv, h0, h1, hb, _, _⟩ := Next_eq l hl a 9 ha (by omega) (by omega)
  obtain ⟨d, rfl⟩ := Int.eq_ofNat_of_zero_le h0
  refine Ev.step (f := fun k => law16_ProductSingle.l0 k [] [] ((0 : Nat) : Int) (d : Int) l b) (fun k => ?_) (one_made l hl d [] [] 0 b (by simp; omega) (by simp; omega) (fun p hp => by cases hp) (fun p hp => by cases hp) rfl rfl (by omega) hb)
  simp only [law16_ProductSingle.j0]
  rw [hv]
  rfl
theorem ProductSingle_pure : law16_ProductSingle.Pure := by
  intro l _ _ _
  suffices h : Ev (fun k => law16_ProductSingle.f k l) true from h.rounds
  by_cases hl : (l.length : Int) ≤ 700
  · obtain ⟨r, e1, k1, a1, n1⟩ := Layout_ev l (by omega) ((l.length : Int) - 0).toNat 0 ⟨by omega, by omega⟩ (by omega)
    refine Ev.congr (f := fun k => (made_Dice_Layout.f k l 0).bind fun bt240 => ((ref15_Valid.f bt240.1 bt240.2.1 bt240.2.2.1 bt240.2.2.2.1 bt240.2.2.2.2.1 bt240.2.2.2.2.2.1 bt240.2.2.2.2.2.2.1 bt240.2.2.2.2.2.2.2.1).bind fun t260 => (if t260 = true then ((product_Lay.f k (([(⟨bt240.1, bt240.2.1, bt240.2.2.1, bt240.2.2.2.1, bt240.2.2.2.2.1, bt240.2.2.2.2.2.1, bt240.2.2.2.2.2.2.1, bt240.2.2.2.2.2.2.2.1⟩ : S31)] : List (S31)))).bind fun bt264 => (if bt264.2.2.2.2.2.2.2.2 = 0 then (if bt264.1 = bt240.1 then (if bt264.2.1 = bt240.2.1 then (if (strOfNums bt264.2.2.1).toList = (strOfNums bt240.2.2.1).toList then (if (bt264.2.2.2.1.length : Int) = 1 then (if 0 < (bt264.2.2.2.1.length : Int) then (if (rd bt264.2.2.2.1 0) = 0 then (law16_ProductSingle.j0 k l bt240.2.2.2.2.2.2.2.2) else (some false)) else (none)) else (some false)) else (some false)) else (some false)) else (some false)) else (some false))) else (law16_ProductSingle.j0 k l bt240.2.2.2.2.2.2.2.2)))) (fun k => ?_) ?_
    · unfold law16_ProductSingle.f made_Light.f made_Roll.f
      simp only [Option.bind_some]
      rw [decide_eq_true hl, if_pos rfl]
    · refine Ev.bind e1 ?_
      have hv := rValid_eq (S9 r)
      simp only [S9] at hv
      simp only [hv, Option.bind_some]
      cases hb : badS (S9 r) with
      | true =>
        simp only [S9] at hb
        simp only [hb, Bool.not_true, Bool.false_eq_true, if_false]
        exact one_j l (by omega) (at9 r) a1
      | false =>
        have hb2 : okS (S9 r) := hb
        simp only [S9] at hb
        simp only [hb, Bool.not_false, if_true]
        refine Ev.bind (pLay_ev [S9 r] (by simp)) ?_
        rw [layV_one _ hb2]
        simp only [S9, if_true]
        rw [show (rd [(0 : Int)] 0) = 0 from rfl]
        simp only [List.length_singleton]
        exact one_j l (by omega) (at9 r) a1
  · refine Ev.congr (f := fun _ => some true) (fun k => ?_) (Ev.now _)
    unfold law16_ProductSingle.f made_Light.f
    simp only [Option.bind_some]
    rw [decide_eq_false hl, if_neg (by simp), awake16_eq]
    rfl
end Go.Proofs.Ytpcephbhnbfcmaa.F
