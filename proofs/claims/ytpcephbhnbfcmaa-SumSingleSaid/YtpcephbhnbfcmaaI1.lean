-- Written by this session's program fork.py: a Lean function for each Go function and its walk. Not trusted: Lean checks it.
import Derived.Test.YtpcephbhnbfcmaaI0
namespace Go.Proofs.Ytpcephbhnbfcmaa.I
open Go.RowKit Go.Proofs.YtpcephbhnbfcmaaW.PrintWords Go.Proofs.YtpcephbhnbfcmaaW.PrintLast Go.Proofs.YtpcephbhnbfcmaaW.PrintMore
attribute [local go_sem] max2_int min2_int max_two min_two max_three min_three max_four min_four   -- for this text's walks alone
set_option linter.unusedVariables false
set_option linter.unusedSimpArgs false

/-! ### made_Light: function 18 -/
def made_Light.f (l0 : List Int) : Option (Bool) := some (decide ((l0.length : Int) ≤ 700))
set_option maxHeartbeats 8000000 in
set_option maxRecDepth 100000 in
theorem made_Light.calls (A0 : Option Addr) (c0 : Nat) (l0 : List Int) (r : Bool) (w : World) (hr0 : Kd.C (Kd.int .i64) w A0 l0.length l0) (hc0 : l0.length ≤ c0) (h : made_Light.f l0 = some r) :
  Calls Try.prog 18 #[.slice A0 l0.length c0] w fun e w' => e = .returned (.bool r) ∧ Drawn0 w w' := by
 have HR0 := Aside0.mk hr0; have HC0 := Aside0.mk hc0; clear hr0 hc0; have H : (some (decide ((l0.length : Int) ≤ 700))) = some r := h; clear h; obtain rfl := Option.some.inj H; go_enter Try.func18, Try.ntmps18
 go_wp2
 go_ret
 exact ⟨rf_, by repeat (first | exact Drawn0.refl _ | apply Drawn0.step)⟩

/-- A state of type 84 at block g of W; what its slices lead to came in by w0. -/
def IsS84 (w0 W : World) (g : Nat) (f0 : List Int) (f1 : Int) : Prop := ∃ A0 c0, W.heap[g]? = some (.cells #[.slice A0 f0.length c0, .int .i64 f1] 84 (0, 0)) ∧ w0.heap.size ≤ g ∧ Kd.C (Kd.int .i64) w0 A0 f0.length f0
theorem IsS84.grown {w0 W : World} {g : Nat} {f0 : List Int} {f1 : Int} {W1 : World} {row : Option Nat} (h : IsS84 w0 W g f0 f1) (hw : W.grownBy W1 row) (hne : some g ≠ row) : IsS84 w0 W1 g f0 f1 := by
 obtain ⟨A0, c0, hb, hg, hr0⟩ := h; exact ⟨A0, c0, blk_grown hb hw hne, hg, hr0⟩
theorem IsS84.own_neN {w0 W : World} {g : Nat} {f0 : List Int} {f1 : Int} {α : Type} {d : Kd α} {e : Nat} {base : Nat} {ok : Nat → Prop} {v : Value} {xs : List α} (h : IsS84 w0 W g f0 f1) (ho : Kd.N d e W base ok v xs) (ht : e ≠ 84) : some g ≠ v.ownBlock := by
 obtain ⟨A0, c0, hb, hg, hr0⟩ := h; exact Kd.N_ne ho hb ht
theorem IsS84.fresh {w0 W : World} {g : Nat} {f0 : List Int} {f1 : Int} (h : IsS84 w0 W g f0 f1) : ∀ k, W.heap.size ≤ k → k ≠ g := by
 obtain ⟨A0, c0, hb, hg, hr0⟩ := h; exact Kd.freshB hb
theorem IsS84.kept {w0 W : World} {g : Nat} {f0 : List Int} {f1 : Int} {W1 : World} {S : Nat → Prop} (h : IsS84 w0 W g f0 f1) (hk : Kept W W1 S) (hne : ¬ S g) : IsS84 w0 W1 g f0 f1 := by
 obtain ⟨A0, c0, hb, hg, hr0⟩ := h; exact ⟨A0, c0, blk_kept hb hk hne, hg, hr0⟩
theorem IsS84.below {w0 W : World} {g : Nat} {f0 : List Int} {f1 : Int} {W1 : World} (h : IsS84 w0 W g f0 f1) (hw : Below W.heap.size W W1) : IsS84 w0 W1 g f0 f1 := h.grown (grown_of_below hw none) (by simp)
theorem IsS84.alloc {w0 W : World} {g : Nat} {f0 : List Int} {f1 : Int} (h : IsS84 w0 W g f0 f1) (o : Obj) : IsS84 w0 (W.alloc o) g f0 f1 := h.below (below_alloc (Below.refl _ _) o)
theorem IsS84.drewN {w0 W : World} {g : Nat} {f0 : List Int} {f1 : Int} (h : IsS84 w0 W g f0 f1) (m : Nat) : IsS84 w0 (W.drewN m) g f0 f1 := h
theorem IsS84.drew {w0 W : World} {g : Nat} {f0 : List Int} {f1 : Int} (h : IsS84 w0 W g f0 f1) : IsS84 w0 W.drew g f0 f1 := h
theorem IsS84.at_ {w0 W : World} {g : Nat} {f0 : List Int} {f1 : Int} {w' : World} {m : Nat} (hq : W.drewN m = w') (h : IsS84 w0 W g f0 f1) : IsS84 w0 w' g f0 f1 := by subst hq; exact IsS84.drewN h m
theorem IsS84.apart {w0 W : World} {g : Nat} {f0 : List Int} {f1 : Int} {α : Type} {d : Kd α} {e : Nat} {base : Nat} {ok : Nat → Prop} {v : Value} {xs : List α} (h : IsS84 w0 W g f0 f1) (ho : d.R e W base ok v xs) (ht : ∀ q, q ∈ e :: d.E → q ≠ 84) : d.R e W base (fun k => ok k ∧ k ≠ g) v xs := by
 obtain ⟨A0, c0, hb, hg, hr0⟩ := h; exact Kd.R_types ho hb ht
theorem IsS84.own_ne {w0 W : World} {g : Nat} {f0 : List Int} {f1 : Int} {α : Type} {d : Kd α} {e : Nat} {base : Nat} {ok : Nat → Prop} {v : Value} {xs : List α} (h : IsS84 w0 W g f0 f1) (ho : d.R e W base ok v xs) (ht : e ≠ 84) : some g ≠ v.ownBlock := by
 obtain ⟨A0, c0, hb, hg, hr0⟩ := h; exact Kd.R_ne ho hb ht
theorem IsS84.apartQ {w0 W : World} {g : Nat} {f0 : List Int} {f1 : Int} {α : Type} {d : Kd α} {e : Nat} {base : Nat} {ok : Nat → Prop} {v : Value} {xs : List α} (h : IsS84 w0 W g f0 f1) (ho : d.Q e W base ok v xs) (ht : ∀ q, q ∈ e :: d.E → q ≠ 84) : d.Q e W base (fun k => ok k ∧ k ≠ g) v xs := by
 obtain ⟨A0, c0, hb, hg, hr0⟩ := h; exact Kd.Q_types ho hb ht
theorem IsS84.own_neQ {w0 W : World} {g : Nat} {f0 : List Int} {f1 : Int} {α : Type} {d : Kd α} {e : Nat} {base : Nat} {ok : Nat → Prop} {v : Value} {xs : List α} (h : IsS84 w0 W g f0 f1) (ho : d.Q e W base ok v xs) (ht : e ≠ 84) : some g ≠ v.ownBlock := by
 obtain ⟨A0, c0, hb, hg, hr0⟩ := h; exact Kd.Q_ne ho hb ht
theorem IsS84.apartS {w0 W : World} {g : Nat} {f0 : List Int} {f1 : Int} {α : Type} {d : Kd α} {e : Nat} {base : Nat} {ok : Nat → Prop} {v : Value} {xs : List α} (h : IsS84 w0 W g f0 f1) (ho : d.S e W base ok v xs) (ht : ∀ q, q ∈ e :: d.E → q ≠ 84) : d.S e W base (fun k => ok k ∧ k ≠ g) v xs := by
 obtain ⟨A0, c0, hb, hg, hr0⟩ := h; exact Kd.S_types ho hb ht
theorem IsS84.own_neS {w0 W : World} {g : Nat} {f0 : List Int} {f1 : Int} {α : Type} {d : Kd α} {e : Nat} {base : Nat} {ok : Nat → Prop} {v : Value} {xs : List α} (h : IsS84 w0 W g f0 f1) (ho : d.S e W base ok v xs) (ht : e ≠ 84) : some g ≠ v.ownBlock := by
 obtain ⟨A0, c0, hb, hg, hr0⟩ := h; exact Kd.S_ne ho hb ht
theorem IsS84.lt {w0 W : World} {g : Nat} {f0 : List Int} {f1 : Int} (h : IsS84 w0 W g f0 f1) : g < W.heap.size := by
 obtain ⟨A0, c0, hb, hg, hr0⟩ := h; exact blk_lt hb
theorem IsS84.ge {w0 W : World} {g : Nat} {f0 : List Int} {f1 : Int} (h : IsS84 w0 W g f0 f1) : w0.heap.size ≤ g := by
 obtain ⟨A0, c0, hb, hg, hr0⟩ := h; exact hg
theorem IsS84.ne_blk {w0 W : World} {g : Nat} {f0 : List Int} {f1 : Int} {a : Nat} {cs : Array Value} {t : TypeId} {fr : Nat × Nat} (h : IsS84 w0 W g f0 f1) (hb2 : W.heap[a]? = some (.cells cs t fr)) (ht : t ≠ 84) : g ≠ a := by
 obtain ⟨A0, c0, hb, hg, hr0⟩ := h; rintro rfl; rw [hb] at hb2; injection hb2 with hb2; injection hb2 with _ ht2; exact ht ht2.symm
theorem IsS84.far {w0 W : World} {g : Nat} {f0 : List Int} {f1 : Int} {p : Addr} (h : IsS84 w0 W g f0 f1) (hne : g ≠ p.block) (u : Value) : IsS84 w0 (W.setCell p u) g f0 f1 := by
 obtain ⟨A0, c0, hb, hg, hr0⟩ := h; exact ⟨A0, c0, blk_far hb hne u, hg, hr0⟩
theorem cellS84_0 {W : World} {g : Nat} {A0 : Option Addr} {c0 : Nat} {f0 : List Int} {f1 : Int} (h : W.heap[g]? = some (.cells #[.slice A0 f0.length c0, .int .i64 f1] 84 (0, 0))) : W.cell? ⟨g, 0, none⟩ = some (.slice A0 f0.length c0) := (blk_cell h 0).trans rfl
theorem cellS84_1 {W : World} {g : Nat} {A0 : Option Addr} {c0 : Nat} {f0 : List Int} {f1 : Int} (h : W.heap[g]? = some (.cells #[.slice A0 f0.length c0, .int .i64 f1] 84 (0, 0))) : W.cell? ⟨g, 1, none⟩ = some (.int .i64 f1) := (blk_cell h 1).trans rfl
theorem IsS84.set_1 {w0 W : World} {g : Nat} {f0 : List Int} {f1 : Int} (h : IsS84 w0 W g f0 f1) (x : Int) : IsS84 w0 (W.setCell ⟨g, 1, none⟩ (.int .i64 x)) g f0 x := by
 obtain ⟨A0, c0, hb, hg, hr0⟩ := h; exact ⟨A0, c0, by simpa using blk_set hb 1 (.int .i64 x), hg, hr0⟩
theorem IsS84.new (w0 W : World) (A0 : Option Addr) (c0 : Nat) (f0 : List Int) (f1 : Int) (hB : Below w0.heap.size w0 W) (hr0 : Kd.C (Kd.int .i64) w0 A0 f0.length f0) : IsS84 w0 (W.alloc (.cells #[.slice A0 f0.length c0, .int .i64 f1] 84)) W.heap.size f0 f1 := ⟨A0, c0, by simpa using heap_alloc_new W _, hB.size, hr0⟩

theorem is0_ {p q : Prop} (h : p) (hl : p → q := by intro h_; repeat (first | (with_reducible first | exact h_ | apply IsS84.alloc | apply IsS84.drewN | apply IsS84.drew | apply IsS84.set_1) | exact h_)) : q := hl h
theorem is1_ {p q a : Prop} (h : p) (x : a) (hl : p → a → q := by intro h_ x_; repeat (first | (with_reducible first | exact h_ | apply IsS84.alloc | apply IsS84.drewN | apply IsS84.drew | apply IsS84.set_1 | refine IsS84.far ?_ x_ _) | exact h_)) : q := hl h x
theorem is2_ {p q a b : Prop} (h : p) (x : a) (y : b) (hl : p → a → b → q := by intro h_ x_ y_; repeat (first | (with_reducible first | exact h_ | apply IsS84.alloc | apply IsS84.drewN | apply IsS84.drew | apply IsS84.set_1 | refine IsS84.far ?_ x_ _ | refine IsS84.far ?_ y_ _) | exact h_)) : q := hl h x y
theorem is3_ {p q a b c : Prop} (h : p) (x : a) (y : b) (z : c) (hl : p → a → b → c → q := by intro h_ x_ y_ z_; repeat (first | (with_reducible first | exact h_ | apply IsS84.alloc | apply IsS84.drewN | apply IsS84.drew | apply IsS84.set_1 | refine IsS84.far ?_ x_ _ | refine IsS84.far ?_ y_ _ | refine IsS84.far ?_ z_ _) | exact h_)) : q := hl h x y z
theorem is4_ {p q a b c d : Prop} (h : p) (x : a) (y : b) (z : c) (u : d) (hl : p → a → b → c → d → q := by intro h_ x_ y_ z_ u_; repeat (first | (with_reducible first | exact h_ | apply IsS84.alloc | apply IsS84.drewN | apply IsS84.drew | apply IsS84.set_1 | refine IsS84.far ?_ x_ _ | refine IsS84.far ?_ y_ _ | refine IsS84.far ?_ z_ _ | refine IsS84.far ?_ u_ _) | exact h_)) : q := hl h x y z u
theorem is5_ {p q a b c d e : Prop} (h : p) (x : a) (y : b) (z : c) (u : d) (v : e) (hl : p → a → b → c → d → e → q := by intro h_ x_ y_ z_ u_ v_; repeat (first | (with_reducible first | exact h_ | apply IsS84.alloc | apply IsS84.drewN | apply IsS84.drew | apply IsS84.set_1 | refine IsS84.far ?_ x_ _ | refine IsS84.far ?_ y_ _ | refine IsS84.far ?_ z_ _ | refine IsS84.far ?_ u_ _ | refine IsS84.far ?_ v_ _) | exact h_)) : q := hl h x y z u v
/-! ### made_Roll: function 20 -/
def made_Roll.f (l0 : List Int) : Option (List Int × Int) := some (l0, 0)
set_option maxHeartbeats 8000000 in
set_option maxRecDepth 100000 in
theorem made_Roll.calls (A0 : Option Addr) (c0 : Nat) (l0 : List Int) (r1 : List Int) (r2 : Int) (w0 w : World) (hB : Below w0.heap.size w0 w) (hr0 : Kd.C (Kd.int .i64) w0 A0 l0.length l0) (hc0 : l0.length ≤ c0) (h : made_Roll.f l0 = some (r1, r2)) :
  Calls Try.prog 20 #[.slice A0 l0.length c0] w fun e w' => ∃ g_ : Nat, e = .returned (.pointer (some ⟨g_, 0, none⟩)) ∧ IsS84 w0 w' g_ r1 r2 ∧ Below w0.heap.size w0 w' ∧ Below w.heap.size w w' := by
 have hu84 := Try.underlying84; have HR0 := Aside0.mk hr0; have HC0 := Aside0.mk hc0; clear hr0 hc0; have HBW := Aside0.mk (Below.refl w.heap.size w); have HW0 := Aside0.mk hB.size; have HB := Aside0.mk hB; clear hB; have H : (some (l0, 0)) = some (r1, r2) := h; clear h; simp only [Option.some.injEq, Prod.mk.injEq] at H; obtain ⟨rfl, rfl⟩ := H; go_enter Try.func20, Try.ntmps20
 go_wp2_with (first | ((with_reducible refine gate_dst (N := 5) rfl ?_); refine box_event ?hg (N := 5) ?hd (cs := #[.slice A0 l0.length c0, .int .i64 0]) (t := 84) ?hr ?_; (case hd => rfl); (case hg => rfl); (case hr => first | (go_simp; done) | (go_simp; rfl)); intro gb101 hg w2 hbox hb; have n0_ := Aside0.mk (below_step HBW.out hb); have n1_ := Aside0.mk (below_step (hb0_ HB.out) hb); have n2_ := Aside0.mk (hbox); have n3_ := Aside0.mk ((by rw [hg]; exact (below_size (hb0_ HBW.out)) : w.heap.size ≤ gb101)); have n4_ := Aside0.mk ((Nat.le_trans HW0.out (by rw [hg]; exact (below_size (hb0_ HBW.out)) : w.heap.size ≤ gb101) : w0.heap.size ≤ gb101)); clear HBW HB; revert n0_ n1_ n2_ n3_ n4_; intro HBW HB BK101 GW101 GE101; clear hb hbox hg))
 go_ret
 exact ⟨_, rfl, (show IsS84 w0 _ gb101 l0 0 from ⟨_, _, by (with_reducible repeat (first | refine blk_drewN ?_ _ | refine blk_drew ?_ | refine blk_alloc ?_ _)); exact BK101.out, GE101.out, HR0.out⟩), (hb1_ HB.out GE101.out), (hb1_ HBW.out GW101.out)⟩

/-! ### made_Dice_Left: function 70 -/
def made_Dice_Left.f (s0_0 : List Int) (s0_1 : Int) : Option (Bool × Int) := some (decide (s0_1 < (s0_0.length : Int)), s0_1)
set_option maxHeartbeats 8000000 in
set_option maxRecDepth 100000 in
theorem made_Dice_Left.calls (g : Nat) (s0_0 : List Int) (s0_1 : Int) (r1 : Bool) (r2 : Int) (w0 w : World) (hI : IsS84 w0 w g s0_0 s0_1) (hB : Below w0.heap.size w0 w) (h : made_Dice_Left.f s0_0 s0_1 = some (r1, r2)) :
  Calls Try.prog 70 #[.pointer (some ⟨g, 0, none⟩)] w fun e w' => e = .returned (.bool r1) ∧ IsS84 w0 w' g s0_0 r2 ∧ Below w0.heap.size w0 w' ∧ KeepBut w w' g none := by
 have HI0 := Aside0.mk hI; have HK := Aside0.mk (KeepBut.refl w g none); have HL := Aside0.mk hB.size; clear hI; have HW0 := Aside0.mk hB.size; have HB := Aside0.mk hB; clear hB; have H : (some (decide (s0_1 < (s0_0.length : Int)), s0_1)) = some (r1, r2) := h; clear h; simp only [Option.some.injEq, Prod.mk.injEq] at H; obtain ⟨rfl, rfl⟩ := H; obtain ⟨ASz2_0, cSz2_0, HGz2, hgz2, HSz2_0⟩ := HI0.out; have hcz2_0 := cellS84_0 HGz2; have hcz2_1 := cellS84_1 HGz2; have hfz2_1 := blk_frozen HGz2 1; clear HGz2 hgz2; go_enter Try.func70, Try.ntmps70
 go_wp2
 repeat (go_quiet (fail); try go_wp2)
 go_ret
 exact ⟨by first | rfl | (simp [errW_none, errW_some] <;> rfl) | (simp [*, errW_none, errW_some] <;> rfl), (is0_ HI0.out), (hb1_ HB.out (IsS84.ge HI0.out)), (kp0_ HK.out)⟩

/-! ### made_Mod: function 71 -/
def made_Mod.f (a0 : Int) (a1 : Int) : Option (Int) := if a1 < 1 then (some 0) else (if a1 = 0 then (none) else (if (Int.tmod a0 a1) < 0 then (some (wrap64 ((Int.tmod a0 a1) + a1))) else (some (Int.tmod a0 a1))))
set_option maxHeartbeats 8000000 in
set_option maxRecDepth 100000 in
theorem made_Mod.calls (a0 : Int) (a1 : Int) (r : Int) (w : World) (h : made_Mod.f a0 a1 = some r) :
  Calls Try.prog 71 #[.int .i64 a0, .int .i64 a1] w fun e w' => e = .returned (.int .i64 r) ∧ Drawn0 w w' := by
 have H : (if a1 < 1 then (some 0) else (if a1 = 0 then (none) else (if (Int.tmod a0 a1) < 0 then (some (wrap64 ((Int.tmod a0 a1) + a1))) else (some (Int.tmod a0 a1))))) = some r := h; clear h; by_cases c3 : a1 < 1
 ·
  rw [if_pos c3] at H; have c3b0 : decide (a1 < 1) = true := decide_eq_true c3; clear c3; obtain rfl := Option.some.inj H; go_enter Try.func71, Try.ntmps71
  go_wp2
  go_ret
  exact ⟨rf_, by repeat (first | exact Drawn0.refl _ | apply Drawn0.step)⟩
 ·
  rw [if_neg c3] at H; have c3b0 : decide (a1 < 1) = false := decide_eq_false c3; clear c3; by_cases c4 : a1 = 0
  ·
   rw [if_pos c4] at H; exact absurd H (by simp)
  rw [if_neg c4] at H; have c4b0 : (a1 == 0) = false := beq_eq_false_iff_ne.mpr c4; have c4b1 : (a1 != 0) = true := bne_iff_ne.mpr c4; by_cases c5 : (Int.tmod a0 a1) < 0
  ·
   rw [if_pos c5] at H; have c5b0 : decide ((Int.tmod a0 a1) < 0) = true := decide_eq_true c5; clear c5; obtain rfl := Option.some.inj H; go_enter Try.func71, Try.ntmps71
   go_wp2
   go_ret
   exact ⟨rf_, by repeat (first | exact Drawn0.refl _ | apply Drawn0.step)⟩
  ·
   rw [if_neg c5] at H; have c5b0 : decide ((Int.tmod a0 a1) < 0) = false := decide_eq_false c5; clear c5; obtain rfl := Option.some.inj H; go_enter Try.func71, Try.ntmps71
   go_wp2
   go_ret
   exact ⟨rf_, by repeat (first | exact Drawn0.refl _ | apply Drawn0.step)⟩

/-! ### made_Dice_Next: function 21 -/
def made_Dice_Next.f (s0_0 : List Int) (s0_1 : Int) (a1 : Int) : Option (Int × Int) := (made_Dice_Left.f s0_0 s0_1).bind fun bt102 => (if bt102.1 = true then (if 0 ≤ (wrap64 ((wrap64 (bt102.2 + 1)) - 1)) then (if (wrap64 ((wrap64 (bt102.2 + 1)) - 1)) < (s0_0.length : Int) then ((made_Mod.f (rd s0_0 (wrap64 ((wrap64 (bt102.2 + 1)) - 1))) a1).bind fun t105 => (some (t105, wrap64 (bt102.2 + 1)))) else (none)) else (none)) else (some (0, bt102.2)))
set_option maxHeartbeats 8000000 in
set_option maxRecDepth 100000 in
theorem made_Dice_Next.calls (g : Nat) (s0_0 : List Int) (s0_1 : Int) (a1 : Int) (r1 : Int) (r2 : Int) (w0 w : World) (hI : IsS84 w0 w g s0_0 s0_1) (hB : Below w0.heap.size w0 w) (h : made_Dice_Next.f s0_0 s0_1 a1 = some (r1, r2)) :
  Calls Try.prog 21 #[.pointer (some ⟨g, 0, none⟩), .int .i64 a1] w fun e w' => e = .returned (.int .i64 r1) ∧ IsS84 w0 w' g s0_0 r2 ∧ Below w0.heap.size w0 w' ∧ KeepBut w w' g none := by
 have HI0 := Aside0.mk hI; have HK := Aside0.mk (KeepBut.refl w g none); have HL := Aside0.mk hB.size; clear hI; have HW0 := Aside0.mk hB.size; have HB := Aside0.mk hB; clear hB; have H : ((made_Dice_Left.f s0_0 s0_1).bind fun bt102 => (if bt102.1 = true then (if 0 ≤ (wrap64 ((wrap64 (bt102.2 + 1)) - 1)) then (if (wrap64 ((wrap64 (bt102.2 + 1)) - 1)) < (s0_0.length : Int) then ((made_Mod.f (rd s0_0 (wrap64 ((wrap64 (bt102.2 + 1)) - 1))) a1).bind fun t105 => (some (t105, wrap64 (bt102.2 + 1)))) else (none)) else (none)) else (some (0, bt102.2)))) = some (r1, r2) := h; clear h; replace H := Option.bind_eq_some_iff.mp H; obtain ⟨⟨t102, t103⟩, A30, H⟩ := H; (try dsimp only at H); have A3 := Aside0.mk A30; clear A30; by_cases c4 : t102 = true
 ·
  subst c4; have H1 : (if 0 ≤ (wrap64 ((wrap64 (t103 + 1)) - 1)) then (if (wrap64 ((wrap64 (t103 + 1)) - 1)) < (s0_0.length : Int) then ((made_Mod.f (rd s0_0 (wrap64 ((wrap64 (t103 + 1)) - 1))) a1).bind fun t105 => (some (t105, wrap64 (t103 + 1)))) else (none)) else (none)) = some (r1, r2) := by rw [if_pos rfl] at H; exact H
  clear H; have H := H1; clear H1; obtain ⟨ji5, hji5⟩ : ∃ j_ : Int, (wrap64 ((wrap64 (t103 + 1)) - 1)) = j_ := ⟨_, rfl⟩; replace H : (if 0 ≤ (ji5) then (if (ji5) < (s0_0.length : Int) then ((made_Mod.f (rd s0_0 (ji5)) a1).bind fun t105 => (some (t105, wrap64 (t103 + 1)))) else (none)) else (none)) = some (r1, r2) := by first | (rw [hji5] at H; exact H) | (simp only [hji5] at H ⊢; exact H)
  (try rw [hji5] at A3)
  have hji5w : (IntKind.i64.wrap ((wrap64 (t103 + 1)) - 1)) = ji5 := (i64_w _).trans hji5; by_cases c6 : 0 ≤ (ji5)
  rotate_left
  ·
   rw [if_neg c6] at H; exact absurd H (by simp)
  rw [if_pos c6] at H; have c6b0 : decide (0 ≤ (ji5)) = true := decide_eq_true c6; clear c6; by_cases c7 : (ji5) < (s0_0.length : Int)
  rotate_left
  ·
   rw [if_neg c7] at H; exact absurd H (by simp)
  rw [if_pos c7] at H; have c7b0 : decide ((ji5) < (s0_0.length : Int)) = true := decide_eq_true c7; clear c7; replace H := Option.bind_eq_some_iff.mp H; obtain ⟨t105, A80, H⟩ := H; (try dsimp only at H); have A8 := Aside0.mk A80; clear A80; simp only [Option.some.injEq, Prod.mk.injEq] at H; obtain ⟨rfl, rfl⟩ := H; go_enter Try.func21, Try.ntmps21
  go_wp2_with (first | (go_at_call 70; (with_reducible refine (made_Dice_Left.calls g s0_0 s0_1 true t103 w0 _ ?side1 ?side2 A3.out).mono ?_); (case side1 => exact (is0_ HI0.out)); (case side2 => exact (hb1_ HB.out (IsS84.ge HI0.out))); rintro e w9 ⟨rfl, hi, hb, hk⟩; have n0_ := Aside0.mk (KeepBut.trans (kp0_ HK.out) hk (.inl rfl)); have n1_ := Aside0.mk (hb); have n2_ := Aside0.mk (hi); clear HK HB HI0; revert n0_ n1_ n2_; intro HK HB HI0; (try clear hb); (try clear hb2); (try clear hk); (try clear hi); obtain ⟨ASz10_0, cSz10_0, HGz10, hgz10, HSz10_0⟩ := HI0.out; have hcz10_0 := cellS84_0 HGz10; have hcz10_1 := cellS84_1 HGz10; have hfz10_1 := blk_frozen HGz10 1; clear HGz10 hgz10; have p104 : 0 ≤ ((ji5) : Int) := od_; have q104 : (ji5) < (s0_0.length : Int) := od_; obtain ⟨ad104, e104, hx104_0⟩ := Kd.at_int HSz10_0 (ji5) p104 q104; cases e104; have hn104_0 : ad104.block ≠ g := Nat.ne_of_lt (Nat.lt_of_lt_of_le (by have := World.block_lt_of_cell? _ _ hx104_0; first | rwa [add_block] at this | exact this) (IsS84.ge HI0.out)); replace hx104_0 := pw_cell_below HB.out hx104_0; replace hx104_0 := (cell_far (p := ⟨g, 1, none⟩) (by first | (rw [add_block]; exact hn104_0) | (show (Addr.add _ _).block ≠ _; rw [add_block]; exact hn104_0) | exact hn104_0) (.int .i64 (wrap64 (t103 + 1)))).trans hx104_0; (try have hy104_0 := fun (n_ : Nat) => (show (((w9.drewN n_).setCell ⟨g, 1, none⟩ (.int .i64 (wrap64 (t103 + 1))))).cell? _ = some _ from hx104_0)); clear hn104_0; replace p104 := eq_true p104; replace q104 := eq_true q104) | (go_at_call 71; (with_reducible refine (made_Mod.calls (rd s0_0 (ji5)) a1 t105 _ A8.out).mono ?_); rintro e w' ⟨rfl, ⟨nd, rfl⟩⟩; (try first | exact ⟨rfl, _, World.drewN_drewN _ _ _⟩ | exact ⟨rfl, _, Eq.trans (World.drewN_drewN _ _ _) (congrArg (World.drewN _) (Nat.add_assoc _ _ _))⟩)))
  repeat (go_quiet (first | (go_at_call 70; (with_reducible refine (made_Dice_Left.calls g s0_0 s0_1 true t103 w0 _ ?side1 ?side2 A3.out).mono ?_); (case side1 => exact (is0_ HI0.out)); (case side2 => exact (hb1_ HB.out (IsS84.ge HI0.out))); rintro e w9 ⟨rfl, hi, hb, hk⟩; have n0_ := Aside0.mk (KeepBut.trans (kp0_ HK.out) hk (.inl rfl)); have n1_ := Aside0.mk (hb); have n2_ := Aside0.mk (hi); clear HK HB HI0; revert n0_ n1_ n2_; intro HK HB HI0; (try clear hb); (try clear hb2); (try clear hk); (try clear hi); obtain ⟨ASz10_0, cSz10_0, HGz10, hgz10, HSz10_0⟩ := HI0.out; have hcz10_0 := cellS84_0 HGz10; have hcz10_1 := cellS84_1 HGz10; have hfz10_1 := blk_frozen HGz10 1; clear HGz10 hgz10; have p104 : 0 ≤ ((ji5) : Int) := od_; have q104 : (ji5) < (s0_0.length : Int) := od_; obtain ⟨ad104, e104, hx104_0⟩ := Kd.at_int HSz10_0 (ji5) p104 q104; cases e104; have hn104_0 : ad104.block ≠ g := Nat.ne_of_lt (Nat.lt_of_lt_of_le (by have := World.block_lt_of_cell? _ _ hx104_0; first | rwa [add_block] at this | exact this) (IsS84.ge HI0.out)); replace hx104_0 := pw_cell_below HB.out hx104_0; replace hx104_0 := (cell_far (p := ⟨g, 1, none⟩) (by first | (rw [add_block]; exact hn104_0) | (show (Addr.add _ _).block ≠ _; rw [add_block]; exact hn104_0) | exact hn104_0) (.int .i64 (wrap64 (t103 + 1)))).trans hx104_0; (try have hy104_0 := fun (n_ : Nat) => (show (((w9.drewN n_).setCell ⟨g, 1, none⟩ (.int .i64 (wrap64 (t103 + 1))))).cell? _ = some _ from hx104_0)); clear hn104_0; replace p104 := eq_true p104; replace q104 := eq_true q104) | (go_at_call 71; (with_reducible refine (made_Mod.calls (rd s0_0 (ji5)) a1 t105 _ A8.out).mono ?_); rintro e w' ⟨rfl, ⟨nd, rfl⟩⟩; (try first | exact ⟨rfl, _, World.drewN_drewN _ _ _⟩ | exact ⟨rfl, _, Eq.trans (World.drewN_drewN _ _ _) (congrArg (World.drewN _) (Nat.add_assoc _ _ _))⟩))); try go_wp2_with (first | (go_at_call 70; (with_reducible refine (made_Dice_Left.calls g s0_0 s0_1 true t103 w0 _ ?side1 ?side2 A3.out).mono ?_); (case side1 => exact (is0_ HI0.out)); (case side2 => exact (hb1_ HB.out (IsS84.ge HI0.out))); rintro e w9 ⟨rfl, hi, hb, hk⟩; have n0_ := Aside0.mk (KeepBut.trans (kp0_ HK.out) hk (.inl rfl)); have n1_ := Aside0.mk (hb); have n2_ := Aside0.mk (hi); clear HK HB HI0; revert n0_ n1_ n2_; intro HK HB HI0; (try clear hb); (try clear hb2); (try clear hk); (try clear hi); obtain ⟨ASz10_0, cSz10_0, HGz10, hgz10, HSz10_0⟩ := HI0.out; have hcz10_0 := cellS84_0 HGz10; have hcz10_1 := cellS84_1 HGz10; have hfz10_1 := blk_frozen HGz10 1; clear HGz10 hgz10; have p104 : 0 ≤ ((ji5) : Int) := od_; have q104 : (ji5) < (s0_0.length : Int) := od_; obtain ⟨ad104, e104, hx104_0⟩ := Kd.at_int HSz10_0 (ji5) p104 q104; cases e104; have hn104_0 : ad104.block ≠ g := Nat.ne_of_lt (Nat.lt_of_lt_of_le (by have := World.block_lt_of_cell? _ _ hx104_0; first | rwa [add_block] at this | exact this) (IsS84.ge HI0.out)); replace hx104_0 := pw_cell_below HB.out hx104_0; replace hx104_0 := (cell_far (p := ⟨g, 1, none⟩) (by first | (rw [add_block]; exact hn104_0) | (show (Addr.add _ _).block ≠ _; rw [add_block]; exact hn104_0) | exact hn104_0) (.int .i64 (wrap64 (t103 + 1)))).trans hx104_0; (try have hy104_0 := fun (n_ : Nat) => (show (((w9.drewN n_).setCell ⟨g, 1, none⟩ (.int .i64 (wrap64 (t103 + 1))))).cell? _ = some _ from hx104_0)); clear hn104_0; replace p104 := eq_true p104; replace q104 := eq_true q104) | (go_at_call 71; (with_reducible refine (made_Mod.calls (rd s0_0 (ji5)) a1 t105 _ A8.out).mono ?_); rintro e w' ⟨rfl, ⟨nd, rfl⟩⟩; (try first | exact ⟨rfl, _, World.drewN_drewN _ _ _⟩ | exact ⟨rfl, _, Eq.trans (World.drewN_drewN _ _ _) (congrArg (World.drewN _) (Nat.add_assoc _ _ _))⟩))))
  go_ret
  exact ⟨by first | rfl | (simp [errW_none, errW_some] <;> rfl) | (simp only [← hji5]; first | rfl | (simp [errW_none, errW_some] <;> rfl)) | (simp [*, errW_none, errW_some] <;> rfl), (is0_ HI0.out), (hb1_ HB.out (IsS84.ge HI0.out)), (kp0_ HK.out)⟩
 ·
  replace c4 := Bool.eq_false_iff.mpr c4; subst c4; have H1 : (some (0, t103)) = some (r1, r2) := by rw [if_neg (show ¬ (false = true) by decide)] at H; exact H
  clear H; have H := H1; clear H1; simp only [Option.some.injEq, Prod.mk.injEq] at H; obtain ⟨rfl, rfl⟩ := H; go_enter Try.func21, Try.ntmps21
  go_wp2_with (first | (go_at_call 70; (with_reducible refine (made_Dice_Left.calls g s0_0 s0_1 false t103 w0 _ ?side1 ?side2 A3.out).mono ?_); (case side1 => exact (is0_ HI0.out)); (case side2 => exact (hb1_ HB.out (IsS84.ge HI0.out))); rintro e w11 ⟨rfl, hi, hb, hk⟩; have n0_ := Aside0.mk (KeepBut.trans (kp0_ HK.out) hk (.inl rfl)); have n1_ := Aside0.mk (hb); have n2_ := Aside0.mk (hi); clear HK HB HI0; revert n0_ n1_ n2_; intro HK HB HI0; (try clear hb); (try clear hb2); (try clear hk); (try clear hi)))
  repeat (go_quiet (first | (go_at_call 70; (with_reducible refine (made_Dice_Left.calls g s0_0 s0_1 false t103 w0 _ ?side1 ?side2 A3.out).mono ?_); (case side1 => exact (is0_ HI0.out)); (case side2 => exact (hb1_ HB.out (IsS84.ge HI0.out))); rintro e w11 ⟨rfl, hi, hb, hk⟩; have n0_ := Aside0.mk (KeepBut.trans (kp0_ HK.out) hk (.inl rfl)); have n1_ := Aside0.mk (hb); have n2_ := Aside0.mk (hi); clear HK HB HI0; revert n0_ n1_ n2_; intro HK HB HI0; (try clear hb); (try clear hb2); (try clear hk); (try clear hi))); try go_wp2_with (first | (go_at_call 70; (with_reducible refine (made_Dice_Left.calls g s0_0 s0_1 false t103 w0 _ ?side1 ?side2 A3.out).mono ?_); (case side1 => exact (is0_ HI0.out)); (case side2 => exact (hb1_ HB.out (IsS84.ge HI0.out))); rintro e w11 ⟨rfl, hi, hb, hk⟩; have n0_ := Aside0.mk (KeepBut.trans (kp0_ HK.out) hk (.inl rfl)); have n1_ := Aside0.mk (hb); have n2_ := Aside0.mk (hi); clear HK HB HI0; revert n0_ n1_ n2_; intro HK HB HI0; (try clear hb); (try clear hb2); (try clear hk); (try clear hi))))
  go_ret
  exact ⟨by first | rfl | (simp [errW_none, errW_some] <;> rfl) | (simp [*, errW_none, errW_some] <;> rfl), (is0_ HI0.out), (hb1_ HB.out (IsS84.ge HI0.out)), (kp0_ HK.out)⟩

/-! ### ref15_Valid: function 27 -/
def ref15_Valid.f (a0_0 : Int) (a0_1 : Int) (l0_2 : List Int) (l0_3 : List Int) (l0_4 : List (S101)) (l0_5 : List (S79)) (l0_6 : List Int) (a0_7 : Bool) : Option (Bool) := if a0_0 ≥ 0 then (if a0_0 ≤ 1024 then (if a0_1 = 1 then (some ((l0_2.length : Int) == a0_0)) else (if a0_1 = 8 then (some ((l0_2.length : Int) == a0_0)) else (some false))) else (some false)) else (some false)
set_option maxHeartbeats 8000000 in
set_option maxRecDepth 100000 in
theorem ref15_Valid.calls (a0_0 : Int) (a0_1 : Int) (A0_2 : Option Addr) (c0_2 : Nat) (l0_2 : List Int) (A0_3 : Option Addr) (c0_3 : Nat) (l0_3 : List Int) (A0_4 : Option Addr) (c0_4 : Nat) (l0_4 : List (S101)) (A0_5 : Option Addr) (c0_5 : Nat) (l0_5 : List (S79)) (A0_6 : Option Addr) (c0_6 : Nat) (l0_6 : List Int) (a0_7 : Bool) (r : Bool) (w : World) (hr0_2 : Kd.C (Kd.int .u8) w A0_2 l0_2.length l0_2) (hc0_2 : l0_2.length ≤ c0_2) (hr0_3 : Kd.C (Kd.int .i64) w A0_3 l0_3.length l0_3) (hc0_3 : l0_3.length ≤ c0_3) (hr0_4 : Kd.C k101 w A0_4 l0_4.length l0_4) (hc0_4 : l0_4.length ≤ c0_4) (hr0_5 : Kd.C k79 w A0_5 l0_5.length l0_5) (hc0_5 : l0_5.length ≤ c0_5) (hr0_6 : Kd.C (Kd.int .i64) w A0_6 l0_6.length l0_6) (hc0_6 : l0_6.length ≤ c0_6) (h : ref15_Valid.f a0_0 a0_1 l0_2 l0_3 l0_4 l0_5 l0_6 a0_7 = some r) :
  Calls Try.prog 27 #[.agg #[.int .i64 a0_0, .int .i64 a0_1, .slice A0_2 l0_2.length c0_2, .slice A0_3 l0_3.length c0_3, .slice A0_4 l0_4.length c0_4, .slice A0_5 l0_5.length c0_5, .slice A0_6 l0_6.length c0_6, .bool a0_7]] w fun e w' => e = .returned (.bool r) ∧ Below w.heap.size w w' := by
 have hu31 := Try.underlying31; have HR0_2 := Aside0.mk hr0_2; have HC0_2 := Aside0.mk hc0_2; clear hr0_2 hc0_2; have HR0_3 := Aside0.mk hr0_3; have HC0_3 := Aside0.mk hc0_3; clear hr0_3 hc0_3; have HR0_4 := Aside0.mk hr0_4; have HC0_4 := Aside0.mk hc0_4; clear hr0_4 hc0_4; have HR0_5 := Aside0.mk hr0_5; have HC0_5 := Aside0.mk hc0_5; clear hr0_5 hc0_5; have HR0_6 := Aside0.mk hr0_6; have HC0_6 := Aside0.mk hc0_6; clear hr0_6 hc0_6; have HB := Aside0.mk (Below.refl w.heap.size w); have H : (if a0_0 ≥ 0 then (if a0_0 ≤ 1024 then (if a0_1 = 1 then (some ((l0_2.length : Int) == a0_0)) else (if a0_1 = 8 then (some ((l0_2.length : Int) == a0_0)) else (some false))) else (some false)) else (some false)) = some r := h; clear h; by_cases c2 : a0_0 ≥ 0
 ·
  rw [if_pos c2] at H; have c2b0 : decide (0 ≤ a0_0) = true := decide_eq_true c2; clear c2; by_cases c3 : a0_0 ≤ 1024
  ·
   rw [if_pos c3] at H; have c3b0 : decide (a0_0 ≤ 1024) = true := decide_eq_true c3; clear c3; by_cases c4 : a0_1 = 1
   ·
    rw [if_pos c4] at H; have c4b0 : (a0_1 == 1) = true := beq_iff_eq.mpr c4; have c4b1 : (a0_1 != 1) = false := bne_eq_false_iff_eq.mpr c4; clear c4; obtain rfl := Option.some.inj H; go_enter Try.func27, Try.ntmps27
    go_wp2_with (first | ((with_reducible refine gate_dst (N := 1) rfl ?_); (try (refine gate_guard (by rfl) ?_; dsimp only)); refine box_event ?hg (N := 1) ?hd (cs := #[.int .i64 a0_0, .int .i64 a0_1, .slice A0_2 l0_2.length c0_2, .slice A0_3 l0_3.length c0_3, .slice A0_4 l0_4.length c0_4, .slice A0_5 l0_5.length c0_5, .slice A0_6 l0_6.length c0_6, .bool a0_7]) (t := 31) ?hr ?_; (case hd => rfl); (case hg => rfl); (case hr => first | (go_simp; done) | (go_simp; rfl)); intro gb106 hg w5 hbox hb; have n0_ := Aside0.mk (below_step (hb0_ HB.out) hb); have n1_ := Aside0.mk (hbox); have n2_ := Aside0.mk ((by rw [hg]; exact (below_size (hb0_ HB.out)) : w.heap.size ≤ gb106)); have n3_ := Aside0.mk ((by rw [hg]; exact (below_size (hb0_ HB.out)) : w.heap.size ≤ gb106)); clear HB; revert n0_ n1_ n2_ n3_; intro HB BK106 GW106 GE106; clear hb hbox hg; obtain ⟨hcz6_0, hcz6_1, hcz6_2, hcz6_3, hcz6_4, hcz6_5, hcz6_6, hcz6_7, hfz6_0, hfz6_1, hfz6_2, hfz6_3, hfz6_4, hfz6_5, hfz6_6, hfz6_7⟩ := bx8_ BK106.out))
    go_ret
    exact ⟨by first | rfl | (simp [errW_none, errW_some] <;> rfl) | (simp [*, errW_none, errW_some] <;> rfl), (hb1_ HB.out GE106.out)⟩
   ·
    rw [if_neg c4] at H; have c4b0 : (a0_1 == 1) = false := beq_eq_false_iff_ne.mpr c4; have c4b1 : (a0_1 != 1) = true := bne_iff_ne.mpr c4; by_cases c7 : a0_1 = 8
    ·
     rw [if_pos c7] at H; have c7b0 : (a0_1 == 8) = true := beq_iff_eq.mpr c7; have c7b1 : (a0_1 != 8) = false := bne_eq_false_iff_eq.mpr c7; clear c7; obtain rfl := Option.some.inj H; go_enter Try.func27, Try.ntmps27
     go_wp2_with (first | ((with_reducible refine gate_dst (N := 1) rfl ?_); (try (refine gate_guard (by rfl) ?_; dsimp only)); refine box_event ?hg (N := 1) ?hd (cs := #[.int .i64 a0_0, .int .i64 a0_1, .slice A0_2 l0_2.length c0_2, .slice A0_3 l0_3.length c0_3, .slice A0_4 l0_4.length c0_4, .slice A0_5 l0_5.length c0_5, .slice A0_6 l0_6.length c0_6, .bool a0_7]) (t := 31) ?hr ?_; (case hd => rfl); (case hg => rfl); (case hr => first | (go_simp; done) | (go_simp; rfl)); intro gb106 hg w8 hbox hb; have n0_ := Aside0.mk (below_step (hb0_ HB.out) hb); have n1_ := Aside0.mk (hbox); have n2_ := Aside0.mk ((by rw [hg]; exact (below_size (hb0_ HB.out)) : w.heap.size ≤ gb106)); have n3_ := Aside0.mk ((by rw [hg]; exact (below_size (hb0_ HB.out)) : w.heap.size ≤ gb106)); clear HB; revert n0_ n1_ n2_ n3_; intro HB BK106 GW106 GE106; clear hb hbox hg; obtain ⟨hcz9_0, hcz9_1, hcz9_2, hcz9_3, hcz9_4, hcz9_5, hcz9_6, hcz9_7, hfz9_0, hfz9_1, hfz9_2, hfz9_3, hfz9_4, hfz9_5, hfz9_6, hfz9_7⟩ := bx8_ BK106.out))
     go_ret
     exact ⟨by first | rfl | (simp [errW_none, errW_some] <;> rfl) | (simp [*, errW_none, errW_some] <;> rfl), (hb1_ HB.out GE106.out)⟩
    ·
     rw [if_neg c7] at H; have c7b0 : (a0_1 == 8) = false := beq_eq_false_iff_ne.mpr c7; have c7b1 : (a0_1 != 8) = true := bne_iff_ne.mpr c7; obtain rfl := Option.some.inj H; go_enter Try.func27, Try.ntmps27
     go_wp2_with (first | ((with_reducible refine gate_dst (N := 1) rfl ?_); (try (refine gate_guard (by rfl) ?_; dsimp only)); refine box_event ?hg (N := 1) ?hd (cs := #[.int .i64 a0_0, .int .i64 a0_1, .slice A0_2 l0_2.length c0_2, .slice A0_3 l0_3.length c0_3, .slice A0_4 l0_4.length c0_4, .slice A0_5 l0_5.length c0_5, .slice A0_6 l0_6.length c0_6, .bool a0_7]) (t := 31) ?hr ?_; (case hd => rfl); (case hg => rfl); (case hr => first | (go_simp; done) | (go_simp; rfl)); intro gb106 hg w10 hbox hb; have n0_ := Aside0.mk (below_step (hb0_ HB.out) hb); have n1_ := Aside0.mk (hbox); have n2_ := Aside0.mk ((by rw [hg]; exact (below_size (hb0_ HB.out)) : w.heap.size ≤ gb106)); have n3_ := Aside0.mk ((by rw [hg]; exact (below_size (hb0_ HB.out)) : w.heap.size ≤ gb106)); clear HB; revert n0_ n1_ n2_ n3_; intro HB BK106 GW106 GE106; clear hb hbox hg; obtain ⟨hcz11_0, hcz11_1, hcz11_2, hcz11_3, hcz11_4, hcz11_5, hcz11_6, hcz11_7, hfz11_0, hfz11_1, hfz11_2, hfz11_3, hfz11_4, hfz11_5, hfz11_6, hfz11_7⟩ := bx8_ BK106.out))
     go_ret
     exact ⟨by first | rfl | (simp [errW_none, errW_some] <;> rfl) | (simp [*, errW_none, errW_some] <;> rfl), (hb1_ HB.out GE106.out)⟩
  ·
   rw [if_neg c3] at H; have c3b0 : decide (a0_0 ≤ 1024) = false := decide_eq_false c3; clear c3; obtain rfl := Option.some.inj H; go_enter Try.func27, Try.ntmps27
   go_wp2_with (first | ((with_reducible refine gate_dst (N := 1) rfl ?_); (try (refine gate_guard (by rfl) ?_; dsimp only)); refine box_event ?hg (N := 1) ?hd (cs := #[.int .i64 a0_0, .int .i64 a0_1, .slice A0_2 l0_2.length c0_2, .slice A0_3 l0_3.length c0_3, .slice A0_4 l0_4.length c0_4, .slice A0_5 l0_5.length c0_5, .slice A0_6 l0_6.length c0_6, .bool a0_7]) (t := 31) ?hr ?_; (case hd => rfl); (case hg => rfl); (case hr => first | (go_simp; done) | (go_simp; rfl)); intro gb106 hg w12 hbox hb; have n0_ := Aside0.mk (below_step (hb0_ HB.out) hb); have n1_ := Aside0.mk (hbox); have n2_ := Aside0.mk ((by rw [hg]; exact (below_size (hb0_ HB.out)) : w.heap.size ≤ gb106)); have n3_ := Aside0.mk ((by rw [hg]; exact (below_size (hb0_ HB.out)) : w.heap.size ≤ gb106)); clear HB; revert n0_ n1_ n2_ n3_; intro HB BK106 GW106 GE106; clear hb hbox hg; obtain ⟨hcz13_0, hcz13_1, hcz13_2, hcz13_3, hcz13_4, hcz13_5, hcz13_6, hcz13_7, hfz13_0, hfz13_1, hfz13_2, hfz13_3, hfz13_4, hfz13_5, hfz13_6, hfz13_7⟩ := bx8_ BK106.out))
   go_ret
   exact ⟨by first | rfl | (simp [errW_none, errW_some] <;> rfl) | (simp [*, errW_none, errW_some] <;> rfl), (hb1_ HB.out GE106.out)⟩
 ·
  rw [if_neg c2] at H; have c2b0 : decide (0 ≤ a0_0) = false := decide_eq_false c2; clear c2; obtain rfl := Option.some.inj H; go_enter Try.func27, Try.ntmps27
  go_wp2_with (first | ((with_reducible refine gate_dst (N := 1) rfl ?_); (try (refine gate_guard (by rfl) ?_; dsimp only)); refine box_event ?hg (N := 1) ?hd (cs := #[.int .i64 a0_0, .int .i64 a0_1, .slice A0_2 l0_2.length c0_2, .slice A0_3 l0_3.length c0_3, .slice A0_4 l0_4.length c0_4, .slice A0_5 l0_5.length c0_5, .slice A0_6 l0_6.length c0_6, .bool a0_7]) (t := 31) ?hr ?_; (case hd => rfl); (case hg => rfl); (case hr => first | (go_simp; done) | (go_simp; rfl)); intro gb106 hg w14 hbox hb; have n0_ := Aside0.mk (below_step (hb0_ HB.out) hb); have n1_ := Aside0.mk (hbox); have n2_ := Aside0.mk ((by rw [hg]; exact (below_size (hb0_ HB.out)) : w.heap.size ≤ gb106)); have n3_ := Aside0.mk ((by rw [hg]; exact (below_size (hb0_ HB.out)) : w.heap.size ≤ gb106)); clear HB; revert n0_ n1_ n2_ n3_; intro HB BK106 GW106 GE106; clear hb hbox hg; obtain ⟨hcz15_0, hcz15_1, hcz15_2, hcz15_3, hcz15_4, hcz15_5, hcz15_6, hcz15_7, hfz15_0, hfz15_1, hfz15_2, hfz15_3, hfz15_4, hfz15_5, hfz15_6, hfz15_7⟩ := bx8_ BK106.out))
  go_ret
  exact ⟨by first | rfl | (simp [errW_none, errW_some] <;> rfl) | (simp [*, errW_none, errW_some] <;> rfl), (hb1_ HB.out GE106.out)⟩

/-! ### ref16_Align: function 31 -/
def ref16_Align.f (a0 : Int) (a1 : Int) : Option (Int) := if a1 < 1 then (some a0) else (if a1 = 0 then (none) else (if (Int.tmod a0 a1) = 0 then (some a0) else (some (wrap64 ((wrap64 (a0 + a1)) - (Int.tmod a0 a1))))))
set_option maxHeartbeats 8000000 in
set_option maxRecDepth 100000 in
theorem ref16_Align.calls (a0 : Int) (a1 : Int) (r : Int) (w : World) (h : ref16_Align.f a0 a1 = some r) :
  Calls Try.prog 31 #[.int .i64 a0, .int .i64 a1] w fun e w' => e = .returned (.int .i64 r) ∧ Drawn0 w w' := by
 have H : (if a1 < 1 then (some a0) else (if a1 = 0 then (none) else (if (Int.tmod a0 a1) = 0 then (some a0) else (some (wrap64 ((wrap64 (a0 + a1)) - (Int.tmod a0 a1))))))) = some r := h; clear h; by_cases c3 : a1 < 1
 ·
  rw [if_pos c3] at H; have c3b0 : decide (a1 < 1) = true := decide_eq_true c3; clear c3; obtain rfl := Option.some.inj H; go_enter Try.func31, Try.ntmps31
  go_wp2
  go_ret
  exact ⟨rf_, by repeat (first | exact Drawn0.refl _ | apply Drawn0.step)⟩
 ·
  rw [if_neg c3] at H; have c3b0 : decide (a1 < 1) = false := decide_eq_false c3; clear c3; by_cases c4 : a1 = 0
  ·
   rw [if_pos c4] at H; exact absurd H (by simp)
  rw [if_neg c4] at H; have c4b0 : (a1 == 0) = false := beq_eq_false_iff_ne.mpr c4; have c4b1 : (a1 != 0) = true := bne_iff_ne.mpr c4; by_cases c5 : (Int.tmod a0 a1) = 0
  ·
   rw [if_pos c5] at H; have c5b0 : ((Int.tmod a0 a1) == 0) = true := beq_iff_eq.mpr c5; have c5b1 : ((Int.tmod a0 a1) != 0) = false := bne_eq_false_iff_eq.mpr c5; clear c5; obtain rfl := Option.some.inj H; go_enter Try.func31, Try.ntmps31
   go_wp2
   go_ret
   exact ⟨rf_, by repeat (first | exact Drawn0.refl _ | apply Drawn0.step)⟩
  ·
   rw [if_neg c5] at H; have c5b0 : ((Int.tmod a0 a1) == 0) = false := beq_eq_false_iff_ne.mpr c5; have c5b1 : ((Int.tmod a0 a1) != 0) = true := bne_iff_ne.mpr c5; obtain rfl := Option.some.inj H; go_enter Try.func31, Try.ntmps31
   go_wp2
   go_ret
   exact ⟨rf_, by repeat (first | exact Drawn0.refl _ | apply Drawn0.step)⟩

open List (setIfInBounds_toArray set_cons_zero set_cons_succ)
/-! ### ref16_Lay: function 25 -/
mutual
def ref16_Lay.l0 : Nat → List (S31) → List (S31) → Int → Int → Int → Int → Bool → Option (Int × Int × List Int × List Int × (List (S101)) × (List (S79)) × List Int × Bool × Int)
 | 0, _, _, _, _, _, _, _ => none
 | k + 1, x0, x11, x12, x13, x109000, x109001, x109007 => if x13 < x12 then (if 0 ≤ x13 then (if x13 < (x11.length : Int) then ((ref15_Valid.f ((rd_T31 x11 x13).f0) ((rd_T31 x11 x13).f1) ((rd_T31 x11 x13).f2) ((rd_T31 x11 x13).f3) ((rd_T31 x11 x13).f4) ((rd_T31 x11 x13).f5) ((rd_T31 x11 x13).f6) ((rd_T31 x11 x13).f7)).bind fun t111 => (if t111 = true then (ref16_Lay.l0 k x0 x11 x12 (wrap64 (x13 + 1)) x109000 x109001 x109007) else (some (0, 0, ([] : List Int), ([] : List Int), ([] : List (S101)), ([] : List (S79)), ([] : List Int), false, 19)))) else (none)) else (none)) else (ref16_Lay.l1 k x0 (x0.length : Int) 0 x109000 x109001 ([] : List Int) ([] : List Int) x109007)
def ref16_Lay.l1 : Nat → List (S31) → Int → Int → Int → Int → List Int → List Int → Bool → Option (Int × Int × List Int × List Int × (List (S101)) × (List (S79)) × List Int × Bool × Int)
 | 0, _, _, _, _, _, _, _, _ => none
 | k + 1, x22, x23, x24, x109000, x109001, x109002, x109003, x109007 => if x24 < x23 then (if 0 ≤ x24 then (if x24 < (x22.length : Int) then ((ref16_Align.f x109000 ((rd_T31 x22 x24).f1)).bind fun t114 => (if (wrap64 (t114 + ((rd_T31 x22 x24).f0))) > 1024 then (some (0, 0, ([] : List Int), ([] : List Int), ([] : List (S101)), ([] : List (S79)), ([] : List Int), false, 4)) else (if x109003.length < 17592186044416 then (ref16_Lay.l2 k t114 x22 x23 x24 x109000 x109001 x109002 (x109003 ++ [t114]) x109007 ((rd_T31 x22 x24).f0) ((rd_T31 x22 x24).f1) ((rd_T31 x22 x24).f2) ((rd_T31 x22 x24).f3) ((rd_T31 x22 x24).f4) ((rd_T31 x22 x24).f5) ((rd_T31 x22 x24).f6) ((rd_T31 x22 x24).f7)) else (none)))) else (none)) else (none)) else (some (x109000, x109001, x109002, x109003, ([] : List (S101)), ([] : List (S79)), ([] : List Int), x109007, 0))
def ref16_Lay.l2 : Nat → Int → List (S31) → Int → Int → Int → Int → List Int → List Int → Bool → Int → Int → List Int → List Int → List (S101) → List (S79) → List Int → Bool → Option (Int × Int × List Int × List Int × (List (S101)) × (List (S79)) × List Int × Bool × Int)
 | 0, _, _, _, _, _, _, _, _, _, _, _, _, _, _, _, _, _ => none
 | k + 1, x9, x22, x23, x24, x109000, x109001, x109002, x109003, x109007, x114000, x114001, x114002, x114003, x114004, x114005, x114006, x114007 => if (x109002.length : Int) < x9 then (if x109002.length < 140737488355328 then (ref16_Lay.l2 k x9 x22 x23 x24 x109000 x109001 (x109002 ++ [0]) x109003 x109007 x114000 x114001 x114002 x114003 x114004 x114005 x114006 x114007) else (none)) else (if x109002.length + x114002.length < 140737488355328 then (ref16_Lay.l1 k x22 x23 (wrap64 (x24 + 1)) (wrap64 (x9 + x114000)) (mx x109001 x114001) (x109002 ++ x114002) x109003 x109007) else (none))
end
def ref16_Lay.f (k : Nat) (l0 : List (S31)) : Option (Int × Int × List Int × List Int × (List (S101)) × (List (S79)) × List Int × Bool × Int) := ref16_Lay.l0 k l0 l0 (l0.length : Int) 0 0 1 false
theorem ref16_Lay.mono_l : ∀ k, (∀ y0 y1 y2 y3 y4 y5 y6, LeO (ref16_Lay.l0 k y0 y1 y2 y3 y4 y5 y6) (ref16_Lay.l0 (k + 1) y0 y1 y2 y3 y4 y5 y6)) ∧ (∀ y0 y1 y2 y3 y4 y5 y6 y7, LeO (ref16_Lay.l1 k y0 y1 y2 y3 y4 y5 y6 y7) (ref16_Lay.l1 (k + 1) y0 y1 y2 y3 y4 y5 y6 y7)) ∧ (∀ y0 y1 y2 y3 y4 y5 y6 y7 y8 y9 y10 y11 y12 y13 y14 y15 y16, LeO (ref16_Lay.l2 k y0 y1 y2 y3 y4 y5 y6 y7 y8 y9 y10 y11 y12 y13 y14 y15 y16) (ref16_Lay.l2 (k + 1) y0 y1 y2 y3 y4 y5 y6 y7 y8 y9 y10 y11 y12 y13 y14 y15 y16))
 | 0 => ⟨fun _ _ _ _ _ _ _ r h => by simp [ref16_Lay.l0] at h, fun _ _ _ _ _ _ _ _ r h => by simp [ref16_Lay.l1] at h, fun _ _ _ _ _ _ _ _ _ _ _ _ _ _ _ _ _ r h => by simp [ref16_Lay.l2] at h⟩
 | k + 1 => by
  obtain ⟨ih0, ih1, ih2⟩ := ref16_Lay.mono_l k; refine ⟨?_, ?_, ?_⟩
  ·
   intro y0 y1 y2 y3 y4 y5 y6; unfold ref16_Lay.l0
   repeat' first
   | (with_reducible exact ih0 _ _ _ _ _ _ _)
   | (with_reducible exact ih1 _ _ _ _ _ _ _ _)
   | (with_reducible exact ih2 _ _ _ _ _ _ _ _ _ _ _ _ _ _ _ _ _)
   | (with_reducible exact LeO.refl _)
   | (with_reducible exact LeO.none _)
   | (with_reducible refine LeO.ite ?_ ?_)
   | (with_reducible refine LeO.bind ?_ (fun _ => ?_))
   | exact ih0 _ _ _ _ _ _ _
   | exact ih1 _ _ _ _ _ _ _ _
   | exact ih2 _ _ _ _ _ _ _ _ _ _ _ _ _ _ _ _ _
   | exact LeO.none _
   | refine LeO.ite ?_ ?_
   | refine LeO.bind ?_ (fun _ => ?_)
  ·
   intro y0 y1 y2 y3 y4 y5 y6 y7; unfold ref16_Lay.l1
   repeat' first
   | (with_reducible exact ih0 _ _ _ _ _ _ _)
   | (with_reducible exact ih1 _ _ _ _ _ _ _ _)
   | (with_reducible exact ih2 _ _ _ _ _ _ _ _ _ _ _ _ _ _ _ _ _)
   | (with_reducible exact LeO.refl _)
   | (with_reducible exact LeO.none _)
   | (with_reducible refine LeO.ite ?_ ?_)
   | (with_reducible refine LeO.bind ?_ (fun _ => ?_))
   | exact ih0 _ _ _ _ _ _ _
   | exact ih1 _ _ _ _ _ _ _ _
   | exact ih2 _ _ _ _ _ _ _ _ _ _ _ _ _ _ _ _ _
   | exact LeO.none _
   | refine LeO.ite ?_ ?_
   | refine LeO.bind ?_ (fun _ => ?_)
  ·
   intro y0 y1 y2 y3 y4 y5 y6 y7 y8 y9 y10 y11 y12 y13 y14 y15 y16; unfold ref16_Lay.l2
   repeat' first
   | (with_reducible exact ih0 _ _ _ _ _ _ _)
   | (with_reducible exact ih1 _ _ _ _ _ _ _ _)
   | (with_reducible exact ih2 _ _ _ _ _ _ _ _ _ _ _ _ _ _ _ _ _)
   | (with_reducible exact LeO.refl _)
   | (with_reducible exact LeO.none _)
   | (with_reducible refine LeO.ite ?_ ?_)
   | (with_reducible refine LeO.bind ?_ (fun _ => ?_))
   | exact ih0 _ _ _ _ _ _ _
   | exact ih1 _ _ _ _ _ _ _ _
   | exact ih2 _ _ _ _ _ _ _ _ _ _ _ _ _ _ _ _ _
   | exact LeO.none _
   | refine LeO.ite ?_ ?_
   | refine LeO.bind ?_ (fun _ => ?_)
theorem ref16_Lay.mono : ∀ a0 k, LeO (ref16_Lay.f k a0) (ref16_Lay.f (k + 1) a0) := by
 intro a0 k; obtain ⟨ih0, ih1, ih2⟩ := ref16_Lay.mono_l k; unfold ref16_Lay.f
 repeat' first
   | (with_reducible exact ih0 _ _ _ _ _ _ _)
   | (with_reducible exact ih1 _ _ _ _ _ _ _ _)
   | (with_reducible exact ih2 _ _ _ _ _ _ _ _ _ _ _ _ _ _ _ _ _)
   | (with_reducible exact LeO.refl _)
   | (with_reducible exact LeO.none _)
   | (with_reducible refine LeO.ite ?_ ?_)
   | (with_reducible refine LeO.bind ?_ (fun _ => ?_))
   | exact ih0 _ _ _ _ _ _ _
   | exact ih1 _ _ _ _ _ _ _ _
   | exact ih2 _ _ _ _ _ _ _ _ _ _ _ _ _ _ _ _ _
   | exact LeO.none _
   | refine LeO.ite ?_ ?_
   | refine LeO.bind ?_ (fun _ => ?_)
def ref16_Lay.T18 : Bool × List (List Nat × List Nat) := (true, [([], []), ([], []), ([1], [1]), ([0, 2], [0, 2]), ([], []), ([4], [4]), ([], []), ([6], [6]), ([5, 7], [5, 7]), ([0, 1, 2, 3, 4, 5], []), ([9, 3, 0, 1, 2, 3, 4, 5], [3, 9]), ([0, 1, 2, 3, 4, 5, 6, 7, 8, 9, 10], []), ([11, 8, 10, 0, 1, 2, 3, 4, 5, 6, 7, 8, 9, 10], [8, 11])])
def ref16_Lay.B18 : List Nat := [0, 0, 2, 7, 0, 16, 0, 64, 240, 63, 575, 2047, 4095]
theorem ref16_Lay.tab18 : rtab .any (opsOf Try.f25 18) = ref16_Lay.T18 := by kernel_rfl
theorem ref16_Lay.bits18 : waitsOk ref16_Lay.T18.2 ref16_Lay.B18 = true := by kernel_rfl
set_option maxHeartbeats 8000000 in
set_option maxRecDepth 100000 in
theorem ref16_Lay.calls (k : Nat) (A0 : Option Addr) (c0 : Nat) (l0 : List (S31)) (r1 : Int) (r2 : Int) (r3 : List Int) (r4 : List Int) (r5 : List (S101)) (r6 : List (S79)) (r7 : List Int) (r8 : Bool) (r9 : Int) (w : World) (hr0 : Kd.C k31 w A0 l0.length l0) (hc0 : l0.length ≤ c0) (h : ref16_Lay.f k l0 = some (r1, r2, r3, r4, r5, r6, r7, r8, r9)) :
  Calls Try.prog 25 #[.slice A0 l0.length c0] w fun e w' => ∃ v2_ v3_ v4_ v5_ v6_ : Value, e = .returned (.tuple #[.agg #[.int .i64 r1, .int .i64 r2, v2_, v3_, v4_, v5_, v6_, .bool r8], .int .i64 r9]) ∧ Kd.R (Kd.int .u8) 5 w' w.heap.size (fun _ => True) v2_ r3 ∧ Kd.R (Kd.int .i64) 3 w' w.heap.size (fun k_ => some k_ ≠ (v6_ : Value).ownBlock) v3_ r4 ∧ Kd.R k101 101 w' w.heap.size (fun _ => True) v4_ r5 ∧ Kd.R k79 79 w' w.heap.size (fun k_ => some k_ ≠ (v3_ : Value).ownBlock ∧ some k_ ≠ (v4_ : Value).ownBlock ∧ some k_ ≠ (v6_ : Value).ownBlock) v5_ r6 ∧ Kd.R (Kd.int .i64) 3 w' w.heap.size (fun k_ => some k_ ≠ (v3_ : Value).ownBlock) v6_ r7 ∧ Below w.heap.size w w' := by
 have hu31 := Try.underlying31; have HR0 := Aside0.mk hr0; have HC0 := Aside0.mk hc0; clear hr0 hc0; have HB := Aside0.mk (Below.refl w.heap.size w); have H : (ref16_Lay.l0 k l0 l0 (l0.length : Int) 0 0 1 false) = some (r1, r2, r3, r4, r5, r6, r7, r8, r9) := h; clear h; have H' := Aside0.mk H; clear H; go_enter Try.func25, Try.ntmps25
 go_wp2_with (first | ((with_reducible refine gate_dst (N := 2) rfl ?_); refine box_event ?hg (N := 2) ?hd (cs := #[.int .i64 0, .int .i64 0, .slice none 0 0, .slice none 0 0, .slice none 0 0, .slice none 0 0, .slice none 0 0, .bool false]) (t := 31) ?hr ?_; (case hd => rfl); (case hg => rfl); (case hr => first | (go_simp; done) | (go_simp; rfl)); intro gb107 hg w2 hbox hb; have n0_ := Aside0.mk (below_step (hb0_ HB.out) hb); have n1_ := Aside0.mk (hbox); have n2_ := Aside0.mk ((by rw [hg]; exact (below_size (hb0_ HB.out)) : w.heap.size ≤ gb107)); have n3_ := Aside0.mk ((by rw [hg]; exact (below_size (hb0_ HB.out)) : w.heap.size ≤ gb107)); clear HB; revert n0_ n1_ n2_ n3_; intro HB BK107 GW107 GE107; clear hb hbox hg) | ((with_reducible refine gate_dst (N := 4) rfl ?_); refine box_event ?hg (N := 4) ?hd (cs := #[.int .i64 0, .int .i64 0, .slice none 0 0, .slice none 0 0, .slice none 0 0, .slice none 0 0, .slice none 0 0, .bool false]) (t := 31) ?hr ?_; (case hd => rfl); (case hg => rfl); (case hr => first | (go_simp; done) | (go_simp; rfl)); intro gb108 hg w3 hbox hb; have n0_ := Aside0.mk (bb_ BK107.out hb); have n1_ := Aside0.mk (below_step (hb1_ HB.out GE107.out) hb); have n2_ := Aside0.mk (hbox); have n3_ := Aside0.mk ((by rw [hg]; exact (below_size (hb1_ HB.out GE107.out)) : w.heap.size ≤ gb108)); have n4_ := Aside0.mk ((by rw [hg]; exact (below_size (hb1_ HB.out GE107.out)) : w.heap.size ≤ gb108)); have n5_ := Aside0.mk ((by rw [hg]; exact Nat.ne_of_lt (blk_lt (g := gb107) (o := .cells #[.int .i64 0, .int .i64 0, .slice none 0 0, .slice none 0 0, .slice none 0 0, .slice none 0 0, .slice none 0 0, .bool false] 31 (0, 0)) (bk_ BK107.out)) : gb107 ≠ gb108)); have n6_ := Aside0.mk ((by rw [hg]; exact Nat.ne_of_gt (blk_lt (g := gb107) (o := .cells #[.int .i64 0, .int .i64 0, .slice none 0 0, .slice none 0 0, .slice none 0 0, .slice none 0 0, .slice none 0 0, .bool false] 31 (0, 0)) (bk_ BK107.out)) : gb108 ≠ gb107)); clear BK107 HB; revert n0_ n1_ n2_ n3_ n4_ n5_ n6_; intro BK107 HB BK108 GW108 GE108 NB107_108 NB108_107; clear hb hbox hg; have hnb4 := NB108_107.out; have hnc4 := NB107_108.out; obtain ⟨hcz5_0, hcz5_1, hcz5_2, hcz5_3, hcz5_4, hcz5_5, hcz5_6, hcz5_7, hfz5_0, hfz5_1, hfz5_2, hfz5_3, hfz5_4, hfz5_5, hfz5_6, hfz5_7⟩ := bx8_ BK108.out))
 go_loopg [13] k (fun kq v13 w' => ∃ (x13_1 : Int) (x108000_1 : Int) (x108001_1 : Int) (x108007_1 : Bool), v13 = .int .i64 x13_1 ∧ Aside0 (ref16_Lay.l0 kq l0 l0 (l0.length : Int) x13_1 0 1 false = some (r1, r2, r3, r4, r5, r6, r7, r8, r9)) ∧ Aside0 (kq ≤ k) ∧ Aside0 (w'.heap[gb107]? = some (.cells #[.int .i64 x108000_1, .int .i64 x108001_1, (.slice none 0 0), (.slice none 0 0), (.slice none 0 0), (.slice none 0 0), (.slice none 0 0), .bool x108007_1] 31 (0, 0))) ∧ Aside0 (w'.heap[gb108]? = some (.cells #[.int .i64 0, .int .i64 1, (.slice none 0 0), (.slice none 0 0), (.slice none 0 0), (.slice none 0 0), (.slice none 0 0), .bool false] 31 (0, 0))) ∧ Aside0 (Below w.heap.size w w'))
 case atStart => exact ⟨(0), (0), (0), (false), rf_, H', ⟨Nat.le_refl _⟩, ⟨(bf1_ BK107.out NB107_108.out)⟩, ⟨(p8_ BK108.out)⟩, ⟨(hb2_ HB.out GE107.out GE108.out)⟩⟩
 case round =>
  clear H'; try clear c2
  try clear p2
  try clear c4
  try clear hcz5_0
  try clear hcz5_1
  try clear hcz5_2
  try clear hcz5_3
  try clear hcz5_4
  try clear hcz5_5
  try clear hcz5_6
  try clear hcz5_7
  try clear hfz5_0
  try clear hfz5_1
  try clear hfz5_2
  try clear hfz5_3
  try clear hfz5_4
  try clear hfz5_5
  try clear hfz5_6
  try clear hfz5_7
  obtain ⟨x13_1, x108000_1, x108001_1, x108007_1, rfl, HA, HK1, BK107, BK108, HB⟩ := hrel; cases gk with
  | zero => exact absurd HA.out (by simp [ref16_Lay.l0])
  | succ k1 =>
   have H := HA.out; clear HA; simp only [ref16_Lay.l0] at H; by_cases c6 : x13_1 < (l0.length : Int)
   ·
    rw [if_pos c6] at H; have c6b0 : decide (x13_1 < (l0.length : Int)) = true := decide_eq_true c6; clear c6; by_cases c7 : 0 ≤ x13_1
    rotate_left
    ·
     rw [if_neg c7] at H; exact absurd H (by simp)
    rw [if_pos c7] at H; have c7b0 : decide (0 ≤ x13_1) = true := decide_eq_true c7; clear c7; by_cases c8 : x13_1 < (l0.length : Int)
    rotate_left
    ·
     rw [if_neg c8] at H; exact absurd H (by simp)
    rw [if_pos c8] at H; have c8b0 : decide (x13_1 < (l0.length : Int)) = true := decide_eq_true c8; clear c8; replace H := Option.bind_eq_some_iff.mp H; obtain ⟨t111, A90, H⟩ := H; (try dsimp only at H); have A9 := Aside0.mk A90; clear A90; by_cases c10 : t111 = true
    ·
     subst c10; have H1 : (ref16_Lay.l0 k1 l0 l0 (l0.length : Int) (wrap64 (x13_1 + 1)) 0 1 false) = some (r1, r2, r3, r4, r5, r6, r7, r8, r9) := by rw [if_pos rfl] at H; exact H
     clear H; have H := H1; clear H1; have H' := Aside0.mk H; clear H; have p109 : 0 ≤ (x13_1 : Int) := od_; have q109 : x13_1 < (l0.length : Int) := od_; obtain ⟨ad109, A109_2, c109_2, A109_3, c109_3, A109_4, c109_4, A109_5, c109_5, A109_6, c109_6, e109, hx109_0, hx109_1, hx109_2, hx109_3, hx109_4, hx109_5, hx109_6, hx109_7, hl109_2, hi109_2, hl109_3, hi109_3, hl109_4, hi109_4, hl109_5, hi109_5, hl109_6, hi109_6⟩ := at_T31 HR0.out x13_1 p109 q109; cases e109; replace hx109_0 := (HB.out.cell (World.block_lt_of_cell? w _ hx109_0)).trans hx109_0; replace hx109_1 := (HB.out.cell (World.block_lt_of_cell? w _ hx109_1)).trans hx109_1; replace hx109_2 := (HB.out.cell (World.block_lt_of_cell? w _ hx109_2)).trans hx109_2; replace hx109_3 := (HB.out.cell (World.block_lt_of_cell? w _ hx109_3)).trans hx109_3; replace hx109_4 := (HB.out.cell (World.block_lt_of_cell? w _ hx109_4)).trans hx109_4; replace hx109_5 := (HB.out.cell (World.block_lt_of_cell? w _ hx109_5)).trans hx109_5; replace hx109_6 := (HB.out.cell (World.block_lt_of_cell? w _ hx109_6)).trans hx109_6; replace hx109_7 := (HB.out.cell (World.block_lt_of_cell? w _ hx109_7)).trans hx109_7; have HR109_2 := Aside0.mk hi109_2; have HC109_2 := Aside0.mk hl109_2; clear hi109_2 hl109_2; have HR109_3 := Aside0.mk hi109_3; have HC109_3 := Aside0.mk hl109_3; clear hi109_3 hl109_3; have HR109_4 := Aside0.mk hi109_4; have HC109_4 := Aside0.mk hl109_4; clear hi109_4 hl109_4; have HR109_5 := Aside0.mk hi109_5; have HC109_5 := Aside0.mk hl109_5; clear hi109_5 hl109_5; have HR109_6 := Aside0.mk hi109_6; have HC109_6 := Aside0.mk hl109_6; clear hi109_6 hl109_6; replace p109 := eq_true p109; replace q109 := eq_true q109; go_wp2_with (first | ((with_reducible refine gate_dst (N := 6) rfl ?_); refine box_event ?hg (N := 6) ?hd (cs := #[.int .i64 0, .int .i64 0, .slice none 0 0, .slice none 0 0, .slice none 0 0, .slice none 0 0, .slice none 0 0, .bool false]) (t := 31) ?hr ?_; (case hd => rfl); (case hg => rfl); (case hr => first | (go_simp; done) | (go_simp; rfl)); intro gb110 hg w11 hbox hb; have n0_ := Aside0.mk (bb_ BK107.out hb); have n1_ := Aside0.mk (bb_ BK108.out hb); have n2_ := Aside0.mk (below_step (hb2_ HB.out GE107.out GE108.out) hb); have n3_ := Aside0.mk (hbox); have n4_ := Aside0.mk ((by rw [hg]; exact (below_size (hb2_ HB.out GE107.out GE108.out)) : w.heap.size ≤ gb110)); have n5_ := Aside0.mk ((by rw [hg]; exact (below_size (hb2_ HB.out GE107.out GE108.out)) : w.heap.size ≤ gb110)); have n6_ := Aside0.mk ((by rw [hg]; exact Nat.ne_of_lt (blk_lt (g := gb107) (o := .cells #[.int .i64 x108000_1, .int .i64 x108001_1, .slice none 0 0, .slice none 0 0, .slice none 0 0, .slice none 0 0, .slice none 0 0, .bool x108007_1] 31 (0, 0)) (bk_ BK107.out)) : gb107 ≠ gb110)); have n7_ := Aside0.mk ((by rw [hg]; exact Nat.ne_of_gt (blk_lt (g := gb107) (o := .cells #[.int .i64 x108000_1, .int .i64 x108001_1, .slice none 0 0, .slice none 0 0, .slice none 0 0, .slice none 0 0, .slice none 0 0, .bool x108007_1] 31 (0, 0)) (bk_ BK107.out)) : gb110 ≠ gb107)); have n8_ := Aside0.mk ((by rw [hg]; exact Nat.ne_of_lt (blk_lt (g := gb108) (o := .cells #[.int .i64 0, .int .i64 1, .slice none 0 0, .slice none 0 0, .slice none 0 0, .slice none 0 0, .slice none 0 0, .bool false] 31 (0, 0)) (bk_ BK108.out)) : gb108 ≠ gb110)); have n9_ := Aside0.mk ((by rw [hg]; exact Nat.ne_of_gt (blk_lt (g := gb108) (o := .cells #[.int .i64 0, .int .i64 1, .slice none 0 0, .slice none 0 0, .slice none 0 0, .slice none 0 0, .slice none 0 0, .bool false] 31 (0, 0)) (bk_ BK108.out)) : gb110 ≠ gb108)); clear BK107 BK108 HB; revert n0_ n1_ n2_ n3_ n4_ n5_ n6_ n7_ n8_ n9_; intro BK107 BK108 HB BK110 GW110 GE110 NB107_110 NB110_107 NB108_110 NB110_108; clear hb hbox hg; have hnb12 := NB110_107.out; have hnc12 := NB107_110.out; have hnb13 := NB110_108.out; have hnc13 := NB108_110.out; obtain ⟨hcz14_0, hcz14_1, hcz14_2, hcz14_3, hcz14_4, hcz14_5, hcz14_6, hcz14_7, hfz14_0, hfz14_1, hfz14_2, hfz14_3, hfz14_4, hfz14_5, hfz14_6, hfz14_7⟩ := bx8_ BK110.out) | ((with_reducible refine gate_callee (f := 27) rfl ?_); refine goesL_ (some 18) rfl rfl Try.func27 (by kernel_rfl) rfl #[.agg #[.int .i64 ((rd_T31 l0 x13_1).f0), .int .i64 ((rd_T31 l0 x13_1).f1), .slice A109_2 ((rd_T31 l0 x13_1).f2).length c109_2, .slice A109_3 ((rd_T31 l0 x13_1).f3).length c109_3, .slice A109_4 ((rd_T31 l0 x13_1).f4).length c109_4, .slice A109_5 ((rd_T31 l0 x13_1).f5).length c109_5, .slice A109_6 ((rd_T31 l0 x13_1).f6).length c109_6, .bool ((rd_T31 l0 x13_1).f7)]] rfl lm_ ?_; (with_reducible refine (ref15_Valid.calls ((rd_T31 l0 x13_1).f0) ((rd_T31 l0 x13_1).f1) _ _ ((rd_T31 l0 x13_1).f2) _ _ ((rd_T31 l0 x13_1).f3) _ _ ((rd_T31 l0 x13_1).f4) _ _ ((rd_T31 l0 x13_1).f5) _ _ ((rd_T31 l0 x13_1).f6) ((rd_T31 l0 x13_1).f7) true _ ?side1 ?side2 ?side3 ?side4 ?side5 ?side6 ?side7 ?side8 ?side9 ?side10 A9.out).mono ?_); (case side1 => exact Kd.C_below HR109_2.out (hb3_ HB.out GE107.out GE108.out GE110.out)); (case side2 => exact HC109_2.out); (case side3 => exact Kd.C_below HR109_3.out (hb3_ HB.out GE107.out GE108.out GE110.out)); (case side4 => exact HC109_3.out); (case side5 => exact Kd.C_below HR109_4.out (hb3_ HB.out GE107.out GE108.out GE110.out)); (case side6 => exact HC109_4.out); (case side7 => exact Kd.C_below HR109_5.out (hb3_ HB.out GE107.out GE108.out GE110.out)); (case side8 => exact HC109_5.out); (case side9 => exact Kd.C_below HR109_6.out (hb3_ HB.out GE107.out GE108.out GE110.out)); (case side10 => exact HC109_6.out); rintro e w15 ⟨rfl, hb⟩; refine ⟨_, rfl, ?_⟩; have n0_ := Aside0.mk (blk_below (g := gb107) (o := .cells #[.int .i64 x108000_1, .int .i64 x108001_1, .slice none 0 0, .slice none 0 0, .slice none 0 0, .slice none 0 0, .slice none 0 0, .bool x108007_1] 31 (0, 0)) (bf1_ BK107.out NB107_110.out) hb); have n1_ := Aside0.mk (blk_below (g := gb108) (o := .cells #[.int .i64 0, .int .i64 1, .slice none 0 0, .slice none 0 0, .slice none 0 0, .slice none 0 0, .slice none 0 0, .bool false] 31 (0, 0)) (bf1_ BK108.out NB108_110.out) hb); have n2_ := Aside0.mk (blk_below (g := gb110) (o := .cells #[.int .i64 ((rd_T31 l0 x13_1).f0), .int .i64 ((rd_T31 l0 x13_1).f1), .slice A109_2 ((rd_T31 l0 x13_1).f2).length c109_2, .slice A109_3 ((rd_T31 l0 x13_1).f3).length c109_3, .slice A109_4 ((rd_T31 l0 x13_1).f4).length c109_4, .slice A109_5 ((rd_T31 l0 x13_1).f5).length c109_5, .slice A109_6 ((rd_T31 l0 x13_1).f6).length c109_6, .bool ((rd_T31 l0 x13_1).f7)] 31 (0, 0)) ((p8_ BK110.out)) hb); have n3_ := Aside0.mk (below_step (hb3_ HB.out GE107.out GE108.out GE110.out) hb); clear BK107 BK108 BK110 HB; revert n0_ n1_ n2_ n3_; intro BK107 BK108 BK110 HB; (try clear hb); (try clear hb2); (try clear hk); (try clear hi)))
     go_roundg k1
     case measure => have := HK1.out; omega
     case rel => exact ⟨(wrap64 (x13_1 + 1)), (x108000_1), (x108001_1), (x108007_1), rf_, H', ⟨by have := HK1.out; omega⟩, ⟨(bk_ BK107.out)⟩, ⟨(bk_ BK108.out)⟩, ⟨(hb3_ HB.out GE107.out GE108.out GE110.out)⟩⟩
    ·
     replace c10 := Bool.eq_false_iff.mpr c10; subst c10; have H1 : (some (0, 0, ([] : List Int), ([] : List Int), ([] : List (S101)), ([] : List (S79)), ([] : List Int), false, 19)) = some (r1, r2, r3, r4, r5, r6, r7, r8, r9) := by rw [if_neg (show ¬ (false = true) by decide)] at H; exact H
     clear H; have H := H1; clear H1; simp only [Option.some.injEq, Prod.mk.injEq] at H; obtain ⟨rfl, rfl, rfl, rfl, rfl, rfl, rfl, rfl, rfl⟩ := H; have p109 : 0 ≤ (x13_1 : Int) := od_; have q109 : x13_1 < (l0.length : Int) := od_; obtain ⟨ad109, A109_2, c109_2, A109_3, c109_3, A109_4, c109_4, A109_5, c109_5, A109_6, c109_6, e109, hx109_0, hx109_1, hx109_2, hx109_3, hx109_4, hx109_5, hx109_6, hx109_7, hl109_2, hi109_2, hl109_3, hi109_3, hl109_4, hi109_4, hl109_5, hi109_5, hl109_6, hi109_6⟩ := at_T31 HR0.out x13_1 p109 q109; cases e109; replace hx109_0 := (HB.out.cell (World.block_lt_of_cell? w _ hx109_0)).trans hx109_0; replace hx109_1 := (HB.out.cell (World.block_lt_of_cell? w _ hx109_1)).trans hx109_1; replace hx109_2 := (HB.out.cell (World.block_lt_of_cell? w _ hx109_2)).trans hx109_2; replace hx109_3 := (HB.out.cell (World.block_lt_of_cell? w _ hx109_3)).trans hx109_3; replace hx109_4 := (HB.out.cell (World.block_lt_of_cell? w _ hx109_4)).trans hx109_4; replace hx109_5 := (HB.out.cell (World.block_lt_of_cell? w _ hx109_5)).trans hx109_5; replace hx109_6 := (HB.out.cell (World.block_lt_of_cell? w _ hx109_6)).trans hx109_6; replace hx109_7 := (HB.out.cell (World.block_lt_of_cell? w _ hx109_7)).trans hx109_7; have HR109_2 := Aside0.mk hi109_2; have HC109_2 := Aside0.mk hl109_2; clear hi109_2 hl109_2; have HR109_3 := Aside0.mk hi109_3; have HC109_3 := Aside0.mk hl109_3; clear hi109_3 hl109_3; have HR109_4 := Aside0.mk hi109_4; have HC109_4 := Aside0.mk hl109_4; clear hi109_4 hl109_4; have HR109_5 := Aside0.mk hi109_5; have HC109_5 := Aside0.mk hl109_5; clear hi109_5 hl109_5; have HR109_6 := Aside0.mk hi109_6; have HC109_6 := Aside0.mk hl109_6; clear hi109_6 hl109_6; replace p109 := eq_true p109; replace q109 := eq_true q109; go_wp2_with (first | ((with_reducible refine gate_dst (N := 6) rfl ?_); refine box_event ?hg (N := 6) ?hd (cs := #[.int .i64 0, .int .i64 0, .slice none 0 0, .slice none 0 0, .slice none 0 0, .slice none 0 0, .slice none 0 0, .bool false]) (t := 31) ?hr ?_; (case hd => rfl); (case hg => rfl); (case hr => first | (go_simp; done) | (go_simp; rfl)); intro gb110 hg w16 hbox hb; have n0_ := Aside0.mk (bb_ BK107.out hb); have n1_ := Aside0.mk (bb_ BK108.out hb); have n2_ := Aside0.mk (below_step (hb2_ HB.out GE107.out GE108.out) hb); have n3_ := Aside0.mk (hbox); have n4_ := Aside0.mk ((by rw [hg]; exact (below_size (hb2_ HB.out GE107.out GE108.out)) : w.heap.size ≤ gb110)); have n5_ := Aside0.mk ((by rw [hg]; exact (below_size (hb2_ HB.out GE107.out GE108.out)) : w.heap.size ≤ gb110)); have n6_ := Aside0.mk ((by rw [hg]; exact Nat.ne_of_lt (blk_lt (g := gb107) (o := .cells #[.int .i64 x108000_1, .int .i64 x108001_1, .slice none 0 0, .slice none 0 0, .slice none 0 0, .slice none 0 0, .slice none 0 0, .bool x108007_1] 31 (0, 0)) (bk_ BK107.out)) : gb107 ≠ gb110)); have n7_ := Aside0.mk ((by rw [hg]; exact Nat.ne_of_gt (blk_lt (g := gb107) (o := .cells #[.int .i64 x108000_1, .int .i64 x108001_1, .slice none 0 0, .slice none 0 0, .slice none 0 0, .slice none 0 0, .slice none 0 0, .bool x108007_1] 31 (0, 0)) (bk_ BK107.out)) : gb110 ≠ gb107)); have n8_ := Aside0.mk ((by rw [hg]; exact Nat.ne_of_lt (blk_lt (g := gb108) (o := .cells #[.int .i64 0, .int .i64 1, .slice none 0 0, .slice none 0 0, .slice none 0 0, .slice none 0 0, .slice none 0 0, .bool false] 31 (0, 0)) (bk_ BK108.out)) : gb108 ≠ gb110)); have n9_ := Aside0.mk ((by rw [hg]; exact Nat.ne_of_gt (blk_lt (g := gb108) (o := .cells #[.int .i64 0, .int .i64 1, .slice none 0 0, .slice none 0 0, .slice none 0 0, .slice none 0 0, .slice none 0 0, .bool false] 31 (0, 0)) (bk_ BK108.out)) : gb110 ≠ gb108)); clear BK107 BK108 HB; revert n0_ n1_ n2_ n3_ n4_ n5_ n6_ n7_ n8_ n9_; intro BK107 BK108 HB BK110 GW110 GE110 NB107_110 NB110_107 NB108_110 NB110_108; clear hb hbox hg; have hnb17 := NB110_107.out; have hnc17 := NB107_110.out; have hnb18 := NB110_108.out; have hnc18 := NB108_110.out; obtain ⟨hcz19_0, hcz19_1, hcz19_2, hcz19_3, hcz19_4, hcz19_5, hcz19_6, hcz19_7, hfz19_0, hfz19_1, hfz19_2, hfz19_3, hfz19_4, hfz19_5, hfz19_6, hfz19_7⟩ := bx8_ BK110.out) | ((with_reducible refine gate_callee (f := 27) rfl ?_); refine goesL_ (some 18) rfl rfl Try.func27 (by kernel_rfl) rfl #[.agg #[.int .i64 ((rd_T31 l0 x13_1).f0), .int .i64 ((rd_T31 l0 x13_1).f1), .slice A109_2 ((rd_T31 l0 x13_1).f2).length c109_2, .slice A109_3 ((rd_T31 l0 x13_1).f3).length c109_3, .slice A109_4 ((rd_T31 l0 x13_1).f4).length c109_4, .slice A109_5 ((rd_T31 l0 x13_1).f5).length c109_5, .slice A109_6 ((rd_T31 l0 x13_1).f6).length c109_6, .bool ((rd_T31 l0 x13_1).f7)]] rfl lm_ ?_; (with_reducible refine (ref15_Valid.calls ((rd_T31 l0 x13_1).f0) ((rd_T31 l0 x13_1).f1) _ _ ((rd_T31 l0 x13_1).f2) _ _ ((rd_T31 l0 x13_1).f3) _ _ ((rd_T31 l0 x13_1).f4) _ _ ((rd_T31 l0 x13_1).f5) _ _ ((rd_T31 l0 x13_1).f6) ((rd_T31 l0 x13_1).f7) false _ ?side1 ?side2 ?side3 ?side4 ?side5 ?side6 ?side7 ?side8 ?side9 ?side10 A9.out).mono ?_); (case side1 => exact Kd.C_below HR109_2.out (hb3_ HB.out GE107.out GE108.out GE110.out)); (case side2 => exact HC109_2.out); (case side3 => exact Kd.C_below HR109_3.out (hb3_ HB.out GE107.out GE108.out GE110.out)); (case side4 => exact HC109_3.out); (case side5 => exact Kd.C_below HR109_4.out (hb3_ HB.out GE107.out GE108.out GE110.out)); (case side6 => exact HC109_4.out); (case side7 => exact Kd.C_below HR109_5.out (hb3_ HB.out GE107.out GE108.out GE110.out)); (case side8 => exact HC109_5.out); (case side9 => exact Kd.C_below HR109_6.out (hb3_ HB.out GE107.out GE108.out GE110.out)); (case side10 => exact HC109_6.out); rintro e w20 ⟨rfl, hb⟩; refine ⟨_, rfl, ?_⟩; have n0_ := Aside0.mk (blk_below (g := gb107) (o := .cells #[.int .i64 x108000_1, .int .i64 x108001_1, .slice none 0 0, .slice none 0 0, .slice none 0 0, .slice none 0 0, .slice none 0 0, .bool x108007_1] 31 (0, 0)) (bf1_ BK107.out NB107_110.out) hb); have n1_ := Aside0.mk (blk_below (g := gb108) (o := .cells #[.int .i64 0, .int .i64 1, .slice none 0 0, .slice none 0 0, .slice none 0 0, .slice none 0 0, .slice none 0 0, .bool false] 31 (0, 0)) (bf1_ BK108.out NB108_110.out) hb); have n2_ := Aside0.mk (blk_below (g := gb110) (o := .cells #[.int .i64 ((rd_T31 l0 x13_1).f0), .int .i64 ((rd_T31 l0 x13_1).f1), .slice A109_2 ((rd_T31 l0 x13_1).f2).length c109_2, .slice A109_3 ((rd_T31 l0 x13_1).f3).length c109_3, .slice A109_4 ((rd_T31 l0 x13_1).f4).length c109_4, .slice A109_5 ((rd_T31 l0 x13_1).f5).length c109_5, .slice A109_6 ((rd_T31 l0 x13_1).f6).length c109_6, .bool ((rd_T31 l0 x13_1).f7)] 31 (0, 0)) ((p8_ BK110.out)) hb); have n3_ := Aside0.mk (below_step (hb3_ HB.out GE107.out GE108.out GE110.out) hb); clear BK107 BK108 BK110 HB; revert n0_ n1_ n2_ n3_; intro BK107 BK108 BK110 HB; (try clear hb); (try clear hb2); (try clear hk); (try clear hi); have hnb21 := NB107_108.out; have hnc21 := NB108_107.out; obtain ⟨hcz22_0, hcz22_1, hcz22_2, hcz22_3, hcz22_4, hcz22_5, hcz22_6, hcz22_7, hfz22_0, hfz22_1, hfz22_2, hfz22_3, hfz22_4, hfz22_5, hfz22_6, hfz22_7⟩ := bx8_ BK107.out))
     refine bodyPost_ret (results_ct rfl _ _ gb107 31 #[.int .i64 0, .int .i64 0, .slice none 0 0, .slice none 0 0, .slice none 0 0, .slice none 0 0, .slice none 0 0, .bool false] (0, 0) _ rfl ((p8_ BK107.out)) Try.underlying31 rfl (by kernel_rfl)) rfl ?_; exact ⟨_, _, _, _, _, by first | rfl | (simp [errW_none, errW_some] <;> rfl) | (simp [*, errW_none, errW_some] <;> rfl), by first | exact Kd.R_nil _ _ _ _ _ | exact Kd.N_nil _ _ _ _ _ | exact Kd.V_nil _ _ _ _ _ | exact Kd.Q_nil _ _ _ _ _ | exact Kd.S_nil _ _ _ _ _, by first | exact Kd.R_nil _ _ _ _ _ | exact Kd.N_nil _ _ _ _ _ | exact Kd.V_nil _ _ _ _ _ | exact Kd.Q_nil _ _ _ _ _ | exact Kd.S_nil _ _ _ _ _, by first | exact Kd.R_nil _ _ _ _ _ | exact Kd.N_nil _ _ _ _ _ | exact Kd.V_nil _ _ _ _ _ | exact Kd.Q_nil _ _ _ _ _ | exact Kd.S_nil _ _ _ _ _, by first | exact Kd.R_nil _ _ _ _ _ | exact Kd.N_nil _ _ _ _ _ | exact Kd.V_nil _ _ _ _ _ | exact Kd.Q_nil _ _ _ _ _ | exact Kd.S_nil _ _ _ _ _, by first | exact Kd.R_nil _ _ _ _ _ | exact Kd.N_nil _ _ _ _ _ | exact Kd.V_nil _ _ _ _ _ | exact Kd.Q_nil _ _ _ _ _ | exact Kd.S_nil _ _ _ _ _, (hb3_ HB.out GE107.out GE108.out GE110.out)⟩
   ·
    rw [if_neg c6] at H; have c6b0 : decide (x13_1 < (l0.length : Int)) = false := decide_eq_false c6; clear c6; have H' := Aside0.mk H; clear H; go_wp2
    go_loopg [24] k1 (fun kq v24 w' => ∃ (x24_2 : Int) (x108000_2 : Int) (x108001_2 : Int) (x108007_2 : Bool) (x109000_2 : Int) (x109001_2 : Int) (x109002_2 : List Int) (x109003_2 : List Int) (u109002 : Value) (u109003 : Value), v24 = .int .i64 x24_2 ∧ Aside0 (ref16_Lay.l1 kq l0 (l0.length : Int) x24_2 x109000_2 x109001_2 x109002_2 x109003_2 false = some (r1, r2, r3, r4, r5, r6, r7, r8, r9)) ∧ Aside0 (kq ≤ k1) ∧ Aside0 (Kd.R (Kd.int .u8) 5 w' w.heap.size (fun _ => True) u109002 x109002_2) ∧ Aside0 (Kd.R (Kd.int .i64) 3 w' w.heap.size (fun _ => True) u109003 x109003_2) ∧ Aside0 (w'.heap[gb107]? = some (.cells #[.int .i64 x108000_2, .int .i64 x108001_2, (.slice none 0 0), (.slice none 0 0), (.slice none 0 0), (.slice none 0 0), (.slice none 0 0), .bool x108007_2] 31 (0, 0))) ∧ Aside0 (w'.heap[gb108]? = some (.cells #[.int .i64 x109000_2, .int .i64 x109001_2, u109002, u109003, (.slice none 0 0), (.slice none 0 0), (.slice none 0 0), .bool false] 31 (0, 0))) ∧ Aside0 (Below w.heap.size w w'))
    case atStart => exact ⟨(0), (x108000_1), (x108001_1), (x108007_1), (0), (1), (([] : List Int)), (([] : List Int)), (.slice none 0 0), (.slice none 0 0), rf_, H', ⟨Nat.le_refl _⟩, ⟨by first | exact Kd.R_nil _ _ _ _ _ | exact Kd.N_nil _ _ _ _ _ | exact Kd.V_nil _ _ _ _ _ | exact Kd.Q_nil _ _ _ _ _ | exact Kd.S_nil _ _ _ _ _⟩, ⟨by first | exact Kd.R_nil _ _ _ _ _ | exact Kd.N_nil _ _ _ _ _ | exact Kd.V_nil _ _ _ _ _ | exact Kd.Q_nil _ _ _ _ _ | exact Kd.S_nil _ _ _ _ _⟩, ⟨(bk_ BK107.out)⟩, ⟨(bk_ BK108.out)⟩, ⟨(hb2_ HB.out GE107.out GE108.out)⟩⟩
    case round =>
     clear H'; try clear c1
     try clear p1
     try clear q1
     try clear hx1
     try clear c2
     try clear p2
     try clear c4
     try clear c6
     try clear c6b0
     try clear p6
     try clear c7
     try clear c7b0
     try clear c8
     try clear c8b0
     try clear c10
     try clear p10
     try clear q10
     try clear hx10
     try clear c12
     try clear c13
     try clear c17
     try clear c18
     try clear c21
     try clear hcz14_0
     try clear hcz14_1
     try clear hcz14_2
     try clear hcz14_3
     try clear hcz14_4
     try clear hcz14_5
     try clear hcz14_6
     try clear hcz14_7
     try clear hcz19_0
     try clear hcz19_1
     try clear hcz19_2
     try clear hcz19_3
     try clear hcz19_4
     try clear hcz19_5
     try clear hcz19_6
     try clear hcz19_7
     try clear hcz22_0
     try clear hcz22_1
     try clear hcz22_2
     try clear hcz22_3
     try clear hcz22_4
     try clear hcz22_5
     try clear hcz22_6
     try clear hcz22_7
     try clear hcz5_0
     try clear hcz5_1
     try clear hcz5_2
     try clear hcz5_3
     try clear hcz5_4
     try clear hcz5_5
     try clear hcz5_6
     try clear hcz5_7
     try clear hfz14_0
     try clear hfz14_1
     try clear hfz14_2
     try clear hfz14_3
     try clear hfz14_4
     try clear hfz14_5
     try clear hfz14_6
     try clear hfz14_7
     try clear hfz19_0
     try clear hfz19_1
     try clear hfz19_2
     try clear hfz19_3
     try clear hfz19_4
     try clear hfz19_5
     try clear hfz19_6
     try clear hfz19_7
     try clear hfz22_0
     try clear hfz22_1
     try clear hfz22_2
     try clear hfz22_3
     try clear hfz22_4
     try clear hfz22_5
     try clear hfz22_6
     try clear hfz22_7
     try clear hfz5_0
     try clear hfz5_1
     try clear hfz5_2
     try clear hfz5_3
     try clear hfz5_4
     try clear hfz5_5
     try clear hfz5_6
     try clear hfz5_7
     try clear hx109_0
     try clear hx109_1
     try clear hx109_2
     try clear hx109_3
     try clear hx109_4
     try clear hx109_5
     try clear hx109_6
     try clear hx109_7
     try clear p109
     try clear p2
     try clear q109
     obtain ⟨x24_2, x108000_2, x108001_2, x108007_2, x109000_2, x109001_2, x109002_2, x109003_2, u109002, u109003, rfl, HA, HK2, HO_109002, HO_109003, BK107, BK108, HB⟩ := hrel; cases gk with
     | zero => exact absurd HA.out (by simp [ref16_Lay.l1])
     | succ k2 =>
      have H := HA.out; clear HA; simp only [ref16_Lay.l1] at H; by_cases c23 : x24_2 < (l0.length : Int)
      ·
       rw [if_pos c23] at H; have c23b0 : decide (x24_2 < (l0.length : Int)) = true := decide_eq_true c23; clear c23; by_cases c24 : 0 ≤ x24_2
       rotate_left
       ·
        rw [if_neg c24] at H; exact absurd H (by simp)
       rw [if_pos c24] at H; have c24b0 : decide (0 ≤ x24_2) = true := decide_eq_true c24; clear c24; by_cases c25 : x24_2 < (l0.length : Int)
       rotate_left
       ·
        rw [if_neg c25] at H; exact absurd H (by simp)
       rw [if_pos c25] at H; have c25b0 : decide (x24_2 < (l0.length : Int)) = true := decide_eq_true c25; clear c25; replace H := Option.bind_eq_some_iff.mp H; obtain ⟨t114, A260, H⟩ := H; (try dsimp only at H); have A26 := Aside0.mk A260; clear A260; by_cases c27 : (wrap64 (t114 + ((rd_T31 l0 x24_2).f0))) > 1024
       ·
        rw [if_pos c27] at H; have c27b0 : decide (1024 < (wrap64 (t114 + ((rd_T31 l0 x24_2).f0)))) = true := decide_eq_true c27; clear c27; simp only [Option.some.injEq, Prod.mk.injEq] at H; obtain ⟨rfl, rfl, rfl, rfl, rfl, rfl, rfl, rfl, rfl⟩ := H; have p112 : 0 ≤ (x24_2 : Int) := od_; have q112 : x24_2 < (l0.length : Int) := od_; obtain ⟨ad112, A112_2, c112_2, A112_3, c112_3, A112_4, c112_4, A112_5, c112_5, A112_6, c112_6, e112, hx112_0, hx112_1, hx112_2, hx112_3, hx112_4, hx112_5, hx112_6, hx112_7, hl112_2, hi112_2, hl112_3, hi112_3, hl112_4, hi112_4, hl112_5, hi112_5, hl112_6, hi112_6⟩ := at_T31 HR0.out x24_2 p112 q112; cases e112; replace hx112_0 := (HB.out.cell (World.block_lt_of_cell? w _ hx112_0)).trans hx112_0; replace hx112_1 := (HB.out.cell (World.block_lt_of_cell? w _ hx112_1)).trans hx112_1; replace hx112_2 := (HB.out.cell (World.block_lt_of_cell? w _ hx112_2)).trans hx112_2; replace hx112_3 := (HB.out.cell (World.block_lt_of_cell? w _ hx112_3)).trans hx112_3; replace hx112_4 := (HB.out.cell (World.block_lt_of_cell? w _ hx112_4)).trans hx112_4; replace hx112_5 := (HB.out.cell (World.block_lt_of_cell? w _ hx112_5)).trans hx112_5; replace hx112_6 := (HB.out.cell (World.block_lt_of_cell? w _ hx112_6)).trans hx112_6; replace hx112_7 := (HB.out.cell (World.block_lt_of_cell? w _ hx112_7)).trans hx112_7; have HR112_2 := Aside0.mk hi112_2; have HC112_2 := Aside0.mk hl112_2; clear hi112_2 hl112_2; have HR112_3 := Aside0.mk hi112_3; have HC112_3 := Aside0.mk hl112_3; clear hi112_3 hl112_3; have HR112_4 := Aside0.mk hi112_4; have HC112_4 := Aside0.mk hl112_4; clear hi112_4 hl112_4; have HR112_5 := Aside0.mk hi112_5; have HC112_5 := Aside0.mk hl112_5; clear hi112_5 hl112_5; have HR112_6 := Aside0.mk hi112_6; have HC112_6 := Aside0.mk hl112_6; clear hi112_6 hl112_6; replace p112 := eq_true p112; replace q112 := eq_true q112; go_wp2_with (first | ((with_reducible refine gate_dst (N := 8) rfl ?_); refine box_event ?hg (N := 8) ?hd (cs := #[.int .i64 0, .int .i64 0, .slice none 0 0, .slice none 0 0, .slice none 0 0, .slice none 0 0, .slice none 0 0, .bool false]) (t := 31) ?hr ?_; (case hd => rfl); (case hg => rfl); (case hr => first | (go_simp; done) | (go_simp; rfl)); intro gb113 hg w28 hbox hb; have n0_ := Aside0.mk (Kd.R_below (kR_ HO_109002.out) hb); have n1_ := Aside0.mk (Kd.R_below (kR_ HO_109003.out) hb); have n2_ := Aside0.mk (bb_ BK107.out hb); have n3_ := Aside0.mk (bb_ BK108.out hb); have n4_ := Aside0.mk (below_step (hb2_ HB.out GE107.out GE108.out) hb); have n5_ := Aside0.mk (hbox); have n6_ := Aside0.mk ((by rw [hg]; exact (below_size (hb2_ HB.out GE107.out GE108.out)) : w.heap.size ≤ gb113)); have n7_ := Aside0.mk ((by rw [hg]; exact (below_size (hb2_ HB.out GE107.out GE108.out)) : w.heap.size ≤ gb113)); have n8_ := Aside0.mk ((by rw [hg]; exact Nat.ne_of_lt (blk_lt (g := gb107) (o := .cells #[.int .i64 x108000_2, .int .i64 x108001_2, .slice none 0 0, .slice none 0 0, .slice none 0 0, .slice none 0 0, .slice none 0 0, .bool x108007_2] 31 (0, 0)) (bk_ BK107.out)) : gb107 ≠ gb113)); have n9_ := Aside0.mk ((by rw [hg]; exact Nat.ne_of_gt (blk_lt (g := gb107) (o := .cells #[.int .i64 x108000_2, .int .i64 x108001_2, .slice none 0 0, .slice none 0 0, .slice none 0 0, .slice none 0 0, .slice none 0 0, .bool x108007_2] 31 (0, 0)) (bk_ BK107.out)) : gb113 ≠ gb107)); have n10_ := Aside0.mk ((by rw [hg]; exact Nat.ne_of_lt (blk_lt (g := gb108) (o := .cells #[.int .i64 x109000_2, .int .i64 x109001_2, u109002, u109003, .slice none 0 0, .slice none 0 0, .slice none 0 0, .bool false] 31 (0, 0)) (bk_ BK108.out)) : gb108 ≠ gb113)); have n11_ := Aside0.mk ((by rw [hg]; exact Nat.ne_of_gt (blk_lt (g := gb108) (o := .cells #[.int .i64 x109000_2, .int .i64 x109001_2, u109002, u109003, .slice none 0 0, .slice none 0 0, .slice none 0 0, .bool false] 31 (0, 0)) (bk_ BK108.out)) : gb113 ≠ gb108)); clear HO_109002 HO_109003 BK107 BK108 HB; revert n0_ n1_ n2_ n3_ n4_ n5_ n6_ n7_ n8_ n9_ n10_ n11_; intro HO_109002 HO_109003 BK107 BK108 HB BK113 GW113 GE113 NB107_113 NB113_107 NB108_113 NB113_108; clear hb hbox hg; have hnb29 := NB113_107.out; have hnc29 := NB107_113.out; have hnb30 := NB113_108.out; have hnc30 := NB108_113.out; obtain ⟨hcz31_0, hcz31_1, hcz31_2, hcz31_3, hcz31_4, hcz31_5, hcz31_6, hcz31_7, hfz31_0, hfz31_1, hfz31_2, hfz31_3, hfz31_4, hfz31_5, hfz31_6, hfz31_7⟩ := bx8_ BK113.out; have hnb32 := NB108_107.out; have hnc32 := NB107_108.out; obtain ⟨hcz33_0, hcz33_1, hcz33_2, hcz33_3, hcz33_4, hcz33_5, hcz33_6, hcz33_7, hfz33_0, hfz33_1, hfz33_2, hfz33_3, hfz33_4, hfz33_5, hfz33_6, hfz33_7⟩ := bx8_ BK108.out) | ((with_reducible refine gate_callee (f := 31) rfl ?_); refine goesL_ (some 32) rfl rfl Try.func31 (by kernel_rfl) rfl #[.int .i64 x109000_2, .int .i64 ((rd_T31 l0 x24_2).f1)] rfl lm_ ?_; (with_reducible refine (ref16_Align.calls x109000_2 ((rd_T31 l0 x24_2).f1) t114 _ A26.out).mono ?_); rintro e w' ⟨rfl, ⟨nd, rfl⟩⟩; refine ⟨_, rfl, ?_⟩; obtain ⟨hcz34_0, hcz34_1, hcz34_2, hcz34_3, hcz34_4, hcz34_5, hcz34_6, hcz34_7, hfz34_0, hfz34_1, hfz34_2, hfz34_3, hfz34_4, hfz34_5, hfz34_6, hfz34_7⟩ := bx8_ BK107.out))
        refine bodyPost_ret (results_ct rfl _ _ gb107 31 #[.int .i64 0, .int .i64 0, .slice none 0 0, .slice none 0 0, .slice none 0 0, .slice none 0 0, .slice none 0 0, .bool false] (0, 0) _ rfl ((p81_ BK107.out NB107_113.out)) Try.underlying31 rfl (by kernel_rfl)) rfl ?_; exact ⟨_, _, _, _, _, by first | rfl | (simp [errW_none, errW_some] <;> rfl) | (simp [*, errW_none, errW_some] <;> rfl), by first | exact Kd.R_nil _ _ _ _ _ | exact Kd.N_nil _ _ _ _ _ | exact Kd.V_nil _ _ _ _ _ | exact Kd.Q_nil _ _ _ _ _ | exact Kd.S_nil _ _ _ _ _, by first | exact Kd.R_nil _ _ _ _ _ | exact Kd.N_nil _ _ _ _ _ | exact Kd.V_nil _ _ _ _ _ | exact Kd.Q_nil _ _ _ _ _ | exact Kd.S_nil _ _ _ _ _, by first | exact Kd.R_nil _ _ _ _ _ | exact Kd.N_nil _ _ _ _ _ | exact Kd.V_nil _ _ _ _ _ | exact Kd.Q_nil _ _ _ _ _ | exact Kd.S_nil _ _ _ _ _, by first | exact Kd.R_nil _ _ _ _ _ | exact Kd.N_nil _ _ _ _ _ | exact Kd.V_nil _ _ _ _ _ | exact Kd.Q_nil _ _ _ _ _ | exact Kd.S_nil _ _ _ _ _, by first | exact Kd.R_nil _ _ _ _ _ | exact Kd.N_nil _ _ _ _ _ | exact Kd.V_nil _ _ _ _ _ | exact Kd.Q_nil _ _ _ _ _ | exact Kd.S_nil _ _ _ _ _, (hb3_ HB.out GE107.out GE108.out GE113.out)⟩
       ·
        rw [if_neg c27] at H; have c27b0 : decide (1024 < (wrap64 (t114 + ((rd_T31 l0 x24_2).f0)))) = false := decide_eq_false c27; clear c27; by_cases c35 : x109003_2.length < 17592186044416
        rotate_left
        ·
         rw [if_neg c35] at H; exact absurd H (by simp)
        rw [if_pos c35] at H; have LMc35 := Aside0.mk c35; clear c35; obtain ⟨y115, hy115⟩ : ∃ y_ : List Int, y_ = (x109003_2 ++ [t114]) := ⟨_, rfl⟩; replace H : (ref16_Lay.l2 k2 t114 l0 (l0.length : Int) x24_2 x109000_2 x109001_2 x109002_2 y115 false ((rd_T31 l0 x24_2).f0) ((rd_T31 l0 x24_2).f1) ((rd_T31 l0 x24_2).f2) ((rd_T31 l0 x24_2).f3) ((rd_T31 l0 x24_2).f4) ((rd_T31 l0 x24_2).f5) ((rd_T31 l0 x24_2).f6) ((rd_T31 l0 x24_2).f7)) = some (r1, r2, r3, r4, r5, r6, r7, r8, r9) := by first | (rw [hy115]; with_reducible exact H) | (have H2_ := (Option.bind_some _ _).symm.trans H; rw [hy115]; with_reducible exact H2_) | (have H2_ := (Option.bind_some _ _).symm.trans H; with_reducible exact H2_) | with_reducible exact H | (rw [hy115]; exact H) | exact H
        have Ny115 := Aside0.mk hy115; clear hy115; have H' := Aside0.mk H; clear H; have p112 : 0 ≤ (x24_2 : Int) := od_; have q112 : x24_2 < (l0.length : Int) := od_; obtain ⟨ad112, A112_2, c112_2, A112_3, c112_3, A112_4, c112_4, A112_5, c112_5, A112_6, c112_6, e112, hx112_0, hx112_1, hx112_2, hx112_3, hx112_4, hx112_5, hx112_6, hx112_7, hl112_2, hi112_2, hl112_3, hi112_3, hl112_4, hi112_4, hl112_5, hi112_5, hl112_6, hi112_6⟩ := at_T31 HR0.out x24_2 p112 q112; cases e112; replace hx112_0 := (HB.out.cell (World.block_lt_of_cell? w _ hx112_0)).trans hx112_0; replace hx112_1 := (HB.out.cell (World.block_lt_of_cell? w _ hx112_1)).trans hx112_1; replace hx112_2 := (HB.out.cell (World.block_lt_of_cell? w _ hx112_2)).trans hx112_2; replace hx112_3 := (HB.out.cell (World.block_lt_of_cell? w _ hx112_3)).trans hx112_3; replace hx112_4 := (HB.out.cell (World.block_lt_of_cell? w _ hx112_4)).trans hx112_4; replace hx112_5 := (HB.out.cell (World.block_lt_of_cell? w _ hx112_5)).trans hx112_5; replace hx112_6 := (HB.out.cell (World.block_lt_of_cell? w _ hx112_6)).trans hx112_6; replace hx112_7 := (HB.out.cell (World.block_lt_of_cell? w _ hx112_7)).trans hx112_7; have HR112_2 := Aside0.mk hi112_2; have HC112_2 := Aside0.mk hl112_2; clear hi112_2 hl112_2; have HR112_3 := Aside0.mk hi112_3; have HC112_3 := Aside0.mk hl112_3; clear hi112_3 hl112_3; have HR112_4 := Aside0.mk hi112_4; have HC112_4 := Aside0.mk hl112_4; clear hi112_4 hl112_4; have HR112_5 := Aside0.mk hi112_5; have HC112_5 := Aside0.mk hl112_5; clear hi112_5 hl112_5; have HR112_6 := Aside0.mk hi112_6; have HC112_6 := Aside0.mk hl112_6; clear hi112_6 hl112_6; replace p112 := eq_true p112; replace q112 := eq_true q112; go_wp2_with (first | ((with_reducible refine gate_dst (N := 8) rfl ?_); refine box_event ?hg (N := 8) ?hd (cs := #[.int .i64 0, .int .i64 0, .slice none 0 0, .slice none 0 0, .slice none 0 0, .slice none 0 0, .slice none 0 0, .bool false]) (t := 31) ?hr ?_; (case hd => rfl); (case hg => rfl); (case hr => first | (go_simp; done) | (go_simp; rfl)); intro gb113 hg w36 hbox hb; have n0_ := Aside0.mk (Kd.R_below (kR_ HO_109002.out) hb); have n1_ := Aside0.mk (Kd.R_below (kR_ HO_109003.out) hb); have n2_ := Aside0.mk (bb_ BK107.out hb); have n3_ := Aside0.mk (bb_ BK108.out hb); have n4_ := Aside0.mk (below_step (hb2_ HB.out GE107.out GE108.out) hb); have n5_ := Aside0.mk (hbox); have n6_ := Aside0.mk ((by rw [hg]; exact (below_size (hb2_ HB.out GE107.out GE108.out)) : w.heap.size ≤ gb113)); have n7_ := Aside0.mk ((by rw [hg]; exact (below_size (hb2_ HB.out GE107.out GE108.out)) : w.heap.size ≤ gb113)); have n8_ := Aside0.mk ((by rw [hg]; exact Nat.ne_of_lt (blk_lt (g := gb107) (o := .cells #[.int .i64 x108000_2, .int .i64 x108001_2, .slice none 0 0, .slice none 0 0, .slice none 0 0, .slice none 0 0, .slice none 0 0, .bool x108007_2] 31 (0, 0)) (bk_ BK107.out)) : gb107 ≠ gb113)); have n9_ := Aside0.mk ((by rw [hg]; exact Nat.ne_of_gt (blk_lt (g := gb107) (o := .cells #[.int .i64 x108000_2, .int .i64 x108001_2, .slice none 0 0, .slice none 0 0, .slice none 0 0, .slice none 0 0, .slice none 0 0, .bool x108007_2] 31 (0, 0)) (bk_ BK107.out)) : gb113 ≠ gb107)); have n10_ := Aside0.mk ((by rw [hg]; exact Nat.ne_of_lt (blk_lt (g := gb108) (o := .cells #[.int .i64 x109000_2, .int .i64 x109001_2, u109002, u109003, .slice none 0 0, .slice none 0 0, .slice none 0 0, .bool false] 31 (0, 0)) (bk_ BK108.out)) : gb108 ≠ gb113)); have n11_ := Aside0.mk ((by rw [hg]; exact Nat.ne_of_gt (blk_lt (g := gb108) (o := .cells #[.int .i64 x109000_2, .int .i64 x109001_2, u109002, u109003, .slice none 0 0, .slice none 0 0, .slice none 0 0, .bool false] 31 (0, 0)) (bk_ BK108.out)) : gb113 ≠ gb108)); clear HO_109002 HO_109003 BK107 BK108 HB; revert n0_ n1_ n2_ n3_ n4_ n5_ n6_ n7_ n8_ n9_ n10_ n11_; intro HO_109002 HO_109003 BK107 BK108 HB BK113 GW113 GE113 NB107_113 NB113_107 NB108_113 NB113_108; clear hb hbox hg; have hnb37 := NB113_107.out; have hnc37 := NB107_113.out; have hnb38 := NB113_108.out; have hnc38 := NB108_113.out; obtain ⟨hcz39_0, hcz39_1, hcz39_2, hcz39_3, hcz39_4, hcz39_5, hcz39_6, hcz39_7, hfz39_0, hfz39_1, hfz39_2, hfz39_3, hfz39_4, hfz39_5, hfz39_6, hfz39_7⟩ := bx8_ BK113.out; have hnb40 := NB108_107.out; have hnc40 := NB107_108.out; obtain ⟨hcz41_0, hcz41_1, hcz41_2, hcz41_3, hcz41_4, hcz41_5, hcz41_6, hcz41_7, hfz41_0, hfz41_1, hfz41_2, hfz41_3, hfz41_4, hfz41_5, hfz41_6, hfz41_7⟩ := bx8_ BK108.out) | ((with_reducible refine gate_callee (f := 31) rfl ?_); refine goesL_ (some 32) rfl rfl Try.func31 (by kernel_rfl) rfl #[.int .i64 x109000_2, .int .i64 ((rd_T31 l0 x24_2).f1)] rfl lm_ ?_; (with_reducible refine (ref16_Align.calls x109000_2 ((rd_T31 l0 x24_2).f1) t114 _ A26.out).mono ?_); rintro e w' ⟨rfl, ⟨nd, rfl⟩⟩; refine ⟨_, rfl, ?_⟩) | ((with_reducible refine gate_builtin (b := .append) (xs := #[.tmp 40, .tmp 42]) rfl ?_); at_builtin; refine Kd.R_append (Kd.int .i64) (w0 := w) w.heap.size rfl (.tmp 40) (.tmp 42) 23 3 (.int .i64 0) 8 rfl Try.underlying23 info3 rfl (by decide) (by omega) u109003 x109003_2 t114 [.int .i64 t114] (fun _ => True) (fun _ => False) rfl (by first | (go_simp; done) | (go_simp; rfl)) ?aP (fun _ hk => hk.elim) ?aF ?aO ?aB ?aS ?aL ?_; (case aP => exact rfl); (case aB => exact (hb3_ HB.out GE107.out GE108.out GE113.out)); (case aF => exact (fun _ _ => trivial)); (case aO => exact (by (with_reducible repeat (first | apply Kd.R_alloc | apply Kd.R_drewN | apply Kd.R_drew)); exact Kd.R_mono (far8R_ (Kd.R_types HO_109003.out BK113.out (by decide)) _ _ _ _ _ _ _ _ fun _ hk => hk.2) (fun _ hk => trivial))); (case aS => exact (below_size (hb3_ HB.out GE107.out GE108.out GE113.out))); (case aL => have := LMc35.out; omega); intro v116 w42 ho hb hg hat; rw [← Ny115.out] at ho; have n0_ := Aside0.mk (Kd.R_over' (by (with_reducible repeat (first | apply Kd.R_alloc | apply Kd.R_drewN | apply Kd.R_drew)); exact (Kd.R_mono (far8R_ (Kd.R_types HO_109002.out BK113.out (by decide)) _ _ _ _ _ _ _ _ fun _ hk => hk.2) (fun _ h_ => h_.1))) (Kd.R_typed (by (with_reducible repeat (first | apply Kd.R_alloc | apply Kd.R_drewN | apply Kd.R_drew)); exact (Kd.R_mono (far8R_ (Kd.R_types HO_109003.out BK113.out (by decide)) _ _ _ _ _ _ _ _ fun _ hk => hk.2) (fun _ h_ => h_.1)))) (by decide) hg); have n1_ := Aside0.mk (blk_grown (g := gb107) (o := .cells #[.int .i64 x108000_2, .int .i64 x108001_2, .slice none 0 0, .slice none 0 0, .slice none 0 0, .slice none 0 0, .slice none 0 0, .bool x108007_2] 31 (0, 0)) (bf1_ BK107.out NB107_113.out) hg (Kd.R_ne HO_109003.out BK107.out (by decide))); have n2_ := Aside0.mk (blk_grown (g := gb108) (o := .cells #[.int .i64 x109000_2, .int .i64 x109001_2, u109002, u109003, .slice none 0 0, .slice none 0 0, .slice none 0 0, .bool false] 31 (0, 0)) (bf1_ BK108.out NB108_113.out) hg (Kd.R_ne HO_109003.out BK108.out (by decide))); have n3_ := Aside0.mk (blk_grown (g := gb113) (o := .cells #[.int .i64 ((rd_T31 l0 x24_2).f0), .int .i64 ((rd_T31 l0 x24_2).f1), .slice A112_2 ((rd_T31 l0 x24_2).f2).length c112_2, .slice A112_3 ((rd_T31 l0 x24_2).f3).length c112_3, .slice A112_4 ((rd_T31 l0 x24_2).f4).length c112_4, .slice A112_5 ((rd_T31 l0 x24_2).f5).length c112_5, .slice A112_6 ((rd_T31 l0 x24_2).f6).length c112_6, .bool ((rd_T31 l0 x24_2).f7)] 31 (0, 0)) ((p8_ BK113.out)) hg (Kd.R_ne HO_109003.out BK113.out (by decide))); have n4_ := Aside0.mk (hb); have n5_ := Aside0.mk (ho); clear HO_109002 BK107 BK108 BK113 HB HO_109003; revert n0_ n1_ n2_ n3_ n4_ n5_; intro HO_109002 BK107 BK108 BK113 HB HO117; clear ho hb hg hat; obtain ⟨Ao43, co43, eo43⟩ := Kd.R_slice HO117.out; subst eo43; obtain ⟨hcz44_0, hcz44_1, hcz44_2, hcz44_3, hcz44_4, hcz44_5, hcz44_6, hcz44_7, hfz44_0, hfz44_1, hfz44_2, hfz44_3, hfz44_4, hfz44_5, hfz44_6, hfz44_7⟩ := bx8_ BK108.out))
        go_loopg [] k2 (fun kq w' => ∃ (x109002_3 : List Int) (u109002 : Value), Aside0 (ref16_Lay.l2 kq t114 l0 (l0.length : Int) x24_2 x109000_2 x109001_2 x109002_3 y115 false ((rd_T31 l0 x24_2).f0) ((rd_T31 l0 x24_2).f1) ((rd_T31 l0 x24_2).f2) ((rd_T31 l0 x24_2).f3) ((rd_T31 l0 x24_2).f4) ((rd_T31 l0 x24_2).f5) ((rd_T31 l0 x24_2).f6) ((rd_T31 l0 x24_2).f7) = some (r1, r2, r3, r4, r5, r6, r7, r8, r9)) ∧ Aside0 (kq ≤ k2) ∧ Aside0 (Kd.R (Kd.int .u8) 5 w' w.heap.size (fun _ => True) u109002 x109002_3) ∧ Aside0 (Kd.R (Kd.int .i64) 3 w' w.heap.size (fun _ => True) (.slice Ao43 y115.length co43) y115) ∧ Aside0 (w'.heap[gb107]? = some (.cells #[.int .i64 x108000_2, .int .i64 x108001_2, (.slice none 0 0), (.slice none 0 0), (.slice none 0 0), (.slice none 0 0), (.slice none 0 0), .bool x108007_2] 31 (0, 0))) ∧ Aside0 (w'.heap[gb108]? = some (.cells #[.int .i64 x109000_2, .int .i64 x109001_2, u109002, (.slice Ao43 y115.length co43), (.slice none 0 0), (.slice none 0 0), (.slice none 0 0), .bool false] 31 (0, 0))) ∧ Aside0 (w'.heap[gb113]? = some (.cells #[.int .i64 ((rd_T31 l0 x24_2).f0), .int .i64 ((rd_T31 l0 x24_2).f1), (.slice A112_2 ((rd_T31 l0 x24_2).f2).length c112_2), (.slice A112_3 ((rd_T31 l0 x24_2).f3).length c112_3), (.slice A112_4 ((rd_T31 l0 x24_2).f4).length c112_4), (.slice A112_5 ((rd_T31 l0 x24_2).f5).length c112_5), (.slice A112_6 ((rd_T31 l0 x24_2).f6).length c112_6), .bool ((rd_T31 l0 x24_2).f7)] 31 (0, 0))) ∧ Aside0 (Below w.heap.size w w'))
        case atStart => exact ⟨(x109002_2), (u109002), H', ⟨Nat.le_refl _⟩, ⟨by (with_reducible repeat (first | apply Kd.R_alloc | apply Kd.R_drewN | apply Kd.R_drew)); exact Kd.R_mono (Kd.R_far (p := ⟨gb108, 3, none⟩) (Kd.R_types HO_109002.out BK108.out (by decide)) (fun _ hk => hk.2) (.slice Ao43 y115.length co43)) (fun _ hk => trivial)⟩, ⟨by (with_reducible repeat (first | apply Kd.R_alloc | apply Kd.R_drewN | apply Kd.R_drew)); exact Kd.R_mono (Kd.R_far (p := ⟨gb108, 3, none⟩) (Kd.R_types HO117.out BK108.out (by decide)) (fun _ hk => hk.2) (.slice Ao43 y115.length co43)) (fun _ hk => trivial)⟩, ⟨(bf1_ BK107.out NB107_108.out)⟩, ⟨by (with_reducible repeat (first | refine blk_drewN ?_ _ | refine blk_drew ?_ | refine blk_alloc ?_ _)); refine blk_put (cs := #[.int .i64 x109000_2, .int .i64 x109001_2, u109002, u109003, .slice none 0 0, .slice none 0 0, .slice none 0 0, .bool false]) ?_ 3 _ rfl; (with_reducible repeat (first | refine blk_drewN ?_ _ | refine blk_drew ?_ | refine blk_alloc ?_ _)); exact BK108.out⟩, ⟨(bf1_ BK113.out NB113_108.out)⟩, ⟨(hb3_ HB.out GE107.out GE108.out GE113.out)⟩⟩
        case round =>
         clear H'; try clear c1
         try clear p1
         try clear q1
         try clear hx1
         try clear c2
         try clear p2
         try clear c3
         try clear c4
         try clear c6
         try clear c6b0
         try clear p6
         try clear c7
         try clear c7b0
         try clear c8
         try clear c8b0
         try clear c10
         try clear p10
         try clear q10
         try clear hx10
         try clear c11
         try clear p11
         try clear q11
         try clear hx11
         try clear c12
         try clear c13
         try clear c17
         try clear c18
         try clear c21
         try clear c23
         try clear c23b0
         try clear c24
         try clear c24b0
         try clear c25
         try clear c25b0
         try clear c27
         try clear c27b0
         try clear c29
         try clear c30
         try clear c31
         try clear c32
         try clear c35
         try clear c37
         try clear c38
         try clear c40
         try clear hcz14_0
         try clear hcz14_1
         try clear hcz14_2
         try clear hcz14_3
         try clear hcz14_4
         try clear hcz14_5
         try clear hcz14_6
         try clear hcz14_7
         try clear hcz19_0
         try clear hcz19_1
         try clear hcz19_2
         try clear hcz19_3
         try clear hcz19_4
         try clear hcz19_5
         try clear hcz19_6
         try clear hcz19_7
         try clear hcz22_0
         try clear hcz22_1
         try clear hcz22_2
         try clear hcz22_3
         try clear hcz22_4
         try clear hcz22_5
         try clear hcz22_6
         try clear hcz22_7
         try clear hcz31_0
         try clear hcz31_1
         try clear hcz31_2
         try clear hcz31_3
         try clear hcz31_4
         try clear hcz31_5
         try clear hcz31_6
         try clear hcz31_7
         try clear hcz33_0
         try clear hcz33_1
         try clear hcz33_2
         try clear hcz33_3
         try clear hcz33_4
         try clear hcz33_5
         try clear hcz33_6
         try clear hcz33_7
         try clear hcz34_0
         try clear hcz34_1
         try clear hcz34_2
         try clear hcz34_3
         try clear hcz34_4
         try clear hcz34_5
         try clear hcz34_6
         try clear hcz34_7
         try clear hcz39_0
         try clear hcz39_1
         try clear hcz39_2
         try clear hcz39_3
         try clear hcz39_4
         try clear hcz39_5
         try clear hcz39_6
         try clear hcz39_7
         try clear hcz41_0
         try clear hcz41_1
         try clear hcz41_2
         try clear hcz41_3
         try clear hcz41_4
         try clear hcz41_5
         try clear hcz41_6
         try clear hcz41_7
         try clear hcz44_0
         try clear hcz44_1
         try clear hcz44_2
         try clear hcz44_3
         try clear hcz44_4
         try clear hcz44_5
         try clear hcz44_6
         try clear hcz44_7
         try clear hcz5_0
         try clear hcz5_1
         try clear hcz5_2
         try clear hcz5_3
         try clear hcz5_4
         try clear hcz5_5
         try clear hcz5_6
         try clear hcz5_7
         try clear hfz14_0
         try clear hfz14_1
         try clear hfz14_2
         try clear hfz14_3
         try clear hfz14_4
         try clear hfz14_5
         try clear hfz14_6
         try clear hfz14_7
         try clear hfz19_0
         try clear hfz19_1
         try clear hfz19_2
         try clear hfz19_3
         try clear hfz19_4
         try clear hfz19_5
         try clear hfz19_6
         try clear hfz19_7
         try clear hfz22_0
         try clear hfz22_1
         try clear hfz22_2
         try clear hfz22_3
         try clear hfz22_4
         try clear hfz22_5
         try clear hfz22_6
         try clear hfz22_7
         try clear hfz31_0
         try clear hfz31_1
         try clear hfz31_2
         try clear hfz31_3
         try clear hfz31_4
         try clear hfz31_5
         try clear hfz31_6
         try clear hfz31_7
         try clear hfz33_0
         try clear hfz33_1
         try clear hfz33_2
         try clear hfz33_3
         try clear hfz33_4
         try clear hfz33_5
         try clear hfz33_6
         try clear hfz33_7
         try clear hfz34_0
         try clear hfz34_1
         try clear hfz34_2
         try clear hfz34_3
         try clear hfz34_4
         try clear hfz34_5
         try clear hfz34_6
         try clear hfz34_7
         try clear hfz39_0
         try clear hfz39_1
         try clear hfz39_2
         try clear hfz39_3
         try clear hfz39_4
         try clear hfz39_5
         try clear hfz39_6
         try clear hfz39_7
         try clear hfz41_0
         try clear hfz41_1
         try clear hfz41_2
         try clear hfz41_3
         try clear hfz41_4
         try clear hfz41_5
         try clear hfz41_6
         try clear hfz41_7
         try clear hfz44_0
         try clear hfz44_1
         try clear hfz44_2
         try clear hfz44_3
         try clear hfz44_4
         try clear hfz44_5
         try clear hfz44_6
         try clear hfz44_7
         try clear hfz5_0
         try clear hfz5_1
         try clear hfz5_2
         try clear hfz5_3
         try clear hfz5_4
         try clear hfz5_5
         try clear hfz5_6
         try clear hfz5_7
         try clear hx109_0
         try clear hx109_1
         try clear hx109_2
         try clear hx109_3
         try clear hx109_4
         try clear hx109_5
         try clear hx109_6
         try clear hx109_7
         try clear hx112_0
         try clear hx112_1
         try clear hx112_2
         try clear hx112_3
         try clear hx112_4
         try clear hx112_5
         try clear hx112_6
         try clear hx112_7
         try clear p1
         try clear p10
         try clear p109
         try clear p112
         try clear p2
         try clear p6
         try clear q1
         try clear q10
         try clear q109
         try clear q112
         obtain ⟨x109002_3, u109002, HA, HK3, HO_109002, HO_109003, BK107, BK108, BK113, HB⟩ := hrel; cases gk with
         | zero => exact absurd HA.out (by simp [ref16_Lay.l2])
         | succ k3 =>
          have H := HA.out; clear HA; simp only [ref16_Lay.l2] at H; by_cases c45 : (x109002_3.length : Int) < t114
          ·
           rw [if_pos c45] at H; have c45b0 : decide ((x109002_3.length : Int) < t114) = true := decide_eq_true c45; clear c45; by_cases c46 : x109002_3.length < 140737488355328
           rotate_left
           ·
            rw [if_neg c46] at H; exact absurd H (by simp)
           rw [if_pos c46] at H; have LMc46 := Aside0.mk c46; clear c46; obtain ⟨y118, hy118⟩ : ∃ y_ : List Int, y_ = (x109002_3 ++ [0]) := ⟨_, rfl⟩; replace H : (ref16_Lay.l2 k3 t114 l0 (l0.length : Int) x24_2 x109000_2 x109001_2 y118 y115 false ((rd_T31 l0 x24_2).f0) ((rd_T31 l0 x24_2).f1) ((rd_T31 l0 x24_2).f2) ((rd_T31 l0 x24_2).f3) ((rd_T31 l0 x24_2).f4) ((rd_T31 l0 x24_2).f5) ((rd_T31 l0 x24_2).f6) ((rd_T31 l0 x24_2).f7)) = some (r1, r2, r3, r4, r5, r6, r7, r8, r9) := by first | (rw [hy118]; with_reducible exact H) | (have H2_ := (Option.bind_some _ _).symm.trans H; rw [hy118]; with_reducible exact H2_) | (have H2_ := (Option.bind_some _ _).symm.trans H; with_reducible exact H2_) | with_reducible exact H | (rw [hy118]; exact H) | exact H
           have Ny118 := Aside0.mk hy118; clear hy118; have H' := Aside0.mk H; clear H; have hnb47 := NB108_107.out; have hnc47 := NB107_108.out; have hnb48 := NB108_113.out; have hnc48 := NB113_108.out; obtain ⟨hcz49_0, hcz49_1, hcz49_2, hcz49_3, hcz49_4, hcz49_5, hcz49_6, hcz49_7, hfz49_0, hfz49_1, hfz49_2, hfz49_3, hfz49_4, hfz49_5, hfz49_6, hfz49_7⟩ := bx8_ BK108.out; obtain ⟨Ao50, co50, eo50⟩ := Kd.R_slice HO_109002.out; subst eo50; go_wp2_with (first | ((with_reducible refine gate_builtin (b := .append) (xs := #[.tmp 51, .tmp 52]) rfl ?_); at_builtin; refine Kd.R_append (Kd.int .u8) (w0 := w) w.heap.size rfl (.tmp 51) (.tmp 52) 27 5 (.int .u8 0) 1 rfl Try.underlying27 info5 rfl (by decide) (by omega) (.slice Ao50 x109002_3.length co50) x109002_3 0 [.int .u8 0] (fun _ => True) (fun _ => False) rfl rfl ?aP (fun _ hk => hk.elim) ?aF ?aO ?aB ?aS ?aL ?_; (case aP => exact rfl); (case aB => exact (hb3_ HB.out GE107.out GE108.out GE113.out)); (case aF => exact (fun _ _ => trivial)); (case aO => exact (kR_ HO_109002.out)); (case aS => exact (below_size (hb3_ HB.out GE107.out GE108.out GE113.out))); (case aL => have := LMc46.out; omega); intro v119 w51 ho hb hg hat; rw [← Ny118.out] at ho; have n0_ := Aside0.mk (Kd.R_over' (kR_ HO_109003.out) (Kd.R_typed (kR_ HO_109002.out)) (by decide) hg); have n1_ := Aside0.mk (blk_grown (g := gb107) (o := .cells #[.int .i64 x108000_2, .int .i64 x108001_2, .slice none 0 0, .slice none 0 0, .slice none 0 0, .slice none 0 0, .slice none 0 0, .bool x108007_2] 31 (0, 0)) (bk_ BK107.out) hg (Kd.R_ne HO_109002.out BK107.out (by decide))); have n2_ := Aside0.mk (blk_grown (g := gb108) (o := .cells #[.int .i64 x109000_2, .int .i64 x109001_2, .slice Ao50 x109002_3.length co50, .slice Ao43 y115.length co43, .slice none 0 0, .slice none 0 0, .slice none 0 0, .bool false] 31 (0, 0)) (bk_ BK108.out) hg (Kd.R_ne HO_109002.out BK108.out (by decide))); have n3_ := Aside0.mk (blk_grown (g := gb113) (o := .cells #[.int .i64 ((rd_T31 l0 x24_2).f0), .int .i64 ((rd_T31 l0 x24_2).f1), .slice A112_2 ((rd_T31 l0 x24_2).f2).length c112_2, .slice A112_3 ((rd_T31 l0 x24_2).f3).length c112_3, .slice A112_4 ((rd_T31 l0 x24_2).f4).length c112_4, .slice A112_5 ((rd_T31 l0 x24_2).f5).length c112_5, .slice A112_6 ((rd_T31 l0 x24_2).f6).length c112_6, .bool ((rd_T31 l0 x24_2).f7)] 31 (0, 0)) (bk_ BK113.out) hg (Kd.R_ne HO_109002.out BK113.out (by decide))); have n4_ := Aside0.mk (hb); have n5_ := Aside0.mk (ho); clear HO_109003 BK107 BK108 BK113 HB HO_109002; revert n0_ n1_ n2_ n3_ n4_ n5_; intro HO_109003 BK107 BK108 BK113 HB HO120; clear ho hb hg hat; obtain ⟨Ao52, co52, eo52⟩ := Kd.R_slice HO120.out; subst eo52; obtain ⟨hcz53_0, hcz53_1, hcz53_2, hcz53_3, hcz53_4, hcz53_5, hcz53_6, hcz53_7, hfz53_0, hfz53_1, hfz53_2, hfz53_3, hfz53_4, hfz53_5, hfz53_6, hfz53_7⟩ := bx8_ BK108.out))
           go_roundg k3
           case measure => have := HK1.out; have := HK2.out; have := HK3.out; omega
           case rel => exact ⟨(y118), (.slice Ao52 y118.length co52), H', ⟨by have := HK1.out; have := HK2.out; have := HK3.out; omega⟩, ⟨by (with_reducible repeat (first | apply Kd.R_alloc | apply Kd.R_drewN | apply Kd.R_drew)); exact Kd.R_mono (Kd.R_far (p := ⟨gb108, 2, none⟩) (Kd.R_types HO120.out BK108.out (by decide)) (fun _ hk => hk.2) (.slice Ao52 y118.length co52)) (fun _ hk => trivial)⟩, ⟨by (with_reducible repeat (first | apply Kd.R_alloc | apply Kd.R_drewN | apply Kd.R_drew)); exact Kd.R_mono (Kd.R_far (p := ⟨gb108, 2, none⟩) (Kd.R_types HO_109003.out BK108.out (by decide)) (fun _ hk => hk.2) (.slice Ao52 y118.length co52)) (fun _ hk => trivial)⟩, ⟨(bf1_ BK107.out NB107_108.out)⟩, ⟨by (with_reducible repeat (first | refine blk_drewN ?_ _ | refine blk_drew ?_ | refine blk_alloc ?_ _)); refine blk_put (cs := #[.int .i64 x109000_2, .int .i64 x109001_2, .slice Ao50 x109002_3.length co50, .slice Ao43 y115.length co43, .slice none 0 0, .slice none 0 0, .slice none 0 0, .bool false]) ?_ 2 _ rfl; (with_reducible repeat (first | refine blk_drewN ?_ _ | refine blk_drew ?_ | refine blk_alloc ?_ _)); exact BK108.out⟩, ⟨(bf1_ BK113.out NB113_108.out)⟩, ⟨(hb3_ HB.out GE107.out GE108.out GE113.out)⟩⟩
          ·
           rw [if_neg c45] at H; have c45b0 : decide ((x109002_3.length : Int) < t114) = false := decide_eq_false c45; clear c45; by_cases c54 : x109002_3.length + ((rd_T31 l0 x24_2).f2).length < 140737488355328
           rotate_left
           ·
            rw [if_neg c54] at H; exact absurd H (by simp)
           rw [if_pos c54] at H; have LMc54 := Aside0.mk c54; clear c54; obtain ⟨y121, hy121⟩ : ∃ y_ : List Int, y_ = (x109002_3 ++ ((rd_T31 l0 x24_2).f2)) := ⟨_, rfl⟩; replace H : (ref16_Lay.l1 k3 l0 (l0.length : Int) (wrap64 (x24_2 + 1)) (wrap64 (t114 + ((rd_T31 l0 x24_2).f0))) (mx x109001_2 ((rd_T31 l0 x24_2).f1)) y121 y115 false) = some (r1, r2, r3, r4, r5, r6, r7, r8, r9) := by first | (rw [hy121]; with_reducible exact H) | (have H2_ := (Option.bind_some _ _).symm.trans H; rw [hy121]; with_reducible exact H2_) | (have H2_ := (Option.bind_some _ _).symm.trans H; with_reducible exact H2_) | with_reducible exact H | (rw [hy121]; exact H) | exact H
           have Ny121 := Aside0.mk hy121; clear hy121; obtain ⟨ji55, hji55⟩ : ∃ j_ : Int, (mx x109001_2 ((rd_T31 l0 x24_2).f1)) = j_ := ⟨_, rfl⟩; replace H : (ref16_Lay.l1 k3 l0 (l0.length : Int) (wrap64 (x24_2 + 1)) (wrap64 (t114 + ((rd_T31 l0 x24_2).f0))) ji55 y121 y115 false) = some (r1, r2, r3, r4, r5, r6, r7, r8, r9) := by first | (rw [hji55] at H; exact H) | (simp only [hji55] at H ⊢; exact H)
           have hji55_ : (if x109001_2 < ((rd_T31 l0 x24_2).f1) then ((rd_T31 l0 x24_2).f1) else x109001_2) = ji55 := hji55; have H' := Aside0.mk H; clear H; have hnb56 := NB108_107.out; have hnc56 := NB107_108.out; have hnb57 := NB108_113.out; have hnc57 := NB113_108.out; obtain ⟨hcz58_0, hcz58_1, hcz58_2, hcz58_3, hcz58_4, hcz58_5, hcz58_6, hcz58_7, hfz58_0, hfz58_1, hfz58_2, hfz58_3, hfz58_4, hfz58_5, hfz58_6, hfz58_7⟩ := bx8_ BK108.out; obtain ⟨Ao59, co59, eo59⟩ := Kd.R_slice HO_109002.out; subst eo59; have hnb60 := NB113_107.out; have hnc60 := NB107_113.out; obtain ⟨hcz61_0, hcz61_1, hcz61_2, hcz61_3, hcz61_4, hcz61_5, hcz61_6, hcz61_7, hfz61_0, hfz61_1, hfz61_2, hfz61_3, hfz61_4, hfz61_5, hfz61_6, hfz61_7⟩ := bx8_ BK113.out; try go_wp2_with (first | ((with_reducible refine gate_builtin (b := .append) (xs := #[.tmp 56, .tmp 58]) rfl ?_); at_builtin; refine Kd.R_append_rows (Kd.int .u8) (w0 := w) w.heap.size rfl (.tmp 56) (.tmp 58) 27 5 (.int .u8 0) 1 rfl Try.underlying27 info5 rfl (by decide) (by omega) (.slice Ao59 x109002_3.length co59) x109002_3 ((rd_T31 l0 x24_2).f2) _ _ _ (fun _ => True) (fun _ => False) rfl rfl ?aO ?aR (fun _ _ h => h) (fun _ h => h.elim) ?aF ?aB ?aS ?aL ?_; (case aR => repeat (first | exact (Kd.C_below HR112_2.out HB.out) | (with_reducible refine Kd.C_alloc ?_ _) | (with_reducible refine Kd.C_drewN ?_ _) | (with_reducible refine Kd.C_drew ?_))); (case aB => exact (hb3_ HB.out GE107.out GE108.out GE113.out)); (case aF => exact (fun _ _ => trivial)); (case aO => exact (kR_ HO_109002.out)); (case aS => exact (below_size (hb3_ HB.out GE107.out GE108.out GE113.out))); (case aL => have := LMc54.out; omega); intro v122 w62 ho hb hg hat; rw [← Ny121.out] at ho; have n0_ := Aside0.mk (Kd.R_over' (kR_ HO_109003.out) (Kd.R_typed (kR_ HO_109002.out)) (by decide) hg); have n1_ := Aside0.mk (blk_grown (g := gb107) (o := .cells #[.int .i64 x108000_2, .int .i64 x108001_2, .slice none 0 0, .slice none 0 0, .slice none 0 0, .slice none 0 0, .slice none 0 0, .bool x108007_2] 31 (0, 0)) (bk_ BK107.out) hg (Kd.R_ne HO_109002.out BK107.out (by decide))); have n2_ := Aside0.mk (blk_grown (g := gb108) (o := .cells #[.int .i64 x109000_2, .int .i64 x109001_2, .slice Ao59 x109002_3.length co59, .slice Ao43 y115.length co43, .slice none 0 0, .slice none 0 0, .slice none 0 0, .bool false] 31 (0, 0)) (bk_ BK108.out) hg (Kd.R_ne HO_109002.out BK108.out (by decide))); have n3_ := Aside0.mk (blk_grown (g := gb113) (o := .cells #[.int .i64 ((rd_T31 l0 x24_2).f0), .int .i64 ((rd_T31 l0 x24_2).f1), .slice A112_2 ((rd_T31 l0 x24_2).f2).length c112_2, .slice A112_3 ((rd_T31 l0 x24_2).f3).length c112_3, .slice A112_4 ((rd_T31 l0 x24_2).f4).length c112_4, .slice A112_5 ((rd_T31 l0 x24_2).f5).length c112_5, .slice A112_6 ((rd_T31 l0 x24_2).f6).length c112_6, .bool ((rd_T31 l0 x24_2).f7)] 31 (0, 0)) (bk_ BK113.out) hg (Kd.R_ne HO_109002.out BK113.out (by decide))); have n4_ := Aside0.mk (hb); have n5_ := Aside0.mk (ho); clear HO_109003 BK107 BK108 BK113 HB HO_109002; revert n0_ n1_ n2_ n3_ n4_ n5_; intro HO_109003 BK107 BK108 BK113 HB HO123; clear ho hb hg hat; obtain ⟨Ao63, co63, eo63⟩ := Kd.R_slice HO123.out; subst eo63; obtain ⟨hcz64_0, hcz64_1, hcz64_2, hcz64_3, hcz64_4, hcz64_5, hcz64_6, hcz64_7, hfz64_0, hfz64_1, hfz64_2, hfz64_3, hfz64_4, hfz64_5, hfz64_6, hfz64_7⟩ := bx8_ BK108.out))
           have n0_ : Aside0 (Kd.R (Kd.int .i64) 3 (w62.setCell ⟨gb108, 2, none⟩ (.slice Ao63 y121.length co63)) w.heap.size (fun _ => True) (.slice Ao43 y115.length co43) y115) := ⟨by (with_reducible repeat (first | apply Kd.R_alloc | apply Kd.R_drewN | apply Kd.R_drew)); exact Kd.R_mono (Kd.R_far (p := ⟨gb108, 2, none⟩) (Kd.R_types HO_109003.out BK108.out (by decide)) (fun _ hk => hk.2) (.slice Ao63 y121.length co63)) (fun _ hk => trivial)⟩; have n1_ : Aside0 (Kd.R (Kd.int .u8) 5 (w62.setCell ⟨gb108, 2, none⟩ (.slice Ao63 y121.length co63)) w.heap.size (fun _ => True) (.slice Ao63 y121.length co63) y121) := ⟨by (with_reducible repeat (first | apply Kd.R_alloc | apply Kd.R_drewN | apply Kd.R_drew)); exact Kd.R_mono (Kd.R_far (p := ⟨gb108, 2, none⟩) (Kd.R_types HO123.out BK108.out (by decide)) (fun _ hk => hk.2) (.slice Ao63 y121.length co63)) (fun _ hk => trivial)⟩; have n2_ : Aside0 ((w62.setCell ⟨gb108, 2, none⟩ (.slice Ao63 y121.length co63)).heap[gb107]? = some (.cells #[.int .i64 x108000_2, .int .i64 x108001_2, .slice none 0 0, .slice none 0 0, .slice none 0 0, .slice none 0 0, .slice none 0 0, .bool x108007_2] 31 (0, 0))) := ⟨(bf1_ BK107.out NB107_108.out)⟩; have n3_ : Aside0 ((w62.setCell ⟨gb108, 2, none⟩ (.slice Ao63 y121.length co63)).heap[gb108]? = some (.cells #[.int .i64 x109000_2, .int .i64 x109001_2, .slice Ao63 y121.length co63, .slice Ao43 y115.length co43, .slice none 0 0, .slice none 0 0, .slice none 0 0, .bool false] 31 (0, 0))) := ⟨by (with_reducible repeat (first | refine blk_drewN ?_ _ | refine blk_drew ?_ | refine blk_alloc ?_ _)); refine blk_put (cs := #[.int .i64 x109000_2, .int .i64 x109001_2, .slice Ao59 x109002_3.length co59, .slice Ao43 y115.length co43, .slice none 0 0, .slice none 0 0, .slice none 0 0, .bool false]) ?_ 2 _ rfl; (with_reducible repeat (first | refine blk_drewN ?_ _ | refine blk_drew ?_ | refine blk_alloc ?_ _)); exact BK108.out⟩; have n4_ : Aside0 ((w62.setCell ⟨gb108, 2, none⟩ (.slice Ao63 y121.length co63)).heap[gb113]? = some (.cells #[.int .i64 ((rd_T31 l0 x24_2).f0), .int .i64 ((rd_T31 l0 x24_2).f1), .slice A112_2 ((rd_T31 l0 x24_2).f2).length c112_2, .slice A112_3 ((rd_T31 l0 x24_2).f3).length c112_3, .slice A112_4 ((rd_T31 l0 x24_2).f4).length c112_4, .slice A112_5 ((rd_T31 l0 x24_2).f5).length c112_5, .slice A112_6 ((rd_T31 l0 x24_2).f6).length c112_6, .bool ((rd_T31 l0 x24_2).f7)] 31 (0, 0))) := ⟨(bf1_ BK113.out NB113_108.out)⟩; have n5_ : Aside0 (Below w.heap.size w (w62.setCell ⟨gb108, 2, none⟩ (.slice Ao63 y121.length co63))) := ⟨(hb3_ HB.out GE107.out GE108.out GE113.out)⟩; (try clear HO_109003)
           (try clear HO123)
           (try clear BK107)
           (try clear BK108)
           (try clear BK113)
           (try clear HB)
           generalize (w62.setCell ⟨gb108, 2, none⟩ (.slice Ao63 y121.length co63)) = w65 at n0_ n1_ n2_ n3_ n4_ n5_ ⊢; revert n0_ n1_ n2_ n3_ n4_ n5_; intro HO_109003 HO123 BK107 BK108 BK113 HB; have n0_ := Aside0.mk (Kd.R_drew HO_109003.out); have n1_ := Aside0.mk (Kd.R_drew HO123.out); have n2_ := Aside0.mk (blk_drew BK107.out); have n3_ := Aside0.mk (blk_drew BK108.out); have n4_ := Aside0.mk (blk_drew BK113.out); have n5_ := Aside0.mk (below_drew1 HB.out); clear HO_109003; clear HO123; clear BK107; clear BK108; clear BK113; clear HB; revert n0_ n1_ n2_ n3_ n4_ n5_; intro HO_109003 HO123 BK107 BK108 BK113 HB; refine start_ (n := 13) (S := fun w' => w'.cell? ⟨gb113, 0, none⟩ = some (.int .i64 ((rd_T31 l0 x24_2).f0)) ∧ w'.cell? ⟨gb113, 1, none⟩ = some (.int .i64 ((rd_T31 l0 x24_2).f1)) ∧ w'.cell? ⟨gb108, 1, none⟩ = some (.int .i64 x109001_2)) (ds := [12]) (mk_ 0 13) (by kernel_rfl) rfl rfl ⟨(blk_cell BK113.out 0).trans rfl, (blk_cell BK113.out 1).trans rfl, (blk_cell BK108.out 1).trans rfl⟩ (fun hHeld => ?_); refine with_tabW ref16_Lay.tab18 ref16_Lay.bits18 (fun HT_ HW_ => ?_); generalize w65.drew = w66 at HO_109003 HO123 BK107 BK108 BK113 HB hHeld ⊢; refine pu_ 0 (some 61) (mk_ 1 13) HT_ ?_; refine pu_ 1 (some 62) (mk_ 2 13) HT_ ?_; refine pu_ 4 (some 65) (bm_ 13 19) HT_ ?_; refine pu_ 6 (some 67) (bm_ 13 83) HT_ ?_; refine take_ (i := 2) (N := some 63) (v := ?_) (a' := ?_) (bm_ 13 87) rfl rfl (take_ofW HT_.out HW_.out (by kernel_rfl)) (fun _ _ _ h => h) (Or.inl ⟨by rfl, ?_⟩) hHeld ?_ ?_; rotate_left
           ·
            rintro w' ⟨s0, s1, s2⟩; go_simp
            with_reducible rfl
           rotate_left
           ·
            simp only [Act.put, setIfInBounds_toArray, set_cons_zero, set_cons_succ, i64_w, i32_w]; rfl
           refine pu_ 3 (some 64) (bm_ 13 95) HT_ ?_; refine take_ (i := 5) (N := some 66) (v := ?_) (a' := ?_) (mk_ 7 13) rfl rfl (take_ofW HT_.out HW_.out (by kernel_rfl)) (fun _ _ _ h => h) (Or.inl ⟨by rfl, ?_⟩) hHeld ?_ ?_; rotate_left
           ·
            rintro w' ⟨s0, s1, s2⟩; go_simp
            with_reducible rfl
           rotate_left
           ·
            simp only [Act.put, setIfInBounds_toArray, set_cons_zero, set_cons_succ, i64_w, i32_w]; rfl
           refine pu_ 9 (some 70) (bm_ 13 639) HT_ ?_; refine take_ (i := 7) (N := some 68) (v := ?_) (a' := ?_) (bm_ 13 767) rfl rfl (take_ofW HT_.out HW_.out (by kernel_rfl)) (fun _ _ _ h => h) (Or.inl ⟨by rfl, ?_⟩) hHeld ?_ ?_; rotate_left
           ·
            rintro w' ⟨s0, s1, s2⟩; go_simp
            with_reducible rfl
           rotate_left
           ·
            simp only [Act.put, setIfInBounds_toArray, set_cons_zero, set_cons_succ, i64_w, i32_w]; rfl
           refine pu_ 8 (some 69) (mk_ 10 13) HT_ ?_; refine one_ (i := 10) (N := none) (mk_ 11 13) rfl rfl (one_of HT_.out (by kernel_rfl)) (by decide) (fun K hK => ?_); have hs67 : w66.cell? ⟨gb108, 0, none⟩ = some (.int .i64 x109000_2) := (blk_cell BK108.out 0).trans rfl; have hfs67 := blk_frozen BK108.out 0; have hns67_0 := NB107_108.out; have hns67_2 := NB113_108.out; have hms67_0 := NB108_107.out; have hms67_2 := NB108_113.out; refine skip_ (w1 := ?_) (by rfl) rfl ?_ ?_; rotate_left
           ·
            go_simp
            rfl
           refine hK.out _ _ ⟨((cell_far (p := ⟨gb108, _, none⟩) NB113_108.out _).trans (hHeld.1)), ((cell_far (p := ⟨gb108, _, none⟩) NB113_108.out _).trans (hHeld.2.1)), ((World.cell?_setCell_other _ ⟨gb108, 0, none⟩ ⟨gb108, 1, none⟩ _ (by simp)).trans (hHeld.2.2))⟩ (fun hHeld => ?_); clear hK K; refine pu_ 11 (some 71) (mk_ 12 13) HT_ ?_; refine last_ (i := 12) (N := none) (mk_ 13 13) rfl rfl (one_of HT_.out (by kernel_rfl)) (by decide) (fun K hK => ?_); have hs68 : w66.cell? ⟨gb108, 1, none⟩ = some (.int .i64 x109001_2) := (blk_cell BK108.out 1).trans rfl; have hfs68 := blk_frozen BK108.out 1; have hns68_0 := NB107_108.out; have hns68_2 := NB113_108.out; have hms68_0 := NB108_107.out; have hms68_2 := NB108_113.out; refine skip_ (w1 := ?_) (by rfl) rfl ?_ ?_; rotate_left
           ·
            go_simp
            rfl
           refine hK.out _ _ ?_; clear hK K; refine done_ (done_of HT_.out (by kernel_rfl)) ?_; try go_wp2
           go_roundg k3
           case measure => have := HK1.out; have := HK2.out; have := HK3.out; omega
           case rel => exact ⟨(wrap64 (x24_2 + 1)), (x108000_2), (x108001_2), (x108007_2), (wrap64 (t114 + ((rd_T31 l0 x24_2).f0))), (ji55), (y121), (y115), (.slice Ao63 y121.length co63), (.slice Ao43 y115.length co43), rf_, H', ⟨by have := HK1.out; have := HK2.out; have := HK3.out; omega⟩, ⟨by (with_reducible repeat (first | apply Kd.R_alloc | apply Kd.R_drewN | apply Kd.R_drew)); exact Kd.R_mono (Kd.R_far (p := ⟨gb108, 1, none⟩) (Kd.R_far (p := ⟨gb108, 0, none⟩) (Kd.R_types HO123.out BK108.out (by decide)) (fun _ hk => hk.2) (.int .i64 (wrap64 (t114 + ((rd_T31 l0 x24_2).f0))))) (fun _ hk => hk.2) (.int .i64 ji55)) (fun _ hk => trivial)⟩, ⟨by (with_reducible repeat (first | apply Kd.R_alloc | apply Kd.R_drewN | apply Kd.R_drew)); exact Kd.R_mono (Kd.R_far (p := ⟨gb108, 1, none⟩) (Kd.R_far (p := ⟨gb108, 0, none⟩) (Kd.R_types HO_109003.out BK108.out (by decide)) (fun _ hk => hk.2) (.int .i64 (wrap64 (t114 + ((rd_T31 l0 x24_2).f0))))) (fun _ hk => hk.2) (.int .i64 ji55)) (fun _ hk => trivial)⟩, ⟨(bf1_ BK107.out NB107_108.out)⟩, ⟨by (with_reducible repeat (first | refine blk_drewN ?_ _ | refine blk_drew ?_ | refine blk_alloc ?_ _)); refine blk_put (cs := #[.int .i64 (wrap64 (t114 + ((rd_T31 l0 x24_2).f0))), .int .i64 x109001_2, .slice Ao63 y121.length co63, .slice Ao43 y115.length co43, .slice none 0 0, .slice none 0 0, .slice none 0 0, .bool false]) ?_ 1 _ rfl; (with_reducible repeat (first | refine blk_drewN ?_ _ | refine blk_drew ?_ | refine blk_alloc ?_ _)); refine blk_put (cs := #[.int .i64 x109000_2, .int .i64 x109001_2, .slice Ao63 y121.length co63, .slice Ao43 y115.length co43, .slice none 0 0, .slice none 0 0, .slice none 0 0, .bool false]) ?_ 0 _ rfl; (with_reducible repeat (first | refine blk_drewN ?_ _ | refine blk_drew ?_ | refine blk_alloc ?_ _)); exact BK108.out⟩, ⟨(hb3_ HB.out GE107.out GE108.out GE113.out)⟩⟩
      ·
       rw [if_neg c23] at H; have c23b0 : decide (x24_2 < (l0.length : Int)) = false := decide_eq_false c23; clear c23; simp only [Option.some.injEq, Prod.mk.injEq] at H; obtain ⟨rfl, rfl, rfl, rfl, rfl, rfl, rfl, rfl, rfl⟩ := H; have hnb69 := NB108_107.out; have hnc69 := NB107_108.out; obtain ⟨hcz70_0, hcz70_1, hcz70_2, hcz70_3, hcz70_4, hcz70_5, hcz70_6, hcz70_7, hfz70_0, hfz70_1, hfz70_2, hfz70_3, hfz70_4, hfz70_5, hfz70_6, hfz70_7⟩ := bx8_ BK108.out; obtain ⟨hcz71_0, hcz71_1, hcz71_2, hcz71_3, hcz71_4, hcz71_5, hcz71_6, hcz71_7, hfz71_0, hfz71_1, hfz71_2, hfz71_3, hfz71_4, hfz71_5, hfz71_6, hfz71_7⟩ := bx8_ BK107.out; obtain ⟨Ao72, co72, eo72⟩ := Kd.R_slice HO_109002.out; subst eo72; obtain ⟨Ao73, co73, eo73⟩ := Kd.R_slice HO_109003.out; subst eo73; go_wp2
       refine bodyPost_ret (results_ct rfl _ _ gb107 31 #[.int .i64 x109000_2, .int .i64 x109001_2, .slice Ao72 x109002_2.length co72, .slice Ao73 x109003_2.length co73, .slice none 0 0, .slice none 0 0, .slice none 0 0, .bool false] (0, 0) _ rfl ((p8_ BK107.out)) Try.underlying31 rfl (by kernel_rfl)) rfl ?_; exact ⟨_, _, _, _, _, by first | rfl | (simp [errW_none, errW_some] <;> rfl) | (simp [*, errW_none, errW_some] <;> rfl), by (with_reducible repeat (first | apply Kd.R_alloc | apply Kd.R_drewN | apply Kd.R_drew)); exact Kd.R_mono (far8R_ (Kd.R_types HO_109002.out BK107.out (by decide)) _ _ _ _ _ _ _ _ fun _ hk => hk.2) (fun _ hk => trivial), by (with_reducible repeat (first | apply Kd.R_alloc | apply Kd.R_drewN | apply Kd.R_drew)); exact Kd.R_mono (far8R_ (Kd.R_types HO_109003.out BK107.out (by decide)) _ _ _ _ _ _ _ _ fun _ hk => hk.2) (fun _ hk => (by simp [Value.ownBlock])), by first | exact Kd.R_nil _ _ _ _ _ | exact Kd.N_nil _ _ _ _ _ | exact Kd.V_nil _ _ _ _ _ | exact Kd.Q_nil _ _ _ _ _ | exact Kd.S_nil _ _ _ _ _, by first | exact Kd.R_nil _ _ _ _ _ | exact Kd.N_nil _ _ _ _ _ | exact Kd.V_nil _ _ _ _ _ | exact Kd.Q_nil _ _ _ _ _ | exact Kd.S_nil _ _ _ _ _, by first | exact Kd.R_nil _ _ _ _ _ | exact Kd.N_nil _ _ _ _ _ | exact Kd.V_nil _ _ _ _ _ | exact Kd.Q_nil _ _ _ _ _ | exact Kd.S_nil _ _ _ _ _, (hb2_ HB.out GE107.out GE108.out)⟩

/-! ### made_Dice_Bytes: function 33 -/
def made_Dice_Bytes.l0 : Nat → List Int → Int → List Int → Int → Option (List Int × Int)
 | 0, _, _, _, _ => none
 | k + 1, x5, x6, x1000, x1001 => if x6 > 0 then ((made_Dice_Next.f x1000 x1001 256).bind fun bt126 => (if x5.length < 140737488355328 then (made_Dice_Bytes.l0 k (x5 ++ [(bt126.1) % 256]) (wrap64 (x6 - 1)) x1000 bt126.2) else (none))) else (some (x5, x1001))
def made_Dice_Bytes.f (k : Nat) (s0_0 : List Int) (s0_1 : Int) (a1 : Int) : Option (List Int × Int) := (made_Dice_Next.f s0_0 s0_1 (wrap64 (a1 + 1))).bind fun bt124 => (made_Dice_Bytes.l0 k ([] : List Int) bt124.1 s0_0 bt124.2)
theorem made_Dice_Bytes.mono_l : ∀ k, (∀ y0 y1 y2 y3, LeO (made_Dice_Bytes.l0 k y0 y1 y2 y3) (made_Dice_Bytes.l0 (k + 1) y0 y1 y2 y3))
 | 0 => fun _ _ _ _ r h => by simp [made_Dice_Bytes.l0] at h
 | k + 1 => by
  have ih0 := made_Dice_Bytes.mono_l k
  ·
   intro y0 y1 y2 y3; unfold made_Dice_Bytes.l0
   repeat' first
   | (with_reducible exact ih0 _ _ _ _)
   | (with_reducible exact LeO.refl _)
   | (with_reducible exact LeO.none _)
   | (with_reducible refine LeO.ite ?_ ?_)
   | (with_reducible refine LeO.bind ?_ (fun _ => ?_))
   | exact ih0 _ _ _ _
   | exact LeO.none _
   | refine LeO.ite ?_ ?_
   | refine LeO.bind ?_ (fun _ => ?_)
theorem made_Dice_Bytes.mono : ∀ a0 a1 a2 k, LeO (made_Dice_Bytes.f k a0 a1 a2) (made_Dice_Bytes.f (k + 1) a0 a1 a2) := by
 intro a0 a1 a2 k; have ih0 := made_Dice_Bytes.mono_l k; unfold made_Dice_Bytes.f
 repeat' first
   | (with_reducible exact ih0 _ _ _ _)
   | (with_reducible exact LeO.refl _)
   | (with_reducible exact LeO.none _)
   | (with_reducible refine LeO.ite ?_ ?_)
   | (with_reducible refine LeO.bind ?_ (fun _ => ?_))
   | exact ih0 _ _ _ _
   | exact LeO.none _
   | refine LeO.ite ?_ ?_
   | refine LeO.bind ?_ (fun _ => ?_)
set_option maxHeartbeats 8000000 in
set_option maxRecDepth 100000 in
theorem made_Dice_Bytes.calls (k : Nat) (g : Nat) (s0_0 : List Int) (s0_1 : Int) (a1 : Int) (r1 : List Int) (r2 : Int) (w0 w : World) (hI : IsS84 w0 w g s0_0 s0_1) (hB : Below w0.heap.size w0 w) (h : made_Dice_Bytes.f k s0_0 s0_1 a1 = some (r1, r2)) :
  Calls Try.prog 33 #[.pointer (some ⟨g, 0, none⟩), .int .i64 a1] w fun e w' => ∃ v0_ : Value, e = .returned (v0_) ∧ Kd.R (Kd.int .u8) 5 w' w.heap.size (fun _ => True) v0_ r1 ∧ IsS84 w0 w' g s0_0 r2 ∧ Below w0.heap.size w0 w' ∧ KeepBut w w' g none := by
 have HI0 := Aside0.mk hI; have HK := Aside0.mk (KeepBut.refl w g none); have HL := Aside0.mk hB.size; clear hI; have HW0 := Aside0.mk hB.size; have HB := Aside0.mk hB; clear hB; have H : ((made_Dice_Next.f s0_0 s0_1 (wrap64 (a1 + 1))).bind fun bt124 => (made_Dice_Bytes.l0 k ([] : List Int) bt124.1 s0_0 bt124.2)) = some (r1, r2) := h; clear h; replace H := Option.bind_eq_some_iff.mp H; obtain ⟨⟨t124, t125⟩, A30, H⟩ := H; (try dsimp only at H); have A3 := Aside0.mk A30; clear A30; have H' := Aside0.mk H; clear H; go_enter Try.func33, Try.ntmps33
 go_wp2_with (first | ((with_reducible refine gate_callee (f := 21) rfl ?_); refine goesL_ (some 10) rfl rfl Try.func21 (by kernel_rfl) rfl #[.pointer (some ⟨g, 0, none⟩), .int .i64 (wrap64 (a1 + 1))] rfl lm_ ?_; (with_reducible refine (made_Dice_Next.calls g s0_0 s0_1 (wrap64 (a1 + 1)) t124 t125 w0 _ ?side1 ?side2 A3.out).mono ?_); (case side1 => exact (is0_ HI0.out)); (case side2 => exact (hb1_ HB.out (IsS84.ge HI0.out))); rintro e w4 ⟨rfl, hi, hb, hk⟩; refine ⟨_, rfl, ?_⟩; have n0_ := Aside0.mk (KeepBut.trans (kp0_ HK.out) hk (.inl rfl)); have n1_ := Aside0.mk (hb); have n2_ := Aside0.mk (hi); clear HK HB HI0; revert n0_ n1_ n2_; intro HK HB HI0; (try clear hb); (try clear hb2); (try clear hk); (try clear hi)))
 go_loopg [5, 6] k (fun kq v5 v6 w' => ∃ (x5_1 : List Int) (x6_1 : Int) (x1001_1 : Int), v6 = .int .i64 x6_1 ∧ Aside0 (made_Dice_Bytes.l0 kq x5_1 x6_1 s0_0 x1001_1 = some (r1, r2)) ∧ Aside0 (kq ≤ k) ∧ Aside0 (Kd.R (Kd.int .u8) 5 w' w.heap.size (fun _ => True) v5 x5_1) ∧ Aside0 (IsS84 w0 w' g s0_0 x1001_1) ∧ Aside0 (KeepBut w w' g none) ∧ Aside0 (Below w0.heap.size w0 w'))
 case atStart => exact ⟨(([] : List Int)), (t124), (t125), rf_, H', ⟨Nat.le_refl _⟩, ⟨by first | exact Kd.R_nil _ _ _ _ _ | exact Kd.N_nil _ _ _ _ _ | exact Kd.V_nil _ _ _ _ _ | exact Kd.Q_nil _ _ _ _ _ | exact Kd.S_nil _ _ _ _ _⟩, ⟨(is0_ HI0.out)⟩, ⟨(kp0_ HK.out)⟩, ⟨(hb1_ HB.out (IsS84.ge HI0.out))⟩⟩
 case round =>
  clear H'; try clear c2
  try clear p2
  try clear c3
  obtain ⟨x5_1, x6_1, x1001_1, rfl, HA, HK1, HO_5, HI0, HK, HB⟩ := hrel; cases gk with
  | zero => exact absurd HA.out (by simp [made_Dice_Bytes.l0])
  | succ k1 =>
   have H := HA.out; clear HA; simp only [made_Dice_Bytes.l0] at H; by_cases c5 : x6_1 > 0
   ·
    rw [if_pos c5] at H; have c5b0 : decide (0 < x6_1) = true := decide_eq_true c5; clear c5; replace H := Option.bind_eq_some_iff.mp H; obtain ⟨⟨t126, t127⟩, A60, H⟩ := H; (try dsimp only at H); have A6 := Aside0.mk A60; clear A60; by_cases c7 : x5_1.length < 140737488355328
    rotate_left
    ·
     rw [if_neg c7] at H; exact absurd H (by simp)
    rw [if_pos c7] at H; have LMc7 := Aside0.mk c7; clear c7; obtain ⟨y128, hy128⟩ : ∃ y_ : List Int, y_ = (x5_1 ++ [(t126) % 256]) := ⟨_, rfl⟩; replace H : (made_Dice_Bytes.l0 k1 y128 (wrap64 (x6_1 - 1)) s0_0 t127) = some (r1, r2) := by first | (rw [hy128]; with_reducible exact H) | (have H2_ := (Option.bind_some _ _).symm.trans H; rw [hy128]; with_reducible exact H2_) | (have H2_ := (Option.bind_some _ _).symm.trans H; with_reducible exact H2_) | with_reducible exact H | (rw [hy128]; exact H) | exact H
    have Ny128 := Aside0.mk hy128; clear hy128; have H' := Aside0.mk H; clear H; go_wp2_with (first | ((with_reducible refine gate_callee (f := 21) rfl ?_); refine goesL_ (some 17) rfl rfl Try.func21 (by kernel_rfl) rfl #[.pointer (some ⟨g, 0, none⟩), .int .i64 256] rfl lm_ ?_; (with_reducible refine (made_Dice_Next.calls g s0_0 x1001_1 256 t126 t127 w0 _ ?side1 ?side2 A6.out).mono ?_); (case side1 => exact (is0_ HI0.out)); (case side2 => exact (hb1_ HB.out (IsS84.ge HI0.out))); rintro e w8 ⟨rfl, hi, hb, hk⟩; refine ⟨_, rfl, ?_⟩; have n0_ := Aside0.mk (Kd.R_mono (Kd.R_keep (IsS84.apart (show IsS84 w0 _ g s0_0 x1001_1 from (is0_ HI0.out)) (kR_ HO_5.out) (by decide)) hk (fun _ h => h.2)) (fun _ h => h.1)); have n1_ := Aside0.mk (KeepBut.trans (kp0_ HK.out) hk (.inl rfl)); have n2_ := Aside0.mk (hb); have n3_ := Aside0.mk (hi); clear HO_5 HK HB HI0; revert n0_ n1_ n2_ n3_; intro HO_5 HK HB HI0; (try clear hb); (try clear hb2); (try clear hk); (try clear hi)) | ((with_reducible refine gate_builtin (b := .append) (xs := #[.tmp 15, .tmp 19]) rfl ?_); at_builtin; refine Kd.R_append (Kd.int .u8) w.heap.size rfl (.tmp 15) (.tmp 19) 27 5 (.int .u8 0) 1 rfl Try.underlying27 info5 rfl (by decide) (by omega) u5 x5_1 ((t126) % 256) [.int .u8 ((t126) % 256)] (fun _ => True) (fun _ => False) rfl rfl ?aP (fun _ hk => hk.elim) ?aF ?aO (Below.refl _ _) ?aS ?aL ?_; (case aP => exact rfl); (case aF => exact (fun _ _ => trivial)); (case aO => exact (kR_ HO_5.out)); (case aS => exact (keep_size (w := w) (g := g) (row := none) (kp0_ HK.out))); (case aL => have := LMc7.out; omega); intro v129 w9 ho hb hg hat; rw [← Ny128.out] at ho; have n0_ := Aside0.mk (IsS84.grown ((is0_ HI0.out)) hg (IsS84.own_ne HI0.out HO_5.out (by decide))); have n1_ := Aside0.mk (below_weaken ((hb1_ HB.out (IsS84.ge HI0.out))) HL.out hb); have n2_ := Aside0.mk (KeepBut.trans (kp0_ HK.out) (KeepBut.of_grown hg g) (Kd.R_base2 HO_5.out)); have n3_ := Aside0.mk (ho); clear HI0 HB HK HO_5; revert n0_ n1_ n2_ n3_; intro HI0 HB HK HO130; clear ho hb hg hat))
    go_roundg k1
    case measure => have := HK1.out; omega
    case rel => exact ⟨(y128), (wrap64 (x6_1 - 1)), (t127), rf_, H', ⟨by have := HK1.out; omega⟩, ⟨by (with_reducible repeat (first | apply Kd.R_alloc | apply Kd.R_drewN | apply Kd.R_drew)); exact HO130.out⟩, ⟨(is0_ HI0.out)⟩, ⟨(kp0_ HK.out)⟩, ⟨(hb1_ HB.out (IsS84.ge HI0.out))⟩⟩
   ·
    rw [if_neg c5] at H; have c5b0 : decide (0 < x6_1) = false := decide_eq_false c5; clear c5; simp only [Option.some.injEq, Prod.mk.injEq] at H; obtain ⟨rfl, rfl⟩ := H; go_wp2
    go_ret
    exact ⟨_, by first | rfl | (simp [errW_none, errW_some] <;> rfl) | (simp [*, errW_none, errW_some] <;> rfl), by (with_reducible repeat (first | apply Kd.R_alloc | apply Kd.R_drewN | apply Kd.R_drew)); exact HO_5.out, (is0_ HI0.out), (hb1_ HB.out (IsS84.ge HI0.out)), (kp0_ HK.out)⟩

end Go.Proofs.Ytpcephbhnbfcmaa.I
