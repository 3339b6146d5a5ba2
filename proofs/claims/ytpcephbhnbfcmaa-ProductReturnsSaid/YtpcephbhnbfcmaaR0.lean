-- Written by this session's program fork.py: a Lean function for each Go function and its walk. Not trusted: Lean checks it.
import Derived.Test.YtpcephbhnbfcmaaProg
import Derived.Below
import Derived.Deep.Draws
import Derived.Deep.AppendLies
import Derived.Maps.AppendAt
import Derived.OwnWalk
import Derived.Laws.BytesArg
import Derived.Laws.MakeOwn
import Derived.Laws.OwnMore
import Derived.Deep.OwnRows
import Derived.Tactics
import Derived.Lib.ConvBytes
import Derived.Laws.Slices
import Derived.WalkKit
import Derived.KernelRfl
import Derived.RowKit3
import Derived.Deep.LoopGhost
import Derived.Deep.QuietTactic
import Derived.BigQuiet
import Derived.WideLaws
import Derived.Deep.DeepCutAuto
import Derived.Deep.CutBlock
import Derived.Deep.RegionHeld3
import Derived.Laws.Rows
import Derived.Lib.AppendStr
import Derived.ArgAppend
import Derived.Laws.IdiomCopy
import Derived.OrdersHeld
import Derived.Laws.BitsLemmas
import Derived.RowKit
import Derived.WalkSpells
import Derived.Lib.SliceRun
import Derived.Lib.Strings
import Derived.Lib.Slices
import Derived.Lib.Small
import Derived.Lib.Walk
import Derived.Lib.BitFns
import Derived.Laws.CopyOwn
import Derived.Lib.MakeNoZero
import Derived.Laws.Externs
import Derived.Test.YtpcephbhnbfcmaaRWWords
import Derived.Test.YtpcephbhnbfcmaaRWLast
import Derived.Test.YtpcephbhnbfcmaaRWTab
import Derived.Test.YtpcephbhnbfcmaaRWFour
import Derived.Test.YtpcephbhnbfcmaaRWApart
import Derived.Test.YtpcephbhnbfcmaaRWArr
import Derived.Test.YtpcephbhnbfcmaaRWZeros
import Derived.Test.YtpcephbhnbfcmaaRWFoot
import Derived.Test.YtpcephbhnbfcmaaRWKept
import Derived.Test.YtpcephbhnbfcmaaRWShare
import Derived.Test.YtpcephbhnbfcmaaRWN
import Derived.Test.YtpcephbhnbfcmaaRWAt
import Derived.Laws.StructEq
import Derived.Test.YtpcephbhnbfcmaaRWRepsOne
import Derived.Test.YtpcephbhnbfcmaaRWInv
import Derived.Test.YtpcephbhnbfcmaaRWGuard
import Derived.Test.YtpcephbhnbfcmaaRWNEv
import Derived.Test.YtpcephbhnbfcmaaRWMore
namespace Go.Proofs.Ytpcephbhnbfcmaa.R
open Go.RowKit Go.Proofs.YtpcephbhnbfcmaaW.PrintWords Go.Proofs.YtpcephbhnbfcmaaW.PrintLast Go.Proofs.YtpcephbhnbfcmaaW.PrintMore
attribute [local go_sem] max2_int min2_int max_two min_two max_three min_three max_four min_four   -- for this text's walks alone
set_option linter.unusedVariables false
set_option linter.unusedSimpArgs false



def errW : Option Int → Value
  | none => .nilIface
  | some c => .iface 0 (.int .i64 c)
theorem errW_none : errW none = .nilIface := rfl
theorem errW_some (c : Int) : errW (some c) = .iface 0 (.int .i64 c) := rfl

/-! ### short words for what the walks show again and again -/
theorem od_ {p : Prop} [Decidable p] (h : decide p = true := by first | (with_reducible assumption) | assumption) : p := of_decide_eq_true h
theorem bk_ {p q : Prop} (h : p) (hl : p → q := by intro h_; (with_reducible repeat (first | refine blk_drewN ?_ _ | refine blk_drew ?_ | refine blk_alloc ?_ _)); exact h_) : q := hl h
theorem kV_ {p q : Prop} (h : p) (hl : p → q := by first | (with_reducible exact fun h_ => h_) | (intro h_; (with_reducible repeat (first | apply Kd.V_alloc | apply Kd.V_drewN | apply Kd.V_drew)); exact h_)) : q := hl h
theorem kR_ {p q : Prop} (h : p) (hl : p → q := by intro h_; (with_reducible repeat (first | apply Kd.R_alloc | apply Kd.R_drewN | apply Kd.R_drew)); exact h_) : q := hl h
theorem kN_ {p q : Prop} (h : p) (hl : p → q := by intro h_; (with_reducible repeat (first | apply Kd.N_alloc | apply Kd.N_drewN | apply Kd.N_drew)); exact h_) : q := hl h
theorem kS_ {p q : Prop} (h : p) (hl : p → q := by intro h_; (with_reducible repeat (first | apply Kd.S_alloc | apply Kd.S_drewN | apply Kd.S_drew)); exact h_) : q := hl h
theorem kC_ {p q : Prop} (h : p) (hl : p → q := by intro h_; repeat (first | (with_reducible exact h_) | (with_reducible refine Kd.C_alloc ?_ _) | (with_reducible refine Kd.C_drewN ?_ _) | (with_reducible refine Kd.C_drew ?_) | exact h_)) : q := hl h
theorem hb0_ {p q : Prop} (h : p) (hl : p → q := by intro h_; repeat (first | (with_reducible first | exact h_ | apply below_alloc | apply pw_below_drewN | apply below_drew1) | exact h_)) : q := hl h
theorem hb1_ {p q a : Prop} (h : p) (x : a) (hl : p → a → q := by intro h_ x_; repeat (first | (with_reducible first | exact h_ | apply below_alloc | apply pw_below_drewN | apply below_drew1 | refine below_set ?_ x_) | exact h_)) : q := hl h x
theorem hb2_ {p q a b : Prop} (h : p) (x : a) (y : b) (hl : p → a → b → q := by intro h_ x_ y_; repeat (first | (with_reducible first | exact h_ | apply below_alloc | apply pw_below_drewN | apply below_drew1 | refine below_set ?_ x_ | refine below_set ?_ y_) | exact h_)) : q := hl h x y
theorem hb3_ {p q a b c : Prop} (h : p) (x : a) (y : b) (z : c) (hl : p → a → b → c → q := by intro h_ x_ y_ z_; repeat (first | (with_reducible first | exact h_ | apply below_alloc | apply pw_below_drewN | apply below_drew1 | refine below_set ?_ x_ | refine below_set ?_ y_ | refine below_set ?_ z_) | exact h_)) : q := hl h x y z
theorem hb4_ {p q a b c d : Prop} (h : p) (x : a) (y : b) (z : c) (u : d) (hl : p → a → b → c → d → q := by intro h_ x_ y_ z_ u_; repeat (first | (with_reducible first | exact h_ | apply below_alloc | apply pw_below_drewN | apply below_drew1 | refine below_set ?_ x_ | refine below_set ?_ y_ | refine below_set ?_ z_ | refine below_set ?_ u_) | exact h_)) : q := hl h x y z u
theorem kp0_ {p q : Prop} (h : p) (hl : p → q := by intro h_; repeat (first | (with_reducible first | exact h_ | apply KeepBut.set_ | apply keep_drewN | apply keep_drew | apply keep_alloc) | exact h_)) : q := hl h
theorem kp1_ {p q a : Prop} (h : p) (x : a) (hl : p → a → q := by intro h_ x_; repeat (first | (with_reducible first | exact h_ | apply KeepBut.set_ | apply keep_drewN | apply keep_drew | apply keep_alloc | refine keep_far ?_ x_ _) | exact h_)) : q := hl h x
theorem bf1_ {p q a : Prop} (h : p) (x : a) (hl : p → a → q := by intro h_ x_; repeat (first | (with_reducible exact h_) | (with_reducible refine blk_drewN ?_ _) | (with_reducible refine blk_drew ?_) | (with_reducible refine blk_alloc ?_ _) | refine blk_far ?_ x_ _ | exact h_)) : q := hl h x
theorem bf2_ {p q a b : Prop} (h : p) (x : a) (y : b) (hl : p → a → b → q := by intro h_ x_ y_; repeat (first | (with_reducible exact h_) | (with_reducible refine blk_drewN ?_ _) | (with_reducible refine blk_drew ?_) | (with_reducible refine blk_alloc ?_ _) | refine blk_far ?_ x_ _ | refine blk_far ?_ y_ _ | exact h_)) : q := hl h x y
theorem bf3_ {p q a b c : Prop} (h : p) (x : a) (y : b) (z : c) (hl : p → a → b → c → q := by intro h_ x_ y_ z_; repeat (first | (with_reducible exact h_) | (with_reducible refine blk_drewN ?_ _) | (with_reducible refine blk_drew ?_) | (with_reducible refine blk_alloc ?_ _) | refine blk_far ?_ x_ _ | refine blk_far ?_ y_ _ | refine blk_far ?_ z_ _ | exact h_)) : q := hl h x y z
theorem kD_ {p q : Prop} (h : p) (hl : p → q := by intro h_; repeat (first | exact h_ | (with_reducible refine Kd.C_alloc ?_ _) | (with_reducible refine Kd.C_drewN ?_ _) | (with_reducible refine Kd.C_drew ?_))) : q := hl h
theorem bx8_ {w : World} {g : Nat} {t : TypeId} {a b c d e f i j : Value} (h : w.heap[g]? = some (.cells #[a, b, c, d, e, f, i, j] t (0, 0))) :
    w.cell? ⟨g, 0, none⟩ = some a ∧ w.cell? ⟨g, 1, none⟩ = some b ∧ w.cell? ⟨g, 2, none⟩ = some c ∧ w.cell? ⟨g, 3, none⟩ = some d ∧ w.cell? ⟨g, 4, none⟩ = some e ∧ w.cell? ⟨g, 5, none⟩ = some f ∧ w.cell? ⟨g, 6, none⟩ = some i ∧ w.cell? ⟨g, 7, none⟩ = some j ∧
    w.frozen? ⟨g, 0, none⟩ = false ∧ w.frozen? ⟨g, 1, none⟩ = false ∧ w.frozen? ⟨g, 2, none⟩ = false ∧ w.frozen? ⟨g, 3, none⟩ = false ∧ w.frozen? ⟨g, 4, none⟩ = false ∧ w.frozen? ⟨g, 5, none⟩ = false ∧ w.frozen? ⟨g, 6, none⟩ = false ∧ w.frozen? ⟨g, 7, none⟩ = false :=
  ⟨(blk_cell h 0).trans rfl, (blk_cell h 1).trans rfl, (blk_cell h 2).trans rfl, (blk_cell h 3).trans rfl, (blk_cell h 4).trans rfl, (blk_cell h 5).trans rfl, (blk_cell h 6).trans rfl, (blk_cell h 7).trans rfl, blk_frozen h 0, blk_frozen h 1, blk_frozen h 2, blk_frozen h 3, blk_frozen h 4, blk_frozen h 5, blk_frozen h 6, blk_frozen h 7⟩
theorem put8_ {w : World} {g : Nat} {t : TypeId} {a b c d e f i j : Value} (h : w.heap[g]? = some (.cells #[a, b, c, d, e, f, i, j] t (0, 0))) (a' b' c' d' e' f' i' j' : Value) :
    ((((((((w.setCell ⟨g, 0, none⟩ a').setCell ⟨g, 1, none⟩ b').setCell ⟨g, 2, none⟩ c').setCell ⟨g, 3, none⟩ d').setCell ⟨g, 4, none⟩ e').setCell ⟨g, 5, none⟩ f').setCell ⟨g, 6, none⟩ i').setCell ⟨g, 7, none⟩ j').heap[g]? = some (.cells #[a', b', c', d', e', f', i', j'] t (0, 0)) := by
  have h0 := blk_put (cs' := #[a', b, c, d, e, f, i, j]) h 0 a' rfl
  have h1 := blk_put (cs' := #[a', b', c, d, e, f, i, j]) h0 1 b' rfl
  have h2 := blk_put (cs' := #[a', b', c', d, e, f, i, j]) h1 2 c' rfl
  have h3 := blk_put (cs' := #[a', b', c', d', e, f, i, j]) h2 3 d' rfl
  have h4 := blk_put (cs' := #[a', b', c', d', e', f, i, j]) h3 4 e' rfl
  have h5 := blk_put (cs' := #[a', b', c', d', e', f', i, j]) h4 5 f' rfl
  have h6 := blk_put (cs' := #[a', b', c', d', e', f', i', j]) h5 6 i' rfl
  have h7 := blk_put (cs' := #[a', b', c', d', e', f', i', j']) h6 7 j' rfl
  exact h7
theorem bb_ {w w1 W : World} {g : Nat} {o : Obj} (h : W.heap[g]? = some o) (hb : Below w.heap.size w w1) (hl : W.heap[g]? = some o → w.heap[g]? = some o := by intro h_; (with_reducible repeat (first | refine blk_drewN ?_ _ | refine blk_drew ?_ | refine blk_alloc ?_ _)); exact h_) : w1.heap[g]? = some o := blk_below (hl h) hb
theorem fB_ {w W : World} {g : Nat} {o : Obj} (h : W.heap[g]? = some o) (k : Nat) (hk : w.heap.size ≤ k) (hl : W.heap[g]? = some o → w.heap[g]? = some o := by intro h_; (with_reducible repeat (first | refine blk_drewN ?_ _ | refine blk_drew ?_ | refine blk_alloc ?_ _)); exact h_) : k ≠ g := Kd.freshB (hl h) k hk
theorem bf4_ {p q a b c d : Prop} (h : p) (x : a) (y : b) (z : c) (u : d) (hl : p → a → b → c → d → q := by intro h_ x_ y_ z_ u_; repeat (first | (with_reducible exact h_) | (with_reducible refine blk_drewN ?_ _) | (with_reducible refine blk_drew ?_) | (with_reducible refine blk_alloc ?_ _) | refine blk_far ?_ x_ _ | refine blk_far ?_ y_ _ | refine blk_far ?_ z_ _ | refine blk_far ?_ u_ _ | exact h_)) : q := hl h x y z u
theorem bf5_ {p q a b c d e : Prop} (h : p) (x : a) (y : b) (z : c) (u : d) (v : e) (hl : p → a → b → c → d → e → q := by intro h_ x_ y_ z_ u_ v_; repeat (first | (with_reducible exact h_) | (with_reducible refine blk_drewN ?_ _) | (with_reducible refine blk_drew ?_) | (with_reducible refine blk_alloc ?_ _) | refine blk_far ?_ x_ _ | refine blk_far ?_ y_ _ | refine blk_far ?_ z_ _ | refine blk_far ?_ u_ _ | refine blk_far ?_ v_ _ | exact h_)) : q := hl h x y z u v
theorem kp2_ {p q a b : Prop} (h : p) (x : a) (y : b) (hl : p → a → b → q := by intro h_ x_ y_; repeat (first | (with_reducible first | exact h_ | apply KeepBut.set_ | apply keep_drewN | apply keep_drew | apply keep_alloc | refine keep_far ?_ x_ _ | refine keep_far ?_ y_ _) | exact h_)) : q := hl h x y
theorem kp3_ {p q a b c : Prop} (h : p) (x : a) (y : b) (z : c) (hl : p → a → b → c → q := by intro h_ x_ y_ z_; repeat (first | (with_reducible first | exact h_ | apply KeepBut.set_ | apply keep_drewN | apply keep_drew | apply keep_alloc | refine keep_far ?_ x_ _ | refine keep_far ?_ y_ _ | refine keep_far ?_ z_ _) | exact h_)) : q := hl h x y z
theorem hb5_ {p q a b c d e : Prop} (h : p) (x : a) (y : b) (z : c) (u : d) (v : e) (hl : p → a → b → c → d → e → q := by intro h_ x_ y_ z_ u_ v_; repeat (first | (with_reducible first | exact h_ | apply below_alloc | apply pw_below_drewN | apply below_drew1 | refine below_set ?_ x_ | refine below_set ?_ y_ | refine below_set ?_ z_ | refine below_set ?_ u_ | refine below_set ?_ v_) | exact h_)) : q := hl h x y z u v
theorem hb6_ {p q a b c d e f : Prop} (h : p) (x : a) (y : b) (z : c) (u : d) (v : e) (s : f) (hl : p → a → b → c → d → e → f → q := by intro h_ x_ y_ z_ u_ v_ s_; repeat (first | (with_reducible first | exact h_ | apply below_alloc | apply pw_below_drewN | apply below_drew1 | refine below_set ?_ x_ | refine below_set ?_ y_ | refine below_set ?_ z_ | refine below_set ?_ u_ | refine below_set ?_ v_ | refine below_set ?_ s_) | exact h_)) : q := hl h x y z u v s
def mk_ (k n : Nat) : Array Bool := (List.replicate k true ++ List.replicate (n - k) false).toArray
def bm_ (n x : Nat) : Array Bool := ((List.range n).map x.testBit).toArray
theorem rf_ {p : Prop} (h : p := by first | rfl | (simp; done) | (simp [*]; done)) : p := h
theorem om_ {p : Prop} (h : p := by first | omega | exact Nat.le_refl _) : p := h
theorem pu_ {P : Program} {ops : Array Oper} {Q : Exit → Act → World → Prop} {md : Region.Mode} {S : World → Prop} {ds : List Nat} {oi : Oper} {v : Value} {fuel : Nat} {l : Array Bool} {a a' : Act} {w : World} {T : Bool × List (List Nat × List Nat)} (i : Nat) (N : Option Tmp) (l' : Array Bool)
    (hT : Aside0 (rtab md ops = T)) (h : wpAnyLast P md ops Q S ds fuel l' a' w) (hi : ops[i]? = some oi := by exact rfl) (hN : oi.dst = N := by exact rfl) (hc : anyT T l.toList l'.toList i = true := by kernel_rfl)
    (hQ : ∀ c a w, Q (.panic c) (a.put oi.dst v) w → Q (.panic c) a w := by exact fun _ _ _ h => h) (hw : Region.wanted oi (yielded ops a.tmps) = true := by rfl) (hy : ∀ w', (execOp a.eval oi).run P w' = .ok (.value v) w' := by intro w'; go_simp; with_reducible rfl)
    (ha : a.put N v = a' := by simp only [Act.put, List.setIfInBounds_toArray, List.set_cons_zero, List.set_cons_succ, i64_w, i32_w]; rfl) : wpAnyLast P md ops Q S ds (fuel + 1) l a w :=
  pure_ l' hi hN (any_of hT.out hc) hQ (.inl ⟨hw, hy⟩) ha h
theorem pun_ {P : Program} {ops : Array Oper} {Q : Exit → Act → World → Prop} {md : Region.Mode} {S : World → Prop} {ds : List Nat} {oi : Oper} {fuel : Nat} {l : Array Bool} {a a' : Act} {w : World} {T : Bool × List (List Nat × List Nat)} (i : Nat) (N : Option Tmp) (l' : Array Bool)
    (hT : Aside0 (rtab md ops = T)) (h : wpAnyLast P md ops Q S ds fuel l' a' w) (hi : ops[i]? = some oi := by exact rfl) (hN : oi.dst = N := by exact rfl) (hc : anyT T l.toList l'.toList i = true := by kernel_rfl)
    (hQ : ∀ c a w, Q (.panic c) (a.put oi.dst undef) w → Q (.panic c) a w := by exact fun _ _ _ h => h) (hw : Region.wanted oi (yielded ops a.tmps) = false := by rfl)
    (ha : a.put N undef = a' := by simp only [Act.put, List.setIfInBounds_toArray, List.set_cons_zero, List.set_cons_succ, i64_w, i32_w]; rfl) : wpAnyLast P md ops Q S ds (fuel + 1) l a w :=
  pure_ l' hi hN (any_of hT.out hc) hQ (.inr ⟨hw, rfl⟩) ha h
theorem far8R_ {α : Type} {d : Kd α} {t : Nat} {W : World} {base : Nat} {ok : Nat → Prop} {x : Value} {xs : List α} {g : Nat} (h : Kd.R d t W base ok x xs) (a b c d' e f i j : Value) (hk : ∀ k, ok k → k ≠ g) : Kd.R d t ((((((((W.setCell ⟨g, 0, none⟩ a).setCell ⟨g, 1, none⟩ b).setCell ⟨g, 2, none⟩ c).setCell ⟨g, 3, none⟩ d').setCell ⟨g, 4, none⟩ e).setCell ⟨g, 5, none⟩ f).setCell ⟨g, 6, none⟩ i).setCell ⟨g, 7, none⟩ j) base ok x xs :=
  Kd.R_far (p := ⟨g, 7, none⟩) (Kd.R_far (p := ⟨g, 6, none⟩) (Kd.R_far (p := ⟨g, 5, none⟩) (Kd.R_far (p := ⟨g, 4, none⟩) (Kd.R_far (p := ⟨g, 3, none⟩) (Kd.R_far (p := ⟨g, 2, none⟩) (Kd.R_far (p := ⟨g, 1, none⟩) (Kd.R_far (p := ⟨g, 0, none⟩) h hk a) hk b) hk c) hk d') hk e) hk f) hk i) hk j
theorem far8V_ {α : Type} {d : Kd α} {t : Nat} {W : World} {base : Nat} {ok : Nat → Prop} {x : Value} {xs : List α} {g : Nat} (h : Kd.V d t W base ok x xs) (a b c d' e f i j : Value) (hk : ∀ k, ok k → k ≠ g) : Kd.V d t ((((((((W.setCell ⟨g, 0, none⟩ a).setCell ⟨g, 1, none⟩ b).setCell ⟨g, 2, none⟩ c).setCell ⟨g, 3, none⟩ d').setCell ⟨g, 4, none⟩ e).setCell ⟨g, 5, none⟩ f).setCell ⟨g, 6, none⟩ i).setCell ⟨g, 7, none⟩ j) base ok x xs :=
  Kd.V_far (p := ⟨g, 7, none⟩) (Kd.V_far (p := ⟨g, 6, none⟩) (Kd.V_far (p := ⟨g, 5, none⟩) (Kd.V_far (p := ⟨g, 4, none⟩) (Kd.V_far (p := ⟨g, 3, none⟩) (Kd.V_far (p := ⟨g, 2, none⟩) (Kd.V_far (p := ⟨g, 1, none⟩) (Kd.V_far (p := ⟨g, 0, none⟩) h hk a) hk b) hk c) hk d') hk e) hk f) hk i) hk j
theorem far8N_ {α : Type} {d : Kd α} {t : Nat} {W : World} {base : Nat} {ok : Nat → Prop} {x : Value} {xs : List α} {g : Nat} (h : Kd.N d t W base ok x xs) (a b c d' e f i j : Value) (hk : ∀ k, ok k → k ≠ g) : Kd.N d t ((((((((W.setCell ⟨g, 0, none⟩ a).setCell ⟨g, 1, none⟩ b).setCell ⟨g, 2, none⟩ c).setCell ⟨g, 3, none⟩ d').setCell ⟨g, 4, none⟩ e).setCell ⟨g, 5, none⟩ f).setCell ⟨g, 6, none⟩ i).setCell ⟨g, 7, none⟩ j) base ok x xs :=
  Kd.N_far (p := ⟨g, 7, none⟩) (Kd.N_far (p := ⟨g, 6, none⟩) (Kd.N_far (p := ⟨g, 5, none⟩) (Kd.N_far (p := ⟨g, 4, none⟩) (Kd.N_far (p := ⟨g, 3, none⟩) (Kd.N_far (p := ⟨g, 2, none⟩) (Kd.N_far (p := ⟨g, 1, none⟩) (Kd.N_far (p := ⟨g, 0, none⟩) h hk a) hk b) hk c) hk d') hk e) hk f) hk i) hk j
theorem p8_ {p q : Prop} (h : p) (hl : p → q := by intro h_; (with_reducible repeat (first | refine blk_drewN ?_ _ | refine blk_drew ?_ | refine blk_alloc ?_ _)); apply put8_; (with_reducible repeat (first | refine blk_drewN ?_ _ | refine blk_drew ?_ | refine blk_alloc ?_ _)); exact h_) : q := hl h
theorem p81_ {p q a : Prop} (h : p) (x : a) (hl : p → a → q := by intro h_ x_; (repeat (first | (with_reducible refine blk_drewN ?_ _) | (with_reducible refine blk_drew ?_) | (with_reducible refine blk_alloc ?_ _) | refine blk_far ?_ x_ _)); apply put8_; (repeat (first | (with_reducible refine blk_drewN ?_ _) | (with_reducible refine blk_drew ?_) | (with_reducible refine blk_alloc ?_ _) | refine blk_far ?_ x_ _)); exact h_) : q := hl h x
theorem p82_ {p q a b : Prop} (h : p) (x : a) (y : b) (hl : p → a → b → q := by intro h_ x_ y_; (repeat (first | (with_reducible refine blk_drewN ?_ _) | (with_reducible refine blk_drew ?_) | (with_reducible refine blk_alloc ?_ _) | refine blk_far ?_ x_ _ | refine blk_far ?_ y_ _)); apply put8_; (repeat (first | (with_reducible refine blk_drewN ?_ _) | (with_reducible refine blk_drew ?_) | (with_reducible refine blk_alloc ?_ _) | refine blk_far ?_ x_ _ | refine blk_far ?_ y_ _)); exact h_) : q := hl h x y
theorem p83_ {p q a b c : Prop} (h : p) (x : a) (y : b) (z : c) (hl : p → a → b → c → q := by intro h_ x_ y_ z_; (repeat (first | (with_reducible refine blk_drewN ?_ _) | (with_reducible refine blk_drew ?_) | (with_reducible refine blk_alloc ?_ _) | refine blk_far ?_ x_ _ | refine blk_far ?_ y_ _ | refine blk_far ?_ z_ _)); apply put8_; (repeat (first | (with_reducible refine blk_drewN ?_ _) | (with_reducible refine blk_drew ?_) | (with_reducible refine blk_alloc ?_ _) | refine blk_far ?_ x_ _ | refine blk_far ?_ y_ _ | refine blk_far ?_ z_ _)); exact h_) : q := hl h x y z
theorem Vstr_ {P : Program} {w : World} {base t : Nat} {ok : Nat → Prop} {src dst e : TypeId} {v : Value} {xs : List Int} (hs : P.underlying src = some (.slice e)) (he : P.underlying e = some (.int .u8)) (hd : P.underlying dst = some .string) (h : Kd.V (Kd.int .u8) t w base ok v xs) : (convert src dst v).run P w = .ok (.string (strOfNums xs)) w := by
  obtain ⟨A, c, rfl, _, hf⟩ := h
  exact Kd.C_string hs he hd (Kd.F_now hf)
theorem rf8_ {α : Type} {d : Kd α} {t : Nat} {W W1 : World} {base : Nat} {ok : Nat → Prop} {x : Value} {xs : List α} {g u : Nat} {cs : Array Value} {a b c d' e f i j : Value} (h : Kd.R d t W base ok x xs) (hb : W.heap[g]? = some (.cells cs u (0, 0))) (hl : Kd.R d t ((((((((W.setCell ⟨g, 0, none⟩ a).setCell ⟨g, 1, none⟩ b).setCell ⟨g, 2, none⟩ c).setCell ⟨g, 3, none⟩ d').setCell ⟨g, 4, none⟩ e).setCell ⟨g, 5, none⟩ f).setCell ⟨g, 6, none⟩ i).setCell ⟨g, 7, none⟩ j) base ok x xs → Kd.R d t W1 base ok x xs := by intro h_; (with_reducible repeat (first | apply Kd.R_alloc | apply Kd.R_drewN | apply Kd.R_drew)); exact h_) (ht : ∀ q, q ∈ t :: d.E → q ≠ u := by decide) : Kd.R d t W1 base ok x xs :=
  hl (Kd.R_mono (far8R_ (Kd.R_types h hb ht) _ _ _ _ _ _ _ _ fun _ hk => hk.2) fun _ h_ => h_.1)
theorem nf8_ {α : Type} {d : Kd α} {t : Nat} {W W1 : World} {base : Nat} {ok : Nat → Prop} {x : Value} {xs : List α} {a b c d' e f i j : Value} (h : Kd.N d t W base ok x xs) (g : Nat) (hk : ∀ k, ok k → k ≠ g) (hl : Kd.N d t ((((((((W.setCell ⟨g, 0, none⟩ a).setCell ⟨g, 1, none⟩ b).setCell ⟨g, 2, none⟩ c).setCell ⟨g, 3, none⟩ d').setCell ⟨g, 4, none⟩ e).setCell ⟨g, 5, none⟩ f).setCell ⟨g, 6, none⟩ i).setCell ⟨g, 7, none⟩ j) base ok x xs → Kd.N d t W1 base ok x xs := by intro h_; (with_reducible repeat (first | apply Kd.N_alloc | apply Kd.N_drewN | apply Kd.N_drew)); exact h_) : Kd.N d t W1 base ok x xs :=
  hl (far8N_ h _ _ _ _ _ _ _ _ hk)
theorem vf8_ {α : Type} {d : Kd α} {t : Nat} {W W1 : World} {base : Nat} {ok : Nat → Prop} {x : Value} {xs : List α} {a b c d' e f i j : Value} (h : Kd.V d t W base ok x xs) (g : Nat) (hk : ∀ k, ok k → k ≠ g) (hl : Kd.V d t ((((((((W.setCell ⟨g, 0, none⟩ a).setCell ⟨g, 1, none⟩ b).setCell ⟨g, 2, none⟩ c).setCell ⟨g, 3, none⟩ d').setCell ⟨g, 4, none⟩ e).setCell ⟨g, 5, none⟩ f).setCell ⟨g, 6, none⟩ i).setCell ⟨g, 7, none⟩ j) base ok x xs → Kd.V d t W1 base ok x xs := by intro h_; (with_reducible repeat (first | apply Kd.V_alloc | apply Kd.V_drewN | apply Kd.V_drew)); exact h_) : Kd.V d t W1 base ok x xs :=
  hl (far8V_ h _ _ _ _ _ _ _ _ hk)
abbrev nb_ (k : Nat) (v : Value) : Prop := some k ≠ v.ownBlock
abbrev ns_ {α : Type} (k : Nat) (A : Option Addr) (l : List α) (c : Nat) : Prop := some k ≠ (Value.slice A l.length c).ownBlock
theorem mo_ {P Q : Nat → Prop} (h : ∀ k, P k → Q k := by intro k hk; simp only [nb_, ns_, ne_eq] at hk ⊢; simp only [hk, not_false_eq_true, and_self]) : ∀ k, P k → Q k := h
theorem nm_ {α : Type} {d : Kd α} {t : Nat} {W W1 : World} {base : Nat} {ok ok' : Nat → Prop} {x : Value} {xs : List α} (h : Kd.N d t W base ok x xs) (hl : Kd.N d t W base ok' x xs → Kd.N d t W1 base ok' x xs := by intro h_; (with_reducible repeat (first | apply Kd.N_alloc | apply Kd.N_drewN | apply Kd.N_drew)); exact h_) (hm : ∀ k, ok k → ok' k := by intro k hk; simp only [nb_, ns_, ne_eq] at hk ⊢; simp only [hk, not_false_eq_true, and_self]) : Kd.N d t W1 base ok' x xs := hl (Kd.N_mono h hm)
theorem vm_ {α : Type} {d : Kd α} {t : Nat} {W W1 : World} {base : Nat} {ok ok' : Nat → Prop} {x : Value} {xs : List α} (h : Kd.V d t W base ok x xs) (hl : Kd.V d t W base ok' x xs → Kd.V d t W1 base ok' x xs := by intro h_; (with_reducible repeat (first | apply Kd.V_alloc | apply Kd.V_drewN | apply Kd.V_drew)); exact h_) (hm : ∀ k, ok k → ok' k := by intro k hk; simp only [nb_, ns_, ne_eq] at hk ⊢; simp only [hk, not_false_eq_true, and_self]) : Kd.V d t W1 base ok' x xs := hl (Kd.V_mono h hm)
theorem rm_ {α : Type} {d : Kd α} {t : Nat} {W W1 : World} {base : Nat} {ok ok' : Nat → Prop} {x : Value} {xs : List α} (h : Kd.R d t W base ok x xs) (hl : Kd.R d t W base ok' x xs → Kd.R d t W1 base ok' x xs := by intro h_; (with_reducible repeat (first | apply Kd.R_alloc | apply Kd.R_drewN | apply Kd.R_drew)); exact h_) (hm : ∀ k, ok k → ok' k := by intro k hk; simp only [nb_, ns_, ne_eq] at hk ⊢; simp only [hk, not_false_eq_true, and_self]) : Kd.R d t W1 base ok' x xs := hl (Kd.R_mono h hm)
theorem c8_ {w : World} {g : Nat} {t : TypeId} {a b c d e f i j : Value} (h : w.heap[g]? = some (.cells #[a, b, c, d, e, f, i, j] t (0, 0))) :
    w.cell? ⟨g, 0, none⟩ = some a ∧ w.cell? ⟨g, 1, none⟩ = some b ∧ w.cell? ⟨g, 2, none⟩ = some c ∧ w.cell? ⟨g, 3, none⟩ = some d ∧ w.cell? ⟨g, 4, none⟩ = some e ∧ w.cell? ⟨g, 5, none⟩ = some f ∧ w.cell? ⟨g, 6, none⟩ = some i ∧ w.cell? ⟨g, 7, none⟩ = some j :=
  ⟨(blk_cell h 0).trans rfl, (blk_cell h 1).trans rfl, (blk_cell h 2).trans rfl, (blk_cell h 3).trans rfl, (blk_cell h 4).trans rfl, (blk_cell h 5).trans rfl, (blk_cell h 6).trans rfl, (blk_cell h 7).trans rfl⟩
theorem lm_ {p : Prop} (h : p := by (try simp only [List.map_toArray, List.map_cons, List.map_nil]); first | done | rfl | (simp only [List.length_drop, List.length_take]; rfl)) : p := h

theorem info3 : (Try.prog.info? 3).map (fun i => (i.zero, i.size, i.bytes)) = some (some (.int .i64 0), 1, 8) := by kernel_rfl
theorem info4 : (Try.prog.info? 4).map (fun i => (i.zero, i.size, i.bytes)) = some (some (.bool false), 1, 1) := by kernel_rfl
theorem info5 : (Try.prog.info? 5).map (fun i => (i.zero, i.size, i.bytes)) = some (some (.int .u8 0), 1, 1) := by kernel_rfl
theorem info27 : (Try.prog.info? 27).map (fun i => (i.zero, i.size, i.bytes)) = some (some (.slice none 0 0), 1, 24) := by kernel_rfl
theorem info31 : (Try.prog.info? 31).map (fun i => (i.zero, i.size, i.bytes)) = some (some (.agg #[(.int .i64 0), (.int .i64 0), (.slice none 0 0), (.slice none 0 0), (.slice none 0 0), (.slice none 0 0), (.slice none 0 0), (.bool false)]), 8, 144) := by kernel_rfl
-- the values' own types
/-! #### struct type 101, nested in itself -/
structure S101 where
  f0 : ByteArray
  f1 : (List S101)
def z101 : S101 := ⟨(⟨#[]⟩ : ByteArray), ([] : List S101)⟩
def F101 (d : Kd S101) : Kd S101 := Kd.iso (Kd.pair Kd.string (Kd.slice 101 d)) (fun x : S101 => (x.f0, x.f1))
theorem mono101 : Kd.Mono F101 := Kd.mono_iso _ (Kd.mono_pair (Kd.mono_const _) (Kd.mono_slice 101 Kd.mono_id))
theorem sub101 : Kd.Sub F101 [101] := Kd.sub_iso _ (Kd.sub_pair (Kd.sub_const _ (by decide)) (Kd.sub_slice 101 (by decide) Kd.sub_id))
theorem sz101 : ∀ n, (Kd.upto F101 2 [101] n).sz = 2 := Kd.upto_sz (fun _ => rfl)
def k101 : Kd S101 := Kd.fix F101 2 [101] sz101 (Kd.upto_E sub101)
theorem k101_open {w : World} {x : S101} {cs : List Value} (h : k101.K w x cs) : ∃ A1 c1, cs = [.string x.f0, .slice A1 x.f1.length c1] ∧ x.f1.length ≤ c1 ∧ k101.C w A1 x.f1.length x.f1 := by
  obtain ⟨n, h⟩ := h
  cases n with
  | zero => exact h.elim
  | succ n =>
    obtain ⟨_, _, rfl, rfl, ⟨A1, c1, rfl, l1, g1⟩⟩ := h
    exact ⟨A1, c1, rfl, l1, Kd.fix_C g1⟩
theorem k101_openM {w : World} {base : Nat} {ok : Nat → Prop} {x : S101} {cs : List Value} (h : k101.M w base ok x cs) : ∃ v1, cs = [.string x.f0, v1] ∧ k101.R 101 w base ok v1 x.f1 := by
  obtain ⟨n, h⟩ := h
  cases n with
  | zero => exact h.elim
  | succ n =>
    obtain ⟨_, _, rfl, rfl, ⟨v1, rfl, g1⟩⟩ := h
    exact ⟨v1, rfl, Kd.fix_R g1⟩
theorem k101_mk (w : World) (x : S101) {A1 : Option Addr} {c1 : Nat} (l1 : x.f1.length ≤ c1) (g1 : k101.C w A1 x.f1.length x.f1) : k101.K w x [.string x.f0, .slice A1 x.f1.length c1] := by
  obtain ⟨n1, q1⟩ := Kd.fix_C_back mono101 g1
  have r1 := Kd.upto_C_le mono101 sz101 (show n1 ≤ n1 by omega) q1
  exact ⟨n1 + 1, ⟨[.string x.f0], [.slice A1 x.f1.length c1], rfl, rfl, ⟨A1, c1, rfl, l1, r1⟩⟩⟩
theorem k101_mkM (w : World) (base : Nat) (ok : Nat → Prop) (x : S101) {v1 : Value} (g1 : k101.R 101 w base ok v1 x.f1) : k101.M w base ok x [.string x.f0, v1] := by
  obtain ⟨n1, q1⟩ := Kd.fix_R_back mono101 g1
  have r1 := Kd.upto_R_le mono101 sz101 (show n1 ≤ n1 by omega) q1
  exact ⟨n1 + 1, ⟨[.string x.f0], [v1], rfl, rfl, ⟨v1, rfl, r1⟩⟩⟩
theorem k101_openF {W : World} {ok : Nat → Prop} {x : S101} {cs : List Value} (h : Kd.FK k101 W ok x cs) : ∃ A1 c1, cs = [.string x.f0, .slice A1 x.f1.length c1] ∧ x.f1.length ≤ c1 ∧ Kd.F k101 W ok A1 x.f1.length x.f1 := by
  obtain ⟨A1, c1, rfl, l1, _⟩ := k101_open (Kd.FK_now h)
  exact ⟨A1, c1, rfl, l1, (fun W' hW => by obtain ⟨A1_, c1_, he, l1_, g1_⟩ := k101_open (h W' hW); injection (Option.some.inj (show some (Value.slice A1 x.f1.length c1) = some (Value.slice A1_ x.f1.length c1_) from congrArg (fun l => l[1]?) he)) with ha_ _ _; rw [ha_]; exact g1_)⟩
theorem k101_mkF (W : World) (ok : Nat → Prop) (x : S101) {A1 : Option Addr} {c1 : Nat} (l1 : x.f1.length ≤ c1) (g1 : Kd.F k101 W ok A1 x.f1.length x.f1) : Kd.FK k101 W ok x [.string x.f0, .slice A1 x.f1.length c1] := fun W2 hW => k101_mk W2 x l1 (g1 W2 hW)
def rd_T101 (xs : List S101) (i : Int) : S101 := xs.getD i.toNat z101
theorem at_T101 {w : World} {A : Option Addr} {n : Nat} {xs : List S101} (h : Kd.C k101 w A n xs) (i : Int) (h0 : 0 ≤ i) (h1 : i < n) : ∃ ad A1 c1, A = some ad ∧ w.cell? (ad.add (i.toNat * 2)) = some (.string (rd_T101 xs i).f0) ∧ w.cell? ⟨(ad.add (i.toNat * 2)).block, (ad.add (i.toNat * 2)).off + 1, none⟩ = some (.slice A1 (rd_T101 xs i).f1.length c1) ∧ (rd_T101 xs i).f1.length ≤ c1 ∧ k101.C w A1 (rd_T101 xs i).f1.length (rd_T101 xs i).f1 := by
  obtain ⟨ad, c, e, _, hK, hc0⟩ := Kd.C_get h z101 i h0 h1
  have hc : ∀ j u, c[j]? = some u → w.cell? (ad.add (i.toNat * 2 + j)) = some u := hc0
  obtain ⟨A1, c1, rfl, l1, g1⟩ := k101_open hK
  exact ⟨ad, A1, c1, e, hc 0 _ rfl, by rw [← add_field _ _ 1 (by omega)]; exact hc 1 _ rfl, l1, g1⟩

def rd_L5 (xs : List (List Int)) (i : Int) : (List Int) := xs.getD i.toNat ([] : List Int)
theorem at_L5 {w : World} {A : Option Addr} {n : Nat} {xs : List (List Int)} (h : Kd.C (Kd.slice 3 (Kd.int .i64)) w A n xs) (i : Int) (h0 : 0 ≤ i) (h1 : i < n) : ∃ ad A0 c0, A = some ad ∧ w.cell? (ad.add i.toNat) = some (.slice A0 (rd_L5 xs i).length c0) ∧ (rd_L5 xs i).length ≤ c0 ∧ (Kd.int .i64).C w A0 (rd_L5 xs i).length (rd_L5 xs i) := by
  obtain ⟨ad, c, e, _, hK, hc0⟩ := Kd.C_get h ([] : List Int) i h0 h1
  have hc : ∀ j u, c[j]? = some u → w.cell? (ad.add (i.toNat * 1 + j)) = some u := hc0
  obtain ⟨A0, c0, rfl, l0, g0⟩ := hK
  exact ⟨ad, A0, c0, e, by have hq := hc 0 _ rfl; rwa [Nat.mul_one, Nat.add_zero] at hq, l0, g0⟩

def rd_L6 (xs : List (List S101)) (i : Int) : (List S101) := xs.getD i.toNat ([] : List S101)
theorem at_L6 {w : World} {A : Option Addr} {n : Nat} {xs : List (List S101)} (h : Kd.C (Kd.slice 101 k101) w A n xs) (i : Int) (h0 : 0 ≤ i) (h1 : i < n) : ∃ ad A0 c0, A = some ad ∧ w.cell? (ad.add i.toNat) = some (.slice A0 (rd_L6 xs i).length c0) ∧ (rd_L6 xs i).length ≤ c0 ∧ k101.C w A0 (rd_L6 xs i).length (rd_L6 xs i) := by
  obtain ⟨ad, c, e, _, hK, hc0⟩ := Kd.C_get h ([] : List S101) i h0 h1
  have hc : ∀ j u, c[j]? = some u → w.cell? (ad.add (i.toNat * 1 + j)) = some u := hc0
  obtain ⟨A0, c0, rfl, l0, g0⟩ := hK
  exact ⟨ad, A0, c0, e, by have hq := hc 0 _ rfl; rwa [Nat.mul_one, Nat.add_zero] at hq, l0, g0⟩

/-! #### struct type 79 -/
structure S79 where
  f0 : ByteArray
  f1 : Bool
  f2 : (List Int)
  f3 : (List S101)
  f4 : Int
def z79 : S79 := ⟨(⟨#[]⟩ : ByteArray), false, ([] : List Int), ([] : List S101), (0 : Int)⟩
def k79 : Kd S79 := Kd.iso (Kd.pair Kd.string (Kd.pair Kd.bool (Kd.pair (Kd.slice 3 (Kd.int .i64)) (Kd.pair (Kd.slice 101 k101) (Kd.int .i64))))) (fun x : S79 => (x.f0, x.f1, x.f2, x.f3, x.f4))
theorem k79_open {w : World} {x : S79} {cs : List Value} (h : k79.K w x cs) : ∃ A2 c2 A3 c3, cs = [.string x.f0, .bool x.f1, .slice A2 x.f2.length c2, .slice A3 x.f3.length c3, .int .i64 x.f4] ∧ x.f2.length ≤ c2 ∧ (Kd.int .i64).C w A2 x.f2.length x.f2 ∧ x.f3.length ≤ c3 ∧ k101.C w A3 x.f3.length x.f3 := by
  obtain ⟨_, _, rfl, rfl, ⟨_, _, rfl, rfl, ⟨_, _, rfl, ⟨A2, c2, rfl, l2, g2⟩, ⟨_, _, rfl, ⟨A3, c3, rfl, l3, g3⟩, rfl⟩⟩⟩⟩ := h
  exact ⟨A2, c2, A3, c3, rfl, l2, g2, l3, g3⟩
theorem k79_openM {w : World} {base : Nat} {ok : Nat → Prop} {x : S79} {cs : List Value} (h : k79.M w base ok x cs) : ∃ v2 v3, cs = [.string x.f0, .bool x.f1, v2, v3, .int .i64 x.f4] ∧ (Kd.int .i64).R 3 w base ok v2 x.f2 ∧ k101.R 101 w base ok v3 x.f3 := by
  obtain ⟨_, _, rfl, rfl, ⟨_, _, rfl, rfl, ⟨_, _, rfl, ⟨v2, rfl, g2⟩, ⟨_, _, rfl, ⟨v3, rfl, g3⟩, rfl⟩⟩⟩⟩ := h
  exact ⟨v2, v3, rfl, g2, g3⟩
theorem k79_mk (w : World) (x : S79) {A2 : Option Addr} {c2 : Nat} (l2 : x.f2.length ≤ c2) (g2 : (Kd.int .i64).C w A2 x.f2.length x.f2) {A3 : Option Addr} {c3 : Nat} (l3 : x.f3.length ≤ c3) (g3 : k101.C w A3 x.f3.length x.f3) : k79.K w x [.string x.f0, .bool x.f1, .slice A2 x.f2.length c2, .slice A3 x.f3.length c3, .int .i64 x.f4] := ⟨[.string x.f0], [.bool x.f1, .slice A2 x.f2.length c2, .slice A3 x.f3.length c3, .int .i64 x.f4], rfl, rfl, ⟨[.bool x.f1], [.slice A2 x.f2.length c2, .slice A3 x.f3.length c3, .int .i64 x.f4], rfl, rfl, ⟨[.slice A2 x.f2.length c2], [.slice A3 x.f3.length c3, .int .i64 x.f4], rfl, ⟨A2, c2, rfl, l2, g2⟩, ⟨[.slice A3 x.f3.length c3], [.int .i64 x.f4], rfl, ⟨A3, c3, rfl, l3, g3⟩, rfl⟩⟩⟩⟩
theorem k79_mkM (w : World) (base : Nat) (ok : Nat → Prop) (x : S79) {v2 : Value} (g2 : (Kd.int .i64).R 3 w base ok v2 x.f2) {v3 : Value} (g3 : k101.R 101 w base ok v3 x.f3) : k79.M w base ok x [.string x.f0, .bool x.f1, v2, v3, .int .i64 x.f4] := ⟨[.string x.f0], [.bool x.f1, v2, v3, .int .i64 x.f4], rfl, rfl, ⟨[.bool x.f1], [v2, v3, .int .i64 x.f4], rfl, rfl, ⟨[v2], [v3, .int .i64 x.f4], rfl, ⟨v2, rfl, g2⟩, ⟨[v3], [.int .i64 x.f4], rfl, ⟨v3, rfl, g3⟩, rfl⟩⟩⟩⟩
theorem k79_openF {W : World} {ok : Nat → Prop} {x : S79} {cs : List Value} (h : Kd.FK k79 W ok x cs) : ∃ A2 c2 A3 c3, cs = [.string x.f0, .bool x.f1, .slice A2 x.f2.length c2, .slice A3 x.f3.length c3, .int .i64 x.f4] ∧ x.f2.length ≤ c2 ∧ Kd.F (Kd.int .i64) W ok A2 x.f2.length x.f2 ∧ x.f3.length ≤ c3 ∧ Kd.F k101 W ok A3 x.f3.length x.f3 := by
  obtain ⟨A2, c2, A3, c3, rfl, l2, _, l3, _⟩ := k79_open (Kd.FK_now h)
  exact ⟨A2, c2, A3, c3, rfl, l2, (fun W' hW => by obtain ⟨A2_, c2_, A3_, c3_, he, l2_, g2_, l3_, g3_⟩ := k79_open (h W' hW); injection (Option.some.inj (show some (Value.slice A2 x.f2.length c2) = some (Value.slice A2_ x.f2.length c2_) from congrArg (fun l => l[2]?) he)) with ha_ _ _; rw [ha_]; exact g2_), l3, (fun W' hW => by obtain ⟨A2_, c2_, A3_, c3_, he, l2_, g2_, l3_, g3_⟩ := k79_open (h W' hW); injection (Option.some.inj (show some (Value.slice A3 x.f3.length c3) = some (Value.slice A3_ x.f3.length c3_) from congrArg (fun l => l[3]?) he)) with ha_ _ _; rw [ha_]; exact g3_)⟩
theorem k79_mkF (W : World) (ok : Nat → Prop) (x : S79) {A2 : Option Addr} {c2 : Nat} (l2 : x.f2.length ≤ c2) (g2 : Kd.F (Kd.int .i64) W ok A2 x.f2.length x.f2) {A3 : Option Addr} {c3 : Nat} (l3 : x.f3.length ≤ c3) (g3 : Kd.F k101 W ok A3 x.f3.length x.f3) : Kd.FK k79 W ok x [.string x.f0, .bool x.f1, .slice A2 x.f2.length c2, .slice A3 x.f3.length c3, .int .i64 x.f4] := fun W2 hW => k79_mk W2 x l2 (g2 W2 hW) l3 (g3 W2 hW)
def rd_T79 (xs : List S79) (i : Int) : S79 := xs.getD i.toNat z79
theorem at_T79 {w : World} {A : Option Addr} {n : Nat} {xs : List S79} (h : Kd.C k79 w A n xs) (i : Int) (h0 : 0 ≤ i) (h1 : i < n) : ∃ ad A2 c2 A3 c3, A = some ad ∧ w.cell? (ad.add (i.toNat * 5)) = some (.string (rd_T79 xs i).f0) ∧ w.cell? ⟨(ad.add (i.toNat * 5)).block, (ad.add (i.toNat * 5)).off + 1, none⟩ = some (.bool (rd_T79 xs i).f1) ∧ w.cell? ⟨(ad.add (i.toNat * 5)).block, (ad.add (i.toNat * 5)).off + 2, none⟩ = some (.slice A2 (rd_T79 xs i).f2.length c2) ∧ w.cell? ⟨(ad.add (i.toNat * 5)).block, (ad.add (i.toNat * 5)).off + 3, none⟩ = some (.slice A3 (rd_T79 xs i).f3.length c3) ∧ w.cell? ⟨(ad.add (i.toNat * 5)).block, (ad.add (i.toNat * 5)).off + 4, none⟩ = some (.int .i64 (rd_T79 xs i).f4) ∧ (rd_T79 xs i).f2.length ≤ c2 ∧ (Kd.int .i64).C w A2 (rd_T79 xs i).f2.length (rd_T79 xs i).f2 ∧ (rd_T79 xs i).f3.length ≤ c3 ∧ k101.C w A3 (rd_T79 xs i).f3.length (rd_T79 xs i).f3 := by
  obtain ⟨ad, c, e, _, hK, hc0⟩ := Kd.C_get h z79 i h0 h1
  have hc : ∀ j u, c[j]? = some u → w.cell? (ad.add (i.toNat * 5 + j)) = some u := hc0
  obtain ⟨A2, c2, A3, c3, rfl, l2, g2, l3, g3⟩ := k79_open hK
  exact ⟨ad, A2, c2, A3, c3, e, hc 0 _ rfl, by rw [← add_field _ _ 1 (by omega)]; exact hc 1 _ rfl, by rw [← add_field _ _ 2 (by omega)]; exact hc 2 _ rfl, by rw [← add_field _ _ 3 (by omega)]; exact hc 3 _ rfl, by rw [← add_field _ _ 4 (by omega)]; exact hc 4 _ rfl, l2, g2, l3, g3⟩

def rd_L8 (xs : List (List Int)) (i : Int) : (List Int) := xs.getD i.toNat ([] : List Int)
theorem at_L8 {w : World} {A : Option Addr} {n : Nat} {xs : List (List Int)} (h : Kd.C (Kd.slice 5 (Kd.int .u8)) w A n xs) (i : Int) (h0 : 0 ≤ i) (h1 : i < n) : ∃ ad A0 c0, A = some ad ∧ w.cell? (ad.add i.toNat) = some (.slice A0 (rd_L8 xs i).length c0) ∧ (rd_L8 xs i).length ≤ c0 ∧ (Kd.int .u8).C w A0 (rd_L8 xs i).length (rd_L8 xs i) := by
  obtain ⟨ad, c, e, _, hK, hc0⟩ := Kd.C_get h ([] : List Int) i h0 h1
  have hc : ∀ j u, c[j]? = some u → w.cell? (ad.add (i.toNat * 1 + j)) = some u := hc0
  obtain ⟨A0, c0, rfl, l0, g0⟩ := hK
  exact ⟨ad, A0, c0, e, by have hq := hc 0 _ rfl; rwa [Nat.mul_one, Nat.add_zero] at hq, l0, g0⟩

def rd_L9 (xs : List (List S79)) (i : Int) : (List S79) := xs.getD i.toNat ([] : List S79)
theorem at_L9 {w : World} {A : Option Addr} {n : Nat} {xs : List (List S79)} (h : Kd.C (Kd.slice 79 k79) w A n xs) (i : Int) (h0 : 0 ≤ i) (h1 : i < n) : ∃ ad A0 c0, A = some ad ∧ w.cell? (ad.add i.toNat) = some (.slice A0 (rd_L9 xs i).length c0) ∧ (rd_L9 xs i).length ≤ c0 ∧ k79.C w A0 (rd_L9 xs i).length (rd_L9 xs i) := by
  obtain ⟨ad, c, e, _, hK, hc0⟩ := Kd.C_get h ([] : List S79) i h0 h1
  have hc : ∀ j u, c[j]? = some u → w.cell? (ad.add (i.toNat * 1 + j)) = some u := hc0
  obtain ⟨A0, c0, rfl, l0, g0⟩ := hK
  exact ⟨ad, A0, c0, e, by have hq := hc 0 _ rfl; rwa [Nat.mul_one, Nat.add_zero] at hq, l0, g0⟩

/-! #### struct type 31 -/
structure S31 where
  f0 : Int
  f1 : Int
  f2 : (List Int)
  f3 : (List Int)
  f4 : (List S101)
  f5 : (List S79)
  f6 : (List Int)
  f7 : Bool
def z31 : S31 := ⟨(0 : Int), (0 : Int), ([] : List Int), ([] : List Int), ([] : List S101), ([] : List S79), ([] : List Int), false⟩
def k31 : Kd S31 := Kd.iso (Kd.pair (Kd.int .i64) (Kd.pair (Kd.int .i64) (Kd.pair (Kd.slice 5 (Kd.int .u8)) (Kd.pair (Kd.slice 3 (Kd.int .i64)) (Kd.pair (Kd.slice 101 k101) (Kd.pair (Kd.slice 79 k79) (Kd.pair (Kd.slice 3 (Kd.int .i64)) Kd.bool))))))) (fun x : S31 => (x.f0, x.f1, x.f2, x.f3, x.f4, x.f5, x.f6, x.f7))
theorem k31_open {w : World} {x : S31} {cs : List Value} (h : k31.K w x cs) : ∃ A2 c2 A3 c3 A4 c4 A5 c5 A6 c6, cs = [.int .i64 x.f0, .int .i64 x.f1, .slice A2 x.f2.length c2, .slice A3 x.f3.length c3, .slice A4 x.f4.length c4, .slice A5 x.f5.length c5, .slice A6 x.f6.length c6, .bool x.f7] ∧ x.f2.length ≤ c2 ∧ (Kd.int .u8).C w A2 x.f2.length x.f2 ∧ x.f3.length ≤ c3 ∧ (Kd.int .i64).C w A3 x.f3.length x.f3 ∧ x.f4.length ≤ c4 ∧ k101.C w A4 x.f4.length x.f4 ∧ x.f5.length ≤ c5 ∧ k79.C w A5 x.f5.length x.f5 ∧ x.f6.length ≤ c6 ∧ (Kd.int .i64).C w A6 x.f6.length x.f6 := by
  obtain ⟨_, _, rfl, rfl, ⟨_, _, rfl, rfl, ⟨_, _, rfl, ⟨A2, c2, rfl, l2, g2⟩, ⟨_, _, rfl, ⟨A3, c3, rfl, l3, g3⟩, ⟨_, _, rfl, ⟨A4, c4, rfl, l4, g4⟩, ⟨_, _, rfl, ⟨A5, c5, rfl, l5, g5⟩, ⟨_, _, rfl, ⟨A6, c6, rfl, l6, g6⟩, rfl⟩⟩⟩⟩⟩⟩⟩ := h
  exact ⟨A2, c2, A3, c3, A4, c4, A5, c5, A6, c6, rfl, l2, g2, l3, g3, l4, g4, l5, g5, l6, g6⟩
theorem k31_openM {w : World} {base : Nat} {ok : Nat → Prop} {x : S31} {cs : List Value} (h : k31.M w base ok x cs) : ∃ v2 v3 v4 v5 v6, cs = [.int .i64 x.f0, .int .i64 x.f1, v2, v3, v4, v5, v6, .bool x.f7] ∧ (Kd.int .u8).R 5 w base ok v2 x.f2 ∧ (Kd.int .i64).R 3 w base ok v3 x.f3 ∧ k101.R 101 w base ok v4 x.f4 ∧ k79.R 79 w base ok v5 x.f5 ∧ (Kd.int .i64).R 3 w base ok v6 x.f6 := by
  obtain ⟨_, _, rfl, rfl, ⟨_, _, rfl, rfl, ⟨_, _, rfl, ⟨v2, rfl, g2⟩, ⟨_, _, rfl, ⟨v3, rfl, g3⟩, ⟨_, _, rfl, ⟨v4, rfl, g4⟩, ⟨_, _, rfl, ⟨v5, rfl, g5⟩, ⟨_, _, rfl, ⟨v6, rfl, g6⟩, rfl⟩⟩⟩⟩⟩⟩⟩ := h
  exact ⟨v2, v3, v4, v5, v6, rfl, g2, g3, g4, g5, g6⟩
theorem k31_mk (w : World) (x : S31) {A2 : Option Addr} {c2 : Nat} (l2 : x.f2.length ≤ c2) (g2 : (Kd.int .u8).C w A2 x.f2.length x.f2) {A3 : Option Addr} {c3 : Nat} (l3 : x.f3.length ≤ c3) (g3 : (Kd.int .i64).C w A3 x.f3.length x.f3) {A4 : Option Addr} {c4 : Nat} (l4 : x.f4.length ≤ c4) (g4 : k101.C w A4 x.f4.length x.f4) {A5 : Option Addr} {c5 : Nat} (l5 : x.f5.length ≤ c5) (g5 : k79.C w A5 x.f5.length x.f5) {A6 : Option Addr} {c6 : Nat} (l6 : x.f6.length ≤ c6) (g6 : (Kd.int .i64).C w A6 x.f6.length x.f6) : k31.K w x [.int .i64 x.f0, .int .i64 x.f1, .slice A2 x.f2.length c2, .slice A3 x.f3.length c3, .slice A4 x.f4.length c4, .slice A5 x.f5.length c5, .slice A6 x.f6.length c6, .bool x.f7] := ⟨[.int .i64 x.f0], [.int .i64 x.f1, .slice A2 x.f2.length c2, .slice A3 x.f3.length c3, .slice A4 x.f4.length c4, .slice A5 x.f5.length c5, .slice A6 x.f6.length c6, .bool x.f7], rfl, rfl, ⟨[.int .i64 x.f1], [.slice A2 x.f2.length c2, .slice A3 x.f3.length c3, .slice A4 x.f4.length c4, .slice A5 x.f5.length c5, .slice A6 x.f6.length c6, .bool x.f7], rfl, rfl, ⟨[.slice A2 x.f2.length c2], [.slice A3 x.f3.length c3, .slice A4 x.f4.length c4, .slice A5 x.f5.length c5, .slice A6 x.f6.length c6, .bool x.f7], rfl, ⟨A2, c2, rfl, l2, g2⟩, ⟨[.slice A3 x.f3.length c3], [.slice A4 x.f4.length c4, .slice A5 x.f5.length c5, .slice A6 x.f6.length c6, .bool x.f7], rfl, ⟨A3, c3, rfl, l3, g3⟩, ⟨[.slice A4 x.f4.length c4], [.slice A5 x.f5.length c5, .slice A6 x.f6.length c6, .bool x.f7], rfl, ⟨A4, c4, rfl, l4, g4⟩, ⟨[.slice A5 x.f5.length c5], [.slice A6 x.f6.length c6, .bool x.f7], rfl, ⟨A5, c5, rfl, l5, g5⟩, ⟨[.slice A6 x.f6.length c6], [.bool x.f7], rfl, ⟨A6, c6, rfl, l6, g6⟩, rfl⟩⟩⟩⟩⟩⟩⟩
theorem k31_mkM (w : World) (base : Nat) (ok : Nat → Prop) (x : S31) {v2 : Value} (g2 : (Kd.int .u8).R 5 w base ok v2 x.f2) {v3 : Value} (g3 : (Kd.int .i64).R 3 w base ok v3 x.f3) {v4 : Value} (g4 : k101.R 101 w base ok v4 x.f4) {v5 : Value} (g5 : k79.R 79 w base ok v5 x.f5) {v6 : Value} (g6 : (Kd.int .i64).R 3 w base ok v6 x.f6) : k31.M w base ok x [.int .i64 x.f0, .int .i64 x.f1, v2, v3, v4, v5, v6, .bool x.f7] := ⟨[.int .i64 x.f0], [.int .i64 x.f1, v2, v3, v4, v5, v6, .bool x.f7], rfl, rfl, ⟨[.int .i64 x.f1], [v2, v3, v4, v5, v6, .bool x.f7], rfl, rfl, ⟨[v2], [v3, v4, v5, v6, .bool x.f7], rfl, ⟨v2, rfl, g2⟩, ⟨[v3], [v4, v5, v6, .bool x.f7], rfl, ⟨v3, rfl, g3⟩, ⟨[v4], [v5, v6, .bool x.f7], rfl, ⟨v4, rfl, g4⟩, ⟨[v5], [v6, .bool x.f7], rfl, ⟨v5, rfl, g5⟩, ⟨[v6], [.bool x.f7], rfl, ⟨v6, rfl, g6⟩, rfl⟩⟩⟩⟩⟩⟩⟩
theorem k31_openF {W : World} {ok : Nat → Prop} {x : S31} {cs : List Value} (h : Kd.FK k31 W ok x cs) : ∃ A2 c2 A3 c3 A4 c4 A5 c5 A6 c6, cs = [.int .i64 x.f0, .int .i64 x.f1, .slice A2 x.f2.length c2, .slice A3 x.f3.length c3, .slice A4 x.f4.length c4, .slice A5 x.f5.length c5, .slice A6 x.f6.length c6, .bool x.f7] ∧ x.f2.length ≤ c2 ∧ Kd.F (Kd.int .u8) W ok A2 x.f2.length x.f2 ∧ x.f3.length ≤ c3 ∧ Kd.F (Kd.int .i64) W ok A3 x.f3.length x.f3 ∧ x.f4.length ≤ c4 ∧ Kd.F k101 W ok A4 x.f4.length x.f4 ∧ x.f5.length ≤ c5 ∧ Kd.F k79 W ok A5 x.f5.length x.f5 ∧ x.f6.length ≤ c6 ∧ Kd.F (Kd.int .i64) W ok A6 x.f6.length x.f6 := by
  obtain ⟨A2, c2, A3, c3, A4, c4, A5, c5, A6, c6, rfl, l2, _, l3, _, l4, _, l5, _, l6, _⟩ := k31_open (Kd.FK_now h)
  exact ⟨A2, c2, A3, c3, A4, c4, A5, c5, A6, c6, rfl, l2, (fun W' hW => by obtain ⟨A2_, c2_, A3_, c3_, A4_, c4_, A5_, c5_, A6_, c6_, he, l2_, g2_, l3_, g3_, l4_, g4_, l5_, g5_, l6_, g6_⟩ := k31_open (h W' hW); injection (Option.some.inj (show some (Value.slice A2 x.f2.length c2) = some (Value.slice A2_ x.f2.length c2_) from congrArg (fun l => l[2]?) he)) with ha_ _ _; rw [ha_]; exact g2_), l3, (fun W' hW => by obtain ⟨A2_, c2_, A3_, c3_, A4_, c4_, A5_, c5_, A6_, c6_, he, l2_, g2_, l3_, g3_, l4_, g4_, l5_, g5_, l6_, g6_⟩ := k31_open (h W' hW); injection (Option.some.inj (show some (Value.slice A3 x.f3.length c3) = some (Value.slice A3_ x.f3.length c3_) from congrArg (fun l => l[3]?) he)) with ha_ _ _; rw [ha_]; exact g3_), l4, (fun W' hW => by obtain ⟨A2_, c2_, A3_, c3_, A4_, c4_, A5_, c5_, A6_, c6_, he, l2_, g2_, l3_, g3_, l4_, g4_, l5_, g5_, l6_, g6_⟩ := k31_open (h W' hW); injection (Option.some.inj (show some (Value.slice A4 x.f4.length c4) = some (Value.slice A4_ x.f4.length c4_) from congrArg (fun l => l[4]?) he)) with ha_ _ _; rw [ha_]; exact g4_), l5, (fun W' hW => by obtain ⟨A2_, c2_, A3_, c3_, A4_, c4_, A5_, c5_, A6_, c6_, he, l2_, g2_, l3_, g3_, l4_, g4_, l5_, g5_, l6_, g6_⟩ := k31_open (h W' hW); injection (Option.some.inj (show some (Value.slice A5 x.f5.length c5) = some (Value.slice A5_ x.f5.length c5_) from congrArg (fun l => l[5]?) he)) with ha_ _ _; rw [ha_]; exact g5_), l6, (fun W' hW => by obtain ⟨A2_, c2_, A3_, c3_, A4_, c4_, A5_, c5_, A6_, c6_, he, l2_, g2_, l3_, g3_, l4_, g4_, l5_, g5_, l6_, g6_⟩ := k31_open (h W' hW); injection (Option.some.inj (show some (Value.slice A6 x.f6.length c6) = some (Value.slice A6_ x.f6.length c6_) from congrArg (fun l => l[6]?) he)) with ha_ _ _; rw [ha_]; exact g6_)⟩
theorem k31_mkF (W : World) (ok : Nat → Prop) (x : S31) {A2 : Option Addr} {c2 : Nat} (l2 : x.f2.length ≤ c2) (g2 : Kd.F (Kd.int .u8) W ok A2 x.f2.length x.f2) {A3 : Option Addr} {c3 : Nat} (l3 : x.f3.length ≤ c3) (g3 : Kd.F (Kd.int .i64) W ok A3 x.f3.length x.f3) {A4 : Option Addr} {c4 : Nat} (l4 : x.f4.length ≤ c4) (g4 : Kd.F k101 W ok A4 x.f4.length x.f4) {A5 : Option Addr} {c5 : Nat} (l5 : x.f5.length ≤ c5) (g5 : Kd.F k79 W ok A5 x.f5.length x.f5) {A6 : Option Addr} {c6 : Nat} (l6 : x.f6.length ≤ c6) (g6 : Kd.F (Kd.int .i64) W ok A6 x.f6.length x.f6) : Kd.FK k31 W ok x [.int .i64 x.f0, .int .i64 x.f1, .slice A2 x.f2.length c2, .slice A3 x.f3.length c3, .slice A4 x.f4.length c4, .slice A5 x.f5.length c5, .slice A6 x.f6.length c6, .bool x.f7] := fun W2 hW => k31_mk W2 x l2 (g2 W2 hW) l3 (g3 W2 hW) l4 (g4 W2 hW) l5 (g5 W2 hW) l6 (g6 W2 hW)
def rd_T31 (xs : List S31) (i : Int) : S31 := xs.getD i.toNat z31
theorem at_T31 {w : World} {A : Option Addr} {n : Nat} {xs : List S31} (h : Kd.C k31 w A n xs) (i : Int) (h0 : 0 ≤ i) (h1 : i < n) : ∃ ad A2 c2 A3 c3 A4 c4 A5 c5 A6 c6, A = some ad ∧ w.cell? (ad.add (i.toNat * 8)) = some (.int .i64 (rd_T31 xs i).f0) ∧ w.cell? ⟨(ad.add (i.toNat * 8)).block, (ad.add (i.toNat * 8)).off + 1, none⟩ = some (.int .i64 (rd_T31 xs i).f1) ∧ w.cell? ⟨(ad.add (i.toNat * 8)).block, (ad.add (i.toNat * 8)).off + 2, none⟩ = some (.slice A2 (rd_T31 xs i).f2.length c2) ∧ w.cell? ⟨(ad.add (i.toNat * 8)).block, (ad.add (i.toNat * 8)).off + 3, none⟩ = some (.slice A3 (rd_T31 xs i).f3.length c3) ∧ w.cell? ⟨(ad.add (i.toNat * 8)).block, (ad.add (i.toNat * 8)).off + 4, none⟩ = some (.slice A4 (rd_T31 xs i).f4.length c4) ∧ w.cell? ⟨(ad.add (i.toNat * 8)).block, (ad.add (i.toNat * 8)).off + 5, none⟩ = some (.slice A5 (rd_T31 xs i).f5.length c5) ∧ w.cell? ⟨(ad.add (i.toNat * 8)).block, (ad.add (i.toNat * 8)).off + 6, none⟩ = some (.slice A6 (rd_T31 xs i).f6.length c6) ∧ w.cell? ⟨(ad.add (i.toNat * 8)).block, (ad.add (i.toNat * 8)).off + 7, none⟩ = some (.bool (rd_T31 xs i).f7) ∧ (rd_T31 xs i).f2.length ≤ c2 ∧ (Kd.int .u8).C w A2 (rd_T31 xs i).f2.length (rd_T31 xs i).f2 ∧ (rd_T31 xs i).f3.length ≤ c3 ∧ (Kd.int .i64).C w A3 (rd_T31 xs i).f3.length (rd_T31 xs i).f3 ∧ (rd_T31 xs i).f4.length ≤ c4 ∧ k101.C w A4 (rd_T31 xs i).f4.length (rd_T31 xs i).f4 ∧ (rd_T31 xs i).f5.length ≤ c5 ∧ k79.C w A5 (rd_T31 xs i).f5.length (rd_T31 xs i).f5 ∧ (rd_T31 xs i).f6.length ≤ c6 ∧ (Kd.int .i64).C w A6 (rd_T31 xs i).f6.length (rd_T31 xs i).f6 := by
  obtain ⟨ad, c, e, _, hK, hc0⟩ := Kd.C_get h z31 i h0 h1
  have hc : ∀ j u, c[j]? = some u → w.cell? (ad.add (i.toNat * 8 + j)) = some u := hc0
  obtain ⟨A2, c2, A3, c3, A4, c4, A5, c5, A6, c6, rfl, l2, g2, l3, g3, l4, g4, l5, g5, l6, g6⟩ := k31_open hK
  exact ⟨ad, A2, c2, A3, c3, A4, c4, A5, c5, A6, c6, e, hc 0 _ rfl, by rw [← add_field _ _ 1 (by omega)]; exact hc 1 _ rfl, by rw [← add_field _ _ 2 (by omega)]; exact hc 2 _ rfl, by rw [← add_field _ _ 3 (by omega)]; exact hc 3 _ rfl, by rw [← add_field _ _ 4 (by omega)]; exact hc 4 _ rfl, by rw [← add_field _ _ 5 (by omega)]; exact hc 5 _ rfl, by rw [← add_field _ _ 6 (by omega)]; exact hc 6 _ rfl, by rw [← add_field _ _ 7 (by omega)]; exact hc 7 _ rfl, l2, g2, l3, g3, l4, g4, l5, g5, l6, g6⟩

def rd_L11 (xs : List (List S31)) (i : Int) : (List S31) := xs.getD i.toNat ([] : List S31)
theorem at_L11 {w : World} {A : Option Addr} {n : Nat} {xs : List (List S31)} (h : Kd.C (Kd.slice 31 k31) w A n xs) (i : Int) (h0 : 0 ≤ i) (h1 : i < n) : ∃ ad A0 c0, A = some ad ∧ w.cell? (ad.add i.toNat) = some (.slice A0 (rd_L11 xs i).length c0) ∧ (rd_L11 xs i).length ≤ c0 ∧ k31.C w A0 (rd_L11 xs i).length (rd_L11 xs i) := by
  obtain ⟨ad, c, e, _, hK, hc0⟩ := Kd.C_get h ([] : List S31) i h0 h1
  have hc : ∀ j u, c[j]? = some u → w.cell? (ad.add (i.toNat * 1 + j)) = some u := hc0
  obtain ⟨A0, c0, rfl, l0, g0⟩ := hK
  exact ⟨ad, A0, c0, e, by have hq := hc 0 _ rfl; rwa [Nat.mul_one, Nat.add_zero] at hq, l0, g0⟩

end Go.Proofs.Ytpcephbhnbfcmaa.R
