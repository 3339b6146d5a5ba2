-- Written by this session's program fork.py: a Lean function for each Go function and its walk. Not trusted: Lean checks it.
import Derived.Test.YtpcephbhnbfcmaaProg
import Derived.Below
import Derived.Deep.Draws
import Derived.Deep.AppendLies
import Derived.Maps.AppendAt
import Derived.OwnWalk
import Derived.Laws.BytesArg
import Derived.Laws.MakeOwn
import Derived.Laws.OwnMore
import Derived.Deep.OwnRows
import Derived.Tactics
import Derived.Lib.ConvBytes
import Derived.Laws.Slices
import Derived.WalkKit
import Derived.KernelRfl
import Derived.RowKit3
import Derived.Deep.LoopGhost
import Derived.Deep.QuietTactic
import Derived.BigQuiet
import Derived.WideLaws
import Derived.Deep.DeepCutAuto
import Derived.Deep.CutBlock
import Derived.Deep.RegionHeld3
import Derived.Laws.Rows
import Derived.Lib.AppendStr
import Derived.ArgAppend
import Derived.Laws.IdiomCopy
import Derived.OrdersHeld
import Derived.Laws.BitsLemmas
import Derived.RowKit
import Derived.WalkSpells
import Derived.Lib.SliceRun
import Derived.Lib.Strings
import Derived.Lib.Slices
import Derived.Lib.Small
import Derived.Lib.Walk
import Derived.Lib.BitFns
import Derived.Laws.CopyOwn
import Derived.Lib.MakeNoZero
import Derived.Laws.Externs
import Derived.Test.YtpcephbhnbfcmaaWWords
import Derived.Test.YtpcephbhnbfcmaaWLast
import Derived.Test.YtpcephbhnbfcmaaWTab
import Derived.Test.YtpcephbhnbfcmaaWFour
import Derived.Test.YtpcephbhnbfcmaaWQPut
import Derived.Test.YtpcephbhnbfcmaaWApart
import Derived.Test.YtpcephbhnbfcmaaWArr
import Derived.Test.YtpcephbhnbfcmaaWZeros
import Derived.Test.YtpcephbhnbfcmaaWFoot
import Derived.Test.YtpcephbhnbfcmaaWKept
import Derived.Test.YtpcephbhnbfcmaaWShare
import Derived.Test.YtpcephbhnbfcmaaWN
import Derived.Test.YtpcephbhnbfcmaaWFootNe
import Derived.Test.YtpcephbhnbfcmaaWAt
import Derived.Test.YtpcephbhnbfcmaaWEqStruct
import Derived.Test.YtpcephbhnbfcmaaWRepsOne
import Derived.Test.YtpcephbhnbfcmaaWInv
import Derived.Test.YtpcephbhnbfcmaaWInvWords
import Derived.Test.YtpcephbhnbfcmaaWGuard
import Derived.Test.YtpcephbhnbfcmaaWNEv
import Derived.Test.YtpcephbhnbfcmaaWMore
namespace Go.Proofs.Ytpcephbhnbfcmaa.D
open Go.RowKit Go.Proofs.YtpcephbhnbfcmaaW.PrintWords Go.Proofs.YtpcephbhnbfcmaaW.PrintLast Go.Proofs.YtpcephbhnbfcmaaW.PrintMore
attribute [local go_sem] max2_int min2_int max_two min_two max_three min_three max_four min_four   -- for this text's walks alone
set_option linter.unusedVariables false
set_option linter.unusedSimpArgs false



def errW : Option Int → Value
  | none => .nilIface
  | some c => .iface 0 (.int .i64 c)
theorem errW_none : errW none = .nilIface := rfl
theorem errW_some (c : Int) : errW (some c) = .iface 0 (.int .i64 c) := rfl

/-! ### short words for what the walks show again and again -/
theorem od_ {p : Prop} [Decidable p] (h : decide p = true := by first | (with_reducible assumption) | assumption) : p := of_decide_eq_true h
theorem bk_ {p q : Prop} (h : p) (hl : p → q := by intro h_; (with_reducible repeat (first | refine blk_drewN ?_ _ | refine blk_drew ?_ | refine blk_alloc ?_ _)); exact h_) : q := hl h
theorem kV_ {p q : Prop} (h : p) (hl : p → q := by intro h_; (with_reducible repeat (first | apply Kd.V_alloc | apply Kd.V_drewN | apply Kd.V_drew)); exact h_) : q := hl h
theorem kR_ {p q : Prop} (h : p) (hl : p → q := by intro h_; (with_reducible repeat (first | apply Kd.R_alloc | apply Kd.R_drewN | apply Kd.R_drew)); exact h_) : q := hl h
theorem kN_ {p q : Prop} (h : p) (hl : p → q := by intro h_; (with_reducible repeat (first | apply Kd.N_alloc | apply Kd.N_drewN | apply Kd.N_drew)); exact h_) : q := hl h
theorem kS_ {p q : Prop} (h : p) (hl : p → q := by intro h_; (with_reducible repeat (first | apply Kd.S_alloc | apply Kd.S_drewN | apply Kd.S_drew)); exact h_) : q := hl h
theorem kC_ {p q : Prop} (h : p) (hl : p → q := by intro h_; repeat (first | (with_reducible exact h_) | (with_reducible refine Kd.C_alloc ?_ _) | (with_reducible refine Kd.C_drewN ?_ _) | (with_reducible refine Kd.C_drew ?_) | exact h_)) : q := hl h
theorem hb0_ {p q : Prop} (h : p) (hl : p → q := by intro h_; repeat (first | (with_reducible first | exact h_ | apply below_alloc | apply pw_below_drewN | apply below_drew1) | exact h_)) : q := hl h
theorem hb1_ {p q a : Prop} (h : p) (x : a) (hl : p → a → q := by intro h_ x_; repeat (first | (with_reducible first | exact h_ | apply below_alloc | apply pw_below_drewN | apply below_drew1 | refine below_set ?_ x_) | exact h_)) : q := hl h x
theorem hb2_ {p q a b : Prop} (h : p) (x : a) (y : b) (hl : p → a → b → q := by intro h_ x_ y_; repeat (first | (with_reducible first | exact h_ | apply below_alloc | apply pw_below_drewN | apply below_drew1 | refine below_set ?_ x_ | refine below_set ?_ y_) | exact h_)) : q := hl h x y
theorem hb3_ {p q a b c : Prop} (h : p) (x : a) (y : b) (z : c) (hl : p → a → b → c → q := by intro h_ x_ y_ z_; repeat (first | (with_reducible first | exact h_ | apply below_alloc | apply pw_below_drewN | apply below_drew1 | refine below_set ?_ x_ | refine below_set ?_ y_ | refine below_set ?_ z_) | exact h_)) : q := hl h x y z
theorem hb4_ {p q a b c d : Prop} (h : p) (x : a) (y : b) (z : c) (u : d) (hl : p → a → b → c → d → q := by intro h_ x_ y_ z_ u_; repeat (first | (with_reducible first | exact h_ | apply below_alloc | apply pw_below_drewN | apply below_drew1 | refine below_set ?_ x_ | refine below_set ?_ y_ | refine below_set ?_ z_ | refine below_set ?_ u_) | exact h_)) : q := hl h x y z u

theorem info3 : (Try.prog.info? 3).map (fun i => (i.zero, i.size, i.bytes)) = some (some (.int .i64 0), 1, 8) := by kernel_rfl
theorem info5 : (Try.prog.info? 5).map (fun i => (i.zero, i.size, i.bytes)) = some (some (.int .u8 0), 1, 1) := by kernel_rfl
-- the values' own types
def rd_L2 (xs : List (List Int)) (i : Int) : (List Int) := xs.getD i.toNat ([] : List Int)
theorem at_L2 {w : World} {A : Option Addr} {n : Nat} {xs : List (List Int)} (h : Kd.C (Kd.slice 5 (Kd.int .u8)) w A n xs) (i : Int) (h0 : 0 ≤ i) (h1 : i < n) : ∃ ad A0 c0, A = some ad ∧ w.cell? (ad.add i.toNat) = some (.slice A0 (rd_L2 xs i).length c0) ∧ (rd_L2 xs i).length ≤ c0 ∧ (Kd.int .u8).C w A0 (rd_L2 xs i).length (rd_L2 xs i) := by
  obtain ⟨ad, c, e, _, hK, hc0⟩ := Kd.C_get h ([] : List Int) i h0 h1
  have hc : ∀ j u, c[j]? = some u → w.cell? (ad.add (i.toNat * 1 + j)) = some u := hc0
  obtain ⟨A0, c0, rfl, l0, g0⟩ := hK
  exact ⟨ad, A0, c0, e, by have hq := hc 0 _ rfl; rwa [Nat.mul_one, Nat.add_zero] at hq, l0, g0⟩

end Go.Proofs.Ytpcephbhnbfcmaa.D
