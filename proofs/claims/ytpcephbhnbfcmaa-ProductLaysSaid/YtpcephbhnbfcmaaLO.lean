/- What came in, laid open: from the datum's reading to the rows that the walk takes. -/
import Derived.Test.YtpcephbhnbfcmaaL0
import Derived.ChangeArms
import Derived.ChangeSlices
import Derived.DataReads
import Derived.DataElems
namespace Go.Proofs.Ytpcephbhnbfcmaa.L
open Go.RowKit Go.Proofs.YtpcephbhnbfcmaaW.PrintWords Go.Proofs.YtpcephbhnbfcmaaW.PrintLast Go.Proofs.YtpcephbhnbfcmaaW.PrintMore
attribute [local go_sem] max2_int min2_int max_two min_two max_three min_three max_four min_four   -- for this text's walks alone
set_option linter.unusedVariables false
set_option linter.unusedSimpArgs false
/-! ### what came in, laid open: rows of rows and of records (the kinds of k101, k79, k31) -/
section
variable {H : Type} {enc : TypeId × Value → H} {W : World} {α : Type}
theorem pick_ {P : Nat → α → Prop} : ∀ n : Nat, (∀ i, i < n → ∃ y, P i y) → ∃ ys : List α, ys.length = n ∧ ∀ i y, ys[i]? = some y → P i y
  | 0, _ => ⟨[], rfl, fun i y h => by simp at h⟩
  | n + 1, h => by
    obtain ⟨ys, hl, hp⟩ := pick_ n (fun i hi => h i (by omega))
    obtain ⟨z, hz⟩ := h n (by omega)
    refine ⟨ys ++ [z], by simp [hl], fun i y hy => ?_⟩
    by_cases hi : i < n
    · rw [List.getElem?_append_left (by omega)] at hy
      exact hp i y hy
    · rw [List.getElem?_append_right (by omega)] at hy
      obtain rfl : i = n := by
        have := (List.getElem?_eq_some_iff.1 hy).1
        simp at this
        omega
      simp [hl] at hy
      rw [← hy]
      exact hz
/-- A row whose elements can be laid open. -/
theorem open_row {t e n : Nat} {d : Kd α} {Q : α → Prop} {cs : List Value} {x : DataW H × List MemPlace} (ht : Try.prog.underlying t = some (.slice e)) (hsz : Try.prog.cellsOf e = d.sz)
    (he : ∀ m, m < n → ∀ (cs : List Value) (x : DataW H × List MemPlace), DataW.trod enc Try.prog W 0 (fun _ => true) true m e cs = some x → ∃ y, d.K W y cs ∧ Q y)
    (h : DataW.trod enc Try.prog W 0 (fun _ => true) true n t cs = some x) : ∃ (A : Option Addr) (c : Nat) (xs : List α), cs = [.slice A xs.length c] ∧ xs.length ≤ c ∧ d.C W A xs.length xs ∧ ∀ y ∈ xs, Q y := by
  rcases DataW.trod_slice ht h with ⟨rfl, _⟩ | ⟨a, len, cap, elems, rest, m, rfl, rfl, _, hb, hl, hm, hlen, hel, _⟩
  · exact ⟨none, 0, [], rfl, Nat.le_refl _, ⟨rfl, by simp, fun h => absurd h (by simp)⟩, fun _ h => by simp at h⟩
  · obtain ⟨xs, hxl, hx⟩ := pick_ (P := fun i y => Q y ∧ ∃ c, c.length = d.sz ∧ d.K W y c ∧ ∀ j u, c[j]? = some u → W.cell? (a.add (i * d.sz + j)) = some u) len (fun i hi => by
      have h1 := hel i hi
      rw [List.getElem?_eq_getElem (by omega), hsz, Option.bind_eq_some_iff] at h1
      obtain ⟨c, hc, hy⟩ := h1
      obtain ⟨y, hK, hQ⟩ := he m (by omega) _ _ hy
      obtain ⟨_, hcl, hcc⟩ := World.cells?_some hc
      refine ⟨y, hQ, c, hcl, hK, fun j u hj => ?_⟩
      have hjl : j < d.sz := by rw [← hcl]; exact (List.getElem?_eq_some_iff.1 hj).1
      have h2 := hcc j hjl
      rw [hj] at h2
      have ha : a.add (i * d.sz + j) = (a.add (i * d.sz)).add j := (Addr.add_add _ _ _).symm
      rw [ha]
      exact h2)
    refine ⟨some a, cap, xs, by rw [hxl], by omega, ⟨rfl, by unfold maxLen at hm; omega, fun _ => ⟨a, rfl, fun j p hj => ?_⟩⟩, fun y hy => ?_⟩
    · obtain ⟨_, c, hc⟩ := hx j p hj
      exact ⟨c, hc⟩
    · obtain ⟨j, hj⟩ := List.getElem?_of_mem hy
      exact (hx j y hj).1
theorem open_num {k : IntKind} {n t : Nat} {cs : List Value} {x : DataW H × List MemPlace} (ht : Try.prog.underlying t = some (.int k)) (h : DataW.trod enc Try.prog W 0 (fun _ => true) true n t cs = some x) :
    ∃ y, (Kd.int k).K W y cs ∧ (Lit.int k y).wf = true := by
  obtain ⟨m, rfl, _, hw⟩ := DataW.trod_int ht h
  exact ⟨m, rfl, hw⟩
theorem open_nums {k : IntKind} {n t e : Nat} {cs : List Value} {x : DataW H × List MemPlace} (ht : Try.prog.underlying t = some (.slice e)) (he : Try.prog.underlying e = some (.int k)) (hs : Try.prog.cellsOf e = 1) (h : DataW.trod enc Try.prog W 0 (fun _ => true) true n t cs = some x) :
    ∃ (A : Option Addr) (c : Nat) (xs : List Int), cs = [.slice A xs.length c] ∧ xs.length ≤ c ∧ (Kd.int k).C W A xs.length xs ∧ ∀ y ∈ xs, (Lit.int k y).wf = true :=
  open_row (d := Kd.int k) ht hs (fun m _ cs x h => open_num he h) h
end
section
variable {H : Type} {enc : TypeId × Value → H} {W : World}
set_option maxRecDepth 100000 in
theorem open101 : ∀ (n : Nat) (cs : List Value) (x : DataW H × List MemPlace), DataW.trod enc Try.prog W 0 (fun _ => true) true n 101 cs = some x → ∃ y, k101.K W y cs ∧ True := by
  intro n
  induction n using Nat.strongRecOn with
  | _ n ih =>
    intro cs x h
    obtain ⟨xs, m, rfl, _, hl, hxl, hf⟩ := DataW.trod_struct Try.underlying101 h
    rw [show Try.prog.cellsOf 101 = 2 by kernel_rfl] at hl
    match cs, hl with
    | [v0, v1], _ =>
      have g0 : DataW.trod enc Try.prog W 0 (fun _ => true) true m 9 ((List.drop 0 [v0, v1]).take (Try.prog.cellsOf 9)) = xs[0]? := hf 0 _ rfl
      rw [show Try.prog.cellsOf 9 = 1 by kernel_rfl, List.getElem?_eq_getElem (by rw [hxl]; decide)] at g0
      have g1 : DataW.trod enc Try.prog W 0 (fun _ => true) true m 28 ((List.drop 1 [v0, v1]).take (Try.prog.cellsOf 28)) = xs[1]? := hf 1 _ rfl
      rw [show Try.prog.cellsOf 28 = 1 by kernel_rfl, List.getElem?_eq_getElem (by rw [hxl]; decide)] at g1
      obtain ⟨s, hs, _⟩ := DataW.trod_string Try.underlying9 g0
      obtain ⟨A, c, ys, hc, hle, hC, _⟩ := open_row (d := k101) Try.underlying28 (by kernel_rfl) (fun q hq => ih q (by omega)) g1
      simp at hs hc
      subst hs hc
      exact ⟨⟨s, ys⟩, k101_mk W ⟨s, ys⟩ hle hC, trivial⟩
set_option maxRecDepth 100000 in
theorem open79 (n : Nat) (cs : List Value) (x : DataW H × List MemPlace) (h : DataW.trod enc Try.prog W 0 (fun _ => true) true n 79 cs = some x) : ∃ y, k79.K W y cs ∧ True := by
  obtain ⟨xs, m, rfl, _, hl, hxl, hf⟩ := DataW.trod_struct Try.underlying79 h
  rw [show Try.prog.cellsOf 79 = 5 by kernel_rfl] at hl
  match cs, hl with
  | [v0, v1, v2, v3, v4], _ =>
    have g0 : DataW.trod enc Try.prog W 0 (fun _ => true) true m 9 ((List.drop 0 [v0, v1, v2, v3, v4]).take (Try.prog.cellsOf 9)) = xs[0]? := hf 0 _ rfl
    rw [show Try.prog.cellsOf 9 = 1 by kernel_rfl, List.getElem?_eq_getElem (by rw [hxl]; decide)] at g0
    have g1 : DataW.trod enc Try.prog W 0 (fun _ => true) true m 4 ((List.drop 1 [v0, v1, v2, v3, v4]).take (Try.prog.cellsOf 4)) = xs[1]? := hf 1 _ rfl
    rw [show Try.prog.cellsOf 4 = 1 by kernel_rfl, List.getElem?_eq_getElem (by rw [hxl]; decide)] at g1
    have g2 : DataW.trod enc Try.prog W 0 (fun _ => true) true m 23 ((List.drop 2 [v0, v1, v2, v3, v4]).take (Try.prog.cellsOf 23)) = xs[2]? := hf 2 _ rfl
    rw [show Try.prog.cellsOf 23 = 1 by kernel_rfl, List.getElem?_eq_getElem (by rw [hxl]; decide)] at g2
    have g3 : DataW.trod enc Try.prog W 0 (fun _ => true) true m 28 ((List.drop 3 [v0, v1, v2, v3, v4]).take (Try.prog.cellsOf 28)) = xs[3]? := hf 3 _ rfl
    rw [show Try.prog.cellsOf 28 = 1 by kernel_rfl, List.getElem?_eq_getElem (by rw [hxl]; decide)] at g3
    have g4 : DataW.trod enc Try.prog W 0 (fun _ => true) true m 3 ((List.drop 4 [v0, v1, v2, v3, v4]).take (Try.prog.cellsOf 3)) = xs[4]? := hf 4 _ rfl
    rw [show Try.prog.cellsOf 3 = 1 by kernel_rfl, List.getElem?_eq_getElem (by rw [hxl]; decide)] at g4
    obtain ⟨s, hs, _⟩ := DataW.trod_string Try.underlying9 g0
    obtain ⟨b, hb, _⟩ := DataW.trod_bool Try.underlying4 g1
    obtain ⟨A2, c2, y2, hc2, hle2, hC2, _⟩ := open_nums Try.underlying23 Try.underlying3 (by kernel_rfl) g2
    obtain ⟨A3, c3, y3, hc3, hle3, hC3, _⟩ := open_row (d := k101) Try.underlying28 (by kernel_rfl) (fun q _ => open101 q) g3
    obtain ⟨z, hz, _⟩ := DataW.trod_int Try.underlying3 g4
    simp at hs hb hc2 hc3 hz
    subst hs hb hc2 hc3 hz
    exact ⟨⟨s, b, y2, y3, z⟩, k79_mk W ⟨s, b, y2, y3, z⟩ hle2 hC2 hle3 hC3, trivial⟩
set_option maxRecDepth 100000 in
/-- A layout that came in. -/
theorem open31 (n : Nat) (cs : List Value) (x : DataW H × List MemPlace) (h : DataW.trod enc Try.prog W 0 (fun _ => true) true n 31 cs = some x) :
    ∃ (s a : Int) (A2 : Option Addr) (c2 : Nat) (l2 : List Int) (A3 : Option Addr) (c3 : Nat) (l3 : List Int) (A4 : Option Addr) (c4 : Nat) (l4 : List S101) (A5 : Option Addr) (c5 : Nat) (l5 : List S79) (A6 : Option Addr) (c6 : Nat) (l6 : List Int) (b : Bool),
      cs = [.int .i64 s, .int .i64 a, .slice A2 l2.length c2, .slice A3 l3.length c3, .slice A4 l4.length c4, .slice A5 l5.length c5, .slice A6 l6.length c6, .bool b] ∧
      (Kd.int .u8).C W A2 l2.length l2 ∧ l2.length ≤ c2 ∧ (Kd.int .i64).C W A3 l3.length l3 ∧ l3.length ≤ c3 ∧ k101.C W A4 l4.length l4 ∧ l4.length ≤ c4 ∧ k79.C W A5 l5.length l5 ∧ l5.length ≤ c5 ∧ (Kd.int .i64).C W A6 l6.length l6 ∧ l6.length ≤ c6 ∧
      (Lit.int .i64 s).wf = true ∧ (Lit.int .i64 a).wf = true ∧ (∀ y ∈ l2, (Lit.int .u8 y).wf = true) ∧ (∀ y ∈ l3, (Lit.int .i64 y).wf = true) ∧ (∀ y ∈ l6, (Lit.int .i64 y).wf = true) := by
  obtain ⟨xs, m, rfl, _, hl, hxl, hf⟩ := DataW.trod_struct Try.underlying31 h
  rw [show Try.prog.cellsOf 31 = 8 by kernel_rfl] at hl
  match cs, hl with
  | [v0, v1, v2, v3, v4, v5, v6, v7], _ =>
    have g0 : DataW.trod enc Try.prog W 0 (fun _ => true) true m 3 ((List.drop 0 [v0, v1, v2, v3, v4, v5, v6, v7]).take (Try.prog.cellsOf 3)) = xs[0]? := hf 0 _ rfl
    rw [show Try.prog.cellsOf 3 = 1 by kernel_rfl, List.getElem?_eq_getElem (by rw [hxl]; decide)] at g0
    have g1 : DataW.trod enc Try.prog W 0 (fun _ => true) true m 3 ((List.drop 1 [v0, v1, v2, v3, v4, v5, v6, v7]).take (Try.prog.cellsOf 3)) = xs[1]? := hf 1 _ rfl
    rw [show Try.prog.cellsOf 3 = 1 by kernel_rfl, List.getElem?_eq_getElem (by rw [hxl]; decide)] at g1
    have g2 : DataW.trod enc Try.prog W 0 (fun _ => true) true m 27 ((List.drop 2 [v0, v1, v2, v3, v4, v5, v6, v7]).take (Try.prog.cellsOf 27)) = xs[2]? := hf 2 _ rfl
    rw [show Try.prog.cellsOf 27 = 1 by kernel_rfl, List.getElem?_eq_getElem (by rw [hxl]; decide)] at g2
    have g3 : DataW.trod enc Try.prog W 0 (fun _ => true) true m 23 ((List.drop 3 [v0, v1, v2, v3, v4, v5, v6, v7]).take (Try.prog.cellsOf 23)) = xs[3]? := hf 3 _ rfl
    rw [show Try.prog.cellsOf 23 = 1 by kernel_rfl, List.getElem?_eq_getElem (by rw [hxl]; decide)] at g3
    have g4 : DataW.trod enc Try.prog W 0 (fun _ => true) true m 28 ((List.drop 4 [v0, v1, v2, v3, v4, v5, v6, v7]).take (Try.prog.cellsOf 28)) = xs[4]? := hf 4 _ rfl
    rw [show Try.prog.cellsOf 28 = 1 by kernel_rfl, List.getElem?_eq_getElem (by rw [hxl]; decide)] at g4
    have g5 : DataW.trod enc Try.prog W 0 (fun _ => true) true m 29 ((List.drop 5 [v0, v1, v2, v3, v4, v5, v6, v7]).take (Try.prog.cellsOf 29)) = xs[5]? := hf 5 _ rfl
    rw [show Try.prog.cellsOf 29 = 1 by kernel_rfl, List.getElem?_eq_getElem (by rw [hxl]; decide)] at g5
    have g6 : DataW.trod enc Try.prog W 0 (fun _ => true) true m 23 ((List.drop 6 [v0, v1, v2, v3, v4, v5, v6, v7]).take (Try.prog.cellsOf 23)) = xs[6]? := hf 6 _ rfl
    rw [show Try.prog.cellsOf 23 = 1 by kernel_rfl, List.getElem?_eq_getElem (by rw [hxl]; decide)] at g6
    have g7 : DataW.trod enc Try.prog W 0 (fun _ => true) true m 4 ((List.drop 7 [v0, v1, v2, v3, v4, v5, v6, v7]).take (Try.prog.cellsOf 4)) = xs[7]? := hf 7 _ rfl
    rw [show Try.prog.cellsOf 4 = 1 by kernel_rfl, List.getElem?_eq_getElem (by rw [hxl]; decide)] at g7
    obtain ⟨s, hs, _, ws⟩ := DataW.trod_int Try.underlying3 g0
    obtain ⟨a, ha, _, wa⟩ := DataW.trod_int Try.underlying3 g1
    obtain ⟨A2, c2, l2, h2, e2, C2, w2⟩ := open_nums Try.underlying27 Try.underlying5 (by kernel_rfl) g2
    obtain ⟨A3, c3, l3, h3, e3, C3, w3⟩ := open_nums Try.underlying23 Try.underlying3 (by kernel_rfl) g3
    obtain ⟨A4, c4, l4, h4, e4, C4, _⟩ := open_row (d := k101) Try.underlying28 (by kernel_rfl) (fun q _ => open101 q) g4
    obtain ⟨A5, c5, l5, h5, e5, C5, _⟩ := open_row (d := k79) Try.underlying29 (by kernel_rfl) (fun q _ => open79 q) g5
    obtain ⟨A6, c6, l6, h6, e6, C6, w6⟩ := open_nums Try.underlying23 Try.underlying3 (by kernel_rfl) g6
    obtain ⟨b, hb, _⟩ := DataW.trod_bool Try.underlying4 g7
    simp at hs ha h2 h3 h4 h5 h6 hb
    subst hs ha h2 h3 h4 h5 h6 hb
    exact ⟨s, a, A2, c2, l2, A3, c3, l3, A4, c4, l4, A5, c5, l5, A6, c6, l6, b, rfl, C2, e2, C3, e3, C4, e4, C5, e5, C6, e6, ws, wa, w2, w3, w6⟩
set_option maxRecDepth 100000 in
theorem okWide_agg {t b : Nat} {fs : Array Field} {v : Value} (ht : Try.prog.underlying t = some (.struct fs)) (h : Value.okWide Try.prog W .any b t v) : ∃ cs, v = .agg cs := by
  unfold Value.okWide at h
  rw [ht] at h
  obtain ⟨cs, rfl, _⟩ := h
  exact ⟨cs, rfl⟩
end
section
variable {H : Type} {enc : TypeId × Value → H} {W : World}
theorem open31k (n : Nat) (cs : List Value) (x : DataW H × List MemPlace) (h : DataW.trod enc Try.prog W 0 (fun _ => true) true n 31 cs = some x) : ∃ y, k31.K W y cs ∧ True := by
  obtain ⟨s, a, A2, c2, l2, A3, c3, l3, A4, c4, l4, A5, c5, l5, A6, c6, l6, b, rfl, C2, e2, C3, e3, C4, e4, C5, e5, C6, e6, _⟩ := open31 n cs x h
  exact ⟨⟨s, a, l2, l3, l4, l5, l6, b⟩, k31_mk W ⟨s, a, l2, l3, l4, l5, l6, b⟩ e2 C2 e3 C3 e4 C4 e5 C5 e6 C6, trivial⟩
theorem heap101 : Kd.Heap k101 := Kd.heap_fix (fun d hd => Kd.heap_iso _ (Kd.heap_pair Kd.heap_string (Kd.heap_slice 101 hd)))
theorem heap79 : Kd.Heap k79 := Kd.heap_iso _ (Kd.heap_pair Kd.heap_string (Kd.heap_pair Kd.heap_bool (Kd.heap_pair (Kd.heap_slice 3 (Kd.heap_int _)) (Kd.heap_pair (Kd.heap_slice 101 heap101) (Kd.heap_int _)))))
theorem heap31 : Kd.Heap k31 := Kd.heap_iso _ (Kd.heap_pair (Kd.heap_int _) (Kd.heap_pair (Kd.heap_int _) (Kd.heap_pair (Kd.heap_slice 5 (Kd.heap_int _)) (Kd.heap_pair (Kd.heap_slice 3 (Kd.heap_int _)) (Kd.heap_pair (Kd.heap_slice 101 heap101) (Kd.heap_pair (Kd.heap_slice 79 heap79) (Kd.heap_pair (Kd.heap_slice 3 (Kd.heap_int _)) Kd.heap_bool)))))))
end
end Go.Proofs.Ytpcephbhnbfcmaa.L
