/- Part 5 of the texts that the proof of the row stands on: the calculus, contracts of the functions, plain laws; no condition of its own. -/
import Derived.Test.YtkgokehkobifkaaSB4
set_option linter.unusedVariables false
set_option linter.unusedSimpArgs false
/- Package seek: CheckSpan. -/
namespace Go.Proofs.Ytkgokehkobifkaa.J
open Go Go.RowKit

def strE (s : Str) : List Value := [.string s]
def delB (lo hi : Str) (e : Ent) : Bool := slt e.key lo || !belowF e.key hi
def parsL (ls : List (List UInt8)) : List Ent := ls.map fun b => (pars b).1
theorem parsL_len (ls : List (List UInt8)) : (parsL ls).length = ls.length := List.length_map _
theorem parsL_next {ls : List (List UInt8)} {i : Nat} {b : List UInt8} (h : ls[i]? = some b) : parsL (ls.take (i + 1)) = parsL (ls.take i) ++ [(pars b).1] := by unfold parsL; rw [take_snoc h, List.map_append]; rfl
def lateF (l : List Ent) (lo : Str) (t : Int) : Bool := (!(slt (firstK l) lo)) && decide (t > 0)
def earlyF (l : List Ent) (hi : Str) (t : Int) (n : Nat) : Bool := belowF (lastK l) hi && decide (t + ((l.length : Nat) : Int) < ((n : Nat) : Int))
def spanC (bits : Int) (x : Tab) (n : Nat) (lo hi : Str) (s : Spn) : List Ent × Int :=
  if overF x lo hi = true ∧ 0 < s.leaves.length ∧ s.leaves.length ≤ n ∧ 0 ≤ s.t ∧ s.t ≤ ((n : Nat) : Int) then
    (if s.leaves.all wholeF = true then
      (if (lateF (parsL s.leaves) lo s.t || earlyF (parsL s.leaves) hi s.t n || !decide (SortedL (parsL s.leaves)) || !checkR bits x.root n s.t s.leaves s.path) = true then ([], 8)
        else ((parsL s.leaves).filter (keepB (delB lo hi)), 0))
      else ([], 8))
  else ([], 8)
theorem spanC_arg {bits : Int} {x : Tab} {n : Nat} {lo hi : Str} {s : Spn} (h : ¬ (overF x lo hi = true ∧ 0 < s.leaves.length ∧ s.leaves.length ≤ n ∧ 0 ≤ s.t ∧ s.t ≤ ((n : Nat) : Int))) : spanC bits x n lo hi s = ([], 8) := if_neg h
theorem spanC_go {bits : Int} {x : Tab} {n : Nat} {lo hi : Str} {s : Spn} (h : overF x lo hi = true ∧ 0 < s.leaves.length ∧ s.leaves.length ≤ n ∧ 0 ≤ s.t ∧ s.t ≤ ((n : Nat) : Int)) (ha : s.leaves.all wholeF = true) : spanC bits x n lo hi s =
    if (lateF (parsL s.leaves) lo s.t || earlyF (parsL s.leaves) hi s.t n || !decide (SortedL (parsL s.leaves)) || !checkR bits x.root n s.t s.leaves s.path) = true then ([], 8) else ((parsL s.leaves).filter (keepB (delB lo hi)), 0) := by
  unfold spanC
  rw [if_pos h, if_pos ha]
theorem spanC_leaf {bits : Int} {x : Tab} {n : Nat} {lo hi : Str} {s : Spn} {i : Nat} {b : List UInt8} (hb : s.leaves[i]? = some b) (h : wholeF b = false) : spanC bits x n lo hi s = ([], 8) := by
  unfold spanC
  rw [if_neg (c := s.leaves.all wholeF = true)]
  · split <;> rfl
  · intro ha
    rw [List.all_eq_true] at ha
    rw [ha b (List.mem_of_getElem? hb)] at h; cases h
theorem all_step {ls : List (List UInt8)} {i : Nat} {b : List UInt8} (h : (ls.take i).all wholeF = true) (hb : ls[i]? = some b) (hw : wholeF b = true) : (ls.take (i + 1)).all wholeF = true := by
  rw [take_snoc hb, List.all_append, h]; simp [hw]
theorem Nw.retake {N N0 : Nat} {e : TypeId} {k : Nat} {ρ ρ0 : List Nat} {A A0 : Nat → Prop} {w : World} {g n c : Nat} {xs : List Value} (h : Nw N0 e k ρ0 A0 w (some ⟨g, 0, none⟩) n c xs) (hN : N ≤ g) (hρ : g ∉ ρ) (hA : A g) : Nw N e k ρ A w (some ⟨g, 0, none⟩) n c xs := by
  obtain ⟨h1, ⟨h2, _⟩ | ⟨g', cur, h2, h3, h4, h5, h6⟩⟩ := h
  · cases h2
  · cases h2; exact ⟨h1, .inr ⟨g, cur, rfl, hN, hρ, hA, h6⟩⟩
theorem Locs.str {mem : List Loc} {ρ : List Nat} {w : World} (l : Locs mem ρ w) (i : Nat) {T : TypeId} {s : Str} (hi : mem[i]? = some ⟨T, [.string s]⟩) {A : Nat → Prop} (hA : ¬ A (ρ.getD i 0)) : Sl 1 strE A w (some ⟨ρ.getD i 0, 0, none⟩) 1 1 [s] :=
  Sl.ofRow (enc := strE) (l := [s]) (kk := 1) (l.row hi) hA rfl (fun _ _ => rfl) rfl (by simp only [maxLen]; omega)

theorem ret_mono {P : Program} {f : FuncId} {args : Array Value} {W : World} {M : Nat → Prop} {R R' : Value → World → Prop} (h : Calls P f args W (Ret M W R)) (hr : ∀ v w, R v w → R' v w) : Calls P f args W (Ret M W R') := h.mono (Ret.mono hr)
structure CsSt where
  i : Nat
  a : Option Addr
  c : Nat

theorem checkSpan1_calls (lo hi : Str) (b7 b8 : Nat) (e : Ent) (Ac : Nat → Prop) (W : World) (hA : ∀ k, Ac k → k < W.heap.size) (h7 : Sl 1 strE Ac W (some ⟨b7, 0, none⟩) 1 1 [lo]) (h8 : Sl 1 strE Ac W (some ⟨b8, 0, none⟩) 1 1 [hi]) :
    Calls Pr 60 #[.agg (encE e).toArray, .pointer (some ⟨b7, 0, none⟩), .pointer (some ⟨b8, 0, none⟩)] W (Ret nobody W fun v w => v = .bool (delB lo hi e)) := by
  refine J.enter (fn := Try.f60) (n := 16) Try.func60 (by kernel_rfl) (by kernel_rfl) (by kernel_rfl) hA ?_
  refine J.run [.n, .n] [0, 1, 2] ⟨[(0, .v (.agg (encE e).toArray)), (1, .v (.pointer (some ⟨b7, 0, none⟩))), (2, .v (.pointer (some ⟨b8, 0, none⟩)))], []⟩ [.c 0] [.o 1 0, .c 2] (by kernel_rfl) ?_
  refine J.new (T := 42) (cs := encE e) (d := 3) (K := .ptr) (by kernel_rfl) (fun b1 hb1 => ?_)
  refine J.run [.u, .n, .n, .n, .u, .u] [1, 2, 3, 6] ⟨[(1, .v (.pointer (some ⟨b7, 0, none⟩))), (2, .v (.pointer (some ⟨b8, 0, none⟩))), (3, .loc 0 0), (6, .v (.string e.key))], [⟨42, encE e⟩]⟩ [.o 1 1, .c 2] [.o 3 2, .c 4] (by kernel_rfl) ?_
  refine J.ld (T := 9) (b := b7) (off := 0) (d := 7) (v := .string lo) (by kernel_rfl) (fun w1 A1 m1 l1 => (h7.mv m1).ld1 (by kernel_rfl) (rfl : ([lo] : List Str)[0]? = some lo) (j := 0) rfl) ?_
  refine J.run [.u, .u] [2, 3, 9] ⟨[(2, .v (.pointer (some ⟨b8, 0, none⟩))), (3, .loc 0 0), (9, .v (.bool (slt e.key lo)))], [⟨42, encE e⟩]⟩ [.o 3 3, .c 4] [.o 3 5, .c 4] (by kernel_rfl) ?_
  rcases Bool.eq_false_or_eq_true (slt e.key lo) with hc | hc
  · rw [hc]
    try simp only [nrm] at hc
    have hc1 := hc
    refine J.run [.x, .x, .x, .x, .x, .u, .u, .n] [4] ⟨[(4, .v (.bool true))], [⟨42, encE e⟩]⟩ [.o 3 5, .c 4] [.c 4] (by kernel_rfl) ?_
    refine J.ret (v := .bool true) (by kernel_rfl) (by kernel_rfl) (fun w1 A1 m1 hac l1 => by simp [delB, hc1])
  · rw [hc]
    try simp only [nrm] at hc
    have hc1 := hc
    refine J.run [.w, .w] [2, 9, 11] ⟨[(2, .v (.pointer (some ⟨b8, 0, none⟩))), (9, .v (.bool false)), (11, .v (.string e.key))], [⟨42, encE e⟩]⟩ [.o 3 5, .c 4] [.o 3 7, .c 4] (by kernel_rfl) ?_
    refine J.ld (T := 9) (b := b8) (off := 0) (d := 12) (v := .string hi) (by kernel_rfl) (fun w1 A1 m1 l1 => (h8.mv m1).ld1 (by kernel_rfl) (rfl : ([hi] : List Str)[0]? = some hi) (j := 0) rfl) ?_
    refine J.call (d := some 13) (by kernel_rfl) (fun w1 A1 m1 l1 => below_calls e.key hi nobody w1 noA) ?_
    rintro _ u1 w1 A1 rfl g1
    have m1 := g1.mv
    replace h7 := h7.mv m1; replace h8 := h8.mv m1
    refine J.run [.w, .u, .u, .n] [4] ⟨[(4, .v (.bool (!(belowF e.key hi))))], [⟨42, encE e⟩]⟩ [.o 3 9, .c 4] [.c 4] (by kernel_rfl) ?_
    refine J.ret (v := .bool (!(belowF e.key hi))) (by kernel_rfl) (by kernel_rfl) (fun w1 A1 m1 hac l1 => by simp [delB, hc1])
def spanPhi (b7 b8 : Nat) (lo hi : Str) (A : Nat → Prop) (w : World) : Prop := Sl 1 strE A w (some ⟨b7, 0, none⟩) 1 1 [lo] ∧ Sl 1 strE A w (some ⟨b8, 0, none⟩) 1 1 [hi]
theorem spanPhi_at {b7 b8 : Nat} {lo hi : Str} {A : Nat → Prop} {w : World} (h7 : Sl 1 strE A w (some ⟨b7, 0, none⟩) 1 1 [lo]) (h8 : Sl 1 strE A w (some ⟨b8, 0, none⟩) 1 1 [hi]) : Phi (spanPhi b7 b8 lo hi) A w :=
  ⟨fun _ _ _ _ _ m h => ⟨h.1.mv m, h.2.mv m⟩, fun _ _ _ hA h => ⟨h.1.weaken hA, h.2.weaken hA⟩, h7, h8⟩
theorem checkSpan1_func (b7 b8 : Nat) (lo hi : Str) : FunC 60 [.pointer (some ⟨b7, 0, none⟩), .pointer (some ⟨b8, 0, none⟩)] (spanPhi b7 b8 lo hi) (delB lo hi) where
  eg := enters_of Try.func60 (by kernel_rfl) rfl
  call x A w hA h := checkSpan1_calls lo hi b7 b8 x A w hA h.val.1 h.val.2
theorem checkSpan_calls (bits : Int) (x : Tab) (N : Nat) (hx : x.count = ((N : Nat) : Int)) (hN : N ≤ 1000000) (lo hi : Str) (sp : Spn) (hsh : Short sp.leaves) (la : Option Addr) (ln lc : Nat) (pa : Option Addr) (pn pc : Nat) (Ac : Nat → Prop) (W : World) (hA : ∀ k, Ac k → k < W.heap.size) (hs : Rows Ac W la ln lc sp.leaves) (hp : Sl 32 dcells Ac W pa pn pc sp.path) :
    Calls Pr 18 #[.agg [.int .i64 bits].toArray, .agg (encT x).toArray, .string lo, .string hi, .agg [.int .i64 sp.t, .slice la ln lc, .slice pa pn pc].toArray] W (Ret nobody W fun v w => ∃ a' c', v = .tuple #[.slice a' (spanC bits x N lo hi sp).1.length c', .int .i64 (spanC bits x N lo hi sp).2] ∧ New W.heap.size 42 4 w a' (spanC bits x N lo hi sp).1.length c' ((spanC bits x N lo hi sp).1.flatMap encE)) := by
  refine J.enter (fn := Try.f18) (n := 124) Try.func18 (by kernel_rfl) (by kernel_rfl) (by kernel_rfl) hA ?_
  have hlen := hs.len; have hle := hs.le; have hcap := hs.cap; simp only [maxLen] at hcap
  refine J.run [.n, .n] [0, 1, 2, 3, 4] ⟨[(0, .v (.agg [.int .i64 bits].toArray)), (1, .v (.agg (encT x).toArray)), (2, .v (.string lo)), (3, .v (.string hi)), (4, .v (.agg [.int .i64 sp.t, .slice la ln lc, .slice pa pn pc].toArray))], []⟩ [.c 0] [.o 1 0, .c 2] (by kernel_rfl) ?_
  refine J.new (T := 32) (cs := [.int .i64 bits]) (d := 5) (K := .ptr) (by kernel_rfl) (fun b1 hb1 => ?_)
  refine J.new (T := 36) (cs := encT x) (d := 6) (K := .ptr) (by kernel_rfl) (fun b2 hb2 => ?_)
  refine J.new (T := 9) (cs := [.string lo]) (d := 7) (K := .ptr) (by kernel_rfl) (fun b3 hb3 => ?_)
  refine J.new (T := 9) (cs := [.string hi]) (d := 8) (K := .ptr) (by kernel_rfl) (fun b4 hb4 => ?_)
  refine J.new (T := 54) (cs := [.int .i64 sp.t, .slice la ln lc, .slice pa pn pc]) (d := 9) (K := .ptr) (by kernel_rfl) (fun b5 hb5 => ?_)
  refine J.run [.u, .u, .n, .n, .n, .u, .u, .u, .u, .n, .n, .n, .n, .u, .u, .u] [5, 6, 7, 8, 9, 12, 23, 24, 25] ⟨[(5, .loc 0 0), (6, .loc 1 0), (7, .loc 2 0), (8, .loc 3 0), (9, .loc 4 0), (12, .v (.int .i64 ((ln : Nat) : Int))), (23, .v (.agg (encT x).toArray)), (24, .v (.string lo)), (25, .v (.string hi))], [⟨32, [.int .i64 bits]⟩, ⟨36, encT x⟩, ⟨9, [.string lo]⟩, ⟨9, [.string hi]⟩, ⟨54, [.int .i64 sp.t, .slice la ln lc, .slice pa pn pc]⟩]⟩ [.o 1 5, .c 2] [.o 6 3, .c 7, .c 12] (by kernel_rfl) ?_
  refine J.call (d := some 26) (by kernel_rfl) (fun w1 A1 m1 l1 => overlaps_calls x lo hi nobody w1 noA) ?_
  rintro _ u1 w1 A1 rfl g1
  have m1 := g1.mv
  replace hs := hs.mv m1; replace hp := hp.mv m1
  refine J.run [.u, .u] [5, 6, 7, 8, 9, 12, 28] ⟨[(5, .loc 0 0), (6, .loc 1 0), (7, .loc 2 0), (8, .loc 3 0), (9, .loc 4 0), (12, .v (.int .i64 ((ln : Nat) : Int))), (28, .v (.bool (!(overF x lo hi))))], [⟨32, [.int .i64 bits]⟩, ⟨36, encT x⟩, ⟨9, [.string lo]⟩, ⟨9, [.string hi]⟩, ⟨54, [.int .i64 sp.t, .slice la ln lc, .slice pa pn pc]⟩]⟩ [.o 6 4, .c 7, .c 12] [.o 6 6, .c 7, .c 12] (by kernel_rfl) ?_
  rcases Bool.eq_false_or_eq_true (!(overF x lo hi)) with hc | hc
  · rw [hc]
    try simp only [nrm] at hc
    have hc1 := hc
    refine J.run [.x, .x, .u, .u, .x, .x, .x, .x, .u, .u, .x, .x, .x, .u, .u, .x, .x, .x, .x, .x, .u, .n] [5, 6, 7, 8, 9, 12, 49] ⟨[(5, .loc 0 0), (6, .loc 1 0), (7, .loc 2 0), (8, .loc 3 0), (9, .loc 4 0), (12, .v (.int .i64 ((ln : Nat) : Int))), (49, .v (.bool true))], [⟨32, [.int .i64 bits]⟩, ⟨36, encT x⟩, ⟨9, [.string lo]⟩, ⟨9, [.string hi]⟩, ⟨54, [.int .i64 sp.t, .slice la ln lc, .slice pa pn pc]⟩]⟩ [.o 6 6, .c 7, .c 12] [.c 7, .c 12] (by kernel_rfl) ?_
    refine J.cond (b := true) (k' := 11) (by kernel_rfl) (fun _ => ?_) (fun hc => absurd hc (by decide))
    refine J.run [.n, .n, .u, .u, .n] [10, 11] ⟨[(10, .v (.slice none 0 0)), (11, .v (.int .i64 8))], [⟨32, [.int .i64 bits]⟩, ⟨36, encT x⟩, ⟨9, [.string lo]⟩, ⟨9, [.string hi]⟩, ⟨54, [.int .i64 sp.t, .slice la ln lc, .slice pa pn pc]⟩]⟩ [.c 8, .c 12] [.c 10, .c 12] (by kernel_rfl) ?_
    refine J.ret (v := .tuple #[.slice none 0 0, .int .i64 8]) (by kernel_rfl) (by kernel_rfl) (fun w1 A1 m1 hac l1 => by rw [spanC_arg (by rintro ⟨q1, q2, q3, q4, q5⟩; first | omega | simp_all)]; exact ⟨none, 0, rfl, Nw.new (Nw.nil W.heap.size 42 4 [] A1 w1)⟩)
  · rw [hc]
    try simp only [nrm] at hc
    have hc1 := hc
    refine J.run [.w, .w, .u, .u] [5, 6, 7, 8, 9, 12, 32] ⟨[(5, .loc 0 0), (6, .loc 1 0), (7, .loc 2 0), (8, .loc 3 0), (9, .loc 4 0), (12, .v (.int .i64 ((ln : Nat) : Int))), (32, .v (.bool (((ln : Nat) : Int) == 0)))], [⟨32, [.int .i64 bits]⟩, ⟨36, encT x⟩, ⟨9, [.string lo]⟩, ⟨9, [.string hi]⟩, ⟨54, [.int .i64 sp.t, .slice la ln lc, .slice pa pn pc]⟩]⟩ [.o 6 6, .c 7, .c 12] [.o 6 10, .c 7, .c 12] (by kernel_rfl) ?_
    rcases Bool.eq_false_or_eq_true (((ln : Nat) : Int) == 0) with hc | hc
    · rw [hc]
      try simp only [nrm] at hc
      have hc2 := hc
      refine J.run [.x, .x, .x, .x, .u, .u, .x, .x, .x, .u, .u, .x, .x, .x, .x, .x, .u, .n] [5, 6, 7, 8, 9, 12, 49] ⟨[(5, .loc 0 0), (6, .loc 1 0), (7, .loc 2 0), (8, .loc 3 0), (9, .loc 4 0), (12, .v (.int .i64 ((ln : Nat) : Int))), (49, .v (.bool true))], [⟨32, [.int .i64 bits]⟩, ⟨36, encT x⟩, ⟨9, [.string lo]⟩, ⟨9, [.string hi]⟩, ⟨54, [.int .i64 sp.t, .slice la ln lc, .slice pa pn pc]⟩]⟩ [.o 6 10, .c 7, .c 12] [.c 7, .c 12] (by kernel_rfl) ?_
      refine J.cond (b := true) (k' := 11) (by kernel_rfl) (fun _ => ?_) (fun hc => absurd hc (by decide))
      refine J.run [.n, .n, .u, .u, .n] [10, 11] ⟨[(10, .v (.slice none 0 0)), (11, .v (.int .i64 8))], [⟨32, [.int .i64 bits]⟩, ⟨36, encT x⟩, ⟨9, [.string lo]⟩, ⟨9, [.string hi]⟩, ⟨54, [.int .i64 sp.t, .slice la ln lc, .slice pa pn pc]⟩]⟩ [.c 8, .c 12] [.c 10, .c 12] (by kernel_rfl) ?_
      refine J.ret (v := .tuple #[.slice none 0 0, .int .i64 8]) (by kernel_rfl) (by kernel_rfl) (fun w1 A1 m1 hac l1 => by rw [spanC_arg (by rintro ⟨q1, q2, q3, q4, q5⟩; first | omega | simp_all)]; exact ⟨none, 0, rfl, Nw.new (Nw.nil W.heap.size 42 4 [] A1 w1)⟩)
    · rw [hc]
      try simp only [nrm] at hc
      have hc2 := hc
      refine J.run [.w, .w, .w, .w, .u, .u] [5, 6, 7, 8, 9, 12, 38] ⟨[(5, .loc 0 0), (6, .loc 1 0), (7, .loc 2 0), (8, .loc 3 0), (9, .loc 4 0), (12, .v (.int .i64 ((ln : Nat) : Int))), (38, .v (.bool (decide (((ln : Nat) : Int) > x.count))))], [⟨32, [.int .i64 bits]⟩, ⟨36, encT x⟩, ⟨9, [.string lo]⟩, ⟨9, [.string hi]⟩, ⟨54, [.int .i64 sp.t, .slice la ln lc, .slice pa pn pc]⟩]⟩ [.o 6 10, .c 7, .c 12] [.o 6 16, .c 7, .c 12] (by kernel_rfl) ?_
      rw [hx]
      rcases Bool.eq_false_or_eq_true (decide (((ln : Nat) : Int) > ((N : Nat) : Int))) with hc | hc
      · rw [hc]
        try simp only [nrm] at hc
        have hc3 := hc
        refine J.run [.x, .x, .x, .u, .u, .x, .x, .x, .x, .x, .u, .n] [5, 6, 7, 8, 9, 12, 49] ⟨[(5, .loc 0 0), (6, .loc 1 0), (7, .loc 2 0), (8, .loc 3 0), (9, .loc 4 0), (12, .v (.int .i64 ((ln : Nat) : Int))), (49, .v (.bool true))], [⟨32, [.int .i64 bits]⟩, ⟨36, encT x⟩, ⟨9, [.string lo]⟩, ⟨9, [.string hi]⟩, ⟨54, [.int .i64 sp.t, .slice la ln lc, .slice pa pn pc]⟩]⟩ [.o 6 16, .c 7, .c 12] [.c 7, .c 12] (by kernel_rfl) ?_
        refine J.cond (b := true) (k' := 11) (by kernel_rfl) (fun _ => ?_) (fun hc => absurd hc (by decide))
        refine J.run [.n, .n, .u, .u, .n] [10, 11] ⟨[(10, .v (.slice none 0 0)), (11, .v (.int .i64 8))], [⟨32, [.int .i64 bits]⟩, ⟨36, encT x⟩, ⟨9, [.string lo]⟩, ⟨9, [.string hi]⟩, ⟨54, [.int .i64 sp.t, .slice la ln lc, .slice pa pn pc]⟩]⟩ [.c 8, .c 12] [.c 10, .c 12] (by kernel_rfl) ?_
        refine J.ret (v := .tuple #[.slice none 0 0, .int .i64 8]) (by kernel_rfl) (by kernel_rfl) (fun w1 A1 m1 hac l1 => by rw [spanC_arg (by rintro ⟨q1, q2, q3, q4, q5⟩; first | omega | simp_all)]; exact ⟨none, 0, rfl, Nw.new (Nw.nil W.heap.size 42 4 [] A1 w1)⟩)
      · rw [hc]
        try simp only [nrm] at hc
        have hc3 := hc
        refine J.run [.w, .w, .w, .u, .u] [5, 6, 7, 8, 9, 12, 43] ⟨[(5, .loc 0 0), (6, .loc 1 0), (7, .loc 2 0), (8, .loc 3 0), (9, .loc 4 0), (12, .v (.int .i64 ((ln : Nat) : Int))), (43, .v (.bool (decide (sp.t < 0))))], [⟨32, [.int .i64 bits]⟩, ⟨36, encT x⟩, ⟨9, [.string lo]⟩, ⟨9, [.string hi]⟩, ⟨54, [.int .i64 sp.t, .slice la ln lc, .slice pa pn pc]⟩]⟩ [.o 6 16, .c 7, .c 12] [.o 6 21, .c 7, .c 12] (by kernel_rfl) ?_
        rcases Bool.eq_false_or_eq_true (decide (sp.t < 0)) with hc | hc
        · rw [hc]
          try simp only [nrm] at hc
          have hc4 := hc
          refine J.run [.x, .x, .x, .x, .x, .u, .n] [5, 6, 7, 8, 9, 12, 49] ⟨[(5, .loc 0 0), (6, .loc 1 0), (7, .loc 2 0), (8, .loc 3 0), (9, .loc 4 0), (12, .v (.int .i64 ((ln : Nat) : Int))), (49, .v (.bool true))], [⟨32, [.int .i64 bits]⟩, ⟨36, encT x⟩, ⟨9, [.string lo]⟩, ⟨9, [.string hi]⟩, ⟨54, [.int .i64 sp.t, .slice la ln lc, .slice pa pn pc]⟩]⟩ [.o 6 21, .c 7, .c 12] [.c 7, .c 12] (by kernel_rfl) ?_
          refine J.cond (b := true) (k' := 11) (by kernel_rfl) (fun _ => ?_) (fun hc => absurd hc (by decide))
          refine J.run [.n, .n, .u, .u, .n] [10, 11] ⟨[(10, .v (.slice none 0 0)), (11, .v (.int .i64 8))], [⟨32, [.int .i64 bits]⟩, ⟨36, encT x⟩, ⟨9, [.string lo]⟩, ⟨9, [.string hi]⟩, ⟨54, [.int .i64 sp.t, .slice la ln lc, .slice pa pn pc]⟩]⟩ [.c 8, .c 12] [.c 10, .c 12] (by kernel_rfl) ?_
          refine J.ret (v := .tuple #[.slice none 0 0, .int .i64 8]) (by kernel_rfl) (by kernel_rfl) (fun w1 A1 m1 hac l1 => by rw [spanC_arg (by rintro ⟨q1, q2, q3, q4, q5⟩; first | omega | simp_all)]; exact ⟨none, 0, rfl, Nw.new (Nw.nil W.heap.size 42 4 [] A1 w1)⟩)
        · rw [hc]
          try simp only [nrm] at hc
          have hc4 := hc
          refine J.run [.w, .w, .w, .w, .w, .u, .n] [5, 6, 7, 8, 9, 12, 49] ⟨[(5, .loc 0 0), (6, .loc 1 0), (7, .loc 2 0), (8, .loc 3 0), (9, .loc 4 0), (12, .v (.int .i64 ((ln : Nat) : Int))), (49, .v (.bool (decide (sp.t > x.count))))], [⟨32, [.int .i64 bits]⟩, ⟨36, encT x⟩, ⟨9, [.string lo]⟩, ⟨9, [.string hi]⟩, ⟨54, [.int .i64 sp.t, .slice la ln lc, .slice pa pn pc]⟩]⟩ [.o 6 21, .c 7, .c 12] [.c 7, .c 12] (by kernel_rfl) ?_
          rw [hx]
          refine J.cond (b := (decide (sp.t > ((N : Nat) : Int)))) (k' := 11) (by kernel_rfl) (fun hc => ?_) (fun hc => ?_)
          · try simp only [nrm] at hc
            have hc5 := hc
            refine J.run [.n, .n, .u, .u, .n] [10, 11] ⟨[(10, .v (.slice none 0 0)), (11, .v (.int .i64 8))], [⟨32, [.int .i64 bits]⟩, ⟨36, encT x⟩, ⟨9, [.string lo]⟩, ⟨9, [.string hi]⟩, ⟨54, [.int .i64 sp.t, .slice la ln lc, .slice pa pn pc]⟩]⟩ [.c 8, .c 12] [.c 10, .c 12] (by kernel_rfl) ?_
            refine J.ret (v := .tuple #[.slice none 0 0, .int .i64 8]) (by kernel_rfl) (by kernel_rfl) (fun w1 A1 m1 hac l1 => by rw [spanC_arg (by rintro ⟨q1, q2, q3, q4, q5⟩; first | omega | simp_all)]; exact ⟨none, 0, rfl, Nw.new (Nw.nil W.heap.size 42 4 [] A1 w1)⟩)
          · try simp only [nrm] at hc
            have hc5 := hc
            refine J.run [.n, .n, .n, .u, .n, .n, .n, .n, .u, .u, .u, .u, .n, .n] [5, 6, 7, 8, 9, 12, 13, 51, 52, 53] ⟨[(5, .loc 0 0), (6, .loc 1 0), (7, .loc 2 0), (8, .loc 3 0), (9, .loc 4 0), (12, .v (.int .i64 ((ln : Nat) : Int))), (13, .v (.slice none 0 0)), (51, .v (.slice la ln lc)), (52, .v (.int .i64 ((ln : Nat) : Int))), (53, .v (.int .i64 0))], [⟨32, [.int .i64 bits]⟩, ⟨36, encT x⟩, ⟨9, [.string lo]⟩, ⟨9, [.string hi]⟩, ⟨54, [.int .i64 sp.t, .slice la ln lc, .slice pa pn pc]⟩]⟩ [.c 11, .c 12] [.c 18, .b 0, .c 41] (by kernel_rfl) ?_
            have hl0 : 0 < ln := by omega
            refine J.loop (X := CsSt) (fun y => ⟨[(5, .loc 0 0), (6, .loc 1 0), (7, .loc 2 0), (8, .loc 3 0), (9, .loc 4 0), (12, .v (.int .i64 ((ln : Nat) : Int))), (13, .v (.slice y.a y.i y.c)), (51, .v (.slice la ln lc)), (52, .v (.int .i64 ((ln : Nat) : Int))), (53, .v (.int .i64 ((y.i : Nat) : Int)))], [⟨32, [.int .i64 bits]⟩, ⟨36, encT x⟩, ⟨9, [.string lo]⟩, ⟨9, [.string hi]⟩, ⟨54, [.int .i64 sp.t, .slice la ln lc, .slice pa pn pc]⟩]⟩) (fun y A w => y.i ≤ ln ∧ Rows A w la ln lc sp.leaves ∧ Sl 32 dcells A w pa pn pc sp.path ∧ Nw W.heap.size 42 4 [b1, b2, b3, b4, b5] A w y.a y.i y.c ((parsL (sp.leaves.take y.i)).flatMap encE) ∧ (sp.leaves.take y.i).all wholeF = true) (fun y => ln - y.i) [5, 6, 7, 8, 9, 12, 13, 51, 52, 53] 5 [b1, b2, b3, b4, b5] ⟨0, none, 0⟩ (by kernel_rfl) (by kernel_rfl) (by kernel_rfl) (fun w1 A1 m1 => ⟨Nat.zero_le _, hs.mv m1, hp.mv m1, Nw.nil _ _ _ _ _ _, rfl⟩) (fun y A2 w2 hI => ?_)
            obtain ⟨hi_, hs, hp, ho, hall⟩ := hI
            refine J.run [.n, .n, .u, .n, .n] [5, 6, 7, 8, 9, 12, 13, 51, 52, 53, 54] ⟨[(5, .loc 0 0), (6, .loc 1 0), (7, .loc 2 0), (8, .loc 3 0), (9, .loc 4 0), (12, .v (.int .i64 ((ln : Nat) : Int))), (13, .v (.slice y.a y.i y.c)), (51, .v (.slice la ln lc)), (52, .v (.int .i64 ((ln : Nat) : Int))), (53, .v (.int .i64 ((y.i : Nat) : Int))), (54, .v (.bool (decide (((y.i : Nat) : Int) < ((ln : Nat) : Int)))))], [⟨32, [.int .i64 bits]⟩, ⟨36, encT x⟩, ⟨9, [.string lo]⟩, ⟨9, [.string hi]⟩, ⟨54, [.int .i64 sp.t, .slice la ln lc, .slice pa pn pc]⟩]⟩ [.c 19] [.c 22, .c 25] (by kernel_rfl) ?_
            refine J.cond (b := (decide (((y.i : Nat) : Int) < ((ln : Nat) : Int)))) (k' := 24) (by kernel_rfl) (fun hc => ?_) (fun hc => ?_)
            · try simp only [nrm] at hc
              have hc6 := hc
              refine J.run [.n, .n, .n, .n, .n] [5, 6, 7, 8, 9, 12, 13, 51, 52, 53] ⟨[(5, .loc 0 0), (6, .loc 1 0), (7, .loc 2 0), (8, .loc 3 0), (9, .loc 4 0), (12, .v (.int .i64 ((ln : Nat) : Int))), (13, .v (.slice y.a y.i y.c)), (51, .v (.slice la ln lc)), (52, .v (.int .i64 ((ln : Nat) : Int))), (53, .v (.int .i64 ((y.i : Nat) : Int)))], [⟨32, [.int .i64 bits]⟩, ⟨36, encT x⟩, ⟨9, [.string lo]⟩, ⟨9, [.string hi]⟩, ⟨54, [.int .i64 sp.t, .slice la ln lc, .slice pa pn pc]⟩]⟩ [.c 23, .c 25] [.o 28 0, .c 29, .b 1, .c 40] (by kernel_rfl) ?_
              obtain ⟨p1, o1, rfl⟩ := hs.addr (by omega)
              refine J.idx (b := p1) (off := o1) (len := ln) (i := ((y.i : Nat) : Int)) (sz := 1) (d := 55) (by kernel_rfl) (by omega) (by omega) ?_
              obtain ⟨x1, hx1⟩ : ∃ zq, (sp.leaves)[y.i]? = some zq := ⟨_, List.getElem?_eq_getElem (by omega)⟩
              obtain ⟨ra1, rn1, rc1, hrow1, hld1⟩ := hs.row hx1
              have hshhrow1 := (Short.at (by assumption) hx1 : x1.length ≤ 1000000); have hllhrow1 := hrow1.len
              refine J.ld (T := 23) (b := p1) (off := o1 + y.i * 1) (d := 56) (v := .slice ra1 rn1 rc1) (by kernel_rfl) (fun w1 A1 m1 l1 => hld1 _ _ _ m1 _ _ (by kernel_rfl)) ?_
              refine J.run [.u, .n, .n, .n, .u] [5, 6, 7, 8, 9, 12, 13, 51, 52, 53, 58] ⟨[(5, .loc 0 0), (6, .loc 1 0), (7, .loc 2 0), (8, .loc 3 0), (9, .loc 4 0), (12, .v (.int .i64 ((ln : Nat) : Int))), (13, .v (.slice y.a y.i y.c)), (51, .v (.slice (some ⟨p1, o1, none⟩) ln lc)), (52, .v (.int .i64 ((ln : Nat) : Int))), (53, .v (.int .i64 ((y.i : Nat) : Int))), (58, .v (.slice ra1 rn1 rc1))], [⟨32, [.int .i64 bits]⟩, ⟨36, encT x⟩, ⟨9, [.string lo]⟩, ⟨9, [.string hi]⟩, ⟨54, [.int .i64 sp.t, .slice (some ⟨p1, o1, none⟩) ln lc, .slice pa pn pc]⟩]⟩ [.o 28 2, .c 29, .b 1, .c 40] [.o 30 1, .c 31, .b 1, .c 40] (by kernel_rfl) ?_
              refine J.call (d := some 59) (by kernel_rfl) (fun w1 A1 m1 l1 => whole_calls ra1 rn1 rc1 x1 nobody w1 noA (hrow1.mv m1).any) ?_
              rintro _ u2 w3 A3 rfl g2
              have m2 := g2.mv
              replace hs := hs.mv m2; replace hp := hp.mv m2; replace hrow1 := hrow1.mv m2; replace ho := ho.mv m2
              refine J.run [.u, .u, .u] [5, 6, 7, 8, 9, 12, 13, 51, 52, 53, 60, 61] ⟨[(5, .loc 0 0), (6, .loc 1 0), (7, .loc 2 0), (8, .loc 3 0), (9, .loc 4 0), (12, .v (.int .i64 ((ln : Nat) : Int))), (13, .v (.slice y.a y.i y.c)), (51, .v (.slice (some ⟨p1, o1, none⟩) ln lc)), (52, .v (.int .i64 ((ln : Nat) : Int))), (53, .v (.int .i64 ((y.i : Nat) : Int))), (60, .v (.agg (encE (pars x1).1).toArray)), (61, .v (.bool (wholeF x1)))], [⟨32, [.int .i64 bits]⟩, ⟨36, encT x⟩, ⟨9, [.string lo]⟩, ⟨9, [.string hi]⟩, ⟨54, [.int .i64 sp.t, .slice (some ⟨p1, o1, none⟩) ln lc, .slice pa pn pc]⟩]⟩ [.o 30 2, .c 31, .b 1, .c 40] [.o 30 5, .c 31, .b 1, .c 40] (by kernel_rfl) ?_
              refine J.new (T := 42) (cs := [.string (⟨#[]⟩ : Str), .string (⟨#[]⟩ : Str), .bool false, .int .i64 0]) (d := 16) (K := .ptr) (by kernel_rfl) (fun b6 hb6 => ?_)
              replace ho := ho.more hb6
              refine J.run [.u, .u, .n, .n, .n, .n, .u, .u, .n] [5, 6, 7, 8, 9, 12, 13, 16, 51, 52, 53, 63] ⟨[(5, .loc 0 0), (6, .loc 1 0), (7, .loc 2 0), (8, .loc 3 0), (9, .loc 4 0), (12, .v (.int .i64 ((ln : Nat) : Int))), (13, .v (.slice y.a y.i y.c)), (16, .loc 5 0), (51, .v (.slice (some ⟨p1, o1, none⟩) ln lc)), (52, .v (.int .i64 ((ln : Nat) : Int))), (53, .v (.int .i64 ((y.i : Nat) : Int))), (63, .v (.bool (!(wholeF x1))))], [⟨32, [.int .i64 bits]⟩, ⟨36, encT x⟩, ⟨9, [.string lo]⟩, ⟨9, [.string hi]⟩, ⟨54, [.int .i64 sp.t, .slice (some ⟨p1, o1, none⟩) ln lc, .slice pa pn pc]⟩, ⟨42, encE (pars x1).1⟩]⟩ [.o 30 6, .c 31, .b 1, .c 40] [.c 34, .c 39, .b 1, .c 40] (by kernel_rfl) ?_
              refine J.cond (b := (!(wholeF x1))) (k' := 38) (by kernel_rfl) (fun hc => ?_) (fun hc => ?_)
              · try simp only [nrm] at hc
                have hc7 := hc
                refine J.run [.n, .n, .u, .u, .n] [10, 11] ⟨[(10, .v (.slice none 0 0)), (11, .v (.int .i64 8))], [⟨32, [.int .i64 bits]⟩, ⟨36, encT x⟩, ⟨9, [.string lo]⟩, ⟨9, [.string hi]⟩, ⟨54, [.int .i64 sp.t, .slice (some ⟨p1, o1, none⟩) ln lc, .slice pa pn pc]⟩, ⟨42, encE (pars x1).1⟩]⟩ [.c 35, .c 39, .b 1, .c 40] [.c 37, .c 39, .b 1, .c 40] (by kernel_rfl) ?_
                refine J.ret (v := .tuple #[.slice none 0 0, .int .i64 8]) (by kernel_rfl) (by kernel_rfl) (fun w1 A1 m1 hac l1 => by rw [spanC_leaf hx1 (by simpa using hc7)]; exact ⟨none, 0, rfl, Nw.new (Nw.nil W.heap.size 42 4 [] A1 w1)⟩)
              · try simp only [nrm] at hc
                have hc7 := hc
                refine J.run [.n, .n, .u, .u] [5, 6, 7, 8, 9, 12, 51, 52, 53, 64, 65] ⟨[(5, .loc 0 0), (6, .loc 1 0), (7, .loc 2 0), (8, .loc 3 0), (9, .loc 4 0), (12, .v (.int .i64 ((ln : Nat) : Int))), (51, .v (.slice (some ⟨p1, o1, none⟩) ln lc)), (52, .v (.int .i64 ((ln : Nat) : Int))), (53, .v (.int .i64 ((y.i : Nat) : Int))), (64, .v (.slice y.a y.i y.c)), (65, .v (.agg (encE (pars x1).1).toArray))], [⟨32, [.int .i64 bits]⟩, ⟨36, encT x⟩, ⟨9, [.string lo]⟩, ⟨9, [.string hi]⟩, ⟨54, [.int .i64 sp.t, .slice (some ⟨p1, o1, none⟩) ln lc, .slice pa pn pc]⟩, ⟨42, encE (pars x1).1⟩]⟩ [.c 38, .c 39, .b 1, .c 40] [.o 39 2, .b 1, .c 40] (by kernel_rfl) ?_
                refine J.new (T := 42) (cs := encE (pars x1).1) (d := 66) (K := (.sl 1)) (by kernel_rfl) (fun b7 hb7 => ?_)
                replace ho := ho.more hb7
                refine J.append (e := 42) (sz := 4) (a := y.a) (nn := y.i) (c := y.c) (T := 22) (Tx := 22) (x := .slice (some ⟨b7, 0, none⟩) 1 1) (bytes := 48) (d := 67) (xs := (parsL (sp.leaves.take y.i)).flatMap encE) (news := encE (pars x1).1) (m := 1) (by kernel_rfl) (by kernel_rfl) ho.own (.inr ho) (fun w1 A1 m1 l1 => l1.src (i := 6) rfl (e := 42) (by kernel_rfl) rfl rfl) (by simp only [maxLen]; omega) (by omega) ?_
                intro a1 c1 w4 A4 hn1 m3
                replace hs := hs.mv m3; replace hp := hp.mv m3; replace hrow1 := hrow1.mv m3
                replace hn1 := hn1.re (n' := y.i + 1) (ys := (parsL (sp.leaves.take y.i) ++ [(pars x1).1]).flatMap encE) rfl (by first | (simp only [List.flatMap_append, dbytes_flat, byteCells_u8]; done) | (rw [List.flatMap_append]; rfl))
                refine J.run [.u, .n, .n, .n, .u, .u, .n] [5, 6, 7, 8, 9, 12, 13, 51, 52, 53] ⟨[(5, .loc 0 0), (6, .loc 1 0), (7, .loc 2 0), (8, .loc 3 0), (9, .loc 4 0), (12, .v (.int .i64 ((ln : Nat) : Int))), (13, .v (.slice a1 (y.i + 1) c1)), (51, .v (.slice (some ⟨p1, o1, none⟩) ln lc)), (52, .v (.int .i64 ((ln : Nat) : Int))), (53, .v (.int .i64 (IntKind.i64.wrap (((y.i : Nat) : Int) + 1))))], [⟨32, [.int .i64 bits]⟩, ⟨36, encT x⟩, ⟨9, [.string lo]⟩, ⟨9, [.string hi]⟩, ⟨54, [.int .i64 sp.t, .slice (some ⟨p1, o1, none⟩) ln lc, .slice pa pn pc]⟩, ⟨42, encE (pars x1).1⟩, ⟨42, encE (pars x1).1⟩]⟩ [.o 39 4, .b 1, .c 40] [] (by kernel_rfl) ?_
                have hw1 : IntKind.i64.wrap (((y.i : Nat) : Int) + 1) = ((y.i + 1 : Nat) : Int) := by rw [wrap_i64 (by omega) (by omega)]; try omega
                rw [hw1]
                rw [← parsL_next hx1] at hn1
                exact J.again ⟨y.i + 1, a1, c1⟩ [5, 6, 7, 8, 9, 12, 13, 51, 52, 53] 5 (by simp only; omega) (by kernel_rfl) (by kernel_rfl) (fun w1 A1 m1 => ⟨by simp only; omega, hs.mv m1, hp.mv m1, (hn1.mv m1).fewer (by simp), all_step hall hx1 (by simpa using hc7)⟩)
            · try simp only [nrm] at hc
              have hc6 := hc
              refine J.exit (id := 0) (by kernel_rfl) (by rfl) ?_
              have hyi : y.i = ln := by omega
              have htk : sp.leaves.take y.i = sp.leaves := List.take_of_length_le (by omega)
              rw [htk] at ho hall; obtain ⟨gq, oq, hag⟩ := ho.addr (by omega); rw [hag] at ho ⊢
              have hoq : oq = 0 := by rcases id ho with ⟨_, ⟨h2, _⟩ | ⟨_, _, h2, _⟩⟩ <;> cases h2 <;> rfl
              subst hoq; rw [hyi] at ho ⊢
              have hpl := parsL_len sp.leaves; obtain ⟨e0, he0⟩ : ∃ e0, (parsL sp.leaves)[0]? = some e0 := ⟨_, List.getElem?_eq_getElem (by omega)⟩; obtain ⟨e1, he1⟩ : ∃ e1, (parsL sp.leaves)[ln - 1]? = some e1 := ⟨_, List.getElem?_eq_getElem (by omega)⟩
              have hk0 := firstK_eq he0; have hk1 : lastK (parsL sp.leaves) = e1.key := lastK_eq (by rw [hpl, ← hlen]; exact he1)
              refine J.run [.n] [5, 6, 7, 8, 9, 12, 13] ⟨[(5, .loc 0 0), (6, .loc 1 0), (7, .loc 2 0), (8, .loc 3 0), (9, .loc 4 0), (12, .v (.int .i64 ((ln : Nat) : Int))), (13, .v (.slice (some ⟨gq, 0, none⟩) ln y.c))], [⟨32, [.int .i64 bits]⟩, ⟨36, encT x⟩, ⟨9, [.string lo]⟩, ⟨9, [.string hi]⟩, ⟨54, [.int .i64 sp.t, .slice la ln lc, .slice pa pn pc]⟩]⟩ [.c 41] [.c 42, .c 43] (by kernel_rfl) ?_
              refine J.draw [] nobody (by kernel_rfl) (by kernel_rfl) (fun _ h => h.elim) (fun w5 A5 m4 hr1 hX1 => ?_)
              replace hs := hs.mv m4; replace hp := hp.mv m4; replace ho := ho.mv m4
              refine J.take0 [(0, .u), (4, .u)] [5, 6, 7, 8, 9, 12, 13, 69, 73] [(5, .loc 0 0), (6, .loc 1 0), (7, .loc 2 0), (8, .loc 3 0), (9, .loc 4 0), (12, .v (.int .i64 ((ln : Nat) : Int))), (13, .v (.slice (some ⟨gq, 0, none⟩) ln y.c)), (69, .v (.slice (some ⟨gq, 0, none⟩) ln y.c)), (73, .v (.string lo))] [4, 0] (calm_body _ _ _) (by intro k _ h; exact h) hr1 (by kernel_rfl) ?_
              refine J.idxp (j := 1) (b := gq) (off := 0) (len := ln) (i := 0) (sz := 4) (d := 70) (calm_body _ _ _) (by kernel_rfl) (by kernel_rfl) (by omega) (by omega) ?_
              refine J.take0 [(2, .u)] [5, 6, 7, 8, 9, 12, 13, 71, 73] [(5, .loc 0 0), (6, .loc 1 0), (7, .loc 2 0), (8, .loc 3 0), (9, .loc 4 0), (12, .v (.int .i64 ((ln : Nat) : Int))), (13, .v (.slice (some ⟨gq, 0, none⟩) ln y.c)), (71, .v (.pointer (some ⟨gq, 0 + 0 * 4, none⟩))), (73, .v (.string lo))] [2, 1, 4, 0] (calm_body _ _ _) (by intro k _ h; exact h) hr1 (by kernel_rfl) ?_
              refine J.ldp (i := 3) (T := 9) (b := gq) (off := 0 + 0 * 4) (d := 72) (v := .string e0.key) (calm_body _ _ _) (by kernel_rfl) (by kernel_rfl) hX1 (fun w1 m1 => ((ho.mvD m1).any (fun x _ => rfl) (by decide)).ld1 (by kernel_rfl) he0 (j := 0) rfl) ?_
              refine J.take0 [(5, .u), (6, .u), (7, .g), (8, .g), (9, .g), (10, .u), (11, .u)] [5, 6, 7, 8, 9, 12, 13, 18] [(5, .loc 0 0), (6, .loc 1 0), (7, .loc 2 0), (8, .loc 3 0), (9, .loc 4 0), (12, .v (.int .i64 ((ln : Nat) : Int))), (13, .v (.slice (some ⟨gq, 0, none⟩) ln y.c)), (18, .v (.bool ((!(slt e0.key lo)) && (decide (sp.t > 0)))))] [11, 10, 9, 8, 7, 6, 5, 3, 2, 1, 4, 0] (calm_body _ _ _) (by intro k _ h; exact h) hr1 (by kernel_rfl) ?_
              refine J.pdone (by kernel_rfl) ?_
              refine J.run [.n] [5, 6, 7, 8, 9, 12, 13, 18] ⟨[(5, .loc 0 0), (6, .loc 1 0), (7, .loc 2 0), (8, .loc 3 0), (9, .loc 4 0), (12, .v (.int .i64 ((ln : Nat) : Int))), (13, .v (.slice (some ⟨gq, 0, none⟩) ln y.c)), (18, .v (.bool ((!(slt e0.key lo)) && (decide (sp.t > 0)))))], [⟨32, [.int .i64 bits]⟩, ⟨36, encT x⟩, ⟨9, [.string lo]⟩, ⟨9, [.string hi]⟩, ⟨54, [.int .i64 sp.t, .slice la ln lc, .slice pa pn pc]⟩]⟩ [.c 43] [.c 44, .c 45] (by kernel_rfl) ?_
              refine J.draw [] nobody (by kernel_rfl) (by kernel_rfl) (fun _ h => h.elim) (fun w6 A6 m5 hr2 hX2 => ?_)
              replace hs := hs.mv m5; replace hp := hp.mv m5; replace ho := ho.mv m5
              refine J.take0 [(0, .u), (1, .u), (2, .u), (6, .u)] [5, 6, 7, 8, 9, 12, 13, 18, 80, 82, 86] [(5, .loc 0 0), (6, .loc 1 0), (7, .loc 2 0), (8, .loc 3 0), (9, .loc 4 0), (12, .v (.int .i64 ((ln : Nat) : Int))), (13, .v (.slice (some ⟨gq, 0, none⟩) ln y.c)), (18, .v (.bool ((!(slt e0.key lo)) && (decide (sp.t > 0))))), (80, .v (.slice (some ⟨gq, 0, none⟩) ln y.c)), (82, .v (.int .i64 (IntKind.i64.wrap (((ln : Nat) : Int) - 1)))), (86, .v (.string hi))] [6, 2, 1, 0] (calm_body _ _ _) (by intro k _ h; exact h) hr2 (by kernel_rfl) ?_
              rw [(show ((ln : Nat) : Int) - 1 = ((ln - 1 : Nat) : Int) by omega)]
              have hw2 : IntKind.i64.wrap ((ln - 1 : Nat) : Int) = ((ln - 1 : Nat) : Int) := by rw [wrap_i64 (by omega) (by omega)]
              rw [hw2]
              refine J.idxp (j := 3) (b := gq) (off := 0) (len := ln) (i := ((ln - 1 : Nat) : Int)) (sz := 4) (d := 83) (calm_body _ _ _) (by kernel_rfl) (by kernel_rfl) (by omega) (by omega) ?_
              refine J.take0 [(4, .u)] [5, 6, 7, 8, 9, 12, 13, 18, 84, 86] [(5, .loc 0 0), (6, .loc 1 0), (7, .loc 2 0), (8, .loc 3 0), (9, .loc 4 0), (12, .v (.int .i64 ((ln : Nat) : Int))), (13, .v (.slice (some ⟨gq, 0, none⟩) ln y.c)), (18, .v (.bool ((!(slt e0.key lo)) && (decide (sp.t > 0))))), (84, .v (.pointer (some ⟨gq, 0 + (ln - 1) * 4, none⟩))), (86, .v (.string hi))] [4, 3, 6, 2, 1, 0] (calm_body _ _ _) (by intro k _ h; exact h) hr2 (by kernel_rfl) ?_
              refine J.ldp (i := 5) (T := 9) (b := gq) (off := 0 + (ln - 1) * 4) (d := 85) (v := .string e1.key) (calm_body _ _ _) (by kernel_rfl) (by kernel_rfl) hX2 (fun w1 m1 => ((ho.mvD m1).any (fun x _ => rfl) (by decide)).ld1 (by kernel_rfl) he1 (j := 0) rfl) ?_
              refine J.pick1 7 (by kernel_rfl) (by kernel_rfl) ?_
              refine J.callq (d := some 87) (by kernel_rfl) (fun w1 A1 m1 l1 => below_calls e1.key hi nobody w1 noA) ?_
              rintro _ u3 w7 A7 rfl g3
              have m6 := g3.mv
              replace hs := hs.mv m6; replace hp := hp.mv m6; replace ho := ho.mv m6
              refine J.take1 [(8, .u)] [5, 6, 7, 8, 9, 12, 13, 18, 88] [(5, .loc 0 0), (6, .loc 1 0), (7, .loc 2 0), (8, .loc 3 0), (9, .loc 4 0), (12, .v (.int .i64 ((ln : Nat) : Int))), (13, .v (.slice (some ⟨gq, 0, none⟩) ln y.c)), (18, .v (.bool ((!(slt e0.key lo)) && (decide (sp.t > 0))))), (88, .v (.bool (belowF e1.key hi)))] [8, 7, 5, 4, 3, 6, 2, 1, 0] (calm_body _ _ _) (by kernel_rfl) ?_
              rcases Bool.eq_false_or_eq_true (belowF e1.key hi) with hc | hc
              · rw [hc]
                try simp only [nrm] at hc
                have hc8 := hc
                refine J.take1 [(9, .w), (11, .w), (13, .w)] [5, 6, 7, 8, 9, 13, 18, 88, 89, 91, 93] [(5, .loc 0 0), (6, .loc 1 0), (7, .loc 2 0), (8, .loc 3 0), (9, .loc 4 0), (13, .v (.slice (some ⟨gq, 0, none⟩) ln y.c)), (18, .v (.bool ((!(slt e0.key lo)) && (decide (sp.t > 0))))), (88, .v (.bool true)), (89, .loc 4 0), (91, .v (.int .i64 ((ln : Nat) : Int))), (93, .loc 1 1)] [13, 11, 9, 8, 7, 5, 4, 3, 6, 2, 1, 0] (calm_body _ _ _) (by kernel_rfl) ?_
                refine J.pick [10, 14] (by kernel_rfl) (by kernel_rfl) (by simp) (fun i hi => ?_)
                simp only [List.mem_cons, List.not_mem_nil, or_false] at hi
                rcases hi with rfl | rfl
                · skip
                  refine J.ldq (T := 3) (b := b5) (off := 0) (d := 90) (v := .int .i64 sp.t) (by kernel_rfl) (fun w1 A1 m1 l1 => l1.ldc (i := 4) rfl (by kernel_rfl) (by kernel_rfl)) ?_
                  refine J.take1 [(12, .w)] [5, 6, 7, 8, 9, 13, 18, 88, 92, 93] [(5, .loc 0 0), (6, .loc 1 0), (7, .loc 2 0), (8, .loc 3 0), (9, .loc 4 0), (13, .v (.slice (some ⟨gq, 0, none⟩) ln y.c)), (18, .v (.bool ((!(slt e0.key lo)) && (decide (sp.t > 0))))), (88, .v (.bool true)), (92, .v (.int .i64 (IntKind.i64.wrap (sp.t + ((ln : Nat) : Int))))), (93, .loc 1 1)] [12, 10, 13, 11, 9, 8, 7, 5, 4, 3, 6, 2, 1, 0] (calm_body _ _ _) (by kernel_rfl) ?_
                  have hw3 : IntKind.i64.wrap (sp.t + ((ln : Nat) : Int)) = (sp.t + ((ln : Nat) : Int)) := by rw [wrap_i64 (by omega) (by omega)]
                  rw [hw3]
                  refine J.pick1 14 (by kernel_rfl) (by kernel_rfl) ?_
                  refine J.ldq (T := 3) (b := b2) (off := 1) (d := 94) (v := .int .i64 x.count) (by kernel_rfl) (fun w1 A1 m1 l1 => l1.ldc (i := 1) rfl (by kernel_rfl) (by kernel_rfl)) ?_
                  refine J.take1 [(15, .w), (16, .u), (17, .u)] [5, 6, 7, 8, 9, 13, 18, 19] [(5, .loc 0 0), (6, .loc 1 0), (7, .loc 2 0), (8, .loc 3 0), (9, .loc 4 0), (13, .v (.slice (some ⟨gq, 0, none⟩) ln y.c)), (18, .v (.bool ((!(slt e0.key lo)) && (decide (sp.t > 0))))), (19, .v (.bool (decide ((sp.t + ((ln : Nat) : Int)) < x.count))))] [17, 16, 15, 14, 12, 10, 13, 11, 9, 8, 7, 5, 4, 3, 6, 2, 1, 0] (calm_body _ _ _) (by kernel_rfl) ?_
                  rw [hx]
                  refine J.pdone (by kernel_rfl) ?_
                  refine J.run [.n, .n, .n, .u, .u] [5, 6, 7, 8, 9, 13, 19, 98] ⟨[(5, .loc 0 0), (6, .loc 1 0), (7, .loc 2 0), (8, .loc 3 0), (9, .loc 4 0), (13, .v (.slice (some ⟨gq, 0, none⟩) ln y.c)), (19, .v (.bool (decide ((sp.t + ((ln : Nat) : Int)) < ((N : Nat) : Int))))), (98, .v (.bool ((!(slt e0.key lo)) && (decide (sp.t > 0)))))], [⟨32, [.int .i64 bits]⟩, ⟨36, encT x⟩, ⟨9, [.string lo]⟩, ⟨9, [.string hi]⟩, ⟨54, [.int .i64 sp.t, .slice la ln lc, .slice pa pn pc]⟩]⟩ [.c 45] [.o 47 2, .c 48, .c 53] (by kernel_rfl) ?_
                  rcases Bool.eq_false_or_eq_true ((!(slt e0.key lo)) && (decide (sp.t > 0))) with hc | hc
                  · rw [hc]
                    try simp only [nrm] at hc
                    have hc9 := hc
                    refine J.run [.x, .u, .u, .x, .x, .x, .u, .u, .x, .x, .x, .x, .x, .x, .x, .x, .x, .x, .x, .x, .x, .u, .n] [7, 8, 13, 120] ⟨[(7, .loc 2 0), (8, .loc 3 0), (13, .v (.slice (some ⟨gq, 0, none⟩) ln y.c)), (120, .v (.bool true))], [⟨32, [.int .i64 bits]⟩, ⟨36, encT x⟩, ⟨9, [.string lo]⟩, ⟨9, [.string hi]⟩, ⟨54, [.int .i64 sp.t, .slice la ln lc, .slice pa pn pc]⟩]⟩ [.o 47 2, .c 48, .c 53] [.c 48, .c 53] (by kernel_rfl) ?_
                    refine J.cond (b := true) (k' := 52) (by kernel_rfl) (fun _ => ?_) (fun hc => absurd hc (by decide))
                    refine J.run [.n, .n, .u, .u, .n] [10, 11] ⟨[(10, .v (.slice none 0 0)), (11, .v (.int .i64 8))], [⟨32, [.int .i64 bits]⟩, ⟨36, encT x⟩, ⟨9, [.string lo]⟩, ⟨9, [.string hi]⟩, ⟨54, [.int .i64 sp.t, .slice la ln lc, .slice pa pn pc]⟩]⟩ [.c 49, .c 53] [.c 51, .c 53] (by kernel_rfl) ?_
                    have hno : spanC bits x N lo hi sp = ([], 8) := by
                      rw [spanC_go ⟨by first | assumption | simp_all, by omega, by omega, by omega, by omega⟩ hall, if_pos]
                      unfold lateF earlyF; rw [hk0, hk1, hpl, ← hlen]; simp [hc3, hc4, hc5, hc6, hc8, hc9]
                    refine J.ret (v := .tuple #[.slice none 0 0, .int .i64 8]) (by kernel_rfl) (by kernel_rfl) (fun w1 A1 m1 hac l1 => by rw [hno]; exact ⟨none, 0, rfl, Nw.new (Nw.nil W.heap.size 42 4 [] A1 w1)⟩)
                  · rw [hc]
                    try simp only [nrm] at hc
                    have hc9 := hc
                    refine J.run [.w, .u, .u] [5, 6, 7, 8, 9, 13, 101] ⟨[(5, .loc 0 0), (6, .loc 1 0), (7, .loc 2 0), (8, .loc 3 0), (9, .loc 4 0), (13, .v (.slice (some ⟨gq, 0, none⟩) ln y.c)), (101, .v (.bool (decide ((sp.t + ((ln : Nat) : Int)) < ((N : Nat) : Int)))))], [⟨32, [.int .i64 bits]⟩, ⟨36, encT x⟩, ⟨9, [.string lo]⟩, ⟨9, [.string hi]⟩, ⟨54, [.int .i64 sp.t, .slice la ln lc, .slice pa pn pc]⟩]⟩ [.o 47 2, .c 48, .c 53] [.o 47 5, .c 48, .c 53] (by kernel_rfl) ?_
                    rcases Bool.eq_false_or_eq_true (decide ((sp.t + ((ln : Nat) : Int)) < ((N : Nat) : Int))) with hc | hc
                    · rw [hc]
                      try simp only [nrm] at hc
                      have hc10 := hc
                      refine J.run [.x, .x, .x, .u, .u, .x, .x, .x, .x, .x, .x, .x, .x, .x, .x, .x, .x, .x, .u, .n] [7, 8, 13, 120] ⟨[(7, .loc 2 0), (8, .loc 3 0), (13, .v (.slice (some ⟨gq, 0, none⟩) ln y.c)), (120, .v (.bool true))], [⟨32, [.int .i64 bits]⟩, ⟨36, encT x⟩, ⟨9, [.string lo]⟩, ⟨9, [.string hi]⟩, ⟨54, [.int .i64 sp.t, .slice la ln lc, .slice pa pn pc]⟩]⟩ [.o 47 5, .c 48, .c 53] [.c 48, .c 53] (by kernel_rfl) ?_
                      refine J.cond (b := true) (k' := 52) (by kernel_rfl) (fun _ => ?_) (fun hc => absurd hc (by decide))
                      refine J.run [.n, .n, .u, .u, .n] [10, 11] ⟨[(10, .v (.slice none 0 0)), (11, .v (.int .i64 8))], [⟨32, [.int .i64 bits]⟩, ⟨36, encT x⟩, ⟨9, [.string lo]⟩, ⟨9, [.string hi]⟩, ⟨54, [.int .i64 sp.t, .slice la ln lc, .slice pa pn pc]⟩]⟩ [.c 49, .c 53] [.c 51, .c 53] (by kernel_rfl) ?_
                      have hno : spanC bits x N lo hi sp = ([], 8) := by
                        rw [spanC_go ⟨by first | assumption | simp_all, by omega, by omega, by omega, by omega⟩ hall, if_pos]
                        unfold lateF earlyF; rw [hk0, hk1, hpl, ← hlen]; simp [hc3, hc4, hc5, hc6, hc8, hc9, hc10]
                      refine J.ret (v := .tuple #[.slice none 0 0, .int .i64 8]) (by kernel_rfl) (by kernel_rfl) (fun w1 A1 m1 hac l1 => by rw [hno]; exact ⟨none, 0, rfl, Nw.new (Nw.nil W.heap.size 42 4 [] A1 w1)⟩)
                    · rw [hc]
                      try simp only [nrm] at hc
                      have hc10 := hc
                      refine J.run [.w] [5, 6, 7, 8, 9, 13, 101, 102] ⟨[(5, .loc 0 0), (6, .loc 1 0), (7, .loc 2 0), (8, .loc 3 0), (9, .loc 4 0), (13, .v (.slice (some ⟨gq, 0, none⟩) ln y.c)), (101, .v (.bool false)), (102, .v (.slice (some ⟨gq, 0, none⟩) ln y.c))], [⟨32, [.int .i64 bits]⟩, ⟨36, encT x⟩, ⟨9, [.string lo]⟩, ⟨9, [.string hi]⟩, ⟨54, [.int .i64 sp.t, .slice la ln lc, .slice pa pn pc]⟩]⟩ [.o 47 5, .c 48, .c 53] [.o 47 6, .c 48, .c 53] (by kernel_rfl) ?_
                      refine J.call (d := some 103) (by kernel_rfl) (fun w1 A1 m1 l1 => sorted_calls (some ⟨gq, 0, none⟩) ln y.c (parsL sp.leaves) nobody w1 noA ((ho.mv m1).any (fun x _ => rfl) (by decide))) ?_
                      rintro _ u4 w8 A8 rfl g4
                      have m7 := g4.mv
                      replace hs := hs.mv m7; replace hp := hp.mv m7; replace ho := ho.mv m7
                      refine J.run [.w, .u, .u] [5, 6, 7, 8, 9, 13, 106] ⟨[(5, .loc 0 0), (6, .loc 1 0), (7, .loc 2 0), (8, .loc 3 0), (9, .loc 4 0), (13, .v (.slice (some ⟨gq, 0, none⟩) ln y.c)), (106, .v (.bool (!(decide (SortedL (parsL sp.leaves))))))], [⟨32, [.int .i64 bits]⟩, ⟨36, encT x⟩, ⟨9, [.string lo]⟩, ⟨9, [.string hi]⟩, ⟨54, [.int .i64 sp.t, .slice la ln lc, .slice pa pn pc]⟩]⟩ [.o 47 7, .c 48, .c 53] [.o 47 10, .c 48, .c 53] (by kernel_rfl) ?_
                      rcases Bool.eq_false_or_eq_true (!(decide (SortedL (parsL sp.leaves)))) with hc | hc
                      · rw [hc]
                        try simp only [nrm] at hc
                        have hc11 := hc
                        refine J.run [.x, .x, .x, .x, .x, .x, .x, .x, .x, .x, .x, .x, .x, .u, .n] [7, 8, 13, 120] ⟨[(7, .loc 2 0), (8, .loc 3 0), (13, .v (.slice (some ⟨gq, 0, none⟩) ln y.c)), (120, .v (.bool true))], [⟨32, [.int .i64 bits]⟩, ⟨36, encT x⟩, ⟨9, [.string lo]⟩, ⟨9, [.string hi]⟩, ⟨54, [.int .i64 sp.t, .slice la ln lc, .slice pa pn pc]⟩]⟩ [.o 47 10, .c 48, .c 53] [.c 48, .c 53] (by kernel_rfl) ?_
                        refine J.cond (b := true) (k' := 52) (by kernel_rfl) (fun _ => ?_) (fun hc => absurd hc (by decide))
                        refine J.run [.n, .n, .u, .u, .n] [10, 11] ⟨[(10, .v (.slice none 0 0)), (11, .v (.int .i64 8))], [⟨32, [.int .i64 bits]⟩, ⟨36, encT x⟩, ⟨9, [.string lo]⟩, ⟨9, [.string hi]⟩, ⟨54, [.int .i64 sp.t, .slice la ln lc, .slice pa pn pc]⟩]⟩ [.c 49, .c 53] [.c 51, .c 53] (by kernel_rfl) ?_
                        have hno : spanC bits x N lo hi sp = ([], 8) := by
                          rw [spanC_go ⟨by first | assumption | simp_all, by omega, by omega, by omega, by omega⟩ hall, if_pos]
                          unfold lateF earlyF; rw [hk0, hk1, hpl, ← hlen]; simp [hc3, hc4, hc5, hc6, hc8, hc9, hc10, hc11]
                        refine J.ret (v := .tuple #[.slice none 0 0, .int .i64 8]) (by kernel_rfl) (by kernel_rfl) (fun w1 A1 m1 hac l1 => by rw [hno]; exact ⟨none, 0, rfl, Nw.new (Nw.nil W.heap.size 42 4 [] A1 w1)⟩)
                      · rw [hc]
                        try simp only [nrm] at hc
                        have hc11 := hc
                        refine J.run [.w, .w, .w, .w, .w, .w, .w, .w, .w, .w, .w] [7, 8, 13, 106, 107, 109, 111, 113, 115, 117] ⟨[(7, .loc 2 0), (8, .loc 3 0), (13, .v (.slice (some ⟨gq, 0, none⟩) ln y.c)), (106, .v (.bool false)), (107, .v (.agg [.int .i64 bits].toArray)), (109, .v (.agg [.int .u8 (((x.root 0).toNat : Nat) : Int), .int .u8 (((x.root 1).toNat : Nat) : Int), .int .u8 (((x.root 2).toNat : Nat) : Int), .int .u8 (((x.root 3).toNat : Nat) : Int), .int .u8 (((x.root 4).toNat : Nat) : Int), .int .u8 (((x.root 5).toNat : Nat) : Int), .int .u8 (((x.root 6).toNat : Nat) : Int), .int .u8 (((x.root 7).toNat : Nat) : Int), .int .u8 (((x.root 8).toNat : Nat) : Int), .int .u8 (((x.root 9).toNat : Nat) : Int), .int .u8 (((x.root 10).toNat : Nat) : Int), .int .u8 (((x.root 11).toNat : Nat) : Int), .int .u8 (((x.root 12).toNat : Nat) : Int), .int .u8 (((x.root 13).toNat : Nat) : Int), .int .u8 (((x.root 14).toNat : Nat) : Int), .int .u8 (((x.root 15).toNat : Nat) : Int), .int .u8 (((x.root 16).toNat : Nat) : Int), .int .u8 (((x.root 17).toNat : Nat) : Int), .int .u8 (((x.root 18).toNat : Nat) : Int), .int .u8 (((x.root 19).toNat : Nat) : Int), .int .u8 (((x.root 20).toNat : Nat) : Int), .int .u8 (((x.root 21).toNat : Nat) : Int), .int .u8 (((x.root 22).toNat : Nat) : Int), .int .u8 (((x.root 23).toNat : Nat) : Int), .int .u8 (((x.root 24).toNat : Nat) : Int), .int .u8 (((x.root 25).toNat : Nat) : Int), .int .u8 (((x.root 26).toNat : Nat) : Int), .int .u8 (((x.root 27).toNat : Nat) : Int), .int .u8 (((x.root 28).toNat : Nat) : Int), .int .u8 (((x.root 29).toNat : Nat) : Int), .int .u8 (((x.root 30).toNat : Nat) : Int), .int .u8 (((x.root 31).toNat : Nat) : Int)].toArray)), (111, .v (.int .i64 x.count)), (113, .v (.int .i64 sp.t)), (115, .v (.slice la ln lc)), (117, .v (.slice pa pn pc))], [⟨32, [.int .i64 bits]⟩, ⟨36, encT x⟩, ⟨9, [.string lo]⟩, ⟨9, [.string hi]⟩, ⟨54, [.int .i64 sp.t, .slice la ln lc, .slice pa pn pc]⟩]⟩ [.o 47 10, .c 48, .c 53] [.o 47 21, .c 48, .c 53] (by kernel_rfl) ?_
                        rw [hx]
                        refine J.call (d := some 118) (by kernel_rfl) (fun w1 A1 m1 l1 => checkR_calls bits x.root N sp.t la ln lc sp.leaves pa pn pc sp.path (by first | assumption | exact Short.take (by assumption) _ | exact Short.drop (by assumption) _ | exact Short.drop (Short.take (by assumption) _) _) (by omega) (by omega) nobody w1 noA (hs.mv m1).any (hp.mv m1).any) ?_
                        rintro _ u5 w9 A9 rfl g5
                        have m8 := g5.mv
                        replace hs := hs.mv m8; replace hp := hp.mv m8; replace ho := ho.mv m8
                        refine J.run [.w, .u, .n] [7, 8, 13, 120] ⟨[(7, .loc 2 0), (8, .loc 3 0), (13, .v (.slice (some ⟨gq, 0, none⟩) ln y.c)), (120, .v (.bool (!(checkR bits x.root N sp.t sp.leaves sp.path))))], [⟨32, [.int .i64 bits]⟩, ⟨36, encT x⟩, ⟨9, [.string lo]⟩, ⟨9, [.string hi]⟩, ⟨54, [.int .i64 sp.t, .slice la ln lc, .slice pa pn pc]⟩]⟩ [.o 47 22, .c 48, .c 53] [.c 48, .c 53] (by kernel_rfl) ?_
                        refine J.cond (b := (!(checkR bits x.root N sp.t sp.leaves sp.path))) (k' := 52) (by kernel_rfl) (fun hc => ?_) (fun hc => ?_)
                        · try simp only [nrm] at hc
                          have hc12 := hc
                          refine J.run [.n, .n, .u, .u, .n] [10, 11] ⟨[(10, .v (.slice none 0 0)), (11, .v (.int .i64 8))], [⟨32, [.int .i64 bits]⟩, ⟨36, encT x⟩, ⟨9, [.string lo]⟩, ⟨9, [.string hi]⟩, ⟨54, [.int .i64 sp.t, .slice la ln lc, .slice pa pn pc]⟩]⟩ [.c 49, .c 53] [.c 51, .c 53] (by kernel_rfl) ?_
                          have hno : spanC bits x N lo hi sp = ([], 8) := by
                            rw [spanC_go ⟨by first | assumption | simp_all, by omega, by omega, by omega, by omega⟩ hall, if_pos]
                            unfold lateF earlyF; rw [hk0, hk1, hpl, ← hlen]; simp [hc3, hc4, hc5, hc6, hc8, hc9, hc10, hc11, hc12]
                          refine J.ret (v := .tuple #[.slice none 0 0, .int .i64 8]) (by kernel_rfl) (by kernel_rfl) (fun w1 A1 m1 hac l1 => by rw [hno]; exact ⟨none, 0, rfl, Nw.new (Nw.nil W.heap.size 42 4 [] A1 w1)⟩)
                        · try simp only [nrm] at hc
                          have hc12 := hc
                          refine J.run [.n, .n, .n, .u, .u] [121, 122] ⟨[(121, .v (.slice (some ⟨gq, 0, none⟩) ln y.c)), (122, .v ((.func (.func 60) #[] #[.pointer (some ⟨b3, 0, none⟩), .pointer (some ⟨b4, 0, none⟩)])))], [⟨32, [.int .i64 bits]⟩, ⟨36, encT x⟩, ⟨9, [.string lo]⟩, ⟨9, [.string hi]⟩, ⟨54, [.int .i64 sp.t, .slice la ln lc, .slice pa pn pc]⟩]⟩ [.c 52, .c 53] [.o 54 2, .c 55] (by kernel_rfl) ?_
                          obtain ⟨k1, k2, k3, k4⟩ := ho.own_blk gq ⟨_, rfl, rfl⟩
                          have hn7 : ¬ (b3 = gq) := fun h => k2 (by rw [← h]; simp); have hn8 : ¬ (b4 = gq) := fun h => k2 (by rw [← h]; simp)
                          refine J.callX (X := Eb (some ⟨gq, 0, none⟩)) (d := some 123) (fun k hk _ => let q := ho.own_blk k hk; ⟨.inl q.1, q.2.1, q.2.2.1⟩) (fun k hk => (ho.own_blk k hk).2.2.2) (by kernel_rfl) (fun w1 A1 m1 l1 => ret_mono (deleteFunc_calls _ [.pointer (some ⟨b3, 0, none⟩), .pointer (some ⟨b4, 0, none⟩)] _ (delB lo hi) (checkSpan1_func b3 b4 lo hi) gq ln y.c (parsL sp.leaves) (by omega) (fun k => k = gq) w1 (oneA (Nat.lt_of_lt_of_le k4 m1.size)) ((ho.mv m1).retake (Nat.zero_le _) (by simp) rfl) (spanPhi_at (l1.str 2 (T := 9) rfl hn7) (l1.str 3 (T := 9) rfl hn8))) (fun v w h => And.intro h.1 (h.2.retake (N := W.heap.size) (ρ := [b1, b2, b3, b4, b5]) (A := A1) k1 k2 (m1.up gq k4 k3 k2)))) ?_
                          rintro _ w1 w2 A2 ⟨rfl, hd⟩ g2
                          refine J.run [.u, .u, .n] [10, 11] ⟨[(10, .v (.slice (some ⟨gq, 0, none⟩) (((parsL sp.leaves).filter (keepB (delB lo hi))).length) y.c)), (11, .v (.int .i64 0))], [⟨32, [.int .i64 bits]⟩, ⟨36, encT x⟩, ⟨9, [.string lo]⟩, ⟨9, [.string hi]⟩, ⟨54, [.int .i64 sp.t, .slice la ln lc, .slice pa pn pc]⟩]⟩ [.o 54 3, .c 55] [.c 55] (by kernel_rfl) ?_
                          have hyes : spanC bits x N lo hi sp = ((parsL sp.leaves).filter (keepB (delB lo hi)), 0) := by
                            rw [spanC_go ⟨by first | assumption | simp_all, by omega, by omega, by omega, by omega⟩ hall, if_neg]
                            unfold lateF earlyF; rw [hk0, hk1, hpl, ← hlen]; simp [hc3, hc4, hc5, hc6, hc8, hc9, hc10, hc11, hc12]
                            intro h0; have h9 := hc9; rw [h0] at h9; simpa using h9
                          refine J.ret (v := .tuple #[.slice (some ⟨gq, 0, none⟩) (((parsL sp.leaves).filter (keepB (delB lo hi))).length) y.c, .int .i64 0]) (by kernel_rfl) (by kernel_rfl) (fun w1 A1 m1 hac l1 => by rw [hyes]; exact ⟨_, _, rfl, (hd.mv m1).new⟩)
                · skip
                  refine J.ldq (T := 3) (b := b2) (off := 1) (d := 94) (v := .int .i64 x.count) (by kernel_rfl) (fun w1 A1 m1 l1 => l1.ldc (i := 1) rfl (by kernel_rfl) (by kernel_rfl)) ?_
                  rw [hx]
                  refine J.pick1 10 (by kernel_rfl) (by kernel_rfl) ?_
                  refine J.ldq (T := 3) (b := b5) (off := 0) (d := 90) (v := .int .i64 sp.t) (by kernel_rfl) (fun w1 A1 m1 l1 => l1.ldc (i := 4) rfl (by kernel_rfl) (by kernel_rfl)) ?_
                  refine J.take1 [(12, .w), (15, .w), (16, .u), (17, .u)] [5, 6, 7, 8, 9, 13, 18, 19] [(5, .loc 0 0), (6, .loc 1 0), (7, .loc 2 0), (8, .loc 3 0), (9, .loc 4 0), (13, .v (.slice (some ⟨gq, 0, none⟩) ln y.c)), (18, .v (.bool ((!(slt e0.key lo)) && (decide (sp.t > 0))))), (19, .v (.bool (decide ((IntKind.i64.wrap (sp.t + ((ln : Nat) : Int))) < ((N : Nat) : Int)))))] [17, 16, 15, 12, 10, 14, 13, 11, 9, 8, 7, 5, 4, 3, 6, 2, 1, 0] (calm_body _ _ _) (by kernel_rfl) ?_
                  have hw4 : IntKind.i64.wrap (sp.t + ((ln : Nat) : Int)) = (sp.t + ((ln : Nat) : Int)) := by rw [wrap_i64 (by omega) (by omega)]
                  rw [hw4]
                  refine J.pdone (by kernel_rfl) ?_
                  refine J.run [.n, .n, .n, .u, .u] [5, 6, 7, 8, 9, 13, 19, 98] ⟨[(5, .loc 0 0), (6, .loc 1 0), (7, .loc 2 0), (8, .loc 3 0), (9, .loc 4 0), (13, .v (.slice (some ⟨gq, 0, none⟩) ln y.c)), (19, .v (.bool (decide ((sp.t + ((ln : Nat) : Int)) < ((N : Nat) : Int))))), (98, .v (.bool ((!(slt e0.key lo)) && (decide (sp.t > 0)))))], [⟨32, [.int .i64 bits]⟩, ⟨36, encT x⟩, ⟨9, [.string lo]⟩, ⟨9, [.string hi]⟩, ⟨54, [.int .i64 sp.t, .slice la ln lc, .slice pa pn pc]⟩]⟩ [.c 45] [.o 47 2, .c 48, .c 53] (by kernel_rfl) ?_
                  rcases Bool.eq_false_or_eq_true ((!(slt e0.key lo)) && (decide (sp.t > 0))) with hc | hc
                  · rw [hc]
                    try simp only [nrm] at hc
                    have hc13 := hc
                    refine J.run [.x, .u, .u, .x, .x, .x, .u, .u, .x, .x, .x, .x, .x, .x, .x, .x, .x, .x, .x, .x, .x, .u, .n] [7, 8, 13, 120] ⟨[(7, .loc 2 0), (8, .loc 3 0), (13, .v (.slice (some ⟨gq, 0, none⟩) ln y.c)), (120, .v (.bool true))], [⟨32, [.int .i64 bits]⟩, ⟨36, encT x⟩, ⟨9, [.string lo]⟩, ⟨9, [.string hi]⟩, ⟨54, [.int .i64 sp.t, .slice la ln lc, .slice pa pn pc]⟩]⟩ [.o 47 2, .c 48, .c 53] [.c 48, .c 53] (by kernel_rfl) ?_
                    refine J.cond (b := true) (k' := 52) (by kernel_rfl) (fun _ => ?_) (fun hc => absurd hc (by decide))
                    refine J.run [.n, .n, .u, .u, .n] [10, 11] ⟨[(10, .v (.slice none 0 0)), (11, .v (.int .i64 8))], [⟨32, [.int .i64 bits]⟩, ⟨36, encT x⟩, ⟨9, [.string lo]⟩, ⟨9, [.string hi]⟩, ⟨54, [.int .i64 sp.t, .slice la ln lc, .slice pa pn pc]⟩]⟩ [.c 49, .c 53] [.c 51, .c 53] (by kernel_rfl) ?_
                    have hno : spanC bits x N lo hi sp = ([], 8) := by
                      rw [spanC_go ⟨by first | assumption | simp_all, by omega, by omega, by omega, by omega⟩ hall, if_pos]
                      unfold lateF earlyF; rw [hk0, hk1, hpl, ← hlen]; simp [hc3, hc4, hc5, hc6, hc8, hc13]
                    refine J.ret (v := .tuple #[.slice none 0 0, .int .i64 8]) (by kernel_rfl) (by kernel_rfl) (fun w1 A1 m1 hac l1 => by rw [hno]; exact ⟨none, 0, rfl, Nw.new (Nw.nil W.heap.size 42 4 [] A1 w1)⟩)
                  · rw [hc]
                    try simp only [nrm] at hc
                    have hc13 := hc
                    refine J.run [.w, .u, .u] [5, 6, 7, 8, 9, 13, 101] ⟨[(5, .loc 0 0), (6, .loc 1 0), (7, .loc 2 0), (8, .loc 3 0), (9, .loc 4 0), (13, .v (.slice (some ⟨gq, 0, none⟩) ln y.c)), (101, .v (.bool (decide ((sp.t + ((ln : Nat) : Int)) < ((N : Nat) : Int)))))], [⟨32, [.int .i64 bits]⟩, ⟨36, encT x⟩, ⟨9, [.string lo]⟩, ⟨9, [.string hi]⟩, ⟨54, [.int .i64 sp.t, .slice la ln lc, .slice pa pn pc]⟩]⟩ [.o 47 2, .c 48, .c 53] [.o 47 5, .c 48, .c 53] (by kernel_rfl) ?_
                    rcases Bool.eq_false_or_eq_true (decide ((sp.t + ((ln : Nat) : Int)) < ((N : Nat) : Int))) with hc | hc
                    · rw [hc]
                      try simp only [nrm] at hc
                      have hc14 := hc
                      refine J.run [.x, .x, .x, .u, .u, .x, .x, .x, .x, .x, .x, .x, .x, .x, .x, .x, .x, .x, .u, .n] [7, 8, 13, 120] ⟨[(7, .loc 2 0), (8, .loc 3 0), (13, .v (.slice (some ⟨gq, 0, none⟩) ln y.c)), (120, .v (.bool true))], [⟨32, [.int .i64 bits]⟩, ⟨36, encT x⟩, ⟨9, [.string lo]⟩, ⟨9, [.string hi]⟩, ⟨54, [.int .i64 sp.t, .slice la ln lc, .slice pa pn pc]⟩]⟩ [.o 47 5, .c 48, .c 53] [.c 48, .c 53] (by kernel_rfl) ?_
                      refine J.cond (b := true) (k' := 52) (by kernel_rfl) (fun _ => ?_) (fun hc => absurd hc (by decide))
                      refine J.run [.n, .n, .u, .u, .n] [10, 11] ⟨[(10, .v (.slice none 0 0)), (11, .v (.int .i64 8))], [⟨32, [.int .i64 bits]⟩, ⟨36, encT x⟩, ⟨9, [.string lo]⟩, ⟨9, [.string hi]⟩, ⟨54, [.int .i64 sp.t, .slice la ln lc, .slice pa pn pc]⟩]⟩ [.c 49, .c 53] [.c 51, .c 53] (by kernel_rfl) ?_
                      have hno : spanC bits x N lo hi sp = ([], 8) := by
                        rw [spanC_go ⟨by first | assumption | simp_all, by omega, by omega, by omega, by omega⟩ hall, if_pos]
                        unfold lateF earlyF; rw [hk0, hk1, hpl, ← hlen]; simp [hc3, hc4, hc5, hc6, hc8, hc13, hc14]
                      refine J.ret (v := .tuple #[.slice none 0 0, .int .i64 8]) (by kernel_rfl) (by kernel_rfl) (fun w1 A1 m1 hac l1 => by rw [hno]; exact ⟨none, 0, rfl, Nw.new (Nw.nil W.heap.size 42 4 [] A1 w1)⟩)
                    · rw [hc]
                      try simp only [nrm] at hc
                      have hc14 := hc
                      refine J.run [.w] [5, 6, 7, 8, 9, 13, 101, 102] ⟨[(5, .loc 0 0), (6, .loc 1 0), (7, .loc 2 0), (8, .loc 3 0), (9, .loc 4 0), (13, .v (.slice (some ⟨gq, 0, none⟩) ln y.c)), (101, .v (.bool false)), (102, .v (.slice (some ⟨gq, 0, none⟩) ln y.c))], [⟨32, [.int .i64 bits]⟩, ⟨36, encT x⟩, ⟨9, [.string lo]⟩, ⟨9, [.string hi]⟩, ⟨54, [.int .i64 sp.t, .slice la ln lc, .slice pa pn pc]⟩]⟩ [.o 47 5, .c 48, .c 53] [.o 47 6, .c 48, .c 53] (by kernel_rfl) ?_
                      refine J.call (d := some 103) (by kernel_rfl) (fun w1 A1 m1 l1 => sorted_calls (some ⟨gq, 0, none⟩) ln y.c (parsL sp.leaves) nobody w1 noA ((ho.mv m1).any (fun x _ => rfl) (by decide))) ?_
                      rintro _ u6 w10 A10 rfl g6
                      have m9 := g6.mv
                      replace hs := hs.mv m9; replace hp := hp.mv m9; replace ho := ho.mv m9
                      refine J.run [.w, .u, .u] [5, 6, 7, 8, 9, 13, 106] ⟨[(5, .loc 0 0), (6, .loc 1 0), (7, .loc 2 0), (8, .loc 3 0), (9, .loc 4 0), (13, .v (.slice (some ⟨gq, 0, none⟩) ln y.c)), (106, .v (.bool (!(decide (SortedL (parsL sp.leaves))))))], [⟨32, [.int .i64 bits]⟩, ⟨36, encT x⟩, ⟨9, [.string lo]⟩, ⟨9, [.string hi]⟩, ⟨54, [.int .i64 sp.t, .slice la ln lc, .slice pa pn pc]⟩]⟩ [.o 47 7, .c 48, .c 53] [.o 47 10, .c 48, .c 53] (by kernel_rfl) ?_
                      rcases Bool.eq_false_or_eq_true (!(decide (SortedL (parsL sp.leaves)))) with hc | hc
                      · rw [hc]
                        try simp only [nrm] at hc
                        have hc15 := hc
                        refine J.run [.x, .x, .x, .x, .x, .x, .x, .x, .x, .x, .x, .x, .x, .u, .n] [7, 8, 13, 120] ⟨[(7, .loc 2 0), (8, .loc 3 0), (13, .v (.slice (some ⟨gq, 0, none⟩) ln y.c)), (120, .v (.bool true))], [⟨32, [.int .i64 bits]⟩, ⟨36, encT x⟩, ⟨9, [.string lo]⟩, ⟨9, [.string hi]⟩, ⟨54, [.int .i64 sp.t, .slice la ln lc, .slice pa pn pc]⟩]⟩ [.o 47 10, .c 48, .c 53] [.c 48, .c 53] (by kernel_rfl) ?_
                        refine J.cond (b := true) (k' := 52) (by kernel_rfl) (fun _ => ?_) (fun hc => absurd hc (by decide))
                        refine J.run [.n, .n, .u, .u, .n] [10, 11] ⟨[(10, .v (.slice none 0 0)), (11, .v (.int .i64 8))], [⟨32, [.int .i64 bits]⟩, ⟨36, encT x⟩, ⟨9, [.string lo]⟩, ⟨9, [.string hi]⟩, ⟨54, [.int .i64 sp.t, .slice la ln lc, .slice pa pn pc]⟩]⟩ [.c 49, .c 53] [.c 51, .c 53] (by kernel_rfl) ?_
                        have hno : spanC bits x N lo hi sp = ([], 8) := by
                          rw [spanC_go ⟨by first | assumption | simp_all, by omega, by omega, by omega, by omega⟩ hall, if_pos]
                          unfold lateF earlyF; rw [hk0, hk1, hpl, ← hlen]; simp [hc3, hc4, hc5, hc6, hc8, hc13, hc14, hc15]
                        refine J.ret (v := .tuple #[.slice none 0 0, .int .i64 8]) (by kernel_rfl) (by kernel_rfl) (fun w1 A1 m1 hac l1 => by rw [hno]; exact ⟨none, 0, rfl, Nw.new (Nw.nil W.heap.size 42 4 [] A1 w1)⟩)
                      · rw [hc]
                        try simp only [nrm] at hc
                        have hc15 := hc
                        refine J.run [.w, .w, .w, .w, .w, .w, .w, .w, .w, .w, .w] [7, 8, 13, 106, 107, 109, 111, 113, 115, 117] ⟨[(7, .loc 2 0), (8, .loc 3 0), (13, .v (.slice (some ⟨gq, 0, none⟩) ln y.c)), (106, .v (.bool false)), (107, .v (.agg [.int .i64 bits].toArray)), (109, .v (.agg [.int .u8 (((x.root 0).toNat : Nat) : Int), .int .u8 (((x.root 1).toNat : Nat) : Int), .int .u8 (((x.root 2).toNat : Nat) : Int), .int .u8 (((x.root 3).toNat : Nat) : Int), .int .u8 (((x.root 4).toNat : Nat) : Int), .int .u8 (((x.root 5).toNat : Nat) : Int), .int .u8 (((x.root 6).toNat : Nat) : Int), .int .u8 (((x.root 7).toNat : Nat) : Int), .int .u8 (((x.root 8).toNat : Nat) : Int), .int .u8 (((x.root 9).toNat : Nat) : Int), .int .u8 (((x.root 10).toNat : Nat) : Int), .int .u8 (((x.root 11).toNat : Nat) : Int), .int .u8 (((x.root 12).toNat : Nat) : Int), .int .u8 (((x.root 13).toNat : Nat) : Int), .int .u8 (((x.root 14).toNat : Nat) : Int), .int .u8 (((x.root 15).toNat : Nat) : Int), .int .u8 (((x.root 16).toNat : Nat) : Int), .int .u8 (((x.root 17).toNat : Nat) : Int), .int .u8 (((x.root 18).toNat : Nat) : Int), .int .u8 (((x.root 19).toNat : Nat) : Int), .int .u8 (((x.root 20).toNat : Nat) : Int), .int .u8 (((x.root 21).toNat : Nat) : Int), .int .u8 (((x.root 22).toNat : Nat) : Int), .int .u8 (((x.root 23).toNat : Nat) : Int), .int .u8 (((x.root 24).toNat : Nat) : Int), .int .u8 (((x.root 25).toNat : Nat) : Int), .int .u8 (((x.root 26).toNat : Nat) : Int), .int .u8 (((x.root 27).toNat : Nat) : Int), .int .u8 (((x.root 28).toNat : Nat) : Int), .int .u8 (((x.root 29).toNat : Nat) : Int), .int .u8 (((x.root 30).toNat : Nat) : Int), .int .u8 (((x.root 31).toNat : Nat) : Int)].toArray)), (111, .v (.int .i64 x.count)), (113, .v (.int .i64 sp.t)), (115, .v (.slice la ln lc)), (117, .v (.slice pa pn pc))], [⟨32, [.int .i64 bits]⟩, ⟨36, encT x⟩, ⟨9, [.string lo]⟩, ⟨9, [.string hi]⟩, ⟨54, [.int .i64 sp.t, .slice la ln lc, .slice pa pn pc]⟩]⟩ [.o 47 10, .c 48, .c 53] [.o 47 21, .c 48, .c 53] (by kernel_rfl) ?_
                        rw [hx]
                        refine J.call (d := some 118) (by kernel_rfl) (fun w1 A1 m1 l1 => checkR_calls bits x.root N sp.t la ln lc sp.leaves pa pn pc sp.path (by first | assumption | exact Short.take (by assumption) _ | exact Short.drop (by assumption) _ | exact Short.drop (Short.take (by assumption) _) _) (by omega) (by omega) nobody w1 noA (hs.mv m1).any (hp.mv m1).any) ?_
                        rintro _ u7 w11 A11 rfl g7
                        have m10 := g7.mv
                        replace hs := hs.mv m10; replace hp := hp.mv m10; replace ho := ho.mv m10
                        refine J.run [.w, .u, .n] [7, 8, 13, 120] ⟨[(7, .loc 2 0), (8, .loc 3 0), (13, .v (.slice (some ⟨gq, 0, none⟩) ln y.c)), (120, .v (.bool (!(checkR bits x.root N sp.t sp.leaves sp.path))))], [⟨32, [.int .i64 bits]⟩, ⟨36, encT x⟩, ⟨9, [.string lo]⟩, ⟨9, [.string hi]⟩, ⟨54, [.int .i64 sp.t, .slice la ln lc, .slice pa pn pc]⟩]⟩ [.o 47 22, .c 48, .c 53] [.c 48, .c 53] (by kernel_rfl) ?_
                        refine J.cond (b := (!(checkR bits x.root N sp.t sp.leaves sp.path))) (k' := 52) (by kernel_rfl) (fun hc => ?_) (fun hc => ?_)
                        · try simp only [nrm] at hc
                          have hc16 := hc
                          refine J.run [.n, .n, .u, .u, .n] [10, 11] ⟨[(10, .v (.slice none 0 0)), (11, .v (.int .i64 8))], [⟨32, [.int .i64 bits]⟩, ⟨36, encT x⟩, ⟨9, [.string lo]⟩, ⟨9, [.string hi]⟩, ⟨54, [.int .i64 sp.t, .slice la ln lc, .slice pa pn pc]⟩]⟩ [.c 49, .c 53] [.c 51, .c 53] (by kernel_rfl) ?_
                          have hno : spanC bits x N lo hi sp = ([], 8) := by
                            rw [spanC_go ⟨by first | assumption | simp_all, by omega, by omega, by omega, by omega⟩ hall, if_pos]
                            unfold lateF earlyF; rw [hk0, hk1, hpl, ← hlen]; simp [hc3, hc4, hc5, hc6, hc8, hc13, hc14, hc15, hc16]
                          refine J.ret (v := .tuple #[.slice none 0 0, .int .i64 8]) (by kernel_rfl) (by kernel_rfl) (fun w1 A1 m1 hac l1 => by rw [hno]; exact ⟨none, 0, rfl, Nw.new (Nw.nil W.heap.size 42 4 [] A1 w1)⟩)
                        · try simp only [nrm] at hc
                          have hc16 := hc
                          refine J.run [.n, .n, .n, .u, .u] [121, 122] ⟨[(121, .v (.slice (some ⟨gq, 0, none⟩) ln y.c)), (122, .v ((.func (.func 60) #[] #[.pointer (some ⟨b3, 0, none⟩), .pointer (some ⟨b4, 0, none⟩)])))], [⟨32, [.int .i64 bits]⟩, ⟨36, encT x⟩, ⟨9, [.string lo]⟩, ⟨9, [.string hi]⟩, ⟨54, [.int .i64 sp.t, .slice la ln lc, .slice pa pn pc]⟩]⟩ [.c 52, .c 53] [.o 54 2, .c 55] (by kernel_rfl) ?_
                          obtain ⟨k1, k2, k3, k4⟩ := ho.own_blk gq ⟨_, rfl, rfl⟩
                          have hn7 : ¬ (b3 = gq) := fun h => k2 (by rw [← h]; simp); have hn8 : ¬ (b4 = gq) := fun h => k2 (by rw [← h]; simp)
                          refine J.callX (X := Eb (some ⟨gq, 0, none⟩)) (d := some 123) (fun k hk _ => let q := ho.own_blk k hk; ⟨.inl q.1, q.2.1, q.2.2.1⟩) (fun k hk => (ho.own_blk k hk).2.2.2) (by kernel_rfl) (fun w1 A1 m1 l1 => ret_mono (deleteFunc_calls _ [.pointer (some ⟨b3, 0, none⟩), .pointer (some ⟨b4, 0, none⟩)] _ (delB lo hi) (checkSpan1_func b3 b4 lo hi) gq ln y.c (parsL sp.leaves) (by omega) (fun k => k = gq) w1 (oneA (Nat.lt_of_lt_of_le k4 m1.size)) ((ho.mv m1).retake (Nat.zero_le _) (by simp) rfl) (spanPhi_at (l1.str 2 (T := 9) rfl hn7) (l1.str 3 (T := 9) rfl hn8))) (fun v w h => And.intro h.1 (h.2.retake (N := W.heap.size) (ρ := [b1, b2, b3, b4, b5]) (A := A1) k1 k2 (m1.up gq k4 k3 k2)))) ?_
                          rintro _ w1 w2 A2 ⟨rfl, hd⟩ g2
                          refine J.run [.u, .u, .n] [10, 11] ⟨[(10, .v (.slice (some ⟨gq, 0, none⟩) (((parsL sp.leaves).filter (keepB (delB lo hi))).length) y.c)), (11, .v (.int .i64 0))], [⟨32, [.int .i64 bits]⟩, ⟨36, encT x⟩, ⟨9, [.string lo]⟩, ⟨9, [.string hi]⟩, ⟨54, [.int .i64 sp.t, .slice la ln lc, .slice pa pn pc]⟩]⟩ [.o 54 3, .c 55] [.c 55] (by kernel_rfl) ?_
                          have hyes : spanC bits x N lo hi sp = ((parsL sp.leaves).filter (keepB (delB lo hi)), 0) := by
                            rw [spanC_go ⟨by first | assumption | simp_all, by omega, by omega, by omega, by omega⟩ hall, if_neg]
                            unfold lateF earlyF; rw [hk0, hk1, hpl, ← hlen]; simp [hc3, hc4, hc5, hc6, hc8, hc13, hc14, hc15, hc16]
                            intro h0; have h9 := hc13; rw [h0] at h9; simpa using h9
                          refine J.ret (v := .tuple #[.slice (some ⟨gq, 0, none⟩) (((parsL sp.leaves).filter (keepB (delB lo hi))).length) y.c, .int .i64 0]) (by kernel_rfl) (by kernel_rfl) (fun w1 A1 m1 hac l1 => by rw [hyes]; exact ⟨_, _, rfl, (hd.mv m1).new⟩)
              · rw [hc]
                try simp only [nrm] at hc
                have hc8 := hc
                refine J.take1 [(9, .x), (10, .x), (11, .x), (12, .x), (13, .x), (14, .x), (15, .x), (16, .u), (17, .u)] [5, 6, 7, 8, 9, 13, 18, 19] [(5, .loc 0 0), (6, .loc 1 0), (7, .loc 2 0), (8, .loc 3 0), (9, .loc 4 0), (13, .v (.slice (some ⟨gq, 0, none⟩) ln y.c)), (18, .v (.bool ((!(slt e0.key lo)) && (decide (sp.t > 0))))), (19, .v (.bool false))] [17, 16, 15, 14, 13, 12, 11, 10, 9, 8, 7, 5, 4, 3, 6, 2, 1, 0] (calm_body _ _ _) (by kernel_rfl) ?_
                refine J.pdone (by kernel_rfl) ?_
                refine J.run [.n, .n, .n, .u, .u] [5, 6, 7, 8, 9, 13, 19, 98] ⟨[(5, .loc 0 0), (6, .loc 1 0), (7, .loc 2 0), (8, .loc 3 0), (9, .loc 4 0), (13, .v (.slice (some ⟨gq, 0, none⟩) ln y.c)), (19, .v (.bool false)), (98, .v (.bool ((!(slt e0.key lo)) && (decide (sp.t > 0)))))], [⟨32, [.int .i64 bits]⟩, ⟨36, encT x⟩, ⟨9, [.string lo]⟩, ⟨9, [.string hi]⟩, ⟨54, [.int .i64 sp.t, .slice la ln lc, .slice pa pn pc]⟩]⟩ [.c 45] [.o 47 2, .c 48, .c 53] (by kernel_rfl) ?_
                rcases Bool.eq_false_or_eq_true ((!(slt e0.key lo)) && (decide (sp.t > 0))) with hc | hc
                · rw [hc]
                  try simp only [nrm] at hc
                  have hc17 := hc
                  refine J.run [.x, .u, .u, .x, .x, .x, .u, .u, .x, .x, .x, .x, .x, .x, .x, .x, .x, .x, .x, .x, .x, .u, .n] [7, 8, 13, 120] ⟨[(7, .loc 2 0), (8, .loc 3 0), (13, .v (.slice (some ⟨gq, 0, none⟩) ln y.c)), (120, .v (.bool true))], [⟨32, [.int .i64 bits]⟩, ⟨36, encT x⟩, ⟨9, [.string lo]⟩, ⟨9, [.string hi]⟩, ⟨54, [.int .i64 sp.t, .slice la ln lc, .slice pa pn pc]⟩]⟩ [.o 47 2, .c 48, .c 53] [.c 48, .c 53] (by kernel_rfl) ?_
                  refine J.cond (b := true) (k' := 52) (by kernel_rfl) (fun _ => ?_) (fun hc => absurd hc (by decide))
                  refine J.run [.n, .n, .u, .u, .n] [10, 11] ⟨[(10, .v (.slice none 0 0)), (11, .v (.int .i64 8))], [⟨32, [.int .i64 bits]⟩, ⟨36, encT x⟩, ⟨9, [.string lo]⟩, ⟨9, [.string hi]⟩, ⟨54, [.int .i64 sp.t, .slice la ln lc, .slice pa pn pc]⟩]⟩ [.c 49, .c 53] [.c 51, .c 53] (by kernel_rfl) ?_
                  have hno : spanC bits x N lo hi sp = ([], 8) := by
                    rw [spanC_go ⟨by first | assumption | simp_all, by omega, by omega, by omega, by omega⟩ hall, if_pos]
                    unfold lateF earlyF; rw [hk0, hk1, hpl, ← hlen]; simp [hc3, hc4, hc5, hc6, hc8, hc17]
                  refine J.ret (v := .tuple #[.slice none 0 0, .int .i64 8]) (by kernel_rfl) (by kernel_rfl) (fun w1 A1 m1 hac l1 => by rw [hno]; exact ⟨none, 0, rfl, Nw.new (Nw.nil W.heap.size 42 4 [] A1 w1)⟩)
                · rw [hc]
                  try simp only [nrm] at hc
                  have hc17 := hc
                  refine J.run [.w, .u, .u, .w] [5, 6, 7, 8, 9, 13, 101, 102] ⟨[(5, .loc 0 0), (6, .loc 1 0), (7, .loc 2 0), (8, .loc 3 0), (9, .loc 4 0), (13, .v (.slice (some ⟨gq, 0, none⟩) ln y.c)), (101, .v (.bool false)), (102, .v (.slice (some ⟨gq, 0, none⟩) ln y.c))], [⟨32, [.int .i64 bits]⟩, ⟨36, encT x⟩, ⟨9, [.string lo]⟩, ⟨9, [.string hi]⟩, ⟨54, [.int .i64 sp.t, .slice la ln lc, .slice pa pn pc]⟩]⟩ [.o 47 2, .c 48, .c 53] [.o 47 6, .c 48, .c 53] (by kernel_rfl) ?_
                  refine J.call (d := some 103) (by kernel_rfl) (fun w1 A1 m1 l1 => sorted_calls (some ⟨gq, 0, none⟩) ln y.c (parsL sp.leaves) nobody w1 noA ((ho.mv m1).any (fun x _ => rfl) (by decide))) ?_
                  rintro _ u8 w12 A12 rfl g8
                  have m11 := g8.mv
                  replace hs := hs.mv m11; replace hp := hp.mv m11; replace ho := ho.mv m11
                  refine J.run [.w, .u, .u] [5, 6, 7, 8, 9, 13, 106] ⟨[(5, .loc 0 0), (6, .loc 1 0), (7, .loc 2 0), (8, .loc 3 0), (9, .loc 4 0), (13, .v (.slice (some ⟨gq, 0, none⟩) ln y.c)), (106, .v (.bool (!(decide (SortedL (parsL sp.leaves))))))], [⟨32, [.int .i64 bits]⟩, ⟨36, encT x⟩, ⟨9, [.string lo]⟩, ⟨9, [.string hi]⟩, ⟨54, [.int .i64 sp.t, .slice la ln lc, .slice pa pn pc]⟩]⟩ [.o 47 7, .c 48, .c 53] [.o 47 10, .c 48, .c 53] (by kernel_rfl) ?_
                  rcases Bool.eq_false_or_eq_true (!(decide (SortedL (parsL sp.leaves)))) with hc | hc
                  · rw [hc]
                    try simp only [nrm] at hc
                    have hc18 := hc
                    refine J.run [.x, .x, .x, .x, .x, .x, .x, .x, .x, .x, .x, .x, .x, .u, .n] [7, 8, 13, 120] ⟨[(7, .loc 2 0), (8, .loc 3 0), (13, .v (.slice (some ⟨gq, 0, none⟩) ln y.c)), (120, .v (.bool true))], [⟨32, [.int .i64 bits]⟩, ⟨36, encT x⟩, ⟨9, [.string lo]⟩, ⟨9, [.string hi]⟩, ⟨54, [.int .i64 sp.t, .slice la ln lc, .slice pa pn pc]⟩]⟩ [.o 47 10, .c 48, .c 53] [.c 48, .c 53] (by kernel_rfl) ?_
                    refine J.cond (b := true) (k' := 52) (by kernel_rfl) (fun _ => ?_) (fun hc => absurd hc (by decide))
                    refine J.run [.n, .n, .u, .u, .n] [10, 11] ⟨[(10, .v (.slice none 0 0)), (11, .v (.int .i64 8))], [⟨32, [.int .i64 bits]⟩, ⟨36, encT x⟩, ⟨9, [.string lo]⟩, ⟨9, [.string hi]⟩, ⟨54, [.int .i64 sp.t, .slice la ln lc, .slice pa pn pc]⟩]⟩ [.c 49, .c 53] [.c 51, .c 53] (by kernel_rfl) ?_
                    have hno : spanC bits x N lo hi sp = ([], 8) := by
                      rw [spanC_go ⟨by first | assumption | simp_all, by omega, by omega, by omega, by omega⟩ hall, if_pos]
                      unfold lateF earlyF; rw [hk0, hk1, hpl, ← hlen]; simp [hc3, hc4, hc5, hc6, hc8, hc17, hc18]
                    refine J.ret (v := .tuple #[.slice none 0 0, .int .i64 8]) (by kernel_rfl) (by kernel_rfl) (fun w1 A1 m1 hac l1 => by rw [hno]; exact ⟨none, 0, rfl, Nw.new (Nw.nil W.heap.size 42 4 [] A1 w1)⟩)
                  · rw [hc]
                    try simp only [nrm] at hc
                    have hc18 := hc
                    refine J.run [.w, .w, .w, .w, .w, .w, .w, .w, .w, .w, .w] [7, 8, 13, 106, 107, 109, 111, 113, 115, 117] ⟨[(7, .loc 2 0), (8, .loc 3 0), (13, .v (.slice (some ⟨gq, 0, none⟩) ln y.c)), (106, .v (.bool false)), (107, .v (.agg [.int .i64 bits].toArray)), (109, .v (.agg [.int .u8 (((x.root 0).toNat : Nat) : Int), .int .u8 (((x.root 1).toNat : Nat) : Int), .int .u8 (((x.root 2).toNat : Nat) : Int), .int .u8 (((x.root 3).toNat : Nat) : Int), .int .u8 (((x.root 4).toNat : Nat) : Int), .int .u8 (((x.root 5).toNat : Nat) : Int), .int .u8 (((x.root 6).toNat : Nat) : Int), .int .u8 (((x.root 7).toNat : Nat) : Int), .int .u8 (((x.root 8).toNat : Nat) : Int), .int .u8 (((x.root 9).toNat : Nat) : Int), .int .u8 (((x.root 10).toNat : Nat) : Int), .int .u8 (((x.root 11).toNat : Nat) : Int), .int .u8 (((x.root 12).toNat : Nat) : Int), .int .u8 (((x.root 13).toNat : Nat) : Int), .int .u8 (((x.root 14).toNat : Nat) : Int), .int .u8 (((x.root 15).toNat : Nat) : Int), .int .u8 (((x.root 16).toNat : Nat) : Int), .int .u8 (((x.root 17).toNat : Nat) : Int), .int .u8 (((x.root 18).toNat : Nat) : Int), .int .u8 (((x.root 19).toNat : Nat) : Int), .int .u8 (((x.root 20).toNat : Nat) : Int), .int .u8 (((x.root 21).toNat : Nat) : Int), .int .u8 (((x.root 22).toNat : Nat) : Int), .int .u8 (((x.root 23).toNat : Nat) : Int), .int .u8 (((x.root 24).toNat : Nat) : Int), .int .u8 (((x.root 25).toNat : Nat) : Int), .int .u8 (((x.root 26).toNat : Nat) : Int), .int .u8 (((x.root 27).toNat : Nat) : Int), .int .u8 (((x.root 28).toNat : Nat) : Int), .int .u8 (((x.root 29).toNat : Nat) : Int), .int .u8 (((x.root 30).toNat : Nat) : Int), .int .u8 (((x.root 31).toNat : Nat) : Int)].toArray)), (111, .v (.int .i64 x.count)), (113, .v (.int .i64 sp.t)), (115, .v (.slice la ln lc)), (117, .v (.slice pa pn pc))], [⟨32, [.int .i64 bits]⟩, ⟨36, encT x⟩, ⟨9, [.string lo]⟩, ⟨9, [.string hi]⟩, ⟨54, [.int .i64 sp.t, .slice la ln lc, .slice pa pn pc]⟩]⟩ [.o 47 10, .c 48, .c 53] [.o 47 21, .c 48, .c 53] (by kernel_rfl) ?_
                    rw [hx]
                    refine J.call (d := some 118) (by kernel_rfl) (fun w1 A1 m1 l1 => checkR_calls bits x.root N sp.t la ln lc sp.leaves pa pn pc sp.path (by first | assumption | exact Short.take (by assumption) _ | exact Short.drop (by assumption) _ | exact Short.drop (Short.take (by assumption) _) _) (by omega) (by omega) nobody w1 noA (hs.mv m1).any (hp.mv m1).any) ?_
                    rintro _ u9 w13 A13 rfl g9
                    have m12 := g9.mv
                    replace hs := hs.mv m12; replace hp := hp.mv m12; replace ho := ho.mv m12
                    refine J.run [.w, .u, .n] [7, 8, 13, 120] ⟨[(7, .loc 2 0), (8, .loc 3 0), (13, .v (.slice (some ⟨gq, 0, none⟩) ln y.c)), (120, .v (.bool (!(checkR bits x.root N sp.t sp.leaves sp.path))))], [⟨32, [.int .i64 bits]⟩, ⟨36, encT x⟩, ⟨9, [.string lo]⟩, ⟨9, [.string hi]⟩, ⟨54, [.int .i64 sp.t, .slice la ln lc, .slice pa pn pc]⟩]⟩ [.o 47 22, .c 48, .c 53] [.c 48, .c 53] (by kernel_rfl) ?_
                    refine J.cond (b := (!(checkR bits x.root N sp.t sp.leaves sp.path))) (k' := 52) (by kernel_rfl) (fun hc => ?_) (fun hc => ?_)
                    · try simp only [nrm] at hc
                      have hc19 := hc
                      refine J.run [.n, .n, .u, .u, .n] [10, 11] ⟨[(10, .v (.slice none 0 0)), (11, .v (.int .i64 8))], [⟨32, [.int .i64 bits]⟩, ⟨36, encT x⟩, ⟨9, [.string lo]⟩, ⟨9, [.string hi]⟩, ⟨54, [.int .i64 sp.t, .slice la ln lc, .slice pa pn pc]⟩]⟩ [.c 49, .c 53] [.c 51, .c 53] (by kernel_rfl) ?_
                      have hno : spanC bits x N lo hi sp = ([], 8) := by
                        rw [spanC_go ⟨by first | assumption | simp_all, by omega, by omega, by omega, by omega⟩ hall, if_pos]
                        unfold lateF earlyF; rw [hk0, hk1, hpl, ← hlen]; simp [hc3, hc4, hc5, hc6, hc8, hc17, hc18, hc19]
                      refine J.ret (v := .tuple #[.slice none 0 0, .int .i64 8]) (by kernel_rfl) (by kernel_rfl) (fun w1 A1 m1 hac l1 => by rw [hno]; exact ⟨none, 0, rfl, Nw.new (Nw.nil W.heap.size 42 4 [] A1 w1)⟩)
                    · try simp only [nrm] at hc
                      have hc19 := hc
                      refine J.run [.n, .n, .n, .u, .u] [121, 122] ⟨[(121, .v (.slice (some ⟨gq, 0, none⟩) ln y.c)), (122, .v ((.func (.func 60) #[] #[.pointer (some ⟨b3, 0, none⟩), .pointer (some ⟨b4, 0, none⟩)])))], [⟨32, [.int .i64 bits]⟩, ⟨36, encT x⟩, ⟨9, [.string lo]⟩, ⟨9, [.string hi]⟩, ⟨54, [.int .i64 sp.t, .slice la ln lc, .slice pa pn pc]⟩]⟩ [.c 52, .c 53] [.o 54 2, .c 55] (by kernel_rfl) ?_
                      obtain ⟨k1, k2, k3, k4⟩ := ho.own_blk gq ⟨_, rfl, rfl⟩
                      have hn7 : ¬ (b3 = gq) := fun h => k2 (by rw [← h]; simp); have hn8 : ¬ (b4 = gq) := fun h => k2 (by rw [← h]; simp)
                      refine J.callX (X := Eb (some ⟨gq, 0, none⟩)) (d := some 123) (fun k hk _ => let q := ho.own_blk k hk; ⟨.inl q.1, q.2.1, q.2.2.1⟩) (fun k hk => (ho.own_blk k hk).2.2.2) (by kernel_rfl) (fun w1 A1 m1 l1 => ret_mono (deleteFunc_calls _ [.pointer (some ⟨b3, 0, none⟩), .pointer (some ⟨b4, 0, none⟩)] _ (delB lo hi) (checkSpan1_func b3 b4 lo hi) gq ln y.c (parsL sp.leaves) (by omega) (fun k => k = gq) w1 (oneA (Nat.lt_of_lt_of_le k4 m1.size)) ((ho.mv m1).retake (Nat.zero_le _) (by simp) rfl) (spanPhi_at (l1.str 2 (T := 9) rfl hn7) (l1.str 3 (T := 9) rfl hn8))) (fun v w h => And.intro h.1 (h.2.retake (N := W.heap.size) (ρ := [b1, b2, b3, b4, b5]) (A := A1) k1 k2 (m1.up gq k4 k3 k2)))) ?_
                      rintro _ w1 w2 A2 ⟨rfl, hd⟩ g2
                      refine J.run [.u, .u, .n] [10, 11] ⟨[(10, .v (.slice (some ⟨gq, 0, none⟩) (((parsL sp.leaves).filter (keepB (delB lo hi))).length) y.c)), (11, .v (.int .i64 0))], [⟨32, [.int .i64 bits]⟩, ⟨36, encT x⟩, ⟨9, [.string lo]⟩, ⟨9, [.string hi]⟩, ⟨54, [.int .i64 sp.t, .slice la ln lc, .slice pa pn pc]⟩]⟩ [.o 54 3, .c 55] [.c 55] (by kernel_rfl) ?_
                      have hyes : spanC bits x N lo hi sp = ((parsL sp.leaves).filter (keepB (delB lo hi)), 0) := by
                        rw [spanC_go ⟨by first | assumption | simp_all, by omega, by omega, by omega, by omega⟩ hall, if_neg]
                        unfold lateF earlyF; rw [hk0, hk1, hpl, ← hlen]; simp [hc3, hc4, hc5, hc6, hc8, hc17, hc18, hc19]
                        intro h0; have h9 := hc17; rw [h0] at h9; simpa using h9
                      refine J.ret (v := .tuple #[.slice (some ⟨gq, 0, none⟩) (((parsL sp.leaves).filter (keepB (delB lo hi))).length) y.c, .int .i64 0]) (by kernel_rfl) (by kernel_rfl) (fun w1 A1 m1 hac l1 => by rw [hyes]; exact ⟨_, _, rfl, (hd.mv m1).new⟩)
end Go.Proofs.Ytkgokehkobifkaa.J

/- Plain laws: spans. -/
namespace Go.Proofs.Ytkgokehkobifkaa.J
open Go Go.RowKit

/-- A part's own digests are taken, and come to the root. -/
theorem rootO_own (bits : Int) (part : List (List UInt8)) (rest : List Dg) : ∀ (N : Nat) (sub : List (List UInt8)) (i : Int), sub.length < N → 1 ≤ sub.length →
    (∀ k m : Nat, k < part.length → ((m : Nat) : Int) = i + ((k : Nat) : Int) → m < sub.length → sub[m]? = part[k]?) → ∀ rest : List Dg,
    rootO bits part sub.length i (besideF bits sub i (i + ((part.length : Nat) : Int)) ++ rest) = (rootF bits sub, rest, false)
  | 0, _, _, h, _, _, _ => absurd h (Nat.not_lt_zero _)
  | N + 1, sub, i, h, hp, hm, rest => by
    by_cases ho : i + ((part.length : Nat) : Int) ≤ 0 ∨ ((sub.length : Nat) : Int) ≤ i
    · rw [besideF_out ho, List.singleton_append, rootO_out ho]
    · by_cases h1 : sub.length ≤ 1
      · rw [besideF_one ho h1, List.nil_append, rootO_one ho h1]
        have h2 := hm (-i).toNat 0 (by omega) (by omega) (by omega)
        have h3 : (-i).toNat < part.length := by omega
        rw [List.getElem?_eq_getElem h3] at h2
        rw [rootF_1 (by omega) h2]
        simp [h3]
      · have hh := half_lt (n := sub.length) (by omega)
        have ht : (sub.take (half sub.length)).length = half sub.length := by rw [List.length_take]; omega
        have hd : (sub.drop (half sub.length)).length = sub.length - half sub.length := List.length_drop
        rw [besideF_two ho (by omega), List.append_assoc, rootO_two ho (by omega)]
        have e1 := rootO_own bits part rest N (sub.take (half sub.length)) i (by omega) (by omega) (fun k m hk hmk hml => by
          rw [List.getElem?_take, if_pos (by omega)]; exact hm k m hk hmk (by omega)) (besideF bits (sub.drop (half sub.length)) (i - ((half sub.length : Nat) : Int)) (i + ((part.length : Nat) : Int) - ((half sub.length : Nat) : Int)) ++ rest)
        have e2 := rootO_own bits part rest N (sub.drop (half sub.length)) (i - ((half sub.length : Nat) : Int)) (by omega) (by omega) (fun k m hk hmk hml => by
          rw [List.getElem?_drop]; exact hm k (half sub.length + m) hk (by omega) (by omega)) rest
        rw [ht] at e1
        rw [hd, show i - ((half sub.length : Nat) : Int) + ((part.length : Nat) : Int) = i + ((part.length : Nat) : Int) - ((half sub.length : Nat) : Int) by omega] at e2
        rw [e1]
        simp only
        rw [e2, rootF_2 (ls := sub) (by omega)]
        rfl

/-- A part of the leaves, with what stands beside it, is taken. -/
theorem checkR_own (bits : Int) (ls : List (List UInt8)) (i j : Nat) (hij : i < j) (hj : j ≤ ls.length) : checkR bits (rootF bits ls) ls.length ((i : Nat) : Int) ((ls.take j).drop i) (besideF bits ls ((i : Nat) : Int) ((j : Nat) : Int)) = true := by
  have hl : ((ls.take j).drop i).length = j - i := by rw [List.length_drop, List.length_take]; omega
  have h := rootO_own bits ((ls.take j).drop i) [] _ ls ((i : Nat) : Int) (Nat.lt_succ_self _) (by omega) (fun k m hk hmk hml => by
    have : m = i + k := by omega
    subst this
    rw [List.getElem?_drop, List.getElem?_take, if_pos (by omega)]) []
  rw [List.append_nil, hl, show ((i : Nat) : Int) + ((j - i : Nat) : Int) = ((j : Nat) : Int) by omega] at h
  unfold checkR
  rw [h, hl]
  simp only [Bool.and_eq_true, decide_eq_true_eq, Bool.not_false, List.length_nil]
  refine ⟨⟨by omega, by omega, by omega, by omega⟩, ?_⟩
  simp [dgEq_iff]

theorem besideF_all (bits : Int) : ∀ (N : Nat) (ls : List (List UInt8)) (i j : Int), ls.length < N → 1 ≤ ls.length → i ≤ 0 → ((ls.length : Nat) : Int) ≤ j → besideF bits ls i j = []
  | 0, _, _, _, h, _, _, _ => absurd h (Nat.not_lt_zero _)
  | N + 1, ls, i, j, h, hp, hi, hj => by
    have ho : ¬ (j ≤ 0 ∨ ((ls.length : Nat) : Int) ≤ i) := by omega
    by_cases h1 : ls.length ≤ 1
    · exact besideF_one ho h1
    · have hh := half_lt (n := ls.length) (by omega)
      have ht : (ls.take (half ls.length)).length = half ls.length := by rw [List.length_take]; omega
      have hd : (ls.drop (half ls.length)).length = ls.length - half ls.length := List.length_drop
      rw [besideF_two ho (by omega), besideF_all bits N _ i j (by omega) (by omega) hi (by omega), besideF_all bits N _ _ _ (by omega) (by omega) (by omega) (by omega)]
      rfl

theorem parsL_own {l : List Ent} (h : ∀ e ∈ l, e.Right) : parsL (l.map entB) = l := by
  unfold parsL
  rw [List.map_map]
  have : ∀ e ∈ l, ((fun b => (pars b).1) ∘ entB) e = id e := fun e he => by simp [pars_own (h e he)]
  rw [List.map_congr_left this, List.map_id]
theorem whole_own {l : List Ent} (h : ∀ e ∈ l, e.Right) : (l.map entB).all wholeF = true := by
  rw [List.all_eq_true]
  intro b hb
  obtain ⟨e, he, rfl⟩ := List.mem_map.1 hb
  exact wholeF_own (h e he)

theorem slt_empty (a : Str) : slt a ⟨#[]⟩ = false := slt_nil a
theorem cntLt_empty (l : List Ent) : cntLt ⟨#[]⟩ l = 0 := by
  unfold cntLt
  rw [List.countP_eq_zero]
  intro e _
  rw [slt_nil]; decide
theorem belowF_empty (a : Str) : belowF a ⟨#[]⟩ = true := by unfold belowF; rw [seq_refl]; rfl

/-- All of a list, as a span. -/
theorem span_all {bits : Int} {l : List Ent} (h : FitL l) : spanF bits l ⟨#[]⟩ ⟨#[]⟩ = (⟨0, l.map entB, []⟩, 0) := by
  have h1 : outF l ⟨#[]⟩ ⟨#[]⟩ = false := by unfold outF; rw [slt_nil, belowF_empty, belowF_empty]; rfl
  have h2 : spFrom l ⟨#[]⟩ = 0 := by unfold spFrom; rw [cntLt_empty]
  have h3 : spTo l ⟨#[]⟩ = l.length := by unfold spTo spTo0; rw [if_pos (seq_refl _)]; omega
  unfold spanF
  have h0 := h.1
  rw [if_pos h, if_neg (by rw [h1]; decide), h2, h3]
  have h4 : (l.map entB).take l.length = l.map entB := List.take_of_length_le (by rw [List.length_map]; omega)
  rw [h4, List.drop_zero, besideF_all bits _ (l.map entB) _ _ (Nat.lt_succ_self _) (by rw [List.length_map]; omega) (by omega) (by rw [List.length_map]; omega)]
  rfl
theorem chk_all {bits level : Int} {l : List Ent} (h : FitL l) (h2 : 0 ≤ level) (h3 : level < 4) : spanC bits (descF bits level l).1 l.length ⟨#[]⟩ ⟨#[]⟩ ⟨0, l.map entB, []⟩ = (l, 0) := by
  obtain ⟨f1, f2, f3, f4⟩ := id h
  rw [descF_yes h h2 h3]
  have hp := parsL_own f4
  have hc := checkR_own bits (l.map entB) 0 l.length (by omega) (by rw [List.length_map]; omega)
  have h4 : (l.map entB).take l.length = l.map entB := List.take_of_length_le (by rw [List.length_map]; omega)
  rw [h4, List.drop_zero, besideF_all bits _ (l.map entB) _ _ (Nat.lt_succ_self _) (by rw [List.length_map]; omega) (by omega) (by rw [List.length_map]; omega), List.length_map] at hc
  have ho : overF ⟨level, ((l.length : Nat) : Int), rootF bits (l.map entB), firstK l, lastK l⟩ ⟨#[]⟩ ⟨#[]⟩ = true := by
    unfold overF; rw [belowF_empty, belowF_empty, slt_nil]; rfl
  rw [spanC_go ⟨ho, by simpa using f1, by simp, Int.le_refl _, by show (0 : Int) ≤ _; omega⟩ (whole_own f4)]
  simp only [hp]
  have hl : lateF l ⟨#[]⟩ 0 = false := by unfold lateF; simp
  have he : earlyF l ⟨#[]⟩ 0 l.length = false := by unfold earlyF; simp
  have hc' : checkR bits (rootF bits (l.map entB)) l.length 0 (l.map entB) [] = true := hc
  rw [hl, he, hc', decide_eq_true f3, if_neg (by decide)]
  have : l.filter (keepB (delB ⟨#[]⟩ ⟨#[]⟩)) = l := by
    rw [List.filter_eq_self]
    intro e _
    unfold keepB delB; rw [slt_nil, belowF_empty]; rfl
  rw [this]
end Go.Proofs.Ytkgokehkobifkaa.J

/- Equality of entries (and of other structs), as the machine asks it. -/
namespace Go.Proofs.Ytkgokehkobifkaa.J
open Go Go.RowKit

/-- One field's comparison. -/
def FldEq (P : Program) (d : Nat) (xs ys : Array Value) (s : Bool × TypeId × Nat) (r : Bool) : Prop :=
  s.1 = false ∧ ∃ a b, (∀ w, (part s.2.1 xs s.2.2).run P w = .ok a w) ∧ (∀ w, (part s.2.1 ys s.2.2).run P w = .ok b w) ∧ ∀ w, (Op.equalIn d s.2.1 a b).run P w = .ok r w

def fldS (f : Field) : Bool × TypeId × Nat := (f.name == "_", f.type, f.offset)

inductive All2 {α β : Type} (R : α → β → Prop) : List α → List β → Prop where
  | nil : All2 R [] []
  | cons {a : α} {b : β} {l : List α} {m : List β} : R a b → All2 R l m → All2 R (a :: l) (b :: m)

theorem run_eqFieldsL {P : Program} {d : Nat} {xs ys : Array Value} : ∀ (fs : List Field) (sp : List (Bool × TypeId × Nat)) (rs : List Bool), fs.map fldS = sp → All2 (FldEq P d xs ys) sp rs →
    ∀ w, (Op.eqFields d xs ys fs).run P w = .ok (rs.all id) w
  | [], _, _, h, hf, w => by
    subst h
    cases hf
    simp [Op.eqFields]
  | f :: fs, sp, rs, h, hf, w => by
    subst h
    rw [List.map_cons] at hf
    cases hf with
    | cons h1 h2 =>
      rename_i r rs'
      obtain ⟨hn, a, b, ha, hb, he⟩ := h1
      have hne : f.name ≠ "_" := by
        have : (f.name == "_") = false := hn
        simpa using this
      have ih := run_eqFieldsL fs _ rs' rfl h2 w
      have ha' := ha w; have hb' := hb w; have he' := he w
      simp only [fldS] at ha' hb' he'
      simp only [Op.eqFields, hne, ne_eq, not_false_eq_true, if_true, Sem.run_bind, ha', Result.andThen_ok, hb', he', Sem.run_ite]
      cases r with
      | true => simp [ih]
      | false => simp

theorem part_one {P : Program} {t : TypeId} (ha : aggOf P t = some false) (hs : sizeO P t = some 1) {xs : List Value} {off : Nat} {v : Value} (hv : xs[off]? = some v) (w : World) : (part t xs.toArray off).run P w = .ok v w := by
  simp [part, run_isAgg ha, hv]

theorem ent_eq (x y : Ent) (w : World) : (Op.equalIn 10000 42 (.agg (encE x).toArray) (.agg (encE y).toArray)).run Pr w = .ok (entEq x y) w := by
  rw [run_equalIn_struct w 9999 42 _ _ (by kernel_rfl) (by kernel_rfl)]
  have h := run_eqFieldsL (P := Pr) (d := 9998 + 1) (xs := (encE x).toArray) (ys := (encE y).toArray) (Pr.fieldsOf 42).toList [(false, 9, 0), (false, 9, 1), (false, 4, 2), (false, 3, 3)] [seq x.key y.key, seq x.value y.value, x.del == y.del, x.seq == y.seq] (by kernel_rfl)
    (.cons ⟨rfl, _, _, part_one (by kernel_rfl) (by kernel_rfl) rfl, part_one (by kernel_rfl) (by kernel_rfl) rfl, fun w => run_equalIn_string w 9998 9 _ _ (by kernel_rfl)⟩
    (.cons ⟨rfl, _, _, part_one (by kernel_rfl) (by kernel_rfl) rfl, part_one (by kernel_rfl) (by kernel_rfl) rfl, fun w => run_equalIn_string w 9998 9 _ _ (by kernel_rfl)⟩
    (.cons ⟨rfl, _, _, part_one (by kernel_rfl) (by kernel_rfl) rfl, part_one (by kernel_rfl) (by kernel_rfl) rfl, fun w => run_equalIn_bool w 9998 4 _ _ (by kernel_rfl)⟩
    (.cons ⟨rfl, _, _, part_one (by kernel_rfl) (by kernel_rfl) rfl, part_one (by kernel_rfl) (by kernel_rfl) rfl, fun w => run_equalIn_int w 9998 3 .i64 .i64 _ _ (by kernel_rfl)⟩ .nil)))) w
  rw [h]
  simp [entEq]
theorem ent_guard : Program.eqGuardType Pr Pr.depth 42 = false := by kernel_rfl
theorem entEq_refl (x : Ent) : entEq x x = true := entEq_iff.2 rfl
end Go.Proofs.Ytkgokehkobifkaa.J

/- Plain laws: what a list has of a key is proved and checked; what it has of a span, likewise. -/
namespace Go.Proofs.Ytkgokehkobifkaa.J
open Go Go.RowKit

/-! ## keys and their places -/
theorem sorted_at {l : List Ent} (h : SortedL l) {i j : Nat} {a b : Ent} (hij : i < j) (ha : l[i]? = some a) (hb : l[j]? = some b) : slt a.key b.key = true := by
  have hp := List.pairwise_iff_getElem.1 h.rel
  obtain ⟨h1, rfl⟩ := List.getElem?_eq_some_iff.1 ha
  obtain ⟨h2, rfl⟩ := List.getElem?_eq_some_iff.1 hb
  exact hp i j h1 h2 hij

/-- In a sorted list just the first entries are below a key. -/
theorem cnt_at : ∀ {l : List Ent} {k : Str}, SortedL l → ∀ (i : Nat) (e : Ent), l[i]? = some e → (slt e.key k = true ↔ i < cntLt k l)
  | [], _, _, i, e, h => by simp at h
  | x :: r, k, hs, i, e, h => by
    have hr := SortedL.tail hs
    cases hx : slt x.key k with
    | true =>
      have hc : cntLt k (x :: r) = cntLt k r + 1 := by simp [cntLt, hx]
      rw [hc]
      cases i with
      | zero => simp at h; subst h; simp [hx]
      | succ i =>
        have := cnt_at (k := k) hr i e (by simpa using h)
        rw [this]; omega
    | false =>
      have hall : ∀ y ∈ r, slt y.key k = false := by
        intro y hy
        have h1 := (List.pairwise_cons.1 hs.rel).1 y hy
        cases h2 : slt y.key k with
        | false => rfl
        | true => rw [slt_trans h1 h2] at hx; cases hx
      have hc : cntLt k (x :: r) = 0 := by
        unfold cntLt
        rw [List.countP_eq_zero]
        intro y hy
        rcases List.mem_cons.1 hy with rfl | hy
        · rw [hx]; decide
        · rw [hall y hy]; decide
      rw [hc]
      have he : slt e.key k = false := by
        rcases List.mem_cons.1 (List.mem_of_getElem? h) with rfl | hy
        · exact hx
        · exact hall e hy
      rw [he]; simp

theorem has_at {l : List Ent} {k : Str} (hs : SortedL l) (h : hasKey k l = true) : ∃ e, l[cntLt k l]? = some e ∧ e.key = k := by
  obtain ⟨x, hx, hk⟩ := List.any_eq_true.1 h
  have hk := seq_iff.1 hk
  obtain ⟨i, hi⟩ := List.mem_iff_getElem?.1 hx
  have h1 := cnt_at (k := k) hs i x hi
  rw [hk, slt_irrefl] at h1
  have h2 : ¬ i < cntLt k l := fun h => by have := h1.2 h; cases this
  have h3 : ¬ cntLt k l < i := fun hlt => by
    have hc := hasKey_cnt h
    have hy : l[cntLt k l]? = some l[cntLt k l] := List.getElem?_eq_getElem hc
    have h4 := (cnt_at (k := k) hs (cntLt k l) _ hy).1 (by have := sorted_at hs hlt hy hi; rwa [hk] at this)
    omega
  have : i = cntLt k l := by omega
  subst this
  exact ⟨x, hi, hk⟩
theorem hasnt_at {l : List Ent} {k : Str} (hs : SortedL l) (h : hasKey k l = false) : (∀ e, l[cntLt k l]? = some e → slt k e.key = true) ∧ ∀ i e, i + 1 = cntLt k l → l[i]? = some e → slt e.key k = true := by
  have hne : ∀ e ∈ l, e.key ≠ k := by
    intro e he hk
    have : hasKey k l = true := List.any_eq_true.2 ⟨e, he, seq_iff.2 hk⟩
    rw [h] at this; cases this
  constructor
  · intro e he
    have h1 := cnt_at (k := k) hs _ e he
    have h2 : slt e.key k = false := by
      cases hx : slt e.key k with
      | false => rfl
      | true => have := h1.1 hx; omega
    rcases slt_tri e.key k with h3 | h3 | h3
    · rw [h3] at h2; cases h2
    · exact absurd h3 (hne e (List.mem_of_getElem? he))
    · exact h3
  · intro i e hi he
    exact (cnt_at (k := k) hs i e he).2 (by omega)

/-! ## a table covers a key just if the key has a point -/
theorem covers_iff {bits level : Int} {l : List Ent} (h : FitL l) (h2 : 0 ≤ level) (h3 : level < 4) (key : Str) : coversF (descF bits level l).1 key = decide ((proveF bits l key).2 = 0) := by
  obtain ⟨f1, f2, f3, f4⟩ := id h
  rw [descF_yes h h2 h3]
  have hl0 : l[0]? = some l[0] := List.getElem?_eq_getElem f1
  have hl1 : l[l.length - 1]? = some l[l.length - 1] := List.getElem?_eq_getElem (by omega)
  have hk0 := firstK_eq hl0
  have hk1 := lastK_eq hl1
  unfold coversF
  simp only
  rw [hk0, hk1, sle_not, sle_not]
  unfold proveF
  rw [if_pos h]
  have hc0 := cnt_at (k := key) f3 0 _ hl0
  have hc1 := cnt_at (k := key) f3 _ _ hl1
  have hle := cntLt_le key l
  cases hh : hasKey key l with
  | true =>
    obtain ⟨e, he, hk⟩ := has_at f3 hh
    have hcl := hasKey_cnt hh
    rw [if_pos rfl]
    have h4 : slt key l[0].key = false := by
      cases hx : slt key l[0].key with
      | false => rfl
      | true =>
        rcases Nat.eq_zero_or_pos (cntLt key l) with h0 | h0
        · rw [h0] at he; rw [hl0] at he; cases he; rw [hk, slt_irrefl] at hx; cases hx
        · have := sorted_at f3 h0 hl0 he
          rw [hk] at this; rw [slt_asymm this] at hx; cases hx
    have h5 : slt l[l.length - 1].key key = false := by
      cases hx : slt l[l.length - 1].key key with
      | false => rfl
      | true => have := hc1.1 hx; omega
    rw [h4, h5]; rfl
  | false =>
    obtain ⟨g1, g2⟩ := hasnt_at f3 hh
    rw [if_neg (by decide)]
    by_cases hz : cntLt key l = 0 ∨ cntLt key l = l.length
    · rw [if_pos hz]
      have : (!slt key l[0].key && !slt l[l.length - 1].key key) = false := by
        rcases hz with hz | hz
        · have := g1 l[0] (by rw [hz]; exact hl0)
          rw [this]; rfl
        · have := g2 (l.length - 1) l[l.length - 1] (by omega) hl1
          rw [this]; simp
      rw [this]; rfl
    · rw [if_neg hz]
      have h4 : slt l[0].key key = true := hc0.2 (by omega)
      have h5 : slt l[l.length - 1].key key = false := by
        cases hx : slt l[l.length - 1].key key with
        | false => rfl
        | true => have := hc1.1 hx; omega
      rw [slt_asymm h4, h5]; rfl
theorem over_iff {bits level : Int} {l : List Ent} (h : FitL l) (h2 : 0 ≤ level) (h3 : level < 4) (lo hi : Str) : overF (descF bits level l).1 lo hi = decide ((spanF bits l lo hi).2 = 0) := by
  rw [descF_yes h h2 h3]
  unfold overF spanF outF
  simp only
  rw [if_pos h]
  cases slt (lastK l) lo <;> cases belowF (firstK l) hi <;> cases belowF lo hi <;> rfl

/-! ## a point that is proved is taken -/
theorem check_point {bits level : Int} {l : List Ent} (h : FitL l) (h2 : 0 ≤ level) (h3 : level < 4) (key : Str) (hp : (proveF bits l key).2 = 0) :
    seekC bits (descF bits level l).1 l.length key (proveF bits l key).1.1 (proveF bits l key).1.2.1 (proveF bits l key).1.2.2 = (if hasKey key l = true then l.getD (cntLt key l) ent0 else ent0, hasKey key l, 0) := by
  obtain ⟨f1, f2, f3, f4⟩ := id h
  have hcov := covers_iff (bits := bits) h h2 h3 key
  rw [hp] at hcov
  have hroot : (descF bits level l).1.root = rootF bits (l.map entB) := by rw [descF_yes h h2 h3]
  generalize (descF bits level l).1 = x at hcov hroot
  have hcl := cntLt_le key l
  unfold proveF at hp ⊢
  rw [if_pos h] at hp ⊢
  cases hh : hasKey key l with
  | true =>
    obtain ⟨e, he, hk⟩ := has_at f3 hh
    have hr := f4 e (List.mem_of_getElem? he)
    rw [if_pos rfl]
    have ho := open_holds (bits := bits) he hr x hroot
    unfold seekC
    simp only [ho, hcov, decide_true, Bool.not_true, Bool.or_self, Bool.false_eq_true, if_false, Bool.not_false, if_true]
    rw [openF_leaf bits l _ he, pars_own hr]
    simp [hk, seq_refl, opn0, Opn.none, List.getD, he]
  | false =>
    rw [hh] at hp
    rw [if_neg (by decide)] at hp ⊢
    by_cases hz : cntLt key l = 0 ∨ cntLt key l = l.length
    · rw [if_pos hz] at hp; cases hp
    · rw [if_neg hz]
      obtain ⟨g1, g2⟩ := hasnt_at f3 hh
      have ha : l[cntLt key l - 1]? = some l[cntLt key l - 1] := List.getElem?_eq_getElem (by omega)
      have hb : l[cntLt key l]? = some l[cntLt key l] := List.getElem?_eq_getElem (by omega)
      have hra := f4 _ (List.mem_of_getElem? ha)
      have hrb := f4 _ (List.mem_of_getElem? hb)
      have h4 := g1 _ hb
      have h5 := g2 _ _ (by omega) ha
      have hoa := open_holds (bits := bits) ha hra x hroot
      have hob := open_holds (bits := bits) hb hrb x hroot
      have hw : IntKind.i64.wrap ((openF bits (l.map entB) (cntLt key l)).t - 1) = (openF bits (l.map entB) (cntLt key l - 1)).t := by
        show IntKind.i64.wrap (((cntLt key l : Nat) : Int) - 1) = ((cntLt key l - 1 : Nat) : Int)
        rw [wrap_i64 (by omega) (by omega)]; omega
      unfold seekC
      simp only [hoa, hob, hcov, decide_true, Bool.not_true, Bool.or_self, Bool.false_eq_true, if_false]
      rw [openF_leaf bits l _ ha, pars_own hra, openF_leaf bits l _ hb, pars_own hrb, hw]
      simp [h5, sle_not, h4]

/-! ## a span that is proved is taken -/
theorem parsL_cut {l : List Ent} (h : ∀ e ∈ l, e.Right) (i j : Nat) : parsL (((l.map entB).take j).drop i) = (l.take j).drop i := by
  rw [← List.map_take, ← List.map_drop]
  exact parsL_own fun e he => h e (List.mem_of_mem_take (List.mem_of_mem_drop he))
theorem keep_iff (lo hi : Str) (e : Ent) : keepB (delB lo hi) e = ((!slt e.key lo) && belowF e.key hi) := by
  unfold keepB delB; cases slt e.key lo <;> cases belowF e.key hi <;> rfl
theorem filter_cut {p : Ent → Bool} {l : List Ent} {i j : Nat} (h1 : ∀ k e, k < i → l[k]? = some e → p e = false) (h2 : ∀ k e, j ≤ k → l[k]? = some e → p e = false) : ((l.take j).drop i).filter p = l.filter p := by
  have e1 : l = l.take j ++ l.drop j := (List.take_append_drop j l).symm
  have e2 : l.take j = (l.take j).take i ++ (l.take j).drop i := (List.take_append_drop i _).symm
  have h3 : (l.drop j).filter p = [] := by
    rw [List.filter_eq_nil_iff]
    intro e he
    obtain ⟨k, hk⟩ := List.mem_iff_getElem?.1 he
    rw [List.getElem?_drop] at hk
    rw [h2 _ e (by omega) hk]; decide
  have h4 : ((l.take j).take i).filter p = [] := by
    rw [List.filter_eq_nil_iff]
    intro e he
    obtain ⟨k, hk⟩ := List.mem_iff_getElem?.1 he
    rw [List.getElem?_take] at hk
    split at hk
    · rename_i hki
      rw [List.getElem?_take] at hk
      split at hk
      · rw [h1 _ e hki hk]; decide
      · cases hk
    · cases hk
  have e3 : l.filter p = (l.take j ++ l.drop j).filter p := by rw [List.take_append_drop]
  have e4 : (l.take j).filter p = ((l.take j).take i ++ (l.take j).drop i).filter p := by rw [List.take_append_drop]
  rw [e3, List.filter_append, h3, List.append_nil, e4, List.filter_append, h4, List.nil_append]

theorem check_span {bits level : Int} {l : List Ent} (h : FitL l) (h2 : 0 ≤ level) (h3 : level < 4) (lo hi : Str) (hp : (spanF bits l lo hi).2 = 0) :
    spanC bits (descF bits level l).1 l.length lo hi (spanF bits l lo hi).1 = (l.filter (keepB (delB lo hi)), 0) := by
  obtain ⟨f1, f2, f3, f4⟩ := id h
  have hov := over_iff (bits := bits) h h2 h3 lo hi
  rw [hp] at hov
  have hroot : (descF bits level l).1.root = rootF bits (l.map entB) := by rw [descF_yes h h2 h3]
  generalize (descF bits level l).1 = x at hov hroot
  have hout : outF l lo hi = false := by
    cases ho : outF l lo hi with
    | false => rfl
    | true => unfold spanF at hp; rw [if_pos h, if_pos ho] at hp; cases hp
  obtain ⟨s1, s2⟩ := sp_lt h hout
  have hsp : spanF bits l lo hi = (⟨((spFrom l lo : Nat) : Int), ((l.map entB).take (spTo l hi)).drop (spFrom l lo), besideF bits (l.map entB) ((spFrom l lo : Nat) : Int) ((spTo l hi : Nat) : Int)⟩, 0) := by
    unfold spanF; rw [if_pos h, if_neg (by rw [hout]; decide)]
  rw [hsp]
  have hlen : (((l.map entB).take (spTo l hi)).drop (spFrom l lo)).length = spTo l hi - spFrom l lo := by
    rw [List.length_drop, List.length_take, List.length_map]; omega
  have hall : (((l.map entB).take (spTo l hi)).drop (spFrom l lo)).all wholeF = true := by
    rw [List.all_eq_true]
    intro b hb
    exact List.all_eq_true.1 (whole_own f4) b (List.mem_of_mem_take (List.mem_of_mem_drop hb))
  have hchk := checkR_own bits (l.map entB) (spFrom l lo) (spTo l hi) s1 (by rw [List.length_map]; exact s2)
  rw [List.length_map] at hchk
  simp only
  rw [spanC_go ⟨by rw [hov]; decide, by rw [hlen]; omega, by rw [hlen]; omega, by simp only; omega, by simp only; omega⟩ hall]
  simp only
  rw [parsL_cut f4, hroot, hchk]
  have hcl : ((l.take (spTo l hi)).drop (spFrom l lo)).length = spTo l hi - spFrom l lo := by rw [List.length_drop, List.length_take]; omega
  have hsort : SortedL ((l.take (spTo l hi)).drop (spFrom l lo)) := f3.sub ((List.drop_sublist _ _).trans (List.take_sublist _ _))
  have hl0 : l[spFrom l lo]? = some l[spFrom l lo] := List.getElem?_eq_getElem (by omega)
  have hl1 : l[spTo l hi - 1]? = some l[spTo l hi - 1] := List.getElem?_eq_getElem (by omega)
  have hk0 : firstK ((l.take (spTo l hi)).drop (spFrom l lo)) = l[spFrom l lo].key := firstK_eq (by rw [List.getElem?_drop, List.getElem?_take, if_pos (by omega)]; exact hl0)
  have hk1 : lastK ((l.take (spTo l hi)).drop (spFrom l lo)) = l[spTo l hi - 1].key := lastK_eq (by
    rw [hcl, List.getElem?_drop, List.getElem?_take, if_pos (by omega), show spFrom l lo + (spTo l hi - spFrom l lo - 1) = spTo l hi - 1 by omega]; exact hl1)
  have hlate : lateF ((l.take (spTo l hi)).drop (spFrom l lo)) lo ((spFrom l lo : Nat) : Int) = false := by
    unfold lateF
    rw [hk0]
    by_cases h0 : spFrom l lo = 0
    · have : ¬ (((spFrom l lo : Nat) : Int) > 0) := by omega
      rw [decide_eq_false this, Bool.and_false]
    · have : slt l[spFrom l lo].key lo = true := (cnt_at (k := lo) f3 _ _ hl0).2 (by unfold spFrom at h0 ⊢; omega)
      rw [this]; rfl
  have hearly : earlyF ((l.take (spTo l hi)).drop (spFrom l lo)) hi ((spFrom l lo : Nat) : Int) l.length = false := by
    unfold earlyF
    rw [hk1, hcl]
    by_cases h0 : spTo l hi = l.length
    · have : ¬ (((spFrom l lo : Nat) : Int) + ((spTo l hi - spFrom l lo : Nat) : Int) < ((l.length : Nat) : Int)) := by omega
      rw [decide_eq_false this, Bool.and_false]
    · have hto : ¬ (seq hi ⟨#[]⟩ = true) ∧ spTo l hi = cntLt hi l + 1 := by
        unfold spTo spTo0 at h0 ⊢
        split at h0
        · omega
        · rename_i hn; rw [if_neg hn]; exact ⟨hn, by omega⟩
      have hge : slt l[spTo l hi - 1].key hi = false := by
        cases hx : slt l[spTo l hi - 1].key hi with
        | false => rfl
        | true => have := (cnt_at (k := hi) f3 _ _ hl1).1 hx; omega
      unfold belowF
      rw [hge, Bool.eq_false_iff.2 hto.1]; rfl
  rw [hlate, hearly, decide_eq_true hsort, if_neg (by decide)]
  congr 1
  refine filter_cut (fun k e hk he => ?_) (fun k e hk he => ?_)
  · have : slt e.key lo = true := (cnt_at (k := lo) f3 _ _ he).2 (by unfold spFrom at hk; omega)
    rw [keep_iff, this]; rfl
  · have hkl := (List.getElem?_eq_some_iff.1 he).1
    have hto : ¬ (seq hi ⟨#[]⟩ = true) ∧ spTo l hi = cntLt hi l + 1 := by
      unfold spTo spTo0 at hk ⊢
      split at hk
      · omega
      · rename_i hn; rw [if_neg hn]; exact ⟨hn, by omega⟩
    have hge : slt e.key hi = false := by
      cases hx : slt e.key hi with
      | false => rfl
      | true => have := (cnt_at (k := hi) f3 _ _ he).1 hx; omega
    rw [keep_iff]
    unfold belowF
    rw [hge, Bool.eq_false_iff.2 hto.1]; simp
end Go.Proofs.Ytkgokehkobifkaa.J

/- SeekWhole: the walk. -/
namespace Go.Proofs.Ytkgokehkobifkaa.J
open Go Go.RowKit

theorem desc_ok {bits level : Int} {l : List Ent} (h : (descF bits level l).2 = 0) : FitL l ∧ 0 ≤ level ∧ level < 4 := by
  refine Classical.byContradiction fun hn => ?_
  rw [descF_no hn] at h; cases h
theorem descF_1 {bits level : Int} {l : List Ent} (h : FitL l) (h2 : 0 ≤ level) (h3 : level < 4) : (descF bits level l).1.count = ((l.length : Nat) : Int) := by rw [descF_yes h h2 h3]

theorem seekWhole_calls (a : Option Addr) (n c : Nat) (l : List Ent) (bits : Int) (Ac : Nat → Prop) (W : World) (hA : ∀ k, Ac k → k < W.heap.size) (hs : Sl 4 encE Ac W a n c l) :
    Calls Pr 4 #[.slice a n c, .int .i64 bits] W (Ret nobody W fun v w => v = .bool true) := by
  refine J.enter (fn := Try.f4) (n := 89) Try.func4 (by kernel_rfl) (by kernel_rfl) (by kernel_rfl) hA ?_
  have hlen := hs.len; have hle := hs.le; have hcap := hs.cap; simp only [maxLen] at hcap
  refine J.run [.n, .n, .u, .n, .n, .n] [0, 1] ⟨[(0, .v (.slice a n c)), (1, .v (.int .i64 bits))], []⟩ [.c 0] [.o 3 0, .c 4] (by kernel_rfl) ?_
  refine J.call (d := some 14) (by kernel_rfl) (fun w1 A1 m1 l1 => shown_calls nobody w1 noA) ?_
  rintro _ u1 w1 A1 rfl g1
  have m1 := g1.mv
  replace hs := hs.mv m1
  refine J.run [.u, .n, .n, .n, .u] [1, 5, 15] ⟨[(1, .v (.int .i64 bits)), (5, .v (.bool true)), (15, .v (.slice a n c))], []⟩ [.o 3 1, .c 4] [.o 5 1, .c 6] (by kernel_rfl) ?_
  refine J.call (d := some 16) (by kernel_rfl) (fun w1 A1 m1 l1 => fit_law_calls a n c l nobody w1 noA (hs.mv m1).any) ?_
  rintro _ u2 w2 A2 ⟨a1, c1, rfl, hfq1⟩ g2
  have m2 := g2.mv
  replace hs := hs.mv m2
  have hl1 : Sl 4 encE A2 w2 a1 (fitF l).length c1 (fitF l) := hfq1.sl (fun x _ => rfl) (by decide) g2.bd
  refine J.run [.u, .n, .n, .n, .u, .u] [0, 5, 18] ⟨[(0, .v (.slice a1 ((fitF l).length) c1)), (5, .v (.bool true)), (18, .v (.agg [.int .i64 bits].toArray))], []⟩ [.o 5 2, .c 6] [.o 7 2, .c 8] (by kernel_rfl) ?_
  refine J.new (T := 32) (cs := [.int .i64 0]) (d := 6) (K := .ptr) (by kernel_rfl) (fun b1 hb1 => ?_)
  refine J.run [.u, .n, .n, .n, .u, .u] [0, 5, 6, 20, 21] ⟨[(0, .v (.slice a1 ((fitF l).length) c1)), (5, .v (.bool true)), (6, .loc 0 0), (20, .v (.agg [.int .i64 bits].toArray)), (21, .v (.slice a1 ((fitF l).length) c1))], [⟨32, [.int .i64 bits]⟩]⟩ [.o 7 3, .c 8] [.o 9 2, .c 10] (by kernel_rfl) ?_
  refine J.call (d := some 22) (by kernel_rfl) (fun w1 A1 m1 l1 => describe_calls bits 2 a1 ((fitF l).length) c1 (fitF l) A1 w1 m1.bdd (hl1.mv m1)) ?_
  rintro _ u3 w3 A3 rfl g3
  have m3 := g3.mv
  replace hs := hs.mv m3; replace hl1 := hl1.mv m3
  refine J.run [.u, .u, .u] [0, 5, 6, 23, 24] ⟨[(0, .v (.slice a1 ((fitF l).length) c1)), (5, .v (.bool true)), (6, .loc 0 0), (23, .v (.agg (encT (descF bits 2 (fitF l)).1).toArray)), (24, .v (.int .i64 ((descF bits 2 (fitF l)).2)))], [⟨32, [.int .i64 bits]⟩]⟩ [.o 9 3, .c 10] [.o 9 6, .c 10] (by kernel_rfl) ?_
  refine J.new (T := 36) (cs := [.int .i64 0, .int .i64 0, .int .u8 0, .int .u8 0, .int .u8 0, .int .u8 0, .int .u8 0, .int .u8 0, .int .u8 0, .int .u8 0, .int .u8 0, .int .u8 0, .int .u8 0, .int .u8 0, .int .u8 0, .int .u8 0, .int .u8 0, .int .u8 0, .int .u8 0, .int .u8 0, .int .u8 0, .int .u8 0, .int .u8 0, .int .u8 0, .int .u8 0, .int .u8 0, .int .u8 0, .int .u8 0, .int .u8 0, .int .u8 0, .int .u8 0, .int .u8 0, .int .u8 0, .int .u8 0, .string (⟨#[]⟩ : Str), .string (⟨#[]⟩ : Str)]) (d := 7) (K := .ptr) (by kernel_rfl) (fun b2 hb2 => ?_)
  refine J.run [.u, .u, .n, .n, .n, .n, .u, .u, .n] [0, 5, 6, 7, 26] ⟨[(0, .v (.slice a1 ((fitF l).length) c1)), (5, .v (.bool true)), (6, .loc 0 0), (7, .loc 1 0), (26, .v (.bool (((descF bits 2 (fitF l)).2) != 0)))], [⟨32, [.int .i64 bits]⟩, ⟨36, encT (descF bits 2 (fitF l)).1⟩]⟩ [.o 9 7, .c 10] [.c 13, .c 18] (by kernel_rfl) ?_
  refine J.cond (b := (((descF bits 2 (fitF l)).2) != 0)) (k' := 17) (by kernel_rfl) (fun hc => ?_) (fun hc => ?_)
  · try simp only [nrm] at hc
    have hc1 := hc
    refine J.run [.n, .n, .u, .u, .n] [4] ⟨[(4, .v (.bool true))], [⟨32, [.int .i64 bits]⟩, ⟨36, encT (descF bits 2 (fitF l)).1⟩]⟩ [.c 14, .c 18] [.c 16, .c 18] (by kernel_rfl) ?_
    refine J.ret (v := .bool true) (by kernel_rfl) (by kernel_rfl) (fun w1 A1 m1 hac l1 => rfl)
  · try simp only [nrm] at hc
    have hc1 := hc
    refine J.run [.n, .n, .n, .u, .u] [0, 5, 6, 7, 29, 30] ⟨[(0, .v (.slice a1 ((fitF l).length) c1)), (5, .v (.bool true)), (6, .loc 0 0), (7, .loc 1 0), (29, .v (.agg [.int .i64 bits].toArray)), (30, .v (.slice a1 ((fitF l).length) c1))], [⟨32, [.int .i64 bits]⟩, ⟨36, encT (descF bits 2 (fitF l)).1⟩]⟩ [.c 17, .c 18] [.o 19 2, .c 20] (by kernel_rfl) ?_
    have hf := (desc_ok hc1).1; have hf0 := hf.1; have hf64 := hf.2.1
    refine J.call (d := some 31) (by kernel_rfl) (fun w1 A1 m1 l1 => (by have q := proveSpan_calls bits a1 ((fitF l).length) c1 (fitF l) ⟨#[]⟩ ⟨#[]⟩ A1 w1 m1.bdd (hl1.mv m1); rw [span_all hf] at q; exact q)) ?_
    rintro _ u4 w4 A4 ⟨_, rfl, la1, ln1, lc1, pa1, pn1, pc1, rfl, hsr1, hsp1⟩ g4
    have m4 := g4.mv
    replace hs := hs.mv m4; replace hl1 := hl1.mv m4
    have hrn : ln1 = (fitF l).length := by have := hsr1.len; simpa using this
    have hpn : pn1 = 0 := by have := hsp1.len; simpa using this
    refine J.run [.u, .u, .u] [0, 5, 6, 7, 32, 33] ⟨[(0, .v (.slice a1 ((fitF l).length) c1)), (5, .v (.bool true)), (6, .loc 0 0), (7, .loc 1 0), (32, .v (.agg [.int .i64 0, .slice la1 ln1 lc1, .slice pa1 pn1 pc1].toArray)), (33, .v (.int .i64 0))], [⟨32, [.int .i64 bits]⟩, ⟨36, encT (descF bits 2 (fitF l)).1⟩]⟩ [.o 19 3, .c 20] [.o 19 6, .c 20] (by kernel_rfl) ?_
    refine J.new (T := 54) (cs := [.int .i64 0, .slice none 0 0, .slice none 0 0]) (d := 9) (K := .ptr) (by kernel_rfl) (fun b3 hb3 => ?_)
    refine J.run [.u, .u, .n, .n, .n, .u, .u, .u] [0, 5, 9, 10, 35, 36, 37] ⟨[(0, .v (.slice a1 ((fitF l).length) c1)), (5, .v (.bool true)), (9, .loc 2 0), (10, .v (.int .i64 0)), (35, .v (.agg [.int .i64 bits].toArray)), (36, .v (.agg (encT (descF bits 2 (fitF l)).1).toArray)), (37, .v (.agg [.int .i64 0, .slice la1 ln1 lc1, .slice pa1 pn1 pc1].toArray))], [⟨32, [.int .i64 bits]⟩, ⟨36, encT (descF bits 2 (fitF l)).1⟩, ⟨54, [.int .i64 0, .slice la1 ln1 lc1, .slice pa1 pn1 pc1]⟩]⟩ [.o 19 7, .c 20] [.o 21 3, .c 22] (by kernel_rfl) ?_
    refine J.call (d := some 38) (by kernel_rfl) (fun w1 A1 m1 l1 => (by have q := checkSpan_calls bits (descF bits 2 (fitF l)).1 (fitF l).length (descF_1 hf (by decide) (by decide)) (by omega) ⟨#[]⟩ ⟨#[]⟩ ⟨0, (fitF l).map entB, []⟩ (short_ents _) la1 ln1 lc1 pa1 pn1 pc1 nobody w1 noA (hsr1.mv m1).any (hsp1.mv m1).any; rw [chk_all hf (by decide) (by decide)] at q; exact q)) ?_
    rintro _ u5 w5 A5 ⟨a2, c2, rfl, hgq1⟩ g5
    have m5 := g5.mv
    replace hs := hs.mv m5; replace hl1 := hl1.mv m5; replace hsr1 := hsr1.mv m5; replace hsp1 := hsp1.mv m5
    have hg1 : Sl 4 encE A5 w5 a2 (fitF l).length c2 (fitF l) := hgq1.sl (fun x _ => rfl) (by decide) g5.bd
    refine J.run [.u, .u, .u, .u, .u, .n, .n, .n, .n, .u, .u, .u, .w, .w, .u, .u, .w, .w, .w, .w, .w, .u, .u] [0, 5, 9, 11, 54] ⟨[(0, .v (.slice a1 ((fitF l).length) c1)), (5, .v (.bool true)), (9, .loc 2 0), (11, .v (.slice a2 ((fitF l).length) c2)), (54, .v (.bool ((((fitF l).length : Nat) : Int) != (((fitF l).length : Nat) : Int))))], [⟨32, [.int .i64 bits]⟩, ⟨36, encT (descF bits 2 (fitF l)).1⟩, ⟨54, [.int .i64 0, .slice la1 ln1 lc1, .slice pa1 pn1 pc1]⟩]⟩ [.o 21 4, .c 22] [.o 24 14, .c 25, .c 30] (by kernel_rfl) ?_
    rcases Bool.eq_false_or_eq_true ((((fitF l).length : Nat) : Int) != (((fitF l).length : Nat) : Int)) with hc | hc
    · rw [hc]
      try simp only [nrm] at hc
      have hc2 := hc
      refine J.run [.x, .x, .x, .u, .u, .x, .x, .x, .x, .x, .x, .u, .u, .x, .x, .x, .x, .u, .n] [0, 5, 11, 72] ⟨[(0, .v (.slice a1 ((fitF l).length) c1)), (5, .v (.bool true)), (11, .v (.slice a2 ((fitF l).length) c2)), (72, .v (.bool true))], [⟨32, [.int .i64 bits]⟩, ⟨36, encT (descF bits 2 (fitF l)).1⟩, ⟨54, [.int .i64 0, .slice la1 ln1 lc1, .slice pa1 pn1 pc1]⟩]⟩ [.o 24 14, .c 25, .c 30] [.c 25, .c 30] (by kernel_rfl) ?_
      refine J.cond (b := true) (k' := 29) (by kernel_rfl) (fun _ => ?_) (fun hc => absurd hc (by decide))
      refine J.run [.n, .n, .u, .n] [4] ⟨[(4, .v (.bool false))], [⟨32, [.int .i64 bits]⟩, ⟨36, encT (descF bits 2 (fitF l)).1⟩, ⟨54, [.int .i64 0, .slice la1 ln1 lc1, .slice pa1 pn1 pc1]⟩]⟩ [.c 26, .c 30] [.c 28, .c 30] (by kernel_rfl) ?_
      exfalso
      have h9 := hc2; simp [hrn, hpn] at h9
    · rw [hc]
      try simp only [nrm] at hc
      have hc2 := hc
      refine J.run [.w, .w, .w, .u, .u, .w, .w, .w, .w, .w, .w, .u, .u] [0, 5, 9, 11, 67] ⟨[(0, .v (.slice a1 ((fitF l).length) c1)), (5, .v (.bool true)), (9, .loc 2 0), (11, .v (.slice a2 ((fitF l).length) c2)), (67, .v (.bool (((ln1 : Nat) : Int) != (((fitF l).length : Nat) : Int))))], [⟨32, [.int .i64 bits]⟩, ⟨36, encT (descF bits 2 (fitF l)).1⟩, ⟨54, [.int .i64 0, .slice la1 ln1 lc1, .slice pa1 pn1 pc1]⟩]⟩ [.o 24 14, .c 25, .c 30] [.o 24 27, .c 25, .c 30] (by kernel_rfl) ?_
      rcases Bool.eq_false_or_eq_true (((ln1 : Nat) : Int) != (((fitF l).length : Nat) : Int)) with hc | hc
      · rw [hc]
        try simp only [nrm] at hc
        have hc3 := hc
        refine J.run [.x, .x, .x, .x, .u, .n] [0, 5, 11, 72] ⟨[(0, .v (.slice a1 ((fitF l).length) c1)), (5, .v (.bool true)), (11, .v (.slice a2 ((fitF l).length) c2)), (72, .v (.bool true))], [⟨32, [.int .i64 bits]⟩, ⟨36, encT (descF bits 2 (fitF l)).1⟩, ⟨54, [.int .i64 0, .slice la1 ln1 lc1, .slice pa1 pn1 pc1]⟩]⟩ [.o 24 27, .c 25, .c 30] [.c 25, .c 30] (by kernel_rfl) ?_
        refine J.cond (b := true) (k' := 29) (by kernel_rfl) (fun _ => ?_) (fun hc => absurd hc (by decide))
        refine J.run [.n, .n, .u, .n] [4] ⟨[(4, .v (.bool false))], [⟨32, [.int .i64 bits]⟩, ⟨36, encT (descF bits 2 (fitF l)).1⟩, ⟨54, [.int .i64 0, .slice la1 ln1 lc1, .slice pa1 pn1 pc1]⟩]⟩ [.c 26, .c 30] [.c 28, .c 30] (by kernel_rfl) ?_
        exfalso
        have h9 := hc3; simp [hrn, hpn] at h9
      · rw [hc]
        try simp only [nrm] at hc
        have hc3 := hc
        refine J.run [.w, .w, .w, .w, .u, .n] [0, 5, 11, 72] ⟨[(0, .v (.slice a1 ((fitF l).length) c1)), (5, .v (.bool true)), (11, .v (.slice a2 ((fitF l).length) c2)), (72, .v (.bool (((pn1 : Nat) : Int) != 0)))], [⟨32, [.int .i64 bits]⟩, ⟨36, encT (descF bits 2 (fitF l)).1⟩, ⟨54, [.int .i64 0, .slice la1 ln1 lc1, .slice pa1 pn1 pc1]⟩]⟩ [.o 24 27, .c 25, .c 30] [.c 25, .c 30] (by kernel_rfl) ?_
        refine J.cond (b := (((pn1 : Nat) : Int) != 0)) (k' := 29) (by kernel_rfl) (fun hc => ?_) (fun hc => ?_)
        · try simp only [nrm] at hc
          have hc4 := hc
          refine J.run [.n, .n, .u, .n] [4] ⟨[(4, .v (.bool false))], [⟨32, [.int .i64 bits]⟩, ⟨36, encT (descF bits 2 (fitF l)).1⟩, ⟨54, [.int .i64 0, .slice la1 ln1 lc1, .slice pa1 pn1 pc1]⟩]⟩ [.c 26, .c 30] [.c 28, .c 30] (by kernel_rfl) ?_
          exfalso
          have h9 := hc4; simp [hrn, hpn] at h9
        · try simp only [nrm] at hc
          have hc4 := hc
          refine J.run [.n, .n, .n, .n, .u, .n, .n] [0, 5, 11, 13] ⟨[(0, .v (.slice a1 ((fitF l).length) c1)), (5, .v (.bool true)), (11, .v (.slice a2 ((fitF l).length) c2)), (13, .v (.int .i64 0))], [⟨32, [.int .i64 bits]⟩, ⟨36, encT (descF bits 2 (fitF l)).1⟩, ⟨54, [.int .i64 0, .slice la1 ln1 lc1, .slice pa1 pn1 pc1]⟩]⟩ [.c 29, .c 30] [.c 34, .b 0, .c 51] (by kernel_rfl) ?_
          refine J.loop (X := Nat) (fun i => ⟨[(0, .v (.slice a1 ((fitF l).length) c1)), (5, .v (.bool true)), (11, .v (.slice a2 ((fitF l).length) c2)), (13, .v (.int .i64 ((i : Nat) : Int)))], [⟨32, [.int .i64 bits]⟩, ⟨36, encT (descF bits 2 (fitF l)).1⟩, ⟨54, [.int .i64 0, .slice la1 ln1 lc1, .slice pa1 pn1 pc1]⟩]⟩) (fun i A w => i ≤ (fitF l).length ∧ Sl 4 encE A w a1 (fitF l).length c1 (fitF l) ∧ Sl 4 encE A w a2 (fitF l).length c2 (fitF l)) (fun i => (fitF l).length - i) [0, 5, 11, 13] 3 [b1, b2, b3] 0 (by kernel_rfl) (by kernel_rfl) (by kernel_rfl) (fun w1 A1 m1 => ⟨Nat.zero_le _, hl1.mv m1, hg1.mv m1⟩) (fun i A6 w6 hI => ?_)
          obtain ⟨hi, hl, hg⟩ := hI
          refine J.run [.n, .n, .n, .u, .u, .u, .u, .n] [0, 5, 11, 13, 76] ⟨[(0, .v (.slice a1 ((fitF l).length) c1)), (5, .v (.bool true)), (11, .v (.slice a2 ((fitF l).length) c2)), (13, .v (.int .i64 ((i : Nat) : Int))), (76, .v (.bool (decide (((i : Nat) : Int) < (((fitF l).length : Nat) : Int)))))], [⟨32, [.int .i64 bits]⟩, ⟨36, encT (descF bits 2 (fitF l)).1⟩, ⟨54, [.int .i64 0, .slice la1 ln1 lc1, .slice pa1 pn1 pc1]⟩]⟩ [.c 35] [.c 38, .c 41] (by kernel_rfl) ?_
          refine J.cond (b := (decide (((i : Nat) : Int) < (((fitF l).length : Nat) : Int)))) (k' := 40) (by kernel_rfl) (fun hc => ?_) (fun hc => ?_)
          · try simp only [nrm] at hc
            have hc5 := hc
            refine J.run [.n, .n, .n, .n] [0, 5, 11, 13] ⟨[(0, .v (.slice a1 ((fitF l).length) c1)), (5, .v (.bool true)), (11, .v (.slice a2 ((fitF l).length) c2)), (13, .v (.int .i64 ((i : Nat) : Int)))], [⟨32, [.int .i64 bits]⟩, ⟨36, encT (descF bits 2 (fitF l)).1⟩, ⟨54, [.int .i64 0, .slice la1 ln1 lc1, .slice pa1 pn1 pc1]⟩]⟩ [.c 39, .c 41] [.c 44, .c 45, .b 1, .c 50] (by kernel_rfl) ?_
            refine J.draw [] nobody (by kernel_rfl) (by kernel_rfl) (fun _ h => h.elim) (fun w7 A7 m6 hr1 hX1 => ?_)
            replace hl := hl.mv m6; replace hg := hg.mv m6
            refine J.take0 [(0, .u), (1, .u), (4, .u), (5, .u)] [0, 5, 11, 13, 79, 80, 83, 84] [(0, .v (.slice a1 ((fitF l).length) c1)), (5, .v (.bool true)), (11, .v (.slice a2 ((fitF l).length) c2)), (13, .v (.int .i64 ((i : Nat) : Int))), (79, .v (.slice a2 ((fitF l).length) c2)), (80, .v (.int .i64 ((i : Nat) : Int))), (83, .v (.slice a1 ((fitF l).length) c1)), (84, .v (.int .i64 ((i : Nat) : Int)))] [5, 4, 1, 0] (calm_body _ _ _) (by intro k _ h; exact h) hr1 (by kernel_rfl) ?_
            obtain ⟨p1, o1, rfl⟩ := hg.addr (by omega)
            refine J.idxp (j := 2) (b := p1) (off := o1) (len := (fitF l).length) (i := ((i : Nat) : Int)) (sz := 4) (d := 81) (calm_body _ _ _) (by kernel_rfl) (by kernel_rfl) (by omega) (by omega) ?_
            obtain ⟨x1, hx1⟩ : ∃ zq, ((fitF l))[i]? = some zq := ⟨_, List.getElem?_eq_getElem (by omega)⟩
            refine J.ldp (i := 3) (T := 42) (b := p1) (off := o1 + i * 4) (d := 82) (v := .agg (encE x1).toArray) (calm_body _ _ _) (by kernel_rfl) (by kernel_rfl) hX1 (fun w1 m1 => (hg.mv m1).ld (by kernel_rfl) hx1 (by kernel_rfl)) ?_
            obtain ⟨p2, o2, rfl⟩ := hl.addr (by omega)
            refine J.idxp (j := 6) (b := p2) (off := o2) (len := (fitF l).length) (i := ((i : Nat) : Int)) (sz := 4) (d := 85) (calm_body _ _ _) (by kernel_rfl) (by kernel_rfl) (by omega) (by omega) ?_
            refine J.ldp (i := 7) (T := 42) (b := p2) (off := o2 + i * 4) (d := 86) (v := .agg (encE x1).toArray) (calm_body _ _ _) (by kernel_rfl) (by kernel_rfl) hX1 (fun w1 m1 => (hl.mv m1).ld (by kernel_rfl) hx1 (by kernel_rfl)) ?_
            refine J.eqAp (j := 8) (neg := true) (T := 42) (d := 87) (b := entEq x1 x1) (calm_body _ _ _) (by kernel_rfl) (by kernel_rfl) ent_guard (ent_eq x1 x1) ?_
            refine J.pdone (by kernel_rfl) ?_
            refine J.cond (b := (!(entEq x1 x1))) (k' := 49) (by kernel_rfl) (fun hc => ?_) (fun hc => ?_)
            · try simp only [nrm] at hc
              have hc6 := hc
              refine J.run [.n, .n, .u, .n] [4] ⟨[(4, .v (.bool false))], [⟨32, [.int .i64 bits]⟩, ⟨36, encT (descF bits 2 (fitF l)).1⟩, ⟨54, [.int .i64 0, .slice la1 ln1 lc1, .slice pa1 pn1 pc1]⟩]⟩ [.c 46, .b 1, .c 50] [.c 48, .b 1, .c 50] (by kernel_rfl) ?_
              exfalso
              exact (by have := hc6; simp [entEq_refl] at this)
            · try simp only [nrm] at hc
              have hc6 := hc
              refine J.run [.n, .n, .n, .u, .u, .u, .n] [0, 5, 11, 13] ⟨[(0, .v (.slice (some ⟨p2, o2, none⟩) ((fitF l).length) c1)), (5, .v (.bool true)), (11, .v (.slice (some ⟨p1, o1, none⟩) ((fitF l).length) c2)), (13, .v (.int .i64 (IntKind.i64.wrap (((i : Nat) : Int) + 1))))], [⟨32, [.int .i64 bits]⟩, ⟨36, encT (descF bits 2 (fitF l)).1⟩, ⟨54, [.int .i64 0, .slice la1 ln1 lc1, .slice pa1 pn1 pc1]⟩]⟩ [.c 49, .b 1, .c 50] [] (by kernel_rfl) ?_
              have hw1 : IntKind.i64.wrap (((i : Nat) : Int) + 1) = ((i + 1 : Nat) : Int) := by rw [wrap_i64 (by omega) (by omega)]; try omega
              rw [hw1]
              exact J.again (i + 1) [0, 5, 11, 13] 3 (by omega) (by kernel_rfl) (by kernel_rfl) (fun w1 A1 m1 => ⟨by omega, hl.mv m1, hg.mv m1⟩)
          · try simp only [nrm] at hc
            have hc5 := hc
            refine J.exit (id := 0) (by kernel_rfl) (by rfl) ?_
            refine J.run [.n, .n, .u, .u, .n] [4] ⟨[(4, .v (.bool true))], [⟨32, [.int .i64 bits]⟩, ⟨36, encT (descF bits 2 (fitF l)).1⟩, ⟨54, [.int .i64 0, .slice la1 ln1 lc1, .slice pa1 pn1 pc1]⟩]⟩ [.c 51] [.c 53] (by kernel_rfl) ?_
            refine J.ret (v := .bool true) (by kernel_rfl) (by kernel_rfl) (fun w1 A1 m1 hac l1 => rfl)
end Go.Proofs.Ytkgokehkobifkaa.J
