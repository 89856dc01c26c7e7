/- Part 3 of the texts that the proof of the row stands on: the calculus, contracts of the functions, plain laws; no condition of its own. -/
import Derived.Test.YtkgokehkobifkaaSB2
import Derived.Laws.Externs
import Derived.Lib.Bytealg
import Derived.Laws.IdiomMaps
import Derived.Laws.IdiomRangeMap
set_option linter.unusedVariables false
set_option linter.unusedSimpArgs false
/- Package tree: Check. -/
namespace Go.Proofs.Ytkgokehkobifkaa.J
open Go Go.RowKit

def fnOf (b : Bool) : Value := bif b then .func (.func 46) #[] #[] else .func (.func 82) #[] #[]
def encF (b : Bool) : List Value := [fnOf b]
theorem encF_one (b : Bool) : ∀ v ∈ encF b, v.oneCell' = true := by
  intro v hv; simp [encF] at hv; subst hv; cases b <;> rfl

/-- On which side the way down goes. -/
def sides (n i : Nat) : List Bool :=
  if n ≤ 1 then [] else if i < half n then true :: sides (half n) i else false :: sides (n - half n) (i - half n)
termination_by n
decreasing_by
  · have := half_lt (n := n) (by omega); omega
  · have := half_lt (n := n) (by omega); omega
theorem sides_1 {n i : Nat} (h : n ≤ 1) : sides n i = [] := by rw [sides, if_pos h]
theorem sides_lo {n i : Nat} (h : 2 ≤ n) (hi : i < half n) : sides n i = true :: sides (half n) i := by rw [sides, if_neg (by omega), if_pos hi]
theorem sides_hi {n i : Nat} (h : 2 ≤ n) (hi : half n ≤ i) : sides n i = false :: sides (n - half n) (i - half n) := by rw [sides, if_neg (by omega), if_neg (by omega)]

/-- One step up. -/
def upF (bits : Int) (d : Dg) (p : Bool × Dg) : Dg := if p.1 = true then nodeF bits d p.2 else nodeF bits p.2 d
/-- From a leaf up. -/
def climb (bits : Int) (d : Dg) (up : List Bool) (path : List Dg) : Dg := (up.reverse.zip path).foldl (upF bits) d
def checkN (bits : Int) (root : Dg) (n i : Nat) (leaf : List UInt8) (path : List Dg) : Bool :=
  decide (path.length = (sides n i).length) && dgEq (climb bits (leafF bits leaf) (sides n i) path) root
def checkF (bits : Int) (root : Dg) (n : Nat) (i : Int) (leaf : List UInt8) (path : List Dg) : Bool :=
  decide (0 ≤ i ∧ i < ((n : Nat) : Int)) && checkN bits root n i.toNat leaf path

structure ChkSt where
  n : Nat
  i : Nat
  a : Option Addr
  m : Nat
  c : Nat
  done : List Bool

theorem fold_step {bits : Int} {d : Dg} {up : List Bool} {path : List Dg} {i : Nat} (hl : path.length = up.length) {b : Bool} {x : Dg} (hb : up[up.length - 1 - i]? = some b) (hx : path[i]? = some x) :
    ((up.reverse.zip path).take (i + 1)).foldl (upF bits) d = upF bits (((up.reverse.zip path).take i).foldl (upF bits) d) (b, x) := by
  have hi : i < path.length := (List.getElem?_eq_some_iff.1 hx).1
  have h1 : (up.reverse.zip path)[i]? = some (b, x) := by
    have h2 : up.reverse[i]? = some b := by
      rw [List.getElem?_reverse (by omega)]; exact hb
    simp [List.getElem?_zip_eq_some, h2, hx]
  rw [take_snoc h1, List.foldl_append]; rfl

theorem check_calls (bits : Int) (root : Dg) (N : Nat) (i : Int) (la : Option Addr) (ln lc : Nat) (leaf : List UInt8) (pa : Option Addr) (pn pc : Nat) (path : List Dg) (hN : N ≤ 1000000) (hln : ln ≤ 1000000) (Ac : Nat → Prop) (W : World) (hA : ∀ k, Ac k → k < W.heap.size) (hs : Sl 1 u8 Ac W la ln lc leaf) (hp : Sl 32 dcells Ac W pa pn pc path) :
    Calls Pr 39 #[.agg [.int .i64 bits].toArray, .agg (dcells root).toArray, .int .i64 ((N : Nat) : Int), .int .i64 i, .slice la ln lc, .slice pa pn pc] W (Ret nobody W fun v w => v = .bool (checkF bits root N i leaf path)) := by
  refine J.enter (fn := Try.f39) (n := 76) Try.func39 (by kernel_rfl) (by kernel_rfl) (by kernel_rfl) hA ?_
  have hlen := hs.len; have hle := hs.le; have hcap := hs.cap; simp only [maxLen] at hcap
  have hplen := hp.len; have hple := hp.le; have hpcap := hp.cap; simp only [maxLen] at hpcap
  refine J.run [.n, .n] [0, 1, 2, 3, 4, 5] ⟨[(0, .v (.agg [.int .i64 bits].toArray)), (1, .v (.agg (dcells root).toArray)), (2, .v (.int .i64 ((N : Nat) : Int))), (3, .v (.int .i64 i)), (4, .v (.slice la ln lc)), (5, .v (.slice pa pn pc))], []⟩ [.c 0] [.o 1 0, .c 2] (by kernel_rfl) ?_
  refine J.new (T := 32) (cs := [.int .i64 bits]) (d := 6) (K := .ptr) (by kernel_rfl) (fun b1 hb1 => ?_)
  refine J.new (T := 34) (cs := dcells root) (d := 7) (K := .ptr) (by kernel_rfl) (fun b2 hb2 => ?_)
  refine J.run [.u, .n, .n, .n, .n, .u, .u, .u] [2, 3, 4, 5, 6, 7, 20] ⟨[(2, .v (.int .i64 ((N : Nat) : Int))), (3, .v (.int .i64 i)), (4, .v (.slice la ln lc)), (5, .v (.slice pa pn pc)), (6, .loc 0 0), (7, .loc 1 0), (20, .v (.bool (decide (i < 0))))], [⟨32, [.int .i64 bits]⟩, ⟨34, dcells root⟩]⟩ [.o 1 2, .c 2] [.o 4 3, .c 5, .c 10] (by kernel_rfl) ?_
  rcases Bool.eq_false_or_eq_true (decide (i < 0)) with hc | hc
  · rw [hc]
    try simp only [nrm] at hc
    have hc1 := hc
    refine J.run [.x, .x, .x, .u, .n] [2, 3, 4, 5, 6, 7, 24] ⟨[(2, .v (.int .i64 ((N : Nat) : Int))), (3, .v (.int .i64 i)), (4, .v (.slice la ln lc)), (5, .v (.slice pa pn pc)), (6, .loc 0 0), (7, .loc 1 0), (24, .v (.bool true))], [⟨32, [.int .i64 bits]⟩, ⟨34, dcells root⟩]⟩ [.o 4 3, .c 5, .c 10] [.c 5, .c 10] (by kernel_rfl) ?_
    refine J.cond (b := true) (k' := 9) (by kernel_rfl) (fun _ => ?_) (fun hc => absurd hc (by decide))
    refine J.run [.n, .n, .u, .n] [12] ⟨[(12, .v (.bool false))], [⟨32, [.int .i64 bits]⟩, ⟨34, dcells root⟩]⟩ [.c 6, .c 10] [.c 8, .c 10] (by kernel_rfl) ?_
    refine J.ret (v := .bool false) (by kernel_rfl) (by kernel_rfl) (fun w1 A1 m1 hac l1 => by rw [checkF, decide_eq_false (by omega)]; rfl)
  · rw [hc]
    try simp only [nrm] at hc
    have hc1 := hc
    refine J.run [.w, .w, .w, .u, .n] [2, 3, 4, 5, 6, 7, 24] ⟨[(2, .v (.int .i64 ((N : Nat) : Int))), (3, .v (.int .i64 i)), (4, .v (.slice la ln lc)), (5, .v (.slice pa pn pc)), (6, .loc 0 0), (7, .loc 1 0), (24, .v (.bool (decide (i ≥ ((N : Nat) : Int)))))], [⟨32, [.int .i64 bits]⟩, ⟨34, dcells root⟩]⟩ [.o 4 3, .c 5, .c 10] [.c 5, .c 10] (by kernel_rfl) ?_
    refine J.cond (b := (decide (i ≥ ((N : Nat) : Int)))) (k' := 9) (by kernel_rfl) (fun hc => ?_) (fun hc => ?_)
    · try simp only [nrm] at hc
      have hc2 := hc
      refine J.run [.n, .n, .u, .n] [12] ⟨[(12, .v (.bool false))], [⟨32, [.int .i64 bits]⟩, ⟨34, dcells root⟩]⟩ [.c 6, .c 10] [.c 8, .c 10] (by kernel_rfl) ?_
      refine J.ret (v := .bool false) (by kernel_rfl) (by kernel_rfl) (fun w1 A1 m1 hac l1 => by rw [checkF, decide_eq_false (by omega)]; rfl)
    · try simp only [nrm] at hc
      have hc2 := hc
      refine J.run [.n, .n, .n, .u, .n, .n, .n] [2, 3, 4, 5, 6, 7, 13] ⟨[(2, .v (.int .i64 ((N : Nat) : Int))), (3, .v (.int .i64 i)), (4, .v (.slice la ln lc)), (5, .v (.slice pa pn pc)), (6, .loc 0 0), (7, .loc 1 0), (13, .v (.slice none 0 0))], [⟨32, [.int .i64 bits]⟩, ⟨34, dcells root⟩]⟩ [.c 9, .c 10] [.c 14, .b 0, .c 29] (by kernel_rfl) ?_
      obtain ⟨i0, rfl⟩ : ∃ i0 : Nat, i = ((i0 : Nat) : Int) := ⟨i.toNat, by omega⟩
      refine J.loop (X := ChkSt) (fun x => ⟨[(2, .v (.int .i64 ((x.n : Nat) : Int))), (3, .v (.int .i64 ((x.i : Nat) : Int))), (4, .v (.slice la ln lc)), (5, .v (.slice pa pn pc)), (6, .loc 0 0), (7, .loc 1 0), (13, .v (.slice x.a x.m x.c))], [⟨32, [.int .i64 bits]⟩, ⟨34, dcells root⟩]⟩) (fun x A w => Nw W.heap.size 126 1 [b1, b2] A w x.a x.m x.c (x.done.flatMap encF) ∧ sides N i0 = x.done ++ sides x.n x.i ∧ x.i < x.n ∧ x.m + x.n ≤ N + 1 ∧ Sl 1 u8 A w la ln lc leaf ∧ Sl 32 dcells A w pa pn pc path) (fun x => x.n) [2, 3, 4, 5, 6, 7, 13] 2 [b1, b2] ⟨N, i0, none, 0, 0, []⟩ (by kernel_rfl) (by kernel_rfl) (by kernel_rfl) (fun w1 A1 m1 => ⟨Nw.nil _ _ _ _ _ _, rfl, by simp only; omega, by simp only; omega, hs.mv m1, hp.mv m1⟩) (fun x A1 w1 hI => ?_)
      obtain ⟨ho, hsd, hin, hmn, hs, hp⟩ := hI; have hml := (ho.any (fun x _ => rfl) (by decide)).len
      refine J.run [.n, .n, .n, .u, .u, .n] [2, 3, 4, 5, 6, 7, 13, 26] ⟨[(2, .v (.int .i64 ((x.n : Nat) : Int))), (3, .v (.int .i64 ((x.i : Nat) : Int))), (4, .v (.slice la ln lc)), (5, .v (.slice pa pn pc)), (6, .loc 0 0), (7, .loc 1 0), (13, .v (.slice x.a x.m x.c)), (26, .v (.bool (decide (((x.n : Nat) : Int) > 1))))], [⟨32, [.int .i64 bits]⟩, ⟨34, dcells root⟩]⟩ [.c 15] [.c 18, .c 21] (by kernel_rfl) ?_
      refine J.cond (b := (decide (((x.n : Nat) : Int) > 1))) (k' := 20) (by kernel_rfl) (fun hc => ?_) (fun hc => ?_)
      · try simp only [nrm] at hc
        have hc3 := hc
        refine J.run [.n, .n, .n, .n, .u] [2, 3, 4, 5, 6, 7, 13, 27] ⟨[(2, .v (.int .i64 ((x.n : Nat) : Int))), (3, .v (.int .i64 ((x.i : Nat) : Int))), (4, .v (.slice la ln lc)), (5, .v (.slice pa pn pc)), (6, .loc 0 0), (7, .loc 1 0), (13, .v (.slice x.a x.m x.c)), (27, .v (.int .i64 ((x.n : Nat) : Int)))], [⟨32, [.int .i64 bits]⟩, ⟨34, dcells root⟩]⟩ [.c 19, .c 21] [.o 23 1, .c 24, .b 1] (by kernel_rfl) ?_
        have hhh1 := half_lt2 x.n
        refine J.call (d := some 28) (by kernel_rfl) (fun w1 A1 m1 l1 => tree_half x.n (by omega) (by simp only [maxLen]; omega) nobody w1 noA) ?_
        rintro _ u1 w2 A2 rfl g1
        have m1 := g1.mv
        replace hs := hs.mv m1; replace hp := hp.mv m1; replace ho := ho.mv m1
        refine J.run [.u, .n, .n, .n, .u, .u, .u, .n] [2, 3, 4, 5, 6, 7, 13, 14, 31] ⟨[(2, .v (.int .i64 ((x.n : Nat) : Int))), (3, .v (.int .i64 ((x.i : Nat) : Int))), (4, .v (.slice la ln lc)), (5, .v (.slice pa pn pc)), (6, .loc 0 0), (7, .loc 1 0), (13, .v (.slice x.a x.m x.c)), (14, .v (.int .i64 ((half x.n : Nat) : Int))), (31, .v (.bool (decide (((x.i : Nat) : Int) < ((half x.n : Nat) : Int)))))], [⟨32, [.int .i64 bits]⟩, ⟨34, dcells root⟩]⟩ [.o 23 2, .c 24, .b 1] [.c 26, .b 1] (by kernel_rfl) ?_
        refine J.cond (b := (decide (((x.i : Nat) : Int) < ((half x.n : Nat) : Int)))) (k' := 28) (by kernel_rfl) (fun hc => ?_) (fun hc => ?_)
        · try simp only [nrm] at hc
          have hc4 := hc
          refine J.run [.n, .u] [3, 4, 5, 6, 7, 14, 32] ⟨[(3, .v (.int .i64 ((x.i : Nat) : Int))), (4, .v (.slice la ln lc)), (5, .v (.slice pa pn pc)), (6, .loc 0 0), (7, .loc 1 0), (14, .v (.int .i64 ((half x.n : Nat) : Int))), (32, .v (.slice x.a x.m x.c))], [⟨32, [.int .i64 bits]⟩, ⟨34, dcells root⟩]⟩ [.c 27, .b 1] [.o 27 1, .b 1] (by kernel_rfl) ?_
          refine J.new (T := 126) (cs := [.func (.func 46) #[] #[]]) (d := 33) (K := (.sl 1)) (by kernel_rfl) (fun b3 hb3 => ?_)
          replace ho := ho.more hb3
          refine J.append (e := 126) (sz := 1) (a := x.a) (nn := x.m) (c := x.c) (T := 125) (Tx := 125) (x := .slice (some ⟨b3, 0, none⟩) 1 1) (bytes := 8) (d := 34) (xs := x.done.flatMap encF) (news := [.func (.func 46) #[] #[]]) (m := 1) (by kernel_rfl) (by kernel_rfl) ho.own (.inr ho) (fun w1 A1 m1 l1 => l1.src (i := 2) rfl (e := 126) (by kernel_rfl) rfl rfl) (by simp only [maxLen]; omega) (by omega) ?_
          intro a1 c1 w3 A3 hn1 m2
          replace hs := hs.mv m2; replace hp := hp.mv m2
          replace hn1 := hn1.re (n' := x.m + 1) (ys := (x.done ++ [true]).flatMap encF) rfl (by first | (simp only [List.flatMap_append, dbytes_flat, byteCells_u8]; done) | (rw [List.flatMap_append]; rfl))
          have hx1 : IntKind.i64.wrap (((x.n : Nat) : Int) - ((half x.n : Nat) : Int)) = ((x.n - half x.n : Nat) : Int) := by rw [wrap_i64 (by omega) (by omega)]; omega
          refine J.run [.u, .u, .u, .n, .n] [2, 3, 4, 5, 6, 7, 13] ⟨[(2, .v (.int .i64 ((half x.n : Nat) : Int))), (3, .v (.int .i64 ((x.i : Nat) : Int))), (4, .v (.slice la ln lc)), (5, .v (.slice pa pn pc)), (6, .loc 0 0), (7, .loc 1 0), (13, .v (.slice a1 (x.m + 1) c1))], [⟨32, [.int .i64 bits]⟩, ⟨34, dcells root⟩, ⟨126, [.func (.func 46) #[] #[]]⟩]⟩ [.o 27 3, .b 1] [] (by kernel_rfl) ?_
          exact J.again ⟨half x.n, x.i, a1, (x.m + 1), c1, x.done ++ [true]⟩ [2, 3, 4, 5, 6, 7, 13] 2 (by simp only; omega) (by kernel_rfl) (by kernel_rfl) (fun w1 A1 m1 => ⟨(hn1.mv m1).fewer (by simp), by rw [hsd, sides_lo (by omega) (by omega)]; simp, by simp only; omega, by simp only; omega, hs.mv m1, hp.mv m1⟩)
        · try simp only [nrm] at hc
          have hc4 := hc
          refine J.run [.n, .u] [2, 3, 4, 5, 6, 7, 14, 36] ⟨[(2, .v (.int .i64 ((x.n : Nat) : Int))), (3, .v (.int .i64 ((x.i : Nat) : Int))), (4, .v (.slice la ln lc)), (5, .v (.slice pa pn pc)), (6, .loc 0 0), (7, .loc 1 0), (14, .v (.int .i64 ((half x.n : Nat) : Int))), (36, .v (.slice x.a x.m x.c))], [⟨32, [.int .i64 bits]⟩, ⟨34, dcells root⟩]⟩ [.c 28, .b 1] [.o 28 1, .b 1] (by kernel_rfl) ?_
          refine J.new (T := 126) (cs := [.func (.func 82) #[] #[]]) (d := 37) (K := (.sl 1)) (by kernel_rfl) (fun b4 hb4 => ?_)
          replace ho := ho.more hb4
          refine J.append (e := 126) (sz := 1) (a := x.a) (nn := x.m) (c := x.c) (T := 125) (Tx := 125) (x := .slice (some ⟨b4, 0, none⟩) 1 1) (bytes := 8) (d := 38) (xs := x.done.flatMap encF) (news := [.func (.func 82) #[] #[]]) (m := 1) (by kernel_rfl) (by kernel_rfl) ho.own (.inr ho) (fun w1 A1 m1 l1 => l1.src (i := 2) rfl (e := 126) (by kernel_rfl) rfl rfl) (by simp only [maxLen]; omega) (by omega) ?_
          intro a2 c2 w4 A4 hn2 m3
          replace hs := hs.mv m3; replace hp := hp.mv m3
          replace hn2 := hn2.re (n' := x.m + 1) (ys := (x.done ++ [false]).flatMap encF) rfl (by first | (simp only [List.flatMap_append, dbytes_flat, byteCells_u8]; done) | (rw [List.flatMap_append]; rfl))
          have hx1 : IntKind.i64.wrap (((x.n : Nat) : Int) - ((half x.n : Nat) : Int)) = ((x.n - half x.n : Nat) : Int) := by rw [wrap_i64 (by omega) (by omega)]; omega
          have hx2 : IntKind.i64.wrap (((x.i : Nat) : Int) - ((half x.n : Nat) : Int)) = ((x.i - half x.n : Nat) : Int) := by rw [wrap_i64 (by omega) (by omega)]; omega
          refine J.run [.u, .u, .u, .u, .u, .u, .u, .u, .u, .n, .n] [2, 3, 4, 5, 6, 7, 13] ⟨[(2, .v (.int .i64 (IntKind.i64.wrap (((x.n : Nat) : Int) - ((half x.n : Nat) : Int))))), (3, .v (.int .i64 (IntKind.i64.wrap (((x.i : Nat) : Int) - ((half x.n : Nat) : Int))))), (4, .v (.slice la ln lc)), (5, .v (.slice pa pn pc)), (6, .loc 0 0), (7, .loc 1 0), (13, .v (.slice a2 (x.m + 1) c2))], [⟨32, [.int .i64 bits]⟩, ⟨34, dcells root⟩, ⟨126, [.func (.func 82) #[] #[]]⟩]⟩ [.o 28 3, .b 1] [] (by kernel_rfl) ?_
          rw [hx1]
          rw [hx2]
          exact J.again ⟨x.n - half x.n, x.i - half x.n, a2, (x.m + 1), c2, x.done ++ [false]⟩ [2, 3, 4, 5, 6, 7, 13] 2 (by simp only; omega) (by kernel_rfl) (by kernel_rfl) (fun w1 A1 m1 => ⟨(hn2.mv m1).fewer (by simp), by rw [hsd, sides_hi (by omega) (by omega)]; simp, by simp only; omega, by simp only; omega, hs.mv m1, hp.mv m1⟩)
      · try simp only [nrm] at hc
        have hc3 := hc
        rw [sides_1 (n := x.n) (by omega), List.append_nil] at hsd
        refine J.exit (id := 0) (by kernel_rfl) (by rfl) ?_
        refine J.run [.n, .n, .n, .u, .u, .u, .u, .u, .n] [4, 5, 6, 7, 13, 49] ⟨[(4, .v (.slice la ln lc)), (5, .v (.slice pa pn pc)), (6, .loc 0 0), (7, .loc 1 0), (13, .v (.slice x.a x.m x.c)), (49, .v (.bool (((pn : Nat) : Int) != ((x.m : Nat) : Int))))], [⟨32, [.int .i64 bits]⟩, ⟨34, dcells root⟩]⟩ [.c 29] [.c 32, .c 37] (by kernel_rfl) ?_
        refine J.cond (b := (((pn : Nat) : Int) != ((x.m : Nat) : Int))) (k' := 36) (by kernel_rfl) (fun hc => ?_) (fun hc => ?_)
        · try simp only [nrm] at hc
          have hc5 := hc
          refine J.run [.n, .n, .u, .n] [12] ⟨[(12, .v (.bool false))], [⟨32, [.int .i64 bits]⟩, ⟨34, dcells root⟩]⟩ [.c 33, .c 37] [.c 35, .c 37] (by kernel_rfl) ?_
          refine J.ret (v := .bool false) (by kernel_rfl) (by kernel_rfl) (fun w1 A1 m1 hac l1 => by rw [checkF, Int.toNat_natCast, checkN, hsd, decide_eq_false (p := path.length = _) (by omega)]; simp)
        · try simp only [nrm] at hc
          have hc5 := hc
          refine J.run [.n, .n, .n, .u, .u] [5, 6, 7, 13, 50, 51] ⟨[(5, .v (.slice pa pn pc)), (6, .loc 0 0), (7, .loc 1 0), (13, .v (.slice x.a x.m x.c)), (50, .v (.agg [.int .i64 bits].toArray)), (51, .v (.slice la ln lc))], [⟨32, [.int .i64 bits]⟩, ⟨34, dcells root⟩]⟩ [.c 36, .c 37] [.o 38 2, .c 39] (by kernel_rfl) ?_
          refine J.call (d := some 52) (by kernel_rfl) (fun w1 A1 m1 l1 => leaf_calls bits la ln lc leaf (by omega) nobody w1 noA (hs.mv m1).any) ?_
          rintro _ u2 w5 A5 rfl g2
          have m4 := g2.mv
          replace hs := hs.mv m4; replace hp := hp.mv m4; replace ho := ho.mv m4
          refine J.new (T := 34) (cs := [.int .u8 0, .int .u8 0, .int .u8 0, .int .u8 0, .int .u8 0, .int .u8 0, .int .u8 0, .int .u8 0, .int .u8 0, .int .u8 0, .int .u8 0, .int .u8 0, .int .u8 0, .int .u8 0, .int .u8 0, .int .u8 0, .int .u8 0, .int .u8 0, .int .u8 0, .int .u8 0, .int .u8 0, .int .u8 0, .int .u8 0, .int .u8 0, .int .u8 0, .int .u8 0, .int .u8 0, .int .u8 0, .int .u8 0, .int .u8 0, .int .u8 0, .int .u8 0]) (d := 15) (K := .ptr) (by kernel_rfl) (fun b5 hb5 => ?_)
          replace ho := ho.more hb5
          refine J.run [.u, .n, .n, .n, .n, .u, .u, .u, .n, .n] [6, 7, 13, 15, 53, 54, 55] ⟨[(6, .loc 0 0), (7, .loc 1 0), (13, .v (.slice x.a x.m x.c)), (15, .loc 2 0), (53, .v (.slice pa pn pc)), (54, .v (.int .i64 ((pn : Nat) : Int))), (55, .v (.int .i64 0))], [⟨32, [.int .i64 bits]⟩, ⟨34, dcells root⟩, ⟨34, dcells (leafF bits leaf)⟩]⟩ [.o 38 4, .c 39] [.c 43, .b 2, .c 56] (by kernel_rfl) ?_
          refine J.loop (X := Nat) (fun j => ⟨[(6, .loc 0 0), (7, .loc 1 0), (13, .v (.slice x.a x.m x.c)), (15, .loc 2 0), (53, .v (.slice pa pn pc)), (54, .v (.int .i64 ((pn : Nat) : Int))), (55, .v (.int .i64 ((j : Nat) : Int)))], [⟨32, [.int .i64 bits]⟩, ⟨34, dcells root⟩, ⟨34, dcells (((x.done.reverse.zip path).take j).foldl (upF bits) (leafF bits leaf))⟩]⟩) (fun j A w => j ≤ pn ∧ Nw W.heap.size 126 1 [b1, b2, b5] A w x.a x.m x.c (x.done.flatMap encF) ∧ Sl 32 dcells A w pa pn pc path) (fun j => pn - j) [6, 7, 13, 15, 53, 54, 55] 3 [b1, b2, b5] 0 (by kernel_rfl) (by kernel_rfl) (by kernel_rfl) (fun w1 A1 m1 => ⟨Nat.zero_le _, ho.mv m1, hp.mv m1⟩) (fun j A6 w6 hI => ?_)
          obtain ⟨hj, ho, hp⟩ := hI
          have hz1 : j < pn → IntKind.i64.wrap (((x.m : Nat) : Int) - 1) = ((x.m - 1 : Nat) : Int) := fun h => by rw [wrap_i64 (by omega) (by omega)]; omega
          have hz2 : j < pn → IntKind.i64.wrap (((x.m - 1 : Nat) : Int) - ((j : Nat) : Int)) = ((x.m - 1 - j : Nat) : Int) := fun h => by rw [wrap_i64 (by omega) (by omega)]; omega
          refine J.run [.n, .n, .u, .n, .n] [6, 7, 13, 15, 53, 54, 55, 56] ⟨[(6, .loc 0 0), (7, .loc 1 0), (13, .v (.slice x.a x.m x.c)), (15, .loc 2 0), (53, .v (.slice pa pn pc)), (54, .v (.int .i64 ((pn : Nat) : Int))), (55, .v (.int .i64 ((j : Nat) : Int))), (56, .v (.bool (decide (((j : Nat) : Int) < ((pn : Nat) : Int)))))], [⟨32, [.int .i64 bits]⟩, ⟨34, dcells root⟩, ⟨34, dcells (((x.done.reverse.zip path).take j).foldl (upF bits) (leafF bits leaf))⟩]⟩ [.c 44] [.c 47, .c 50] (by kernel_rfl) ?_
          refine J.cond (b := (decide (((j : Nat) : Int) < ((pn : Nat) : Int)))) (k' := 49) (by kernel_rfl) (fun hc => ?_) (fun hc => ?_)
          · try simp only [nrm] at hc
            have hc6 := hc
            refine J.run [.n, .n, .n, .n, .n, .u] [6, 7, 13, 15, 53, 54, 55, 57] ⟨[(6, .loc 0 0), (7, .loc 1 0), (13, .v (.slice x.a x.m x.c)), (15, .loc 2 0), (53, .v (.slice pa pn pc)), (54, .v (.int .i64 ((pn : Nat) : Int))), (55, .v (.int .i64 ((j : Nat) : Int))), (57, .v (.int .i64 ((j : Nat) : Int)))], [⟨32, [.int .i64 bits]⟩, ⟨34, dcells root⟩, ⟨34, dcells (((x.done.reverse.zip path).take j).foldl (upF bits) (leafF bits leaf))⟩]⟩ [.c 48, .c 50] [.o 53 1, .c 54, .b 3, .c 55] (by kernel_rfl) ?_
            obtain ⟨p1, o1, rfl⟩ := hp.addr (by omega)
            refine J.idx (b := p1) (off := o1) (len := pn) (i := ((j : Nat) : Int)) (sz := 32) (d := 58) (by kernel_rfl) (by omega) (by omega) ?_
            obtain ⟨x1, hx1⟩ : ∃ zq, (path)[j]? = some zq := ⟨_, List.getElem?_eq_getElem (by omega)⟩
            refine J.ld (T := 34) (b := p1) (off := o1 + j * 32) (d := 59) (v := .agg (dcells x1).toArray) (by kernel_rfl) (fun w1 A1 m1 l1 => (hp.mv m1).ld (by kernel_rfl) hx1 (by kernel_rfl)) ?_
            refine J.new (T := 34) (cs := [.int .u8 0, .int .u8 0, .int .u8 0, .int .u8 0, .int .u8 0, .int .u8 0, .int .u8 0, .int .u8 0, .int .u8 0, .int .u8 0, .int .u8 0, .int .u8 0, .int .u8 0, .int .u8 0, .int .u8 0, .int .u8 0, .int .u8 0, .int .u8 0, .int .u8 0, .int .u8 0, .int .u8 0, .int .u8 0, .int .u8 0, .int .u8 0, .int .u8 0, .int .u8 0, .int .u8 0, .int .u8 0, .int .u8 0, .int .u8 0, .int .u8 0, .int .u8 0]) (d := 17) (K := .ptr) (by kernel_rfl) (fun b6 hb6 => ?_)
            replace ho := ho.more hb6
            refine J.run [.u, .u, .n] [6, 7, 13, 15, 16, 17, 53, 54, 55] ⟨[(6, .loc 0 0), (7, .loc 1 0), (13, .v (.slice x.a x.m x.c)), (15, .loc 2 0), (16, .v (.int .i64 ((j : Nat) : Int))), (17, .loc 3 0), (53, .v (.slice (some ⟨p1, o1, none⟩) pn pc)), (54, .v (.int .i64 ((pn : Nat) : Int))), (55, .v (.int .i64 ((j : Nat) : Int)))], [⟨32, [.int .i64 bits]⟩, ⟨34, dcells root⟩, ⟨34, dcells (((x.done.reverse.zip path).take j).foldl (upF bits) (leafF bits leaf))⟩, ⟨34, dcells x1⟩]⟩ [.o 53 4, .c 54, .b 3, .c 55] [.c 54, .b 3, .c 55] (by kernel_rfl) ?_
            refine J.draw [2] nobody (by kernel_rfl) (by kernel_rfl) (fun _ h => h.elim) (fun w7 A7 m5 hr1 hX1 => ?_)
            replace hp := hp.mv m5; replace ho := ho.mv m5
            refine J.take0 [(0, .u), (1, .u), (2, .u), (3, .u), (4, .u), (5, .u), (8, .u), (10, .u)] [6, 7, 13, 15, 53, 54, 55, 60, 65, 68, 70] [(6, .loc 0 0), (7, .loc 1 0), (13, .v (.slice x.a x.m x.c)), (15, .loc 2 0), (53, .v (.slice (some ⟨p1, o1, none⟩) pn pc)), (54, .v (.int .i64 ((pn : Nat) : Int))), (55, .v (.int .i64 ((j : Nat) : Int))), (60, .v (.slice x.a x.m x.c)), (65, .v (.int .i64 (IntKind.i64.wrap ((IntKind.i64.wrap (((x.m : Nat) : Int) - 1)) - ((j : Nat) : Int))))), (68, .v (.agg [.int .i64 bits].toArray)), (70, .v (.agg (dcells x1).toArray))] [10, 8, 5, 4, 3, 2, 1, 0] (calm_body _ _ _) (by intro k _ h; exact h) hr1 (by kernel_rfl) ?_
            rw [hz1 (by omega)]
            rw [hz2 (by omega)]
            obtain ⟨p2, o2, hae1⟩ := ho.addr (by omega)
            rw [hae1] at ho
            rw [hae1]
            refine J.idxp (j := 6) (b := p2) (off := o2) (len := x.m) (i := ((x.m - 1 - j : Nat) : Int)) (sz := 1) (d := 66) (calm_body _ _ _) (by kernel_rfl) (by kernel_rfl) (by omega) (by omega) ?_
            obtain ⟨x2, hx2⟩ : ∃ zq, (x.done)[x.m - 1 - j]? = some zq := ⟨_, List.getElem?_eq_getElem (by omega)⟩
            refine J.ldp (i := 7) (T := 126) (b := p2) (off := o2 + (x.m - 1 - j) * 1) (d := 67) (v := (fnOf x2)) (calm_body _ _ _) (by kernel_rfl) (by kernel_rfl) hX1 (fun w1 m1 => ((ho.mvD m1).any (fun x _ => rfl) (by decide)).ld1 (by kernel_rfl) hx2 (j := 0) rfl) ?_
            refine J.pick1 9 (by kernel_rfl) (by kernel_rfl) ?_
            refine J.ldq (T := 34) (b := b5) (off := 0) (d := 69) (v := .agg (dcells (((x.done.reverse.zip path).take j).foldl (upF bits) (leafF bits leaf))).toArray) (by kernel_rfl) (fun w1 A1 m1 l1 => l1.lda (i := 2) rfl (by kernel_rfl) (by kernel_rfl)) ?_
            refine J.pick1 11 (by kernel_rfl) (by kernel_rfl) ?_
            rcases Bool.eq_false_or_eq_true x2 with hcb | hcb
            · subst hcb
              refine J.callq (d := some 71) (by kernel_rfl) (fun w1 A1 m1 l1 => node_calls bits (((x.done.reverse.zip path).take j).foldl (upF bits) (leafF bits leaf)) x1 nobody w1 noA) ?_
              rintro _ u3 w8 A8 rfl g3
              have m6 := g3.mv
              replace hp := hp.mv m6; replace ho := ho.mv m6
              refine J.pick1 12 (by kernel_rfl) (by kernel_rfl) ?_
              refine J.storeq (i := 2) (m' := [⟨32, [.int .i64 bits]⟩, ⟨34, dcells root⟩, ⟨34, dcells (nodeF bits (((x.done.reverse.zip path).take j).foldl (upF bits) (leafF bits leaf)) x1)⟩, ⟨34, dcells x1⟩]) (by kernel_rfl) (by simp) rfl (by simp) ?_
              refine J.pdone (by kernel_rfl) ?_
              refine J.run [.n, .n, .u, .u, .n] [6, 7, 13, 15, 53, 54, 55] ⟨[(6, .loc 0 0), (7, .loc 1 0), (13, .v (.slice (some ⟨p2, o2, none⟩) x.m x.c)), (15, .loc 2 0), (53, .v (.slice (some ⟨p1, o1, none⟩) pn pc)), (54, .v (.int .i64 ((pn : Nat) : Int))), (55, .v (.int .i64 (IntKind.i64.wrap (((j : Nat) : Int) + 1))))], [⟨32, [.int .i64 bits]⟩, ⟨34, dcells root⟩, ⟨34, dcells (nodeF bits (((x.done.reverse.zip path).take j).foldl (upF bits) (leafF bits leaf)) x1)⟩, ⟨34, dcells x1⟩]⟩ [.b 3, .c 55] [] (by kernel_rfl) ?_
              have hw1 : IntKind.i64.wrap (((j : Nat) : Int) + 1) = ((j + 1 : Nat) : Int) := by rw [wrap_i64 (by omega) (by omega)]; try omega
              rw [hw1]
              have hst : (((x.done.reverse.zip path).take (j + 1)).foldl (upF bits) (leafF bits leaf)) = upF bits (((x.done.reverse.zip path).take j).foldl (upF bits) (leafF bits leaf)) (true, x1) := fold_step (by omega) (by rw [← hml]; exact hx2) hx1
              rw [show dcells (nodeF bits (((x.done.reverse.zip path).take j).foldl (upF bits) (leafF bits leaf)) x1) = dcells (((x.done.reverse.zip path).take (j + 1)).foldl (upF bits) (leafF bits leaf)) by rw [hst]; rfl]
              exact J.again (j + 1) [6, 7, 13, 15, 53, 54, 55] 3 (by omega) (by kernel_rfl) (by kernel_rfl) (fun w1 A1 m1 => ⟨by omega, (ho.mv m1).fewer (by simp), hp.mv m1⟩)
            · subst hcb
              refine J.callq (d := some 71) (by kernel_rfl) (fun w1 A1 m1 l1 => swapped_calls bits (((x.done.reverse.zip path).take j).foldl (upF bits) (leafF bits leaf)) x1 nobody w1 noA) ?_
              rintro _ u4 w9 A9 rfl g4
              have m7 := g4.mv
              replace hp := hp.mv m7; replace ho := ho.mv m7
              refine J.pick1 12 (by kernel_rfl) (by kernel_rfl) ?_
              refine J.storeq (i := 2) (m' := [⟨32, [.int .i64 bits]⟩, ⟨34, dcells root⟩, ⟨34, dcells (nodeF bits x1 (((x.done.reverse.zip path).take j).foldl (upF bits) (leafF bits leaf)))⟩, ⟨34, dcells x1⟩]) (by kernel_rfl) (by simp) rfl (by simp) ?_
              refine J.pdone (by kernel_rfl) ?_
              refine J.run [.n, .n, .u, .u, .n] [6, 7, 13, 15, 53, 54, 55] ⟨[(6, .loc 0 0), (7, .loc 1 0), (13, .v (.slice (some ⟨p2, o2, none⟩) x.m x.c)), (15, .loc 2 0), (53, .v (.slice (some ⟨p1, o1, none⟩) pn pc)), (54, .v (.int .i64 ((pn : Nat) : Int))), (55, .v (.int .i64 (IntKind.i64.wrap (((j : Nat) : Int) + 1))))], [⟨32, [.int .i64 bits]⟩, ⟨34, dcells root⟩, ⟨34, dcells (nodeF bits x1 (((x.done.reverse.zip path).take j).foldl (upF bits) (leafF bits leaf)))⟩, ⟨34, dcells x1⟩]⟩ [.b 3, .c 55] [] (by kernel_rfl) ?_
              have hw2 : IntKind.i64.wrap (((j : Nat) : Int) + 1) = ((j + 1 : Nat) : Int) := by rw [wrap_i64 (by omega) (by omega)]; try omega
              rw [hw2]
              have hst : (((x.done.reverse.zip path).take (j + 1)).foldl (upF bits) (leafF bits leaf)) = upF bits (((x.done.reverse.zip path).take j).foldl (upF bits) (leafF bits leaf)) (false, x1) := fold_step (by omega) (by rw [← hml]; exact hx2) hx1
              rw [show dcells (nodeF bits x1 (((x.done.reverse.zip path).take j).foldl (upF bits) (leafF bits leaf))) = dcells (((x.done.reverse.zip path).take (j + 1)).foldl (upF bits) (leafF bits leaf)) by rw [hst]; rfl]
              exact J.again (j + 1) [6, 7, 13, 15, 53, 54, 55] 3 (by omega) (by kernel_rfl) (by kernel_rfl) (fun w1 A1 m1 => ⟨by omega, (ho.mv m1).fewer (by simp), hp.mv m1⟩)
          · try simp only [nrm] at hc
            have hc6 := hc
            have hje : j = pn := by omega
            subst hje
            refine J.exit (id := 2) (by kernel_rfl) (by rfl) ?_
            refine J.run [.n, .n, .u, .u] [73, 74] ⟨[(73, .v (.agg (dcells (((x.done.reverse.zip path).take j).foldl (upF bits) (leafF bits leaf))).toArray)), (74, .v (.agg (dcells root).toArray))], [⟨32, [.int .i64 bits]⟩, ⟨34, dcells root⟩, ⟨34, dcells (((x.done.reverse.zip path).take j).foldl (upF bits) (leafF bits leaf))⟩]⟩ [.c 56] [.o 57 2, .c 58] (by kernel_rfl) ?_
            refine J.eqA (neg := false) (T := 34) (d := 75) (b := dgEq (((x.done.reverse.zip path).take j).foldl (upF bits) (leafF bits leaf)) root) (by kernel_rfl) dig_guard (dig_eq (((x.done.reverse.zip path).take j).foldl (upF bits) (leafF bits leaf)) root) ?_
            refine J.run [.u, .n] [12] ⟨[(12, .v (.bool (dgEq (((x.done.reverse.zip path).take j).foldl (upF bits) (leafF bits leaf)) root)))], [⟨32, [.int .i64 bits]⟩, ⟨34, dcells root⟩, ⟨34, dcells (((x.done.reverse.zip path).take j).foldl (upF bits) (leafF bits leaf))⟩]⟩ [.o 57 3, .c 58] [.c 58] (by kernel_rfl) ?_
            refine J.ret (v := .bool (dgEq (((x.done.reverse.zip path).take j).foldl (upF bits) (leafF bits leaf)) root)) (by kernel_rfl) (by kernel_rfl) (fun w1 A1 m1 hac l1 => by rw [checkF, Int.toNat_natCast, checkN, climb, hsd, List.take_of_length_le (by simp; omega), decide_eq_true (p := 0 ≤ _ ∧ _) (by omega), decide_eq_true (p := path.length = _) (by omega)]; rfl)
end Go.Proofs.Ytkgokehkobifkaa.J

/- Package table: Fit, Leaves; slices IndexFunc, ContainsFunc. -/
namespace Go.Proofs.Ytkgokehkobifkaa.J
open Go Go.RowKit

def firstI (p : Ent → Bool) (l : List Ent) : Int := match l.findIdx? p with
  | some i => ((i : Nat) : Int)
  | none => -1
theorem firstI_some {p : Ent → Bool} {l : List Ent} {i : Nat} {x : Ent} (hx : l[i]? = some x) (hp : p x = true) (hb : ∀ j y, j < i → l[j]? = some y → p y = false) : firstI p l = ((i : Nat) : Int) := by
  have hi := (List.getElem?_eq_some_iff.1 hx)
  have : l.findIdx? p = some i := by
    rw [List.findIdx?_eq_some_iff_getElem]
    obtain ⟨h1, h2⟩ := hi
    refine ⟨h1, by rw [h2]; exact hp, fun j hj => ?_⟩
    rw [hb j _ hj (List.getElem?_eq_getElem (by omega))]; decide
  simp [firstI, this]
theorem firstI_none {p : Ent → Bool} {l : List Ent} (hb : ∀ (j : Nat) (y : Ent), l[j]? = some y → p y = false) : firstI p l = -1 := by
  have : l.findIdx? p = none := by
    rw [List.findIdx?_eq_none_iff]
    intro y hy
    obtain ⟨j, hj⟩ := List.mem_iff_getElem?.1 hy
    rw [hb j y hj]
  simp [firstI, this]
theorem firstI_any (p : Ent → Bool) (l : List Ent) : (decide (firstI p l ≥ 0)) = l.any p := by
  unfold firstI
  cases h : l.findIdx? p with
  | none =>
    rw [List.findIdx?_eq_none_iff] at h
    symm
    simp only [List.any_eq_false]
    simpa using h
  | some i =>
    obtain ⟨h1, h2, _⟩ := List.findIdx?_eq_some_iff_getElem.1 h
    have : l.any p = true := List.any_eq_true.2 ⟨_, List.getElem_mem h1, h2⟩
    rw [this]; simp

/-- What Fit asks. -/
def FitL (l : List Ent) : Prop := 0 < l.length ∧ l.length ≤ 64 ∧ SortedL l ∧ ∀ e ∈ l, e.Right
instance (l : List Ent) : Decidable (FitL l) := by unfold FitL; exact inferInstance

def wrongB (e : Ent) : Bool := !decide e.Right
theorem wrong_any {l : List Ent} : l.any wrongB = false ↔ ∀ e ∈ l, e.Right := by
  simp [wrongB]

theorem fit1_calls (e : Ent) (Ac : Nat → Prop) (W : World) (hA : ∀ k, Ac k → k < W.heap.size) :
    Calls Pr 80 #[.agg (encE e).toArray] W (Ret nobody W fun v w => v = .bool (wrongB e)) := by
  refine J.enter (fn := Try.f80) (n := 6) Try.func80 (by kernel_rfl) (by kernel_rfl) (by kernel_rfl) hA ?_
  refine J.run [.n, .n] [0] ⟨[(0, .v (.agg (encE e).toArray))], []⟩ [.c 0] [.o 1 0, .c 2] (by kernel_rfl) ?_
  refine J.new (T := 42) (cs := encE e) (d := 1) (K := .ptr) (by kernel_rfl) (fun b1 hb1 => ?_)
  refine J.run [.u, .n, .n, .n, .u] [3] ⟨[(3, .v (.agg (encE e).toArray))], [⟨42, encE e⟩]⟩ [.o 1 1, .c 2] [.o 3 1, .c 4] (by kernel_rfl) ?_
  refine J.call (d := some 4) (by kernel_rfl) (fun w1 A1 m1 l1 => right_calls e nobody w1 noA) ?_
  rintro _ u1 w1 A1 rfl g1
  have m1 := g1.mv
  refine J.run [.u, .u, .n] [2] ⟨[(2, .v (.bool (!(decide e.Right))))], [⟨42, encE e⟩]⟩ [.o 3 2, .c 4] [.c 4] (by kernel_rfl) ?_
  refine J.ret (v := .bool (!(decide e.Right))) (by kernel_rfl) (by kernel_rfl) (fun w1 A1 m1 hac l1 => rfl)
theorem indexFunc_Fit (a : Option Addr) (n c : Nat) (l : List Ent) (Ac : Nat → Prop) (W : World) (hA : ∀ k, Ac k → k < W.heap.size) (hs : Sl 4 encE Ac W a n c l) :
    Calls Pr 89 #[.slice a n c, (.func (.func 80) #[] #[])] W (Ret nobody W fun v w => v = .int .i64 (firstI wrongB l)) := by
  refine J.enter (fn := Try.f89) (n := 19) Try.func89 (by kernel_rfl) (by kernel_rfl) (by kernel_rfl) hA ?_
  have hlen := hs.len; have hle := hs.le; have hcap := hs.cap; simp only [maxLen] at hcap
  refine J.run [.n, .n, .u, .n, .n, .n, .n, .u, .u, .u, .n, .n] [0, 1, 7, 8] ⟨[(0, .v (.slice a n c)), (1, .v ((.func (.func 80) #[] #[]))), (7, .v (.int .i64 ((n : Nat) : Int))), (8, .v (.int .i64 0))], []⟩ [.c 0] [.c 6, .b 0, .c 25] (by kernel_rfl) ?_
  refine J.loop (X := Nat) (fun i => ⟨[(0, .v (.slice a n c)), (1, .v ((.func (.func 80) #[] #[]))), (7, .v (.int .i64 ((n : Nat) : Int))), (8, .v (.int .i64 ((i : Nat) : Int)))], []⟩) (fun i A w => i ≤ n ∧ Sl 4 encE A w a n c l ∧ ∀ j y, j < i → l[j]? = some y → wrongB y = false) (fun i => n - i) [0, 1, 7, 8] 0 [] 0 (by kernel_rfl) (by kernel_rfl) (by kernel_rfl) (fun w1 A1 m1 => ⟨Nat.zero_le _, hs.mv m1, fun j _ h => absurd h (Nat.not_lt_zero _)⟩) (fun i A1 w1 hI => ?_)
  obtain ⟨hi, hs, hb⟩ := hI
  refine J.run [.n, .n, .u, .n, .n] [0, 1, 7, 8, 9] ⟨[(0, .v (.slice a n c)), (1, .v ((.func (.func 80) #[] #[]))), (7, .v (.int .i64 ((n : Nat) : Int))), (8, .v (.int .i64 ((i : Nat) : Int))), (9, .v (.bool (decide (((i : Nat) : Int) < ((n : Nat) : Int)))))], []⟩ [.c 7] [.c 10, .c 13] (by kernel_rfl) ?_
  refine J.cond (b := (decide (((i : Nat) : Int) < ((n : Nat) : Int)))) (k' := 12) (by kernel_rfl) (fun hc => ?_) (fun hc => ?_)
  · try simp only [nrm] at hc
    have hc1 := hc
    refine J.run [.n, .n, .n, .n, .n, .u, .u, .n, .n, .n, .u, .u, .u] [0, 1, 5, 7, 8, 11, 12, 13] ⟨[(0, .v (.slice a n c)), (1, .v ((.func (.func 80) #[] #[]))), (5, .v (.int .i64 ((i : Nat) : Int))), (7, .v (.int .i64 ((n : Nat) : Int))), (8, .v (.int .i64 ((i : Nat) : Int))), (11, .v ((.func (.func 80) #[] #[]))), (12, .v (.slice a n c)), (13, .v (.int .i64 ((i : Nat) : Int)))], []⟩ [.c 11, .c 13] [.o 18 3, .c 19, .b 1, .c 24] (by kernel_rfl) ?_
    obtain ⟨p1, o1, rfl⟩ := hs.addr (by omega)
    refine J.idx (b := p1) (off := o1) (len := n) (i := ((i : Nat) : Int)) (sz := 4) (d := 14) (by kernel_rfl) (by omega) (by omega) ?_
    obtain ⟨x1, hx1⟩ : ∃ zq, (l)[i]? = some zq := ⟨_, List.getElem?_eq_getElem (by omega)⟩
    refine J.ld (T := 42) (b := p1) (off := o1 + i * 4) (d := 15) (v := .agg (encE x1).toArray) (by kernel_rfl) (fun w1 A1 m1 l1 => (hs.mv m1).ld (by kernel_rfl) hx1 (by kernel_rfl)) ?_
    refine J.call (d := some 16) (by kernel_rfl) (fun w1 A1 m1 l1 => fit1_calls x1 nobody w1 noA) ?_
    rintro _ u1 w2 A2 rfl g1
    have m1 := g1.mv
    replace hs := hs.mv m1
    refine J.run [.n] [0, 1, 5, 7, 8, 16] ⟨[(0, .v (.slice (some ⟨p1, o1, none⟩) n c)), (1, .v ((.func (.func 80) #[] #[]))), (5, .v (.int .i64 ((i : Nat) : Int))), (7, .v (.int .i64 ((n : Nat) : Int))), (8, .v (.int .i64 ((i : Nat) : Int))), (16, .v (.bool (wrongB x1)))], []⟩ [.o 18 6, .c 19, .b 1, .c 24] [.c 19, .b 1, .c 24] (by kernel_rfl) ?_
    refine J.cond (b := (wrongB x1)) (k' := 23) (by kernel_rfl) (fun hc => ?_) (fun hc => ?_)
    · try simp only [nrm] at hc
      have hc2 := hc
      refine J.run [.n, .n, .u, .u, .n] [4] ⟨[(4, .v (.int .i64 ((i : Nat) : Int)))], []⟩ [.c 20, .b 1, .c 24] [.c 22, .b 1, .c 24] (by kernel_rfl) ?_
      refine J.ret (v := .int .i64 ((i : Nat) : Int)) (by kernel_rfl) (by kernel_rfl) (fun w1 A1 m1 hac l1 => by rw [firstI_some hx1 hc2 hb])
    · try simp only [nrm] at hc
      have hc2 := hc
      refine J.run [.n, .n, .n, .u, .u, .n] [0, 1, 7, 8] ⟨[(0, .v (.slice (some ⟨p1, o1, none⟩) n c)), (1, .v ((.func (.func 80) #[] #[]))), (7, .v (.int .i64 ((n : Nat) : Int))), (8, .v (.int .i64 (IntKind.i64.wrap (((i : Nat) : Int) + 1))))], []⟩ [.c 23, .b 1, .c 24] [] (by kernel_rfl) ?_
      have hw1 : IntKind.i64.wrap (((i : Nat) : Int) + 1) = ((i + 1 : Nat) : Int) := by rw [wrap_i64 (by omega) (by omega)]; try omega
      rw [hw1]
      exact J.again (i + 1) [0, 1, 7, 8] 0 (by omega) (by kernel_rfl) (by kernel_rfl) (fun w1 A1 m1 => ⟨by omega, hs.mv m1, fun j y hj hy => by rcases Nat.lt_succ_iff_lt_or_eq.1 hj with h | rfl; exact hb j y h hy; rw [hx1] at hy; cases hy; exact hc2⟩)
  · try simp only [nrm] at hc
    have hc1 := hc
    refine J.exit (id := 0) (by kernel_rfl) (by rfl) ?_
    refine J.run [.n, .n, .u, .n] [4] ⟨[(4, .v (.int .i64 (-1)))], []⟩ [.c 25] [.c 27] (by kernel_rfl) ?_
    refine J.ret (v := .int .i64 (-1)) (by kernel_rfl) (by kernel_rfl) (fun w1 A1 m1 hac l1 => by rw [firstI_none fun j y hy => hb j y (by have := (List.getElem?_eq_some_iff.1 hy).1; omega) hy])
theorem containsFunc_Fit (a : Option Addr) (n c : Nat) (l : List Ent) (Ac : Nat → Prop) (W : World) (hA : ∀ k, Ac k → k < W.heap.size) (hs : Sl 4 encE Ac W a n c l) :
    Calls Pr 79 #[.slice a n c, (.func (.func 80) #[] #[])] W (Ret nobody W fun v w => v = .bool (l.any wrongB)) := by
  refine J.enter (fn := Try.f79) (n := 9) Try.func79 (by kernel_rfl) (by kernel_rfl) (by kernel_rfl) hA ?_
  refine J.run [.n, .n, .u, .n, .n, .n, .u, .u] [5, 6] ⟨[(5, .v (.slice a n c)), (6, .v ((.func (.func 80) #[] #[])))], []⟩ [.c 0] [.o 3 2, .c 4] (by kernel_rfl) ?_
  refine J.call (d := some 7) (by kernel_rfl) (fun w1 A1 m1 l1 => indexFunc_Fit a n c l nobody w1 noA (hs.mv m1).any) ?_
  rintro _ u1 w1 A1 rfl g1
  have m1 := g1.mv
  replace hs := hs.mv m1
  refine J.run [.u, .u, .n] [4] ⟨[(4, .v (.bool (decide ((firstI wrongB l) ≥ 0))))], []⟩ [.o 3 3, .c 4] [.c 4] (by kernel_rfl) ?_
  refine J.ret (v := .bool (decide ((firstI wrongB l) ≥ 0))) (by kernel_rfl) (by kernel_rfl) (fun w1 A1 m1 hac l1 => by rw [← firstI_any wrongB l])
theorem fit_calls (a : Option Addr) (n c : Nat) (l : List Ent) (Ac : Nat → Prop) (W : World) (hA : ∀ k, Ac k → k < W.heap.size) (hs : Sl 4 encE Ac W a n c l) :
    Calls Pr 33 #[.slice a n c] W (Ret nobody W fun v w => v = .bool (decide (FitL l))) := by
  refine J.enter (fn := Try.f33) (n := 20) Try.func33 (by kernel_rfl) (by kernel_rfl) (by kernel_rfl) hA ?_
  have hlen := hs.len
  refine J.run [.n, .n, .u, .n, .n, .n, .u, .u, .u, .u] [0, 6] ⟨[(0, .v (.slice a n c)), (6, .v (.bool (decide (((n : Nat) : Int) > 0))))], []⟩ [.c 0] [.o 3 4, .c 4] (by kernel_rfl) ?_
  rcases Bool.eq_false_or_eq_true (decide (((n : Nat) : Int) > 0)) with hc | hc
  · rw [hc]
    try simp only [nrm] at hc
    have hc1 := hc
    refine J.run [.w, .w, .w, .u, .u] [0, 11] ⟨[(0, .v (.slice a n c)), (11, .v (.bool (decide (((n : Nat) : Int) ≤ 64))))], []⟩ [.o 3 4, .c 4] [.o 3 9, .c 4] (by kernel_rfl) ?_
    rcases Bool.eq_false_or_eq_true (decide (((n : Nat) : Int) ≤ 64)) with hc | hc
    · rw [hc]
      try simp only [nrm] at hc
      have hc2 := hc
      refine J.run [.w] [0, 11, 12] ⟨[(0, .v (.slice a n c)), (11, .v (.bool true)), (12, .v (.slice a n c))], []⟩ [.o 3 9, .c 4] [.o 3 10, .c 4] (by kernel_rfl) ?_
      refine J.call (d := some 13) (by kernel_rfl) (fun w1 A1 m1 l1 => sorted_calls a n c l nobody w1 noA (hs.mv m1).any) ?_
      rintro _ u1 w1 A1 rfl g1
      have m1 := g1.mv
      replace hs := hs.mv m1
      refine J.run [.u, .u] [0, 15] ⟨[(0, .v (.slice a n c)), (15, .v (.bool (decide (SortedL l))))], []⟩ [.o 3 11, .c 4] [.o 3 13, .c 4] (by kernel_rfl) ?_
      rcases Bool.eq_false_or_eq_true (decide (SortedL l)) with hc | hc
      · rw [hc]
        try simp only [nrm] at hc
        have hc3 := hc
        refine J.run [.w] [15, 16] ⟨[(15, .v (.bool true)), (16, .v (.slice a n c))], []⟩ [.o 3 13, .c 4] [.o 3 14, .c 4] (by kernel_rfl) ?_
        refine J.call (d := some 17) (by kernel_rfl) (fun w1 A1 m1 l1 => containsFunc_Fit a n c l nobody w1 noA (hs.mv m1).any) ?_
        rintro _ u2 w2 A2 rfl g2
        have m2 := g2.mv
        replace hs := hs.mv m2
        refine J.run [.w, .u, .u, .n] [2] ⟨[(2, .v (.bool (!(l.any wrongB))))], []⟩ [.o 3 15, .c 4] [.c 4] (by kernel_rfl) ?_
        rcases Bool.eq_false_or_eq_true (!(l.any wrongB)) with hc | hc
        · rw [hc]
          try simp only [nrm] at hc
          have hce := hc
          have hwa := wrong_any (l := l)
          refine J.ret (v := .bool true) (by kernel_rfl) (by kernel_rfl) (fun w1 A1 m1 hac l1 => congrArg Value.bool (by exact (decide_eq_true ⟨by omega, by omega, by assumption, hwa.1 (by simpa using hce)⟩).symm))
        · rw [hc]
          try simp only [nrm] at hc
          have hce := hc
          have hwa := wrong_any (l := l)
          refine J.ret (v := .bool false) (by kernel_rfl) (by kernel_rfl) (fun w1 A1 m1 hac l1 => congrArg Value.bool (by refine (decide_eq_false ?_).symm; rintro ⟨f1, f2, f3, f4⟩; first | omega | contradiction | (have := hwa.2 f4; simp_all)))
      · rw [hc]
        try simp only [nrm] at hc
        have hc3 := hc
        refine J.run [.x, .x, .x, .u, .u, .n] [2] ⟨[(2, .v (.bool false))], []⟩ [.o 3 13, .c 4] [.c 4] (by kernel_rfl) ?_
        have hwa := wrong_any (l := l)
        refine J.ret (v := .bool false) (by kernel_rfl) (by kernel_rfl) (fun w1 A1 m1 hac l1 => congrArg Value.bool (by refine (decide_eq_false ?_).symm; rintro ⟨f1, f2, f3, f4⟩; first | omega | contradiction | (have := hwa.2 f4; simp_all)))
    · rw [hc]
      try simp only [nrm] at hc
      have hc2 := hc
      refine J.run [.x, .x, .u, .u, .x, .x, .x, .u, .u, .n] [2] ⟨[(2, .v (.bool false))], []⟩ [.o 3 9, .c 4] [.c 4] (by kernel_rfl) ?_
      have hwa := wrong_any (l := l)
      refine J.ret (v := .bool false) (by kernel_rfl) (by kernel_rfl) (fun w1 A1 m1 hac l1 => congrArg Value.bool (by refine (decide_eq_false ?_).symm; rintro ⟨f1, f2, f3, f4⟩; first | omega | contradiction | (have := hwa.2 f4; simp_all)))
  · rw [hc]
    try simp only [nrm] at hc
    have hc1 := hc
    refine J.run [.x, .x, .x, .u, .u, .x, .x, .u, .u, .x, .x, .x, .u, .u, .n] [2] ⟨[(2, .v (.bool false))], []⟩ [.o 3 4, .c 4] [.c 4] (by kernel_rfl) ?_
    have hwa := wrong_any (l := l)
    refine J.ret (v := .bool false) (by kernel_rfl) (by kernel_rfl) (fun w1 A1 m1 hac l1 => congrArg Value.bool (by refine (decide_eq_false ?_).symm; rintro ⟨f1, f2, f3, f4⟩; first | omega | contradiction | (have := hwa.2 f4; simp_all)))
end Go.Proofs.Ytkgokehkobifkaa.J

/- Package table: Leaves, Describe. -/
namespace Go.Proofs.Ytkgokehkobifkaa.J
open Go Go.RowKit

theorem Sl.mvB {α : Type} {k N : Nat} {enc : α → List Value} {A A1 X : Nat → Prop} {w w1 : World} {a : Option Addr} {n c : Nat} {l : List α} (h : Sl k enc (fun q => A q ∨ q < N) w a n c l) (m : Mv X A A1 w w1) : Sl k enc (fun q => A1 q ∨ q < N) w1 a n c l := by
  have h1 := (h.weaken (A1 := A) fun _ => .inl).mv m
  refine ⟨h1.len, h1.le, h1.cap, fun hne => ?_⟩
  obtain ⟨b, o, e1, e2, e3, e4⟩ := h.at_ hne
  obtain ⟨b', o', f1, f2, f3, f4⟩ := h1.at_ hne
  rw [e1] at f1; cases f1
  exact ⟨b, o, e1, fun q => q.elim f2 (fun e => e2 (.inr e)), f3, f4⟩

/-- Slices that are all new, read. -/
def RowsIn (N : Nat) (A : Nat → Prop) (w : World) (vs : List SlV) (ls : List (List UInt8)) : Prop :=
  vs.length = ls.length ∧ ∀ (i : Nat) (v : SlV) (l : List UInt8), vs[i]? = some v → ls[i]? = some l → Sl 1 u8 (fun k => A k ∨ k < N) w v.1 v.2.1 v.2.2 l
theorem RowsIn.nil (N : Nat) (A : Nat → Prop) (w : World) : RowsIn N A w [] [] := ⟨rfl, fun i v l h _ => by simp at h⟩
theorem RowsIn.mv {N : Nat} {A A1 X : Nat → Prop} {w w1 : World} {vs : List SlV} {ls : List (List UInt8)} (h : RowsIn N A w vs ls) (m : Mv X A A1 w w1) : RowsIn N A1 w1 vs ls :=
  ⟨h.1, fun i v l hv hl => (h.2 i v l hv hl).mvB m⟩
theorem RowsIn.snoc {N : Nat} {A : Nat → Prop} {w : World} {vs : List SlV} {ls : List (List UInt8)} (h : RowsIn N A w vs ls) {v : SlV} {l : List UInt8} (hr : Sl 1 u8 (fun k => A k ∨ k < N) w v.1 v.2.1 v.2.2 l) : RowsIn N A w (vs ++ [v]) (ls ++ [l]) := by
  refine ⟨by simp [h.1], fun i v' l' hv hl => ?_⟩
  rcases Nat.lt_or_ge i vs.length with hi | hi
  · rw [List.getElem?_append_left hi] at hv
    rw [List.getElem?_append_left (by rw [← h.1]; exact hi)] at hl
    exact h.2 i v' l' hv hl
  · rw [List.getElem?_append_right hi] at hv
    rw [List.getElem?_append_right (by rw [← h.1]; exact hi)] at hl
    have h0 : i - vs.length = 0 := by
      have := (List.getElem?_eq_some_iff.1 hv).1
      simp at this; omega
    rw [← h.1] at hl
    rw [h0] at hv hl
    simp at hv hl
    subst hv; subst hl; exact hr
/-- Made here, and read by whoever has got it. -/
def RowsNew (N : Nat) (w : World) (a : Option Addr) (n c : Nat) (ls : List (List UInt8)) : Prop := ∀ A : Nat → Prop, (∀ k, A k → k < N) → Rows A w a n c ls
theorem RowsIn.new {N : Nat} {ρ : List Nat} {A : Nat → Prop} {w : World} {vs : List SlV} {ls : List (List UInt8)} (h : RowsIn N A w vs ls) {a : Option Addr} {n c : Nat} (ho : Nw N 23 1 ρ A w a n c (vs.flatMap encSl)) : RowsNew N w a n c ls := fun A' hA' =>
  ⟨vs, ho.sl (fun x _ => rfl) (by decide) hA', h.1, fun i v l hv hl => (h.2 i v l hv hl).weaken fun k hk => .inr (hA' k hk)⟩
theorem encSl_flat (x : SlV) : [x].flatMap encSl = encSl x := by simp

theorem entB_len (e : Ent) : (entB e).length ≤ 10000 := by
  unfold entB
  split
  · rename_i h
    obtain ⟨r1, r2, r3, r4, r5, r6⟩ := h
    have h1 := putN_len e.seq.toNat (by omega)
    have h2 := putText_len e.key (by simp only [maxLen]; omega)
    have h3 := putText_len e.value (by simp only [maxLen]; omega)
    split <;> simp only [List.length_append, List.length_cons, List.length_nil] <;> omega
  · simp
theorem short_ents (l : List Ent) : Short (l.map entB) := by
  intro x hx
  obtain ⟨e, _, rfl⟩ := List.mem_map.1 hx
  have := entB_len e; omega

structure LvSt where
  i : Nat
  a : Option Addr
  c : Nat
  vs : List SlV

theorem leaves_calls (a : Option Addr) (n c : Nat) (l : List Ent) (hn : n ≤ 1000000) (Ac : Nat → Prop) (W : World) (hA : ∀ k, Ac k → k < W.heap.size) (hs : Sl 4 encE Ac W a n c l) :
    Calls Pr 14 #[.slice a n c] W (Ret nobody W fun v w => ∃ a' c', v = .slice a' n c' ∧ RowsNew W.heap.size w a' n c' (l.map entB)) := by
  refine J.enter (fn := Try.f14) (n := 19) Try.func14 (by kernel_rfl) (by kernel_rfl) (by kernel_rfl) hA ?_
  have hlen := hs.len; have hle := hs.le; have hcap := hs.cap; simp only [maxLen] at hcap
  refine J.run [.n, .n, .u, .n, .n, .n, .u, .n, .n, .n, .n, .u, .u, .u, .n, .n] [3, 6, 7, 8] ⟨[(3, .v (.slice none 0 0)), (6, .v (.slice a n c)), (7, .v (.int .i64 ((n : Nat) : Int))), (8, .v (.int .i64 0))], []⟩ [.c 0] [.c 8, .b 0, .c 21] (by kernel_rfl) ?_
  refine J.loop (X := LvSt) (fun x => ⟨[(3, .v (.slice x.a x.i x.c)), (6, .v (.slice a n c)), (7, .v (.int .i64 ((n : Nat) : Int))), (8, .v (.int .i64 ((x.i : Nat) : Int)))], []⟩) (fun x A w => x.i ≤ n ∧ Sl 4 encE A w a n c l ∧ Nw W.heap.size 23 1 [] A w x.a x.i x.c (x.vs.flatMap encSl) ∧ RowsIn W.heap.size A w x.vs ((l.take x.i).map entB)) (fun x => n - x.i) [3, 6, 7, 8] 0 [] ⟨0, none, 0, []⟩ (by kernel_rfl) (by kernel_rfl) (by kernel_rfl) (fun w1 A1 m1 => ⟨Nat.zero_le _, hs.mv m1, Nw.nil _ _ _ _ _ _, RowsIn.nil _ _ _⟩) (fun x A1 w1 hI => ?_)
  obtain ⟨hi, hs, ho, hri⟩ := hI
  refine J.run [.n, .n, .u, .n, .n] [3, 6, 7, 8, 9] ⟨[(3, .v (.slice x.a x.i x.c)), (6, .v (.slice a n c)), (7, .v (.int .i64 ((n : Nat) : Int))), (8, .v (.int .i64 ((x.i : Nat) : Int))), (9, .v (.bool (decide (((x.i : Nat) : Int) < ((n : Nat) : Int)))))], []⟩ [.c 9] [.c 12, .c 15] (by kernel_rfl) ?_
  refine J.cond (b := (decide (((x.i : Nat) : Int) < ((n : Nat) : Int)))) (k' := 14) (by kernel_rfl) (fun hc => ?_) (fun hc => ?_)
  · try simp only [nrm] at hc
    have hc1 := hc
    refine J.run [.n, .n, .n, .n, .n] [3, 6, 7, 8] ⟨[(3, .v (.slice x.a x.i x.c)), (6, .v (.slice a n c)), (7, .v (.int .i64 ((n : Nat) : Int))), (8, .v (.int .i64 ((x.i : Nat) : Int)))], []⟩ [.c 13, .c 15] [.o 18 0, .c 19, .b 1, .c 20] (by kernel_rfl) ?_
    obtain ⟨p1, o1, rfl⟩ := hs.addr (by omega)
    refine J.idx (b := p1) (off := o1) (len := n) (i := ((x.i : Nat) : Int)) (sz := 4) (d := 10) (by kernel_rfl) (by omega) (by omega) ?_
    obtain ⟨x1, hx1⟩ : ∃ zq, (l)[x.i]? = some zq := ⟨_, List.getElem?_eq_getElem (by omega)⟩
    refine J.ld (T := 42) (b := p1) (off := o1 + x.i * 4) (d := 11) (v := .agg (encE x1).toArray) (by kernel_rfl) (fun w1 A1 m1 l1 => (hs.mv m1).ld (by kernel_rfl) hx1 (by kernel_rfl)) ?_
    refine J.new (T := 42) (cs := [.string (⟨#[]⟩ : Str), .string (⟨#[]⟩ : Str), .bool false, .int .i64 0]) (d := 5) (K := .ptr) (by kernel_rfl) (fun b1 hb1 => ?_)
    replace ho := ho.more hb1
    refine J.run [.u, .n, .n, .u, .u] [6, 7, 8, 12, 13] ⟨[(6, .v (.slice (some ⟨p1, o1, none⟩) n c)), (7, .v (.int .i64 ((n : Nat) : Int))), (8, .v (.int .i64 ((x.i : Nat) : Int))), (12, .v (.slice x.a x.i x.c)), (13, .v (.agg (encE x1).toArray))], [⟨42, encE x1⟩]⟩ [.o 18 3, .c 19, .b 1, .c 20] [.o 19 2, .b 1, .c 20] (by kernel_rfl) ?_
    refine J.call (d := some 14) (by kernel_rfl) (fun w1 A1 m1 l1 => bytes_calls x1 nobody w1 noA) ?_
    rintro _ u1 w2 A2 ⟨a1, n1, c1, rfl, hnl1, hn1⟩ g1
    have m1 := g1.mv
    replace hs := hs.mv m1; replace hri := hri.mv m1; replace ho := ho.mv m1
    have hrow : Sl 1 u8 (fun k => A2 k ∨ k < W.heap.size) w2 a1 n1 c1 (entB x1) := hn1.sl (fun x _ => u8_len x) (by decide) (fun k hk => hk.elim (g1.bd k) (fun h => Nat.lt_of_lt_of_le h g1.big))
    refine J.new (T := 23) (cs := [.slice a1 n1 c1]) (d := 15) (K := (.sl 1)) (by kernel_rfl) (fun b2 hb2 => ?_)
    replace ho := ho.more hb2
    have hri2 := hri.snoc (v := (a1, n1, c1)) hrow
    refine J.append (e := 23) (sz := 1) (a := x.a) (nn := x.i) (c := x.c) (T := 47) (Tx := 47) (x := .slice (some ⟨b2, 0, none⟩) 1 1) (bytes := 24) (d := 16) (xs := x.vs.flatMap encSl) (news := [.slice a1 n1 c1]) (m := 1) (by kernel_rfl) (by kernel_rfl) ho.own (.inr ho) (fun w1 A1 m1 l1 => l1.src (i := 1) rfl (e := 23) (by kernel_rfl) rfl rfl) (by simp only [maxLen]; omega) (by omega) ?_
    intro a2 c2 w3 A3 hn2 m2
    replace hs := hs.mv m2; replace hri2 := hri2.mv m2
    replace hn2 := hn2.re (n' := x.i + 1) (ys := (x.vs ++ [(a1, n1, c1)]).flatMap encSl) rfl (by first | (simp only [List.flatMap_append, dbytes_flat, byteCells_u8]; done) | (rw [List.flatMap_append]; rfl))
    refine J.run [.u, .n, .n, .n, .u, .u, .n] [3, 6, 7, 8] ⟨[(3, .v (.slice a2 (x.i + 1) c2)), (6, .v (.slice (some ⟨p1, o1, none⟩) n c)), (7, .v (.int .i64 ((n : Nat) : Int))), (8, .v (.int .i64 (IntKind.i64.wrap (((x.i : Nat) : Int) + 1))))], [⟨42, encE x1⟩, ⟨23, [.slice a1 n1 c1]⟩]⟩ [.o 19 5, .b 1, .c 20] [] (by kernel_rfl) ?_
    have hw1 : IntKind.i64.wrap (((x.i : Nat) : Int) + 1) = ((x.i + 1 : Nat) : Int) := by rw [wrap_i64 (by omega) (by omega)]; try omega
    rw [hw1]
    have htk : (l.take x.i).map entB ++ [entB x1] = (l.take (x.i + 1)).map entB := by rw [take_snoc hx1, List.map_append]; rfl
    rw [htk] at hri2
    exact J.again ⟨x.i + 1, a2, c2, x.vs ++ [(a1, n1, c1)]⟩ [3, 6, 7, 8] 0 (by simp only; omega) (by kernel_rfl) (by kernel_rfl) (fun w1 A1 m1 => ⟨by simp only; omega, hs.mv m1, (hn2.mv m1).fewer (by simp), hri2.mv m1⟩)
  · try simp only [nrm] at hc
    have hc1 := hc
    have hin : x.i = n := by omega
    rw [hin] at ho hri; rw [hin]; rw [List.take_of_length_le (by omega)] at hri
    refine J.exit (id := 0) (by kernel_rfl) (by rfl) ?_
    refine J.run [.n, .n, .u, .u, .n] [2] ⟨[(2, .v (.slice x.a n x.c))], []⟩ [.c 21] [.c 23] (by kernel_rfl) ?_
    refine J.ret (v := .slice x.a n x.c) (by kernel_rfl) (by kernel_rfl) (fun w1 A1 m1 hac l1 => ⟨_, _, rfl, (hri.mv m1).new (ho.mv m1)⟩)
end Go.Proofs.Ytkgokehkobifkaa.J

/- Package table: Describe. -/
namespace Go.Proofs.Ytkgokehkobifkaa.J
open Go Go.RowKit

def firstK (l : List Ent) : Str := (l.getD 0 ent0).key
def lastK (l : List Ent) : Str := (l.getD (l.length - 1) ent0).key
def descF (bits level : Int) (l : List Ent) : Tab × Int :=
  if FitL l ∧ 0 ≤ level ∧ level < 4 then (⟨level, ((l.length : Nat) : Int), rootF bits (l.map entB), firstK l, lastK l⟩, 0) else (tab0, 1)
theorem descF_yes {bits level : Int} {l : List Ent} (h1 : FitL l) (h2 : 0 ≤ level) (h3 : level < 4) : descF bits level l = (⟨level, ((l.length : Nat) : Int), rootF bits (l.map entB), firstK l, lastK l⟩, 0) := if_pos ⟨h1, h2, h3⟩
theorem descF_no {bits level : Int} {l : List Ent} (h : ¬ (FitL l ∧ 0 ≤ level ∧ level < 4)) : descF bits level l = (tab0, 1) := if_neg h
theorem firstK_eq {l : List Ent} {x : Ent} (h : l[0]? = some x) : firstK l = x.key := by simp [firstK, List.getD, h]
theorem lastK_eq {l : List Ent} {x : Ent} (h : l[l.length - 1]? = some x) : lastK l = x.key := by simp [lastK, List.getD, h]

theorem describe_calls (bits level : Int) (a : Option Addr) (n c : Nat) (l : List Ent) (Ac : Nat → Prop) (W : World) (hA : ∀ k, Ac k → k < W.heap.size) (hs : Sl 4 encE Ac W a n c l) :
    Calls Pr 10 #[.agg [.int .i64 bits].toArray, .int .i64 level, .slice a n c] W (Ret nobody W fun v w => v = .tuple #[.agg (encT (descF bits level l).1).toArray, .int .i64 (descF bits level l).2]) := by
  refine J.enter (fn := Try.f10) (n := 39) Try.func10 (by kernel_rfl) (by kernel_rfl) (by kernel_rfl) hA ?_
  have hlen := hs.len; have hle := hs.le; have hcap := hs.cap; simp only [maxLen] at hcap
  refine J.run [.n, .n] [0, 1, 2] ⟨[(0, .v (.agg [.int .i64 bits].toArray)), (1, .v (.int .i64 level)), (2, .v (.slice a n c))], []⟩ [.c 0] [.o 1 0, .c 2] (by kernel_rfl) ?_
  refine J.new (T := 32) (cs := [.int .i64 bits]) (d := 3) (K := .ptr) (by kernel_rfl) (fun b1 hb1 => ?_)
  refine J.new (T := 36) (cs := [.int .i64 0, .int .i64 0, .int .u8 0, .int .u8 0, .int .u8 0, .int .u8 0, .int .u8 0, .int .u8 0, .int .u8 0, .int .u8 0, .int .u8 0, .int .u8 0, .int .u8 0, .int .u8 0, .int .u8 0, .int .u8 0, .int .u8 0, .int .u8 0, .int .u8 0, .int .u8 0, .int .u8 0, .int .u8 0, .int .u8 0, .int .u8 0, .int .u8 0, .int .u8 0, .int .u8 0, .int .u8 0, .int .u8 0, .int .u8 0, .int .u8 0, .int .u8 0, .int .u8 0, .int .u8 0, .string (⟨#[]⟩ : Str), .string (⟨#[]⟩ : Str)]) (d := 6) (K := .ptr) (by kernel_rfl) (fun b2 hb2 => ?_)
  refine J.run [.u, .n, .n, .n, .n, .u] [1, 2, 3, 6, 8] ⟨[(1, .v (.int .i64 level)), (2, .v (.slice a n c)), (3, .loc 0 0), (6, .loc 1 0), (8, .v (.slice a n c))], [⟨32, [.int .i64 bits]⟩, ⟨36, (encT tab0)⟩]⟩ [.o 1 2, .c 2] [.o 4 1, .c 5, .c 10] (by kernel_rfl) ?_
  refine J.call (d := some 9) (by kernel_rfl) (fun w1 A1 m1 l1 => fit_calls a n c l nobody w1 noA (hs.mv m1).any) ?_
  rintro _ u1 w1 A1 rfl g1
  have m1 := g1.mv
  replace hs := hs.mv m1
  refine J.run [.u, .u] [1, 2, 3, 6, 11] ⟨[(1, .v (.int .i64 level)), (2, .v (.slice a n c)), (3, .loc 0 0), (6, .loc 1 0), (11, .v (.bool (!(decide (FitL l)))))], [⟨32, [.int .i64 bits]⟩, ⟨36, (encT tab0)⟩]⟩ [.o 4 2, .c 5, .c 10] [.o 4 4, .c 5, .c 10] (by kernel_rfl) ?_
  rcases Bool.eq_false_or_eq_true (!(decide (FitL l))) with hc | hc
  · rw [hc]
    try simp only [nrm] at hc
    have hc1 := hc
    refine J.run [.x, .x, .u, .u, .x, .x, .u, .n] [1, 2, 3, 6, 18] ⟨[(1, .v (.int .i64 level)), (2, .v (.slice a n c)), (3, .loc 0 0), (6, .loc 1 0), (18, .v (.bool true))], [⟨32, [.int .i64 bits]⟩, ⟨36, (encT tab0)⟩]⟩ [.o 4 4, .c 5, .c 10] [.c 5, .c 10] (by kernel_rfl) ?_
    refine J.cond (b := true) (k' := 9) (by kernel_rfl) (fun _ => ?_) (fun hc => absurd hc (by decide))
    refine J.run [.n, .n, .u, .u, .u, .n] [6, 7] ⟨[(6, .loc 1 0), (7, .v (.int .i64 1))], [⟨32, [.int .i64 bits]⟩, ⟨36, (encT tab0)⟩]⟩ [.c 6, .c 10] [.c 8, .c 10] (by kernel_rfl) ?_
    refine J.ret (v := .tuple #[.agg [.int .i64 0, .int .i64 0, .int .u8 0, .int .u8 0, .int .u8 0, .int .u8 0, .int .u8 0, .int .u8 0, .int .u8 0, .int .u8 0, .int .u8 0, .int .u8 0, .int .u8 0, .int .u8 0, .int .u8 0, .int .u8 0, .int .u8 0, .int .u8 0, .int .u8 0, .int .u8 0, .int .u8 0, .int .u8 0, .int .u8 0, .int .u8 0, .int .u8 0, .int .u8 0, .int .u8 0, .int .u8 0, .int .u8 0, .int .u8 0, .int .u8 0, .int .u8 0, .int .u8 0, .int .u8 0, .string (⟨#[]⟩ : Str), .string (⟨#[]⟩ : Str)].toArray, .int .i64 1]) (by kernel_rfl) (by kernel_rfl) (fun w1 A1 m1 hac l1 => by rw [descF_no (by rintro ⟨h1, h2, h3⟩; first | omega | contradiction)]; rfl)
  · rw [hc]
    try simp only [nrm] at hc
    have hc1 := hc
    refine J.run [.w, .w, .u, .u] [1, 2, 3, 6, 15] ⟨[(1, .v (.int .i64 level)), (2, .v (.slice a n c)), (3, .loc 0 0), (6, .loc 1 0), (15, .v (.bool (decide (level < 0))))], [⟨32, [.int .i64 bits]⟩, ⟨36, (encT tab0)⟩]⟩ [.o 4 4, .c 5, .c 10] [.o 4 8, .c 5, .c 10] (by kernel_rfl) ?_
    rcases Bool.eq_false_or_eq_true (decide (level < 0)) with hc | hc
    · rw [hc]
      try simp only [nrm] at hc
      have hc2 := hc
      refine J.run [.x, .x, .u, .n] [1, 2, 3, 6, 18] ⟨[(1, .v (.int .i64 level)), (2, .v (.slice a n c)), (3, .loc 0 0), (6, .loc 1 0), (18, .v (.bool true))], [⟨32, [.int .i64 bits]⟩, ⟨36, (encT tab0)⟩]⟩ [.o 4 8, .c 5, .c 10] [.c 5, .c 10] (by kernel_rfl) ?_
      refine J.cond (b := true) (k' := 9) (by kernel_rfl) (fun _ => ?_) (fun hc => absurd hc (by decide))
      refine J.run [.n, .n, .u, .u, .u, .n] [6, 7] ⟨[(6, .loc 1 0), (7, .v (.int .i64 1))], [⟨32, [.int .i64 bits]⟩, ⟨36, (encT tab0)⟩]⟩ [.c 6, .c 10] [.c 8, .c 10] (by kernel_rfl) ?_
      refine J.ret (v := .tuple #[.agg [.int .i64 0, .int .i64 0, .int .u8 0, .int .u8 0, .int .u8 0, .int .u8 0, .int .u8 0, .int .u8 0, .int .u8 0, .int .u8 0, .int .u8 0, .int .u8 0, .int .u8 0, .int .u8 0, .int .u8 0, .int .u8 0, .int .u8 0, .int .u8 0, .int .u8 0, .int .u8 0, .int .u8 0, .int .u8 0, .int .u8 0, .int .u8 0, .int .u8 0, .int .u8 0, .int .u8 0, .int .u8 0, .int .u8 0, .int .u8 0, .int .u8 0, .int .u8 0, .int .u8 0, .int .u8 0, .string (⟨#[]⟩ : Str), .string (⟨#[]⟩ : Str)].toArray, .int .i64 1]) (by kernel_rfl) (by kernel_rfl) (fun w1 A1 m1 hac l1 => by rw [descF_no (by rintro ⟨h1, h2, h3⟩; first | omega | contradiction)]; rfl)
    · rw [hc]
      try simp only [nrm] at hc
      have hc2 := hc
      refine J.run [.w, .w, .u, .n] [1, 2, 3, 6, 18] ⟨[(1, .v (.int .i64 level)), (2, .v (.slice a n c)), (3, .loc 0 0), (6, .loc 1 0), (18, .v (.bool (decide (level ≥ 4))))], [⟨32, [.int .i64 bits]⟩, ⟨36, (encT tab0)⟩]⟩ [.o 4 8, .c 5, .c 10] [.c 5, .c 10] (by kernel_rfl) ?_
      refine J.cond (b := (decide (level ≥ 4))) (k' := 9) (by kernel_rfl) (fun hc => ?_) (fun hc => ?_)
      · try simp only [nrm] at hc
        have hc3 := hc
        refine J.run [.n, .n, .u, .u, .u, .n] [6, 7] ⟨[(6, .loc 1 0), (7, .v (.int .i64 1))], [⟨32, [.int .i64 bits]⟩, ⟨36, (encT tab0)⟩]⟩ [.c 6, .c 10] [.c 8, .c 10] (by kernel_rfl) ?_
        refine J.ret (v := .tuple #[.agg [.int .i64 0, .int .i64 0, .int .u8 0, .int .u8 0, .int .u8 0, .int .u8 0, .int .u8 0, .int .u8 0, .int .u8 0, .int .u8 0, .int .u8 0, .int .u8 0, .int .u8 0, .int .u8 0, .int .u8 0, .int .u8 0, .int .u8 0, .int .u8 0, .int .u8 0, .int .u8 0, .int .u8 0, .int .u8 0, .int .u8 0, .int .u8 0, .int .u8 0, .int .u8 0, .int .u8 0, .int .u8 0, .int .u8 0, .int .u8 0, .int .u8 0, .int .u8 0, .int .u8 0, .int .u8 0, .string (⟨#[]⟩ : Str), .string (⟨#[]⟩ : Str)].toArray, .int .i64 1]) (by kernel_rfl) (by kernel_rfl) (fun w1 A1 m1 hac l1 => by rw [descF_no (by rintro ⟨h1, h2, h3⟩; first | omega | contradiction)]; rfl)
      · try simp only [nrm] at hc
        have hc3 := hc
        refine J.run [.n, .n] [1, 2, 3, 6] ⟨[(1, .v (.int .i64 level)), (2, .v (.slice a n c)), (3, .loc 0 0), (6, .loc 1 0)], [⟨32, [.int .i64 bits]⟩, ⟨36, (encT tab0)⟩]⟩ [.c 9, .c 10] [.c 11, .c 12] (by kernel_rfl) ?_
        have hF : FitL l := hc1
        obtain ⟨f1, f2, f3, f4⟩ := id hF
        have hmx : IntKind.i64.wrap (((n : Nat) : Int) - 1) = ((n - 1 : Nat) : Int) := by rw [wrap_i64 (by omega) (by omega)]; omega
        refine J.draw [1] nobody (by kernel_rfl) (by kernel_rfl) (fun _ h => h.elim) (fun w2 A2 m2 hr1 hX1 => ?_)
        replace hs := hs.mv m2
        refine J.take0 [(0, .u), (1, .u), (2, .u), (3, .u), (4, .u), (7, .u), (11, .u), (12, .u), (13, .u), (14, .u)] [6, 20, 22, 23, 24, 27, 31, 34] [(6, .loc 1 0), (20, .v (.int .i64 level)), (22, .v (.int .i64 ((n : Nat) : Int))), (23, .v (.agg [.int .i64 bits].toArray)), (24, .v (.slice a n c)), (27, .v (.slice a n c)), (31, .v (.slice a n c)), (34, .v (.int .i64 (IntKind.i64.wrap (((n : Nat) : Int) - 1))))] [14, 13, 12, 11, 7, 4, 3, 2, 1, 0] (calm_body _ _ _) (by intro k _ h; exact h) hr1 (by kernel_rfl) ?_
        rw [hmx]
        obtain ⟨p1, o1, rfl⟩ := hs.addr (by omega)
        refine J.idxp (j := 8) (b := p1) (off := o1) (len := n) (i := 0) (sz := 4) (d := 28) (calm_body _ _ _) (by kernel_rfl) (by kernel_rfl) (by omega) (by omega) ?_
        refine J.take0 [(9, .u)] [6, 20, 22, 23, 24, 29, 31, 34] [(6, .loc 1 0), (20, .v (.int .i64 level)), (22, .v (.int .i64 ((n : Nat) : Int))), (23, .v (.agg [.int .i64 bits].toArray)), (24, .v (.slice (some ⟨p1, o1, none⟩) n c)), (29, .v (.pointer (some ⟨p1, o1 + 0 * 4, none⟩))), (31, .v (.slice (some ⟨p1, o1, none⟩) n c)), (34, .v (.int .i64 ((n - 1 : Nat) : Int)))] [9, 8, 14, 13, 12, 11, 7, 4, 3, 2, 1, 0] (calm_body _ _ _) (by intro k _ h; exact h) hr1 (by kernel_rfl) ?_
        obtain ⟨x1, hx1⟩ : ∃ zq, (l)[0]? = some zq := ⟨_, List.getElem?_eq_getElem (by omega)⟩
        refine J.ldp (i := 10) (T := 9) (b := p1) (off := o1 + 0 * 4) (d := 30) (v := .string x1.key) (calm_body _ _ _) (by kernel_rfl) (by kernel_rfl) hX1 (fun w1 m1 => (hs.mv m1).ld1 (by kernel_rfl) hx1 (j := 0) rfl) ?_
        refine J.idxp (j := 15) (b := p1) (off := o1) (len := n) (i := ((n - 1 : Nat) : Int)) (sz := 4) (d := 35) (calm_body _ _ _) (by kernel_rfl) (by kernel_rfl) (by omega) (by omega) ?_
        refine J.take0 [(16, .u)] [6, 20, 22, 23, 24, 30, 36] [(6, .loc 1 0), (20, .v (.int .i64 level)), (22, .v (.int .i64 ((n : Nat) : Int))), (23, .v (.agg [.int .i64 bits].toArray)), (24, .v (.slice (some ⟨p1, o1, none⟩) n c)), (30, .v (.string x1.key)), (36, .v (.pointer (some ⟨p1, o1 + (n - 1) * 4, none⟩)))] [16, 15, 10, 9, 8, 14, 13, 12, 11, 7, 4, 3, 2, 1, 0] (calm_body _ _ _) (by intro k _ h; exact h) hr1 (by kernel_rfl) ?_
        obtain ⟨x2, hx2⟩ : ∃ zq, (l)[n - 1]? = some zq := ⟨_, List.getElem?_eq_getElem (by omega)⟩
        refine J.ldp (i := 17) (T := 9) (b := p1) (off := o1 + (n - 1) * 4) (d := 37) (v := .string x2.key) (calm_body _ _ _) (by kernel_rfl) (by kernel_rfl) hX1 (fun w1 m1 => (hs.mv m1).ld1 (by kernel_rfl) hx2 (j := 0) rfl) ?_
        refine J.pick1 5 (by kernel_rfl) (by kernel_rfl) ?_
        refine J.callq (d := some 25) (by kernel_rfl) (fun w1 A1 m1 l1 => leaves_calls (some ⟨p1, o1, none⟩) n c l (by omega) nobody w1 noA (hs.mv m1).any) ?_
        rintro _ u2 w3 A3 ⟨a1, c1, rfl, hrn1⟩ g2
        have m3 := g2.mv
        replace hs := hs.mv m3
        have hr2 : Rows A3 w3 a1 n c1 (l.map entB) := hrn1 A3 g2.bd
        refine J.pick1 6 (by kernel_rfl) (by kernel_rfl) ?_
        refine J.callq (d := some 26) (by kernel_rfl) (fun w1 A1 m1 l1 => root_calls bits _ a1 n c1 (l.map entB) (Nat.lt_succ_self _) (short_ents _) (by simp; omega) nobody w1 noA (hr2.mv m1).any) ?_
        rintro _ u3 w4 A4 rfl g3
        have m4 := g3.mv
        replace hs := hs.mv m4; replace hr2 := hr2.mv m4
        refine J.take1 [(18, .u)] [6, 38] [(6, .loc 1 0), (38, .v (.agg [.int .i64 level, .int .i64 ((n : Nat) : Int), .int .u8 ((((rootF bits (l.map entB)) 0).toNat : Nat) : Int), .int .u8 ((((rootF bits (l.map entB)) 1).toNat : Nat) : Int), .int .u8 ((((rootF bits (l.map entB)) 2).toNat : Nat) : Int), .int .u8 ((((rootF bits (l.map entB)) 3).toNat : Nat) : Int), .int .u8 ((((rootF bits (l.map entB)) 4).toNat : Nat) : Int), .int .u8 ((((rootF bits (l.map entB)) 5).toNat : Nat) : Int), .int .u8 ((((rootF bits (l.map entB)) 6).toNat : Nat) : Int), .int .u8 ((((rootF bits (l.map entB)) 7).toNat : Nat) : Int), .int .u8 ((((rootF bits (l.map entB)) 8).toNat : Nat) : Int), .int .u8 ((((rootF bits (l.map entB)) 9).toNat : Nat) : Int), .int .u8 ((((rootF bits (l.map entB)) 10).toNat : Nat) : Int), .int .u8 ((((rootF bits (l.map entB)) 11).toNat : Nat) : Int), .int .u8 ((((rootF bits (l.map entB)) 12).toNat : Nat) : Int), .int .u8 ((((rootF bits (l.map entB)) 13).toNat : Nat) : Int), .int .u8 ((((rootF bits (l.map entB)) 14).toNat : Nat) : Int), .int .u8 ((((rootF bits (l.map entB)) 15).toNat : Nat) : Int), .int .u8 ((((rootF bits (l.map entB)) 16).toNat : Nat) : Int), .int .u8 ((((rootF bits (l.map entB)) 17).toNat : Nat) : Int), .int .u8 ((((rootF bits (l.map entB)) 18).toNat : Nat) : Int), .int .u8 ((((rootF bits (l.map entB)) 19).toNat : Nat) : Int), .int .u8 ((((rootF bits (l.map entB)) 20).toNat : Nat) : Int), .int .u8 ((((rootF bits (l.map entB)) 21).toNat : Nat) : Int), .int .u8 ((((rootF bits (l.map entB)) 22).toNat : Nat) : Int), .int .u8 ((((rootF bits (l.map entB)) 23).toNat : Nat) : Int), .int .u8 ((((rootF bits (l.map entB)) 24).toNat : Nat) : Int), .int .u8 ((((rootF bits (l.map entB)) 25).toNat : Nat) : Int), .int .u8 ((((rootF bits (l.map entB)) 26).toNat : Nat) : Int), .int .u8 ((((rootF bits (l.map entB)) 27).toNat : Nat) : Int), .int .u8 ((((rootF bits (l.map entB)) 28).toNat : Nat) : Int), .int .u8 ((((rootF bits (l.map entB)) 29).toNat : Nat) : Int), .int .u8 ((((rootF bits (l.map entB)) 30).toNat : Nat) : Int), .int .u8 ((((rootF bits (l.map entB)) 31).toNat : Nat) : Int), .string x1.key, .string x2.key].toArray))] [18, 6, 5, 17, 16, 15, 10, 9, 8, 14, 13, 12, 11, 7, 4, 3, 2, 1, 0] (calm_body _ _ _) (by kernel_rfl) ?_
        refine J.pick1 19 (by kernel_rfl) (by kernel_rfl) ?_
        refine J.storeq (i := 1) (m' := [⟨32, [.int .i64 bits]⟩, ⟨36, [.int .i64 level, .int .i64 ((n : Nat) : Int), .int .u8 ((((rootF bits (l.map entB)) 0).toNat : Nat) : Int), .int .u8 ((((rootF bits (l.map entB)) 1).toNat : Nat) : Int), .int .u8 ((((rootF bits (l.map entB)) 2).toNat : Nat) : Int), .int .u8 ((((rootF bits (l.map entB)) 3).toNat : Nat) : Int), .int .u8 ((((rootF bits (l.map entB)) 4).toNat : Nat) : Int), .int .u8 ((((rootF bits (l.map entB)) 5).toNat : Nat) : Int), .int .u8 ((((rootF bits (l.map entB)) 6).toNat : Nat) : Int), .int .u8 ((((rootF bits (l.map entB)) 7).toNat : Nat) : Int), .int .u8 ((((rootF bits (l.map entB)) 8).toNat : Nat) : Int), .int .u8 ((((rootF bits (l.map entB)) 9).toNat : Nat) : Int), .int .u8 ((((rootF bits (l.map entB)) 10).toNat : Nat) : Int), .int .u8 ((((rootF bits (l.map entB)) 11).toNat : Nat) : Int), .int .u8 ((((rootF bits (l.map entB)) 12).toNat : Nat) : Int), .int .u8 ((((rootF bits (l.map entB)) 13).toNat : Nat) : Int), .int .u8 ((((rootF bits (l.map entB)) 14).toNat : Nat) : Int), .int .u8 ((((rootF bits (l.map entB)) 15).toNat : Nat) : Int), .int .u8 ((((rootF bits (l.map entB)) 16).toNat : Nat) : Int), .int .u8 ((((rootF bits (l.map entB)) 17).toNat : Nat) : Int), .int .u8 ((((rootF bits (l.map entB)) 18).toNat : Nat) : Int), .int .u8 ((((rootF bits (l.map entB)) 19).toNat : Nat) : Int), .int .u8 ((((rootF bits (l.map entB)) 20).toNat : Nat) : Int), .int .u8 ((((rootF bits (l.map entB)) 21).toNat : Nat) : Int), .int .u8 ((((rootF bits (l.map entB)) 22).toNat : Nat) : Int), .int .u8 ((((rootF bits (l.map entB)) 23).toNat : Nat) : Int), .int .u8 ((((rootF bits (l.map entB)) 24).toNat : Nat) : Int), .int .u8 ((((rootF bits (l.map entB)) 25).toNat : Nat) : Int), .int .u8 ((((rootF bits (l.map entB)) 26).toNat : Nat) : Int), .int .u8 ((((rootF bits (l.map entB)) 27).toNat : Nat) : Int), .int .u8 ((((rootF bits (l.map entB)) 28).toNat : Nat) : Int), .int .u8 ((((rootF bits (l.map entB)) 29).toNat : Nat) : Int), .int .u8 ((((rootF bits (l.map entB)) 30).toNat : Nat) : Int), .int .u8 ((((rootF bits (l.map entB)) 31).toNat : Nat) : Int), .string x1.key, .string x2.key]⟩]) (by kernel_rfl) (by simp) rfl (by simp) ?_
        refine J.take1 [(20, .u)] [6, 7] [(6, .loc 1 0), (7, .v (.int .i64 0))] [20, 19, 18, 6, 5, 17, 16, 15, 10, 9, 8, 14, 13, 12, 11, 7, 4, 3, 2, 1, 0] (calm_body _ _ _) (by kernel_rfl) ?_
        refine J.pdone (by kernel_rfl) ?_
        rw [hlen] at hx2
        refine J.ret (v := .tuple #[.agg [.int .i64 level, .int .i64 ((n : Nat) : Int), .int .u8 ((((rootF bits (l.map entB)) 0).toNat : Nat) : Int), .int .u8 ((((rootF bits (l.map entB)) 1).toNat : Nat) : Int), .int .u8 ((((rootF bits (l.map entB)) 2).toNat : Nat) : Int), .int .u8 ((((rootF bits (l.map entB)) 3).toNat : Nat) : Int), .int .u8 ((((rootF bits (l.map entB)) 4).toNat : Nat) : Int), .int .u8 ((((rootF bits (l.map entB)) 5).toNat : Nat) : Int), .int .u8 ((((rootF bits (l.map entB)) 6).toNat : Nat) : Int), .int .u8 ((((rootF bits (l.map entB)) 7).toNat : Nat) : Int), .int .u8 ((((rootF bits (l.map entB)) 8).toNat : Nat) : Int), .int .u8 ((((rootF bits (l.map entB)) 9).toNat : Nat) : Int), .int .u8 ((((rootF bits (l.map entB)) 10).toNat : Nat) : Int), .int .u8 ((((rootF bits (l.map entB)) 11).toNat : Nat) : Int), .int .u8 ((((rootF bits (l.map entB)) 12).toNat : Nat) : Int), .int .u8 ((((rootF bits (l.map entB)) 13).toNat : Nat) : Int), .int .u8 ((((rootF bits (l.map entB)) 14).toNat : Nat) : Int), .int .u8 ((((rootF bits (l.map entB)) 15).toNat : Nat) : Int), .int .u8 ((((rootF bits (l.map entB)) 16).toNat : Nat) : Int), .int .u8 ((((rootF bits (l.map entB)) 17).toNat : Nat) : Int), .int .u8 ((((rootF bits (l.map entB)) 18).toNat : Nat) : Int), .int .u8 ((((rootF bits (l.map entB)) 19).toNat : Nat) : Int), .int .u8 ((((rootF bits (l.map entB)) 20).toNat : Nat) : Int), .int .u8 ((((rootF bits (l.map entB)) 21).toNat : Nat) : Int), .int .u8 ((((rootF bits (l.map entB)) 22).toNat : Nat) : Int), .int .u8 ((((rootF bits (l.map entB)) 23).toNat : Nat) : Int), .int .u8 ((((rootF bits (l.map entB)) 24).toNat : Nat) : Int), .int .u8 ((((rootF bits (l.map entB)) 25).toNat : Nat) : Int), .int .u8 ((((rootF bits (l.map entB)) 26).toNat : Nat) : Int), .int .u8 ((((rootF bits (l.map entB)) 27).toNat : Nat) : Int), .int .u8 ((((rootF bits (l.map entB)) 28).toNat : Nat) : Int), .int .u8 ((((rootF bits (l.map entB)) 29).toNat : Nat) : Int), .int .u8 ((((rootF bits (l.map entB)) 30).toNat : Nat) : Int), .int .u8 ((((rootF bits (l.map entB)) 31).toNat : Nat) : Int), .string x1.key, .string x2.key].toArray, .int .i64 0]) (by kernel_rfl) (by kernel_rfl) (fun w1 A1 m1 hac l1 => by rw [descF_yes hF (by omega) (by omega), firstK_eq hx1, lastK_eq hx2, hlen]; rfl)
end Go.Proofs.Ytkgokehkobifkaa.J

/- Package seek: Covers, below, Overlaps. -/
namespace Go.Proofs.Ytkgokehkobifkaa.J
open Go Go.RowKit

def coversF (x : Tab) (k : Str) : Bool := sle x.first k && sle k x.last
def belowF (k hi : Str) : Bool := seq hi ⟨#[]⟩ || slt k hi
def overF (x : Tab) (lo hi : Str) : Bool := belowF lo hi && (!slt x.last lo) && belowF x.first hi

theorem covers_calls (x : Tab) (k : Str) (Ac : Nat → Prop) (W : World) (hA : ∀ k, Ac k → k < W.heap.size) :
    Calls Pr 26 #[.agg (encT x).toArray, .string k] W (Ret nobody W fun v w => v = .bool (coversF x k)) := by
  refine J.enter (fn := Try.f26) (n := 15) Try.func26 (by kernel_rfl) (by kernel_rfl) (by kernel_rfl) hA ?_
  refine J.run [.n, .n] [0, 1] ⟨[(0, .v (.agg (encT x).toArray)), (1, .v (.string k))], []⟩ [.c 0] [.o 1 0, .c 2] (by kernel_rfl) ?_
  refine J.new (T := 36) (cs := encT x) (d := 2) (K := .ptr) (by kernel_rfl) (fun b1 hb1 => ?_)
  refine J.run [.u, .n, .n, .n, .u, .u, .u, .u, .u] [1, 2, 9] ⟨[(1, .v (.string k)), (2, .loc 0 0), (9, .v (.bool (sle x.first k)))], [⟨36, encT x⟩]⟩ [.o 1 1, .c 2] [.o 3 5, .c 4] (by kernel_rfl) ?_
  rcases Bool.eq_false_or_eq_true (sle x.first k) with hc | hc
  · rw [hc]
    try simp only [nrm] at hc
    have hc1 := hc
    refine J.run [.w, .w, .w, .w, .u, .u, .n] [4] ⟨[(4, .v (.bool (sle k x.last)))], [⟨36, encT x⟩]⟩ [.o 3 5, .c 4] [.c 4] (by kernel_rfl) ?_
    refine J.ret (v := .bool (sle k x.last)) (by kernel_rfl) (by kernel_rfl) (fun w1 A1 m1 hac l1 => congrArg Value.bool (by simp_all [coversF]))
  · rw [hc]
    try simp only [nrm] at hc
    have hc1 := hc
    refine J.run [.x, .x, .x, .x, .u, .u, .n] [4] ⟨[(4, .v (.bool false))], [⟨36, encT x⟩]⟩ [.o 3 5, .c 4] [.c 4] (by kernel_rfl) ?_
    refine J.ret (v := .bool false) (by kernel_rfl) (by kernel_rfl) (fun w1 A1 m1 hac l1 => congrArg Value.bool (by simp_all [coversF]))
theorem below_calls (k hi : Str) (Ac : Nat → Prop) (W : World) (hA : ∀ k, Ac k → k < W.heap.size) :
    Calls Pr 53 #[.string k, .string hi] W (Ret nobody W fun v w => v = .bool (belowF k hi)) := by
  refine J.enter (fn := Try.f53) (n := 12) Try.func53 (by kernel_rfl) (by kernel_rfl) (by kernel_rfl) hA ?_
  refine J.run [.n, .n, .u, .n, .n, .n, .u, .u, .u] [0, 1, 7] ⟨[(0, .v (.string k)), (1, .v (.string hi)), (7, .v (.bool ((seq hi (⟨#[]⟩ : Str)))))], []⟩ [.c 0] [.o 3 3, .c 4] (by kernel_rfl) ?_
  rcases Bool.eq_false_or_eq_true ((seq hi (⟨#[]⟩ : Str))) with hc | hc
  · rw [hc]
    try simp only [nrm] at hc
    have hc1 := hc
    refine J.run [.x, .x, .x, .u, .u, .n] [4] ⟨[(4, .v (.bool true))], []⟩ [.o 3 3, .c 4] [.c 4] (by kernel_rfl) ?_
    refine J.ret (v := .bool true) (by kernel_rfl) (by kernel_rfl) (fun w1 A1 m1 hac l1 => congrArg Value.bool (by simp_all [belowF]))
  · rw [hc]
    try simp only [nrm] at hc
    have hc1 := hc
    refine J.run [.w, .w, .w, .u, .u, .n] [4] ⟨[(4, .v (.bool (slt k hi)))], []⟩ [.o 3 3, .c 4] [.c 4] (by kernel_rfl) ?_
    refine J.ret (v := .bool (slt k hi)) (by kernel_rfl) (by kernel_rfl) (fun w1 A1 m1 hac l1 => congrArg Value.bool (by simp_all [belowF]))
theorem overlaps_calls (x : Tab) (lo hi : Str) (Ac : Nat → Prop) (W : World) (hA : ∀ k, Ac k → k < W.heap.size) :
    Calls Pr 27 #[.agg (encT x).toArray, .string lo, .string hi] W (Ret nobody W fun v w => v = .bool (overF x lo hi)) := by
  refine J.enter (fn := Try.f27) (n := 22) Try.func27 (by kernel_rfl) (by kernel_rfl) (by kernel_rfl) hA ?_
  refine J.run [.n, .n] [0, 1, 2] ⟨[(0, .v (.agg (encT x).toArray)), (1, .v (.string lo)), (2, .v (.string hi))], []⟩ [.c 0] [.o 1 0, .c 2] (by kernel_rfl) ?_
  refine J.new (T := 36) (cs := encT x) (d := 3) (K := .ptr) (by kernel_rfl) (fun b1 hb1 => ?_)
  refine J.run [.u, .n, .n, .n, .u, .u] [1, 2, 3, 7, 8] ⟨[(1, .v (.string lo)), (2, .v (.string hi)), (3, .loc 0 0), (7, .v (.string lo)), (8, .v (.string hi))], [⟨36, encT x⟩]⟩ [.o 1 1, .c 2] [.o 3 2, .c 4] (by kernel_rfl) ?_
  refine J.call (d := some 9) (by kernel_rfl) (fun w1 A1 m1 l1 => below_calls lo hi nobody w1 noA) ?_
  rintro _ u1 w1 A1 rfl g1
  have m1 := g1.mv
  refine J.run [.u] [1, 2, 3, 10] ⟨[(1, .v (.string lo)), (2, .v (.string hi)), (3, .loc 0 0), (10, .v (.bool (belowF lo hi)))], [⟨36, encT x⟩]⟩ [.o 3 3, .c 4] [.o 3 4, .c 4] (by kernel_rfl) ?_
  rcases Bool.eq_false_or_eq_true (belowF lo hi) with hc | hc
  · rw [hc]
    try simp only [nrm] at hc
    have hc1 := hc
    refine J.run [.w, .w, .w, .w, .u, .u] [2, 3, 16] ⟨[(2, .v (.string hi)), (3, .loc 0 0), (16, .v (.bool (!(slt x.last lo))))], [⟨36, encT x⟩]⟩ [.o 3 4, .c 4] [.o 3 10, .c 4] (by kernel_rfl) ?_
    rcases Bool.eq_false_or_eq_true (!(slt x.last lo)) with hc | hc
    · rw [hc]
      try simp only [nrm] at hc
      have hc2 := hc
      refine J.run [.w, .w, .w] [16, 18, 19] ⟨[(16, .v (.bool true)), (18, .v (.string x.first)), (19, .v (.string hi))], [⟨36, encT x⟩]⟩ [.o 3 10, .c 4] [.o 3 13, .c 4] (by kernel_rfl) ?_
      refine J.call (d := some 20) (by kernel_rfl) (fun w1 A1 m1 l1 => below_calls x.first hi nobody w1 noA) ?_
      rintro _ u2 w2 A2 rfl g2
      have m2 := g2.mv
      refine J.run [.u, .u, .n] [6] ⟨[(6, .v (.bool (belowF x.first hi)))], [⟨36, encT x⟩]⟩ [.o 3 14, .c 4] [.c 4] (by kernel_rfl) ?_
      refine J.ret (v := .bool (belowF x.first hi)) (by kernel_rfl) (by kernel_rfl) (fun w1 A1 m1 hac l1 => congrArg Value.bool (by simp_all [overF]))
    · rw [hc]
      try simp only [nrm] at hc
      have hc2 := hc
      refine J.run [.x, .x, .x, .x, .u, .u, .n] [6] ⟨[(6, .v (.bool false))], [⟨36, encT x⟩]⟩ [.o 3 10, .c 4] [.c 4] (by kernel_rfl) ?_
      refine J.ret (v := .bool false) (by kernel_rfl) (by kernel_rfl) (fun w1 A1 m1 hac l1 => congrArg Value.bool (by simp_all [overF]))
  · rw [hc]
    try simp only [nrm] at hc
    have hc1 := hc
    refine J.run [.x, .x, .x, .x, .u, .u, .x, .x, .x, .x, .u, .u, .n] [6] ⟨[(6, .v (.bool false))], [⟨36, encT x⟩]⟩ [.o 3 4, .c 4] [.c 4] (by kernel_rfl) ?_
    refine J.ret (v := .bool false) (by kernel_rfl) (by kernel_rfl) (fun w1 A1 m1 hac l1 => congrArg Value.bool (by simp_all [overF]))
end Go.Proofs.Ytkgokehkobifkaa.J

/- More rules: calls of functions without a body. -/
namespace Go.Proofs.Ytkgokehkobifkaa.J
open Go Go.RowKit

section
variable {P : Program} {B : Code} {Q : Exit → Act → World → Prop} {n : Nat} {W : World} {Ac M A : Nat → Prop} {s : SS} {ρ : List Nat} {w0 : World} {r t : List It} {k j : Nat}

def exOf (B : Code) (e : Env) (ρ : List Nat) (n k j : Nat) : Option (FuncId × Value × Value × Nat) :=
  match nowOp B e k j with
  | some o => match o.dst, o.op with
    | some d, .call ⟨.value (.func F), args, _⟩ => bif Nat.blt d n then (match args.toList with
      | [x, y] => match evv e ρ none x, evv e ρ none y with
        | some u, some v => some (F, u, v, d)
        | _, _ => none
      | _ => none) else none
    | _, _ => none
  | none => none

theorem J.ext2 {F : FuncId} {x y v : Value} {d : Nat} (hx : exOf B s.env ρ n k j = some (F, x, y, d)) (hr : ∀ w, (callFunc F #[x, y]).run P w = .ok (.value v) w)
    (h : J P B Q n W Ac M (.o k (j + 1) :: r) ⟨put s.env d (.v v), s.mem⟩ ρ A w0) : J P B Q n W Ac M (.o k j :: r) s ρ A w0 := by
  unfold exOf at hx
  split at hx
  · rename_i o ho
    split at hx
    · rename_i d' F' args tys hd hop
      obtain ⟨hdn, hx⟩ := bif_some hx
      split at hx
      · rename_i x' y' ha
        split at hx
        · rename_i u v' h1 h2
          cases hx
          refine J.readG .text ho hd (blt_iff.1 hdn) (fun a w ok => ?_) h
          have e1 : args = #[x', y'] := Array.toList_inj.1 ha
          subst e1
          have ef : a.eval (.func F) = .func (.func F) #[] #[] := rfl
          unfold execOp
          simp [hop, resolve, invoke, Deferred.ofValue, ef, Sem.run_bind, Sem.run_pure, Result.andThen_ok, List.map_toArray, List.map_cons, List.map_nil, evv_den ok.fits (GOk.none _) h1, evv_den ok.fits (GOk.none _) h2, hr]
        · cases hx
      · cases hx
    · cases hx
  · cases hx
end
end Go.Proofs.Ytkgokehkobifkaa.J

/- Package strings: Compare; package seek: place. -/
namespace Go.Proofs.Ytkgokehkobifkaa.J
open Go Go.RowKit

theorem cmp_bl : ∀ (a b : List UInt8), Lib.compareBytes a b = if Op.bytesLess a b = true then -1 else if Op.bytesLess b a = true then 1 else 0
  | [], [] => rfl
  | [], _ :: _ => rfl
  | _ :: _, [] => rfl
  | x :: a, y :: b => by
    have ih := cmp_bl a b
    simp only [Lib.compareBytes, Op.bytesLess, ih, Bool.or_eq_true, decide_eq_true_eq, Bool.and_eq_true, beq_iff_eq]
    by_cases h1 : x < y
    · simp [h1]
    · by_cases h2 : y < x
      · have h3 : ¬ x = y := fun e => by subst e; exact h1 h2
        have h4 : ¬ y = x := fun e => h3 e.symm
        simp [h1, h2, h3, h4]
      · have h3 : x = y := UInt8.le_antisymm (UInt8.not_lt.1 h2) (UInt8.not_lt.1 h1)
        subst h3
        simp [h1]
theorem cmpB_eq (a b : Str) : Lib.compareBytes a.data.toList b.data.toList = cmpS a b := by
  rw [cmp_bl]
  unfold cmpS slt
  rw [ByteArray.toList_eq, ByteArray.toList_eq]
theorem cmpstring_run (a b : Str) (w : World) : (callFunc 113 #[.string a, .string b]).run Pr w = .ok (.value (.int .i64 (cmpS a b))) w := by
  rw [run_callFunc_extern (P := Pr) (fn := Try.f113) Try.func113 (by kernel_rfl) (by kernel_rfl) (by kernel_rfl) (e := Extern.BytealgCompare.compare) (by kernel_rfl), Lib.run_compareString, cmpB_eq]
  rfl

theorem compareString_calls (x y : Str) (Ac : Nat → Prop) (W : World) (hA : ∀ k, Ac k → k < W.heap.size) :
    Calls Pr 97 #[.string x, .string y] W (Ret nobody W fun v w => v = .int .i64 (cmpS x y)) := by
  refine J.enter (fn := Try.f97) (n := 8) Try.func97 (by kernel_rfl) (by kernel_rfl) (by kernel_rfl) hA ?_
  refine J.run [.n, .n, .u, .n, .n, .n, .u, .u] [5, 6] ⟨[(5, .v (.string x)), (6, .v (.string y))], []⟩ [.c 0] [.o 3 2, .c 4] (by kernel_rfl) ?_
  refine J.ext2 (F := 113) (x := .string x) (y := .string y) (d := 7) (by kernel_rfl) (cmpstring_run x y) ?_
  refine J.run [.u, .n] [4] ⟨[(4, .v (.int .i64 (cmpS x y)))], []⟩ [.o 3 3, .c 4] [.c 4] (by kernel_rfl) ?_
  refine J.ret (v := .int .i64 (cmpS x y)) (by kernel_rfl) (by kernel_rfl) (fun w1 A1 m1 hac l1 => rfl)
theorem sCompare_calls (x y : Str) (Ac : Nat → Prop) (W : World) (hA : ∀ k, Ac k → k < W.heap.size) :
    Calls Pr 72 #[.string x, .string y] W (Ret nobody W fun v w => v = .int .i64 (cmpS x y)) := by
  refine J.enter (fn := Try.f72) (n := 8) Try.func72 (by kernel_rfl) (by kernel_rfl) (by kernel_rfl) hA ?_
  refine J.run [.n, .n, .u, .n, .n, .n, .u, .u] [5, 6] ⟨[(5, .v (.string x)), (6, .v (.string y))], []⟩ [.c 0] [.o 3 2, .c 4] (by kernel_rfl) ?_
  refine J.call (d := some 7) (by kernel_rfl) (fun w1 A1 m1 l1 => compareString_calls x y nobody w1 noA) ?_
  rintro _ u1 w1 A1 rfl g1
  have m1 := g1.mv
  refine J.run [.u, .n] [4] ⟨[(4, .v (.int .i64 (cmpS x y)))], []⟩ [.o 3 3, .c 4] [.c 4] (by kernel_rfl) ?_
  refine J.ret (v := .int .i64 (cmpS x y)) (by kernel_rfl) (by kernel_rfl) (fun w1 A1 m1 hac l1 => rfl)
theorem place1_calls (e : Ent) (k : Str) (Ac : Nat → Prop) (W : World) (hA : ∀ k, Ac k → k < W.heap.size) :
    Calls Pr 85 #[.agg (encE e).toArray, .string k] W (Ret nobody W fun v w => v = .int .i64 (cmpS e.key k)) := by
  refine J.enter (fn := Try.f85) (n := 9) Try.func85 (by kernel_rfl) (by kernel_rfl) (by kernel_rfl) hA ?_
  refine J.run [.n, .n] [0, 1] ⟨[(0, .v (.agg (encE e).toArray)), (1, .v (.string k))], []⟩ [.c 0] [.o 1 0, .c 2] (by kernel_rfl) ?_
  refine J.new (T := 42) (cs := encE e) (d := 2) (K := .ptr) (by kernel_rfl) (fun b1 hb1 => ?_)
  refine J.run [.u, .n, .n, .n, .u, .u, .u] [6, 7] ⟨[(6, .v (.string e.key)), (7, .v (.string k))], [⟨42, encE e⟩]⟩ [.o 1 1, .c 2] [.o 3 3, .c 4] (by kernel_rfl) ?_
  refine J.call (d := some 8) (by kernel_rfl) (fun w1 A1 m1 l1 => sCompare_calls e.key k nobody w1 noA) ?_
  rintro _ u1 w1 A1 rfl g1
  have m1 := g1.mv
  refine J.run [.u, .n] [4] ⟨[(4, .v (.int .i64 (cmpS e.key k)))], [⟨42, encE e⟩]⟩ [.o 3 4, .c 4] [.c 4] (by kernel_rfl) ?_
  refine J.ret (v := .int .i64 (cmpS e.key k)) (by kernel_rfl) (by kernel_rfl) (fun w1 A1 m1 hac l1 => rfl)
end Go.Proofs.Ytkgokehkobifkaa.J

/- Package slices: BinarySearchFunc; package seek: place. -/
namespace Go.Proofs.Ytkgokehkobifkaa.J
open Go Go.RowKit

theorem sorted_mono {l : List Ent} (h : SortedL l) : ∀ (d i : Nat) (a b : Ent), l[i]? = some a → l[i + d + 1]? = some b → slt a.key b.key = true
  | 0, i, a, b, ha, hb => (sorted_iff l).1 h i a b ha hb
  | d + 1, i, a, b, ha, hb => by
    have hlt := (List.getElem?_eq_some_iff.1 hb).1
    have hm : l[i + d + 1]? = some l[i + d + 1] := List.getElem?_eq_getElem (by omega)
    exact slt_trans (sorted_mono h d i a _ ha hm) ((sorted_iff l).1 h (i + d + 1) _ b hm hb)
theorem sorted_lt {l : List Ent} (h : SortedL l) {i j : Nat} {a b : Ent} (hij : i < j) (ha : l[i]? = some a) (hb : l[j]? = some b) : slt a.key b.key = true :=
  sorted_mono h (j - i - 1) i a b ha (by rw [show i + (j - i - 1) + 1 = j by omega]; exact hb)

theorem cntLt_at {k : Str} : ∀ {l : List Ent} {i : Nat}, i ≤ l.length → (∀ (q : Nat) (a : Ent), q < i → l[q]? = some a → slt a.key k = true) → (∀ (q : Nat) (a : Ent), i ≤ q → l[q]? = some a → slt a.key k = false) → cntLt k l = i
  | [], i, hi, _, _ => by simp at hi; subst hi; rfl
  | x :: r, 0, _, _, h2 => by
    have h0 := h2 0 x (Nat.le_refl _) rfl
    have := cntLt_at (k := k) (l := r) (i := 0) (Nat.zero_le _) (fun _ _ h => absurd h (Nat.not_lt_zero _)) (fun q a hq ha => h2 (q + 1) a (Nat.zero_le _) (by simpa using ha))
    unfold cntLt at *
    rw [List.countP_cons, this, h0]; rfl
  | x :: r, i + 1, hi, h1, h2 => by
    have h0 := h1 0 x (Nat.zero_lt_succ _) rfl
    have := cntLt_at (k := k) (l := r) (i := i) (by simpa using hi) (fun q a hq ha => h1 (q + 1) a (by omega) (by simpa using ha)) (fun q a hq ha => h2 (q + 1) a (by omega) (by simpa using ha))
    unfold cntLt at *
    rw [List.countP_cons, this, h0]; rfl
theorem hasKey_at {k : Str} {l : List Ent} (hs : SortedL l) {i : Nat} (h1 : ∀ (q : Nat) (a : Ent), q < i → l[q]? = some a → slt a.key k = true) (h2 : ∀ (q : Nat) (a : Ent), i ≤ q → l[q]? = some a → slt a.key k = false) {x : Ent} (hx : l[i]? = some x) :
    hasKey k l = seq x.key k := by
  cases h : seq x.key k with
  | true => exact List.any_eq_true.2 ⟨x, List.mem_of_getElem? hx, h⟩
  | false =>
    unfold hasKey
    rw [List.any_eq_false]
    intro a ha hc
    obtain ⟨q, hq⟩ := List.mem_iff_getElem?.1 ha
    have hk := seq_iff.1 hc
    rcases Nat.lt_trichotomy q i with hlt | rfl | hgt
    · have := h1 q a hlt hq; rw [hk, slt_irrefl] at this; cases this
    · rw [hx] at hq; cases hq; rw [hc] at h; cases h
    · have h3 := sorted_lt hs hgt hx hq
      rw [hk] at h3
      have := h2 i x (Nat.le_refl _) hx
      rw [this] at h3; cases h3
theorem hasKey_end {k : Str} {l : List Ent} (h1 : ∀ (q : Nat) (a : Ent), q < l.length → l[q]? = some a → slt a.key k = true) : hasKey k l = false := by
  unfold hasKey
  rw [List.any_eq_false]
  intro a ha hc
  obtain ⟨q, hq⟩ := List.mem_iff_getElem?.1 ha
  have := h1 q a (List.getElem?_eq_some_iff.1 hq).1 hq
  rw [seq_iff.1 hc, slt_irrefl] at this; cases this

theorem cmpS_lt {a b : Str} : cmpS a b < 0 ↔ slt a b = true := by
  have := cmpS_ge (a := a) (b := b)
  cases h : slt a b with
  | true => rw [h] at this; simp at this ⊢; omega
  | false => rw [h] at this; simp at this ⊢; omega
theorem cmpS_zero (a b : Str) : (cmpS a b == 0) = seq a b := by
  rw [Bool.eq_iff_iff, beq_iff_eq, seq_iff]
  unfold cmpS
  constructor
  · intro h
    rcases slt_tri a b with h1 | h1 | h1
    · rw [if_pos h1] at h; cases h
    · exact h1
    · rw [if_neg (by rw [slt_asymm h1]; decide), if_pos h1] at h; cases h
  · rintro rfl; rw [slt_irrefl]; rfl

theorem mid_eq {i j : Nat} (h : i + j ≤ 9223372036854775807) : IntKind.i64.wrap (Int.fdiv (IntKind.u64.wrap ((i + j : Nat) : Int)) (2 ^ 1)) = (((i + j) / 2 : Nat) : Int) := by
  rw [wrap_u64n (by omega), fdiv_nat, wrap_i64 (by omega) (by omega)]

structure BsSt where
  i : Nat
  j : Nat

theorem bsearch_place (a : Option Addr) (n c : Nat) (l : List Ent) (k : Str) (hso : SortedL l) (hn : n ≤ 1000000) (Ac : Nat → Prop) (W : World) (hA : ∀ k, Ac k → k < W.heap.size) (hs : Sl 4 encE Ac W a n c l) :
    Calls Pr 70 #[.slice a n c, .string k, (.func (.func 85) #[] #[])] W (Ret nobody W fun v w => v = .tuple #[.int .i64 ((cntLt k l : Nat) : Int), .bool (hasKey k l)]) := by
  refine J.enter (fn := Try.f70) (n := 49) Try.func70 (by kernel_rfl) (by kernel_rfl) (by kernel_rfl) hA ?_
  have hlen := hs.len; have hle := hs.le; have hcap := hs.cap; simp only [maxLen] at hcap
  refine J.run [.n, .n, .u, .u, .n, .n, .n, .u, .u, .u, .n, .n, .n, .u, .u, .u, .n, .n, .n] [0, 1, 2, 8, 9, 10] ⟨[(0, .v (.slice a n c)), (1, .v (.string k)), (2, .v ((.func (.func 85) #[] #[]))), (8, .v (.int .i64 ((n : Nat) : Int))), (9, .v (.int .i64 0)), (10, .v (.int .i64 ((n : Nat) : Int)))], []⟩ [.c 0] [.c 8, .b 0, .c 23] (by kernel_rfl) ?_
  refine J.loop (X := BsSt) (fun x => ⟨[(0, .v (.slice a n c)), (1, .v (.string k)), (2, .v ((.func (.func 85) #[] #[]))), (8, .v (.int .i64 ((n : Nat) : Int))), (9, .v (.int .i64 ((x.i : Nat) : Int))), (10, .v (.int .i64 ((x.j : Nat) : Int)))], []⟩) (fun x A w => x.i ≤ x.j ∧ x.j ≤ n ∧ Sl 4 encE A w a n c l ∧ (∀ (q : Nat) (a : Ent), q < x.i → l[q]? = some a → slt a.key k = true) ∧ (∀ (q : Nat) (a : Ent), x.j ≤ q → l[q]? = some a → slt a.key k = false)) (fun x => x.j - x.i) [0, 1, 2, 8, 9, 10] 0 [] ⟨0, n⟩ (by kernel_rfl) (by kernel_rfl) (by kernel_rfl) (fun w1 A1 m1 => ⟨Nat.zero_le _, Nat.le_refl _, hs.mv m1, fun _ _ h => absurd h (Nat.not_lt_zero _), fun q a h hq => by have := (List.getElem?_eq_some_iff.1 hq).1; simp only at h; omega⟩) (fun x A1 w1 hI => ?_)
  obtain ⟨hij, hjn, hs, hb1, hb2⟩ := hI
  refine J.run [.n, .n, .n, .u, .u, .u, .n] [0, 1, 2, 8, 9, 10, 17] ⟨[(0, .v (.slice a n c)), (1, .v (.string k)), (2, .v ((.func (.func 85) #[] #[]))), (8, .v (.int .i64 ((n : Nat) : Int))), (9, .v (.int .i64 ((x.i : Nat) : Int))), (10, .v (.int .i64 ((x.j : Nat) : Int))), (17, .v (.bool (decide (((x.i : Nat) : Int) < ((x.j : Nat) : Int)))))], []⟩ [.c 9] [.c 12, .c 15] (by kernel_rfl) ?_
  refine J.cond (b := (decide (((x.i : Nat) : Int) < ((x.j : Nat) : Int)))) (k' := 14) (by kernel_rfl) (fun hc => ?_) (fun hc => ?_)
  · try simp only [nrm] at hc
    have hc1 := hc
    refine J.run [.n, .n, .n, .n, .u, .u, .u, .u, .u, .u, .u, .n, .n, .n, .u, .u, .u] [0, 1, 2, 8, 9, 10, 11, 24, 25, 26] ⟨[(0, .v (.slice a n c)), (1, .v (.string k)), (2, .v ((.func (.func 85) #[] #[]))), (8, .v (.int .i64 ((n : Nat) : Int))), (9, .v (.int .i64 ((x.i : Nat) : Int))), (10, .v (.int .i64 ((x.j : Nat) : Int))), (11, .v (.int .i64 (IntKind.i64.wrap (Int.fdiv (IntKind.u64.wrap (IntKind.i64.wrap (((x.i : Nat) : Int) + ((x.j : Nat) : Int)))) (2 ^ 1))))), (24, .v ((.func (.func 85) #[] #[]))), (25, .v (.slice a n c)), (26, .v (.int .i64 (IntKind.i64.wrap (Int.fdiv (IntKind.u64.wrap (IntKind.i64.wrap (((x.i : Nat) : Int) + ((x.j : Nat) : Int)))) (2 ^ 1)))))], []⟩ [.c 13, .c 15] [.o 19 3, .c 20, .b 1] (by kernel_rfl) ?_
    have hw1 : IntKind.i64.wrap (((x.i : Nat) : Int) + ((x.j : Nat) : Int)) = ((x.i + x.j : Nat) : Int) := by rw [wrap_i64 (by omega) (by omega)]; try omega
    rw [hw1]
    rw [mid_eq (i := x.i) (j := x.j) (by omega)]
    obtain ⟨p1, o1, rfl⟩ := hs.addr (by omega)
    refine J.idx (b := p1) (off := o1) (len := n) (i := (((x.i + x.j) / 2 : Nat) : Int)) (sz := 4) (d := 27) (by kernel_rfl) (by omega) (by omega) ?_
    obtain ⟨x1, hx1⟩ : ∃ zq, (l)[(x.i + x.j) / 2]? = some zq := ⟨_, List.getElem?_eq_getElem (by omega)⟩
    refine J.ld (T := 42) (b := p1) (off := o1 + ((x.i + x.j) / 2) * 4) (d := 28) (v := .agg (encE x1).toArray) (by kernel_rfl) (fun w1 A1 m1 l1 => (hs.mv m1).ld (by kernel_rfl) hx1 (by kernel_rfl)) ?_
    refine J.run [.u] [0, 1, 2, 8, 9, 10, 11, 24, 28, 29] ⟨[(0, .v (.slice (some ⟨p1, o1, none⟩) n c)), (1, .v (.string k)), (2, .v ((.func (.func 85) #[] #[]))), (8, .v (.int .i64 ((n : Nat) : Int))), (9, .v (.int .i64 ((x.i : Nat) : Int))), (10, .v (.int .i64 ((x.j : Nat) : Int))), (11, .v (.int .i64 (((x.i + x.j) / 2 : Nat) : Int))), (24, .v ((.func (.func 85) #[] #[]))), (28, .v (.agg (encE x1).toArray)), (29, .v (.string k))], []⟩ [.o 19 5, .c 20, .b 1] [.o 19 6, .c 20, .b 1] (by kernel_rfl) ?_
    refine J.call (d := some 30) (by kernel_rfl) (fun w1 A1 m1 l1 => place1_calls x1 k nobody w1 noA) ?_
    rintro _ u1 w2 A2 rfl g1
    have m1 := g1.mv
    replace hs := hs.mv m1
    refine J.run [.u, .n] [0, 1, 2, 8, 9, 10, 11, 31] ⟨[(0, .v (.slice (some ⟨p1, o1, none⟩) n c)), (1, .v (.string k)), (2, .v ((.func (.func 85) #[] #[]))), (8, .v (.int .i64 ((n : Nat) : Int))), (9, .v (.int .i64 ((x.i : Nat) : Int))), (10, .v (.int .i64 ((x.j : Nat) : Int))), (11, .v (.int .i64 (((x.i + x.j) / 2 : Nat) : Int))), (31, .v (.bool (decide ((cmpS x1.key k) < 0))))], []⟩ [.o 19 7, .c 20, .b 1] [.c 20, .b 1] (by kernel_rfl) ?_
    refine J.cond (b := (decide ((cmpS x1.key k) < 0))) (k' := 22) (by kernel_rfl) (fun hc => ?_) (fun hc => ?_)
    · try simp only [nrm] at hc
      have hc2 := hc
      refine J.run [.n, .u, .u, .u, .n, .n] [0, 1, 2, 8, 9, 10] ⟨[(0, .v (.slice (some ⟨p1, o1, none⟩) n c)), (1, .v (.string k)), (2, .v ((.func (.func 85) #[] #[]))), (8, .v (.int .i64 ((n : Nat) : Int))), (9, .v (.int .i64 (IntKind.i64.wrap ((((x.i + x.j) / 2 : Nat) : Int) + 1)))), (10, .v (.int .i64 ((x.j : Nat) : Int)))], []⟩ [.c 21, .b 1] [] (by kernel_rfl) ?_
      have hw2 : IntKind.i64.wrap ((((x.i + x.j) / 2 : Nat) : Int) + 1) = (((x.i + x.j) / 2 + 1 : Nat) : Int) := by rw [wrap_i64 (by omega) (by omega)]; try omega
      rw [hw2]
      have hlt := cmpS_lt.1 hc2
      exact J.again ⟨(x.i + x.j) / 2 + 1, x.j⟩ [0, 1, 2, 8, 9, 10] 0 (by simp only; omega) (by kernel_rfl) (by kernel_rfl) (fun w1 A1 m1 => ⟨by simp only; omega, hjn, hs.mv m1, fun q a hq ha => by rcases Nat.lt_succ_iff_lt_or_eq.1 hq with h | rfl; exact slt_trans (sorted_lt hso h ha hx1) hlt; rw [hx1] at ha; cases ha; exact hlt, hb2⟩)
    · try simp only [nrm] at hc
      have hc2 := hc
      refine J.run [.n, .u, .u, .n, .n] [0, 1, 2, 8, 9, 10] ⟨[(0, .v (.slice (some ⟨p1, o1, none⟩) n c)), (1, .v (.string k)), (2, .v ((.func (.func 85) #[] #[]))), (8, .v (.int .i64 ((n : Nat) : Int))), (9, .v (.int .i64 ((x.i : Nat) : Int))), (10, .v (.int .i64 (((x.i + x.j) / 2 : Nat) : Int)))], []⟩ [.c 22, .b 1] [] (by kernel_rfl) ?_
      have hge := cmpS_ge.1 (by omega : 0 ≤ cmpS x1.key k)
      exact J.again ⟨x.i, (x.i + x.j) / 2⟩ [0, 1, 2, 8, 9, 10] 0 (by simp only; omega) (by kernel_rfl) (by kernel_rfl) (fun w1 A1 m1 => ⟨by simp only; omega, by simp only; omega, hs.mv m1, hb1, fun q a hq ha => by rcases Nat.eq_or_lt_of_le hq with rfl | h; rw [hx1] at ha; cases ha; exact hge; cases hc : slt a.key k with | false => rfl | true => exact absurd (slt_trans (sorted_lt hso h hx1 ha) hc) (by rw [hge]; decide)⟩)
  · try simp only [nrm] at hc
    have hc1 := hc
    have hje : x.j = x.i := by omega
    rw [hje] at hb2
    refine J.exit (id := 0) (by kernel_rfl) (by rfl) ?_
    refine J.run [.n, .n, .u, .u, .u, .u, .u] [0, 1, 2, 9, 35, 39] ⟨[(0, .v (.slice a n c)), (1, .v (.string k)), (2, .v ((.func (.func 85) #[] #[]))), (9, .v (.int .i64 ((x.i : Nat) : Int))), (35, .v (.int .i64 ((x.i : Nat) : Int))), (39, .v (.bool (decide (((x.i : Nat) : Int) < ((n : Nat) : Int)))))], []⟩ [.c 23] [.o 24 5, .c 25] (by kernel_rfl) ?_
    rcases Bool.eq_false_or_eq_true (decide (((x.i : Nat) : Int) < ((n : Nat) : Int))) with hc | hc
    · rw [hc]
      try simp only [nrm] at hc
      have hc3 := hc
      refine J.run [.w, .w, .w] [1, 35, 39, 40, 41, 42] ⟨[(1, .v (.string k)), (35, .v (.int .i64 ((x.i : Nat) : Int))), (39, .v (.bool true)), (40, .v ((.func (.func 85) #[] #[]))), (41, .v (.slice a n c)), (42, .v (.int .i64 ((x.i : Nat) : Int)))], []⟩ [.o 24 5, .c 25] [.o 24 8, .c 25] (by kernel_rfl) ?_
      obtain ⟨p2, o2, rfl⟩ := hs.addr (by omega)
      refine J.idx (b := p2) (off := o2) (len := n) (i := ((x.i : Nat) : Int)) (sz := 4) (d := 43) (by kernel_rfl) (by omega) (by omega) ?_
      obtain ⟨x2, hx2⟩ : ∃ zq, (l)[x.i]? = some zq := ⟨_, List.getElem?_eq_getElem (by omega)⟩
      refine J.ld (T := 42) (b := p2) (off := o2 + x.i * 4) (d := 44) (v := .agg (encE x2).toArray) (by kernel_rfl) (fun w1 A1 m1 l1 => (hs.mv m1).ld (by kernel_rfl) hx2 (by kernel_rfl)) ?_
      refine J.run [.w] [35, 39, 40, 44, 45] ⟨[(35, .v (.int .i64 ((x.i : Nat) : Int))), (39, .v (.bool true)), (40, .v ((.func (.func 85) #[] #[]))), (44, .v (.agg (encE x2).toArray)), (45, .v (.string k))], []⟩ [.o 24 10, .c 25] [.o 24 11, .c 25] (by kernel_rfl) ?_
      refine J.call (d := some 46) (by kernel_rfl) (fun w1 A1 m1 l1 => place1_calls x2 k nobody w1 noA) ?_
      rintro _ u2 w3 A3 rfl g2
      have m2 := g2.mv
      replace hs := hs.mv m2
      refine J.run [.w, .u, .u, .u, .n] [6, 7] ⟨[(6, .v (.int .i64 ((x.i : Nat) : Int))), (7, .v (.bool ((cmpS x2.key k) == 0)))], []⟩ [.o 24 12, .c 25] [.c 25] (by kernel_rfl) ?_
      have hcn := cntLt_at (l := l) (i := x.i) (by omega) hb1 hb2
      refine J.ret (v := .tuple #[.int .i64 ((x.i : Nat) : Int), .bool ((cmpS x2.key k) == 0)]) (by kernel_rfl) (by kernel_rfl) (fun w1 A1 m1 hac l1 => by rw [hcn, hasKey_at hso hb1 hb2 hx2, ← cmpS_zero])
    · rw [hc]
      try simp only [nrm] at hc
      have hc3 := hc
      refine J.run [.x, .x, .x, .x, .x, .x, .x, .x, .u, .u, .u, .n] [6, 7] ⟨[(6, .v (.int .i64 ((x.i : Nat) : Int))), (7, .v (.bool false))], []⟩ [.o 24 5, .c 25] [.c 25] (by kernel_rfl) ?_
      have hcn := cntLt_at (l := l) (i := x.i) (by omega) hb1 hb2
      refine J.ret (v := .tuple #[.int .i64 ((x.i : Nat) : Int), .bool false]) (by kernel_rfl) (by kernel_rfl) (fun w1 A1 m1 hac l1 => by rw [hcn, hasKey_end (fun q a hq ha => hb1 q a (by omega) ha)])
theorem place_calls (a : Option Addr) (n c : Nat) (l : List Ent) (k : Str) (hso : SortedL l) (hn : n ≤ 1000000) (Ac : Nat → Prop) (W : World) (hA : ∀ k, Ac k → k < W.heap.size) (hs : Sl 4 encE Ac W a n c l) :
    Calls Pr 54 #[.slice a n c, .string k] W (Ret nobody W fun v w => v = .tuple #[.int .i64 ((cntLt k l : Nat) : Int), .bool (hasKey k l)]) := by
  refine J.enter (fn := Try.f54) (n := 11) Try.func54 (by kernel_rfl) (by kernel_rfl) (by kernel_rfl) hA ?_
  refine J.run [.n, .n, .u, .u, .n, .n, .n, .u, .u] [6, 7] ⟨[(6, .v (.slice a n c)), (7, .v (.string k))], []⟩ [.c 0] [.o 3 2, .c 4] (by kernel_rfl) ?_
  refine J.call (d := some 8) (by kernel_rfl) (fun w1 A1 m1 l1 => bsearch_place a n c l k hso (by omega) nobody w1 noA (hs.mv m1).any) ?_
  rintro _ u1 w1 A1 rfl g1
  have m1 := g1.mv
  replace hs := hs.mv m1
  refine J.run [.u, .u, .u, .u, .n] [4, 5] ⟨[(4, .v (.int .i64 ((cntLt k l : Nat) : Int))), (5, .v (.bool (hasKey k l)))], []⟩ [.o 3 3, .c 4] [.c 4] (by kernel_rfl) ?_
  refine J.ret (v := .tuple #[.int .i64 ((cntLt k l : Nat) : Int), .bool (hasKey k l)]) (by kernel_rfl) (by kernel_rfl) (fun w1 A1 m1 hac l1 => rfl)
end Go.Proofs.Ytkgokehkobifkaa.J

/- Package seek: whole, none, holds. -/
namespace Go.Proofs.Ytkgokehkobifkaa.J
open Go Go.RowKit

def wholeF (bs : List UInt8) : Bool := ((pars bs).2.2 == 0) && ((((pars bs).2.1 : Nat) : Int) == ((bs.length : Nat) : Int))
def holdsF (bits : Int) (root : Dg) (n : Nat) (i : Int) (leaf : List UInt8) (path : List Dg) : Bool := wholeF leaf && checkF bits root n i leaf path

theorem whole_calls (a : Option Addr) (n c : Nat) (bs : List UInt8) (Ac : Nat → Prop) (W : World) (hA : ∀ k, Ac k → k < W.heap.size) (hs : Sl 1 u8 Ac W a n c bs) :
    Calls Pr 56 #[.slice a n c] W (Ret nobody W fun v w => v = .tuple #[.agg (encE (pars bs).1).toArray, .bool (wholeF bs)]) := by
  refine J.enter (fn := Try.f56) (n := 22) Try.func56 (by kernel_rfl) (by kernel_rfl) (by kernel_rfl) hA ?_
  have hlen := hs.len
  refine J.run [.n, .n] [0] ⟨[(0, .v (.slice a n c))], []⟩ [.c 0] [.o 1 0, .c 2] (by kernel_rfl) ?_
  refine J.new (T := 42) (cs := [.string (⟨#[]⟩ : Str), .string (⟨#[]⟩ : Str), .bool false, .int .i64 0]) (d := 2) (K := .ptr) (by kernel_rfl) (fun b1 hb1 => ?_)
  refine J.run [.u, .n, .n, .n, .u] [0, 2, 8] ⟨[(0, .v (.slice a n c)), (2, .loc 0 0), (8, .v (.slice a n c))], [⟨42, [.string (⟨#[]⟩ : Str), .string (⟨#[]⟩ : Str), .bool false, .int .i64 0]⟩]⟩ [.o 1 1, .c 2] [.o 3 1, .c 4] (by kernel_rfl) ?_
  refine J.call (d := some 9) (by kernel_rfl) (fun w1 A1 m1 l1 => parse_calls a n c bs nobody w1 noA (hs.mv m1).any) ?_
  rintro _ u1 w1 A1 rfl g1
  have m1 := g1.mv
  replace hs := hs.mv m1
  refine J.run [.u, .u, .u, .u] [0, 2, 10, 11, 12] ⟨[(0, .v (.slice a n c)), (2, .loc 0 0), (10, .v (.agg (encE (pars bs).1).toArray)), (11, .v (.int .i64 (((pars bs).2.1 : Nat) : Int))), (12, .v (.int .i64 ((pars bs).2.2)))], [⟨42, [.string (⟨#[]⟩ : Str), .string (⟨#[]⟩ : Str), .bool false, .int .i64 0]⟩]⟩ [.o 3 2, .c 4] [.o 3 6, .c 4] (by kernel_rfl) ?_
  refine J.new (T := 42) (cs := [.string (⟨#[]⟩ : Str), .string (⟨#[]⟩ : Str), .bool false, .int .i64 0]) (d := 4) (K := .ptr) (by kernel_rfl) (fun b2 hb2 => ?_)
  refine J.run [.u, .u, .u, .n, .n, .n, .u, .u, .u, .u] [0, 2, 5, 13, 16] ⟨[(0, .v (.slice a n c)), (2, .loc 0 0), (5, .v (.int .i64 (((pars bs).2.1 : Nat) : Int))), (13, .v (.agg (encE (pars bs).1).toArray)), (16, .v (.bool (((pars bs).2.2) == 0)))], [⟨42, [.string (⟨#[]⟩ : Str), .string (⟨#[]⟩ : Str), .bool false, .int .i64 0]⟩, ⟨42, encE (pars bs).1⟩]⟩ [.o 3 7, .c 4] [.o 5 4, .c 6] (by kernel_rfl) ?_
  rcases Bool.eq_false_or_eq_true (((pars bs).2.2) == 0) with hc | hc
  · rw [hc]
    try simp only [nrm] at hc
    have hc1 := hc
    refine J.run [.w, .w, .w, .w, .u, .u, .u, .n] [2, 3] ⟨[(2, .loc 0 0), (3, .v (.bool ((((pars bs).2.1 : Nat) : Int) == ((n : Nat) : Int))))], [⟨42, encE (pars bs).1⟩, ⟨42, encE (pars bs).1⟩]⟩ [.o 5 4, .c 6] [.c 6] (by kernel_rfl) ?_
    refine J.ret (v := .tuple #[.agg (encE (pars bs).1).toArray, .bool ((((pars bs).2.1 : Nat) : Int) == ((n : Nat) : Int))]) (by kernel_rfl) (by kernel_rfl) (fun w1 A1 m1 hac l1 => by rw [wholeF, show ((pars bs).2.2 == 0) = true from beq_iff_eq.2 hc1, ← hlen]; rfl)
  · rw [hc]
    try simp only [nrm] at hc
    have hc1 := hc
    refine J.run [.x, .x, .x, .x, .u, .u, .u, .n] [2, 3] ⟨[(2, .loc 0 0), (3, .v (.bool false))], [⟨42, encE (pars bs).1⟩, ⟨42, encE (pars bs).1⟩]⟩ [.o 5 4, .c 6] [.c 6] (by kernel_rfl) ?_
    refine J.ret (v := .tuple #[.agg (encE (pars bs).1).toArray, .bool false]) (by kernel_rfl) (by kernel_rfl) (fun w1 A1 m1 hac l1 => by rw [wholeF, show ((pars bs).2.2 == 0) = false from beq_eq_false_iff_ne.2 hc1]; rfl)
theorem none_calls (ot : Int) (ola : Option Addr) (oln olc : Nat) (opa : Option Addr) (opn opc : Nat) (Ac : Nat → Prop) (W : World) (hA : ∀ k, Ac k → k < W.heap.size) :
    Calls Pr 37 #[.agg [.int .i64 ot, .slice ola oln olc, .slice opa opn opc].toArray] W (Ret nobody W fun v w => v = .bool (decide (ot = 0 ∧ oln = 0 ∧ opn = 0))) := by
  refine J.enter (fn := Try.f37) (n := 18) Try.func37 (by kernel_rfl) (by kernel_rfl) (by kernel_rfl) hA ?_
  refine J.run [.n, .n] [0] ⟨[(0, .v (.agg [.int .i64 ot, .slice ola oln olc, .slice opa opn opc].toArray))], []⟩ [.c 0] [.o 1 0, .c 2] (by kernel_rfl) ?_
  refine J.new (T := 26) (cs := [.int .i64 ot, .slice ola oln olc, .slice opa opn opc]) (d := 1) (K := .ptr) (by kernel_rfl) (fun b1 hb1 => ?_)
  refine J.run [.u, .n, .n, .n, .u, .u, .u, .u] [1, 6] ⟨[(1, .loc 0 0), (6, .v (.bool (ot == 0)))], [⟨26, [.int .i64 ot, .slice ola oln olc, .slice opa opn opc]⟩]⟩ [.o 1 1, .c 2] [.o 3 4, .c 4] (by kernel_rfl) ?_
  rcases Bool.eq_false_or_eq_true (ot == 0) with hc | hc
  · rw [hc]
    try simp only [nrm] at hc
    have hc1 := hc
    refine J.run [.w, .w, .w, .w, .u, .u] [1, 12] ⟨[(1, .loc 0 0), (12, .v (.bool (((oln : Nat) : Int) == 0)))], [⟨26, [.int .i64 ot, .slice ola oln olc, .slice opa opn opc]⟩]⟩ [.o 3 4, .c 4] [.o 3 10, .c 4] (by kernel_rfl) ?_
    rcases Bool.eq_false_or_eq_true (((oln : Nat) : Int) == 0) with hc | hc
    · rw [hc]
      try simp only [nrm] at hc
      have hc2 := hc
      refine J.run [.w, .w, .w, .w, .u, .u, .n] [2] ⟨[(2, .v (.bool (((opn : Nat) : Int) == 0)))], [⟨26, [.int .i64 ot, .slice ola oln olc, .slice opa opn opc]⟩]⟩ [.o 3 10, .c 4] [.c 4] (by kernel_rfl) ?_
      rcases Bool.eq_false_or_eq_true (((opn : Nat) : Int) == 0) with hc | hc
      · rw [hc]
        try simp only [nrm] at hc
        have hce := hc
        refine J.ret (v := .bool true) (by kernel_rfl) (by kernel_rfl) (fun w1 A1 m1 hac l1 => congrArg Value.bool (by symm; simp only [decide_eq_true_eq, decide_eq_false_iff_not]; omega))
      · rw [hc]
        try simp only [nrm] at hc
        have hce := hc
        refine J.ret (v := .bool false) (by kernel_rfl) (by kernel_rfl) (fun w1 A1 m1 hac l1 => congrArg Value.bool (by symm; simp only [decide_eq_true_eq, decide_eq_false_iff_not]; omega))
    · rw [hc]
      try simp only [nrm] at hc
      have hc2 := hc
      refine J.run [.x, .x, .x, .x, .u, .u, .n] [2] ⟨[(2, .v (.bool false))], [⟨26, [.int .i64 ot, .slice ola oln olc, .slice opa opn opc]⟩]⟩ [.o 3 10, .c 4] [.c 4] (by kernel_rfl) ?_
      refine J.ret (v := .bool false) (by kernel_rfl) (by kernel_rfl) (fun w1 A1 m1 hac l1 => congrArg Value.bool (by symm; simp only [decide_eq_true_eq, decide_eq_false_iff_not]; omega))
  · rw [hc]
    try simp only [nrm] at hc
    have hc1 := hc
    refine J.run [.x, .x, .x, .x, .u, .u, .x, .x, .x, .x, .u, .u, .n] [2] ⟨[(2, .v (.bool false))], [⟨26, [.int .i64 ot, .slice ola oln olc, .slice opa opn opc]⟩]⟩ [.o 3 4, .c 4] [.c 4] (by kernel_rfl) ?_
    refine J.ret (v := .bool false) (by kernel_rfl) (by kernel_rfl) (fun w1 A1 m1 hac l1 => congrArg Value.bool (by symm; simp only [decide_eq_true_eq, decide_eq_false_iff_not]; omega))
theorem holds_calls (bits : Int) (x : Tab) (N : Nat) (hx : x.count = ((N : Nat) : Int)) (ot : Int) (ola : Option Addr) (oln olc : Nat) (opa : Option Addr) (opn opc : Nat) (leaf : List UInt8) (path : List Dg) (hN : N ≤ 1000000) (hln : oln ≤ 1000000) (Ac : Nat → Prop) (W : World) (hA : ∀ k, Ac k → k < W.heap.size) (hs : Sl 1 u8 Ac W ola oln olc leaf) (hp : Sl 32 dcells Ac W opa opn opc path) :
    Calls Pr 36 #[.agg [.int .i64 bits].toArray, .agg (encT x).toArray, .agg [.int .i64 ot, .slice ola oln olc, .slice opa opn opc].toArray] W (Ret nobody W fun v w => v = .tuple #[.agg (encE (pars leaf).1).toArray, .bool (holdsF bits x.root N ot leaf path)]) := by
  refine J.enter (fn := Try.f36) (n := 32) Try.func36 (by kernel_rfl) (by kernel_rfl) (by kernel_rfl) hA ?_
  refine J.run [.n, .n] [0, 1, 2] ⟨[(0, .v (.agg [.int .i64 bits].toArray)), (1, .v (.agg (encT x).toArray)), (2, .v (.agg [.int .i64 ot, .slice ola oln olc, .slice opa opn opc].toArray))], []⟩ [.c 0] [.o 1 0, .c 2] (by kernel_rfl) ?_
  refine J.new (T := 32) (cs := [.int .i64 bits]) (d := 3) (K := .ptr) (by kernel_rfl) (fun b1 hb1 => ?_)
  refine J.new (T := 36) (cs := encT x) (d := 4) (K := .ptr) (by kernel_rfl) (fun b2 hb2 => ?_)
  refine J.new (T := 26) (cs := [.int .i64 ot, .slice ola oln olc, .slice opa opn opc]) (d := 5) (K := .ptr) (by kernel_rfl) (fun b3 hb3 => ?_)
  refine J.new (T := 42) (cs := [.string (⟨#[]⟩ : Str), .string (⟨#[]⟩ : Str), .bool false, .int .i64 0]) (d := 6) (K := .ptr) (by kernel_rfl) (fun b4 hb4 => ?_)
  refine J.run [.u, .n, .n, .n, .u, .u] [3, 4, 5, 6, 12] ⟨[(3, .loc 0 0), (4, .loc 1 0), (5, .loc 2 0), (6, .loc 3 0), (12, .v (.slice ola oln olc))], [⟨32, [.int .i64 bits]⟩, ⟨36, encT x⟩, ⟨26, [.int .i64 ot, .slice ola oln olc, .slice opa opn opc]⟩, ⟨42, [.string (⟨#[]⟩ : Str), .string (⟨#[]⟩ : Str), .bool false, .int .i64 0]⟩]⟩ [.o 1 4, .c 2] [.o 3 2, .c 4] (by kernel_rfl) ?_
  refine J.call (d := some 13) (by kernel_rfl) (fun w1 A1 m1 l1 => whole_calls ola oln olc leaf nobody w1 noA (hs.mv m1).any) ?_
  rintro _ u1 w1 A1 rfl g1
  have m1 := g1.mv
  replace hs := hs.mv m1; replace hp := hp.mv m1
  refine J.run [.u, .u, .u] [3, 4, 5, 6, 14, 15] ⟨[(3, .loc 0 0), (4, .loc 1 0), (5, .loc 2 0), (6, .loc 3 0), (14, .v (.agg (encE (pars leaf).1).toArray)), (15, .v (.bool (wholeF leaf)))], [⟨32, [.int .i64 bits]⟩, ⟨36, encT x⟩, ⟨26, [.int .i64 ot, .slice ola oln olc, .slice opa opn opc]⟩, ⟨42, [.string (⟨#[]⟩ : Str), .string (⟨#[]⟩ : Str), .bool false, .int .i64 0]⟩]⟩ [.o 3 3, .c 4] [.o 3 6, .c 4] (by kernel_rfl) ?_
  refine J.new (T := 42) (cs := [.string (⟨#[]⟩ : Str), .string (⟨#[]⟩ : Str), .bool false, .int .i64 0]) (d := 8) (K := .ptr) (by kernel_rfl) (fun b5 hb5 => ?_)
  refine J.run [.u, .u, .n, .n] [3, 4, 5, 6, 8, 9] ⟨[(3, .loc 0 0), (4, .loc 1 0), (5, .loc 2 0), (6, .loc 3 0), (8, .loc 4 0), (9, .v (.bool (wholeF leaf)))], [⟨32, [.int .i64 bits]⟩, ⟨36, encT x⟩, ⟨26, [.int .i64 ot, .slice ola oln olc, .slice opa opn opc]⟩, ⟨42, [.string (⟨#[]⟩ : Str), .string (⟨#[]⟩ : Str), .bool false, .int .i64 0]⟩, ⟨42, encE (pars leaf).1⟩]⟩ [.o 3 7, .c 4] [.c 5, .c 6] (by kernel_rfl) ?_
  rcases Bool.eq_false_or_eq_true (wholeF leaf) with hc | hc
  · rw [hc]
    try simp only [nrm] at hc
    have hc1 := hc
    refine J.draw [3] nobody (by kernel_rfl) (by kernel_rfl) (fun _ h => h.elim) (fun w2 A2 m2 hr1 hX1 => ?_)
    replace hs := hs.mv m2; replace hp := hp.mv m2
    refine J.take0 [(0, .u), (1, .u), (2, .u), (3, .w), (4, .w), (5, .w), (6, .w), (7, .w), (8, .w), (9, .w), (10, .w), (11, .w), (12, .w), (13, .w)] [6, 16, 18, 19, 21, 23, 25, 27, 29] [(6, .loc 3 0), (16, .v (.agg (encE (pars leaf).1).toArray)), (18, .v (.bool true)), (19, .v (.agg [.int .i64 bits].toArray)), (21, .v (.agg [.int .u8 (((x.root 0).toNat : Nat) : Int), .int .u8 (((x.root 1).toNat : Nat) : Int), .int .u8 (((x.root 2).toNat : Nat) : Int), .int .u8 (((x.root 3).toNat : Nat) : Int), .int .u8 (((x.root 4).toNat : Nat) : Int), .int .u8 (((x.root 5).toNat : Nat) : Int), .int .u8 (((x.root 6).toNat : Nat) : Int), .int .u8 (((x.root 7).toNat : Nat) : Int), .int .u8 (((x.root 8).toNat : Nat) : Int), .int .u8 (((x.root 9).toNat : Nat) : Int), .int .u8 (((x.root 10).toNat : Nat) : Int), .int .u8 (((x.root 11).toNat : Nat) : Int), .int .u8 (((x.root 12).toNat : Nat) : Int), .int .u8 (((x.root 13).toNat : Nat) : Int), .int .u8 (((x.root 14).toNat : Nat) : Int), .int .u8 (((x.root 15).toNat : Nat) : Int), .int .u8 (((x.root 16).toNat : Nat) : Int), .int .u8 (((x.root 17).toNat : Nat) : Int), .int .u8 (((x.root 18).toNat : Nat) : Int), .int .u8 (((x.root 19).toNat : Nat) : Int), .int .u8 (((x.root 20).toNat : Nat) : Int), .int .u8 (((x.root 21).toNat : Nat) : Int), .int .u8 (((x.root 22).toNat : Nat) : Int), .int .u8 (((x.root 23).toNat : Nat) : Int), .int .u8 (((x.root 24).toNat : Nat) : Int), .int .u8 (((x.root 25).toNat : Nat) : Int), .int .u8 (((x.root 26).toNat : Nat) : Int), .int .u8 (((x.root 27).toNat : Nat) : Int), .int .u8 (((x.root 28).toNat : Nat) : Int), .int .u8 (((x.root 29).toNat : Nat) : Int), .int .u8 (((x.root 30).toNat : Nat) : Int), .int .u8 (((x.root 31).toNat : Nat) : Int)].toArray)), (23, .v (.int .i64 x.count)), (25, .v (.int .i64 ot)), (27, .v (.slice ola oln olc)), (29, .v (.slice opa opn opc))] [13, 12, 11, 10, 9, 8, 7, 6, 5, 4, 3, 2, 1, 0] (calm_body _ _ _) (by intro k _ h; exact h) hr1 (by kernel_rfl) ?_
    rw [hx]
    refine J.pick1 14 (by kernel_rfl) (by kernel_rfl) ?_
    refine J.callq (d := some 30) (by kernel_rfl) (fun w1 A1 m1 l1 => check_calls bits x.root N ot ola oln olc leaf opa opn opc path (by omega) (by omega) nobody w1 noA (hs.mv m1).any (hp.mv m1).any) ?_
    rintro _ u2 w3 A3 rfl g2
    have m3 := g2.mv
    replace hs := hs.mv m3; replace hp := hp.mv m3
    refine J.take1 [(15, .u)] [6, 16, 31] [(6, .loc 3 0), (16, .v (.agg (encE (pars leaf).1).toArray)), (31, .v (.bool (checkF bits x.root N ot leaf path)))] [15, 14, 13, 12, 11, 10, 9, 8, 7, 6, 5, 4, 3, 2, 1, 0] (calm_body _ _ _) (by kernel_rfl) ?_
    refine J.pick1 16 (by kernel_rfl) (by kernel_rfl) ?_
    refine J.storeq (i := 3) (m' := [⟨32, [.int .i64 bits]⟩, ⟨36, encT x⟩, ⟨26, [.int .i64 ot, .slice ola oln olc, .slice opa opn opc]⟩, ⟨42, encE (pars leaf).1⟩, ⟨42, encE (pars leaf).1⟩]) (by kernel_rfl) (by simp) rfl (by simp) ?_
    refine J.take1 [(17, .u)] [6, 7] [(6, .loc 3 0), (7, .v (.bool (checkF bits x.root N ot leaf path)))] [17, 16, 15, 14, 13, 12, 11, 10, 9, 8, 7, 6, 5, 4, 3, 2, 1, 0] (calm_body _ _ _) (by kernel_rfl) ?_
    refine J.pdone (by kernel_rfl) ?_
    refine J.ret (v := .tuple #[.agg (encE (pars leaf).1).toArray, .bool (checkF bits x.root N ot leaf path)]) (by kernel_rfl) (by kernel_rfl) (fun w1 A1 m1 hac l1 => by rw [holdsF, hc1]; rfl)
  · rw [hc]
    try simp only [nrm] at hc
    have hc1 := hc
    refine J.draw [3] nobody (by kernel_rfl) (by kernel_rfl) (fun _ h => h.elim) (fun w4 A4 m4 hr2 hX2 => ?_)
    replace hs := hs.mv m4; replace hp := hp.mv m4
    refine J.take0 [(0, .u), (1, .u), (2, .u), (3, .x), (4, .x), (5, .x), (6, .x), (7, .x), (8, .x), (9, .x), (10, .x), (11, .x), (12, .x), (13, .x), (14, .x), (15, .u)] [6, 16, 31] [(6, .loc 3 0), (16, .v (.agg (encE (pars leaf).1).toArray)), (31, .v (.bool false))] [15, 14, 13, 12, 11, 10, 9, 8, 7, 6, 5, 4, 3, 2, 1, 0] (calm_body _ _ _) (by intro k _ h; exact h) hr2 (by kernel_rfl) ?_
    refine J.pick1 16 (by kernel_rfl) (by kernel_rfl) ?_
    refine J.storeq (i := 3) (m' := [⟨32, [.int .i64 bits]⟩, ⟨36, encT x⟩, ⟨26, [.int .i64 ot, .slice ola oln olc, .slice opa opn opc]⟩, ⟨42, encE (pars leaf).1⟩, ⟨42, encE (pars leaf).1⟩]) (by kernel_rfl) (by simp) rfl (by simp) ?_
    refine J.take1 [(17, .u)] [6, 7] [(6, .loc 3 0), (7, .v (.bool false))] [17, 16, 15, 14, 13, 12, 11, 10, 9, 8, 7, 6, 5, 4, 3, 2, 1, 0] (calm_body _ _ _) (by kernel_rfl) ?_
    refine J.pdone (by kernel_rfl) ?_
    refine J.ret (v := .tuple #[.agg (encE (pars leaf).1).toArray, .bool false]) (by kernel_rfl) (by kernel_rfl) (fun w1 A1 m1 hac l1 => by rw [holdsF, hc1]; rfl)
end Go.Proofs.Ytkgokehkobifkaa.J

/- Package seek: Check. -/
namespace Go.Proofs.Ytkgokehkobifkaa.J
open Go Go.RowKit

/-- An opening, as its parts are read. -/
structure Opn where
  t : Int
  leaf : List UInt8
  path : List Dg
def Opn.none (o : Opn) : Bool := decide (o.t = 0 ∧ o.leaf.length = 0 ∧ o.path.length = 0)
def Opn.holds (bits : Int) (x : Tab) (N : Nat) (o : Opn) : Bool := holdsF bits x.root N o.t o.leaf o.path
def seekC (bits : Int) (x : Tab) (N : Nat) (key : Str) (btw : Bool) (a b : Opn) : Ent × Bool × Int :=
  if (!a.holds bits x N || !coversF x key) = true then (ent0, false, 8)
  else if (!btw) = true then (if (!(seq (pars a.leaf).1.key key) || !b.none) = true then (ent0, false, 8) else ((pars a.leaf).1, true, 0))
  else if (!b.holds bits x N || (IntKind.i64.wrap (b.t - 1) != a.t) || !slt (pars a.leaf).1.key key || sle (pars b.leaf).1.key key) = true then (ent0, false, 8)
  else (ent0, false, 0)

theorem seekCheck_calls (bits : Int) (x : Tab) (N : Nat) (hx : x.count = ((N : Nat) : Int)) (hN : N ≤ 1000000) (key : Str) (btw : Bool) (oa ob : Opn) (oala : Option Addr) (oaln oalc : Nat) (oapa : Option Addr) (oapn oapc : Nat) (obla : Option Addr) (obln oblc : Nat) (obpa : Option Addr) (obpn obpc : Nat) (hla : oaln ≤ 1000000) (hlb : obln ≤ 1000000) (Ac : Nat → Prop) (W : World) (hA : ∀ k, Ac k → k < W.heap.size) (hsa : Sl 1 u8 Ac W oala oaln oalc oa.leaf) (hpa : Sl 32 dcells Ac W oapa oapn oapc oa.path) (hsb : Sl 1 u8 Ac W obla obln oblc ob.leaf) (hpb : Sl 32 dcells Ac W obpa obpn obpc ob.path) :
    Calls Pr 12 #[.agg [.int .i64 bits].toArray, .agg (encT x).toArray, .string key, .agg [.bool btw, .int .i64 oa.t, .slice oala oaln oalc, .slice oapa oapn oapc, .int .i64 ob.t, .slice obla obln oblc, .slice obpa obpn obpc].toArray] W (Ret nobody W fun v w => v = .tuple #[.agg (encE (seekC bits x N key btw oa ob).1).toArray, .bool (seekC bits x N key btw oa ob).2.1, .int .i64 (seekC bits x N key btw oa ob).2.2]) := by
  refine J.enter (fn := Try.f12) (n := 81) Try.func12 (by kernel_rfl) (by kernel_rfl) (by kernel_rfl) hA ?_
  refine J.run [.n, .n] [0, 1, 2, 3] ⟨[(0, .v (.agg [.int .i64 bits].toArray)), (1, .v (.agg (encT x).toArray)), (2, .v (.string key)), (3, .v (.agg [.bool btw, .int .i64 oa.t, .slice oala oaln oalc, .slice oapa oapn oapc, .int .i64 ob.t, .slice obla obln oblc, .slice obpa obpn obpc].toArray))], []⟩ [.c 0] [.o 1 0, .c 2] (by kernel_rfl) ?_
  refine J.new (T := 32) (cs := [.int .i64 bits]) (d := 4) (K := .ptr) (by kernel_rfl) (fun b1 hb1 => ?_)
  refine J.new (T := 36) (cs := encT x) (d := 5) (K := .ptr) (by kernel_rfl) (fun b2 hb2 => ?_)
  refine J.new (T := 28) (cs := [.bool btw, .int .i64 oa.t, .slice oala oaln oalc, .slice oapa oapn oapc, .int .i64 ob.t, .slice obla obln oblc, .slice obpa obpn obpc]) (d := 7) (K := .ptr) (by kernel_rfl) (fun b3 hb3 => ?_)
  refine J.new (T := 42) (cs := [.string (⟨#[]⟩ : Str), .string (⟨#[]⟩ : Str), .bool false, .int .i64 0]) (d := 8) (K := .ptr) (by kernel_rfl) (fun b4 hb4 => ?_)
  refine J.run [.u, .u, .n, .n, .n, .u, .u, .u, .u] [2, 4, 5, 7, 8, 16, 17, 19] ⟨[(2, .v (.string key)), (4, .loc 0 0), (5, .loc 1 0), (7, .loc 2 0), (8, .loc 3 0), (16, .v (.agg [.int .i64 bits].toArray)), (17, .v (.agg (encT x).toArray)), (19, .v (.agg [.int .i64 oa.t, .slice oala oaln oalc, .slice oapa oapn oapc].toArray))], [⟨32, [.int .i64 bits]⟩, ⟨36, encT x⟩, ⟨28, [.bool btw, .int .i64 oa.t, .slice oala oaln oalc, .slice oapa oapn oapc, .int .i64 ob.t, .slice obla obln oblc, .slice obpa obpn obpc]⟩, ⟨42, [.string (⟨#[]⟩ : Str), .string (⟨#[]⟩ : Str), .bool false, .int .i64 0]⟩]⟩ [.o 1 4, .c 2] [.o 3 4, .c 4] (by kernel_rfl) ?_
  refine J.call (d := some 20) (by kernel_rfl) (fun w1 A1 m1 l1 => holds_calls bits x N hx oa.t oala oaln oalc oapa oapn oapc oa.leaf oa.path hN (by omega) nobody w1 noA (hsa.mv m1).any (hpa.mv m1).any) ?_
  rintro _ u1 w1 A1 rfl g1
  have m1 := g1.mv
  replace hsa := hsa.mv m1; replace hpa := hpa.mv m1; replace hsb := hsb.mv m1; replace hpb := hpb.mv m1
  refine J.run [.u, .u, .u] [2, 4, 5, 7, 8, 21, 22] ⟨[(2, .v (.string key)), (4, .loc 0 0), (5, .loc 1 0), (7, .loc 2 0), (8, .loc 3 0), (21, .v (.agg (encE (pars oa.leaf).1).toArray)), (22, .v (.bool (Opn.holds bits x N oa)))], [⟨32, [.int .i64 bits]⟩, ⟨36, encT x⟩, ⟨28, [.bool btw, .int .i64 oa.t, .slice oala oaln oalc, .slice oapa oapn oapc, .int .i64 ob.t, .slice obla obln oblc, .slice obpa obpn obpc]⟩, ⟨42, [.string (⟨#[]⟩ : Str), .string (⟨#[]⟩ : Str), .bool false, .int .i64 0]⟩]⟩ [.o 3 5, .c 4] [.o 3 8, .c 4] (by kernel_rfl) ?_
  refine J.new (T := 42) (cs := [.string (⟨#[]⟩ : Str), .string (⟨#[]⟩ : Str), .bool false, .int .i64 0]) (d := 11) (K := .ptr) (by kernel_rfl) (fun b5 hb5 => ?_)
  refine J.run [.u, .u, .n, .n, .n, .n, .u, .u, .u] [2, 4, 5, 7, 8, 11, 25] ⟨[(2, .v (.string key)), (4, .loc 0 0), (5, .loc 1 0), (7, .loc 2 0), (8, .loc 3 0), (11, .loc 4 0), (25, .v (.bool (!(Opn.holds bits x N oa))))], [⟨32, [.int .i64 bits]⟩, ⟨36, encT x⟩, ⟨28, [.bool btw, .int .i64 oa.t, .slice oala oaln oalc, .slice oapa oapn oapc, .int .i64 ob.t, .slice obla obln oblc, .slice obpa obpn obpc]⟩, ⟨42, [.string (⟨#[]⟩ : Str), .string (⟨#[]⟩ : Str), .bool false, .int .i64 0]⟩, ⟨42, encE (pars oa.leaf).1⟩]⟩ [.o 3 9, .c 4] [.o 6 3, .c 7, .c 12] (by kernel_rfl) ?_
  rcases Bool.eq_false_or_eq_true (!(Opn.holds bits x N oa)) with hc | hc
  · rw [hc]
    try simp only [nrm] at hc
    have hc1 := hc
    refine J.run [.x, .x, .x, .x, .u, .n] [2, 4, 5, 7, 8, 11, 30] ⟨[(2, .v (.string key)), (4, .loc 0 0), (5, .loc 1 0), (7, .loc 2 0), (8, .loc 3 0), (11, .loc 4 0), (30, .v (.bool true))], [⟨32, [.int .i64 bits]⟩, ⟨36, encT x⟩, ⟨28, [.bool btw, .int .i64 oa.t, .slice oala oaln oalc, .slice oapa oapn oapc, .int .i64 ob.t, .slice obla obln oblc, .slice obpa obpn obpc]⟩, ⟨42, [.string (⟨#[]⟩ : Str), .string (⟨#[]⟩ : Str), .bool false, .int .i64 0]⟩, ⟨42, encE (pars oa.leaf).1⟩]⟩ [.o 6 3, .c 7, .c 12] [.c 7, .c 12] (by kernel_rfl) ?_
    refine J.cond (b := true) (k' := 11) (by kernel_rfl) (fun _ => ?_) (fun hc => absurd hc (by decide))
    refine J.run [.n, .n, .u, .u, .u, .u, .n] [8, 9, 10] ⟨[(8, .loc 3 0), (9, .v (.bool false)), (10, .v (.int .i64 8))], [⟨32, [.int .i64 bits]⟩, ⟨36, encT x⟩, ⟨28, [.bool btw, .int .i64 oa.t, .slice oala oaln oalc, .slice oapa oapn oapc, .int .i64 ob.t, .slice obla obln oblc, .slice obpa obpn obpc]⟩, ⟨42, [.string (⟨#[]⟩ : Str), .string (⟨#[]⟩ : Str), .bool false, .int .i64 0]⟩, ⟨42, encE (pars oa.leaf).1⟩]⟩ [.c 8, .c 12] [.c 10, .c 12] (by kernel_rfl) ?_
    refine J.ret (v := .tuple #[.agg [.string (⟨#[]⟩ : Str), .string (⟨#[]⟩ : Str), .bool false, .int .i64 0].toArray, .bool false, .int .i64 8]) (by kernel_rfl) (by kernel_rfl) (fun w1 A1 m1 hac l1 => by simp [seekC, hc1, encE, ent0])
  · rw [hc]
    try simp only [nrm] at hc
    have hc1 := hc
    refine J.run [.w, .w] [2, 4, 5, 7, 8, 11, 25, 26, 27] ⟨[(2, .v (.string key)), (4, .loc 0 0), (5, .loc 1 0), (7, .loc 2 0), (8, .loc 3 0), (11, .loc 4 0), (25, .v (.bool false)), (26, .v (.agg (encT x).toArray)), (27, .v (.string key))], [⟨32, [.int .i64 bits]⟩, ⟨36, encT x⟩, ⟨28, [.bool btw, .int .i64 oa.t, .slice oala oaln oalc, .slice oapa oapn oapc, .int .i64 ob.t, .slice obla obln oblc, .slice obpa obpn obpc]⟩, ⟨42, [.string (⟨#[]⟩ : Str), .string (⟨#[]⟩ : Str), .bool false, .int .i64 0]⟩, ⟨42, encE (pars oa.leaf).1⟩]⟩ [.o 6 3, .c 7, .c 12] [.o 6 5, .c 7, .c 12] (by kernel_rfl) ?_
    refine J.call (d := some 28) (by kernel_rfl) (fun w1 A1 m1 l1 => covers_calls x key nobody w1 noA) ?_
    rintro _ u2 w2 A2 rfl g2
    have m2 := g2.mv
    replace hsa := hsa.mv m2; replace hpa := hpa.mv m2; replace hsb := hsb.mv m2; replace hpb := hpb.mv m2
    refine J.run [.w, .u, .n] [2, 4, 5, 7, 8, 11, 30] ⟨[(2, .v (.string key)), (4, .loc 0 0), (5, .loc 1 0), (7, .loc 2 0), (8, .loc 3 0), (11, .loc 4 0), (30, .v (.bool (!(coversF x key))))], [⟨32, [.int .i64 bits]⟩, ⟨36, encT x⟩, ⟨28, [.bool btw, .int .i64 oa.t, .slice oala oaln oalc, .slice oapa oapn oapc, .int .i64 ob.t, .slice obla obln oblc, .slice obpa obpn obpc]⟩, ⟨42, [.string (⟨#[]⟩ : Str), .string (⟨#[]⟩ : Str), .bool false, .int .i64 0]⟩, ⟨42, encE (pars oa.leaf).1⟩]⟩ [.o 6 6, .c 7, .c 12] [.c 7, .c 12] (by kernel_rfl) ?_
    refine J.cond (b := (!(coversF x key))) (k' := 11) (by kernel_rfl) (fun hc => ?_) (fun hc => ?_)
    · try simp only [nrm] at hc
      have hc2 := hc
      refine J.run [.n, .n, .u, .u, .u, .u, .n] [8, 9, 10] ⟨[(8, .loc 3 0), (9, .v (.bool false)), (10, .v (.int .i64 8))], [⟨32, [.int .i64 bits]⟩, ⟨36, encT x⟩, ⟨28, [.bool btw, .int .i64 oa.t, .slice oala oaln oalc, .slice oapa oapn oapc, .int .i64 ob.t, .slice obla obln oblc, .slice obpa obpn obpc]⟩, ⟨42, [.string (⟨#[]⟩ : Str), .string (⟨#[]⟩ : Str), .bool false, .int .i64 0]⟩, ⟨42, encE (pars oa.leaf).1⟩]⟩ [.c 8, .c 12] [.c 10, .c 12] (by kernel_rfl) ?_
      refine J.ret (v := .tuple #[.agg [.string (⟨#[]⟩ : Str), .string (⟨#[]⟩ : Str), .bool false, .int .i64 0].toArray, .bool false, .int .i64 8]) (by kernel_rfl) (by kernel_rfl) (fun w1 A1 m1 hac l1 => by simp [seekC, hc1, hc2, encE, ent0])
    · try simp only [nrm] at hc
      have hc2 := hc
      refine J.run [.n, .n, .n, .n, .u, .u, .u, .n] [2, 4, 5, 7, 8, 11, 34] ⟨[(2, .v (.string key)), (4, .loc 0 0), (5, .loc 1 0), (7, .loc 2 0), (8, .loc 3 0), (11, .loc 4 0), (34, .v (.bool (!btw)))], [⟨32, [.int .i64 bits]⟩, ⟨36, encT x⟩, ⟨28, [.bool btw, .int .i64 oa.t, .slice oala oaln oalc, .slice oapa oapn oapc, .int .i64 ob.t, .slice obla obln oblc, .slice obpa obpn obpc]⟩, ⟨42, [.string (⟨#[]⟩ : Str), .string (⟨#[]⟩ : Str), .bool false, .int .i64 0]⟩, ⟨42, encE (pars oa.leaf).1⟩]⟩ [.c 11, .c 12] [.c 15, .c 28] (by kernel_rfl) ?_
      refine J.cond (b := (!btw)) (k' := 27) (by kernel_rfl) (fun hc => ?_) (fun hc => ?_)
      · try simp only [nrm] at hc
        have hc3 := hc
        refine J.run [.n, .n, .n, .u, .u, .u, .u, .u] [7, 8, 11, 39] ⟨[(7, .loc 2 0), (8, .loc 3 0), (11, .loc 4 0), (39, .v (.bool (!(seq (((pars oa.leaf).1).key) key))))], [⟨32, [.int .i64 bits]⟩, ⟨36, encT x⟩, ⟨28, [.bool btw, .int .i64 oa.t, .slice oala oaln oalc, .slice oapa oapn oapc, .int .i64 ob.t, .slice obla obln oblc, .slice obpa obpn obpc]⟩, ⟨42, [.string (⟨#[]⟩ : Str), .string (⟨#[]⟩ : Str), .bool false, .int .i64 0]⟩, ⟨42, encE (pars oa.leaf).1⟩]⟩ [.c 16, .c 28] [.o 18 5, .c 19, .c 24, .c 28] (by kernel_rfl) ?_
        rcases Bool.eq_false_or_eq_true (!(seq (((pars oa.leaf).1).key) key)) with hc | hc
        · rw [hc]
          try simp only [nrm] at hc
          have hc4 := hc
          refine J.run [.x, .x, .x, .x, .u, .n] [8, 11, 44] ⟨[(8, .loc 3 0), (11, .loc 4 0), (44, .v (.bool true))], [⟨32, [.int .i64 bits]⟩, ⟨36, encT x⟩, ⟨28, [.bool btw, .int .i64 oa.t, .slice oala oaln oalc, .slice oapa oapn oapc, .int .i64 ob.t, .slice obla obln oblc, .slice obpa obpn obpc]⟩, ⟨42, [.string (⟨#[]⟩ : Str), .string (⟨#[]⟩ : Str), .bool false, .int .i64 0]⟩, ⟨42, encE (pars oa.leaf).1⟩]⟩ [.o 18 5, .c 19, .c 24, .c 28] [.c 19, .c 24, .c 28] (by kernel_rfl) ?_
          refine J.cond (b := true) (k' := 23) (by kernel_rfl) (fun _ => ?_) (fun hc => absurd hc (by decide))
          refine J.run [.n, .n, .u, .u, .u, .u, .n] [8, 9, 10] ⟨[(8, .loc 3 0), (9, .v (.bool false)), (10, .v (.int .i64 8))], [⟨32, [.int .i64 bits]⟩, ⟨36, encT x⟩, ⟨28, [.bool btw, .int .i64 oa.t, .slice oala oaln oalc, .slice oapa oapn oapc, .int .i64 ob.t, .slice obla obln oblc, .slice obpa obpn obpc]⟩, ⟨42, [.string (⟨#[]⟩ : Str), .string (⟨#[]⟩ : Str), .bool false, .int .i64 0]⟩, ⟨42, encE (pars oa.leaf).1⟩]⟩ [.c 20, .c 24, .c 28] [.c 22, .c 24, .c 28] (by kernel_rfl) ?_
          refine J.ret (v := .tuple #[.agg [.string (⟨#[]⟩ : Str), .string (⟨#[]⟩ : Str), .bool false, .int .i64 0].toArray, .bool false, .int .i64 8]) (by kernel_rfl) (by kernel_rfl) (fun w1 A1 m1 hac l1 => by simp [seekC, hc1, hc2, hc3, hc4, encE, ent0])
        · rw [hc]
          try simp only [nrm] at hc
          have hc4 := hc
          refine J.run [.w, .w] [8, 11, 39, 41] ⟨[(8, .loc 3 0), (11, .loc 4 0), (39, .v (.bool false)), (41, .v (.agg [.int .i64 ob.t, .slice obla obln oblc, .slice obpa obpn obpc].toArray))], [⟨32, [.int .i64 bits]⟩, ⟨36, encT x⟩, ⟨28, [.bool btw, .int .i64 oa.t, .slice oala oaln oalc, .slice oapa oapn oapc, .int .i64 ob.t, .slice obla obln oblc, .slice obpa obpn obpc]⟩, ⟨42, [.string (⟨#[]⟩ : Str), .string (⟨#[]⟩ : Str), .bool false, .int .i64 0]⟩, ⟨42, encE (pars oa.leaf).1⟩]⟩ [.o 18 5, .c 19, .c 24, .c 28] [.o 18 7, .c 19, .c 24, .c 28] (by kernel_rfl) ?_
          have hnn : decide (ob.t = 0 ∧ obln = 0 ∧ obpn = 0) = ob.none := by rw [Opn.none, hsb.len, hpb.len]
          refine J.call (d := some 42) (by kernel_rfl) (fun w1 A1 m1 l1 => hnn ▸ none_calls ob.t obla obln oblc obpa obpn obpc nobody w1 noA) ?_
          rintro _ u3 w3 A3 rfl g3
          have m3 := g3.mv
          replace hsa := hsa.mv m3; replace hpa := hpa.mv m3; replace hsb := hsb.mv m3; replace hpb := hpb.mv m3
          refine J.run [.w, .u, .n] [8, 11, 44] ⟨[(8, .loc 3 0), (11, .loc 4 0), (44, .v (.bool (!ob.none)))], [⟨32, [.int .i64 bits]⟩, ⟨36, encT x⟩, ⟨28, [.bool btw, .int .i64 oa.t, .slice oala oaln oalc, .slice oapa oapn oapc, .int .i64 ob.t, .slice obla obln oblc, .slice obpa obpn obpc]⟩, ⟨42, [.string (⟨#[]⟩ : Str), .string (⟨#[]⟩ : Str), .bool false, .int .i64 0]⟩, ⟨42, encE (pars oa.leaf).1⟩]⟩ [.o 18 8, .c 19, .c 24, .c 28] [.c 19, .c 24, .c 28] (by kernel_rfl) ?_
          refine J.cond (b := (!ob.none)) (k' := 23) (by kernel_rfl) (fun hc => ?_) (fun hc => ?_)
          · try simp only [nrm] at hc
            have hc5 := hc
            refine J.run [.n, .n, .u, .u, .u, .u, .n] [8, 9, 10] ⟨[(8, .loc 3 0), (9, .v (.bool false)), (10, .v (.int .i64 8))], [⟨32, [.int .i64 bits]⟩, ⟨36, encT x⟩, ⟨28, [.bool btw, .int .i64 oa.t, .slice oala oaln oalc, .slice oapa oapn oapc, .int .i64 ob.t, .slice obla obln oblc, .slice obpa obpn obpc]⟩, ⟨42, [.string (⟨#[]⟩ : Str), .string (⟨#[]⟩ : Str), .bool false, .int .i64 0]⟩, ⟨42, encE (pars oa.leaf).1⟩]⟩ [.c 20, .c 24, .c 28] [.c 22, .c 24, .c 28] (by kernel_rfl) ?_
            refine J.ret (v := .tuple #[.agg [.string (⟨#[]⟩ : Str), .string (⟨#[]⟩ : Str), .bool false, .int .i64 0].toArray, .bool false, .int .i64 8]) (by kernel_rfl) (by kernel_rfl) (fun w1 A1 m1 hac l1 => by simp [seekC, hc1, hc2, hc3, hc4, hc5, encE, ent0])
          · try simp only [nrm] at hc
            have hc5 := hc
            refine J.run [.n, .n, .n, .u, .u, .u, .u, .n] [8, 9, 10] ⟨[(8, .loc 3 0), (9, .v (.bool true)), (10, .v (.int .i64 0))], [⟨32, [.int .i64 bits]⟩, ⟨36, encT x⟩, ⟨28, [.bool btw, .int .i64 oa.t, .slice oala oaln oalc, .slice oapa oapn oapc, .int .i64 ob.t, .slice obla obln oblc, .slice obpa obpn obpc]⟩, ⟨42, encE (pars oa.leaf).1⟩, ⟨42, encE (pars oa.leaf).1⟩]⟩ [.c 23, .c 24, .c 28] [.c 26, .c 28] (by kernel_rfl) ?_
            refine J.ret (v := .tuple #[.agg (encE (pars oa.leaf).1).toArray, .bool true, .int .i64 0]) (by kernel_rfl) (by kernel_rfl) (fun w1 A1 m1 hac l1 => by simp [seekC, hc1, hc2, hc3, hc4, hc5, encE, ent0])
      · try simp only [nrm] at hc
        have hc3 := hc
        refine J.run [.n, .n, .n, .n, .u, .u, .u, .u] [2, 7, 8, 11, 48, 49, 51] ⟨[(2, .v (.string key)), (7, .loc 2 0), (8, .loc 3 0), (11, .loc 4 0), (48, .v (.agg [.int .i64 bits].toArray)), (49, .v (.agg (encT x).toArray)), (51, .v (.agg [.int .i64 ob.t, .slice obla obln oblc, .slice obpa obpn obpc].toArray))], [⟨32, [.int .i64 bits]⟩, ⟨36, encT x⟩, ⟨28, [.bool btw, .int .i64 oa.t, .slice oala oaln oalc, .slice oapa oapn oapc, .int .i64 ob.t, .slice obla obln oblc, .slice obpa obpn obpc]⟩, ⟨42, [.string (⟨#[]⟩ : Str), .string (⟨#[]⟩ : Str), .bool false, .int .i64 0]⟩, ⟨42, encE (pars oa.leaf).1⟩]⟩ [.c 27, .c 28] [.o 30 4, .c 31, .c 38] (by kernel_rfl) ?_
        refine J.call (d := some 52) (by kernel_rfl) (fun w1 A1 m1 l1 => holds_calls bits x N hx ob.t obla obln oblc obpa obpn obpc ob.leaf ob.path hN (by omega) nobody w1 noA (hsb.mv m1).any (hpb.mv m1).any) ?_
        rintro _ u4 w4 A4 rfl g4
        have m4 := g4.mv
        replace hsa := hsa.mv m4; replace hpa := hpa.mv m4; replace hsb := hsb.mv m4; replace hpb := hpb.mv m4
        refine J.run [.u, .u, .u] [2, 7, 8, 11, 53, 54] ⟨[(2, .v (.string key)), (7, .loc 2 0), (8, .loc 3 0), (11, .loc 4 0), (53, .v (.agg (encE (pars ob.leaf).1).toArray)), (54, .v (.bool (Opn.holds bits x N ob)))], [⟨32, [.int .i64 bits]⟩, ⟨36, encT x⟩, ⟨28, [.bool btw, .int .i64 oa.t, .slice oala oaln oalc, .slice oapa oapn oapc, .int .i64 ob.t, .slice obla obln oblc, .slice obpa obpn obpc]⟩, ⟨42, [.string (⟨#[]⟩ : Str), .string (⟨#[]⟩ : Str), .bool false, .int .i64 0]⟩, ⟨42, encE (pars oa.leaf).1⟩]⟩ [.o 30 5, .c 31, .c 38] [.o 30 8, .c 31, .c 38] (by kernel_rfl) ?_
        refine J.new (T := 42) (cs := [.string (⟨#[]⟩ : Str), .string (⟨#[]⟩ : Str), .bool false, .int .i64 0]) (d := 13) (K := .ptr) (by kernel_rfl) (fun b6 hb6 => ?_)
        refine J.run [.u, .u, .n, .n, .n, .u, .u, .u] [2, 7, 8, 11, 13, 57] ⟨[(2, .v (.string key)), (7, .loc 2 0), (8, .loc 3 0), (11, .loc 4 0), (13, .loc 5 0), (57, .v (.bool (!(Opn.holds bits x N ob))))], [⟨32, [.int .i64 bits]⟩, ⟨36, encT x⟩, ⟨28, [.bool btw, .int .i64 oa.t, .slice oala oaln oalc, .slice oapa oapn oapc, .int .i64 ob.t, .slice obla obln oblc, .slice obpa obpn obpc]⟩, ⟨42, [.string (⟨#[]⟩ : Str), .string (⟨#[]⟩ : Str), .bool false, .int .i64 0]⟩, ⟨42, encE (pars oa.leaf).1⟩, ⟨42, encE (pars ob.leaf).1⟩]⟩ [.o 30 9, .c 31, .c 38] [.o 32 3, .c 33, .c 38] (by kernel_rfl) ?_
        rcases Bool.eq_false_or_eq_true (!(Opn.holds bits x N ob)) with hc | hc
        · rw [hc]
          try simp only [nrm] at hc
          have hc6 := hc
          refine J.run [.x, .x, .x, .x, .x, .x, .x, .x, .u, .u, .x, .x, .x, .x, .u, .u, .x, .x, .x, .x, .u, .n] [8, 78] ⟨[(8, .loc 3 0), (78, .v (.bool true))], [⟨32, [.int .i64 bits]⟩, ⟨36, encT x⟩, ⟨28, [.bool btw, .int .i64 oa.t, .slice oala oaln oalc, .slice oapa oapn oapc, .int .i64 ob.t, .slice obla obln oblc, .slice obpa obpn obpc]⟩, ⟨42, [.string (⟨#[]⟩ : Str), .string (⟨#[]⟩ : Str), .bool false, .int .i64 0]⟩, ⟨42, encE (pars oa.leaf).1⟩, ⟨42, encE (pars ob.leaf).1⟩]⟩ [.o 32 3, .c 33, .c 38] [.c 33, .c 38] (by kernel_rfl) ?_
          refine J.cond (b := true) (k' := 37) (by kernel_rfl) (fun _ => ?_) (fun hc => absurd hc (by decide))
          refine J.run [.n, .n, .u, .u, .u, .u, .n] [8, 9, 10] ⟨[(8, .loc 3 0), (9, .v (.bool false)), (10, .v (.int .i64 8))], [⟨32, [.int .i64 bits]⟩, ⟨36, encT x⟩, ⟨28, [.bool btw, .int .i64 oa.t, .slice oala oaln oalc, .slice oapa oapn oapc, .int .i64 ob.t, .slice obla obln oblc, .slice obpa obpn obpc]⟩, ⟨42, [.string (⟨#[]⟩ : Str), .string (⟨#[]⟩ : Str), .bool false, .int .i64 0]⟩, ⟨42, encE (pars oa.leaf).1⟩, ⟨42, encE (pars ob.leaf).1⟩]⟩ [.c 34, .c 38] [.c 36, .c 38] (by kernel_rfl) ?_
          refine J.ret (v := .tuple #[.agg [.string (⟨#[]⟩ : Str), .string (⟨#[]⟩ : Str), .bool false, .int .i64 0].toArray, .bool false, .int .i64 8]) (by kernel_rfl) (by kernel_rfl) (fun w1 A1 m1 hac l1 => by simp [seekC, hc1, hc2, hc3, hc6, encE, ent0])
        · rw [hc]
          try simp only [nrm] at hc
          have hc6 := hc
          refine J.run [.w, .w, .w, .w, .w, .w, .w, .w, .u, .u] [2, 8, 11, 13, 67] ⟨[(2, .v (.string key)), (8, .loc 3 0), (11, .loc 4 0), (13, .loc 5 0), (67, .v (.bool ((IntKind.i64.wrap (ob.t - 1)) != oa.t)))], [⟨32, [.int .i64 bits]⟩, ⟨36, encT x⟩, ⟨28, [.bool btw, .int .i64 oa.t, .slice oala oaln oalc, .slice oapa oapn oapc, .int .i64 ob.t, .slice obla obln oblc, .slice obpa obpn obpc]⟩, ⟨42, [.string (⟨#[]⟩ : Str), .string (⟨#[]⟩ : Str), .bool false, .int .i64 0]⟩, ⟨42, encE (pars oa.leaf).1⟩, ⟨42, encE (pars ob.leaf).1⟩]⟩ [.o 32 3, .c 33, .c 38] [.o 32 13, .c 33, .c 38] (by kernel_rfl) ?_
          rcases Bool.eq_false_or_eq_true ((IntKind.i64.wrap (ob.t - 1)) != oa.t) with hc | hc
          · rw [hc]
            try simp only [nrm] at hc
            have hc7 := hc
            refine J.run [.x, .x, .x, .x, .u, .u, .x, .x, .x, .x, .u, .n] [8, 78] ⟨[(8, .loc 3 0), (78, .v (.bool true))], [⟨32, [.int .i64 bits]⟩, ⟨36, encT x⟩, ⟨28, [.bool btw, .int .i64 oa.t, .slice oala oaln oalc, .slice oapa oapn oapc, .int .i64 ob.t, .slice obla obln oblc, .slice obpa obpn obpc]⟩, ⟨42, [.string (⟨#[]⟩ : Str), .string (⟨#[]⟩ : Str), .bool false, .int .i64 0]⟩, ⟨42, encE (pars oa.leaf).1⟩, ⟨42, encE (pars ob.leaf).1⟩]⟩ [.o 32 13, .c 33, .c 38] [.c 33, .c 38] (by kernel_rfl) ?_
            refine J.cond (b := true) (k' := 37) (by kernel_rfl) (fun _ => ?_) (fun hc => absurd hc (by decide))
            refine J.run [.n, .n, .u, .u, .u, .u, .n] [8, 9, 10] ⟨[(8, .loc 3 0), (9, .v (.bool false)), (10, .v (.int .i64 8))], [⟨32, [.int .i64 bits]⟩, ⟨36, encT x⟩, ⟨28, [.bool btw, .int .i64 oa.t, .slice oala oaln oalc, .slice oapa oapn oapc, .int .i64 ob.t, .slice obla obln oblc, .slice obpa obpn obpc]⟩, ⟨42, [.string (⟨#[]⟩ : Str), .string (⟨#[]⟩ : Str), .bool false, .int .i64 0]⟩, ⟨42, encE (pars oa.leaf).1⟩, ⟨42, encE (pars ob.leaf).1⟩]⟩ [.c 34, .c 38] [.c 36, .c 38] (by kernel_rfl) ?_
            refine J.ret (v := .tuple #[.agg [.string (⟨#[]⟩ : Str), .string (⟨#[]⟩ : Str), .bool false, .int .i64 0].toArray, .bool false, .int .i64 8]) (by kernel_rfl) (by kernel_rfl) (fun w1 A1 m1 hac l1 => by simp [seekC, hc1, hc2, hc3, hc6, hc7, encE, ent0])
          · rw [hc]
            try simp only [nrm] at hc
            have hc7 := hc
            refine J.run [.w, .w, .w, .w, .u, .u] [2, 8, 13, 73] ⟨[(2, .v (.string key)), (8, .loc 3 0), (13, .loc 5 0), (73, .v (.bool (!(slt (((pars oa.leaf).1).key) key))))], [⟨32, [.int .i64 bits]⟩, ⟨36, encT x⟩, ⟨28, [.bool btw, .int .i64 oa.t, .slice oala oaln oalc, .slice oapa oapn oapc, .int .i64 ob.t, .slice obla obln oblc, .slice obpa obpn obpc]⟩, ⟨42, [.string (⟨#[]⟩ : Str), .string (⟨#[]⟩ : Str), .bool false, .int .i64 0]⟩, ⟨42, encE (pars oa.leaf).1⟩, ⟨42, encE (pars ob.leaf).1⟩]⟩ [.o 32 13, .c 33, .c 38] [.o 32 19, .c 33, .c 38] (by kernel_rfl) ?_
            rcases Bool.eq_false_or_eq_true (!(slt (((pars oa.leaf).1).key) key)) with hc | hc
            · rw [hc]
              try simp only [nrm] at hc
              have hc8 := hc
              refine J.run [.x, .x, .x, .x, .u, .n] [8, 78] ⟨[(8, .loc 3 0), (78, .v (.bool true))], [⟨32, [.int .i64 bits]⟩, ⟨36, encT x⟩, ⟨28, [.bool btw, .int .i64 oa.t, .slice oala oaln oalc, .slice oapa oapn oapc, .int .i64 ob.t, .slice obla obln oblc, .slice obpa obpn obpc]⟩, ⟨42, [.string (⟨#[]⟩ : Str), .string (⟨#[]⟩ : Str), .bool false, .int .i64 0]⟩, ⟨42, encE (pars oa.leaf).1⟩, ⟨42, encE (pars ob.leaf).1⟩]⟩ [.o 32 19, .c 33, .c 38] [.c 33, .c 38] (by kernel_rfl) ?_
              refine J.cond (b := true) (k' := 37) (by kernel_rfl) (fun _ => ?_) (fun hc => absurd hc (by decide))
              refine J.run [.n, .n, .u, .u, .u, .u, .n] [8, 9, 10] ⟨[(8, .loc 3 0), (9, .v (.bool false)), (10, .v (.int .i64 8))], [⟨32, [.int .i64 bits]⟩, ⟨36, encT x⟩, ⟨28, [.bool btw, .int .i64 oa.t, .slice oala oaln oalc, .slice oapa oapn oapc, .int .i64 ob.t, .slice obla obln oblc, .slice obpa obpn obpc]⟩, ⟨42, [.string (⟨#[]⟩ : Str), .string (⟨#[]⟩ : Str), .bool false, .int .i64 0]⟩, ⟨42, encE (pars oa.leaf).1⟩, ⟨42, encE (pars ob.leaf).1⟩]⟩ [.c 34, .c 38] [.c 36, .c 38] (by kernel_rfl) ?_
              refine J.ret (v := .tuple #[.agg [.string (⟨#[]⟩ : Str), .string (⟨#[]⟩ : Str), .bool false, .int .i64 0].toArray, .bool false, .int .i64 8]) (by kernel_rfl) (by kernel_rfl) (fun w1 A1 m1 hac l1 => by simp [seekC, hc1, hc2, hc3, hc6, hc7, hc8, encE, ent0])
            · rw [hc]
              try simp only [nrm] at hc
              have hc8 := hc
              refine J.run [.w, .w, .w, .w, .u, .n] [8, 78] ⟨[(8, .loc 3 0), (78, .v (.bool (sle (((pars ob.leaf).1).key) key)))], [⟨32, [.int .i64 bits]⟩, ⟨36, encT x⟩, ⟨28, [.bool btw, .int .i64 oa.t, .slice oala oaln oalc, .slice oapa oapn oapc, .int .i64 ob.t, .slice obla obln oblc, .slice obpa obpn obpc]⟩, ⟨42, [.string (⟨#[]⟩ : Str), .string (⟨#[]⟩ : Str), .bool false, .int .i64 0]⟩, ⟨42, encE (pars oa.leaf).1⟩, ⟨42, encE (pars ob.leaf).1⟩]⟩ [.o 32 19, .c 33, .c 38] [.c 33, .c 38] (by kernel_rfl) ?_
              refine J.cond (b := (sle (((pars ob.leaf).1).key) key)) (k' := 37) (by kernel_rfl) (fun hc => ?_) (fun hc => ?_)
              · try simp only [nrm] at hc
                have hc9 := hc
                refine J.run [.n, .n, .u, .u, .u, .u, .n] [8, 9, 10] ⟨[(8, .loc 3 0), (9, .v (.bool false)), (10, .v (.int .i64 8))], [⟨32, [.int .i64 bits]⟩, ⟨36, encT x⟩, ⟨28, [.bool btw, .int .i64 oa.t, .slice oala oaln oalc, .slice oapa oapn oapc, .int .i64 ob.t, .slice obla obln oblc, .slice obpa obpn obpc]⟩, ⟨42, [.string (⟨#[]⟩ : Str), .string (⟨#[]⟩ : Str), .bool false, .int .i64 0]⟩, ⟨42, encE (pars oa.leaf).1⟩, ⟨42, encE (pars ob.leaf).1⟩]⟩ [.c 34, .c 38] [.c 36, .c 38] (by kernel_rfl) ?_
                refine J.ret (v := .tuple #[.agg [.string (⟨#[]⟩ : Str), .string (⟨#[]⟩ : Str), .bool false, .int .i64 0].toArray, .bool false, .int .i64 8]) (by kernel_rfl) (by kernel_rfl) (fun w1 A1 m1 hac l1 => by simp [seekC, hc1, hc2, hc3, hc6, hc7, hc8, hc9, encE, ent0])
              · try simp only [nrm] at hc
                have hc9 := hc
                refine J.run [.n, .n, .n, .u, .u, .u, .u, .n] [8, 9, 10] ⟨[(8, .loc 3 0), (9, .v (.bool false)), (10, .v (.int .i64 0))], [⟨32, [.int .i64 bits]⟩, ⟨36, encT x⟩, ⟨28, [.bool btw, .int .i64 oa.t, .slice oala oaln oalc, .slice oapa oapn oapc, .int .i64 ob.t, .slice obla obln oblc, .slice obpa obpn obpc]⟩, ⟨42, [.string (⟨#[]⟩ : Str), .string (⟨#[]⟩ : Str), .bool false, .int .i64 0]⟩, ⟨42, encE (pars oa.leaf).1⟩, ⟨42, encE (pars ob.leaf).1⟩]⟩ [.c 37, .c 38] [.c 40] (by kernel_rfl) ?_
                refine J.ret (v := .tuple #[.agg [.string (⟨#[]⟩ : Str), .string (⟨#[]⟩ : Str), .bool false, .int .i64 0].toArray, .bool false, .int .i64 0]) (by kernel_rfl) (by kernel_rfl) (fun w1 A1 m1 hac l1 => by simp [seekC, hc1, hc2, hc3, hc6, hc7, hc8, hc9, encE, ent0])
end Go.Proofs.Ytkgokehkobifkaa.J

/- Package seek: opens. -/
namespace Go.Proofs.Ytkgokehkobifkaa.J
open Go Go.RowKit

/-- The opening of the i-th leaf. -/
def openF (bits : Int) (ls : List (List UInt8)) (i : Nat) : Opn := ⟨((i : Nat) : Int), ls.getD i [], pathF bits ls i⟩
/-- An opening's value, and what its parts read as. -/
def OpnAt (A : Nat → Prop) (w : World) (v : Value) (o : Opn) : Prop :=
  ∃ la ln lc pa pn pc, v = .agg [.int .i64 o.t, .slice la ln lc, .slice pa pn pc].toArray ∧ Sl 1 u8 A w la ln lc o.leaf ∧ Sl 32 dcells A w pa pn pc o.path

theorem opens_calls (bits : Int) (a : Option Addr) (n c : Nat) (ls : List (List UInt8)) (i : Nat) (hi : i < ls.length) (hsh : Short ls) (hn : ls.length ≤ 1000000) (Ac : Nat → Prop) (W : World) (hA : ∀ k, Ac k → k < W.heap.size) (hs : Rows Ac W a n c ls) :
    Calls Pr 73 #[.agg [.int .i64 bits].toArray, .slice a n c, .int .i64 ((i : Nat) : Int)] W (Ret nobody W fun v w => OpnAt Ac w v (openF bits ls i)) := by
  refine J.enter (fn := Try.f73) (n := 23) Try.func73 (by kernel_rfl) (by kernel_rfl) (by kernel_rfl) hA ?_
  have hlen := hs.len; have hle := hs.le; have hcap := hs.cap; simp only [maxLen] at hcap
  refine J.run [.n, .n] [0, 1, 2] ⟨[(0, .v (.agg [.int .i64 bits].toArray)), (1, .v (.slice a n c)), (2, .v (.int .i64 ((i : Nat) : Int)))], []⟩ [.c 0] [.o 1 0, .c 2] (by kernel_rfl) ?_
  refine J.new (T := 32) (cs := [.int .i64 bits]) (d := 3) (K := .ptr) (by kernel_rfl) (fun b1 hb1 => ?_)
  refine J.new (T := 26) (cs := [.int .i64 0, .slice none 0 0, .slice none 0 0]) (d := 6) (K := .ptr) (by kernel_rfl) (fun b2 hb2 => ?_)
  refine J.run [.n, .n, .n, .u, .u, .u] [1, 2, 6, 10, 11, 12] ⟨[(1, .v (.slice a n c)), (2, .v (.int .i64 ((i : Nat) : Int))), (6, .loc 1 0), (10, .v (.agg [.int .i64 bits].toArray)), (11, .v (.slice a n c)), (12, .v (.int .i64 ((i : Nat) : Int)))], [⟨32, [.int .i64 bits]⟩, ⟨26, [.int .i64 0, .slice none 0 0, .slice none 0 0]⟩]⟩ [.o 1 2, .c 2] [.o 3 3, .c 4] (by kernel_rfl) ?_
  refine J.call (d := some 13) (by kernel_rfl) (fun w1 A1 m1 l1 => Path_calls bits a n c ls i (by omega) (by first | assumption | exact Short.take (by assumption) _ | exact Short.drop (by assumption) _ | exact Short.drop (Short.take (by assumption) _) _) (by omega) nobody w1 noA (hs.mv m1).any) ?_
  rintro _ u1 w1 A1 ⟨a1, n1, c1, rfl, hn1⟩ g1
  have hblhn1 := hn1.blk_lt; have hglhn1 := g1.le
  refine J.grab hn1 ?_
  have m1 := g1.grab hn1
  replace hs := hs.mv m1
  replace hn1 := hn1.take g1 rfl
  refine J.run [.u, .u, .u, .u, .u, .n, .n, .n, .u, .u, .u] [6, 7, 16, 17, 18] ⟨[(6, .loc 1 0), (7, .v (.slice a1 n1 c1)), (16, .v (.int .i64 ((i : Nat) : Int))), (17, .v (.slice a n c)), (18, .v (.int .i64 ((i : Nat) : Int)))], [⟨32, [.int .i64 bits]⟩, ⟨26, [.int .i64 0, .slice none 0 0, .slice none 0 0]⟩]⟩ [.o 3 4, .c 4] [.o 5 3, .c 6] (by kernel_rfl) ?_
  obtain ⟨p1, o1, rfl⟩ := hs.addr (by omega)
  refine J.idx (b := p1) (off := o1) (len := n) (i := ((i : Nat) : Int)) (sz := 1) (d := 19) (by kernel_rfl) (by omega) (by omega) ?_
  obtain ⟨x1, hx1⟩ : ∃ zq, (ls)[i]? = some zq := ⟨_, List.getElem?_eq_getElem (by omega)⟩
  obtain ⟨ra1, rn1, rc1, hrow1, hld1⟩ := hs.row hx1
  have hshhrow1 := (Short.at (by assumption) hx1 : x1.length ≤ 1000000); have hllhrow1 := hrow1.len
  refine J.ld (T := 23) (b := p1) (off := o1 + i * 1) (d := 20) (v := .slice ra1 rn1 rc1) (by kernel_rfl) (fun w1 A1 m1 l1 => hld1 _ _ _ m1 _ _ (by kernel_rfl)) ?_
  refine J.run [.u, .u, .u, .n] [6] ⟨[(6, .loc 1 0)], [⟨32, [.int .i64 bits]⟩, ⟨26, [.int .i64 ((i : Nat) : Int), .slice ra1 rn1 rc1, .slice a1 n1 c1]⟩]⟩ [.o 5 5, .c 6] [.c 6] (by kernel_rfl) ?_
  have hg : ls.getD i [] = x1 := by simp [List.getD, hx1]
  refine J.ret (v := .agg [.int .i64 ((i : Nat) : Int), .slice ra1 rn1 rc1, .slice a1 n1 c1].toArray) (by kernel_rfl) (by kernel_rfl) (fun w1 A1 m1 hac l1 => ⟨_, _, _, _, _, _, rfl, by show Sl 1 u8 Ac _ _ _ _ (ls.getD i []); rw [hg]; exact (hrow1.mv m1).weaken hac, (hn1.mv m1).sl (fun x _ => rfl) (by decide) hA⟩)
end Go.Proofs.Ytkgokehkobifkaa.J

/- Package seek: Prove. -/
namespace Go.Proofs.Ytkgokehkobifkaa.J
open Go Go.RowKit

def opn0 : Opn := ⟨0, [], []⟩
/-- A point's value, and what its parts read as. -/
def PtAt (A : Nat → Prop) (w : World) (v : Value) (p : Bool × Opn × Opn) : Prop :=
  ∃ la ln lc pa pn pc la' ln' lc' pa' pn' pc', v = .agg [.bool p.1, .int .i64 p.2.1.t, .slice la ln lc, .slice pa pn pc, .int .i64 p.2.2.t, .slice la' ln' lc', .slice pa' pn' pc'].toArray ∧
    Sl 1 u8 A w la ln lc p.2.1.leaf ∧ Sl 32 dcells A w pa pn pc p.2.1.path ∧ Sl 1 u8 A w la' ln' lc' p.2.2.leaf ∧ Sl 32 dcells A w pa' pn' pc' p.2.2.path
def proveF (bits : Int) (l : List Ent) (key : Str) : (Bool × Opn × Opn) × Int :=
  if FitL l then (if hasKey key l = true then ((false, openF bits (l.map entB) (cntLt key l), opn0), 0)
    else if cntLt key l = 0 ∨ cntLt key l = l.length then ((false, opn0, opn0), 5)
    else ((true, openF bits (l.map entB) (cntLt key l - 1), openF bits (l.map entB) (cntLt key l)), 0))
  else ((false, opn0, opn0), 1)
theorem PtAt.zero (A : Nat → Prop) (w : World) : PtAt A w (.agg [.bool false, .int .i64 0, .slice none 0 0, .slice none 0 0, .int .i64 0, .slice none 0 0, .slice none 0 0].toArray) (false, opn0, opn0) :=
  ⟨none, 0, 0, none, 0, 0, none, 0, 0, none, 0, 0, rfl, Sl.nil none (by decide), Sl.nil none (by decide), Sl.nil none (by decide), Sl.nil none (by decide)⟩
theorem hasKey_cnt {k : Str} {l : List Ent} (h : hasKey k l = true) : cntLt k l < l.length := by
  obtain ⟨x, hx, hk⟩ := List.any_eq_true.1 h
  unfold cntLt
  rcases Nat.lt_or_ge (l.countP fun e => slt e.key k) l.length with h1 | h1
  · exact h1
  · have h2 := List.countP_eq_length.1 (Nat.le_antisymm List.countP_le_length h1) x hx
    rw [seq_iff.1 hk, slt_irrefl] at h2; cases h2

theorem prove_calls (bits : Int) (a : Option Addr) (n c : Nat) (l : List Ent) (key : Str) (Ac : Nat → Prop) (W : World) (hA : ∀ k, Ac k → k < W.heap.size) (hs : Sl 4 encE Ac W a n c l) :
    Calls Pr 25 #[.agg [.int .i64 bits].toArray, .slice a n c, .string key] W (Ret nobody W fun v w => ∃ pv, v = .tuple #[pv, .int .i64 (proveF bits l key).2] ∧ PtAt Ac w pv (proveF bits l key).1) := by
  refine J.enter (fn := Try.f25) (n := 50) Try.func25 (by kernel_rfl) (by kernel_rfl) (by kernel_rfl) hA ?_
  have hlen := hs.len; have hle := hs.le; have hcap := hs.cap; simp only [maxLen] at hcap; have hcl := cntLt_le key l
  refine J.run [.n, .n] [0, 1, 2] ⟨[(0, .v (.agg [.int .i64 bits].toArray)), (1, .v (.slice a n c)), (2, .v (.string key))], []⟩ [.c 0] [.o 1 0, .c 2] (by kernel_rfl) ?_
  refine J.new (T := 32) (cs := [.int .i64 bits]) (d := 3) (K := .ptr) (by kernel_rfl) (fun b1 hb1 => ?_)
  refine J.new (T := 28) (cs := [.bool false, .int .i64 0, .slice none 0 0, .slice none 0 0, .int .i64 0, .slice none 0 0, .slice none 0 0]) (d := 6) (K := .ptr) (by kernel_rfl) (fun b2 hb2 => ?_)
  refine J.run [.u, .n, .n, .n, .n, .u] [1, 2, 3, 6, 11] ⟨[(1, .v (.slice a n c)), (2, .v (.string key)), (3, .loc 0 0), (6, .loc 1 0), (11, .v (.slice a n c))], [⟨32, [.int .i64 bits]⟩, ⟨28, [.bool false, .int .i64 0, .slice none 0 0, .slice none 0 0, .int .i64 0, .slice none 0 0, .slice none 0 0]⟩]⟩ [.o 1 2, .c 2] [.o 4 1, .c 5, .c 10] (by kernel_rfl) ?_
  refine J.call (d := some 12) (by kernel_rfl) (fun w1 A1 m1 l1 => fit_calls a n c l nobody w1 noA (hs.mv m1).any) ?_
  rintro _ u1 w1 A1 rfl g1
  have m1 := g1.mv
  replace hs := hs.mv m1
  refine J.run [.u, .n] [1, 2, 3, 6, 13] ⟨[(1, .v (.slice a n c)), (2, .v (.string key)), (3, .loc 0 0), (6, .loc 1 0), (13, .v (.bool (!(decide (FitL l)))))], [⟨32, [.int .i64 bits]⟩, ⟨28, [.bool false, .int .i64 0, .slice none 0 0, .slice none 0 0, .int .i64 0, .slice none 0 0, .slice none 0 0]⟩]⟩ [.o 4 2, .c 5, .c 10] [.c 5, .c 10] (by kernel_rfl) ?_
  refine J.cond (b := (!(decide (FitL l)))) (k' := 9) (by kernel_rfl) (fun hc => ?_) (fun hc => ?_)
  · try simp only [nrm] at hc
    have hc1 := hc
    refine J.run [.n, .n, .u, .u, .u, .n] [6, 7] ⟨[(6, .loc 1 0), (7, .v (.int .i64 1))], [⟨32, [.int .i64 bits]⟩, ⟨28, [.bool false, .int .i64 0, .slice none 0 0, .slice none 0 0, .int .i64 0, .slice none 0 0, .slice none 0 0]⟩]⟩ [.c 6, .c 10] [.c 8, .c 10] (by kernel_rfl) ?_
    refine J.ret (v := .tuple #[.agg [.bool false, .int .i64 0, .slice none 0 0, .slice none 0 0, .int .i64 0, .slice none 0 0, .slice none 0 0].toArray, .int .i64 1]) (by kernel_rfl) (by kernel_rfl) (fun w1 A1 m1 hac l1 => by rw [proveF, if_neg hc1]; exact ⟨_, rfl, PtAt.zero _ _⟩)
  · try simp only [nrm] at hc
    have hc1 := hc
    refine J.run [.n, .n, .n, .u, .u] [1, 3, 6, 16, 17] ⟨[(1, .v (.slice a n c)), (3, .loc 0 0), (6, .loc 1 0), (16, .v (.slice a n c)), (17, .v (.string key))], [⟨32, [.int .i64 bits]⟩, ⟨28, [.bool false, .int .i64 0, .slice none 0 0, .slice none 0 0, .int .i64 0, .slice none 0 0, .slice none 0 0]⟩]⟩ [.c 9, .c 10] [.o 11 2, .c 12] (by kernel_rfl) ?_
    have hF : FitL l := hc1; obtain ⟨f1, f2, hso, f4⟩ := id hF
    refine J.call (d := some 18) (by kernel_rfl) (fun w1 A1 m1 l1 => place_calls a n c l key hso (by omega) nobody w1 noA (hs.mv m1).any) ?_
    rintro _ u2 w2 A2 rfl g2
    have m2 := g2.mv
    replace hs := hs.mv m2
    refine J.run [.u, .u, .u, .u, .u, .n, .n, .n, .u] [1, 3, 6, 8, 9, 21] ⟨[(1, .v (.slice a n c)), (3, .loc 0 0), (6, .loc 1 0), (8, .v (.int .i64 ((cntLt key l : Nat) : Int))), (9, .v (.bool (hasKey key l))), (21, .v (.slice a n c))], [⟨32, [.int .i64 bits]⟩, ⟨28, [.bool false, .int .i64 0, .slice none 0 0, .slice none 0 0, .int .i64 0, .slice none 0 0, .slice none 0 0]⟩]⟩ [.o 11 3, .c 12] [.o 13 1, .c 14] (by kernel_rfl) ?_
    refine J.call (d := some 22) (by kernel_rfl) (fun w1 A1 m1 l1 => leaves_calls a n c l (by omega) nobody w1 noA (hs.mv m1).any) ?_
    rintro _ u3 w3 A3 ⟨a1, c1, rfl, hrn1⟩ g3
    have m3 := g3.mv
    replace hs := hs.mv m3
    have hr1 : Rows A3 w3 a1 n c1 (l.map entB) := hrn1 A3 g3.bd
    refine J.run [.u, .n, .n, .n, .n, .n, .u, .u, .n] [1, 3, 6, 8, 10, 23] ⟨[(1, .v (.slice a n c)), (3, .loc 0 0), (6, .loc 1 0), (8, .v (.int .i64 ((cntLt key l : Nat) : Int))), (10, .v (.slice a1 n c1)), (23, .v (.bool (hasKey key l)))], [⟨32, [.int .i64 bits]⟩, ⟨28, [.bool false, .int .i64 0, .slice none 0 0, .slice none 0 0, .int .i64 0, .slice none 0 0, .slice none 0 0]⟩]⟩ [.o 13 2, .c 14] [.c 18, .b 0, .c 29] (by kernel_rfl) ?_
    refine J.cond (b := (hasKey key l)) (k' := 22) (by kernel_rfl) (fun hc => ?_) (fun hc => ?_)
    · try simp only [nrm] at hc
      have hc2 := hc
      refine J.run [.n, .n, .u, .u, .u] [6, 25, 26, 27] ⟨[(6, .loc 1 0), (25, .v (.agg [.int .i64 bits].toArray)), (26, .v (.slice a1 n c1)), (27, .v (.int .i64 ((cntLt key l : Nat) : Int)))], [⟨32, [.int .i64 bits]⟩, ⟨28, [.bool false, .int .i64 0, .slice none 0 0, .slice none 0 0, .int .i64 0, .slice none 0 0, .slice none 0 0]⟩]⟩ [.c 19, .b 0, .c 29] [.o 20 3, .c 21, .b 0, .c 29] (by kernel_rfl) ?_
      have hkc := hasKey_cnt hc2
      refine J.call (d := some 28) (by kernel_rfl) (fun w1 A1 m1 l1 => opens_calls bits a1 n c1 (l.map entB) (cntLt key l) (by simp; omega) (short_ents _) (by simp; omega) A1 w1 m1.bdd (hr1.mv m1)) ?_
      rintro _ u4 w4 A4 ⟨la1, ln1, lc1, pa1, pn1, pc1, rfl, hol1, hop1⟩ g4
      have m4 := g4.mv
      replace hs := hs.mv m4; replace hr1 := hr1.mv m4
      refine J.run [.u, .u, .u, .n] [6, 7] ⟨[(6, .loc 1 0), (7, .v (.int .i64 0))], [⟨32, [.int .i64 bits]⟩, ⟨28, [.bool false, .int .i64 ((openF bits (l.map entB) (cntLt key l)).t), .slice la1 ln1 lc1, .slice pa1 pn1 pc1, .int .i64 0, .slice none 0 0, .slice none 0 0]⟩]⟩ [.o 20 4, .c 21, .b 0, .c 29] [.c 21, .b 0, .c 29] (by kernel_rfl) ?_
      refine J.ret (v := .tuple #[.agg [.bool false, .int .i64 ((openF bits (l.map entB) (cntLt key l)).t), .slice la1 ln1 lc1, .slice pa1 pn1 pc1, .int .i64 0, .slice none 0 0, .slice none 0 0].toArray, .int .i64 0]) (by kernel_rfl) (by kernel_rfl) (fun w1 A1 m1 hac l1 => by rw [proveF, if_pos hF, if_pos hc2]; exact ⟨_, rfl, ⟨_, _, _, _, _, _, _, _, _, _, _, _, rfl, ((hol1.mv m1).weaken hac), ((hop1.mv m1).weaken hac), (Sl.nil none (by decide)), (Sl.nil none (by decide))⟩⟩)
    · try simp only [nrm] at hc
      have hc2 := hc
      refine J.run [.n, .n, .u, .u, .u] [1, 3, 6, 8, 10, 33] ⟨[(1, .v (.slice a n c)), (3, .loc 0 0), (6, .loc 1 0), (8, .v (.int .i64 ((cntLt key l : Nat) : Int))), (10, .v (.slice a1 n c1)), (33, .v (.bool (((cntLt key l : Nat) : Int) == 0)))], [⟨32, [.int .i64 bits]⟩, ⟨28, [.bool false, .int .i64 0, .slice none 0 0, .slice none 0 0, .int .i64 0, .slice none 0 0, .slice none 0 0]⟩]⟩ [.c 22, .b 0, .c 29] [.o 23 3, .c 24, .b 0, .c 29] (by kernel_rfl) ?_
      rcases Bool.eq_false_or_eq_true (((cntLt key l : Nat) : Int) == 0) with hc | hc
      · rw [hc]
        try simp only [nrm] at hc
        have hc3 := hc
        refine J.run [.x, .x, .x, .x, .u, .u, .n] [3, 6, 8, 10, 30] ⟨[(3, .loc 0 0), (6, .loc 1 0), (8, .v (.int .i64 ((cntLt key l : Nat) : Int))), (10, .v (.slice a1 n c1)), (30, .v (.bool true))], [⟨32, [.int .i64 bits]⟩, ⟨28, [.bool false, .int .i64 0, .slice none 0 0, .slice none 0 0, .int .i64 0, .slice none 0 0, .slice none 0 0]⟩]⟩ [.o 23 3, .c 24, .b 0, .c 29] [.c 24, .b 0, .c 29] (by kernel_rfl) ?_
        refine J.cond (b := true) (k' := 28) (by kernel_rfl) (fun _ => ?_) (fun hc => absurd hc (by decide))
        refine J.run [.n, .n, .u, .u, .u, .n] [6, 7] ⟨[(6, .loc 1 0), (7, .v (.int .i64 5))], [⟨32, [.int .i64 bits]⟩, ⟨28, [.bool false, .int .i64 0, .slice none 0 0, .slice none 0 0, .int .i64 0, .slice none 0 0, .slice none 0 0]⟩]⟩ [.c 25, .b 0, .c 29] [.c 27, .b 0, .c 29] (by kernel_rfl) ?_
        refine J.ret (v := .tuple #[.agg [.bool false, .int .i64 0, .slice none 0 0, .slice none 0 0, .int .i64 0, .slice none 0 0, .slice none 0 0].toArray, .int .i64 5]) (by kernel_rfl) (by kernel_rfl) (fun w1 A1 m1 hac l1 => by rw [proveF, if_pos hF, if_neg (by simp [hc2]), if_pos (by omega)]; exact ⟨_, rfl, PtAt.zero _ _⟩)
      · rw [hc]
        try simp only [nrm] at hc
        have hc3 := hc
        refine J.run [.w, .w, .w, .w, .u, .u, .n] [3, 6, 8, 10, 30] ⟨[(3, .loc 0 0), (6, .loc 1 0), (8, .v (.int .i64 ((cntLt key l : Nat) : Int))), (10, .v (.slice a1 n c1)), (30, .v (.bool (((cntLt key l : Nat) : Int) == ((n : Nat) : Int))))], [⟨32, [.int .i64 bits]⟩, ⟨28, [.bool false, .int .i64 0, .slice none 0 0, .slice none 0 0, .int .i64 0, .slice none 0 0, .slice none 0 0]⟩]⟩ [.o 23 3, .c 24, .b 0, .c 29] [.c 24, .b 0, .c 29] (by kernel_rfl) ?_
        refine J.cond (b := (((cntLt key l : Nat) : Int) == ((n : Nat) : Int))) (k' := 28) (by kernel_rfl) (fun hc => ?_) (fun hc => ?_)
        · try simp only [nrm] at hc
          have hc4 := hc
          refine J.run [.n, .n, .u, .u, .u, .n] [6, 7] ⟨[(6, .loc 1 0), (7, .v (.int .i64 5))], [⟨32, [.int .i64 bits]⟩, ⟨28, [.bool false, .int .i64 0, .slice none 0 0, .slice none 0 0, .int .i64 0, .slice none 0 0, .slice none 0 0]⟩]⟩ [.c 25, .b 0, .c 29] [.c 27, .b 0, .c 29] (by kernel_rfl) ?_
          refine J.ret (v := .tuple #[.agg [.bool false, .int .i64 0, .slice none 0 0, .slice none 0 0, .int .i64 0, .slice none 0 0, .slice none 0 0].toArray, .int .i64 5]) (by kernel_rfl) (by kernel_rfl) (fun w1 A1 m1 hac l1 => by rw [proveF, if_pos hF, if_neg (by simp [hc2]), if_pos (by omega)]; exact ⟨_, rfl, PtAt.zero _ _⟩)
        · try simp only [nrm] at hc
          have hc4 := hc
          refine J.run [.n, .n, .n] [3, 6, 8, 10] ⟨[(3, .loc 0 0), (6, .loc 1 0), (8, .v (.int .i64 ((cntLt key l : Nat) : Int))), (10, .v (.slice a1 n c1))], [⟨32, [.int .i64 bits]⟩, ⟨28, [.bool false, .int .i64 0, .slice none 0 0, .slice none 0 0, .int .i64 0, .slice none 0 0, .slice none 0 0]⟩]⟩ [.c 28, .b 0, .c 29] [.c 30, .c 31] (by kernel_rfl) ?_
          have hm1 : IntKind.i64.wrap (((cntLt key l : Nat) : Int) - 1) = ((cntLt key l - 1 : Nat) : Int) := by rw [wrap_i64 (by omega) (by omega)]; omega
          refine J.draw [1] nobody (by kernel_rfl) (by kernel_rfl) (fun _ h => h.elim) (fun w5 A5 m5 hr2 hX1 => ?_)
          replace hs := hs.mv m5; replace hr1 := hr1.mv m5
          refine J.take0 [(0, .u), (1, .u), (2, .u), (3, .u), (5, .u), (6, .u), (7, .u)] [6, 40, 41, 43, 45, 46, 47] [(6, .loc 1 0), (40, .v (.agg [.int .i64 bits].toArray)), (41, .v (.slice a1 n c1)), (43, .v (.int .i64 (IntKind.i64.wrap (((cntLt key l : Nat) : Int) - 1)))), (45, .v (.agg [.int .i64 bits].toArray)), (46, .v (.slice a1 n c1)), (47, .v (.int .i64 ((cntLt key l : Nat) : Int)))] [7, 6, 5, 3, 2, 1, 0] (calm_body _ _ _) (by intro k _ h; exact h) hr2 (by kernel_rfl) ?_
          rw [hm1]
          refine J.pick1 4 (by kernel_rfl) (by kernel_rfl) ?_
          refine J.callq (d := some 44) (by kernel_rfl) (fun w1 A1 m1 l1 => opens_calls bits a1 n c1 (l.map entB) (cntLt key l - 1) (by simp; omega) (short_ents _) (by simp; omega) A1 w1 m1.bdd (hr1.mv m1)) ?_
          rintro _ u5 w6 A6 ⟨la2, ln2, lc2, pa2, pn2, pc2, rfl, hol2, hop2⟩ g5
          have m6 := g5.mv
          replace hs := hs.mv m6; replace hr1 := hr1.mv m6
          refine J.pick1 8 (by kernel_rfl) (by kernel_rfl) ?_
          refine J.callq (d := some 48) (by kernel_rfl) (fun w1 A1 m1 l1 => opens_calls bits a1 n c1 (l.map entB) (cntLt key l) (by simp; omega) (short_ents _) (by simp; omega) A1 w1 m1.bdd (hr1.mv m1)) ?_
          rintro _ u6 w7 A7 ⟨la3, ln3, lc3, pa3, pn3, pc3, rfl, hol3, hop3⟩ g6
          have m7 := g6.mv
          replace hs := hs.mv m7; replace hr1 := hr1.mv m7; replace hol2 := hol2.mv m7; replace hop2 := hop2.mv m7
          refine J.take1 [(9, .u)] [6, 49] [(6, .loc 1 0), (49, .v (.agg [.bool true, .int .i64 ((openF bits (l.map entB) (cntLt key l - 1)).t), .slice la2 ln2 lc2, .slice pa2 pn2 pc2, .int .i64 ((openF bits (l.map entB) (cntLt key l)).t), .slice la3 ln3 lc3, .slice pa3 pn3 pc3].toArray))] [9, 8, 4, 7, 6, 5, 3, 2, 1, 0] (calm_body _ _ _) (by kernel_rfl) ?_
          refine J.pick1 10 (by kernel_rfl) (by kernel_rfl) ?_
          refine J.storeq (i := 1) (m' := [⟨32, [.int .i64 bits]⟩, ⟨28, [.bool true, .int .i64 ((openF bits (l.map entB) (cntLt key l - 1)).t), .slice la2 ln2 lc2, .slice pa2 pn2 pc2, .int .i64 ((openF bits (l.map entB) (cntLt key l)).t), .slice la3 ln3 lc3, .slice pa3 pn3 pc3]⟩]) (by kernel_rfl) (by simp) rfl (by simp) ?_
          refine J.take1 [(11, .u)] [6, 7] [(6, .loc 1 0), (7, .v (.int .i64 0))] [11, 10, 9, 8, 4, 7, 6, 5, 3, 2, 1, 0] (calm_body _ _ _) (by kernel_rfl) ?_
          refine J.pdone (by kernel_rfl) ?_
          refine J.ret (v := .tuple #[.agg [.bool true, .int .i64 ((openF bits (l.map entB) (cntLt key l - 1)).t), .slice la2 ln2 lc2, .slice pa2 pn2 pc2, .int .i64 ((openF bits (l.map entB) (cntLt key l)).t), .slice la3 ln3 lc3, .slice pa3 pn3 pc3].toArray, .int .i64 0]) (by kernel_rfl) (by kernel_rfl) (fun w1 A1 m1 hac l1 => by rw [proveF, if_pos hF, if_neg (by simp [hc2]), if_neg (by omega)]; exact ⟨_, rfl, ⟨_, _, _, _, _, _, _, _, _, _, _, _, rfl, ((hol2.mv m1).weaken hac), ((hop2.mv m1).weaken hac), ((hol3.mv m1).weaken hac), ((hop3.mv m1).weaken hac)⟩⟩)
end Go.Proofs.Ytkgokehkobifkaa.J

/- The law's helpers: opening, point. -/
namespace Go.Proofs.Ytkgokehkobifkaa.J
open Go Go.RowKit

def cutO (o : Opn) : Opn := ⟨o.t, o.leaf.take (min o.leaf.length 1300), o.path.take (min o.path.length 20)⟩

theorem opening_calls (o : Opn) (ola : Option Addr) (oln olc : Nat) (opa : Option Addr) (opn opc : Nat) (Ac : Nat → Prop) (W : World) (hA : ∀ k, Ac k → k < W.heap.size) (hl : Sl 1 u8 Ac W ola oln olc o.leaf) (hp : Sl 32 dcells Ac W opa opn opc o.path) :
    Calls Pr 35 #[.agg [.int .i64 o.t, .slice ola oln olc, .slice opa opn opc].toArray] W (Ret nobody W fun v w => OpnAt Ac w v (cutO o)) := by
  refine J.enter (fn := Try.f35) (n := 24) Try.func35 (by kernel_rfl) (by kernel_rfl) (by kernel_rfl) hA ?_
  have hll := hl.len; have hpl := hp.len
  have hm_oln : (if 1300 < ((oln : Nat) : Int) then 1300 else ((oln : Nat) : Int)) = ((min oln 1300 : Nat) : Int) := by split <;> omega
  have hm_opn : (if 20 < ((opn : Nat) : Int) then 20 else ((opn : Nat) : Int)) = ((min opn 20 : Nat) : Int) := by split <;> omega
  refine J.run [.n, .n] [0] ⟨[(0, .v (.agg [.int .i64 o.t, .slice ola oln olc, .slice opa opn opc].toArray))], []⟩ [.c 0] [.o 1 0, .c 2] (by kernel_rfl) ?_
  refine J.new (T := 26) (cs := [.int .i64 o.t, .slice ola oln olc, .slice opa opn opc]) (d := 1) (K := .ptr) (by kernel_rfl) (fun b1 hb1 => ?_)
  refine J.new (T := 26) (cs := [.int .i64 0, .slice none 0 0, .slice none 0 0]) (d := 2) (K := .ptr) (by kernel_rfl) (fun b2 hb2 => ?_)
  refine J.run [.n, .n, .n] [1, 2] ⟨[(1, .loc 0 0), (2, .loc 1 0)], [⟨26, [.int .i64 o.t, .slice ola oln olc, .slice opa opn opc]⟩, ⟨26, [.int .i64 0, .slice none 0 0, .slice none 0 0]⟩]⟩ [.o 1 2, .c 2] [.o 3 0, .c 4] (by kernel_rfl) ?_
  refine J.new (T := 5) (cs := []) (d := 3) (K := (.sl 0)) (by kernel_rfl) (fun b3 hb3 => ?_)
  refine J.run [.u, .u, .u, .u, .u, .u] [1, 2, 3, 5, 9] ⟨[(1, .loc 0 0), (2, .loc 1 0), (3, .v (.slice (some ⟨b3, 0, none⟩) 0 0)), (5, .v (.slice ola oln olc)), (9, .v (.int .i64 (if 1300 < ((oln : Nat) : Int) then 1300 else ((oln : Nat) : Int))))], [⟨26, [.int .i64 o.t, .slice ola oln olc, .slice opa opn opc]⟩, ⟨26, [.int .i64 0, .slice none 0 0, .slice none 0 0]⟩, ⟨5, []⟩]⟩ [.o 3 1, .c 4] [.o 3 7, .c 4] (by kernel_rfl) ?_
  rw [hm_oln]
  refine J.sl (a := ola) (len := oln) (cap := olc) (sz := 1) (lo := none) (hi := (some ((min oln 1300 : Nat) : Int))) (mx := none) (d := 10) (by kernel_rfl) 0 (min oln 1300) olc (by simp) (by simp) (by simp) (by have := hl.le; omega) (by have := hl.le; omega) (by have := hl.le; omega) (by simp) ?_
  intro a1 ha1 hb1
  rw [hb1 rfl, Nat.sub_zero, Nat.sub_zero]; clear ha1 hb1 a1
  have hp1 := hl.upto (H := min oln 1300) (X := olc) (by have := hl.le; omega) (by have := hl.le; omega) (by have := hl.le; omega)
  rcases Nat.eq_zero_or_pos (min oln 1300) with hz01 | hz01
  · have hnil : (o.leaf.take (min oln 1300)) = [] := List.eq_nil_of_length_eq_zero (by have := hp1.len; omega)
    refine J.app0 (a := some ⟨b3, 0, none⟩) (e := 5) (bytes := 1) (sz := 1) (nn := 0) (c := 0) (T := 23) (Tx := 23) (x := .slice ola (min oln 1300) olc) (d := 11) (by kernel_rfl) (by kernel_rfl) (fun w1 A1 m1 l1 => by have q := (hp1.mv m1).src (P := Pr) (e := 5) (t := 23) (fun x _ => rfl) (fun x _ => u8_one x) (by kernel_rfl); rw [hnil] at q; rw [hz01] at q ⊢; exact q) (by decide) ?_
    have hno1 : Sl 1 u8 Ac W (some ⟨b3, 0, none⟩) 0 0 ((o.leaf.take (min oln 1300))) := by rw [hnil]; exact Sl.nil _ (by decide)
    refine J.run [.u, .u, .n, .n, .n] [1, 2] ⟨[(1, .loc 0 0), (2, .loc 1 0)], [⟨26, [.int .i64 o.t, .slice (some ⟨b3, 0, none⟩) 0 0, .slice opa opn opc]⟩, ⟨26, [.int .i64 0, .slice none 0 0, .slice none 0 0]⟩, ⟨5, []⟩]⟩ [.o 3 9, .c 4] [.o 5 0, .c 6] (by kernel_rfl) ?_
    refine J.new (T := 34) (cs := []) (d := 13) (K := (.sl 0)) (by kernel_rfl) (fun b4 hb4 => ?_)
    refine J.run [.u, .u, .u, .u, .u, .u] [1, 2, 13, 15, 19] ⟨[(1, .loc 0 0), (2, .loc 1 0), (13, .v (.slice (some ⟨b4, 0, none⟩) 0 0)), (15, .v (.slice opa opn opc)), (19, .v (.int .i64 (if 20 < ((opn : Nat) : Int) then 20 else ((opn : Nat) : Int))))], [⟨26, [.int .i64 o.t, .slice (some ⟨b3, 0, none⟩) 0 0, .slice opa opn opc]⟩, ⟨26, [.int .i64 0, .slice none 0 0, .slice none 0 0]⟩, ⟨5, []⟩, ⟨34, []⟩]⟩ [.o 5 1, .c 6] [.o 5 7, .c 6] (by kernel_rfl) ?_
    rw [hm_opn]
    refine J.sl (a := opa) (len := opn) (cap := opc) (sz := 32) (lo := none) (hi := (some ((min opn 20 : Nat) : Int))) (mx := none) (d := 20) (by kernel_rfl) 0 (min opn 20) opc (by simp) (by simp) (by simp) (by have := hp.le; omega) (by have := hp.le; omega) (by have := hp.le; omega) (by simp) ?_
    intro a2 ha2 hb2
    rw [hb2 rfl, Nat.sub_zero, Nat.sub_zero]; clear ha2 hb2 a2
    have hp2 := hp.upto (H := min opn 20) (X := opc) (by have := hp.le; omega) (by have := hp.le; omega) (by have := hp.le; omega)
    rcases Nat.eq_zero_or_pos (min opn 20) with hz02 | hz02
    · have hnil : (o.path.take (min opn 20)) = [] := List.eq_nil_of_length_eq_zero (by have := hp2.len; omega)
      refine J.app0 (a := some ⟨b4, 0, none⟩) (e := 34) (bytes := 32) (sz := 32) (nn := 0) (c := 0) (T := 24) (Tx := 24) (x := .slice opa (min opn 20) opc) (d := 21) (by kernel_rfl) (by kernel_rfl) (fun w1 A1 m1 l1 => by have q := (hp2.mv m1).src (P := Pr) (e := 34) (t := 24) (fun x _ => rfl) (fun x _ => dcells_one x) (by kernel_rfl); rw [hnil] at q; rw [hz02] at q ⊢; exact q) (by decide) ?_
      have hno2 : Sl 32 dcells Ac W (some ⟨b4, 0, none⟩) 0 0 ((o.path.take (min opn 20))) := by rw [hnil]; exact Sl.nil _ (by decide)
      refine J.run [.u, .u, .n, .n, .n, .u, .u, .n] [2] ⟨[(2, .loc 1 0)], [⟨26, [.int .i64 o.t, .slice (some ⟨b3, 0, none⟩) 0 0, .slice (some ⟨b4, 0, none⟩) 0 0]⟩, ⟨26, [.int .i64 o.t, .slice (some ⟨b3, 0, none⟩) 0 0, .slice (some ⟨b4, 0, none⟩) 0 0]⟩, ⟨5, []⟩, ⟨34, []⟩]⟩ [.o 5 9, .c 6] [.c 8] (by kernel_rfl) ?_
      refine J.ret (v := .agg [.int .i64 o.t, .slice (some ⟨b3, 0, none⟩) 0 0, .slice (some ⟨b4, 0, none⟩) 0 0].toArray) (by kernel_rfl) (by kernel_rfl) (fun w1 A1 m1 hac l1 => by unfold cutO; rw [← hll, ← hpl]; exact ⟨_, _, _, _, _, _, rfl, (hno1.mv m1).weaken hac, (hno2.mv m1).weaken hac⟩)
    · skip
      refine J.append (e := 34) (sz := 32) (a := (some ⟨b4, 0, none⟩)) (nn := 0) (c := 0) (T := 24) (Tx := 24) (x := .slice opa (min opn 20) opc) (bytes := 32) (d := 21) (xs := []) (news := (o.path.take (min opn 20)).flatMap dcells) (m := (min opn 20)) (by kernel_rfl) (by kernel_rfl) (.inr ⟨rfl, rfl, by decide, fun h => absurd rfl h⟩) (.inl (by omega)) (fun w1 A1 m1 l1 => (hp2.mv m1).src (e := 34) (fun x _ => rfl) (fun x _ => dcells_one x) (by kernel_rfl)) (by simp only [maxLen]; omega) (by omega) ?_
      intro a3 c1 w1 A1 hn1 m1
      replace hl := hl.mv m1; replace hp := hp.mv m1; replace hp1 := hp1.mv m1; replace hno1 := hno1.mv m1; replace hp2 := hp2.mv m1
      replace hn1 := hn1.re (n' := 0 + min opn 20) (ys := ((o.path.take (min opn 20))).flatMap dcells) rfl (by rw [List.nil_append])
      refine J.run [.u, .u, .n, .n, .n, .u, .u, .n] [2] ⟨[(2, .loc 1 0)], [⟨26, [.int .i64 o.t, .slice (some ⟨b3, 0, none⟩) 0 0, .slice a3 (0 + min opn 20) c1]⟩, ⟨26, [.int .i64 o.t, .slice (some ⟨b3, 0, none⟩) 0 0, .slice a3 (0 + min opn 20) c1]⟩, ⟨5, []⟩, ⟨34, []⟩]⟩ [.o 5 9, .c 6] [.c 8] (by kernel_rfl) ?_
      refine J.ret (v := .agg [.int .i64 o.t, .slice (some ⟨b3, 0, none⟩) 0 0, .slice a3 (0 + min opn 20) c1].toArray) (by kernel_rfl) (by kernel_rfl) (fun w1 A1 m1 hac l1 => by unfold cutO; rw [← hll, ← hpl]; exact ⟨_, _, _, _, _, _, rfl, (hno1.mv m1).weaken hac, (hn1.mv m1).sl (fun x _ => rfl) (by decide) hA⟩)
  · skip
    refine J.append (e := 5) (sz := 1) (a := (some ⟨b3, 0, none⟩)) (nn := 0) (c := 0) (T := 23) (Tx := 23) (x := .slice ola (min oln 1300) olc) (bytes := 1) (d := 11) (xs := []) (news := (o.leaf.take (min oln 1300)).flatMap u8) (m := (min oln 1300)) (by kernel_rfl) (by kernel_rfl) (.inr ⟨rfl, rfl, by decide, fun h => absurd rfl h⟩) (.inl (by omega)) (fun w1 A1 m1 l1 => (hp1.mv m1).src (e := 5) (fun x _ => rfl) (fun x _ => u8_one x) (by kernel_rfl)) (by simp only [maxLen]; omega) (by omega) ?_
    intro a4 c2 w2 A2 hn2 m2
    replace hl := hl.mv m2; replace hp := hp.mv m2; replace hp1 := hp1.mv m2
    replace hn2 := hn2.re (n' := 0 + min oln 1300) (ys := ((o.leaf.take (min oln 1300))).flatMap u8) rfl (by rw [List.nil_append])
    refine J.run [.u, .u, .n, .n, .n] [1, 2] ⟨[(1, .loc 0 0), (2, .loc 1 0)], [⟨26, [.int .i64 o.t, .slice a4 (0 + min oln 1300) c2, .slice opa opn opc]⟩, ⟨26, [.int .i64 0, .slice none 0 0, .slice none 0 0]⟩, ⟨5, []⟩]⟩ [.o 3 9, .c 4] [.o 5 0, .c 6] (by kernel_rfl) ?_
    refine J.new (T := 34) (cs := []) (d := 13) (K := (.sl 0)) (by kernel_rfl) (fun b5 hb5 => ?_)
    replace hn2 := hn2.more hb5
    refine J.run [.u, .u, .u, .u, .u, .u] [1, 2, 13, 15, 19] ⟨[(1, .loc 0 0), (2, .loc 1 0), (13, .v (.slice (some ⟨b5, 0, none⟩) 0 0)), (15, .v (.slice opa opn opc)), (19, .v (.int .i64 (if 20 < ((opn : Nat) : Int) then 20 else ((opn : Nat) : Int))))], [⟨26, [.int .i64 o.t, .slice a4 (0 + min oln 1300) c2, .slice opa opn opc]⟩, ⟨26, [.int .i64 0, .slice none 0 0, .slice none 0 0]⟩, ⟨5, []⟩, ⟨34, []⟩]⟩ [.o 5 1, .c 6] [.o 5 7, .c 6] (by kernel_rfl) ?_
    rw [hm_opn]
    refine J.sl (a := opa) (len := opn) (cap := opc) (sz := 32) (lo := none) (hi := (some ((min opn 20 : Nat) : Int))) (mx := none) (d := 20) (by kernel_rfl) 0 (min opn 20) opc (by simp) (by simp) (by simp) (by have := hp.le; omega) (by have := hp.le; omega) (by have := hp.le; omega) (by simp) ?_
    intro a5 ha3 hb3
    rw [hb3 rfl, Nat.sub_zero, Nat.sub_zero]; clear ha3 hb3 a5
    have hp3 := hp.upto (H := min opn 20) (X := opc) (by have := hp.le; omega) (by have := hp.le; omega) (by have := hp.le; omega)
    rcases Nat.eq_zero_or_pos (min opn 20) with hz03 | hz03
    · have hnil : (o.path.take (min opn 20)) = [] := List.eq_nil_of_length_eq_zero (by have := hp3.len; omega)
      refine J.app0 (a := some ⟨b5, 0, none⟩) (e := 34) (bytes := 32) (sz := 32) (nn := 0) (c := 0) (T := 24) (Tx := 24) (x := .slice opa (min opn 20) opc) (d := 21) (by kernel_rfl) (by kernel_rfl) (fun w1 A1 m1 l1 => by have q := (hp3.mv m1).src (P := Pr) (e := 34) (t := 24) (fun x _ => rfl) (fun x _ => dcells_one x) (by kernel_rfl); rw [hnil] at q; rw [hz03] at q ⊢; exact q) (by decide) ?_
      have hno3 : Sl 32 dcells A2 w2 (some ⟨b5, 0, none⟩) 0 0 ((o.path.take (min opn 20))) := by rw [hnil]; exact Sl.nil _ (by decide)
      refine J.run [.u, .u, .n, .n, .n, .u, .u, .n] [2] ⟨[(2, .loc 1 0)], [⟨26, [.int .i64 o.t, .slice a4 (0 + min oln 1300) c2, .slice (some ⟨b5, 0, none⟩) 0 0]⟩, ⟨26, [.int .i64 o.t, .slice a4 (0 + min oln 1300) c2, .slice (some ⟨b5, 0, none⟩) 0 0]⟩, ⟨5, []⟩, ⟨34, []⟩]⟩ [.o 5 9, .c 6] [.c 8] (by kernel_rfl) ?_
      refine J.ret (v := .agg [.int .i64 o.t, .slice a4 (0 + min oln 1300) c2, .slice (some ⟨b5, 0, none⟩) 0 0].toArray) (by kernel_rfl) (by kernel_rfl) (fun w1 A1 m1 hac l1 => by unfold cutO; rw [← hll, ← hpl]; exact ⟨_, _, _, _, _, _, rfl, (hn2.mv m1).sl (fun x _ => rfl) (by decide) hA, (hno3.mv m1).weaken hac⟩)
    · skip
      refine J.append (e := 34) (sz := 32) (a := (some ⟨b5, 0, none⟩)) (nn := 0) (c := 0) (T := 24) (Tx := 24) (x := .slice opa (min opn 20) opc) (bytes := 32) (d := 21) (xs := []) (news := (o.path.take (min opn 20)).flatMap dcells) (m := (min opn 20)) (by kernel_rfl) (by kernel_rfl) (.inr ⟨rfl, rfl, by decide, fun h => absurd rfl h⟩) (.inl (by omega)) (fun w1 A1 m1 l1 => (hp3.mv m1).src (e := 34) (fun x _ => rfl) (fun x _ => dcells_one x) (by kernel_rfl)) (by simp only [maxLen]; omega) (by omega) ?_
      intro a6 c3 w3 A3 hn3 m3
      replace hl := hl.mv m3; replace hp := hp.mv m3; replace hp1 := hp1.mv m3; replace hp3 := hp3.mv m3; replace hn2 := hn2.mvX m3 (fun g _ _ hρ _ h => by rcases h with h | ⟨_, x, e, rfl⟩; exact hρ h; cases e; exact hρ (by simp))
      replace hn3 := hn3.re (n' := 0 + min opn 20) (ys := ((o.path.take (min opn 20))).flatMap dcells) rfl (by rw [List.nil_append])
      refine J.run [.u, .u, .n, .n, .n, .u, .u, .n] [2] ⟨[(2, .loc 1 0)], [⟨26, [.int .i64 o.t, .slice a4 (0 + min oln 1300) c2, .slice a6 (0 + min opn 20) c3]⟩, ⟨26, [.int .i64 o.t, .slice a4 (0 + min oln 1300) c2, .slice a6 (0 + min opn 20) c3]⟩, ⟨5, []⟩, ⟨34, []⟩]⟩ [.o 5 9, .c 6] [.c 8] (by kernel_rfl) ?_
      refine J.ret (v := .agg [.int .i64 o.t, .slice a4 (0 + min oln 1300) c2, .slice a6 (0 + min opn 20) c3].toArray) (by kernel_rfl) (by kernel_rfl) (fun w1 A1 m1 hac l1 => by unfold cutO; rw [← hll, ← hpl]; exact ⟨_, _, _, _, _, _, rfl, (hn2.mv m1).sl (fun x _ => rfl) (by decide) hA, (hn3.mv m1).sl (fun x _ => rfl) (by decide) hA⟩)
theorem point_calls (btw : Bool) (oa ob : Opn) (oala : Option Addr) (oaln oalc : Nat) (oapa : Option Addr) (oapn oapc : Nat) (obla : Option Addr) (obln oblc : Nat) (obpa : Option Addr) (obpn obpc : Nat) (Ac : Nat → Prop) (W : World) (hA : ∀ k, Ac k → k < W.heap.size) (hsa : Sl 1 u8 Ac W oala oaln oalc oa.leaf) (hpa : Sl 32 dcells Ac W oapa oapn oapc oa.path) (hsb : Sl 1 u8 Ac W obla obln oblc ob.leaf) (hpb : Sl 32 dcells Ac W obpa obpn obpc ob.path) :
    Calls Pr 11 #[.agg [.bool btw, .int .i64 oa.t, .slice oala oaln oalc, .slice oapa oapn oapc, .int .i64 ob.t, .slice obla obln oblc, .slice obpa obpn obpc].toArray] W (Ret nobody W fun v w => PtAt Ac w v (btw, cutO oa, cutO ob)) := by
  refine J.enter (fn := Try.f11) (n := 12) Try.func11 (by kernel_rfl) (by kernel_rfl) (by kernel_rfl) hA ?_
  refine J.run [.n, .n] [0] ⟨[(0, .v (.agg [.bool btw, .int .i64 oa.t, .slice oala oaln oalc, .slice oapa oapn oapc, .int .i64 ob.t, .slice obla obln oblc, .slice obpa obpn obpc].toArray))], []⟩ [.c 0] [.o 1 0, .c 2] (by kernel_rfl) ?_
  refine J.new (T := 28) (cs := [.bool btw, .int .i64 oa.t, .slice oala oaln oalc, .slice oapa oapn oapc, .int .i64 ob.t, .slice obla obln oblc, .slice obpa obpn obpc]) (d := 1) (K := .ptr) (by kernel_rfl) (fun b1 hb1 => ?_)
  refine J.new (T := 28) (cs := [.bool false, .int .i64 0, .slice none 0 0, .slice none 0 0, .int .i64 0, .slice none 0 0, .slice none 0 0]) (d := 2) (K := .ptr) (by kernel_rfl) (fun b2 hb2 => ?_)
  refine J.run [.n, .n, .n, .u, .u] [1, 2, 4] ⟨[(1, .loc 0 0), (2, .loc 1 0), (4, .v (.agg [.int .i64 oa.t, .slice oala oaln oalc, .slice oapa oapn oapc].toArray))], [⟨28, [.bool btw, .int .i64 oa.t, .slice oala oaln oalc, .slice oapa oapn oapc, .int .i64 ob.t, .slice obla obln oblc, .slice obpa obpn obpc]⟩, ⟨28, [.bool false, .int .i64 0, .slice none 0 0, .slice none 0 0, .int .i64 0, .slice none 0 0, .slice none 0 0]⟩]⟩ [.o 1 2, .c 2] [.o 3 2, .c 4] (by kernel_rfl) ?_
  refine J.call (d := some 5) (by kernel_rfl) (fun w1 A1 m1 l1 => opening_calls oa oala oaln oalc oapa oapn oapc A1 w1 m1.bdd (hsa.mv m1) (hpa.mv m1)) ?_
  rintro _ u1 w1 A1 ⟨la1, ln1, lc1, pa1, pn1, pc1, rfl, hol1, hop1⟩ g1
  have m1 := g1.mv
  replace hsa := hsa.mv m1; replace hpa := hpa.mv m1; replace hsb := hsb.mv m1; replace hpb := hpb.mv m1
  refine J.run [.u, .u, .n, .n, .n, .u, .u] [1, 2, 8] ⟨[(1, .loc 0 0), (2, .loc 1 0), (8, .v (.agg [.int .i64 ob.t, .slice obla obln oblc, .slice obpa obpn obpc].toArray))], [⟨28, [.bool btw, .int .i64 ((cutO oa).t), .slice la1 ln1 lc1, .slice pa1 pn1 pc1, .int .i64 ob.t, .slice obla obln oblc, .slice obpa obpn obpc]⟩, ⟨28, [.bool false, .int .i64 0, .slice none 0 0, .slice none 0 0, .int .i64 0, .slice none 0 0, .slice none 0 0]⟩]⟩ [.o 3 3, .c 4] [.o 5 2, .c 6] (by kernel_rfl) ?_
  refine J.call (d := some 9) (by kernel_rfl) (fun w1 A1 m1 l1 => opening_calls ob obla obln oblc obpa obpn obpc A1 w1 m1.bdd (hsb.mv m1) (hpb.mv m1)) ?_
  rintro _ u2 w2 A2 ⟨la2, ln2, lc2, pa2, pn2, pc2, rfl, hol2, hop2⟩ g2
  have m2 := g2.mv
  replace hsa := hsa.mv m2; replace hpa := hpa.mv m2; replace hsb := hsb.mv m2; replace hpb := hpb.mv m2; replace hol1 := hol1.mv m2; replace hop1 := hop1.mv m2
  refine J.run [.u, .u, .n, .n, .n, .u, .u, .n] [2] ⟨[(2, .loc 1 0)], [⟨28, [.bool btw, .int .i64 ((cutO oa).t), .slice la1 ln1 lc1, .slice pa1 pn1 pc1, .int .i64 ((cutO ob).t), .slice la2 ln2 lc2, .slice pa2 pn2 pc2]⟩, ⟨28, [.bool btw, .int .i64 ((cutO oa).t), .slice la1 ln1 lc1, .slice pa1 pn1 pc1, .int .i64 ((cutO ob).t), .slice la2 ln2 lc2, .slice pa2 pn2 pc2]⟩]⟩ [.o 5 3, .c 6] [.c 8] (by kernel_rfl) ?_
  refine J.ret (v := .agg [.bool btw, .int .i64 ((cutO oa).t), .slice la1 ln1 lc1, .slice pa1 pn1 pc1, .int .i64 ((cutO ob).t), .slice la2 ln2 lc2, .slice pa2 pn2 pc2].toArray) (by kernel_rfl) (by kernel_rfl) (fun w1 A1 m1 hac l1 => ⟨_, _, _, _, _, _, _, _, _, _, _, _, rfl, (hol1.mv m1).weaken hac, (hop1.mv m1).weaken hac, (hol2.mv m1).weaken hac, (hop2.mv m1).weaken hac⟩)
end Go.Proofs.Ytkgokehkobifkaa.J

/- The law's helpers: two, few. -/
namespace Go.Proofs.Ytkgokehkobifkaa.J
open Go Go.RowKit

def twoF (bits : Int) (a b : List UInt8) (ok : Bool) : Bool := ok && (!seq (strOf a) (strOf b) && dgEq (kept a bits) (kept b bits))
def cutE (e : Ent) : Ent := ⟨e.key.extract 0 (min e.key.size 130), e.value.extract 0 (min e.value.size 1030), e.del, e.seq⟩
def fewF (l : List Ent) (m : Nat) : List Ent := (l.take m).map cutE

structure FewSt where
  i : Nat
  a : Option Addr
  c : Nat

theorem two_calls (bits : Int) (a : Option Addr) (n c : Nat) (xs : List UInt8) (b : Option Addr) (m d : Nat) (bs : List UInt8) (ok : Bool) (Ac : Nat → Prop) (W : World) (hA : ∀ k, Ac k → k < W.heap.size) (ha : Sl 1 u8 Ac W a n c xs) (hb : Sl 1 u8 Ac W b m d bs) :
    Calls Pr 16 #[.int .i64 bits, .slice a n c, .slice b m d, .bool ok] W (Ret nobody W fun v w => v = .bool (twoF bits xs bs ok)) := by
  refine J.enter (fn := Try.f16) (n := 26) Try.func16 (by kernel_rfl) (by kernel_rfl) (by kernel_rfl) hA ?_
  refine J.run [.n, .n, .u, .n, .n, .n, .u, .u] [0, 1, 2, 10] ⟨[(0, .v (.int .i64 bits)), (1, .v (.slice a n c)), (2, .v (.slice b m d)), (10, .v (.bool ok))], []⟩ [.c 0] [.o 3 2, .c 4] (by kernel_rfl) ?_
  rcases Bool.eq_false_or_eq_true ok with hc | hc
  · rw [hc]
    try simp only [nrm] at hc
    have hc1 := hc
    refine J.run [.w] [0, 1, 2, 10, 11] ⟨[(0, .v (.int .i64 bits)), (1, .v (.slice a n c)), (2, .v (.slice b m d)), (10, .v (.bool true)), (11, .v (.slice a n c))], []⟩ [.o 3 2, .c 4] [.o 3 3, .c 4] (by kernel_rfl) ?_
    refine J.cv (u8 := u8) (fun _ => rfl) (a := a) (len := n) (c := c) (bs := xs) (d := 12) (by kernel_rfl) (fun w1 A1 m1 l1 => ha.mv m1) ?_
    refine J.run [.w] [0, 1, 2, 10, 12, 13] ⟨[(0, .v (.int .i64 bits)), (1, .v (.slice a n c)), (2, .v (.slice b m d)), (10, .v (.bool true)), (12, .v (.string (strOf xs))), (13, .v (.slice b m d))], []⟩ [.o 3 4, .c 4] [.o 3 5, .c 4] (by kernel_rfl) ?_
    refine J.cv (u8 := u8) (fun _ => rfl) (a := b) (len := m) (c := d) (bs := bs) (d := 14) (by kernel_rfl) (fun w1 A1 m1 l1 => hb.mv m1) ?_
    refine J.run [.w, .u, .u] [0, 1, 2, 17] ⟨[(0, .v (.int .i64 bits)), (1, .v (.slice a n c)), (2, .v (.slice b m d)), (17, .v (.bool (!(seq (strOf xs) (strOf bs)))))], []⟩ [.o 3 6, .c 4] [.o 3 9, .c 4] (by kernel_rfl) ?_
    rcases Bool.eq_false_or_eq_true (!(seq (strOf xs) (strOf bs))) with hc | hc
    · rw [hc]
      try simp only [nrm] at hc
      have hc2 := hc
      refine J.run [.w, .w] [0, 2, 17, 18, 19] ⟨[(0, .v (.int .i64 bits)), (2, .v (.slice b m d)), (17, .v (.bool true)), (18, .v (.slice a n c)), (19, .v (.int .i64 bits))], []⟩ [.o 3 9, .c 4] [.o 3 11, .c 4] (by kernel_rfl) ?_
      refine J.call (d := some 20) (by kernel_rfl) (fun w1 A1 m1 l1 => kept_calls a n c xs bits nobody w1 noA (ha.mv m1).any) ?_
      rintro _ u1 w1 A1 rfl g1
      have m1 := g1.mv
      replace ha := ha.mv m1; replace hb := hb.mv m1
      refine J.run [.w, .w] [17, 20, 21, 22] ⟨[(17, .v (.bool true)), (20, .v (.agg (dcells (kept xs bits)).toArray)), (21, .v (.slice b m d)), (22, .v (.int .i64 bits))], []⟩ [.o 3 12, .c 4] [.o 3 14, .c 4] (by kernel_rfl) ?_
      refine J.call (d := some 23) (by kernel_rfl) (fun w1 A1 m1 l1 => kept_calls b m d bs bits nobody w1 noA (hb.mv m1).any) ?_
      rintro _ u2 w2 A2 rfl g2
      have m2 := g2.mv
      replace ha := ha.mv m2; replace hb := hb.mv m2
      refine J.eqA (neg := false) (T := 34) (d := 24) (b := dgEq (kept xs bits) (kept bs bits)) (by kernel_rfl) dig_guard (dig_eq (kept xs bits) (kept bs bits)) ?_
      refine J.run [.u, .u, .n] [8] ⟨[(8, .v (.bool (dgEq (kept xs bits) (kept bs bits))))], []⟩ [.o 3 16, .c 4] [.c 4] (by kernel_rfl) ?_
      refine J.ret (v := .bool (dgEq (kept xs bits) (kept bs bits))) (by kernel_rfl) (by kernel_rfl) (fun w1 A1 m1 hac l1 => by simp [twoF, hc1, hc2])
    · rw [hc]
      try simp only [nrm] at hc
      have hc2 := hc
      refine J.run [.x, .x, .x, .x, .x, .x, .x, .u, .u, .n] [8] ⟨[(8, .v (.bool false))], []⟩ [.o 3 9, .c 4] [.c 4] (by kernel_rfl) ?_
      refine J.ret (v := .bool false) (by kernel_rfl) (by kernel_rfl) (fun w1 A1 m1 hac l1 => by simp [twoF, hc1, hc2])
  · rw [hc]
    try simp only [nrm] at hc
    have hc1 := hc
    refine J.run [.x, .x, .x, .x, .x, .u, .u, .x, .x, .x, .x, .x, .x, .x, .u, .u, .n] [8] ⟨[(8, .v (.bool false))], []⟩ [.o 3 2, .c 4] [.c 4] (by kernel_rfl) ?_
    refine J.ret (v := .bool false) (by kernel_rfl) (by kernel_rfl) (fun w1 A1 m1 hac l1 => by simp [twoF, hc1])
theorem few_calls (a : Option Addr) (n c : Nat) (l : List Ent) (m : Nat) (hm : m ≤ 1000000) (Ac : Nat → Prop) (W : World) (hA : ∀ k, Ac k → k < W.heap.size) (hs : Sl 4 encE Ac W a n c l) :
    Calls Pr 31 #[.slice a n c, .int .i64 ((m : Nat) : Int)] W (Ret nobody W fun v w => ∃ a' c', v = .slice a' (min n m) c' ∧ New W.heap.size 42 4 w a' (min n m) c' ((fewF l m).flatMap encE)) := by
  refine J.enter (fn := Try.f31) (n := 44) Try.func31 (by kernel_rfl) (by kernel_rfl) (by kernel_rfl) hA ?_
  have hlen := hs.len; have hle := hs.le; have hcap := hs.cap; simp only [maxLen] at hcap
  have hmk : ∀ z : Nat, (if 130 < ((z : Nat) : Int) then 130 else ((z : Nat) : Int)) = ((min z 130 : Nat) : Int) := fun z => by split <;> omega
  have hmv : ∀ z : Nat, (if 1030 < ((z : Nat) : Int) then 1030 else ((z : Nat) : Int)) = ((min z 1030 : Nat) : Int) := fun z => by split <;> omega
  refine J.run [.n, .n, .u, .n, .n, .n, .u, .n, .n, .n, .n, .u, .n, .n] [0, 1, 5, 6] ⟨[(0, .v (.slice a n c)), (1, .v (.int .i64 ((m : Nat) : Int))), (5, .v (.slice none 0 0)), (6, .v (.int .i64 0))], []⟩ [.c 0] [.c 8, .b 0, .c 25] (by kernel_rfl) ?_
  refine J.loop (X := FewSt) (fun x => ⟨[(0, .v (.slice a n c)), (1, .v (.int .i64 ((m : Nat) : Int))), (5, .v (.slice x.a x.i x.c)), (6, .v (.int .i64 ((x.i : Nat) : Int)))], []⟩) (fun x A w => x.i ≤ n ∧ x.i ≤ m ∧ Sl 4 encE A w a n c l ∧ Nw W.heap.size 42 4 [] A w x.a x.i x.c ((fewF l x.i).flatMap encE)) (fun x => n - x.i) [0, 1, 5, 6] 0 [] ⟨0, none, 0⟩ (by kernel_rfl) (by kernel_rfl) (by kernel_rfl) (fun w1 A1 m1 => ⟨Nat.zero_le _, Nat.zero_le _, hs.mv m1, Nw.nil _ _ _ _ _ _⟩) (fun x A1 w1 hI => ?_)
  obtain ⟨hi, him, hs, ho⟩ := hI
  refine J.run [.n, .n, .n, .u, .u, .u, .u, .u] [0, 1, 5, 6, 12] ⟨[(0, .v (.slice a n c)), (1, .v (.int .i64 ((m : Nat) : Int))), (5, .v (.slice x.a x.i x.c)), (6, .v (.int .i64 ((x.i : Nat) : Int))), (12, .v (.bool (decide (((x.i : Nat) : Int) < ((n : Nat) : Int)))))], []⟩ [.c 9] [.o 11 5, .c 12, .c 15] (by kernel_rfl) ?_
  rcases Bool.eq_false_or_eq_true (decide (((x.i : Nat) : Int) < ((n : Nat) : Int))) with hc | hc
  · rw [hc]
    try simp only [nrm] at hc
    have hc1 := hc
    refine J.run [.w, .w, .w, .u, .n] [0, 1, 5, 6, 16] ⟨[(0, .v (.slice a n c)), (1, .v (.int .i64 ((m : Nat) : Int))), (5, .v (.slice x.a x.i x.c)), (6, .v (.int .i64 ((x.i : Nat) : Int))), (16, .v (.bool (decide (((x.i : Nat) : Int) < ((m : Nat) : Int)))))], []⟩ [.o 11 5, .c 12, .c 15] [.c 12, .c 15] (by kernel_rfl) ?_
    refine J.cond (b := (decide (((x.i : Nat) : Int) < ((m : Nat) : Int)))) (k' := 14) (by kernel_rfl) (fun hc => ?_) (fun hc => ?_)
    · try simp only [nrm] at hc
      have hc2 := hc
      refine J.run [.n, .n, .n, .n, .n, .u, .u] [0, 1, 5, 6, 19, 20] ⟨[(0, .v (.slice a n c)), (1, .v (.int .i64 ((m : Nat) : Int))), (5, .v (.slice x.a x.i x.c)), (6, .v (.int .i64 ((x.i : Nat) : Int))), (19, .v (.slice a n c)), (20, .v (.int .i64 ((x.i : Nat) : Int)))], []⟩ [.c 13, .c 15] [.o 18 2, .c 19, .b 1, .c 24] (by kernel_rfl) ?_
      obtain ⟨p1, o1, rfl⟩ := hs.addr (by omega)
      refine J.idx (b := p1) (off := o1) (len := n) (i := ((x.i : Nat) : Int)) (sz := 4) (d := 21) (by kernel_rfl) (by omega) (by omega) ?_
      obtain ⟨x1, hx1⟩ : ∃ zq, (l)[x.i]? = some zq := ⟨_, List.getElem?_eq_getElem (by omega)⟩
      refine J.ld (T := 42) (b := p1) (off := o1 + x.i * 4) (d := 22) (v := .agg (encE x1).toArray) (by kernel_rfl) (fun w1 A1 m1 l1 => (hs.mv m1).ld (by kernel_rfl) hx1 (by kernel_rfl)) ?_
      refine J.new (T := 42) (cs := [.string (⟨#[]⟩ : Str), .string (⟨#[]⟩ : Str), .bool false, .int .i64 0]) (d := 7) (K := .ptr) (by kernel_rfl) (fun b1 hb1 => ?_)
      replace ho := ho.more hb1
      refine J.run [.u, .n, .n, .n, .u, .u, .u, .u, .u, .u] [0, 1, 5, 6, 7, 24, 28] ⟨[(0, .v (.slice (some ⟨p1, o1, none⟩) n c)), (1, .v (.int .i64 ((m : Nat) : Int))), (5, .v (.slice x.a x.i x.c)), (6, .v (.int .i64 ((x.i : Nat) : Int))), (7, .loc 0 0), (24, .v (.string x1.key)), (28, .v (.int .i64 (if 130 < ((x1.key.size : Nat) : Int) then 130 else ((x1.key.size : Nat) : Int))))], [⟨42, encE x1⟩]⟩ [.o 18 5, .c 19, .b 1, .c 24] [.o 20 6, .c 21, .b 1, .c 24] (by kernel_rfl) ?_
      rw [hmk]
      refine J.slS (t := x1.key) (lo := none) (hi := (some ((min x1.key.size 130 : Nat) : Int))) (d := 29) (by kernel_rfl) 0 (min x1.key.size 130) (by simp) (by simp) (by omega) (by omega) ?_
      refine J.run [.u, .u, .n, .n, .n, .u, .u, .u, .u, .u, .u] [0, 1, 5, 6, 7, 32, 36] ⟨[(0, .v (.slice (some ⟨p1, o1, none⟩) n c)), (1, .v (.int .i64 ((m : Nat) : Int))), (5, .v (.slice x.a x.i x.c)), (6, .v (.int .i64 ((x.i : Nat) : Int))), (7, .loc 0 0), (32, .v (.string x1.value)), (36, .v (.int .i64 (if 1030 < ((x1.value.size : Nat) : Int) then 1030 else ((x1.value.size : Nat) : Int))))], [⟨42, [.string (x1.key.extract 0 (min x1.key.size 130)), .string x1.value, .bool x1.del, .int .i64 x1.seq]⟩]⟩ [.o 20 7, .c 21, .b 1, .c 24] [.o 22 6, .c 23, .b 1, .c 24] (by kernel_rfl) ?_
      rw [hmv]
      refine J.slS (t := x1.value) (lo := none) (hi := (some ((min x1.value.size 1030 : Nat) : Int))) (d := 37) (by kernel_rfl) 0 (min x1.value.size 1030) (by simp) (by simp) (by omega) (by omega) ?_
      refine J.run [.u, .u, .n, .n, .u, .u] [0, 1, 6, 39, 40] ⟨[(0, .v (.slice (some ⟨p1, o1, none⟩) n c)), (1, .v (.int .i64 ((m : Nat) : Int))), (6, .v (.int .i64 ((x.i : Nat) : Int))), (39, .v (.slice x.a x.i x.c)), (40, .v (.agg [.string (x1.key.extract 0 (min x1.key.size 130)), .string (x1.value.extract 0 (min x1.value.size 1030)), .bool x1.del, .int .i64 x1.seq].toArray))], [⟨42, [.string (x1.key.extract 0 (min x1.key.size 130)), .string (x1.value.extract 0 (min x1.value.size 1030)), .bool x1.del, .int .i64 x1.seq]⟩]⟩ [.o 22 7, .c 23, .b 1, .c 24] [.o 23 2, .b 1, .c 24] (by kernel_rfl) ?_
      refine J.new (T := 42) (cs := [.string (x1.key.extract 0 (min x1.key.size 130)), .string (x1.value.extract 0 (min x1.value.size 1030)), .bool x1.del, .int .i64 x1.seq]) (d := 41) (K := (.sl 1)) (by kernel_rfl) (fun b2 hb2 => ?_)
      replace ho := ho.more hb2
      refine J.append (e := 42) (sz := 4) (a := x.a) (nn := x.i) (c := x.c) (T := 22) (Tx := 22) (x := .slice (some ⟨b2, 0, none⟩) 1 1) (bytes := 48) (d := 42) (xs := (fewF l x.i).flatMap encE) (news := [.string (x1.key.extract 0 (min x1.key.size 130)), .string (x1.value.extract 0 (min x1.value.size 1030)), .bool x1.del, .int .i64 x1.seq]) (m := 1) (by kernel_rfl) (by kernel_rfl) ho.own (.inr ho) (fun w1 A1 m1 l1 => l1.src (i := 1) rfl (e := 42) (by kernel_rfl) rfl rfl) (by simp only [maxLen]; omega) (by omega) ?_
      intro a1 c1 w2 A2 hn1 m1
      replace hs := hs.mv m1
      replace hn1 := hn1.re (n' := x.i + 1) (ys := (fewF l x.i ++ [cutE x1]).flatMap encE) rfl (by first | (simp only [List.flatMap_append, dbytes_flat, byteCells_u8]; done) | (rw [List.flatMap_append]; rfl))
      refine J.run [.u, .n, .n, .n, .u, .u, .u, .n] [0, 1, 5, 6] ⟨[(0, .v (.slice (some ⟨p1, o1, none⟩) n c)), (1, .v (.int .i64 ((m : Nat) : Int))), (5, .v (.slice a1 (x.i + 1) c1)), (6, .v (.int .i64 (IntKind.i64.wrap (((x.i : Nat) : Int) + 1))))], [⟨42, [.string (x1.key.extract 0 (min x1.key.size 130)), .string (x1.value.extract 0 (min x1.value.size 1030)), .bool x1.del, .int .i64 x1.seq]⟩, ⟨42, [.string (x1.key.extract 0 (min x1.key.size 130)), .string (x1.value.extract 0 (min x1.value.size 1030)), .bool x1.del, .int .i64 x1.seq]⟩]⟩ [.o 23 4, .b 1, .c 24] [] (by kernel_rfl) ?_
      have hw1 : IntKind.i64.wrap (((x.i : Nat) : Int) + 1) = ((x.i + 1 : Nat) : Int) := by rw [wrap_i64 (by omega) (by omega)]; try omega
      rw [hw1]
      have hfk : fewF l x.i ++ [cutE x1] = fewF l (x.i + 1) := by unfold fewF; rw [take_snoc hx1, List.map_append]; rfl
      rw [hfk] at hn1
      exact J.again ⟨x.i + 1, a1, c1⟩ [0, 1, 5, 6] 0 (by simp only; omega) (by kernel_rfl) (by kernel_rfl) (fun w1 A1 m1 => ⟨by simp only; omega, by simp only; omega, hs.mv m1, (hn1.mv m1).fewer (by simp)⟩)
    · try simp only [nrm] at hc
      have hc2 := hc
      refine J.exit (id := 0) (by kernel_rfl) (by rfl) ?_
      refine J.run [.n, .n, .u, .u, .n] [4] ⟨[(4, .v (.slice x.a x.i x.c))], []⟩ [.c 25] [.c 27] (by kernel_rfl) ?_
      have hin : x.i = min n m := by omega
      have hff : fewF l x.i = fewF l m := by unfold fewF; rw [hin, hlen, Nat.min_comm, ← List.take_take, List.take_of_length_le (i := l.length) (Nat.le_refl _)]
      rw [hff, hin] at ho; rw [hin]
      refine J.ret (v := .slice x.a (min n m) x.c) (by kernel_rfl) (by kernel_rfl) (fun w1 A1 m1 hac l1 => ⟨_, _, rfl, (ho.mv m1).new⟩)
  · rw [hc]
    try simp only [nrm] at hc
    have hc1 := hc
    refine J.run [.x, .x, .x, .u, .n] [0, 1, 5, 6, 16] ⟨[(0, .v (.slice a n c)), (1, .v (.int .i64 ((m : Nat) : Int))), (5, .v (.slice x.a x.i x.c)), (6, .v (.int .i64 ((x.i : Nat) : Int))), (16, .v (.bool false))], []⟩ [.o 11 5, .c 12, .c 15] [.c 12, .c 15] (by kernel_rfl) ?_
    refine J.cond (b := false) (k' := 14) (by kernel_rfl) (fun hc => absurd hc (by decide)) (fun _ => ?_)
    refine J.exit (id := 0) (by kernel_rfl) (by rfl) ?_
    refine J.run [.n, .n, .u, .u, .n] [4] ⟨[(4, .v (.slice x.a x.i x.c))], []⟩ [.c 25] [.c 27] (by kernel_rfl) ?_
    have hin : x.i = min n m := by omega
    have hff : fewF l x.i = fewF l m := by unfold fewF; rw [hin, hlen, Nat.min_comm, ← List.take_take, List.take_of_length_le (i := l.length) (Nat.le_refl _)]
    rw [hff, hin] at ho; rw [hin]
    refine J.ret (v := .slice x.a (min n m) x.c) (by kernel_rfl) (by kernel_rfl) (fun w1 A1 m1 hac l1 => ⟨_, _, rfl, (ho.mv m1).new⟩)
end Go.Proofs.Ytkgokehkobifkaa.J

/- Package clash: the texts. -/
namespace Go.Proofs.Ytkgokehkobifkaa.J
open Go Go.RowKit

/-- Made here, and read by whoever has got it. -/
def SlNew (N : Nat) (w : World) (a : Option Addr) (n c : Nat) (l : List UInt8) : Prop := ∀ A : Nat → Prop, (∀ k, A k → k < N) → Sl 1 u8 A w a n c l
theorem Sl.newA {A : Nat → Prop} {w : World} {b o n c N : Nat} {l : List UInt8} (h : Sl 1 u8 A w (some ⟨b, o, none⟩) n c l) (hb : N ≤ b) : SlNew N w (some ⟨b, o, none⟩) n c l := fun A' hA' =>
  ⟨h.len, h.le, h.cap, fun hne => by
    obtain ⟨b', o', e1, e2, e3, e4⟩ := h.at_ hne
    cases e1
    exact ⟨b, o, rfl, fun q => by have := hA' _ q; omega, e3, e4⟩⟩

theorem leafText_calls (a : Option Addr) (n c : Nat) (bs : List UInt8) (hn : n ≤ 1000000) (Ac : Nat → Prop) (W : World) (hA : ∀ k, Ac k → k < W.heap.size) (hs : Sl 1 u8 Ac W a n c bs) :
    Calls Pr 44 #[.slice a n c] W (Ret nobody W fun v w => ∃ a' n' c', v = .slice a' n' c' ∧ SlNew W.heap.size w a' n' c' (0 :: bs)) := by
  refine J.enter (fn := Try.f44) (n := 6) Try.func44 (by kernel_rfl) (by kernel_rfl) (by kernel_rfl) hA ?_
  refine J.run [.n, .n, .u, .n, .n, .n] [0] ⟨[(0, .v (.slice a n c))], []⟩ [.c 0] [.o 3 0, .c 4] (by kernel_rfl) ?_
  refine J.new (T := 5) (cs := [.int .u8 0]) (d := 3) (K := (.sl 1)) (by kernel_rfl) (fun b1 hb1 => ?_)
  refine J.run [.u] [3, 4] ⟨[(3, .v (.slice (some ⟨b1, 0, none⟩) 1 1)), (4, .v (.slice a n c))], [⟨5, [.int .u8 0]⟩]⟩ [.o 3 1, .c 4] [.o 3 2, .c 4] (by kernel_rfl) ?_
  refine J.freeze 0 rfl (by kernel_rfl) (fun h => h) (L := ⟨5, [.int .u8 0]⟩) rfl (fun w1 A1 m1 hs1 hr1 hn1 => ?_)
  replace hs := hs.mv m1
  have hz : Sl 1 u8 A1 w1 (some ⟨b1, 0, none⟩) 1 1 [0] := Sl.ofRow (enc := u8) (l := [0]) (kk := 1) (b := b1) (cs := [.int .u8 0]) hr1 hn1 rfl (fun x _ => rfl) rfl (by simp only [maxLen]; omega)
  have hlen := hs.len
  rcases Nat.eq_zero_or_pos n with hn0 | hn0
  · obtain rfl : bs = [] := List.eq_nil_of_length_eq_zero (by omega)
    subst hn0
    refine J.app0 (a := some ⟨b1, 0, none⟩) (e := 5) (bytes := 1) (sz := 1) (nn := 1) (c := 1) (T := 23) (Tx := 23) (x := .slice a 0 c) (d := 5) (by kernel_rfl) (by kernel_rfl) (fun w1 A1 m1 l1 => (hs.mv m1).src (e := 5) (fun x _ => rfl) (fun x _ => u8_one x) (by kernel_rfl)) (by decide) ?_
    refine J.run [.u, .n] [2] ⟨[(2, .v (.slice (some ⟨b1, 0, none⟩) 1 1))], []⟩ [.o 3 3, .c 4] [.c 4] (by kernel_rfl) ?_
    refine J.ret (v := .slice (some ⟨b1, 0, none⟩) 1 1) (by kernel_rfl) (by kernel_rfl) (fun w1 A1 m1 hac l1 => ⟨_, _, _, rfl, (hz.mv m1).newA hb1⟩)
  · skip
    refine J.append (e := 5) (sz := 1) (a := (some ⟨b1, 0, none⟩)) (nn := 1) (c := 1) (T := 23) (Tx := 23) (x := .slice a n c) (bytes := 1) (d := 5) (xs := [0].flatMap u8) (news := bs.flatMap u8) (m := n) (by kernel_rfl) (by kernel_rfl) (.inr (hz.tight (fun x _ => rfl))) (.inl (by omega)) (fun w1 A1 m1 l1 => (hs.mv m1).src (e := 5) (fun x _ => rfl) (fun x _ => u8_one x) (by kernel_rfl)) (by simp only [maxLen]; omega) (by omega) ?_
    intro a1 c1 w2 A2 hn2 m2
    replace hs := hs.mv m2; replace hz := hz.mv m2
    replace hn2 := hn2.re (n' := 1 + n) (ys := ([0] ++ bs).flatMap u8) rfl (by first | (simp only [List.flatMap_append, dbytes_flat, byteCells_u8]; done) | (rw [List.flatMap_append]; rfl))
    refine J.run [.u, .n] [2] ⟨[(2, .v (.slice a1 (1 + n) c1))], []⟩ [.o 3 3, .c 4] [.c 4] (by kernel_rfl) ?_
    refine J.ret (v := .slice a1 (1 + n) c1) (by kernel_rfl) (by kernel_rfl) (fun w1 A1 m1 hac l1 => ⟨_, _, _, rfl, fun A hA => ((hn2.mv m1).sl (fun x _ => rfl) (by decide) hA : Sl 1 u8 A _ _ _ _ ([0] ++ bs))⟩)
theorem nodeText_calls (l r : Dg) (Ac : Nat → Prop) (W : World) (hA : ∀ k, Ac k → k < W.heap.size) :
    Calls Pr 48 #[.agg (dcells l).toArray, .agg (dcells r).toArray] W (Ret nobody W fun v w => ∃ a' n' c', v = .slice a' n' c' ∧ SlNew W.heap.size w a' n' c' (1 :: (dbytes l ++ dbytes r))) := by
  refine J.enter (fn := Try.f48) (n := 12) Try.func48 (by kernel_rfl) (by kernel_rfl) (by kernel_rfl) hA ?_
  refine J.run [.n, .n] [0, 1] ⟨[(0, .v (.agg (dcells l).toArray)), (1, .v (.agg (dcells r).toArray))], []⟩ [.c 0] [.o 1 0, .c 2] (by kernel_rfl) ?_
  refine J.new (T := 34) (cs := dcells l) (d := 2) (K := .ptr) (by kernel_rfl) (fun b1 hb1 => ?_)
  refine J.new (T := 34) (cs := dcells r) (d := 3) (K := .ptr) (by kernel_rfl) (fun b2 hb2 => ?_)
  refine J.run [.u, .n, .n, .n] [2, 3] ⟨[(2, .loc 0 0), (3, .loc 1 0)], [⟨34, dcells l⟩, ⟨34, dcells r⟩]⟩ [.o 1 2, .c 2] [.o 3 0, .c 4] (by kernel_rfl) ?_
  refine J.new (T := 5) (cs := [.int .u8 1]) (d := 6) (K := (.sl 1)) (by kernel_rfl) (fun b3 hb3 => ?_)
  refine J.slA (b := b1) (off := 0) (len := 32) (sz := 1) (lo := none) (hi := none) (d := 7) (by kernel_rfl) 0 32 (by simp) (by simp) (by omega) (by omega) (by omega) ?_
  refine J.freeze 2 rfl (by kernel_rfl) (fun h => h) (L := ⟨5, [.int .u8 1]⟩) rfl (fun w1 A1 m1 hs1 hr1 hn1 => ?_)
  have hz : Sl 1 u8 A1 w1 (some ⟨b3, 0, none⟩) 1 1 [1] := Sl.ofRow (enc := u8) (l := [1]) (kk := 1) (b := b3) (cs := [.int .u8 1]) hr1 hn1 rfl (fun x _ => rfl) rfl (by simp only [maxLen]; omega)
  refine J.append (e := 5) (sz := 1) (a := (some ⟨b3, 0, none⟩)) (nn := 1) (c := 1) (T := 23) (Tx := 23) (x := .slice (some ⟨b1, 0, none⟩) 32 32) (bytes := 1) (d := 8) (xs := [1].flatMap u8) (news := dcells l) (m := 32) (by kernel_rfl) (by kernel_rfl) (.inr (hz.tight (fun x _ => rfl))) (.inl (by omega)) (fun w1 A1 m1 l1 => l1.src (i := 0) rfl (e := 5) (by kernel_rfl) rfl rfl) (by simp only [maxLen]; omega) (by omega) ?_
  intro a1 c1 w2 A2 hn2 m2
  replace hz := hz.mv m2
  replace hn2 := hn2.re (n' := 33) (ys := ([1] ++ dbytes l).flatMap u8) rfl (by first | (simp only [List.flatMap_append, dbytes_flat, byteCells_u8]; done) | (rw [List.flatMap_append]; rfl))
  refine J.run [.u, .n, .n, .n, .u] [3, 9] ⟨[(3, .loc 1 0), (9, .v (.slice a1 33 c1))], [⟨34, dcells l⟩, ⟨34, dcells r⟩]⟩ [.o 3 3, .c 4] [.o 5 1, .c 6] (by kernel_rfl) ?_
  refine J.slA (b := b2) (off := 0) (len := 32) (sz := 1) (lo := none) (hi := none) (d := 10) (by kernel_rfl) 0 32 (by simp) (by simp) (by omega) (by omega) (by omega) ?_
  refine J.append (e := 5) (sz := 1) (a := a1) (nn := 33) (c := c1) (T := 23) (Tx := 23) (x := .slice (some ⟨b2, 0, none⟩) 32 32) (bytes := 1) (d := 11) (xs := ([1] ++ dbytes l).flatMap u8) (news := dcells r) (m := 32) (by kernel_rfl) (by kernel_rfl) hn2.own (.inr hn2) (fun w1 A1 m1 l1 => l1.src (i := 1) rfl (e := 5) (by kernel_rfl) rfl rfl) (by simp only [maxLen]; omega) (by omega) ?_
  intro a2 c2 w3 A3 hn3 m3
  replace hz := hz.mv m3
  replace hn3 := hn3.re (n' := 65) (ys := ([1] ++ dbytes l ++ dbytes r).flatMap u8) rfl (by first | (simp only [List.flatMap_append, dbytes_flat, byteCells_u8]; done) | (rw [List.flatMap_append]; rfl))
  refine J.run [.u, .n] [4] ⟨[(4, .v (.slice a2 65 c2))], [⟨34, dcells l⟩, ⟨34, dcells r⟩]⟩ [.o 5 3, .c 6] [.c 6] (by kernel_rfl) ?_
  refine J.ret (v := .slice a2 65 c2) (by kernel_rfl) (by kernel_rfl) (fun w1 A1 m1 hac l1 => ⟨_, _, _, rfl, fun A hA => by have q := (hn3.mv m1).sl (fun x _ => rfl) (by decide) hA; simpa only [List.cons_append, List.nil_append, List.append_assoc] using q⟩)
end Go.Proofs.Ytkgokehkobifkaa.J

/- Package bytes: Equal. -/
namespace Go.Proofs.Ytkgokehkobifkaa.J
open Go Go.RowKit

theorem strOf_seq (xs ys : List UInt8) : seq (strOf xs) (strOf ys) = (xs == ys) := by
  rw [Bool.eq_iff_iff, seq_iff, beq_iff_eq]
  constructor
  · intro h
    have := congrArg (fun t : Str => t.data.toList) h
    simpa [strOf] using this
  · rintro rfl; rfl

theorem bytesEqual_calls (a : Option Addr) (n c : Nat) (xs : List UInt8) (b : Option Addr) (m d : Nat) (ys : List UInt8) (Ac : Nat → Prop) (W : World) (hA : ∀ k, Ac k → k < W.heap.size) (ha : Sl 1 u8 Ac W a n c xs) (hb : Sl 1 u8 Ac W b m d ys) :
    Calls Pr 69 #[.slice a n c, .slice b m d] W (Ret nobody W fun v w => v = .bool (seq (strOf xs) (strOf ys))) := by
  refine J.enter (fn := Try.f69) (n := 10) Try.func69 (by kernel_rfl) (by kernel_rfl) (by kernel_rfl) hA ?_
  refine J.run [.n, .n, .u, .n, .n, .n, .u] [1, 5] ⟨[(1, .v (.slice b m d)), (5, .v (.slice a n c))], []⟩ [.c 0] [.o 3 1, .c 4] (by kernel_rfl) ?_
  refine J.cv (u8 := u8) (fun _ => rfl) (a := a) (len := n) (c := c) (bs := xs) (d := 6) (by kernel_rfl) (fun w1 A1 m1 l1 => ha.mv m1) ?_
  refine J.run [.u] [6, 7] ⟨[(6, .v (.string (strOf xs))), (7, .v (.slice b m d))], []⟩ [.o 3 2, .c 4] [.o 3 3, .c 4] (by kernel_rfl) ?_
  refine J.cv (u8 := u8) (fun _ => rfl) (a := b) (len := m) (c := d) (bs := ys) (d := 8) (by kernel_rfl) (fun w1 A1 m1 l1 => hb.mv m1) ?_
  refine J.run [.u, .u, .n] [4] ⟨[(4, .v (.bool ((seq (strOf xs) (strOf ys)))))], []⟩ [.o 3 4, .c 4] [.c 4] (by kernel_rfl) ?_
  refine J.ret (v := .bool ((seq (strOf xs) (strOf ys)))) (by kernel_rfl) (by kernel_rfl) (fun w1 A1 m1 hac l1 => rfl)
end Go.Proofs.Ytkgokehkobifkaa.J

/- Maps from strings to entries, plainly: what lookup and update come to. -/
namespace Go.Proofs.Ytkgokehkobifkaa.J
open Go Go.RowKit

def mEnt (e : Ent) (i : Nat) : MapEntry := ⟨.string e.key, .agg (encE e).toArray, i⟩
def mList : List Ent → Nat → List MapEntry
  | [], _ => []
  | e :: r, i => mEnt e i :: mList r (i + 1)
theorem mList_len : ∀ (ms : List Ent) (i : Nat), (mList ms i).length = ms.length
  | [], _ => rfl
  | _ :: r, i => by simp [mList, mList_len r]
theorem mList_get : ∀ (ms : List Ent) (i j : Nat), (mList ms i)[j]? = (ms[j]?).map fun e => mEnt e (i + j)
  | [], _, _ => by simp [mList]
  | e :: r, i, 0 => by simp [mList]
  | e :: r, i, j + 1 => by simp [mList, mList_get r (i + 1) j, Nat.add_assoc, Nat.add_comm 1 j]
theorem mList_snoc : ∀ (ms : List Ent) (i : Nat) (e : Ent), mList (ms ++ [e]) i = mList ms i ++ [mEnt e (i + ms.length)]
  | [], _, _ => rfl
  | x :: r, i, e => by simp [mList, mList_snoc r (i + 1) e, Nat.add_assoc, Nat.add_comm 1]

/-- Where a key stands. -/
def posOf (k : Str) (ms : List Ent) : Option Nat := ms.findIdx? fun e => seq e.key k

theorem seq_comm (a b : Str) : seq a b = seq b a := by
  rw [Bool.eq_iff_iff, seq_iff, seq_iff]
  exact ⟨fun h => h.symm, fun h => h.symm⟩
theorem beq_str (a b : Str) : (a == b) = seq b a := by
  rw [seq_comm]; exact beq_toListBytes a b

theorem findNow_str (k : Str) : ∀ (ms : List Ent) (i n : Nat), Instr.findNow .string (.string k) (mList ms i) n = some ((posOf k ms).bind fun j => (ms[j]?).map fun e => (n + j, .agg (encE e).toArray))
  | [], _, _ => rfl
  | e :: r, i, n => by
    have ih := findNow_str k r (i + 1) (n + 1)
    simp only [mList, mEnt, Instr.findNow, Instr.sameNow, beq_str]
    unfold posOf at *
    rw [List.findIdx?_cons]
    cases h : seq e.key k with
    | true => simp
    | false =>
      simp only [ih, Bool.false_eq_true, if_false]
      cases hf : List.findIdx? (fun e => seq e.key k) r with
      | none => simp
      | some j => simp [Nat.add_assoc, Nat.add_comm 1 j]

/-- What an update makes of the entries. -/
def putM (ms : List Ent) (e : Ent) : List Ent := match posOf e.key ms with
  | some j => ms.set j e
  | none => ms ++ [e]

section
variable {w : World} {b : Nat} {ms : List Ent} {T kt et : TypeId} {P : Program}

theorem run_checkKey (hk : P.underlying kt = some .string) (em : Bool) (k : Str) (w : World) : (Instr.checkKey em 10000 kt (.string k)).run P w = .ok () w := by
  show (Instr.checkKey em (9999 + 1) kt (.string k)).run P w = _
  rw [Instr.checkKey]
  simp [run_underlying hk]

theorem run_lookupM (ht : P.underlying T = some (.map kt et)) (hk : P.underlying kt = some .string) {z : Value} (hz : (zeroValue et).run P w = .ok z w) (hb : w.heap[b]? = some (.map (mList ms 0).toArray ms.length)) (k : Str) :
    (Instr.lookup T (.map (some b)) (.string k) true).run P w = .ok (match posOf k ms with
      | some j => .tuple #[(match ms[j]? with | some e => .agg (encE e).toArray | none => z), .bool true]
      | none => .tuple #[z, .bool false]) w := by
  have hf := findNow_str k ms 0 0
  cases hp : posOf k ms with
  | none =>
    rw [hp] at hf
    simp [Instr.lookup, run_underlying ht, MapKept.run_getObj_map hb, Instr.findKey, run_underlying hk, hf, hz, run_checkKey hk, Result.andThen]
  | some j =>
    have hj := (List.findIdx?_eq_some_iff_getElem.1 hp)
    obtain ⟨h1, _⟩ := hj
    rw [hp] at hf
    simp only [Option.bind_some, List.getElem?_eq_getElem h1, Option.map_some] at hf
    simp [Instr.lookup, run_underlying ht, MapKept.run_getObj_map hb, Instr.findKey, run_underlying hk, hf, run_checkKey hk, Result.andThen, List.getElem?_eq_getElem h1]

theorem mList_modify (e : Ent) : ∀ (ms : List Ent) (i j : Nat) (x : Ent), ms[j]? = some x → x.key = e.key → (mList ms i).modify j (fun y => { y with key := .string e.key, val := .agg (encE e).toArray }) = mList (ms.set j e) i
  | [], _, _, _, h, _ => by simp at h
  | y :: r, i, 0, x, h, hk => by simp [mList, mEnt]
  | y :: r, i, j + 1, x, h, hk => by
    simp only [mList, List.set_cons_succ, List.modify_succ_cons]
    rw [mList_modify e r (i + 1) j x (by simpa using h) hk]

theorem run_updateM (ht : P.underlying T = some (.map kt et)) (hk : P.underlying kt = some .string) (hb : w.heap[b]? = some (.map (mList ms 0).toArray ms.length)) (e : Ent) :
    (Instr.mapUpdate T (.map (some b)) (.string e.key) (.agg (encE e).toArray)).run P w = .ok () { w with heap := w.heap.setIfInBounds b (.map (mList (putM ms e) 0).toArray (putM ms e).length) } := by
  have hf := findNow_str e.key ms 0 0
  cases hp : posOf e.key ms with
  | none =>
    rw [hp] at hf
    have hput : putM ms e = ms ++ [e] := by simp [putM, hp]
    rw [hput, mList_snoc]
    simp [Instr.mapUpdate, run_underlying ht, MapKept.run_getObj_map hb, Instr.findKey, run_underlying hk, hf, run_checkKey hk, Result.andThen, MapKept.run_setObj_map _ hb, mEnt]
  | some j =>
    obtain ⟨h1, h2, _⟩ := List.findIdx?_eq_some_iff_getElem.1 hp
    have hkey := seq_iff.1 h2
    have hput : putM ms e = ms.set j e := by simp [putM, hp]
    rw [hput, ← mList_modify e ms 0 j ms[j] (List.getElem?_eq_getElem h1) hkey]
    rw [hp] at hf
    simp only [Option.bind_some, List.getElem?_eq_getElem h1, Option.map_some, Nat.zero_add] at hf
    have hold : (mList ms 0)[j]? = some (mEnt ms[j] (0 + j)) := by rw [mList_get, List.getElem?_eq_getElem h1]; rfl
    have hst : (Instr.keyThatStays (.string ms[j].key) (.string e.key)).run P w = .ok (.string e.key) w := by
      unfold Instr.keyThatStays
      have : Instr.sameBits 10000 (.string ms[j].key) (.string e.key) = true := by
        show (ms[j].key == e.key) = true
        rw [beq_str, hkey, seq_refl]
      rw [this]; rfl
    simp [Instr.mapUpdate, run_underlying ht, MapKept.run_getObj_map hb, Instr.findKey, run_underlying hk, hf, run_checkKey hk, Result.andThen, MapKept.run_setObj_map _ hb, hold, mEnt, hst, List.length_set]
end
end Go.Proofs.Ytkgokehkobifkaa.J

/- Maps in the calculus: a map that the walk owns. -/
namespace Go.Proofs.Ytkgokehkobifkaa.J
open Go Go.RowKit

/-- The walk's own map, from strings to entries. -/
def MapAt (N : Nat) (ρ : List Nat) (A : Nat → Prop) (w : World) (b : Nat) (ms : List Ent) : Prop :=
  N ≤ b ∧ b ∉ ρ ∧ A b ∧ w.heap[b]? = some (.map (mList ms 0).toArray ms.length)
theorem MapAt.mv {N : Nat} {ρ : List Nat} {A A1 : Nat → Prop} {w w1 : World} {b : Nat} {ms : List Ent} (h : MapAt N ρ A w b ms) (m : Mv (Lb ρ) A A1 w w1) : MapAt N ρ A1 w1 b ms := by
  obtain ⟨h1, h2, h3, h4⟩ := h
  have hlt : b < w.heap.size := (Array.getElem?_eq_some_iff.1 h4).1
  exact ⟨h1, h2, m.up b hlt h3 h2, by rw [m.same b hlt h2]; exact h4⟩
theorem MapAt.more {N : Nat} {ρ : List Nat} {A : Nat → Prop} {w : World} {b : Nat} {ms : List Ent} (h : MapAt N ρ A w b ms) {c : Nat} (hc : w.heap.size ≤ c) : MapAt N (ρ ++ [c]) A w b ms := by
  obtain ⟨h1, h2, h3, h4⟩ := h
  have hlt : b < w.heap.size := (Array.getElem?_eq_some_iff.1 h4).1
  refine ⟨h1, fun hm => ?_, h3, h4⟩
  rcases List.mem_append.1 hm with h | h
  · exact h2 h
  · simp at h; omega
theorem MapAt.fewer {N : Nat} {ρ ρ' : List Nat} {A : Nat → Prop} {w : World} {b : Nat} {ms : List Ent} (h : MapAt N ρ A w b ms) (hs : ∀ x, x ∈ ρ' → x ∈ ρ) : MapAt N ρ' A w b ms := ⟨h.1, fun hm => h.2.1 (hs _ hm), h.2.2.1, h.2.2.2⟩

section
variable {P : Program} {B : Code} {Q : Exit → Act → World → Prop} {n : Nat} {W : World} {Ac M A : Nat → Prop} {s : SS} {ρ : List Nat} {w0 : World} {r t : List It} {k j : Nat}

def lkOf (B : Code) (e : Env) (ρ : List Nat) (n k j : Nat) : Option (TypeId × Nat × Str × Nat) :=
  match nowOp B e k j with
  | some o => match o.dst, o.op with
    | some d, .lookup T x y true => bif Nat.blt d n then (match evv e ρ none x, evv e ρ none y with
      | some (.map (some b)), some (.string q) => some (T, b, q, d)
      | _, _ => none) else none
    | _, _ => none
  | none => none

theorem J.lookup {T kt et : TypeId} {b d : Nat} {q : Str} {z : Value} {ms : List Ent} (hx : lkOf B s.env ρ n k j = some (T, b, q, d)) (ht : P.underlying T = some (.map kt et)) (hk : P.underlying kt = some .string) (hz : ∀ w, (zeroValue et).run P w = .ok z w) (hm : MapAt W.heap.size ρ A w0 b ms)
    (h : J P B Q n W Ac M (.o k (j + 1) :: r) ⟨put s.env d (.v (match posOf q ms with
      | some j => .tuple #[(match ms[j]? with | some e => .agg (encE e).toArray | none => z), .bool true]
      | none => .tuple #[z, .bool false])), s.mem⟩ ρ A w0) : J P B Q n W Ac M (.o k j :: r) s ρ A w0 := by
  unfold lkOf at hx
  split at hx
  · rename_i o ho
    split at hx
    · rename_i d' T' x y hd hop
      obtain ⟨hdn, hx⟩ := bif_some hx
      split at hx
      · rename_i b' q' h1 h2
        cases hx
        refine J.readG .text ho hd (blt_iff.1 hdn) (fun a w ok => ?_) h
        have e1 : execOp a.eval o = (do Pure.pure (.value (← Instr.lookup T (a.eval x) (a.eval y) true))) := by unfold execOp; rw [hop]
        rw [e1, evv_den ok.fits (GOk.none _) h1, evv_den ok.fits (GOk.none _) h2]
        simp only [Sem.run_bind, run_lookupM ht hk (hz w) (hm.mv ok.mv).2.2.2 q, Result.andThen_ok, Sem.run_pure]
        all_goals (cases posOf q ms with
          | none => rfl
          | some j => cases ms[j]? <;> rfl)
      · cases hx
    · cases hx
  · cases hx

def muOf (B : Code) (e : Env) (ρ : List Nat) (k j : Nat) : Option (TypeId × Nat × Value × Value) :=
  match nowOp B e k j with
  | some o => match o.dst, o.op with
    | none, .mapUpdate T x y z => match evv e ρ none x, evv e ρ none y, evv e ρ none z with
      | some (.map (some b)), some u, some v => some (T, b, u, v)
      | _, _, _ => none
    | _, _ => none
  | none => none

theorem J.update {T kt et : TypeId} {b : Nat} {e : Ent} {ms : List Ent} (hx : muOf B s.env ρ k j = some (T, b, .string e.key, .agg (encE e).toArray)) (ht : P.underlying T = some (.map kt et)) (hk : P.underlying kt = some .string) (hm : MapAt W.heap.size ρ A w0 b ms)
    (h : ∀ w' A', MapAt W.heap.size ρ A' w' b (putM ms e) → Mv (fun k => Lb ρ k ∨ k = b) A A' w0 w' → J P B Q n W Ac M (.o k (j + 1) :: r) s ρ A' w') : J P B Q n W Ac M (.o k j :: r) s ρ A w0 := by
  unfold muOf at hx
  split at hx
  · rename_i o ho
    split at hx
    · rename_i T' x y z hd hop
      split at hx
      · rename_i b' u v h1 h2 h3
        cases hx
        refine J.op ho fun a w ok => ?_
        have hmw := hm.mv ok.mv
        obtain ⟨g1, g2, g3, g4⟩ := hmw
        have hlt : b < w.heap.size := (Array.getElem?_eq_some_iff.1 g4).1
        have hr := run_updateM (P := P) ht hk g4 e
        have e1 : execOp a.eval o = (do Instr.mapUpdate T (a.eval x) (a.eval y) (a.eval z); Pure.pure .skip) := by unfold execOp; rw [hop]
        unfold Oper.wp
        rw [e1, evv_den ok.fits (GOk.none _) h1, evv_den ok.fits (GOk.none _) h2, evv_den ok.fits (GOk.none _) h3]
        simp only [Sem.run_bind, hr, Result.andThen_ok, Sem.run_pure, Oper.upon, hd, Act.put]
        have hother : ∀ q, q ≠ b → (w.heap.setIfInBounds b (.map (mList (putM ms e) 0).toArray (putM ms e).length))[q]? = w.heap[q]? := fun q hq => Array.getElem?_setIfInBounds_ne (Ne.symm hq)
        have hmv := ok.mv
        refine h { w with heap := w.heap.setIfInBounds b (.map (mList (putM ms e) 0).toArray (putM ms e).length) } (Av A ρ) ⟨g1, g2, g3, by simp [hlt]⟩ ?_ _ _ ?_
        · exact {
            size := by have := ok.size; simpa using this
            same := fun q hq hn => by
              show (w.heap.setIfInBounds b _)[q]? = _
              rw [hother q (fun e => hn (.inr e))]
              exact ok.same q hq (fun hh => hn (.inl hh))
            sub := fun q hq hl => hq.elim (fun hh => ok.loc q hh hl) (fun e => e ▸ hm.2.2.1)
            dn := fun q hq hh => hmv.dn q hq hh
            up := fun q hq hh hn => hmv.up q hq hh (fun hl => hn (.inl hl))
            bdd := fun q hq => by have := hmv.bdd q hq; simpa using this }
        · exact {
            fits := ok.fits
            locs := ⟨ok.locs.len, ok.locs.nodup, fun i' L hi' => by
              have hmem : ρ.getD i' 0 ∈ ρ := by
                have : i' < ρ.length := by rw [ok.locs.len]; exact (List.getElem?_eq_some_iff.1 hi').1
                simp [List.getD, List.getElem?_eq_getElem this]
              show (w.heap.setIfInBounds b _)[_]? = _
              rw [hother _ (fun e => g2 (e ▸ hmem))]
              exact ok.locs.row hi'⟩
            sn := { os := ok.sn.os, tape := ok.sn.tape, output := ok.sn.output, drawn := ok.sn.drawn, size := by have := ok.sn.size; simpa using this
                    same := fun q hq hM => by
                      show (w.heap.setIfInBounds b _)[q]? = _
                      rw [hother q (fun e => by omega)]
                      exact ok.sn.same q hq hM }
            size := Nat.le_refl _
            same := fun _ _ _ => rfl
            loc := fun q hq _ => .inr hq
            bdd := fun q hq => by have := hmv.bdd q hq; simpa using this
            fresh := ok.fresh
            sub := fun q hq => .inl (ok.sub q hq)
            big := by have := ok.sn.size; simpa using this
            acb := ok.acb }
      · cases hx
    · cases hx
  · cases hx
end
end Go.Proofs.Ytkgokehkobifkaa.J

/- Blocks of the walk's own that are no cells: maps and iterators over them. -/
namespace Go.Proofs.Ytkgokehkobifkaa.J
open Go Go.RowKit

/-- A block of the walk's own, whatever it holds. -/
def OwnO (N : Nat) (ρ : List Nat) (A : Nat → Prop) (w : World) (b : Nat) (o : Obj) : Prop := N ≤ b ∧ b ∉ ρ ∧ A b ∧ w.heap[b]? = some o
theorem OwnO.lt {N : Nat} {ρ : List Nat} {A : Nat → Prop} {w : World} {b : Nat} {o : Obj} (h : OwnO N ρ A w b o) : b < w.heap.size := (Array.getElem?_eq_some_iff.1 h.2.2.2).1
theorem OwnO.mvX {X : Nat → Prop} {N : Nat} {ρ : List Nat} {A A1 : Nat → Prop} {w w1 : World} {b : Nat} {o : Obj} (h : OwnO N ρ A w b o) (m : Mv X A A1 w w1) (hX : ¬ X b) : OwnO N ρ A1 w1 b o :=
  ⟨h.1, h.2.1, m.up b h.lt h.2.2.1 hX, by rw [m.same b h.lt hX]; exact h.2.2.2⟩
theorem OwnO.mv {N : Nat} {ρ : List Nat} {A A1 : Nat → Prop} {w w1 : World} {b : Nat} {o : Obj} (h : OwnO N ρ A w b o) (m : Mv (Lb ρ) A A1 w w1) : OwnO N ρ A1 w1 b o := h.mvX m h.2.1
theorem OwnO.more {N : Nat} {ρ : List Nat} {A : Nat → Prop} {w : World} {b : Nat} {o : Obj} (h : OwnO N ρ A w b o) {c : Nat} (hc : w.heap.size ≤ c) : OwnO N (ρ ++ [c]) A w b o :=
  ⟨h.1, fun hm => by rcases List.mem_append.1 hm with h' | h'
                     · exact h.2.1 h'
                     · have := h.lt; simp at h'; omega, h.2.2⟩
theorem OwnO.fewer {N : Nat} {ρ ρ' : List Nat} {A : Nat → Prop} {w : World} {b : Nat} {o : Obj} (h : OwnO N ρ A w b o) (hs : ∀ x, x ∈ ρ' → x ∈ ρ) : OwnO N ρ' A w b o := ⟨h.1, fun hm => h.2.1 (hs _ hm), h.2.2⟩

theorem set_same {h : Array Obj} {b : Nat} {o : Obj} (hb : h[b]? = some o) : h.setIfInBounds b o = h := by
  obtain ⟨hlt, he⟩ := Array.getElem?_eq_some_iff.1 hb
  apply Array.ext_getElem?
  intro i
  rw [Array.getElem?_setIfInBounds]
  by_cases hi : b = i
  · subst hi; rw [if_pos rfl, if_pos hlt]; exact hb.symm
  · rw [if_neg hi]

/-- The world with one block turned, and the tape asked. -/
def setW (w : World) (b : Nat) (o : Obj) (q : Nat) : World := { w with heap := w.heap.setIfInBounds b o, drawn := w.drawn + q }
theorem setW_same {w : World} {b : Nat} {o : Obj} (hb : w.heap[b]? = some o) : setW w b o 0 = w := by
  unfold setW; rw [set_same hb]; cases w; rfl

section
variable {P : Program} {B : Code} {Q : Exit → Act → World → Prop} {n : Nat} {W : World} {Ac M A : Nat → Prop} {s : SS} {ρ : List Nat} {w0 : World} {r t : List It} {k j : Nat}

/-- A new block that is no cells. -/
theorem J.allocO {o : Oper} {d : Nat} {ob : Obj} {v : Nat → Value} (ho : nowOp B s.env k j = some o) (hd : o.dst = some d) (hdn : d < n)
    (hr : ∀ a w, Ok n W Ac M s ρ A w0 a w → (execOp a.eval o).run P w = .ok (.value (v w.heap.size)) (w.alloc ob))
    (h : ∀ b w' A', OwnO W.heap.size ρ A' w' b ob → w0.heap.size ≤ b → Mv (Lb ρ) A A' w0 w' → J P B Q n W Ac M (.o k (j + 1) :: r) ⟨put s.env d (.v (v b)), s.mem⟩ ρ A' w') : J P B Q n W Ac M (.o k j :: r) s ρ A w0 := by
  refine J.op ho fun a w ok => ?_
  unfold Oper.wp
  rw [hr a w ok]
  simp only [Oper.upon, hd]
  have hold : ∀ k, k < w.heap.size → (w.alloc ob).heap[k]? = w.heap[k]? := fun k hk => Below.heap_alloc w _ k hk
  have hmv := ok.mv
  refine h w.heap.size (w.alloc ob) (fun k => Av A ρ k ∨ k = w.heap.size) ⟨ok.sn.size, fun hh => by have := ok.locs.lt hh; omega, .inr rfl, heap_alloc_new w _⟩ ok.size ?_ _ _ ?_
  · exact {
      size := by have := ok.size; simp; omega
      same := fun k hk hn => by
        rw [hold k (Nat.lt_of_lt_of_le hk ok.size)]
        exact ok.same k hk hn
      sub := fun k hk hl => ok.loc k hk hl
      dn := fun k hk hh => by
        rcases hh with hh | hh
        · exact hmv.dn k hk hh
        · have := ok.size; omega
      up := fun k hk hh hn => .inl (hmv.up k hk hh hn)
      bdd := fun k hk => by
        rcases hk with hh | hh
        · have := hmv.bdd k hh; simp; omega
        · subst hh; simp }
  · refine Ok.put (s := s) (x := .v (v w.heap.size)) ?_ hdn (plain_grd rfl) rfl
    exact {
      fits := ok.fits
      locs := ⟨ok.locs.len, ok.locs.nodup, fun i' L hi' => by
        have hm : ρ.getD i' 0 ∈ ρ := by
          have : i' < ρ.length := by rw [ok.locs.len]; exact (List.getElem?_eq_some_iff.1 hi').1
          simp [List.getD, List.getElem?_eq_getElem this]
        rw [hold _ (ok.locs.lt hm)]
        exact ok.locs.row hi'⟩
      sn := { os := ok.sn.os, tape := ok.sn.tape, output := ok.sn.output, drawn := ok.sn.drawn, size := by have := ok.sn.size; simp; omega
              same := fun k hk hM => by
                rw [hold k (Nat.lt_of_lt_of_le hk ok.sn.size)]
                exact ok.sn.same k hk hM }
      size := Nat.le_refl _
      same := fun _ _ _ => rfl
      loc := fun k hk _ => .inl (.inr hk)
      bdd := fun k hk => by
        rcases hk with hh | hh
        · have := hmv.bdd k hh; simp; omega
        · subst hh; simp
      fresh := ok.fresh
      sub := fun k hk => .inl (.inl (ok.sub k hk))
      big := by have := ok.sn.size; simp; omega
      acb := ok.acb }

/-- What turning one block of the walk's own comes to. -/
theorem Ok.setO {a : Act} {w : World} (ok : Ok n W Ac M s ρ A w0 a w) {b : Nat} {ob : Obj} (hb : OwnO W.heap.size ρ A w0 b ob) (ob' : Obj) (q : Nat) :
    OwnO W.heap.size ρ (Av A ρ) (setW w b ob' q) b ob' ∧ Mv (fun k => Lb ρ k ∨ k = b) A (Av A ρ) w0 (setW w b ob' q) ∧ Ok n W Ac M s ρ (Av A ρ) (setW w b ob' q) a (setW w b ob' q) := by
  have hmw := hb.mv ok.mv
  have hlt := hmw.lt
  have hother : ∀ k, k ≠ b → (setW w b ob' q).heap[k]? = w.heap[k]? := fun k hk => Array.getElem?_setIfInBounds_ne (Ne.symm hk)
  have hsz : (setW w b ob' q).heap.size = w.heap.size := by simp [setW]
  have hmv := ok.mv
  refine ⟨⟨hmw.1, hmw.2.1, hmw.2.2.1, by simp [setW, hlt]⟩, ?_, ?_⟩
  · exact {
      size := by rw [hsz]; exact ok.size
      same := fun k hk hn => by
        rw [hother k (fun e => hn (.inr e))]
        exact ok.same k hk (fun hh => hn (.inl hh))
      sub := fun k hk hl => hk.elim (fun hh => ok.loc k hh hl) (fun e => e ▸ hb.2.2.1)
      dn := fun k hk hh => hmv.dn k hk hh
      up := fun k hk hh hn => hmv.up k hk hh (fun hl => hn (.inl hl))
      bdd := fun k hk => by rw [hsz]; exact hmv.bdd k hk }
  · exact {
      fits := ok.fits
      locs := ⟨ok.locs.len, ok.locs.nodup, fun i' L hi' => by
        have hmem : ρ.getD i' 0 ∈ ρ := by
          have : i' < ρ.length := by rw [ok.locs.len]; exact (List.getElem?_eq_some_iff.1 hi').1
          simp [List.getD, List.getElem?_eq_getElem this]
        rw [hother _ (fun e => hb.2.1 (e ▸ hmem))]
        exact ok.locs.row hi'⟩
      sn := { os := ok.sn.os, tape := ok.sn.tape, output := ok.sn.output, drawn := Nat.le_trans ok.sn.drawn (Nat.le_add_right _ _), size := by rw [hsz]; exact ok.sn.size
              same := fun k hk hM => by
                rw [hother k (fun e => by have := hb.1; omega)]
                exact ok.sn.same k hk hM }
      size := Nat.le_refl _
      same := fun _ _ _ => rfl
      loc := fun k hk _ => .inr hk
      bdd := fun k hk => by rw [hsz]; exact hmv.bdd k hk
      fresh := ok.fresh
      sub := fun k hk => .inl (ok.sub k hk)
      big := by rw [hsz]; exact ok.sn.size
      acb := ok.acb }

/-- An operation that yields a value and may turn one block of the walk's own. -/
theorem J.setO {o : Oper} {d b : Nat} {ob : Obj} {Φ : Value → Obj → Prop} (ho : nowOp B s.env k j = some o) (hd : o.dst = some d) (hdn : d < n) (hb : OwnO W.heap.size ρ A w0 b ob)
    (hr : ∀ a w, Ok n W Ac M s ρ A w0 a w → ∃ v ob' q, (execOp a.eval o).run P w = .ok (.value v) (setW w b ob' q) ∧ Φ v ob')
    (h : ∀ v ob' w' A', Φ v ob' → OwnO W.heap.size ρ A' w' b ob' → Mv (fun k => Lb ρ k ∨ k = b) A A' w0 w' → J P B Q n W Ac M (.o k (j + 1) :: r) ⟨put s.env d (.v v), s.mem⟩ ρ A' w') : J P B Q n W Ac M (.o k j :: r) s ρ A w0 := by
  refine J.op ho fun a w ok => ?_
  unfold Oper.wp
  obtain ⟨v, ob', q, hrun, hΦ⟩ := hr a w ok
  rw [hrun]
  simp only [Oper.upon, hd]
  obtain ⟨h1, h2, h3⟩ := ok.setO hb ob' q
  exact h v ob' _ _ hΦ h1 h2 _ _ (Ok.put (s := s) (x := .v v) h3 hdn (plain_grd rfl) rfl)

/-- 'make' of a map. -/
def mmOf (B : Code) (e : Env) (n k j : Nat) : Option (TypeId × Nat) :=
  match nowOp B e k j with
  | some o => match o.dst, o.op with
    | some d, .makeMap T none => bif Nat.blt d n then some (T, d) else none
    | _, _ => none
  | none => none

theorem J.makeMap {T : TypeId} {d : Nat} (hx : mmOf B s.env n k j = some (T, d))
    (h : ∀ b w' A', MapAt W.heap.size ρ A' w' b [] → w0.heap.size ≤ b → Mv (Lb ρ) A A' w0 w' → J P B Q n W Ac M (.o k (j + 1) :: r) ⟨put s.env d (.v (.map (some b))), s.mem⟩ ρ A' w') : J P B Q n W Ac M (.o k j :: r) s ρ A w0 := by
  unfold mmOf at hx
  split at hx
  · rename_i o ho
    split at hx
    · rename_i d' T' hd hop
      obtain ⟨hdn, hx⟩ := bif_some hx
      cases hx
      refine J.allocO (v := fun b => .map (some b)) (ob := .map #[] 0) ho hd (blt_iff.1 hdn) (fun a w ok => ?_) h
      unfold execOp; rw [hop]
      simp [Instr.makeMap, newObj, Result.andThen, Sem.run_bind, Sem.run_pure]
      rfl
    · cases hx
  · cases hx

/-- An iterator over a map. -/
def rgOf (B : Code) (e : Env) (ρ : List Nat) (n k j : Nat) : Option (TypeId × Nat × Nat) :=
  match nowOp B e k j with
  | some o => match o.dst, o.op with
    | some d, .range T x => bif Nat.blt d n then (match evv e ρ none x with
      | some (.map (some b)) => some (T, b, d)
      | _ => none) else none
    | _, _ => none
  | none => none

theorem J.range {T kt et : TypeId} {b d : Nat} {ms : List Ent} (hx : rgOf B s.env ρ n k j = some (T, b, d)) (ht : P.underlying T = some (.map kt et)) (hm : MapAt W.heap.size ρ A w0 b ms)
    (h : ∀ i w' A', OwnO W.heap.size ρ A' w' i (.mapIter (some b) ms.length #[] ms.length) → w0.heap.size ≤ i → Mv (Lb ρ) A A' w0 w' → J P B Q n W Ac M (.o k (j + 1) :: r) ⟨put s.env d (.v (.pointer (some ⟨i, 0, none⟩))), s.mem⟩ ρ A' w') : J P B Q n W Ac M (.o k j :: r) s ρ A w0 := by
  unfold rgOf at hx
  split at hx
  · rename_i o ho
    split at hx
    · rename_i d' T' x hd hop
      obtain ⟨hdn, hx⟩ := bif_some hx
      split at hx
      · rename_i b' h1
        cases hx
        refine J.allocO (v := fun i => .pointer (some ⟨i, 0, none⟩)) (ob := .mapIter (some b) ms.length #[] ms.length) ho hd (blt_iff.1 hdn) (fun a w ok => ?_) h
        have e1 : execOp a.eval o = (do Pure.pure (.value (← Instr.range T (a.eval x)))) := by unfold execOp; rw [hop]
        rw [e1, evv_den ok.fits (GOk.none _) h1]
        simp only [Sem.run_bind, run_range_map w T kt et b _ ms.length ht (hm.mv ok.mv).2.2.2, Result.andThen_ok, Sem.run_pure]
      · cases hx
    · cases hx
  · cases hx

/-! ## the next one -/
theorem mList_mem {ms : List Ent} {i : Nat} {x : MapEntry} (h : x ∈ mList ms i) : ∃ j e, ms[j]? = some e ∧ x = mEnt e (i + j) := by
  obtain ⟨j, hj⟩ := List.mem_iff_getElem?.1 h
  rw [mList_get] at hj
  cases he : ms[j]? with
  | none => rw [he] at hj; cases hj
  | some e => rw [he] at hj; exact ⟨j, e, he, by cases hj; rfl⟩

def itOf (b c : Nat) (seen : List Nat) : Obj := .mapIter (some b) c seen.toArray c

/-- What a step of the iterator may come to. -/
def NextR (b : Nat) (ms : List Ent) (seen : List Nat) (v : Value) (ob : Obj) : Prop :=
  ((∀ j, j < ms.length → j ∈ seen) ∧ v = .tuple #[.bool false] ∧ ob = itOf b ms.length seen) ∨
  ∃ j e, ms[j]? = some e ∧ j ∉ seen ∧ v = .tuple #[.bool true, .string e.key, .agg (encE e).toArray] ∧ ob = itOf b ms.length (seen ++ [j])

theorem run_nextM {w : World} {r b : Nat} {ms : List Ent} {seen : List Nat} {T : TypeId} (hr : w.heap[r]? = some (itOf b ms.length seen)) (hb : w.heap[b]? = some (.map (mList ms 0).toArray ms.length)) :
    ∃ v ob q, (Instr.next (.pointer (some ⟨r, 0, none⟩)) false T).run P w = .ok v (setW w r ob q) ∧ NextR b ms seen v ob := by
  have hlt : r < w.heap.size := (Array.getElem?_eq_some_iff.1 hr).1
  have hborn : ∀ x ∈ mList ms 0, x.born < ms.length := fun x hx => by
    obtain ⟨j, e, hj, rfl⟩ := mList_mem hx
    have := (List.getElem?_eq_some_iff.1 hj).1
    simp only [mEnt]; omega
  have htest : (!seen.toArray.isEmpty && !(mList ms 0).toArray.isEmpty && (mList ms 0).toArray.all (fun x => decide (x.born ≥ ms.length))) = false :=
    next_test_false seen.toArray (mList ms 0).toArray ms.length ms.length (by simpa using hborn) (Nat.le_refl _)
  unfold itOf at hr
  simp only [Instr.next, getObj, Sem.run_bind, Sem.run, hr, hb, Result.andThen, htest, Bool.false_eq_true, if_false]
  have hmem : ∀ x ∈ (mList ms 0).toArray.filter (fun e => !seen.toArray.contains e.born), ∃ j e, ms[j]? = some e ∧ j ∉ seen ∧ x = mEnt e j := fun x hx => by
    obtain ⟨h1, h2⟩ := Array.mem_filter.1 hx
    obtain ⟨j, e, hj, rfl⟩ := mList_mem (i := 0) (by simpa using h1)
    refine ⟨j, e, hj, ?_, by simp⟩
    simp [mEnt] at h2
    exact h2
  have hnone : (mList ms 0).toArray.filter (fun e => !seen.toArray.contains e.born) = #[] → ∀ j, j < ms.length → j ∈ seen := fun h0 j hj => by
    refine Classical.byContradiction fun hns => ?_
    have : mEnt ms[j] j ∈ (mList ms 0).toArray.filter (fun e => !seen.toArray.contains e.born) := by
      refine Array.mem_filter.2 ⟨?_, by simp [mEnt, hns]⟩
      rw [List.mem_toArray, List.mem_iff_getElem?]
      exact ⟨j, by rw [mList_get, List.getElem?_eq_getElem hj]; simp⟩
    rw [h0] at this
    simp at this
  generalize Array.filter (fun e => !seen.toArray.contains e.born) (mList ms 0).toArray = L at hmem hnone ⊢
  have e1 : L.filter (fun x => decide (x.born < ms.length)) = L := Array.filter_eq_self.2 (fun x hx => by
    obtain ⟨j, e, hj, _, rfl⟩ := hmem x hx
    have := (List.getElem?_eq_some_iff.1 hj).1
    exact decide_eq_true this)
  have e2 : L.filter (fun x => decide (x.born ≥ ms.length)) = #[] := by
    rw [Array.filter_eq_empty_iff]
    intro x hx
    obtain ⟨j, e, hj, _, rfl⟩ := hmem x hx
    have := (List.getElem?_eq_some_iff.1 hj).1
    simp [mEnt]; omega
  simp only [e1, e2, Array.append_empty]
  by_cases h0 : L.size = 0
  · have hL : L = #[] := Array.eq_empty_of_size_eq_zero h0
    subst hL
    refine ⟨.tuple #[.bool false], itOf b ms.length seen, 0, ?_, .inl ⟨hnone rfl, rfl, rfl⟩⟩
    rw [setW_same (o := itOf b ms.length seen) hr]
    simp [choose, Sem.run, Question.forced]
  · have hne : L.isEmpty = false := by simp [Array.isEmpty, h0]
    simp only [hne, Bool.false_eq_true, if_false, Array.empty_append, Array.size_map]
    have hch : ∃ (j : Nat) (q : Nat), j < L.size ∧ (choose (Question.mapNext L.size)).run P w = .ok j { w with drawn := w.drawn + q } := by
      by_cases hf : L.size ≤ 1
      · exact ⟨0, 0, by omega, by simp [choose, Sem.run, Question.forced, hf]⟩
      · exact ⟨_, 1, Nat.mod_lt _ (by omega), by
          simp only [choose, Sem.run, Question.forced, decide_eq_true_eq, hf, if_false, Question.cut]
          rfl⟩
    obtain ⟨j, q, hj, hrun⟩ := hch
    obtain ⟨i, e, hi, hns, hLe⟩ := hmem L[j] (Array.getElem_mem hj)
    refine ⟨.tuple #[.bool true, .string e.key, .agg (encE e).toArray], itOf b ms.length (seen ++ [i]), q, ?_, .inr ⟨i, e, hi, hns, rfl, rfl⟩⟩
    simp only [hrun, Array.getElem?_map, Array.getElem?_eq_getElem hj, Option.map_some, Sem.run_bind, setObj, Sem.run, hr, Result.andThen, hLe, mEnt]
    simp [itOf, setW]

def nxOf (B : Code) (e : Env) (ρ : List Nat) (n k j : Nat) : Option (Nat × Nat) :=
  match nowOp B e k j with
  | some o => match o.dst, o.op with
    | some d, .next x false => bif Nat.blt d n then (match evv e ρ none x with
      | some (.pointer (some ⟨i, 0, none⟩)) => some (i, d)
      | _ => none) else none
    | _, _ => none
  | none => none

theorem J.next {b i d : Nat} {ms : List Ent} {seen : List Nat} (hx : nxOf B s.env ρ n k j = some (i, d)) (hm : MapAt W.heap.size ρ A w0 b ms) (hi : OwnO W.heap.size ρ A w0 i (itOf b ms.length seen))
    (h : ∀ v ob w' A', NextR b ms seen v ob → OwnO W.heap.size ρ A' w' i ob → MapAt W.heap.size ρ A' w' b ms → Mv (fun k => Lb ρ k ∨ k = i) A A' w0 w' → J P B Q n W Ac M (.o k (j + 1) :: r) ⟨put s.env d (.v v), s.mem⟩ ρ A' w') : J P B Q n W Ac M (.o k j :: r) s ρ A w0 := by
  have hne : b ≠ i := fun e => by
    subst e
    have := hm.2.2.2.symm.trans hi.2.2.2
    simp [itOf] at this
  unfold nxOf at hx
  split at hx
  · rename_i o ho
    split at hx
    · rename_i d' x hd hop
      obtain ⟨hdn, hx⟩ := bif_some hx
      split at hx
      · rename_i i' h1
        cases hx
        refine J.setO (Φ := NextR b ms seen) ho hd (blt_iff.1 hdn) hi (fun a w ok => ?_) (fun v ob w' A' hΦ ho' hM => h v ob w' A' hΦ ho' (OwnO.mvX (b := b) hm hM (fun hh => hh.elim hm.2.1 hne)) hM)
        have e1 : execOp a.eval o = (do Pure.pure (.value (← Instr.next (a.eval x) false o.type))) := by unfold execOp; rw [hop]
        obtain ⟨v, ob, q, hrun, hN⟩ := run_nextM (P := P) (T := o.type) (hi.mv ok.mv).2.2.2 (hm.mv ok.mv).2.2.2
        refine ⟨v, ob, q, ?_, hN⟩
        rw [e1, evv_den ok.fits (GOk.none _) h1]
        simp only [Sem.run_bind, hrun, Result.andThen_ok, Sem.run_pure]
      · cases hx
    · cases hx
  · cases hx

theorem mList_nodup : ∀ (ms : List Ent) (i : Nat), ((mList ms i).map (·.born)).Nodup
  | [], _ => List.nodup_nil
  | e :: r, i => by
    simp only [mList, List.map_cons, List.nodup_cons]
    refine ⟨fun h => ?_, mList_nodup r (i + 1)⟩
    obtain ⟨x, hx, he⟩ := List.mem_map.1 h
    obtain ⟨j, e', hj, rfl⟩ := mList_mem hx
    simp [mEnt] at he
    omega

theorem run_entryM {w : World} {r b i : Nat} {ms : List Ent} {seen : List Nat} {e : Ent} (hr : w.heap[r]? = some (itOf b ms.length (seen ++ [i]))) (hb : w.heap[b]? = some (.map (mList ms 0).toArray ms.length)) (hi : ms[i]? = some e) :
    (Instr.entry (.pointer (some ⟨r, 0, none⟩))).run P w = .ok (.tuple #[.string e.key, .agg (encE e).toArray]) w := by
  unfold itOf at hr
  have hf : (mList ms 0).toArray.find? (·.born == i) = some (mEnt e i) := by
    rw [← Array.find?_toList]
    have := find_born (mEnt e i) (mList ms 0) (mList_nodup ms 0) (List.mem_iff_getElem?.2 ⟨i, by rw [mList_get, hi]; simp⟩)
    simpa [mEnt] using this
  simp [Instr.entry, getObj, Sem.run_bind, Sem.run, hr, hb, Result.andThen, hf, mEnt]

def enOf (B : Code) (e : Env) (ρ : List Nat) (n k j : Nat) : Option (Nat × Nat) :=
  match nowOp B e k j with
  | some o => match o.dst, o.op with
    | some d, .entry x => bif Nat.blt d n then (match evv e ρ none x with
      | some (.pointer (some ⟨i, 0, none⟩)) => some (i, d)
      | _ => none) else none
    | _, _ => none
  | none => none

theorem J.entry {b i q d : Nat} {ms : List Ent} {seen : List Nat} {e : Ent} (hx : enOf B s.env ρ n k j = some (i, d)) (hm : MapAt W.heap.size ρ A w0 b ms) (hi : OwnO W.heap.size ρ A w0 i (itOf b ms.length (seen ++ [q]))) (hq : ms[q]? = some e)
    (h : J P B Q n W Ac M (.o k (j + 1) :: r) ⟨put s.env d (.v (.tuple #[.string e.key, .agg (encE e).toArray])), s.mem⟩ ρ A w0) : J P B Q n W Ac M (.o k j :: r) s ρ A w0 := by
  unfold enOf at hx
  split at hx
  · rename_i o ho
    split at hx
    · rename_i d' x hd hop
      obtain ⟨hdn, hx⟩ := bif_some hx
      split at hx
      · rename_i i' h1
        cases hx
        refine J.readG .text ho hd (blt_iff.1 hdn) (fun a w ok => ?_) h
        have e1 : execOp a.eval o = (do Pure.pure (.value (← Instr.entry (a.eval x)))) := by unfold execOp; rw [hop]
        rw [e1, evv_den ok.fits (GOk.none _) h1]
        simp only [Sem.run_bind, run_entryM (P := P) (hi.mv ok.mv).2.2.2 (hm.mv ok.mv).2.2.2 hq, Result.andThen_ok, Sem.run_pure]
      · cases hx
    · cases hx
  · cases hx
end
end Go.Proofs.Ytkgokehkobifkaa.J
