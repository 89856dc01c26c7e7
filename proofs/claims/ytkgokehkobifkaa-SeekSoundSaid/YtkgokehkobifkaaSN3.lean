/- Part 3 of the texts that the proof of the row stands on: the calculus, contracts of the functions, plain laws; no condition of its own. -/
import Derived.Test.YtkgokehkobifkaaSN2
import Derived.Laws.IdiomMaps
import Derived.Laws.IdiomRangeMap
import Derived.Shelf.SlSortCmp.WholeK
set_option linter.unusedVariables false
set_option linter.unusedSimpArgs false
/- Package seek: whole, none, holds. -/
namespace Go.Proofs.Ytkgokehkobifkaa.J
open Go Go.RowKit

def wholeF (bs : List UInt8) : Bool := ((pars bs).2.2 == 0) && ((((pars bs).2.1 : Nat) : Int) == ((bs.length : Nat) : Int))
def holdsF (bits : Int) (root : Dg) (n : Nat) (i : Int) (leaf : List UInt8) (path : List Dg) : Bool := wholeF leaf && checkF bits root n i leaf path

theorem whole_calls (a : Option Addr) (n c : Nat) (bs : List UInt8) (Ac : Nat → Prop) (W : World) (hA : ∀ k, Ac k → k < W.heap.size) (hs : Sl 1 u8 Ac W a n c bs) :
    Calls Pr 56 #[.slice a n c] W (Ret nobody W fun v w => v = .tuple #[.agg (encE (pars bs).1).toArray, .bool (wholeF bs)]) := by
  refine J.enter (fn := Try.f56) (n := 22) Try.func56 (by kernel_rfl) (by kernel_rfl) (by kernel_rfl) hA ?_
  have hlen := hs.len
  refine J.rn [.n, .n] [0] [.c 0] [.o 1 0, .c 2] (by kernel_rfl) ?_
  refine J.new (T := 42) (cs := [.string (⟨#[]⟩ : Str), .string (⟨#[]⟩ : Str), .bool false, .int .i64 0]) (d := 2) (K := .ptr) (by kernel_rfl) (fun b1 hb1 => ?_)
  refine J.rn [.u, .n, .n, .n, .u] [0, 2, 8] [.o 1 1, .c 2] [.o 3 1, .c 4] (by kernel_rfl) ?_
  refine J.call (d := some 9) (by kernel_rfl) (fun w1 A1 m1 l1 => parse_calls a n c bs nobody w1 noA (hs.mv m1).any) ?_
  rintro _ u1 w1 A1 rfl g1
  have m1 := g1.mv
  replace hs := hs.mv m1
  refine J.rn [.u, .u, .u, .u] [0, 2, 10, 11, 12] [.o 3 2, .c 4] [.o 3 6, .c 4] (by kernel_rfl) ?_
  refine J.new (T := 42) (cs := [.string (⟨#[]⟩ : Str), .string (⟨#[]⟩ : Str), .bool false, .int .i64 0]) (d := 4) (K := .ptr) (by kernel_rfl) (fun b2 hb2 => ?_)
  refine J.run [.u, .u, .u, .n, .n, .n, .u, .u, .u, .u] [0, 2, 5, 13, 16] ⟨[(0, .v (.slice a n c)), (2, .loc 0 0), (5, .v (.int .i64 (((pars bs).2.1 : Nat) : Int))), (13, .v (.agg (encE (pars bs).1).toArray)), (16, .v (.bool (((pars bs).2.2) == 0)))], [⟨42, [.string (⟨#[]⟩ : Str), .string (⟨#[]⟩ : Str), .bool false, .int .i64 0]⟩, ⟨42, encE (pars bs).1⟩]⟩ [.o 3 7, .c 4] [.o 5 4, .c 6] (by kernel_rfl) ?_
  rcases Bool.eq_false_or_eq_true (((pars bs).2.2) == 0) with hc | hc
  · rw [hc]
    try simp only [nrm] at hc
    have hc1 := hc
    refine J.rn [.w, .w, .w, .w, .u, .u, .u, .n] [2, 3] [.o 5 4, .c 6] [.c 6] (by kernel_rfl) ?_
    refine J.ret (v := .tuple #[.agg (encE (pars bs).1).toArray, .bool ((((pars bs).2.1 : Nat) : Int) == ((n : Nat) : Int))]) (by kernel_rfl) (by kernel_rfl) (fun w1 A1 m1 hac l1 => by rw [wholeF, show ((pars bs).2.2 == 0) = true from beq_iff_eq.2 hc1, ← hlen]; rfl)
  · rw [hc]
    try simp only [nrm] at hc
    have hc1 := hc
    refine J.rn [.x, .x, .x, .x, .u, .u, .u, .n] [2, 3] [.o 5 4, .c 6] [.c 6] (by kernel_rfl) ?_
    refine J.ret (v := .tuple #[.agg (encE (pars bs).1).toArray, .bool false]) (by kernel_rfl) (by kernel_rfl) (fun w1 A1 m1 hac l1 => by rw [wholeF, show ((pars bs).2.2 == 0) = false from beq_eq_false_iff_ne.2 hc1]; rfl)
theorem none_calls (ot : Int) (ola : Option Addr) (oln olc : Nat) (opa : Option Addr) (opn opc : Nat) (Ac : Nat → Prop) (W : World) (hA : ∀ k, Ac k → k < W.heap.size) :
    Calls Pr 37 #[.agg [.int .i64 ot, .slice ola oln olc, .slice opa opn opc].toArray] W (Ret nobody W fun v w => v = .bool (decide (ot = 0 ∧ oln = 0 ∧ opn = 0))) := by
  refine J.enter (fn := Try.f37) (n := 18) Try.func37 (by kernel_rfl) (by kernel_rfl) (by kernel_rfl) hA ?_
  refine J.rn [.n, .n] [0] [.c 0] [.o 1 0, .c 2] (by kernel_rfl) ?_
  refine J.new (T := 26) (cs := [.int .i64 ot, .slice ola oln olc, .slice opa opn opc]) (d := 1) (K := .ptr) (by kernel_rfl) (fun b1 hb1 => ?_)
  refine J.run [.u, .n, .n, .n, .u, .u, .u, .u] [1, 6] ⟨[(1, .loc 0 0), (6, .v (.bool (ot == 0)))], [⟨26, [.int .i64 ot, .slice ola oln olc, .slice opa opn opc]⟩]⟩ [.o 1 1, .c 2] [.o 3 4, .c 4] (by kernel_rfl) ?_
  rcases Bool.eq_false_or_eq_true (ot == 0) with hc | hc
  · rw [hc]
    try simp only [nrm] at hc
    have hc1 := hc
    refine J.run [.w, .w, .w, .w, .u, .u] [1, 12] ⟨[(1, .loc 0 0), (12, .v (.bool (((oln : Nat) : Int) == 0)))], [⟨26, [.int .i64 ot, .slice ola oln olc, .slice opa opn opc]⟩]⟩ [.o 3 4, .c 4] [.o 3 10, .c 4] (by kernel_rfl) ?_
    rcases Bool.eq_false_or_eq_true (((oln : Nat) : Int) == 0) with hc | hc
    · rw [hc]
      try simp only [nrm] at hc
      have hc2 := hc
      refine J.run [.w, .w, .w, .w, .u, .u, .n] [2] ⟨[(2, .v (.bool (((opn : Nat) : Int) == 0)))], [⟨26, [.int .i64 ot, .slice ola oln olc, .slice opa opn opc]⟩]⟩ [.o 3 10, .c 4] [.c 4] (by kernel_rfl) ?_
      rcases Bool.eq_false_or_eq_true (((opn : Nat) : Int) == 0) with hc | hc
      · rw [hc]
        try simp only [nrm] at hc
        have hce := hc
        refine J.ret (v := .bool true) (by kernel_rfl) (by kernel_rfl) (fun w1 A1 m1 hac l1 => congrArg Value.bool (by symm; simp only [decide_eq_true_eq, decide_eq_false_iff_not]; omega))
      · rw [hc]
        try simp only [nrm] at hc
        have hce := hc
        refine J.ret (v := .bool false) (by kernel_rfl) (by kernel_rfl) (fun w1 A1 m1 hac l1 => congrArg Value.bool (by symm; simp only [decide_eq_true_eq, decide_eq_false_iff_not]; omega))
    · rw [hc]
      try simp only [nrm] at hc
      have hc2 := hc
      refine J.rn [.x, .x, .x, .x, .u, .u, .n] [2] [.o 3 10, .c 4] [.c 4] (by kernel_rfl) ?_
      refine J.ret (v := .bool false) (by kernel_rfl) (by kernel_rfl) (fun w1 A1 m1 hac l1 => congrArg Value.bool (by symm; simp only [decide_eq_true_eq, decide_eq_false_iff_not]; omega))
  · rw [hc]
    try simp only [nrm] at hc
    have hc1 := hc
    refine J.rn [.x, .x, .x, .x, .u, .u, .x, .x, .x, .x, .u, .u, .n] [2] [.o 3 4, .c 4] [.c 4] (by kernel_rfl) ?_
    refine J.ret (v := .bool false) (by kernel_rfl) (by kernel_rfl) (fun w1 A1 m1 hac l1 => congrArg Value.bool (by symm; simp only [decide_eq_true_eq, decide_eq_false_iff_not]; omega))
theorem holds_calls (bits : Int) (x : Tab) (N : Nat) (hx : x.count = ((N : Nat) : Int)) (ot : Int) (ola : Option Addr) (oln olc : Nat) (opa : Option Addr) (opn opc : Nat) (leaf : List UInt8) (path : List Dg) (hN : N ≤ 1000000) (hln : oln ≤ 1000000) (Ac : Nat → Prop) (W : World) (hA : ∀ k, Ac k → k < W.heap.size) (hs : Sl 1 u8 Ac W ola oln olc leaf) (hp : Sl 32 dcells Ac W opa opn opc path) :
    Calls Pr 36 #[.agg [.int .i64 bits].toArray, .agg (encT x).toArray, .agg [.int .i64 ot, .slice ola oln olc, .slice opa opn opc].toArray] W (Ret nobody W fun v w => v = .tuple #[.agg (encE (pars leaf).1).toArray, .bool (holdsF bits x.root N ot leaf path)]) := by
  refine J.enter (fn := Try.f36) (n := 32) Try.func36 (by kernel_rfl) (by kernel_rfl) (by kernel_rfl) hA ?_
  refine J.rn [.n, .n] [0, 1, 2] [.c 0] [.o 1 0, .c 2] (by kernel_rfl) ?_
  refine J.new (T := 32) (cs := [.int .i64 bits]) (d := 3) (K := .ptr) (by kernel_rfl) (fun b1 hb1 => ?_)
  refine J.new (T := 36) (cs := encT x) (d := 4) (K := .ptr) (by kernel_rfl) (fun b2 hb2 => ?_)
  refine J.new (T := 26) (cs := [.int .i64 ot, .slice ola oln olc, .slice opa opn opc]) (d := 5) (K := .ptr) (by kernel_rfl) (fun b3 hb3 => ?_)
  refine J.new (T := 42) (cs := [.string (⟨#[]⟩ : Str), .string (⟨#[]⟩ : Str), .bool false, .int .i64 0]) (d := 6) (K := .ptr) (by kernel_rfl) (fun b4 hb4 => ?_)
  refine J.rn [.u, .n, .n, .n, .u, .u] [3, 4, 5, 6, 12] [.o 1 4, .c 2] [.o 3 2, .c 4] (by kernel_rfl) ?_
  refine J.call (d := some 13) (by kernel_rfl) (fun w1 A1 m1 l1 => whole_calls ola oln olc leaf nobody w1 noA (hs.mv m1).any) ?_
  rintro _ u1 w1 A1 rfl g1
  have m1 := g1.mv
  replace hs := hs.mv m1; replace hp := hp.mv m1
  refine J.rn [.u, .u, .u] [3, 4, 5, 6, 14, 15] [.o 3 3, .c 4] [.o 3 6, .c 4] (by kernel_rfl) ?_
  refine J.new (T := 42) (cs := [.string (⟨#[]⟩ : Str), .string (⟨#[]⟩ : Str), .bool false, .int .i64 0]) (d := 8) (K := .ptr) (by kernel_rfl) (fun b5 hb5 => ?_)
  refine J.run [.u, .u, .n, .n] [3, 4, 5, 6, 8, 9] ⟨[(3, .loc 0 0), (4, .loc 1 0), (5, .loc 2 0), (6, .loc 3 0), (8, .loc 4 0), (9, .v (.bool (wholeF leaf)))], [⟨32, [.int .i64 bits]⟩, ⟨36, encT x⟩, ⟨26, [.int .i64 ot, .slice ola oln olc, .slice opa opn opc]⟩, ⟨42, [.string (⟨#[]⟩ : Str), .string (⟨#[]⟩ : Str), .bool false, .int .i64 0]⟩, ⟨42, encE (pars leaf).1⟩]⟩ [.o 3 7, .c 4] [.c 5, .c 6] (by kernel_rfl) ?_
  rcases Bool.eq_false_or_eq_true (wholeF leaf) with hc | hc
  · rw [hc]
    try simp only [nrm] at hc
    have hc1 := hc
    refine J.draw [3] nobody (by kernel_rfl) (by kernel_rfl) (fun _ h => h.elim) (fun w2 A2 m2 hr1 hX1 => ?_)
    replace hs := hs.mv m2; replace hp := hp.mv m2
    refine J.take0 [(0, .u), (1, .u), (2, .u), (3, .w), (4, .w), (5, .w), (6, .w), (7, .w), (8, .w), (9, .w), (10, .w), (11, .w), (12, .w), (13, .w)] [6, 16, 18, 19, 21, 23, 25, 27, 29] [(6, .loc 3 0), (16, .v (.agg (encE (pars leaf).1).toArray)), (18, .v (.bool true)), (19, .v (.agg [.int .i64 bits].toArray)), (21, .v (.agg [.int .u8 (((x.root 0).toNat : Nat) : Int), .int .u8 (((x.root 1).toNat : Nat) : Int), .int .u8 (((x.root 2).toNat : Nat) : Int), .int .u8 (((x.root 3).toNat : Nat) : Int), .int .u8 (((x.root 4).toNat : Nat) : Int), .int .u8 (((x.root 5).toNat : Nat) : Int), .int .u8 (((x.root 6).toNat : Nat) : Int), .int .u8 (((x.root 7).toNat : Nat) : Int), .int .u8 (((x.root 8).toNat : Nat) : Int), .int .u8 (((x.root 9).toNat : Nat) : Int), .int .u8 (((x.root 10).toNat : Nat) : Int), .int .u8 (((x.root 11).toNat : Nat) : Int), .int .u8 (((x.root 12).toNat : Nat) : Int), .int .u8 (((x.root 13).toNat : Nat) : Int), .int .u8 (((x.root 14).toNat : Nat) : Int), .int .u8 (((x.root 15).toNat : Nat) : Int), .int .u8 (((x.root 16).toNat : Nat) : Int), .int .u8 (((x.root 17).toNat : Nat) : Int), .int .u8 (((x.root 18).toNat : Nat) : Int), .int .u8 (((x.root 19).toNat : Nat) : Int), .int .u8 (((x.root 20).toNat : Nat) : Int), .int .u8 (((x.root 21).toNat : Nat) : Int), .int .u8 (((x.root 22).toNat : Nat) : Int), .int .u8 (((x.root 23).toNat : Nat) : Int), .int .u8 (((x.root 24).toNat : Nat) : Int), .int .u8 (((x.root 25).toNat : Nat) : Int), .int .u8 (((x.root 26).toNat : Nat) : Int), .int .u8 (((x.root 27).toNat : Nat) : Int), .int .u8 (((x.root 28).toNat : Nat) : Int), .int .u8 (((x.root 29).toNat : Nat) : Int), .int .u8 (((x.root 30).toNat : Nat) : Int), .int .u8 (((x.root 31).toNat : Nat) : Int)].toArray)), (23, .v (.int .i64 x.count)), (25, .v (.int .i64 ot)), (27, .v (.slice ola oln olc)), (29, .v (.slice opa opn opc))] [13, 12, 11, 10, 9, 8, 7, 6, 5, 4, 3, 2, 1, 0] (calm_body _ _ _) (by intro k _ h; exact h) hr1 (by kernel_rfl) ?_
    rw [hx]
    refine J.pick1 14 (by kernel_rfl) (by kernel_rfl) ?_
    refine J.callq (d := some 30) (by kernel_rfl) (fun w1 A1 m1 l1 => check_calls bits x.root N ot ola oln olc leaf opa opn opc path (by omega) (by omega) nobody w1 noA (hs.mv m1).any (hp.mv m1).any) ?_
    rintro _ u2 w3 A3 rfl g2
    have m3 := g2.mv
    replace hs := hs.mv m3; replace hp := hp.mv m3
    refine J.take1 [(15, .u)] [6, 16, 31] [(6, .loc 3 0), (16, .v (.agg (encE (pars leaf).1).toArray)), (31, .v (.bool (checkF bits x.root N ot leaf path)))] [15, 14, 13, 12, 11, 10, 9, 8, 7, 6, 5, 4, 3, 2, 1, 0] (calm_body _ _ _) (by kernel_rfl) ?_
    refine J.pick1 16 (by kernel_rfl) (by kernel_rfl) ?_
    refine J.storeq (i := 3) (m' := [⟨32, [.int .i64 bits]⟩, ⟨36, encT x⟩, ⟨26, [.int .i64 ot, .slice ola oln olc, .slice opa opn opc]⟩, ⟨42, encE (pars leaf).1⟩, ⟨42, encE (pars leaf).1⟩]) (by kernel_rfl) (by simp) rfl (by simp) ?_
    refine J.take1 [(17, .u)] [6, 7] [(6, .loc 3 0), (7, .v (.bool (checkF bits x.root N ot leaf path)))] [17, 16, 15, 14, 13, 12, 11, 10, 9, 8, 7, 6, 5, 4, 3, 2, 1, 0] (calm_body _ _ _) (by kernel_rfl) ?_
    refine J.pdone (by kernel_rfl) ?_
    refine J.ret (v := .tuple #[.agg (encE (pars leaf).1).toArray, .bool (checkF bits x.root N ot leaf path)]) (by kernel_rfl) (by kernel_rfl) (fun w1 A1 m1 hac l1 => by rw [holdsF, hc1]; rfl)
  · rw [hc]
    try simp only [nrm] at hc
    have hc1 := hc
    refine J.draw [3] nobody (by kernel_rfl) (by kernel_rfl) (fun _ h => h.elim) (fun w4 A4 m4 hr2 hX2 => ?_)
    replace hs := hs.mv m4; replace hp := hp.mv m4
    refine J.take0 [(0, .u), (1, .u), (2, .u), (3, .x), (4, .x), (5, .x), (6, .x), (7, .x), (8, .x), (9, .x), (10, .x), (11, .x), (12, .x), (13, .x), (14, .x), (15, .u)] [6, 16, 31] [(6, .loc 3 0), (16, .v (.agg (encE (pars leaf).1).toArray)), (31, .v (.bool false))] [15, 14, 13, 12, 11, 10, 9, 8, 7, 6, 5, 4, 3, 2, 1, 0] (calm_body _ _ _) (by intro k _ h; exact h) hr2 (by kernel_rfl) ?_
    refine J.pick1 16 (by kernel_rfl) (by kernel_rfl) ?_
    refine J.storeq (i := 3) (m' := [⟨32, [.int .i64 bits]⟩, ⟨36, encT x⟩, ⟨26, [.int .i64 ot, .slice ola oln olc, .slice opa opn opc]⟩, ⟨42, encE (pars leaf).1⟩, ⟨42, encE (pars leaf).1⟩]) (by kernel_rfl) (by simp) rfl (by simp) ?_
    refine J.take1 [(17, .u)] [6, 7] [(6, .loc 3 0), (7, .v (.bool false))] [17, 16, 15, 14, 13, 12, 11, 10, 9, 8, 7, 6, 5, 4, 3, 2, 1, 0] (calm_body _ _ _) (by kernel_rfl) ?_
    refine J.pdone (by kernel_rfl) ?_
    refine J.ret (v := .tuple #[.agg (encE (pars leaf).1).toArray, .bool false]) (by kernel_rfl) (by kernel_rfl) (fun w1 A1 m1 hac l1 => by rw [holdsF, hc1]; rfl)
end Go.Proofs.Ytkgokehkobifkaa.J

/- Package seek: Check. -/
namespace Go.Proofs.Ytkgokehkobifkaa.J
open Go Go.RowKit

/-- An opening, as its parts are read. -/
structure Opn where
  t : Int
  leaf : List UInt8
  path : List Dg
def Opn.none (o : Opn) : Bool := decide (o.t = 0 ∧ o.leaf.length = 0 ∧ o.path.length = 0)
def Opn.holds (bits : Int) (x : Tab) (N : Nat) (o : Opn) : Bool := holdsF bits x.root N o.t o.leaf o.path
def seekC (bits : Int) (x : Tab) (N : Nat) (key : Str) (btw : Bool) (a b : Opn) : Ent × Bool × Int :=
  if (!a.holds bits x N || !coversF x key) = true then (ent0, false, 8)
  else if (!btw) = true then (if (!(seq (pars a.leaf).1.key key) || !b.none) = true then (ent0, false, 8) else ((pars a.leaf).1, true, 0))
  else if (!b.holds bits x N || (IntKind.i64.wrap (b.t - 1) != a.t) || !slt (pars a.leaf).1.key key || sle (pars b.leaf).1.key key) = true then (ent0, false, 8)
  else (ent0, false, 0)

theorem seekCheck_calls (bits : Int) (x : Tab) (N : Nat) (hx : x.count = ((N : Nat) : Int)) (hN : N ≤ 1000000) (key : Str) (btw : Bool) (oa ob : Opn) (oala : Option Addr) (oaln oalc : Nat) (oapa : Option Addr) (oapn oapc : Nat) (obla : Option Addr) (obln oblc : Nat) (obpa : Option Addr) (obpn obpc : Nat) (hla : oaln ≤ 1000000) (hlb : obln ≤ 1000000) (Ac : Nat → Prop) (W : World) (hA : ∀ k, Ac k → k < W.heap.size) (hsa : Sl 1 u8 Ac W oala oaln oalc oa.leaf) (hpa : Sl 32 dcells Ac W oapa oapn oapc oa.path) (hsb : Sl 1 u8 Ac W obla obln oblc ob.leaf) (hpb : Sl 32 dcells Ac W obpa obpn obpc ob.path) :
    Calls Pr 12 #[.agg [.int .i64 bits].toArray, .agg (encT x).toArray, .string key, .agg [.bool btw, .int .i64 oa.t, .slice oala oaln oalc, .slice oapa oapn oapc, .int .i64 ob.t, .slice obla obln oblc, .slice obpa obpn obpc].toArray] W (Ret nobody W fun v w => v = .tuple #[.agg (encE (seekC bits x N key btw oa ob).1).toArray, .bool (seekC bits x N key btw oa ob).2.1, .int .i64 (seekC bits x N key btw oa ob).2.2]) := by
  refine J.enter (fn := Try.f12) (n := 81) Try.func12 (by kernel_rfl) (by kernel_rfl) (by kernel_rfl) hA ?_
  refine J.rn [.n, .n] [0, 1, 2, 3] [.c 0] [.o 1 0, .c 2] (by kernel_rfl) ?_
  refine J.new (T := 32) (cs := [.int .i64 bits]) (d := 4) (K := .ptr) (by kernel_rfl) (fun b1 hb1 => ?_)
  refine J.new (T := 36) (cs := encT x) (d := 5) (K := .ptr) (by kernel_rfl) (fun b2 hb2 => ?_)
  refine J.new (T := 28) (cs := [.bool btw, .int .i64 oa.t, .slice oala oaln oalc, .slice oapa oapn oapc, .int .i64 ob.t, .slice obla obln oblc, .slice obpa obpn obpc]) (d := 7) (K := .ptr) (by kernel_rfl) (fun b3 hb3 => ?_)
  refine J.new (T := 42) (cs := [.string (⟨#[]⟩ : Str), .string (⟨#[]⟩ : Str), .bool false, .int .i64 0]) (d := 8) (K := .ptr) (by kernel_rfl) (fun b4 hb4 => ?_)
  refine J.rn [.u, .u, .n, .n, .n, .u, .u, .u, .u] [2, 4, 5, 7, 8, 16, 17, 19] [.o 1 4, .c 2] [.o 3 4, .c 4] (by kernel_rfl) ?_
  refine J.call (d := some 20) (by kernel_rfl) (fun w1 A1 m1 l1 => holds_calls bits x N hx oa.t oala oaln oalc oapa oapn oapc oa.leaf oa.path hN (by omega) nobody w1 noA (hsa.mv m1).any (hpa.mv m1).any) ?_
  rintro _ u1 w1 A1 rfl g1
  have m1 := g1.mv
  replace hsa := hsa.mv m1; replace hpa := hpa.mv m1; replace hsb := hsb.mv m1; replace hpb := hpb.mv m1
  refine J.rn [.u, .u, .u] [2, 4, 5, 7, 8, 21, 22] [.o 3 5, .c 4] [.o 3 8, .c 4] (by kernel_rfl) ?_
  refine J.new (T := 42) (cs := [.string (⟨#[]⟩ : Str), .string (⟨#[]⟩ : Str), .bool false, .int .i64 0]) (d := 11) (K := .ptr) (by kernel_rfl) (fun b5 hb5 => ?_)
  refine J.run [.u, .u, .n, .n, .n, .n, .u, .u, .u] [2, 4, 5, 7, 8, 11, 25] ⟨[(2, .v (.string key)), (4, .loc 0 0), (5, .loc 1 0), (7, .loc 2 0), (8, .loc 3 0), (11, .loc 4 0), (25, .v (.bool (!(Opn.holds bits x N oa))))], [⟨32, [.int .i64 bits]⟩, ⟨36, encT x⟩, ⟨28, [.bool btw, .int .i64 oa.t, .slice oala oaln oalc, .slice oapa oapn oapc, .int .i64 ob.t, .slice obla obln oblc, .slice obpa obpn obpc]⟩, ⟨42, [.string (⟨#[]⟩ : Str), .string (⟨#[]⟩ : Str), .bool false, .int .i64 0]⟩, ⟨42, encE (pars oa.leaf).1⟩]⟩ [.o 3 9, .c 4] [.o 6 3, .c 7, .c 12] (by kernel_rfl) ?_
  rcases Bool.eq_false_or_eq_true (!(Opn.holds bits x N oa)) with hc | hc
  · rw [hc]
    try simp only [nrm] at hc
    have hc1 := hc
    refine J.rn [.x, .x, .x, .x, .u, .n] [2, 4, 5, 7, 8, 11, 30] [.o 6 3, .c 7, .c 12] [.c 7, .c 12] (by kernel_rfl) ?_
    refine J.cond (b := true) (k' := 11) (by kernel_rfl) (fun _ => ?_) (fun hc => absurd hc (by decide))
    refine J.rn [.n, .n, .u, .u, .u, .u, .n] [8, 9, 10] [.c 8, .c 12] [.c 10, .c 12] (by kernel_rfl) ?_
    refine J.ret (v := .tuple #[.agg [.string (⟨#[]⟩ : Str), .string (⟨#[]⟩ : Str), .bool false, .int .i64 0].toArray, .bool false, .int .i64 8]) (by kernel_rfl) (by kernel_rfl) (fun w1 A1 m1 hac l1 => by simp [seekC, hc1, encE, ent0])
  · rw [hc]
    try simp only [nrm] at hc
    have hc1 := hc
    refine J.rn [.w, .w] [2, 4, 5, 7, 8, 11, 25, 26, 27] [.o 6 3, .c 7, .c 12] [.o 6 5, .c 7, .c 12] (by kernel_rfl) ?_
    refine J.call (d := some 28) (by kernel_rfl) (fun w1 A1 m1 l1 => covers_calls x key nobody w1 noA) ?_
    rintro _ u2 w2 A2 rfl g2
    have m2 := g2.mv
    replace hsa := hsa.mv m2; replace hpa := hpa.mv m2; replace hsb := hsb.mv m2; replace hpb := hpb.mv m2
    refine J.run [.w, .u, .n] [2, 4, 5, 7, 8, 11, 30] ⟨[(2, .v (.string key)), (4, .loc 0 0), (5, .loc 1 0), (7, .loc 2 0), (8, .loc 3 0), (11, .loc 4 0), (30, .v (.bool (!(coversF x key))))], [⟨32, [.int .i64 bits]⟩, ⟨36, encT x⟩, ⟨28, [.bool btw, .int .i64 oa.t, .slice oala oaln oalc, .slice oapa oapn oapc, .int .i64 ob.t, .slice obla obln oblc, .slice obpa obpn obpc]⟩, ⟨42, [.string (⟨#[]⟩ : Str), .string (⟨#[]⟩ : Str), .bool false, .int .i64 0]⟩, ⟨42, encE (pars oa.leaf).1⟩]⟩ [.o 6 6, .c 7, .c 12] [.c 7, .c 12] (by kernel_rfl) ?_
    refine J.cond (b := (!(coversF x key))) (k' := 11) (by kernel_rfl) (fun hc => ?_) (fun hc => ?_)
    · try simp only [nrm] at hc
      have hc2 := hc
      refine J.rn [.n, .n, .u, .u, .u, .u, .n] [8, 9, 10] [.c 8, .c 12] [.c 10, .c 12] (by kernel_rfl) ?_
      refine J.ret (v := .tuple #[.agg [.string (⟨#[]⟩ : Str), .string (⟨#[]⟩ : Str), .bool false, .int .i64 0].toArray, .bool false, .int .i64 8]) (by kernel_rfl) (by kernel_rfl) (fun w1 A1 m1 hac l1 => by simp [seekC, hc1, hc2, encE, ent0])
    · try simp only [nrm] at hc
      have hc2 := hc
      refine J.rn [.n, .n, .n, .n, .u, .u, .u, .n] [2, 4, 5, 7, 8, 11, 34] [.c 11, .c 12] [.c 15, .c 28] (by kernel_rfl) ?_
      refine J.cond (b := (!btw)) (k' := 27) (by kernel_rfl) (fun hc => ?_) (fun hc => ?_)
      · try simp only [nrm] at hc
        have hc3 := hc
        refine J.run [.n, .n, .n, .u, .u, .u, .u, .u] [7, 8, 11, 39] ⟨[(7, .loc 2 0), (8, .loc 3 0), (11, .loc 4 0), (39, .v (.bool (!(seq (((pars oa.leaf).1).key) key))))], [⟨32, [.int .i64 bits]⟩, ⟨36, encT x⟩, ⟨28, [.bool btw, .int .i64 oa.t, .slice oala oaln oalc, .slice oapa oapn oapc, .int .i64 ob.t, .slice obla obln oblc, .slice obpa obpn obpc]⟩, ⟨42, [.string (⟨#[]⟩ : Str), .string (⟨#[]⟩ : Str), .bool false, .int .i64 0]⟩, ⟨42, encE (pars oa.leaf).1⟩]⟩ [.c 16, .c 28] [.o 18 5, .c 19, .c 24, .c 28] (by kernel_rfl) ?_
        rcases Bool.eq_false_or_eq_true (!(seq (((pars oa.leaf).1).key) key)) with hc | hc
        · rw [hc]
          try simp only [nrm] at hc
          have hc4 := hc
          refine J.rn [.x, .x, .x, .x, .u, .n] [8, 11, 44] [.o 18 5, .c 19, .c 24, .c 28] [.c 19, .c 24, .c 28] (by kernel_rfl) ?_
          refine J.cond (b := true) (k' := 23) (by kernel_rfl) (fun _ => ?_) (fun hc => absurd hc (by decide))
          refine J.rn [.n, .n, .u, .u, .u, .u, .n] [8, 9, 10] [.c 20, .c 24, .c 28] [.c 22, .c 24, .c 28] (by kernel_rfl) ?_
          refine J.ret (v := .tuple #[.agg [.string (⟨#[]⟩ : Str), .string (⟨#[]⟩ : Str), .bool false, .int .i64 0].toArray, .bool false, .int .i64 8]) (by kernel_rfl) (by kernel_rfl) (fun w1 A1 m1 hac l1 => by simp [seekC, hc1, hc2, hc3, hc4, encE, ent0])
        · rw [hc]
          try simp only [nrm] at hc
          have hc4 := hc
          refine J.rn [.w, .w] [8, 11, 39, 41] [.o 18 5, .c 19, .c 24, .c 28] [.o 18 7, .c 19, .c 24, .c 28] (by kernel_rfl) ?_
          have hnn : decide (ob.t = 0 ∧ obln = 0 ∧ obpn = 0) = ob.none := by rw [Opn.none, hsb.len, hpb.len]
          refine J.call (d := some 42) (by kernel_rfl) (fun w1 A1 m1 l1 => hnn ▸ none_calls ob.t obla obln oblc obpa obpn obpc nobody w1 noA) ?_
          rintro _ u3 w3 A3 rfl g3
          have m3 := g3.mv
          replace hsa := hsa.mv m3; replace hpa := hpa.mv m3; replace hsb := hsb.mv m3; replace hpb := hpb.mv m3
          refine J.run [.w, .u, .n] [8, 11, 44] ⟨[(8, .loc 3 0), (11, .loc 4 0), (44, .v (.bool (!ob.none)))], [⟨32, [.int .i64 bits]⟩, ⟨36, encT x⟩, ⟨28, [.bool btw, .int .i64 oa.t, .slice oala oaln oalc, .slice oapa oapn oapc, .int .i64 ob.t, .slice obla obln oblc, .slice obpa obpn obpc]⟩, ⟨42, [.string (⟨#[]⟩ : Str), .string (⟨#[]⟩ : Str), .bool false, .int .i64 0]⟩, ⟨42, encE (pars oa.leaf).1⟩]⟩ [.o 18 8, .c 19, .c 24, .c 28] [.c 19, .c 24, .c 28] (by kernel_rfl) ?_
          refine J.cond (b := (!ob.none)) (k' := 23) (by kernel_rfl) (fun hc => ?_) (fun hc => ?_)
          · try simp only [nrm] at hc
            have hc5 := hc
            refine J.rn [.n, .n, .u, .u, .u, .u, .n] [8, 9, 10] [.c 20, .c 24, .c 28] [.c 22, .c 24, .c 28] (by kernel_rfl) ?_
            refine J.ret (v := .tuple #[.agg [.string (⟨#[]⟩ : Str), .string (⟨#[]⟩ : Str), .bool false, .int .i64 0].toArray, .bool false, .int .i64 8]) (by kernel_rfl) (by kernel_rfl) (fun w1 A1 m1 hac l1 => by simp [seekC, hc1, hc2, hc3, hc4, hc5, encE, ent0])
          · try simp only [nrm] at hc
            have hc5 := hc
            refine J.rn [.n, .n, .n, .u, .u, .u, .u, .n] [8, 9, 10] [.c 23, .c 24, .c 28] [.c 26, .c 28] (by kernel_rfl) ?_
            refine J.ret (v := .tuple #[.agg (encE (pars oa.leaf).1).toArray, .bool true, .int .i64 0]) (by kernel_rfl) (by kernel_rfl) (fun w1 A1 m1 hac l1 => by simp [seekC, hc1, hc2, hc3, hc4, hc5, encE, ent0])
      · try simp only [nrm] at hc
        have hc3 := hc
        refine J.rn [.n, .n, .n, .n, .u, .u, .u, .u] [2, 7, 8, 11, 48, 49, 51] [.c 27, .c 28] [.o 30 4, .c 31, .c 38] (by kernel_rfl) ?_
        refine J.call (d := some 52) (by kernel_rfl) (fun w1 A1 m1 l1 => holds_calls bits x N hx ob.t obla obln oblc obpa obpn obpc ob.leaf ob.path hN (by omega) nobody w1 noA (hsb.mv m1).any (hpb.mv m1).any) ?_
        rintro _ u4 w4 A4 rfl g4
        have m4 := g4.mv
        replace hsa := hsa.mv m4; replace hpa := hpa.mv m4; replace hsb := hsb.mv m4; replace hpb := hpb.mv m4
        refine J.run [.u, .u, .u] [2, 7, 8, 11, 53, 54] ⟨[(2, .v (.string key)), (7, .loc 2 0), (8, .loc 3 0), (11, .loc 4 0), (53, .v (.agg (encE (pars ob.leaf).1).toArray)), (54, .v (.bool (Opn.holds bits x N ob)))], [⟨32, [.int .i64 bits]⟩, ⟨36, encT x⟩, ⟨28, [.bool btw, .int .i64 oa.t, .slice oala oaln oalc, .slice oapa oapn oapc, .int .i64 ob.t, .slice obla obln oblc, .slice obpa obpn obpc]⟩, ⟨42, [.string (⟨#[]⟩ : Str), .string (⟨#[]⟩ : Str), .bool false, .int .i64 0]⟩, ⟨42, encE (pars oa.leaf).1⟩]⟩ [.o 30 5, .c 31, .c 38] [.o 30 8, .c 31, .c 38] (by kernel_rfl) ?_
        refine J.new (T := 42) (cs := [.string (⟨#[]⟩ : Str), .string (⟨#[]⟩ : Str), .bool false, .int .i64 0]) (d := 13) (K := .ptr) (by kernel_rfl) (fun b6 hb6 => ?_)
        refine J.run [.u, .u, .n, .n, .n, .u, .u, .u] [2, 7, 8, 11, 13, 57] ⟨[(2, .v (.string key)), (7, .loc 2 0), (8, .loc 3 0), (11, .loc 4 0), (13, .loc 5 0), (57, .v (.bool (!(Opn.holds bits x N ob))))], [⟨32, [.int .i64 bits]⟩, ⟨36, encT x⟩, ⟨28, [.bool btw, .int .i64 oa.t, .slice oala oaln oalc, .slice oapa oapn oapc, .int .i64 ob.t, .slice obla obln oblc, .slice obpa obpn obpc]⟩, ⟨42, [.string (⟨#[]⟩ : Str), .string (⟨#[]⟩ : Str), .bool false, .int .i64 0]⟩, ⟨42, encE (pars oa.leaf).1⟩, ⟨42, encE (pars ob.leaf).1⟩]⟩ [.o 30 9, .c 31, .c 38] [.o 32 3, .c 33, .c 38] (by kernel_rfl) ?_
        rcases Bool.eq_false_or_eq_true (!(Opn.holds bits x N ob)) with hc | hc
        · rw [hc]
          try simp only [nrm] at hc
          have hc6 := hc
          refine J.rn [.x, .x, .x, .x, .x, .x, .x, .x, .u, .u, .x, .x, .x, .x, .u, .u, .x, .x, .x, .x, .u, .n] [8, 78] [.o 32 3, .c 33, .c 38] [.c 33, .c 38] (by kernel_rfl) ?_
          refine J.cond (b := true) (k' := 37) (by kernel_rfl) (fun _ => ?_) (fun hc => absurd hc (by decide))
          refine J.rn [.n, .n, .u, .u, .u, .u, .n] [8, 9, 10] [.c 34, .c 38] [.c 36, .c 38] (by kernel_rfl) ?_
          refine J.ret (v := .tuple #[.agg [.string (⟨#[]⟩ : Str), .string (⟨#[]⟩ : Str), .bool false, .int .i64 0].toArray, .bool false, .int .i64 8]) (by kernel_rfl) (by kernel_rfl) (fun w1 A1 m1 hac l1 => by simp [seekC, hc1, hc2, hc3, hc6, encE, ent0])
        · rw [hc]
          try simp only [nrm] at hc
          have hc6 := hc
          refine J.run [.w, .w, .w, .w, .w, .w, .w, .w, .u, .u] [2, 8, 11, 13, 67] ⟨[(2, .v (.string key)), (8, .loc 3 0), (11, .loc 4 0), (13, .loc 5 0), (67, .v (.bool ((IntKind.i64.wrap (ob.t - 1)) != oa.t)))], [⟨32, [.int .i64 bits]⟩, ⟨36, encT x⟩, ⟨28, [.bool btw, .int .i64 oa.t, .slice oala oaln oalc, .slice oapa oapn oapc, .int .i64 ob.t, .slice obla obln oblc, .slice obpa obpn obpc]⟩, ⟨42, [.string (⟨#[]⟩ : Str), .string (⟨#[]⟩ : Str), .bool false, .int .i64 0]⟩, ⟨42, encE (pars oa.leaf).1⟩, ⟨42, encE (pars ob.leaf).1⟩]⟩ [.o 32 3, .c 33, .c 38] [.o 32 13, .c 33, .c 38] (by kernel_rfl) ?_
          rcases Bool.eq_false_or_eq_true ((IntKind.i64.wrap (ob.t - 1)) != oa.t) with hc | hc
          · rw [hc]
            try simp only [nrm] at hc
            have hc7 := hc
            refine J.rn [.x, .x, .x, .x, .u, .u, .x, .x, .x, .x, .u, .n] [8, 78] [.o 32 13, .c 33, .c 38] [.c 33, .c 38] (by kernel_rfl) ?_
            refine J.cond (b := true) (k' := 37) (by kernel_rfl) (fun _ => ?_) (fun hc => absurd hc (by decide))
            refine J.rn [.n, .n, .u, .u, .u, .u, .n] [8, 9, 10] [.c 34, .c 38] [.c 36, .c 38] (by kernel_rfl) ?_
            refine J.ret (v := .tuple #[.agg [.string (⟨#[]⟩ : Str), .string (⟨#[]⟩ : Str), .bool false, .int .i64 0].toArray, .bool false, .int .i64 8]) (by kernel_rfl) (by kernel_rfl) (fun w1 A1 m1 hac l1 => by simp [seekC, hc1, hc2, hc3, hc6, hc7, encE, ent0])
          · rw [hc]
            try simp only [nrm] at hc
            have hc7 := hc
            refine J.run [.w, .w, .w, .w, .u, .u] [2, 8, 13, 73] ⟨[(2, .v (.string key)), (8, .loc 3 0), (13, .loc 5 0), (73, .v (.bool (!(slt (((pars oa.leaf).1).key) key))))], [⟨32, [.int .i64 bits]⟩, ⟨36, encT x⟩, ⟨28, [.bool btw, .int .i64 oa.t, .slice oala oaln oalc, .slice oapa oapn oapc, .int .i64 ob.t, .slice obla obln oblc, .slice obpa obpn obpc]⟩, ⟨42, [.string (⟨#[]⟩ : Str), .string (⟨#[]⟩ : Str), .bool false, .int .i64 0]⟩, ⟨42, encE (pars oa.leaf).1⟩, ⟨42, encE (pars ob.leaf).1⟩]⟩ [.o 32 13, .c 33, .c 38] [.o 32 19, .c 33, .c 38] (by kernel_rfl) ?_
            rcases Bool.eq_false_or_eq_true (!(slt (((pars oa.leaf).1).key) key)) with hc | hc
            · rw [hc]
              try simp only [nrm] at hc
              have hc8 := hc
              refine J.rn [.x, .x, .x, .x, .u, .n] [8, 78] [.o 32 19, .c 33, .c 38] [.c 33, .c 38] (by kernel_rfl) ?_
              refine J.cond (b := true) (k' := 37) (by kernel_rfl) (fun _ => ?_) (fun hc => absurd hc (by decide))
              refine J.rn [.n, .n, .u, .u, .u, .u, .n] [8, 9, 10] [.c 34, .c 38] [.c 36, .c 38] (by kernel_rfl) ?_
              refine J.ret (v := .tuple #[.agg [.string (⟨#[]⟩ : Str), .string (⟨#[]⟩ : Str), .bool false, .int .i64 0].toArray, .bool false, .int .i64 8]) (by kernel_rfl) (by kernel_rfl) (fun w1 A1 m1 hac l1 => by simp [seekC, hc1, hc2, hc3, hc6, hc7, hc8, encE, ent0])
            · rw [hc]
              try simp only [nrm] at hc
              have hc8 := hc
              refine J.rn [.w, .w, .w, .w, .u, .n] [8, 78] [.o 32 19, .c 33, .c 38] [.c 33, .c 38] (by kernel_rfl) ?_
              refine J.cond (b := (sle (((pars ob.leaf).1).key) key)) (k' := 37) (by kernel_rfl) (fun hc => ?_) (fun hc => ?_)
              · try simp only [nrm] at hc
                have hc9 := hc
                refine J.run [.n, .n, .u, .u, .u, .u, .n] [8, 9, 10] ⟨[(8, .loc 3 0), (9, .v (.bool false)), (10, .v (.int .i64 8))], [⟨32, [.int .i64 bits]⟩, ⟨36, encT x⟩, ⟨28, [.bool btw, .int .i64 oa.t, .slice oala oaln oalc, .slice oapa oapn oapc, .int .i64 ob.t, .slice obla obln oblc, .slice obpa obpn obpc]⟩, ⟨42, [.string (⟨#[]⟩ : Str), .string (⟨#[]⟩ : Str), .bool false, .int .i64 0]⟩, ⟨42, encE (pars oa.leaf).1⟩, ⟨42, encE (pars ob.leaf).1⟩]⟩ [.c 34, .c 38] [.c 36, .c 38] (by kernel_rfl) ?_
                refine J.ret (v := .tuple #[.agg [.string (⟨#[]⟩ : Str), .string (⟨#[]⟩ : Str), .bool false, .int .i64 0].toArray, .bool false, .int .i64 8]) (by kernel_rfl) (by kernel_rfl) (fun w1 A1 m1 hac l1 => by simp [seekC, hc1, hc2, hc3, hc6, hc7, hc8, hc9, encE, ent0])
              · try simp only [nrm] at hc
                have hc9 := hc
                refine J.rn [.n, .n, .n, .u, .u, .u, .u, .n] [8, 9, 10] [.c 37, .c 38] [.c 40] (by kernel_rfl) ?_
                refine J.ret (v := .tuple #[.agg [.string (⟨#[]⟩ : Str), .string (⟨#[]⟩ : Str), .bool false, .int .i64 0].toArray, .bool false, .int .i64 0]) (by kernel_rfl) (by kernel_rfl) (fun w1 A1 m1 hac l1 => by simp [seekC, hc1, hc2, hc3, hc6, hc7, hc8, hc9, encE, ent0])
end Go.Proofs.Ytkgokehkobifkaa.J

/- Package seek: opens. -/
namespace Go.Proofs.Ytkgokehkobifkaa.J
open Go Go.RowKit

/-- The opening of the i-th leaf. -/
def openF (bits : Int) (ls : List (List UInt8)) (i : Nat) : Opn := ⟨((i : Nat) : Int), ls.getD i [], pathF bits ls i⟩
/-- An opening's value, and what its parts read as. -/
def OpnAt (A : Nat → Prop) (w : World) (v : Value) (o : Opn) : Prop :=
  ∃ la ln lc pa pn pc, v = .agg [.int .i64 o.t, .slice la ln lc, .slice pa pn pc].toArray ∧ Sl 1 u8 A w la ln lc o.leaf ∧ Sl 32 dcells A w pa pn pc o.path

theorem opens_calls (bits : Int) (a : Option Addr) (n c : Nat) (ls : List (List UInt8)) (i : Nat) (hi : i < ls.length) (hsh : Short ls) (hn : ls.length ≤ 1000000) (Ac : Nat → Prop) (W : World) (hA : ∀ k, Ac k → k < W.heap.size) (hs : Rows Ac W a n c ls) :
    Calls Pr 73 #[.agg [.int .i64 bits].toArray, .slice a n c, .int .i64 ((i : Nat) : Int)] W (Ret nobody W fun v w => OpnAt Ac w v (openF bits ls i)) := by
  refine J.enter (fn := Try.f73) (n := 23) Try.func73 (by kernel_rfl) (by kernel_rfl) (by kernel_rfl) hA ?_
  have hlen := hs.len; have hle := hs.le; have hcap := hs.cap; simp only [maxLen] at hcap
  refine J.rn [.n, .n] [0, 1, 2] [.c 0] [.o 1 0, .c 2] (by kernel_rfl) ?_
  refine J.new (T := 32) (cs := [.int .i64 bits]) (d := 3) (K := .ptr) (by kernel_rfl) (fun b1 hb1 => ?_)
  refine J.new (T := 26) (cs := [.int .i64 0, .slice none 0 0, .slice none 0 0]) (d := 6) (K := .ptr) (by kernel_rfl) (fun b2 hb2 => ?_)
  refine J.rn [.n, .n, .n, .u, .u, .u] [1, 2, 6, 10, 11, 12] [.o 1 2, .c 2] [.o 3 3, .c 4] (by kernel_rfl) ?_
  refine J.call (d := some 13) (by kernel_rfl) (fun w1 A1 m1 l1 => Path_calls bits a n c ls i (by omega) (by first | assumption | exact Short.take (by assumption) _ | exact Short.drop (by assumption) _ | exact Short.drop (Short.take (by assumption) _) _) (by omega) nobody w1 noA (hs.mv m1).any) ?_
  rintro _ u1 w1 A1 ⟨a1, n1, c1, rfl, hn1⟩ g1
  have hblhn1 := hn1.blk_lt; have hglhn1 := g1.le
  refine J.grab hn1 ?_
  have m1 := g1.grab hn1
  replace hs := hs.mv m1
  replace hn1 := hn1.take g1 rfl
  refine J.rn [.u, .u, .u, .u, .u, .n, .n, .n, .u, .u, .u] [6, 7, 16, 17, 18] [.o 3 4, .c 4] [.o 5 3, .c 6] (by kernel_rfl) ?_
  obtain ⟨p1, o1, rfl⟩ := hs.addr (by omega)
  refine J.idx (b := p1) (off := o1) (len := n) (i := ((i : Nat) : Int)) (sz := 1) (d := 19) (by kernel_rfl) (by omega) (by omega) ?_
  obtain ⟨x1, hx1⟩ : ∃ zq, (ls)[i]? = some zq := ⟨_, List.getElem?_eq_getElem (by omega)⟩
  obtain ⟨ra1, rn1, rc1, hrow1, hld1⟩ := hs.row hx1
  have hshhrow1 := (Short.at (by assumption) hx1 : x1.length ≤ 1000000); have hllhrow1 := hrow1.len
  refine J.ld (T := 23) (b := p1) (off := o1 + i * 1) (d := 20) (v := .slice ra1 rn1 rc1) (by kernel_rfl) (fun w1 A1 m1 l1 => hld1 _ _ _ m1 _ _ (by kernel_rfl)) ?_
  refine J.run [.u, .u, .u, .n] [6] ⟨[(6, .loc 1 0)], [⟨32, [.int .i64 bits]⟩, ⟨26, [.int .i64 ((i : Nat) : Int), .slice ra1 rn1 rc1, .slice a1 n1 c1]⟩]⟩ [.o 5 5, .c 6] [.c 6] (by kernel_rfl) ?_
  have hg : ls.getD i [] = x1 := by simp [List.getD, hx1]
  refine J.ret (v := .agg [.int .i64 ((i : Nat) : Int), .slice ra1 rn1 rc1, .slice a1 n1 c1].toArray) (by kernel_rfl) (by kernel_rfl) (fun w1 A1 m1 hac l1 => ⟨_, _, _, _, _, _, rfl, by show Sl 1 u8 Ac _ _ _ _ (ls.getD i []); rw [hg]; exact (hrow1.mv m1).weaken hac, (hn1.mv m1).sl (fun x _ => rfl) (by decide) hA⟩)
end Go.Proofs.Ytkgokehkobifkaa.J

/- Package seek: Prove. -/
namespace Go.Proofs.Ytkgokehkobifkaa.J
open Go Go.RowKit

def opn0 : Opn := ⟨0, [], []⟩
/-- A point's value, and what its parts read as. -/
def PtAt (A : Nat → Prop) (w : World) (v : Value) (p : Bool × Opn × Opn) : Prop :=
  ∃ la ln lc pa pn pc la' ln' lc' pa' pn' pc', v = .agg [.bool p.1, .int .i64 p.2.1.t, .slice la ln lc, .slice pa pn pc, .int .i64 p.2.2.t, .slice la' ln' lc', .slice pa' pn' pc'].toArray ∧
    Sl 1 u8 A w la ln lc p.2.1.leaf ∧ Sl 32 dcells A w pa pn pc p.2.1.path ∧ Sl 1 u8 A w la' ln' lc' p.2.2.leaf ∧ Sl 32 dcells A w pa' pn' pc' p.2.2.path
def proveF (bits : Int) (l : List Ent) (key : Str) : (Bool × Opn × Opn) × Int :=
  if FitL l then (if hasKey key l = true then ((false, openF bits (l.map entB) (cntLt key l), opn0), 0)
    else if cntLt key l = 0 ∨ cntLt key l = l.length then ((false, opn0, opn0), 5)
    else ((true, openF bits (l.map entB) (cntLt key l - 1), openF bits (l.map entB) (cntLt key l)), 0))
  else ((false, opn0, opn0), 1)
theorem PtAt.zero (A : Nat → Prop) (w : World) : PtAt A w (.agg [.bool false, .int .i64 0, .slice none 0 0, .slice none 0 0, .int .i64 0, .slice none 0 0, .slice none 0 0].toArray) (false, opn0, opn0) :=
  ⟨none, 0, 0, none, 0, 0, none, 0, 0, none, 0, 0, rfl, Sl.nil none (by decide), Sl.nil none (by decide), Sl.nil none (by decide), Sl.nil none (by decide)⟩
theorem hasKey_cnt {k : Str} {l : List Ent} (h : hasKey k l = true) : cntLt k l < l.length := by
  obtain ⟨x, hx, hk⟩ := List.any_eq_true.1 h
  unfold cntLt
  rcases Nat.lt_or_ge (l.countP fun e => slt e.key k) l.length with h1 | h1
  · exact h1
  · have h2 := List.countP_eq_length.1 (Nat.le_antisymm List.countP_le_length h1) x hx
    rw [seq_iff.1 hk, slt_irrefl] at h2; cases h2

theorem prove_calls (bits : Int) (a : Option Addr) (n c : Nat) (l : List Ent) (key : Str) (Ac : Nat → Prop) (W : World) (hA : ∀ k, Ac k → k < W.heap.size) (hs : Sl 4 encE Ac W a n c l) :
    Calls Pr 25 #[.agg [.int .i64 bits].toArray, .slice a n c, .string key] W (Ret nobody W fun v w => ∃ pv, v = .tuple #[pv, .int .i64 (proveF bits l key).2] ∧ PtAt Ac w pv (proveF bits l key).1) := by
  refine J.enter (fn := Try.f25) (n := 50) Try.func25 (by kernel_rfl) (by kernel_rfl) (by kernel_rfl) hA ?_
  have hlen := hs.len; have hle := hs.le; have hcap := hs.cap; simp only [maxLen] at hcap; have hcl := cntLt_le key l
  refine J.rn [.n, .n] [0, 1, 2] [.c 0] [.o 1 0, .c 2] (by kernel_rfl) ?_
  refine J.new (T := 32) (cs := [.int .i64 bits]) (d := 3) (K := .ptr) (by kernel_rfl) (fun b1 hb1 => ?_)
  refine J.new (T := 28) (cs := [.bool false, .int .i64 0, .slice none 0 0, .slice none 0 0, .int .i64 0, .slice none 0 0, .slice none 0 0]) (d := 6) (K := .ptr) (by kernel_rfl) (fun b2 hb2 => ?_)
  refine J.rn [.u, .n, .n, .n, .n, .u] [1, 2, 3, 6, 11] [.o 1 2, .c 2] [.o 4 1, .c 5, .c 10] (by kernel_rfl) ?_
  refine J.call (d := some 12) (by kernel_rfl) (fun w1 A1 m1 l1 => fit_calls a n c l nobody w1 noA (hs.mv m1).any) ?_
  rintro _ u1 w1 A1 rfl g1
  have m1 := g1.mv
  replace hs := hs.mv m1
  refine J.rn [.u, .n] [1, 2, 3, 6, 13] [.o 4 2, .c 5, .c 10] [.c 5, .c 10] (by kernel_rfl) ?_
  refine J.cond (b := (!(decide (FitL l)))) (k' := 9) (by kernel_rfl) (fun hc => ?_) (fun hc => ?_)
  · try simp only [nrm] at hc
    have hc1 := hc
    refine J.run [.n, .n, .u, .u, .u, .n] [6, 7] ⟨[(6, .loc 1 0), (7, .v (.int .i64 1))], [⟨32, [.int .i64 bits]⟩, ⟨28, [.bool false, .int .i64 0, .slice none 0 0, .slice none 0 0, .int .i64 0, .slice none 0 0, .slice none 0 0]⟩]⟩ [.c 6, .c 10] [.c 8, .c 10] (by kernel_rfl) ?_
    refine J.ret (v := .tuple #[.agg [.bool false, .int .i64 0, .slice none 0 0, .slice none 0 0, .int .i64 0, .slice none 0 0, .slice none 0 0].toArray, .int .i64 1]) (by kernel_rfl) (by kernel_rfl) (fun w1 A1 m1 hac l1 => by rw [proveF, if_neg hc1]; exact ⟨_, rfl, PtAt.zero _ _⟩)
  · try simp only [nrm] at hc
    have hc1 := hc
    refine J.rn [.n, .n, .n, .u, .u] [1, 3, 6, 16, 17] [.c 9, .c 10] [.o 11 2, .c 12] (by kernel_rfl) ?_
    have hF : FitL l := hc1; obtain ⟨f1, f2, hso, f4⟩ := id hF
    refine J.call (d := some 18) (by kernel_rfl) (fun w1 A1 m1 l1 => place_calls a n c l key hso (by omega) nobody w1 noA (hs.mv m1).any) ?_
    rintro _ u2 w2 A2 rfl g2
    have m2 := g2.mv
    replace hs := hs.mv m2
    refine J.rn [.u, .u, .u, .u, .u, .n, .n, .n, .u] [1, 3, 6, 8, 9, 21] [.o 11 3, .c 12] [.o 13 1, .c 14] (by kernel_rfl) ?_
    refine J.call (d := some 22) (by kernel_rfl) (fun w1 A1 m1 l1 => leaves_calls a n c l (by omega) nobody w1 noA (hs.mv m1).any) ?_
    rintro _ u3 w3 A3 ⟨a1, c1, rfl, hrn1⟩ g3
    have m3 := g3.mv
    replace hs := hs.mv m3
    have hr1 : Rows A3 w3 a1 n c1 (l.map entB) := hrn1 A3 g3.bd
    refine J.rn [.u, .n, .n, .n, .n, .n, .u, .u, .n] [1, 3, 6, 8, 10, 23] [.o 13 2, .c 14] [.c 18, .b 0, .c 29] (by kernel_rfl) ?_
    refine J.cond (b := (hasKey key l)) (k' := 22) (by kernel_rfl) (fun hc => ?_) (fun hc => ?_)
    · try simp only [nrm] at hc
      have hc2 := hc
      refine J.run [.n, .n, .u, .u, .u] [6, 25, 26, 27] ⟨[(6, .loc 1 0), (25, .v (.agg [.int .i64 bits].toArray)), (26, .v (.slice a1 n c1)), (27, .v (.int .i64 ((cntLt key l : Nat) : Int)))], [⟨32, [.int .i64 bits]⟩, ⟨28, [.bool false, .int .i64 0, .slice none 0 0, .slice none 0 0, .int .i64 0, .slice none 0 0, .slice none 0 0]⟩]⟩ [.c 19, .b 0, .c 29] [.o 20 3, .c 21, .b 0, .c 29] (by kernel_rfl) ?_
      have hkc := hasKey_cnt hc2
      refine J.call (d := some 28) (by kernel_rfl) (fun w1 A1 m1 l1 => opens_calls bits a1 n c1 (l.map entB) (cntLt key l) (by simp; omega) (short_ents _) (by simp; omega) A1 w1 m1.bdd (hr1.mv m1)) ?_
      rintro _ u4 w4 A4 ⟨la1, ln1, lc1, pa1, pn1, pc1, rfl, hol1, hop1⟩ g4
      have m4 := g4.mv
      replace hs := hs.mv m4; replace hr1 := hr1.mv m4
      refine J.run [.u, .u, .u, .n] [6, 7] ⟨[(6, .loc 1 0), (7, .v (.int .i64 0))], [⟨32, [.int .i64 bits]⟩, ⟨28, [.bool false, .int .i64 ((openF bits (l.map entB) (cntLt key l)).t), .slice la1 ln1 lc1, .slice pa1 pn1 pc1, .int .i64 0, .slice none 0 0, .slice none 0 0]⟩]⟩ [.o 20 4, .c 21, .b 0, .c 29] [.c 21, .b 0, .c 29] (by kernel_rfl) ?_
      refine J.ret (v := .tuple #[.agg [.bool false, .int .i64 ((openF bits (l.map entB) (cntLt key l)).t), .slice la1 ln1 lc1, .slice pa1 pn1 pc1, .int .i64 0, .slice none 0 0, .slice none 0 0].toArray, .int .i64 0]) (by kernel_rfl) (by kernel_rfl) (fun w1 A1 m1 hac l1 => by rw [proveF, if_pos hF, if_pos hc2]; exact ⟨_, rfl, ⟨_, _, _, _, _, _, _, _, _, _, _, _, rfl, ((hol1.mv m1).weaken hac), ((hop1.mv m1).weaken hac), (Sl.nil none (by decide)), (Sl.nil none (by decide))⟩⟩)
    · try simp only [nrm] at hc
      have hc2 := hc
      refine J.run [.n, .n, .u, .u, .u] [1, 3, 6, 8, 10, 33] ⟨[(1, .v (.slice a n c)), (3, .loc 0 0), (6, .loc 1 0), (8, .v (.int .i64 ((cntLt key l : Nat) : Int))), (10, .v (.slice a1 n c1)), (33, .v (.bool (((cntLt key l : Nat) : Int) == 0)))], [⟨32, [.int .i64 bits]⟩, ⟨28, [.bool false, .int .i64 0, .slice none 0 0, .slice none 0 0, .int .i64 0, .slice none 0 0, .slice none 0 0]⟩]⟩ [.c 22, .b 0, .c 29] [.o 23 3, .c 24, .b 0, .c 29] (by kernel_rfl) ?_
      rcases Bool.eq_false_or_eq_true (((cntLt key l : Nat) : Int) == 0) with hc | hc
      · rw [hc]
        try simp only [nrm] at hc
        have hc3 := hc
        refine J.rn [.x, .x, .x, .x, .u, .u, .n] [3, 6, 8, 10, 30] [.o 23 3, .c 24, .b 0, .c 29] [.c 24, .b 0, .c 29] (by kernel_rfl) ?_
        refine J.cond (b := true) (k' := 28) (by kernel_rfl) (fun _ => ?_) (fun hc => absurd hc (by decide))
        refine J.rn [.n, .n, .u, .u, .u, .n] [6, 7] [.c 25, .b 0, .c 29] [.c 27, .b 0, .c 29] (by kernel_rfl) ?_
        refine J.ret (v := .tuple #[.agg [.bool false, .int .i64 0, .slice none 0 0, .slice none 0 0, .int .i64 0, .slice none 0 0, .slice none 0 0].toArray, .int .i64 5]) (by kernel_rfl) (by kernel_rfl) (fun w1 A1 m1 hac l1 => by rw [proveF, if_pos hF, if_neg (by simp [hc2]), if_pos (by omega)]; exact ⟨_, rfl, PtAt.zero _ _⟩)
      · rw [hc]
        try simp only [nrm] at hc
        have hc3 := hc
        refine J.rn [.w, .w, .w, .w, .u, .u, .n] [3, 6, 8, 10, 30] [.o 23 3, .c 24, .b 0, .c 29] [.c 24, .b 0, .c 29] (by kernel_rfl) ?_
        refine J.cond (b := (((cntLt key l : Nat) : Int) == ((n : Nat) : Int))) (k' := 28) (by kernel_rfl) (fun hc => ?_) (fun hc => ?_)
        · try simp only [nrm] at hc
          have hc4 := hc
          refine J.run [.n, .n, .u, .u, .u, .n] [6, 7] ⟨[(6, .loc 1 0), (7, .v (.int .i64 5))], [⟨32, [.int .i64 bits]⟩, ⟨28, [.bool false, .int .i64 0, .slice none 0 0, .slice none 0 0, .int .i64 0, .slice none 0 0, .slice none 0 0]⟩]⟩ [.c 25, .b 0, .c 29] [.c 27, .b 0, .c 29] (by kernel_rfl) ?_
          refine J.ret (v := .tuple #[.agg [.bool false, .int .i64 0, .slice none 0 0, .slice none 0 0, .int .i64 0, .slice none 0 0, .slice none 0 0].toArray, .int .i64 5]) (by kernel_rfl) (by kernel_rfl) (fun w1 A1 m1 hac l1 => by rw [proveF, if_pos hF, if_neg (by simp [hc2]), if_pos (by omega)]; exact ⟨_, rfl, PtAt.zero _ _⟩)
        · try simp only [nrm] at hc
          have hc4 := hc
          refine J.run [.n, .n, .n] [3, 6, 8, 10] ⟨[(3, .loc 0 0), (6, .loc 1 0), (8, .v (.int .i64 ((cntLt key l : Nat) : Int))), (10, .v (.slice a1 n c1))], [⟨32, [.int .i64 bits]⟩, ⟨28, [.bool false, .int .i64 0, .slice none 0 0, .slice none 0 0, .int .i64 0, .slice none 0 0, .slice none 0 0]⟩]⟩ [.c 28, .b 0, .c 29] [.c 30, .c 31] (by kernel_rfl) ?_
          have hm1 : IntKind.i64.wrap (((cntLt key l : Nat) : Int) - 1) = ((cntLt key l - 1 : Nat) : Int) := by rw [wrap_i64 (by omega) (by omega)]; omega
          refine J.draw [1] nobody (by kernel_rfl) (by kernel_rfl) (fun _ h => h.elim) (fun w5 A5 m5 hr2 hX1 => ?_)
          replace hs := hs.mv m5; replace hr1 := hr1.mv m5
          refine J.take0 [(0, .u), (1, .u), (2, .u), (3, .u), (5, .u), (6, .u), (7, .u)] [6, 40, 41, 43, 45, 46, 47] [(6, .loc 1 0), (40, .v (.agg [.int .i64 bits].toArray)), (41, .v (.slice a1 n c1)), (43, .v (.int .i64 (IntKind.i64.wrap (((cntLt key l : Nat) : Int) - 1)))), (45, .v (.agg [.int .i64 bits].toArray)), (46, .v (.slice a1 n c1)), (47, .v (.int .i64 ((cntLt key l : Nat) : Int)))] [7, 6, 5, 3, 2, 1, 0] (calm_body _ _ _) (by intro k _ h; exact h) hr2 (by kernel_rfl) ?_
          rw [hm1]
          refine J.pick1 4 (by kernel_rfl) (by kernel_rfl) ?_
          refine J.callq (d := some 44) (by kernel_rfl) (fun w1 A1 m1 l1 => opens_calls bits a1 n c1 (l.map entB) (cntLt key l - 1) (by simp; omega) (short_ents _) (by simp; omega) A1 w1 m1.bdd (hr1.mv m1)) ?_
          rintro _ u5 w6 A6 ⟨la2, ln2, lc2, pa2, pn2, pc2, rfl, hol2, hop2⟩ g5
          have m6 := g5.mv
          replace hs := hs.mv m6; replace hr1 := hr1.mv m6
          refine J.pick1 8 (by kernel_rfl) (by kernel_rfl) ?_
          refine J.callq (d := some 48) (by kernel_rfl) (fun w1 A1 m1 l1 => opens_calls bits a1 n c1 (l.map entB) (cntLt key l) (by simp; omega) (short_ents _) (by simp; omega) A1 w1 m1.bdd (hr1.mv m1)) ?_
          rintro _ u6 w7 A7 ⟨la3, ln3, lc3, pa3, pn3, pc3, rfl, hol3, hop3⟩ g6
          have m7 := g6.mv
          replace hs := hs.mv m7; replace hr1 := hr1.mv m7; replace hol2 := hol2.mv m7; replace hop2 := hop2.mv m7
          refine J.take1 [(9, .u)] [6, 49] [(6, .loc 1 0), (49, .v (.agg [.bool true, .int .i64 ((openF bits (l.map entB) (cntLt key l - 1)).t), .slice la2 ln2 lc2, .slice pa2 pn2 pc2, .int .i64 ((openF bits (l.map entB) (cntLt key l)).t), .slice la3 ln3 lc3, .slice pa3 pn3 pc3].toArray))] [9, 8, 4, 7, 6, 5, 3, 2, 1, 0] (calm_body _ _ _) (by kernel_rfl) ?_
          refine J.pick1 10 (by kernel_rfl) (by kernel_rfl) ?_
          refine J.storeq (i := 1) (m' := [⟨32, [.int .i64 bits]⟩, ⟨28, [.bool true, .int .i64 ((openF bits (l.map entB) (cntLt key l - 1)).t), .slice la2 ln2 lc2, .slice pa2 pn2 pc2, .int .i64 ((openF bits (l.map entB) (cntLt key l)).t), .slice la3 ln3 lc3, .slice pa3 pn3 pc3]⟩]) (by kernel_rfl) (by simp) rfl (by simp) ?_
          refine J.take1 [(11, .u)] [6, 7] [(6, .loc 1 0), (7, .v (.int .i64 0))] [11, 10, 9, 8, 4, 7, 6, 5, 3, 2, 1, 0] (calm_body _ _ _) (by kernel_rfl) ?_
          refine J.pdone (by kernel_rfl) ?_
          refine J.ret (v := .tuple #[.agg [.bool true, .int .i64 ((openF bits (l.map entB) (cntLt key l - 1)).t), .slice la2 ln2 lc2, .slice pa2 pn2 pc2, .int .i64 ((openF bits (l.map entB) (cntLt key l)).t), .slice la3 ln3 lc3, .slice pa3 pn3 pc3].toArray, .int .i64 0]) (by kernel_rfl) (by kernel_rfl) (fun w1 A1 m1 hac l1 => by rw [proveF, if_pos hF, if_neg (by simp [hc2]), if_neg (by omega)]; exact ⟨_, rfl, ⟨_, _, _, _, _, _, _, _, _, _, _, _, rfl, ((hol2.mv m1).weaken hac), ((hop2.mv m1).weaken hac), ((hol3.mv m1).weaken hac), ((hop3.mv m1).weaken hac)⟩⟩)
end Go.Proofs.Ytkgokehkobifkaa.J

/- The law's helpers: opening, point. -/
namespace Go.Proofs.Ytkgokehkobifkaa.J
open Go Go.RowKit

def cutO (o : Opn) : Opn := ⟨o.t, o.leaf.take (min o.leaf.length 1300), o.path.take (min o.path.length 20)⟩

theorem opening_calls (o : Opn) (ola : Option Addr) (oln olc : Nat) (opa : Option Addr) (opn opc : Nat) (Ac : Nat → Prop) (W : World) (hA : ∀ k, Ac k → k < W.heap.size) (hl : Sl 1 u8 Ac W ola oln olc o.leaf) (hp : Sl 32 dcells Ac W opa opn opc o.path) :
    Calls Pr 35 #[.agg [.int .i64 o.t, .slice ola oln olc, .slice opa opn opc].toArray] W (Ret nobody W fun v w => OpnAt Ac w v (cutO o)) := by
  refine J.enter (fn := Try.f35) (n := 24) Try.func35 (by kernel_rfl) (by kernel_rfl) (by kernel_rfl) hA ?_
  have hll := hl.len; have hpl := hp.len
  have hm_oln : (if 1300 < ((oln : Nat) : Int) then 1300 else ((oln : Nat) : Int)) = ((min oln 1300 : Nat) : Int) := by split <;> omega
  have hm_opn : (if 20 < ((opn : Nat) : Int) then 20 else ((opn : Nat) : Int)) = ((min opn 20 : Nat) : Int) := by split <;> omega
  refine J.rn [.n, .n] [0] [.c 0] [.o 1 0, .c 2] (by kernel_rfl) ?_
  refine J.new (T := 26) (cs := [.int .i64 o.t, .slice ola oln olc, .slice opa opn opc]) (d := 1) (K := .ptr) (by kernel_rfl) (fun b1 hb1 => ?_)
  refine J.new (T := 26) (cs := [.int .i64 0, .slice none 0 0, .slice none 0 0]) (d := 2) (K := .ptr) (by kernel_rfl) (fun b2 hb2 => ?_)
  refine J.rn [.n, .n, .n] [1, 2] [.o 1 2, .c 2] [.o 3 0, .c 4] (by kernel_rfl) ?_
  refine J.new (T := 5) (cs := []) (d := 3) (K := (.sl 0)) (by kernel_rfl) (fun b3 hb3 => ?_)
  refine J.run [.u, .u, .u, .u, .u, .u] [1, 2, 3, 5, 9] ⟨[(1, .loc 0 0), (2, .loc 1 0), (3, .v (.slice (some ⟨b3, 0, none⟩) 0 0)), (5, .v (.slice ola oln olc)), (9, .v (.int .i64 (if 1300 < ((oln : Nat) : Int) then 1300 else ((oln : Nat) : Int))))], [⟨26, [.int .i64 o.t, .slice ola oln olc, .slice opa opn opc]⟩, ⟨26, [.int .i64 0, .slice none 0 0, .slice none 0 0]⟩, ⟨5, []⟩]⟩ [.o 3 1, .c 4] [.o 3 7, .c 4] (by kernel_rfl) ?_
  rw [hm_oln]
  refine J.sl (a := ola) (len := oln) (cap := olc) (sz := 1) (lo := none) (hi := (some ((min oln 1300 : Nat) : Int))) (mx := none) (d := 10) (by kernel_rfl) 0 (min oln 1300) olc (by simp) (by simp) (by simp) (by have := hl.le; omega) (by have := hl.le; omega) (by have := hl.le; omega) (by simp) ?_
  intro a1 ha1 hb1
  rw [hb1 rfl, Nat.sub_zero, Nat.sub_zero]; clear ha1 hb1 a1
  have hp1 := hl.upto (H := min oln 1300) (X := olc) (by have := hl.le; omega) (by have := hl.le; omega) (by have := hl.le; omega)
  rcases Nat.eq_zero_or_pos (min oln 1300) with hz01 | hz01
  · have hnil : (o.leaf.take (min oln 1300)) = [] := List.eq_nil_of_length_eq_zero (by have := hp1.len; omega)
    refine J.app0 (a := some ⟨b3, 0, none⟩) (e := 5) (bytes := 1) (sz := 1) (nn := 0) (c := 0) (T := 23) (Tx := 23) (x := .slice ola (min oln 1300) olc) (d := 11) (by kernel_rfl) (by kernel_rfl) (fun w1 A1 m1 l1 => by have q := (hp1.mv m1).src (P := Pr) (e := 5) (t := 23) (fun x _ => rfl) (fun x _ => u8_one x) (by kernel_rfl); rw [hnil] at q; rw [hz01] at q ⊢; exact q) (by decide) ?_
    have hno1 : Sl 1 u8 Ac W (some ⟨b3, 0, none⟩) 0 0 ((o.leaf.take (min oln 1300))) := by rw [hnil]; exact Sl.nil _ (by decide)
    refine J.rn [.u, .u, .n, .n, .n] [1, 2] [.o 3 9, .c 4] [.o 5 0, .c 6] (by kernel_rfl) ?_
    refine J.new (T := 34) (cs := []) (d := 13) (K := (.sl 0)) (by kernel_rfl) (fun b4 hb4 => ?_)
    refine J.run [.u, .u, .u, .u, .u, .u] [1, 2, 13, 15, 19] ⟨[(1, .loc 0 0), (2, .loc 1 0), (13, .v (.slice (some ⟨b4, 0, none⟩) 0 0)), (15, .v (.slice opa opn opc)), (19, .v (.int .i64 (if 20 < ((opn : Nat) : Int) then 20 else ((opn : Nat) : Int))))], [⟨26, [.int .i64 o.t, .slice (some ⟨b3, 0, none⟩) 0 0, .slice opa opn opc]⟩, ⟨26, [.int .i64 0, .slice none 0 0, .slice none 0 0]⟩, ⟨5, []⟩, ⟨34, []⟩]⟩ [.o 5 1, .c 6] [.o 5 7, .c 6] (by kernel_rfl) ?_
    rw [hm_opn]
    refine J.sl (a := opa) (len := opn) (cap := opc) (sz := 32) (lo := none) (hi := (some ((min opn 20 : Nat) : Int))) (mx := none) (d := 20) (by kernel_rfl) 0 (min opn 20) opc (by simp) (by simp) (by simp) (by have := hp.le; omega) (by have := hp.le; omega) (by have := hp.le; omega) (by simp) ?_
    intro a2 ha2 hb2
    rw [hb2 rfl, Nat.sub_zero, Nat.sub_zero]; clear ha2 hb2 a2
    have hp2 := hp.upto (H := min opn 20) (X := opc) (by have := hp.le; omega) (by have := hp.le; omega) (by have := hp.le; omega)
    rcases Nat.eq_zero_or_pos (min opn 20) with hz02 | hz02
    · have hnil : (o.path.take (min opn 20)) = [] := List.eq_nil_of_length_eq_zero (by have := hp2.len; omega)
      refine J.app0 (a := some ⟨b4, 0, none⟩) (e := 34) (bytes := 32) (sz := 32) (nn := 0) (c := 0) (T := 24) (Tx := 24) (x := .slice opa (min opn 20) opc) (d := 21) (by kernel_rfl) (by kernel_rfl) (fun w1 A1 m1 l1 => by have q := (hp2.mv m1).src (P := Pr) (e := 34) (t := 24) (fun x _ => rfl) (fun x _ => dcells_one x) (by kernel_rfl); rw [hnil] at q; rw [hz02] at q ⊢; exact q) (by decide) ?_
      have hno2 : Sl 32 dcells Ac W (some ⟨b4, 0, none⟩) 0 0 ((o.path.take (min opn 20))) := by rw [hnil]; exact Sl.nil _ (by decide)
      refine J.rn [.u, .u, .n, .n, .n, .u, .u, .n] [2] [.o 5 9, .c 6] [.c 8] (by kernel_rfl) ?_
      refine J.ret (v := .agg [.int .i64 o.t, .slice (some ⟨b3, 0, none⟩) 0 0, .slice (some ⟨b4, 0, none⟩) 0 0].toArray) (by kernel_rfl) (by kernel_rfl) (fun w1 A1 m1 hac l1 => by unfold cutO; rw [← hll, ← hpl]; exact ⟨_, _, _, _, _, _, rfl, (hno1.mv m1).weaken hac, (hno2.mv m1).weaken hac⟩)
    · skip
      refine J.append (e := 34) (sz := 32) (a := (some ⟨b4, 0, none⟩)) (nn := 0) (c := 0) (T := 24) (Tx := 24) (x := .slice opa (min opn 20) opc) (bytes := 32) (d := 21) (xs := []) (news := (o.path.take (min opn 20)).flatMap dcells) (m := (min opn 20)) (by kernel_rfl) (by kernel_rfl) (.inr ⟨rfl, rfl, by decide, fun h => absurd rfl h⟩) (.inl (by omega)) (fun w1 A1 m1 l1 => (hp2.mv m1).src (e := 34) (fun x _ => rfl) (fun x _ => dcells_one x) (by kernel_rfl)) (by simp only [maxLen]; omega) (by omega) ?_
      intro a3 c1 w1 A1 hn1 m1
      replace hl := hl.mv m1; replace hp := hp.mv m1; replace hp1 := hp1.mv m1; replace hno1 := hno1.mv m1; replace hp2 := hp2.mv m1
      replace hn1 := hn1.re (n' := 0 + min opn 20) (ys := ((o.path.take (min opn 20))).flatMap dcells) rfl (by rw [List.nil_append])
      refine J.rn [.u, .u, .n, .n, .n, .u, .u, .n] [2] [.o 5 9, .c 6] [.c 8] (by kernel_rfl) ?_
      refine J.ret (v := .agg [.int .i64 o.t, .slice (some ⟨b3, 0, none⟩) 0 0, .slice a3 (0 + min opn 20) c1].toArray) (by kernel_rfl) (by kernel_rfl) (fun w1 A1 m1 hac l1 => by unfold cutO; rw [← hll, ← hpl]; exact ⟨_, _, _, _, _, _, rfl, (hno1.mv m1).weaken hac, (hn1.mv m1).sl (fun x _ => rfl) (by decide) hA⟩)
  · skip
    refine J.append (e := 5) (sz := 1) (a := (some ⟨b3, 0, none⟩)) (nn := 0) (c := 0) (T := 23) (Tx := 23) (x := .slice ola (min oln 1300) olc) (bytes := 1) (d := 11) (xs := []) (news := (o.leaf.take (min oln 1300)).flatMap u8) (m := (min oln 1300)) (by kernel_rfl) (by kernel_rfl) (.inr ⟨rfl, rfl, by decide, fun h => absurd rfl h⟩) (.inl (by omega)) (fun w1 A1 m1 l1 => (hp1.mv m1).src (e := 5) (fun x _ => rfl) (fun x _ => u8_one x) (by kernel_rfl)) (by simp only [maxLen]; omega) (by omega) ?_
    intro a4 c2 w2 A2 hn2 m2
    replace hl := hl.mv m2; replace hp := hp.mv m2; replace hp1 := hp1.mv m2
    replace hn2 := hn2.re (n' := 0 + min oln 1300) (ys := ((o.leaf.take (min oln 1300))).flatMap u8) rfl (by rw [List.nil_append])
    refine J.rn [.u, .u, .n, .n, .n] [1, 2] [.o 3 9, .c 4] [.o 5 0, .c 6] (by kernel_rfl) ?_
    refine J.new (T := 34) (cs := []) (d := 13) (K := (.sl 0)) (by kernel_rfl) (fun b5 hb5 => ?_)
    replace hn2 := hn2.more hb5
    refine J.run [.u, .u, .u, .u, .u, .u] [1, 2, 13, 15, 19] ⟨[(1, .loc 0 0), (2, .loc 1 0), (13, .v (.slice (some ⟨b5, 0, none⟩) 0 0)), (15, .v (.slice opa opn opc)), (19, .v (.int .i64 (if 20 < ((opn : Nat) : Int) then 20 else ((opn : Nat) : Int))))], [⟨26, [.int .i64 o.t, .slice a4 (0 + min oln 1300) c2, .slice opa opn opc]⟩, ⟨26, [.int .i64 0, .slice none 0 0, .slice none 0 0]⟩, ⟨5, []⟩, ⟨34, []⟩]⟩ [.o 5 1, .c 6] [.o 5 7, .c 6] (by kernel_rfl) ?_
    rw [hm_opn]
    refine J.sl (a := opa) (len := opn) (cap := opc) (sz := 32) (lo := none) (hi := (some ((min opn 20 : Nat) : Int))) (mx := none) (d := 20) (by kernel_rfl) 0 (min opn 20) opc (by simp) (by simp) (by simp) (by have := hp.le; omega) (by have := hp.le; omega) (by have := hp.le; omega) (by simp) ?_
    intro a5 ha3 hb3
    rw [hb3 rfl, Nat.sub_zero, Nat.sub_zero]; clear ha3 hb3 a5
    have hp3 := hp.upto (H := min opn 20) (X := opc) (by have := hp.le; omega) (by have := hp.le; omega) (by have := hp.le; omega)
    rcases Nat.eq_zero_or_pos (min opn 20) with hz03 | hz03
    · have hnil : (o.path.take (min opn 20)) = [] := List.eq_nil_of_length_eq_zero (by have := hp3.len; omega)
      refine J.app0 (a := some ⟨b5, 0, none⟩) (e := 34) (bytes := 32) (sz := 32) (nn := 0) (c := 0) (T := 24) (Tx := 24) (x := .slice opa (min opn 20) opc) (d := 21) (by kernel_rfl) (by kernel_rfl) (fun w1 A1 m1 l1 => by have q := (hp3.mv m1).src (P := Pr) (e := 34) (t := 24) (fun x _ => rfl) (fun x _ => dcells_one x) (by kernel_rfl); rw [hnil] at q; rw [hz03] at q ⊢; exact q) (by decide) ?_
      have hno3 : Sl 32 dcells A2 w2 (some ⟨b5, 0, none⟩) 0 0 ((o.path.take (min opn 20))) := by rw [hnil]; exact Sl.nil _ (by decide)
      refine J.rn [.u, .u, .n, .n, .n, .u, .u, .n] [2] [.o 5 9, .c 6] [.c 8] (by kernel_rfl) ?_
      refine J.ret (v := .agg [.int .i64 o.t, .slice a4 (0 + min oln 1300) c2, .slice (some ⟨b5, 0, none⟩) 0 0].toArray) (by kernel_rfl) (by kernel_rfl) (fun w1 A1 m1 hac l1 => by unfold cutO; rw [← hll, ← hpl]; exact ⟨_, _, _, _, _, _, rfl, (hn2.mv m1).sl (fun x _ => rfl) (by decide) hA, (hno3.mv m1).weaken hac⟩)
    · skip
      refine J.append (e := 34) (sz := 32) (a := (some ⟨b5, 0, none⟩)) (nn := 0) (c := 0) (T := 24) (Tx := 24) (x := .slice opa (min opn 20) opc) (bytes := 32) (d := 21) (xs := []) (news := (o.path.take (min opn 20)).flatMap dcells) (m := (min opn 20)) (by kernel_rfl) (by kernel_rfl) (.inr ⟨rfl, rfl, by decide, fun h => absurd rfl h⟩) (.inl (by omega)) (fun w1 A1 m1 l1 => (hp3.mv m1).src (e := 34) (fun x _ => rfl) (fun x _ => dcells_one x) (by kernel_rfl)) (by simp only [maxLen]; omega) (by omega) ?_
      intro a6 c3 w3 A3 hn3 m3
      replace hl := hl.mv m3; replace hp := hp.mv m3; replace hp1 := hp1.mv m3; replace hp3 := hp3.mv m3; replace hn2 := hn2.mvX m3 (fun g _ _ hρ _ h => by rcases h with h | ⟨_, x, e, rfl⟩; exact hρ h; cases e; exact hρ (by simp))
      replace hn3 := hn3.re (n' := 0 + min opn 20) (ys := ((o.path.take (min opn 20))).flatMap dcells) rfl (by rw [List.nil_append])
      refine J.rn [.u, .u, .n, .n, .n, .u, .u, .n] [2] [.o 5 9, .c 6] [.c 8] (by kernel_rfl) ?_
      refine J.ret (v := .agg [.int .i64 o.t, .slice a4 (0 + min oln 1300) c2, .slice a6 (0 + min opn 20) c3].toArray) (by kernel_rfl) (by kernel_rfl) (fun w1 A1 m1 hac l1 => by unfold cutO; rw [← hll, ← hpl]; exact ⟨_, _, _, _, _, _, rfl, (hn2.mv m1).sl (fun x _ => rfl) (by decide) hA, (hn3.mv m1).sl (fun x _ => rfl) (by decide) hA⟩)
theorem point_calls (btw : Bool) (oa ob : Opn) (oala : Option Addr) (oaln oalc : Nat) (oapa : Option Addr) (oapn oapc : Nat) (obla : Option Addr) (obln oblc : Nat) (obpa : Option Addr) (obpn obpc : Nat) (Ac : Nat → Prop) (W : World) (hA : ∀ k, Ac k → k < W.heap.size) (hsa : Sl 1 u8 Ac W oala oaln oalc oa.leaf) (hpa : Sl 32 dcells Ac W oapa oapn oapc oa.path) (hsb : Sl 1 u8 Ac W obla obln oblc ob.leaf) (hpb : Sl 32 dcells Ac W obpa obpn obpc ob.path) :
    Calls Pr 11 #[.agg [.bool btw, .int .i64 oa.t, .slice oala oaln oalc, .slice oapa oapn oapc, .int .i64 ob.t, .slice obla obln oblc, .slice obpa obpn obpc].toArray] W (Ret nobody W fun v w => PtAt Ac w v (btw, cutO oa, cutO ob)) := by
  refine J.enter (fn := Try.f11) (n := 12) Try.func11 (by kernel_rfl) (by kernel_rfl) (by kernel_rfl) hA ?_
  refine J.rn [.n, .n] [0] [.c 0] [.o 1 0, .c 2] (by kernel_rfl) ?_
  refine J.new (T := 28) (cs := [.bool btw, .int .i64 oa.t, .slice oala oaln oalc, .slice oapa oapn oapc, .int .i64 ob.t, .slice obla obln oblc, .slice obpa obpn obpc]) (d := 1) (K := .ptr) (by kernel_rfl) (fun b1 hb1 => ?_)
  refine J.new (T := 28) (cs := [.bool false, .int .i64 0, .slice none 0 0, .slice none 0 0, .int .i64 0, .slice none 0 0, .slice none 0 0]) (d := 2) (K := .ptr) (by kernel_rfl) (fun b2 hb2 => ?_)
  refine J.rn [.n, .n, .n, .u, .u] [1, 2, 4] [.o 1 2, .c 2] [.o 3 2, .c 4] (by kernel_rfl) ?_
  refine J.call (d := some 5) (by kernel_rfl) (fun w1 A1 m1 l1 => opening_calls oa oala oaln oalc oapa oapn oapc A1 w1 m1.bdd (hsa.mv m1) (hpa.mv m1)) ?_
  rintro _ u1 w1 A1 ⟨la1, ln1, lc1, pa1, pn1, pc1, rfl, hol1, hop1⟩ g1
  have m1 := g1.mv
  replace hsa := hsa.mv m1; replace hpa := hpa.mv m1; replace hsb := hsb.mv m1; replace hpb := hpb.mv m1
  refine J.run [.u, .u, .n, .n, .n, .u, .u] [1, 2, 8] ⟨[(1, .loc 0 0), (2, .loc 1 0), (8, .v (.agg [.int .i64 ob.t, .slice obla obln oblc, .slice obpa obpn obpc].toArray))], [⟨28, [.bool btw, .int .i64 ((cutO oa).t), .slice la1 ln1 lc1, .slice pa1 pn1 pc1, .int .i64 ob.t, .slice obla obln oblc, .slice obpa obpn obpc]⟩, ⟨28, [.bool false, .int .i64 0, .slice none 0 0, .slice none 0 0, .int .i64 0, .slice none 0 0, .slice none 0 0]⟩]⟩ [.o 3 3, .c 4] [.o 5 2, .c 6] (by kernel_rfl) ?_
  refine J.call (d := some 9) (by kernel_rfl) (fun w1 A1 m1 l1 => opening_calls ob obla obln oblc obpa obpn obpc A1 w1 m1.bdd (hsb.mv m1) (hpb.mv m1)) ?_
  rintro _ u2 w2 A2 ⟨la2, ln2, lc2, pa2, pn2, pc2, rfl, hol2, hop2⟩ g2
  have m2 := g2.mv
  replace hsa := hsa.mv m2; replace hpa := hpa.mv m2; replace hsb := hsb.mv m2; replace hpb := hpb.mv m2; replace hol1 := hol1.mv m2; replace hop1 := hop1.mv m2
  refine J.run [.u, .u, .n, .n, .n, .u, .u, .n] [2] ⟨[(2, .loc 1 0)], [⟨28, [.bool btw, .int .i64 ((cutO oa).t), .slice la1 ln1 lc1, .slice pa1 pn1 pc1, .int .i64 ((cutO ob).t), .slice la2 ln2 lc2, .slice pa2 pn2 pc2]⟩, ⟨28, [.bool btw, .int .i64 ((cutO oa).t), .slice la1 ln1 lc1, .slice pa1 pn1 pc1, .int .i64 ((cutO ob).t), .slice la2 ln2 lc2, .slice pa2 pn2 pc2]⟩]⟩ [.o 5 3, .c 6] [.c 8] (by kernel_rfl) ?_
  refine J.ret (v := .agg [.bool btw, .int .i64 ((cutO oa).t), .slice la1 ln1 lc1, .slice pa1 pn1 pc1, .int .i64 ((cutO ob).t), .slice la2 ln2 lc2, .slice pa2 pn2 pc2].toArray) (by kernel_rfl) (by kernel_rfl) (fun w1 A1 m1 hac l1 => ⟨_, _, _, _, _, _, _, _, _, _, _, _, rfl, (hol1.mv m1).weaken hac, (hop1.mv m1).weaken hac, (hol2.mv m1).weaken hac, (hop2.mv m1).weaken hac⟩)
end Go.Proofs.Ytkgokehkobifkaa.J

/- The law's helpers: two, few. -/
namespace Go.Proofs.Ytkgokehkobifkaa.J
open Go Go.RowKit

def twoF (bits : Int) (a b : List UInt8) (ok : Bool) : Bool := ok && (!seq (strOf a) (strOf b) && dgEq (kept a bits) (kept b bits))
def cutE (e : Ent) : Ent := ⟨e.key.extract 0 (min e.key.size 130), e.value.extract 0 (min e.value.size 1030), e.del, e.seq⟩
def fewF (l : List Ent) (m : Nat) : List Ent := (l.take m).map cutE

structure FewSt where
  i : Nat
  a : Option Addr
  c : Nat

theorem two_calls (bits : Int) (a : Option Addr) (n c : Nat) (xs : List UInt8) (b : Option Addr) (m d : Nat) (bs : List UInt8) (ok : Bool) (Ac : Nat → Prop) (W : World) (hA : ∀ k, Ac k → k < W.heap.size) (ha : Sl 1 u8 Ac W a n c xs) (hb : Sl 1 u8 Ac W b m d bs) :
    Calls Pr 16 #[.int .i64 bits, .slice a n c, .slice b m d, .bool ok] W (Ret nobody W fun v w => v = .bool (twoF bits xs bs ok)) := by
  refine J.enter (fn := Try.f16) (n := 26) Try.func16 (by kernel_rfl) (by kernel_rfl) (by kernel_rfl) hA ?_
  refine J.run [.n, .n, .u, .n, .n, .n, .u, .u] [0, 1, 2, 10] ⟨[(0, .v (.int .i64 bits)), (1, .v (.slice a n c)), (2, .v (.slice b m d)), (10, .v (.bool ok))], []⟩ [.c 0] [.o 3 2, .c 4] (by kernel_rfl) ?_
  rcases Bool.eq_false_or_eq_true ok with hc | hc
  · rw [hc]
    try simp only [nrm] at hc
    have hc1 := hc
    refine J.rn [.w] [0, 1, 2, 10, 11] [.o 3 2, .c 4] [.o 3 3, .c 4] (by kernel_rfl) ?_
    refine J.cv (u8 := u8) (fun _ => rfl) (a := a) (len := n) (c := c) (bs := xs) (d := 12) (by kernel_rfl) (fun w1 A1 m1 l1 => ha.mv m1) ?_
    refine J.rn [.w] [0, 1, 2, 10, 12, 13] [.o 3 4, .c 4] [.o 3 5, .c 4] (by kernel_rfl) ?_
    refine J.cv (u8 := u8) (fun _ => rfl) (a := b) (len := m) (c := d) (bs := bs) (d := 14) (by kernel_rfl) (fun w1 A1 m1 l1 => hb.mv m1) ?_
    refine J.run [.w, .u, .u] [0, 1, 2, 17] ⟨[(0, .v (.int .i64 bits)), (1, .v (.slice a n c)), (2, .v (.slice b m d)), (17, .v (.bool (!(seq (strOf xs) (strOf bs)))))], []⟩ [.o 3 6, .c 4] [.o 3 9, .c 4] (by kernel_rfl) ?_
    rcases Bool.eq_false_or_eq_true (!(seq (strOf xs) (strOf bs))) with hc | hc
    · rw [hc]
      try simp only [nrm] at hc
      have hc2 := hc
      refine J.rn [.w, .w] [0, 2, 17, 18, 19] [.o 3 9, .c 4] [.o 3 11, .c 4] (by kernel_rfl) ?_
      refine J.call (d := some 20) (by kernel_rfl) (fun w1 A1 m1 l1 => kept_calls a n c xs bits nobody w1 noA (ha.mv m1).any) ?_
      rintro _ u1 w1 A1 rfl g1
      have m1 := g1.mv
      replace ha := ha.mv m1; replace hb := hb.mv m1
      refine J.rn [.w, .w] [17, 20, 21, 22] [.o 3 12, .c 4] [.o 3 14, .c 4] (by kernel_rfl) ?_
      refine J.call (d := some 23) (by kernel_rfl) (fun w1 A1 m1 l1 => kept_calls b m d bs bits nobody w1 noA (hb.mv m1).any) ?_
      rintro _ u2 w2 A2 rfl g2
      have m2 := g2.mv
      replace ha := ha.mv m2; replace hb := hb.mv m2
      refine J.eqA (neg := false) (T := 34) (d := 24) (b := dgEq (kept xs bits) (kept bs bits)) (by kernel_rfl) dig_guard (dig_eq (kept xs bits) (kept bs bits)) ?_
      refine J.rn [.u, .u, .n] [8] [.o 3 16, .c 4] [.c 4] (by kernel_rfl) ?_
      refine J.ret (v := .bool (dgEq (kept xs bits) (kept bs bits))) (by kernel_rfl) (by kernel_rfl) (fun w1 A1 m1 hac l1 => by simp [twoF, hc1, hc2])
    · rw [hc]
      try simp only [nrm] at hc
      have hc2 := hc
      refine J.run [.x, .x, .x, .x, .x, .x, .x, .u, .u, .n] [8] ⟨[(8, .v (.bool false))], []⟩ [.o 3 9, .c 4] [.c 4] (by kernel_rfl) ?_
      refine J.ret (v := .bool false) (by kernel_rfl) (by kernel_rfl) (fun w1 A1 m1 hac l1 => by simp [twoF, hc1, hc2])
  · rw [hc]
    try simp only [nrm] at hc
    have hc1 := hc
    refine J.rn [.x, .x, .x, .x, .x, .u, .u, .x, .x, .x, .x, .x, .x, .x, .u, .u, .n] [8] [.o 3 2, .c 4] [.c 4] (by kernel_rfl) ?_
    refine J.ret (v := .bool false) (by kernel_rfl) (by kernel_rfl) (fun w1 A1 m1 hac l1 => by simp [twoF, hc1])
theorem few_calls (a : Option Addr) (n c : Nat) (l : List Ent) (m : Nat) (hm : m ≤ 1000000) (Ac : Nat → Prop) (W : World) (hA : ∀ k, Ac k → k < W.heap.size) (hs : Sl 4 encE Ac W a n c l) :
    Calls Pr 31 #[.slice a n c, .int .i64 ((m : Nat) : Int)] W (Ret nobody W fun v w => ∃ a' c', v = .slice a' (min n m) c' ∧ New W.heap.size 42 4 w a' (min n m) c' ((fewF l m).flatMap encE)) := by
  refine J.enter (fn := Try.f31) (n := 44) Try.func31 (by kernel_rfl) (by kernel_rfl) (by kernel_rfl) hA ?_
  have hlen := hs.len; have hle := hs.le; have hcap := hs.cap; simp only [maxLen] at hcap
  have hmk : ∀ z : Nat, (if 130 < ((z : Nat) : Int) then 130 else ((z : Nat) : Int)) = ((min z 130 : Nat) : Int) := fun z => by split <;> omega
  have hmv : ∀ z : Nat, (if 1030 < ((z : Nat) : Int) then 1030 else ((z : Nat) : Int)) = ((min z 1030 : Nat) : Int) := fun z => by split <;> omega
  refine J.rn [.n, .n, .u, .n, .n, .n, .u, .n, .n, .n, .n, .u, .n, .n] [0, 1, 5, 6] [.c 0] [.c 8, .b 0, .c 25] (by kernel_rfl) ?_
  refine J.loop (X := FewSt) (fun x => ⟨[(0, .v (.slice a n c)), (1, .v (.int .i64 ((m : Nat) : Int))), (5, .v (.slice x.a x.i x.c)), (6, .v (.int .i64 ((x.i : Nat) : Int)))], []⟩) (fun x A w => x.i ≤ n ∧ x.i ≤ m ∧ Sl 4 encE A w a n c l ∧ Nw W.heap.size 42 4 [] A w x.a x.i x.c ((fewF l x.i).flatMap encE)) (fun x => n - x.i) [0, 1, 5, 6] 0 [] ⟨0, none, 0⟩ (by kernel_rfl) (by kernel_rfl) (by kernel_rfl) (fun w1 A1 m1 => ⟨Nat.zero_le _, Nat.zero_le _, hs.mv m1, Nw.nil _ _ _ _ _ _⟩) (fun x A1 w1 hI => ?_)
  obtain ⟨hi, him, hs, ho⟩ := hI
  refine J.run [.n, .n, .n, .u, .u, .u, .u, .u] [0, 1, 5, 6, 12] ⟨[(0, .v (.slice a n c)), (1, .v (.int .i64 ((m : Nat) : Int))), (5, .v (.slice x.a x.i x.c)), (6, .v (.int .i64 ((x.i : Nat) : Int))), (12, .v (.bool (decide (((x.i : Nat) : Int) < ((n : Nat) : Int)))))], []⟩ [.c 9] [.o 11 5, .c 12, .c 15] (by kernel_rfl) ?_
  rcases Bool.eq_false_or_eq_true (decide (((x.i : Nat) : Int) < ((n : Nat) : Int))) with hc | hc
  · rw [hc]
    try simp only [nrm] at hc
    have hc1 := hc
    refine J.rn [.w, .w, .w, .u, .n] [0, 1, 5, 6, 16] [.o 11 5, .c 12, .c 15] [.c 12, .c 15] (by kernel_rfl) ?_
    refine J.cond (b := (decide (((x.i : Nat) : Int) < ((m : Nat) : Int)))) (k' := 14) (by kernel_rfl) (fun hc => ?_) (fun hc => ?_)
    · try simp only [nrm] at hc
      have hc2 := hc
      refine J.rn [.n, .n, .n, .n, .n, .u, .u] [0, 1, 5, 6, 19, 20] [.c 13, .c 15] [.o 18 2, .c 19, .b 1, .c 24] (by kernel_rfl) ?_
      obtain ⟨p1, o1, rfl⟩ := hs.addr (by omega)
      refine J.idx (b := p1) (off := o1) (len := n) (i := ((x.i : Nat) : Int)) (sz := 4) (d := 21) (by kernel_rfl) (by omega) (by omega) ?_
      obtain ⟨x1, hx1⟩ : ∃ zq, (l)[x.i]? = some zq := ⟨_, List.getElem?_eq_getElem (by omega)⟩
      refine J.ld (T := 42) (b := p1) (off := o1 + x.i * 4) (d := 22) (v := .agg (encE x1).toArray) (by kernel_rfl) (fun w1 A1 m1 l1 => (hs.mv m1).ld (by kernel_rfl) hx1 (by kernel_rfl)) ?_
      refine J.new (T := 42) (cs := [.string (⟨#[]⟩ : Str), .string (⟨#[]⟩ : Str), .bool false, .int .i64 0]) (d := 7) (K := .ptr) (by kernel_rfl) (fun b1 hb1 => ?_)
      replace ho := ho.more hb1
      refine J.run [.u, .n, .n, .n, .u, .u, .u, .u, .u, .u] [0, 1, 5, 6, 7, 24, 28] ⟨[(0, .v (.slice (some ⟨p1, o1, none⟩) n c)), (1, .v (.int .i64 ((m : Nat) : Int))), (5, .v (.slice x.a x.i x.c)), (6, .v (.int .i64 ((x.i : Nat) : Int))), (7, .loc 0 0), (24, .v (.string x1.key)), (28, .v (.int .i64 (if 130 < ((x1.key.size : Nat) : Int) then 130 else ((x1.key.size : Nat) : Int))))], [⟨42, encE x1⟩]⟩ [.o 18 5, .c 19, .b 1, .c 24] [.o 20 6, .c 21, .b 1, .c 24] (by kernel_rfl) ?_
      rw [hmk]
      refine J.slS (t := x1.key) (lo := none) (hi := (some ((min x1.key.size 130 : Nat) : Int))) (d := 29) (by kernel_rfl) 0 (min x1.key.size 130) (by simp) (by simp) (by omega) (by omega) ?_
      refine J.run [.u, .u, .n, .n, .n, .u, .u, .u, .u, .u, .u] [0, 1, 5, 6, 7, 32, 36] ⟨[(0, .v (.slice (some ⟨p1, o1, none⟩) n c)), (1, .v (.int .i64 ((m : Nat) : Int))), (5, .v (.slice x.a x.i x.c)), (6, .v (.int .i64 ((x.i : Nat) : Int))), (7, .loc 0 0), (32, .v (.string x1.value)), (36, .v (.int .i64 (if 1030 < ((x1.value.size : Nat) : Int) then 1030 else ((x1.value.size : Nat) : Int))))], [⟨42, [.string (x1.key.extract 0 (min x1.key.size 130)), .string x1.value, .bool x1.del, .int .i64 x1.seq]⟩]⟩ [.o 20 7, .c 21, .b 1, .c 24] [.o 22 6, .c 23, .b 1, .c 24] (by kernel_rfl) ?_
      rw [hmv]
      refine J.slS (t := x1.value) (lo := none) (hi := (some ((min x1.value.size 1030 : Nat) : Int))) (d := 37) (by kernel_rfl) 0 (min x1.value.size 1030) (by simp) (by simp) (by omega) (by omega) ?_
      refine J.run [.u, .u, .n, .n, .u, .u] [0, 1, 6, 39, 40] ⟨[(0, .v (.slice (some ⟨p1, o1, none⟩) n c)), (1, .v (.int .i64 ((m : Nat) : Int))), (6, .v (.int .i64 ((x.i : Nat) : Int))), (39, .v (.slice x.a x.i x.c)), (40, .v (.agg [.string (x1.key.extract 0 (min x1.key.size 130)), .string (x1.value.extract 0 (min x1.value.size 1030)), .bool x1.del, .int .i64 x1.seq].toArray))], [⟨42, [.string (x1.key.extract 0 (min x1.key.size 130)), .string (x1.value.extract 0 (min x1.value.size 1030)), .bool x1.del, .int .i64 x1.seq]⟩]⟩ [.o 22 7, .c 23, .b 1, .c 24] [.o 23 2, .b 1, .c 24] (by kernel_rfl) ?_
      refine J.new (T := 42) (cs := [.string (x1.key.extract 0 (min x1.key.size 130)), .string (x1.value.extract 0 (min x1.value.size 1030)), .bool x1.del, .int .i64 x1.seq]) (d := 41) (K := (.sl 1)) (by kernel_rfl) (fun b2 hb2 => ?_)
      replace ho := ho.more hb2
      refine J.append (e := 42) (sz := 4) (a := x.a) (nn := x.i) (c := x.c) (T := 22) (Tx := 22) (x := .slice (some ⟨b2, 0, none⟩) 1 1) (bytes := 48) (d := 42) (xs := (fewF l x.i).flatMap encE) (news := [.string (x1.key.extract 0 (min x1.key.size 130)), .string (x1.value.extract 0 (min x1.value.size 1030)), .bool x1.del, .int .i64 x1.seq]) (m := 1) (by kernel_rfl) (by kernel_rfl) ho.own (.inr ho) (fun w1 A1 m1 l1 => l1.src (i := 1) rfl (e := 42) (by kernel_rfl) rfl rfl) (by simp only [maxLen]; omega) (by omega) ?_
      intro a1 c1 w2 A2 hn1 m1
      replace hs := hs.mv m1
      replace hn1 := hn1.re (n' := x.i + 1) (ys := (fewF l x.i ++ [cutE x1]).flatMap encE) rfl (by first | (simp only [List.flatMap_append, dbytes_flat, byteCells_u8]; done) | (rw [List.flatMap_append]; rfl))
      refine J.run [.u, .n, .n, .n, .u, .u, .u, .n] [0, 1, 5, 6] ⟨[(0, .v (.slice (some ⟨p1, o1, none⟩) n c)), (1, .v (.int .i64 ((m : Nat) : Int))), (5, .v (.slice a1 (x.i + 1) c1)), (6, .v (.int .i64 (IntKind.i64.wrap (((x.i : Nat) : Int) + 1))))], [⟨42, [.string (x1.key.extract 0 (min x1.key.size 130)), .string (x1.value.extract 0 (min x1.value.size 1030)), .bool x1.del, .int .i64 x1.seq]⟩, ⟨42, [.string (x1.key.extract 0 (min x1.key.size 130)), .string (x1.value.extract 0 (min x1.value.size 1030)), .bool x1.del, .int .i64 x1.seq]⟩]⟩ [.o 23 4, .b 1, .c 24] [] (by kernel_rfl) ?_
      have hw1 : IntKind.i64.wrap (((x.i : Nat) : Int) + 1) = ((x.i + 1 : Nat) : Int) := by rw [wrap_i64 (by omega) (by omega)]; try omega
      rw [hw1]
      have hfk : fewF l x.i ++ [cutE x1] = fewF l (x.i + 1) := by unfold fewF; rw [take_snoc hx1, List.map_append]; rfl
      rw [hfk] at hn1
      exact J.again ⟨x.i + 1, a1, c1⟩ [0, 1, 5, 6] 0 (by simp only; omega) (by kernel_rfl) (by kernel_rfl) (fun w1 A1 m1 => ⟨by simp only; omega, by simp only; omega, hs.mv m1, (hn1.mv m1).fewer (by simp)⟩)
    · try simp only [nrm] at hc
      have hc2 := hc
      refine J.exit (id := 0) (by kernel_rfl) (by rfl) ?_
      refine J.rn [.n, .n, .u, .u, .n] [4] [.c 25] [.c 27] (by kernel_rfl) ?_
      have hin : x.i = min n m := by omega
      have hff : fewF l x.i = fewF l m := by unfold fewF; rw [hin, hlen, Nat.min_comm, ← List.take_take, List.take_of_length_le (i := l.length) (Nat.le_refl _)]
      rw [hff, hin] at ho; rw [hin]
      refine J.ret (v := .slice x.a (min n m) x.c) (by kernel_rfl) (by kernel_rfl) (fun w1 A1 m1 hac l1 => ⟨_, _, rfl, (ho.mv m1).new⟩)
  · rw [hc]
    try simp only [nrm] at hc
    have hc1 := hc
    refine J.rn [.x, .x, .x, .u, .n] [0, 1, 5, 6, 16] [.o 11 5, .c 12, .c 15] [.c 12, .c 15] (by kernel_rfl) ?_
    refine J.cond (b := false) (k' := 14) (by kernel_rfl) (fun hc => absurd hc (by decide)) (fun _ => ?_)
    refine J.exit (id := 0) (by kernel_rfl) (by rfl) ?_
    refine J.rn [.n, .n, .u, .u, .n] [4] [.c 25] [.c 27] (by kernel_rfl) ?_
    have hin : x.i = min n m := by omega
    have hff : fewF l x.i = fewF l m := by unfold fewF; rw [hin, hlen, Nat.min_comm, ← List.take_take, List.take_of_length_le (i := l.length) (Nat.le_refl _)]
    rw [hff, hin] at ho; rw [hin]
    refine J.ret (v := .slice x.a (min n m) x.c) (by kernel_rfl) (by kernel_rfl) (fun w1 A1 m1 hac l1 => ⟨_, _, rfl, (ho.mv m1).new⟩)
end Go.Proofs.Ytkgokehkobifkaa.J

/- Package clash: the texts. -/
namespace Go.Proofs.Ytkgokehkobifkaa.J
open Go Go.RowKit

/-- Made here, and read by whoever has got it. -/
def SlNew (N : Nat) (w : World) (a : Option Addr) (n c : Nat) (l : List UInt8) : Prop := ∀ A : Nat → Prop, (∀ k, A k → k < N) → Sl 1 u8 A w a n c l
theorem Sl.newA {A : Nat → Prop} {w : World} {b o n c N : Nat} {l : List UInt8} (h : Sl 1 u8 A w (some ⟨b, o, none⟩) n c l) (hb : N ≤ b) : SlNew N w (some ⟨b, o, none⟩) n c l := fun A' hA' =>
  ⟨h.len, h.le, h.cap, fun hne => by
    obtain ⟨b', o', e1, e2, e3, e4⟩ := h.at_ hne
    cases e1
    exact ⟨b, o, rfl, fun q => by have := hA' _ q; omega, e3, e4⟩⟩

theorem leafText_calls (a : Option Addr) (n c : Nat) (bs : List UInt8) (hn : n ≤ 1000000) (Ac : Nat → Prop) (W : World) (hA : ∀ k, Ac k → k < W.heap.size) (hs : Sl 1 u8 Ac W a n c bs) :
    Calls Pr 44 #[.slice a n c] W (Ret nobody W fun v w => ∃ a' n' c', v = .slice a' n' c' ∧ SlNew W.heap.size w a' n' c' (0 :: bs)) := by
  refine J.enter (fn := Try.f44) (n := 6) Try.func44 (by kernel_rfl) (by kernel_rfl) (by kernel_rfl) hA ?_
  refine J.rn [.n, .n, .u, .n, .n, .n] [0] [.c 0] [.o 3 0, .c 4] (by kernel_rfl) ?_
  refine J.new (T := 5) (cs := [.int .u8 0]) (d := 3) (K := (.sl 1)) (by kernel_rfl) (fun b1 hb1 => ?_)
  refine J.run [.u] [3, 4] ⟨[(3, .v (.slice (some ⟨b1, 0, none⟩) 1 1)), (4, .v (.slice a n c))], [⟨5, [.int .u8 0]⟩]⟩ [.o 3 1, .c 4] [.o 3 2, .c 4] (by kernel_rfl) ?_
  refine J.freeze 0 rfl (by kernel_rfl) (fun h => h) (L := ⟨5, [.int .u8 0]⟩) rfl (fun w1 A1 m1 hs1 hr1 hn1 => ?_)
  replace hs := hs.mv m1
  have hz : Sl 1 u8 A1 w1 (some ⟨b1, 0, none⟩) 1 1 [0] := Sl.ofRow (enc := u8) (l := [0]) (kk := 1) (b := b1) (cs := [.int .u8 0]) hr1 hn1 rfl (fun x _ => rfl) rfl (by simp only [maxLen]; omega)
  have hlen := hs.len
  rcases Nat.eq_zero_or_pos n with hn0 | hn0
  · obtain rfl : bs = [] := List.eq_nil_of_length_eq_zero (by omega)
    subst hn0
    refine J.app0 (a := some ⟨b1, 0, none⟩) (e := 5) (bytes := 1) (sz := 1) (nn := 1) (c := 1) (T := 23) (Tx := 23) (x := .slice a 0 c) (d := 5) (by kernel_rfl) (by kernel_rfl) (fun w1 A1 m1 l1 => (hs.mv m1).src (e := 5) (fun x _ => rfl) (fun x _ => u8_one x) (by kernel_rfl)) (by decide) ?_
    refine J.rn [.u, .n] [2] [.o 3 3, .c 4] [.c 4] (by kernel_rfl) ?_
    refine J.ret (v := .slice (some ⟨b1, 0, none⟩) 1 1) (by kernel_rfl) (by kernel_rfl) (fun w1 A1 m1 hac l1 => ⟨_, _, _, rfl, (hz.mv m1).newA hb1⟩)
  · skip
    refine J.append (e := 5) (sz := 1) (a := (some ⟨b1, 0, none⟩)) (nn := 1) (c := 1) (T := 23) (Tx := 23) (x := .slice a n c) (bytes := 1) (d := 5) (xs := [0].flatMap u8) (news := bs.flatMap u8) (m := n) (by kernel_rfl) (by kernel_rfl) (.inr (hz.tight (fun x _ => rfl))) (.inl (by omega)) (fun w1 A1 m1 l1 => (hs.mv m1).src (e := 5) (fun x _ => rfl) (fun x _ => u8_one x) (by kernel_rfl)) (by simp only [maxLen]; omega) (by omega) ?_
    intro a1 c1 w2 A2 hn2 m2
    replace hs := hs.mv m2; replace hz := hz.mv m2
    replace hn2 := hn2.re (n' := 1 + n) (ys := ([0] ++ bs).flatMap u8) rfl (by first | (simp only [List.flatMap_append, dbytes_flat, byteCells_u8]; done) | (rw [List.flatMap_append]; rfl))
    refine J.rn [.u, .n] [2] [.o 3 3, .c 4] [.c 4] (by kernel_rfl) ?_
    refine J.ret (v := .slice a1 (1 + n) c1) (by kernel_rfl) (by kernel_rfl) (fun w1 A1 m1 hac l1 => ⟨_, _, _, rfl, fun A hA => ((hn2.mv m1).sl (fun x _ => rfl) (by decide) hA : Sl 1 u8 A _ _ _ _ ([0] ++ bs))⟩)
theorem nodeText_calls (l r : Dg) (Ac : Nat → Prop) (W : World) (hA : ∀ k, Ac k → k < W.heap.size) :
    Calls Pr 48 #[.agg (dcells l).toArray, .agg (dcells r).toArray] W (Ret nobody W fun v w => ∃ a' n' c', v = .slice a' n' c' ∧ SlNew W.heap.size w a' n' c' (1 :: (dbytes l ++ dbytes r))) := by
  refine J.enter (fn := Try.f48) (n := 12) Try.func48 (by kernel_rfl) (by kernel_rfl) (by kernel_rfl) hA ?_
  refine J.rn [.n, .n] [0, 1] [.c 0] [.o 1 0, .c 2] (by kernel_rfl) ?_
  refine J.new (T := 34) (cs := dcells l) (d := 2) (K := .ptr) (by kernel_rfl) (fun b1 hb1 => ?_)
  refine J.new (T := 34) (cs := dcells r) (d := 3) (K := .ptr) (by kernel_rfl) (fun b2 hb2 => ?_)
  refine J.run [.u, .n, .n, .n] [2, 3] ⟨[(2, .loc 0 0), (3, .loc 1 0)], [⟨34, dcells l⟩, ⟨34, dcells r⟩]⟩ [.o 1 2, .c 2] [.o 3 0, .c 4] (by kernel_rfl) ?_
  refine J.new (T := 5) (cs := [.int .u8 1]) (d := 6) (K := (.sl 1)) (by kernel_rfl) (fun b3 hb3 => ?_)
  refine J.slA (b := b1) (off := 0) (len := 32) (sz := 1) (lo := none) (hi := none) (d := 7) (by kernel_rfl) 0 32 (by simp) (by simp) (by omega) (by omega) (by omega) ?_
  refine J.freeze 2 rfl (by kernel_rfl) (fun h => h) (L := ⟨5, [.int .u8 1]⟩) rfl (fun w1 A1 m1 hs1 hr1 hn1 => ?_)
  have hz : Sl 1 u8 A1 w1 (some ⟨b3, 0, none⟩) 1 1 [1] := Sl.ofRow (enc := u8) (l := [1]) (kk := 1) (b := b3) (cs := [.int .u8 1]) hr1 hn1 rfl (fun x _ => rfl) rfl (by simp only [maxLen]; omega)
  refine J.append (e := 5) (sz := 1) (a := (some ⟨b3, 0, none⟩)) (nn := 1) (c := 1) (T := 23) (Tx := 23) (x := .slice (some ⟨b1, 0, none⟩) 32 32) (bytes := 1) (d := 8) (xs := [1].flatMap u8) (news := dcells l) (m := 32) (by kernel_rfl) (by kernel_rfl) (.inr (hz.tight (fun x _ => rfl))) (.inl (by omega)) (fun w1 A1 m1 l1 => l1.src (i := 0) rfl (e := 5) (by kernel_rfl) rfl rfl) (by simp only [maxLen]; omega) (by omega) ?_
  intro a1 c1 w2 A2 hn2 m2
  replace hz := hz.mv m2
  replace hn2 := hn2.re (n' := 33) (ys := ([1] ++ dbytes l).flatMap u8) rfl (by first | (simp only [List.flatMap_append, dbytes_flat, byteCells_u8]; done) | (rw [List.flatMap_append]; rfl))
  refine J.run [.u, .n, .n, .n, .u] [3, 9] ⟨[(3, .loc 1 0), (9, .v (.slice a1 33 c1))], [⟨34, dcells l⟩, ⟨34, dcells r⟩]⟩ [.o 3 3, .c 4] [.o 5 1, .c 6] (by kernel_rfl) ?_
  refine J.slA (b := b2) (off := 0) (len := 32) (sz := 1) (lo := none) (hi := none) (d := 10) (by kernel_rfl) 0 32 (by simp) (by simp) (by omega) (by omega) (by omega) ?_
  refine J.append (e := 5) (sz := 1) (a := a1) (nn := 33) (c := c1) (T := 23) (Tx := 23) (x := .slice (some ⟨b2, 0, none⟩) 32 32) (bytes := 1) (d := 11) (xs := ([1] ++ dbytes l).flatMap u8) (news := dcells r) (m := 32) (by kernel_rfl) (by kernel_rfl) hn2.own (.inr hn2) (fun w1 A1 m1 l1 => l1.src (i := 1) rfl (e := 5) (by kernel_rfl) rfl rfl) (by simp only [maxLen]; omega) (by omega) ?_
  intro a2 c2 w3 A3 hn3 m3
  replace hz := hz.mv m3
  replace hn3 := hn3.re (n' := 65) (ys := ([1] ++ dbytes l ++ dbytes r).flatMap u8) rfl (by first | (simp only [List.flatMap_append, dbytes_flat, byteCells_u8]; done) | (rw [List.flatMap_append]; rfl))
  refine J.rn [.u, .n] [4] [.o 5 3, .c 6] [.c 6] (by kernel_rfl) ?_
  refine J.ret (v := .slice a2 65 c2) (by kernel_rfl) (by kernel_rfl) (fun w1 A1 m1 hac l1 => ⟨_, _, _, rfl, fun A hA => by have q := (hn3.mv m1).sl (fun x _ => rfl) (by decide) hA; simpa only [List.cons_append, List.nil_append, List.append_assoc] using q⟩)
end Go.Proofs.Ytkgokehkobifkaa.J

/- Package bytes: Equal. -/
namespace Go.Proofs.Ytkgokehkobifkaa.J
open Go Go.RowKit

theorem strOf_seq (xs ys : List UInt8) : seq (strOf xs) (strOf ys) = (xs == ys) := by
  rw [Bool.eq_iff_iff, seq_iff, beq_iff_eq]
  constructor
  · intro h
    have := congrArg (fun t : Str => t.data.toList) h
    simpa [strOf] using this
  · rintro rfl; rfl

theorem bytesEqual_calls (a : Option Addr) (n c : Nat) (xs : List UInt8) (b : Option Addr) (m d : Nat) (ys : List UInt8) (Ac : Nat → Prop) (W : World) (hA : ∀ k, Ac k → k < W.heap.size) (ha : Sl 1 u8 Ac W a n c xs) (hb : Sl 1 u8 Ac W b m d ys) :
    Calls Pr 69 #[.slice a n c, .slice b m d] W (Ret nobody W fun v w => v = .bool (seq (strOf xs) (strOf ys))) := by
  refine J.enter (fn := Try.f69) (n := 10) Try.func69 (by kernel_rfl) (by kernel_rfl) (by kernel_rfl) hA ?_
  refine J.rn [.n, .n, .u, .n, .n, .n, .u] [1, 5] [.c 0] [.o 3 1, .c 4] (by kernel_rfl) ?_
  refine J.cv (u8 := u8) (fun _ => rfl) (a := a) (len := n) (c := c) (bs := xs) (d := 6) (by kernel_rfl) (fun w1 A1 m1 l1 => ha.mv m1) ?_
  refine J.rn [.u] [6, 7] [.o 3 2, .c 4] [.o 3 3, .c 4] (by kernel_rfl) ?_
  refine J.cv (u8 := u8) (fun _ => rfl) (a := b) (len := m) (c := d) (bs := ys) (d := 8) (by kernel_rfl) (fun w1 A1 m1 l1 => hb.mv m1) ?_
  refine J.rn [.u, .u, .n] [4] [.o 3 4, .c 4] [.c 4] (by kernel_rfl) ?_
  refine J.ret (v := .bool ((seq (strOf xs) (strOf ys)))) (by kernel_rfl) (by kernel_rfl) (fun w1 A1 m1 hac l1 => rfl)
end Go.Proofs.Ytkgokehkobifkaa.J

/- Maps from strings to entries, plainly: what lookup and update come to. -/
namespace Go.Proofs.Ytkgokehkobifkaa.J
open Go Go.RowKit

def mEnt (e : Ent) (i : Nat) : MapEntry := ⟨.string e.key, .agg (encE e).toArray, i⟩
def mList : List Ent → Nat → List MapEntry
  | [], _ => []
  | e :: r, i => mEnt e i :: mList r (i + 1)
theorem mList_len : ∀ (ms : List Ent) (i : Nat), (mList ms i).length = ms.length
  | [], _ => rfl
  | _ :: r, i => by simp [mList, mList_len r]
theorem mList_get : ∀ (ms : List Ent) (i j : Nat), (mList ms i)[j]? = (ms[j]?).map fun e => mEnt e (i + j)
  | [], _, _ => by simp [mList]
  | e :: r, i, 0 => by simp [mList]
  | e :: r, i, j + 1 => by simp [mList, mList_get r (i + 1) j, Nat.add_assoc, Nat.add_comm 1 j]
theorem mList_snoc : ∀ (ms : List Ent) (i : Nat) (e : Ent), mList (ms ++ [e]) i = mList ms i ++ [mEnt e (i + ms.length)]
  | [], _, _ => rfl
  | x :: r, i, e => by simp [mList, mList_snoc r (i + 1) e, Nat.add_assoc, Nat.add_comm 1]

/-- Where a key stands. -/
def posOf (k : Str) (ms : List Ent) : Option Nat := ms.findIdx? fun e => seq e.key k

theorem seq_comm (a b : Str) : seq a b = seq b a := by
  rw [Bool.eq_iff_iff, seq_iff, seq_iff]
  exact ⟨fun h => h.symm, fun h => h.symm⟩
theorem beq_str (a b : Str) : (a == b) = seq b a := by
  rw [seq_comm]; exact beq_toListBytes a b

theorem findNow_str (k : Str) : ∀ (ms : List Ent) (i n : Nat), Instr.findNow .string (.string k) (mList ms i) n = some ((posOf k ms).bind fun j => (ms[j]?).map fun e => (n + j, .agg (encE e).toArray))
  | [], _, _ => rfl
  | e :: r, i, n => by
    have ih := findNow_str k r (i + 1) (n + 1)
    simp only [mList, mEnt, Instr.findNow, Instr.sameNow, beq_str]
    unfold posOf at *
    rw [List.findIdx?_cons]
    cases h : seq e.key k with
    | true => simp
    | false =>
      simp only [ih, Bool.false_eq_true, if_false]
      cases hf : List.findIdx? (fun e => seq e.key k) r with
      | none => simp
      | some j => simp [Nat.add_assoc, Nat.add_comm 1 j]

/-- What an update makes of the entries. -/
def putM (ms : List Ent) (e : Ent) : List Ent := match posOf e.key ms with
  | some j => ms.set j e
  | none => ms ++ [e]

section
variable {w : World} {b : Nat} {ms : List Ent} {T kt et : TypeId} {P : Program}

theorem run_checkKey (hk : P.underlying kt = some .string) (em : Bool) (k : Str) (w : World) : (Instr.checkKey em 10000 kt (.string k)).run P w = .ok () w := by
  show (Instr.checkKey em (9999 + 1) kt (.string k)).run P w = _
  rw [Instr.checkKey]
  simp [run_underlying hk]

theorem run_lookupM (ht : P.underlying T = some (.map kt et)) (hk : P.underlying kt = some .string) {z : Value} (hz : (zeroValue et).run P w = .ok z w) (hb : w.heap[b]? = some (.map (mList ms 0).toArray ms.length)) (k : Str) :
    (Instr.lookup T (.map (some b)) (.string k) true).run P w = .ok (match posOf k ms with
      | some j => .tuple #[(match ms[j]? with | some e => .agg (encE e).toArray | none => z), .bool true]
      | none => .tuple #[z, .bool false]) w := by
  have hf := findNow_str k ms 0 0
  cases hp : posOf k ms with
  | none =>
    rw [hp] at hf
    simp [Instr.lookup, run_underlying ht, MapKept.run_getObj_map hb, Instr.findKey, run_underlying hk, hf, hz, run_checkKey hk, Result.andThen]
  | some j =>
    have hj := (List.findIdx?_eq_some_iff_getElem.1 hp)
    obtain ⟨h1, _⟩ := hj
    rw [hp] at hf
    simp only [Option.bind_some, List.getElem?_eq_getElem h1, Option.map_some] at hf
    simp [Instr.lookup, run_underlying ht, MapKept.run_getObj_map hb, Instr.findKey, run_underlying hk, hf, run_checkKey hk, Result.andThen, List.getElem?_eq_getElem h1]

theorem mList_modify (e : Ent) : ∀ (ms : List Ent) (i j : Nat) (x : Ent), ms[j]? = some x → x.key = e.key → (mList ms i).modify j (fun y => { y with key := .string e.key, val := .agg (encE e).toArray }) = mList (ms.set j e) i
  | [], _, _, _, h, _ => by simp at h
  | y :: r, i, 0, x, h, hk => by simp [mList, mEnt]
  | y :: r, i, j + 1, x, h, hk => by
    simp only [mList, List.set_cons_succ, List.modify_succ_cons]
    rw [mList_modify e r (i + 1) j x (by simpa using h) hk]

theorem run_updateM (ht : P.underlying T = some (.map kt et)) (hk : P.underlying kt = some .string) (hb : w.heap[b]? = some (.map (mList ms 0).toArray ms.length)) (e : Ent) :
    (Instr.mapUpdate T (.map (some b)) (.string e.key) (.agg (encE e).toArray)).run P w = .ok () { w with heap := w.heap.setIfInBounds b (.map (mList (putM ms e) 0).toArray (putM ms e).length) } := by
  have hf := findNow_str e.key ms 0 0
  cases hp : posOf e.key ms with
  | none =>
    rw [hp] at hf
    have hput : putM ms e = ms ++ [e] := by simp [putM, hp]
    rw [hput, mList_snoc]
    simp [Instr.mapUpdate, run_underlying ht, MapKept.run_getObj_map hb, Instr.findKey, run_underlying hk, hf, run_checkKey hk, Result.andThen, MapKept.run_setObj_map _ hb, mEnt]
  | some j =>
    obtain ⟨h1, h2, _⟩ := List.findIdx?_eq_some_iff_getElem.1 hp
    have hkey := seq_iff.1 h2
    have hput : putM ms e = ms.set j e := by simp [putM, hp]
    rw [hput, ← mList_modify e ms 0 j ms[j] (List.getElem?_eq_getElem h1) hkey]
    rw [hp] at hf
    simp only [Option.bind_some, List.getElem?_eq_getElem h1, Option.map_some, Nat.zero_add] at hf
    have hold : (mList ms 0)[j]? = some (mEnt ms[j] (0 + j)) := by rw [mList_get, List.getElem?_eq_getElem h1]; rfl
    have hst : (Instr.keyThatStays (.string ms[j].key) (.string e.key)).run P w = .ok (.string e.key) w := by
      unfold Instr.keyThatStays
      have : Instr.sameBits 10000 (.string ms[j].key) (.string e.key) = true := by
        show (ms[j].key == e.key) = true
        rw [beq_str, hkey, seq_refl]
      rw [this]; rfl
    simp [Instr.mapUpdate, run_underlying ht, MapKept.run_getObj_map hb, Instr.findKey, run_underlying hk, hf, run_checkKey hk, Result.andThen, MapKept.run_setObj_map _ hb, hold, mEnt, hst, List.length_set]
end
end Go.Proofs.Ytkgokehkobifkaa.J

/- Maps in the calculus: a map that the walk owns. -/
namespace Go.Proofs.Ytkgokehkobifkaa.J
open Go Go.RowKit

/-- The walk's own map, from strings to entries. -/
def MapAt (N : Nat) (ρ : List Nat) (A : Nat → Prop) (w : World) (b : Nat) (ms : List Ent) : Prop :=
  N ≤ b ∧ b ∉ ρ ∧ A b ∧ w.heap[b]? = some (.map (mList ms 0).toArray ms.length)
theorem MapAt.mv {N : Nat} {ρ : List Nat} {A A1 : Nat → Prop} {w w1 : World} {b : Nat} {ms : List Ent} (h : MapAt N ρ A w b ms) (m : Mv (Lb ρ) A A1 w w1) : MapAt N ρ A1 w1 b ms := by
  obtain ⟨h1, h2, h3, h4⟩ := h
  have hlt : b < w.heap.size := (Array.getElem?_eq_some_iff.1 h4).1
  exact ⟨h1, h2, m.up b hlt h3 h2, by rw [m.same b hlt h2]; exact h4⟩
theorem MapAt.more {N : Nat} {ρ : List Nat} {A : Nat → Prop} {w : World} {b : Nat} {ms : List Ent} (h : MapAt N ρ A w b ms) {c : Nat} (hc : w.heap.size ≤ c) : MapAt N (ρ ++ [c]) A w b ms := by
  obtain ⟨h1, h2, h3, h4⟩ := h
  have hlt : b < w.heap.size := (Array.getElem?_eq_some_iff.1 h4).1
  refine ⟨h1, fun hm => ?_, h3, h4⟩
  rcases List.mem_append.1 hm with h | h
  · exact h2 h
  · simp at h; omega
theorem MapAt.fewer {N : Nat} {ρ ρ' : List Nat} {A : Nat → Prop} {w : World} {b : Nat} {ms : List Ent} (h : MapAt N ρ A w b ms) (hs : ∀ x, x ∈ ρ' → x ∈ ρ) : MapAt N ρ' A w b ms := ⟨h.1, fun hm => h.2.1 (hs _ hm), h.2.2.1, h.2.2.2⟩

section
variable {P : Program} {B : Code} {Q : Exit → Act → World → Prop} {n : Nat} {W : World} {Ac M A : Nat → Prop} {s : SS} {ρ : List Nat} {w0 : World} {r t : List It} {k j : Nat}

def lkOf (B : Code) (e : Env) (ρ : List Nat) (n k j : Nat) : Option (TypeId × Nat × Str × Nat) :=
  match nowOp B e k j with
  | some o => match o.dst, o.op with
    | some d, .lookup T x y true => bif Nat.blt d n then (match evv e ρ none x, evv e ρ none y with
      | some (.map (some b)), some (.string q) => some (T, b, q, d)
      | _, _ => none) else none
    | _, _ => none
  | none => none

theorem J.lookup {T kt et : TypeId} {b d : Nat} {q : Str} {z : Value} {ms : List Ent} (hx : lkOf B s.env ρ n k j = some (T, b, q, d)) (ht : P.underlying T = some (.map kt et)) (hk : P.underlying kt = some .string) (hz : ∀ w, (zeroValue et).run P w = .ok z w) (hm : MapAt W.heap.size ρ A w0 b ms)
    (h : J P B Q n W Ac M (.o k (j + 1) :: r) ⟨put s.env d (.v (match posOf q ms with
      | some j => .tuple #[(match ms[j]? with | some e => .agg (encE e).toArray | none => z), .bool true]
      | none => .tuple #[z, .bool false])), s.mem⟩ ρ A w0) : J P B Q n W Ac M (.o k j :: r) s ρ A w0 := by
  unfold lkOf at hx
  split at hx
  · rename_i o ho
    split at hx
    · rename_i d' T' x y hd hop
      obtain ⟨hdn, hx⟩ := bif_some hx
      split at hx
      · rename_i b' q' h1 h2
        cases hx
        refine J.readG .text ho hd (blt_iff.1 hdn) (fun a w ok => ?_) h
        have e1 : execOp a.eval o = (do Pure.pure (.value (← Instr.lookup T (a.eval x) (a.eval y) true))) := by unfold execOp; rw [hop]
        rw [e1, evv_den ok.fits (GOk.none _) h1, evv_den ok.fits (GOk.none _) h2]
        simp only [Sem.run_bind, run_lookupM ht hk (hz w) (hm.mv ok.mv).2.2.2 q, Result.andThen_ok, Sem.run_pure]
        all_goals (cases posOf q ms with
          | none => rfl
          | some j => cases ms[j]? <;> rfl)
      · cases hx
    · cases hx
  · cases hx

def muOf (B : Code) (e : Env) (ρ : List Nat) (k j : Nat) : Option (TypeId × Nat × Value × Value) :=
  match nowOp B e k j with
  | some o => match o.dst, o.op with
    | none, .mapUpdate T x y z => match evv e ρ none x, evv e ρ none y, evv e ρ none z with
      | some (.map (some b)), some u, some v => some (T, b, u, v)
      | _, _, _ => none
    | _, _ => none
  | none => none

theorem J.update {T kt et : TypeId} {b : Nat} {e : Ent} {ms : List Ent} (hx : muOf B s.env ρ k j = some (T, b, .string e.key, .agg (encE e).toArray)) (ht : P.underlying T = some (.map kt et)) (hk : P.underlying kt = some .string) (hm : MapAt W.heap.size ρ A w0 b ms)
    (h : ∀ w' A', MapAt W.heap.size ρ A' w' b (putM ms e) → Mv (fun k => Lb ρ k ∨ k = b) A A' w0 w' → J P B Q n W Ac M (.o k (j + 1) :: r) s ρ A' w') : J P B Q n W Ac M (.o k j :: r) s ρ A w0 := by
  unfold muOf at hx
  split at hx
  · rename_i o ho
    split at hx
    · rename_i T' x y z hd hop
      split at hx
      · rename_i b' u v h1 h2 h3
        cases hx
        refine J.op ho fun a w ok => ?_
        have hmw := hm.mv ok.mv
        obtain ⟨g1, g2, g3, g4⟩ := hmw
        have hlt : b < w.heap.size := (Array.getElem?_eq_some_iff.1 g4).1
        have hr := run_updateM (P := P) ht hk g4 e
        have e1 : execOp a.eval o = (do Instr.mapUpdate T (a.eval x) (a.eval y) (a.eval z); Pure.pure .skip) := by unfold execOp; rw [hop]
        unfold Oper.wp
        rw [e1, evv_den ok.fits (GOk.none _) h1, evv_den ok.fits (GOk.none _) h2, evv_den ok.fits (GOk.none _) h3]
        simp only [Sem.run_bind, hr, Result.andThen_ok, Sem.run_pure, Oper.upon, hd, Act.put]
        have hother : ∀ q, q ≠ b → (w.heap.setIfInBounds b (.map (mList (putM ms e) 0).toArray (putM ms e).length))[q]? = w.heap[q]? := fun q hq => Array.getElem?_setIfInBounds_ne (Ne.symm hq)
        have hmv := ok.mv
        refine h { w with heap := w.heap.setIfInBounds b (.map (mList (putM ms e) 0).toArray (putM ms e).length) } (Av A ρ) ⟨g1, g2, g3, by simp [hlt]⟩ ?_ _ _ ?_
        · exact {
            size := by have := ok.size; simpa using this
            same := fun q hq hn => by
              show (w.heap.setIfInBounds b _)[q]? = _
              rw [hother q (fun e => hn (.inr e))]
              exact ok.same q hq (fun hh => hn (.inl hh))
            sub := fun q hq hl => hq.elim (fun hh => ok.loc q hh hl) (fun e => e ▸ hm.2.2.1)
            dn := fun q hq hh => hmv.dn q hq hh
            up := fun q hq hh hn => hmv.up q hq hh (fun hl => hn (.inl hl))
            bdd := fun q hq => by have := hmv.bdd q hq; simpa using this }
        · exact {
            fits := ok.fits
            locs := ⟨ok.locs.len, ok.locs.nodup, fun i' L hi' => by
              have hmem : ρ.getD i' 0 ∈ ρ := by
                have : i' < ρ.length := by rw [ok.locs.len]; exact (List.getElem?_eq_some_iff.1 hi').1
                simp [List.getD, List.getElem?_eq_getElem this]
              show (w.heap.setIfInBounds b _)[_]? = _
              rw [hother _ (fun e => g2 (e ▸ hmem))]
              exact ok.locs.row hi'⟩
            sn := { os := ok.sn.os, tape := ok.sn.tape, output := ok.sn.output, drawn := ok.sn.drawn, size := by have := ok.sn.size; simpa using this
                    same := fun q hq hM => by
                      show (w.heap.setIfInBounds b _)[q]? = _
                      rw [hother q (fun e => by omega)]
                      exact ok.sn.same q hq hM }
            size := Nat.le_refl _
            same := fun _ _ _ => rfl
            loc := fun q hq _ => .inr hq
            bdd := fun q hq => by have := hmv.bdd q hq; simpa using this
            fresh := ok.fresh
            sub := fun q hq => .inl (ok.sub q hq)
            big := by have := ok.sn.size; simpa using this
            acb := ok.acb }
      · cases hx
    · cases hx
  · cases hx
end
end Go.Proofs.Ytkgokehkobifkaa.J

/- Blocks of the walk's own that are no cells: maps and iterators over them. -/
namespace Go.Proofs.Ytkgokehkobifkaa.J
open Go Go.RowKit

/-- A block of the walk's own, whatever it holds. -/
def OwnO (N : Nat) (ρ : List Nat) (A : Nat → Prop) (w : World) (b : Nat) (o : Obj) : Prop := N ≤ b ∧ b ∉ ρ ∧ A b ∧ w.heap[b]? = some o
theorem OwnO.lt {N : Nat} {ρ : List Nat} {A : Nat → Prop} {w : World} {b : Nat} {o : Obj} (h : OwnO N ρ A w b o) : b < w.heap.size := (Array.getElem?_eq_some_iff.1 h.2.2.2).1
theorem OwnO.mvX {X : Nat → Prop} {N : Nat} {ρ : List Nat} {A A1 : Nat → Prop} {w w1 : World} {b : Nat} {o : Obj} (h : OwnO N ρ A w b o) (m : Mv X A A1 w w1) (hX : ¬ X b) : OwnO N ρ A1 w1 b o :=
  ⟨h.1, h.2.1, m.up b h.lt h.2.2.1 hX, by rw [m.same b h.lt hX]; exact h.2.2.2⟩
theorem OwnO.mv {N : Nat} {ρ : List Nat} {A A1 : Nat → Prop} {w w1 : World} {b : Nat} {o : Obj} (h : OwnO N ρ A w b o) (m : Mv (Lb ρ) A A1 w w1) : OwnO N ρ A1 w1 b o := h.mvX m h.2.1
theorem OwnO.more {N : Nat} {ρ : List Nat} {A : Nat → Prop} {w : World} {b : Nat} {o : Obj} (h : OwnO N ρ A w b o) {c : Nat} (hc : w.heap.size ≤ c) : OwnO N (ρ ++ [c]) A w b o :=
  ⟨h.1, fun hm => by rcases List.mem_append.1 hm with h' | h'
                     · exact h.2.1 h'
                     · have := h.lt; simp at h'; omega, h.2.2⟩
theorem OwnO.fewer {N : Nat} {ρ ρ' : List Nat} {A : Nat → Prop} {w : World} {b : Nat} {o : Obj} (h : OwnO N ρ A w b o) (hs : ∀ x, x ∈ ρ' → x ∈ ρ) : OwnO N ρ' A w b o := ⟨h.1, fun hm => h.2.1 (hs _ hm), h.2.2⟩

theorem set_same {h : Array Obj} {b : Nat} {o : Obj} (hb : h[b]? = some o) : h.setIfInBounds b o = h := by
  obtain ⟨hlt, he⟩ := Array.getElem?_eq_some_iff.1 hb
  apply Array.ext_getElem?
  intro i
  rw [Array.getElem?_setIfInBounds]
  by_cases hi : b = i
  · subst hi; rw [if_pos rfl, if_pos hlt]; exact hb.symm
  · rw [if_neg hi]

/-- The world with one block turned, and the tape asked. -/
def setW (w : World) (b : Nat) (o : Obj) (q : Nat) : World := { w with heap := w.heap.setIfInBounds b o, drawn := w.drawn + q }
theorem setW_same {w : World} {b : Nat} {o : Obj} (hb : w.heap[b]? = some o) : setW w b o 0 = w := by
  unfold setW; rw [set_same hb]; cases w; rfl

section
variable {P : Program} {B : Code} {Q : Exit → Act → World → Prop} {n : Nat} {W : World} {Ac M A : Nat → Prop} {s : SS} {ρ : List Nat} {w0 : World} {r t : List It} {k j : Nat}

/-- A new block that is no cells. -/
theorem J.allocO {o : Oper} {d : Nat} {ob : Obj} {v : Nat → Value} (ho : nowOp B s.env k j = some o) (hd : o.dst = some d) (hdn : d < n)
    (hr : ∀ a w, Ok n W Ac M s ρ A w0 a w → (execOp a.eval o).run P w = .ok (.value (v w.heap.size)) (w.alloc ob))
    (h : ∀ b w' A', OwnO W.heap.size ρ A' w' b ob → w0.heap.size ≤ b → Mv (Lb ρ) A A' w0 w' → J P B Q n W Ac M (.o k (j + 1) :: r) ⟨put s.env d (.v (v b)), s.mem⟩ ρ A' w') : J P B Q n W Ac M (.o k j :: r) s ρ A w0 := by
  refine J.op ho fun a w ok => ?_
  unfold Oper.wp
  rw [hr a w ok]
  simp only [Oper.upon, hd]
  have hold : ∀ k, k < w.heap.size → (w.alloc ob).heap[k]? = w.heap[k]? := fun k hk => Below.heap_alloc w _ k hk
  have hmv := ok.mv
  refine h w.heap.size (w.alloc ob) (fun k => Av A ρ k ∨ k = w.heap.size) ⟨ok.sn.size, fun hh => by have := ok.locs.lt hh; omega, .inr rfl, heap_alloc_new w _⟩ ok.size ?_ _ _ ?_
  · exact {
      size := by have := ok.size; simp; omega
      same := fun k hk hn => by
        rw [hold k (Nat.lt_of_lt_of_le hk ok.size)]
        exact ok.same k hk hn
      sub := fun k hk hl => ok.loc k hk hl
      dn := fun k hk hh => by
        rcases hh with hh | hh
        · exact hmv.dn k hk hh
        · have := ok.size; omega
      up := fun k hk hh hn => .inl (hmv.up k hk hh hn)
      bdd := fun k hk => by
        rcases hk with hh | hh
        · have := hmv.bdd k hh; simp; omega
        · subst hh; simp }
  · refine Ok.put (s := s) (x := .v (v w.heap.size)) ?_ hdn (plain_grd rfl) rfl
    exact {
      fits := ok.fits
      locs := ⟨ok.locs.len, ok.locs.nodup, fun i' L hi' => by
        have hm : ρ.getD i' 0 ∈ ρ := by
          have : i' < ρ.length := by rw [ok.locs.len]; exact (List.getElem?_eq_some_iff.1 hi').1
          simp [List.getD, List.getElem?_eq_getElem this]
        rw [hold _ (ok.locs.lt hm)]
        exact ok.locs.row hi'⟩
      sn := { os := ok.sn.os, tape := ok.sn.tape, output := ok.sn.output, drawn := ok.sn.drawn, size := by have := ok.sn.size; simp; omega
              same := fun k hk hM => by
                rw [hold k (Nat.lt_of_lt_of_le hk ok.sn.size)]
                exact ok.sn.same k hk hM }
      size := Nat.le_refl _
      same := fun _ _ _ => rfl
      loc := fun k hk _ => .inl (.inr hk)
      bdd := fun k hk => by
        rcases hk with hh | hh
        · have := hmv.bdd k hh; simp; omega
        · subst hh; simp
      fresh := ok.fresh
      sub := fun k hk => .inl (.inl (ok.sub k hk))
      big := by have := ok.sn.size; simp; omega
      acb := ok.acb }

/-- What turning one block of the walk's own comes to. -/
theorem Ok.setO {a : Act} {w : World} (ok : Ok n W Ac M s ρ A w0 a w) {b : Nat} {ob : Obj} (hb : OwnO W.heap.size ρ A w0 b ob) (ob' : Obj) (q : Nat) :
    OwnO W.heap.size ρ (Av A ρ) (setW w b ob' q) b ob' ∧ Mv (fun k => Lb ρ k ∨ k = b) A (Av A ρ) w0 (setW w b ob' q) ∧ Ok n W Ac M s ρ (Av A ρ) (setW w b ob' q) a (setW w b ob' q) := by
  have hmw := hb.mv ok.mv
  have hlt := hmw.lt
  have hother : ∀ k, k ≠ b → (setW w b ob' q).heap[k]? = w.heap[k]? := fun k hk => Array.getElem?_setIfInBounds_ne (Ne.symm hk)
  have hsz : (setW w b ob' q).heap.size = w.heap.size := by simp [setW]
  have hmv := ok.mv
  refine ⟨⟨hmw.1, hmw.2.1, hmw.2.2.1, by simp [setW, hlt]⟩, ?_, ?_⟩
  · exact {
      size := by rw [hsz]; exact ok.size
      same := fun k hk hn => by
        rw [hother k (fun e => hn (.inr e))]
        exact ok.same k hk (fun hh => hn (.inl hh))
      sub := fun k hk hl => hk.elim (fun hh => ok.loc k hh hl) (fun e => e ▸ hb.2.2.1)
      dn := fun k hk hh => hmv.dn k hk hh
      up := fun k hk hh hn => hmv.up k hk hh (fun hl => hn (.inl hl))
      bdd := fun k hk => by rw [hsz]; exact hmv.bdd k hk }
  · exact {
      fits := ok.fits
      locs := ⟨ok.locs.len, ok.locs.nodup, fun i' L hi' => by
        have hmem : ρ.getD i' 0 ∈ ρ := by
          have : i' < ρ.length := by rw [ok.locs.len]; exact (List.getElem?_eq_some_iff.1 hi').1
          simp [List.getD, List.getElem?_eq_getElem this]
        rw [hother _ (fun e => hb.2.1 (e ▸ hmem))]
        exact ok.locs.row hi'⟩
      sn := { os := ok.sn.os, tape := ok.sn.tape, output := ok.sn.output, drawn := Nat.le_trans ok.sn.drawn (Nat.le_add_right _ _), size := by rw [hsz]; exact ok.sn.size
              same := fun k hk hM => by
                rw [hother k (fun e => by have := hb.1; omega)]
                exact ok.sn.same k hk hM }
      size := Nat.le_refl _
      same := fun _ _ _ => rfl
      loc := fun k hk _ => .inr hk
      bdd := fun k hk => by rw [hsz]; exact hmv.bdd k hk
      fresh := ok.fresh
      sub := fun k hk => .inl (ok.sub k hk)
      big := by rw [hsz]; exact ok.sn.size
      acb := ok.acb }

/-- An operation that yields a value and may turn one block of the walk's own. -/
theorem J.setO {o : Oper} {d b : Nat} {ob : Obj} {Φ : Value → Obj → Prop} (ho : nowOp B s.env k j = some o) (hd : o.dst = some d) (hdn : d < n) (hb : OwnO W.heap.size ρ A w0 b ob)
    (hr : ∀ a w, Ok n W Ac M s ρ A w0 a w → ∃ v ob' q, (execOp a.eval o).run P w = .ok (.value v) (setW w b ob' q) ∧ Φ v ob')
    (h : ∀ v ob' w' A', Φ v ob' → OwnO W.heap.size ρ A' w' b ob' → Mv (fun k => Lb ρ k ∨ k = b) A A' w0 w' → J P B Q n W Ac M (.o k (j + 1) :: r) ⟨put s.env d (.v v), s.mem⟩ ρ A' w') : J P B Q n W Ac M (.o k j :: r) s ρ A w0 := by
  refine J.op ho fun a w ok => ?_
  unfold Oper.wp
  obtain ⟨v, ob', q, hrun, hΦ⟩ := hr a w ok
  rw [hrun]
  simp only [Oper.upon, hd]
  obtain ⟨h1, h2, h3⟩ := ok.setO hb ob' q
  exact h v ob' _ _ hΦ h1 h2 _ _ (Ok.put (s := s) (x := .v v) h3 hdn (plain_grd rfl) rfl)

/-- 'make' of a map. -/
def mmOf (B : Code) (e : Env) (n k j : Nat) : Option (TypeId × Nat) :=
  match nowOp B e k j with
  | some o => match o.dst, o.op with
    | some d, .makeMap T none => bif Nat.blt d n then some (T, d) else none
    | _, _ => none
  | none => none

theorem J.makeMap {T : TypeId} {d : Nat} (hx : mmOf B s.env n k j = some (T, d))
    (h : ∀ b w' A', MapAt W.heap.size ρ A' w' b [] → w0.heap.size ≤ b → Mv (Lb ρ) A A' w0 w' → J P B Q n W Ac M (.o k (j + 1) :: r) ⟨put s.env d (.v (.map (some b))), s.mem⟩ ρ A' w') : J P B Q n W Ac M (.o k j :: r) s ρ A w0 := by
  unfold mmOf at hx
  split at hx
  · rename_i o ho
    split at hx
    · rename_i d' T' hd hop
      obtain ⟨hdn, hx⟩ := bif_some hx
      cases hx
      refine J.allocO (v := fun b => .map (some b)) (ob := .map #[] 0) ho hd (blt_iff.1 hdn) (fun a w ok => ?_) h
      unfold execOp; rw [hop]
      simp [Instr.makeMap, newObj, Result.andThen, Sem.run_bind, Sem.run_pure]
      rfl
    · cases hx
  · cases hx

/-- An iterator over a map. -/
def rgOf (B : Code) (e : Env) (ρ : List Nat) (n k j : Nat) : Option (TypeId × Nat × Nat) :=
  match nowOp B e k j with
  | some o => match o.dst, o.op with
    | some d, .range T x => bif Nat.blt d n then (match evv e ρ none x with
      | some (.map (some b)) => some (T, b, d)
      | _ => none) else none
    | _, _ => none
  | none => none

theorem J.range {T kt et : TypeId} {b d : Nat} {ms : List Ent} (hx : rgOf B s.env ρ n k j = some (T, b, d)) (ht : P.underlying T = some (.map kt et)) (hm : MapAt W.heap.size ρ A w0 b ms)
    (h : ∀ i w' A', OwnO W.heap.size ρ A' w' i (.mapIter (some b) ms.length #[] ms.length) → w0.heap.size ≤ i → Mv (Lb ρ) A A' w0 w' → J P B Q n W Ac M (.o k (j + 1) :: r) ⟨put s.env d (.v (.pointer (some ⟨i, 0, none⟩))), s.mem⟩ ρ A' w') : J P B Q n W Ac M (.o k j :: r) s ρ A w0 := by
  unfold rgOf at hx
  split at hx
  · rename_i o ho
    split at hx
    · rename_i d' T' x hd hop
      obtain ⟨hdn, hx⟩ := bif_some hx
      split at hx
      · rename_i b' h1
        cases hx
        refine J.allocO (v := fun i => .pointer (some ⟨i, 0, none⟩)) (ob := .mapIter (some b) ms.length #[] ms.length) ho hd (blt_iff.1 hdn) (fun a w ok => ?_) h
        have e1 : execOp a.eval o = (do Pure.pure (.value (← Instr.range T (a.eval x)))) := by unfold execOp; rw [hop]
        rw [e1, evv_den ok.fits (GOk.none _) h1]
        simp only [Sem.run_bind, run_range_map w T kt et b _ ms.length ht (hm.mv ok.mv).2.2.2, Result.andThen_ok, Sem.run_pure]
      · cases hx
    · cases hx
  · cases hx

/-! ## the next one -/
theorem mList_mem {ms : List Ent} {i : Nat} {x : MapEntry} (h : x ∈ mList ms i) : ∃ j e, ms[j]? = some e ∧ x = mEnt e (i + j) := by
  obtain ⟨j, hj⟩ := List.mem_iff_getElem?.1 h
  rw [mList_get] at hj
  cases he : ms[j]? with
  | none => rw [he] at hj; cases hj
  | some e => rw [he] at hj; exact ⟨j, e, he, by cases hj; rfl⟩

def itOf (b c : Nat) (seen : List Nat) : Obj := .mapIter (some b) c seen.toArray c

/-- What a step of the iterator may come to. -/
def NextR (b : Nat) (ms : List Ent) (seen : List Nat) (v : Value) (ob : Obj) : Prop :=
  ((∀ j, j < ms.length → j ∈ seen) ∧ v = .tuple #[.bool false] ∧ ob = itOf b ms.length seen) ∨
  ∃ j e, ms[j]? = some e ∧ j ∉ seen ∧ v = .tuple #[.bool true, .string e.key, .agg (encE e).toArray] ∧ ob = itOf b ms.length (seen ++ [j])

theorem run_nextM {w : World} {r b : Nat} {ms : List Ent} {seen : List Nat} {T : TypeId} (hr : w.heap[r]? = some (itOf b ms.length seen)) (hb : w.heap[b]? = some (.map (mList ms 0).toArray ms.length)) :
    ∃ v ob q, (Instr.next (.pointer (some ⟨r, 0, none⟩)) false T).run P w = .ok v (setW w r ob q) ∧ NextR b ms seen v ob := by
  have hlt : r < w.heap.size := (Array.getElem?_eq_some_iff.1 hr).1
  have hborn : ∀ x ∈ mList ms 0, x.born < ms.length := fun x hx => by
    obtain ⟨j, e, hj, rfl⟩ := mList_mem hx
    have := (List.getElem?_eq_some_iff.1 hj).1
    simp only [mEnt]; omega
  have htest : (!seen.toArray.isEmpty && !(mList ms 0).toArray.isEmpty && (mList ms 0).toArray.all (fun x => decide (x.born ≥ ms.length))) = false :=
    next_test_false seen.toArray (mList ms 0).toArray ms.length ms.length (by simpa using hborn) (Nat.le_refl _)
  unfold itOf at hr
  simp only [Instr.next, getObj, Sem.run_bind, Sem.run, hr, hb, Result.andThen, htest, Bool.false_eq_true, if_false]
  have hmem : ∀ x ∈ (mList ms 0).toArray.filter (fun e => !seen.toArray.contains e.born), ∃ j e, ms[j]? = some e ∧ j ∉ seen ∧ x = mEnt e j := fun x hx => by
    obtain ⟨h1, h2⟩ := Array.mem_filter.1 hx
    obtain ⟨j, e, hj, rfl⟩ := mList_mem (i := 0) (by simpa using h1)
    refine ⟨j, e, hj, ?_, by simp⟩
    simp [mEnt] at h2
    exact h2
  have hnone : (mList ms 0).toArray.filter (fun e => !seen.toArray.contains e.born) = #[] → ∀ j, j < ms.length → j ∈ seen := fun h0 j hj => by
    refine Classical.byContradiction fun hns => ?_
    have : mEnt ms[j] j ∈ (mList ms 0).toArray.filter (fun e => !seen.toArray.contains e.born) := by
      refine Array.mem_filter.2 ⟨?_, by simp [mEnt, hns]⟩
      rw [List.mem_toArray, List.mem_iff_getElem?]
      exact ⟨j, by rw [mList_get, List.getElem?_eq_getElem hj]; simp⟩
    rw [h0] at this
    simp at this
  generalize Array.filter (fun e => !seen.toArray.contains e.born) (mList ms 0).toArray = L at hmem hnone ⊢
  have e1 : L.filter (fun x => decide (x.born < ms.length)) = L := Array.filter_eq_self.2 (fun x hx => by
    obtain ⟨j, e, hj, _, rfl⟩ := hmem x hx
    have := (List.getElem?_eq_some_iff.1 hj).1
    exact decide_eq_true this)
  have e2 : L.filter (fun x => decide (x.born ≥ ms.length)) = #[] := by
    rw [Array.filter_eq_empty_iff]
    intro x hx
    obtain ⟨j, e, hj, _, rfl⟩ := hmem x hx
    have := (List.getElem?_eq_some_iff.1 hj).1
    simp [mEnt]; omega
  simp only [e1, e2, Array.append_empty]
  by_cases h0 : L.size = 0
  · have hL : L = #[] := Array.eq_empty_of_size_eq_zero h0
    subst hL
    refine ⟨.tuple #[.bool false], itOf b ms.length seen, 0, ?_, .inl ⟨hnone rfl, rfl, rfl⟩⟩
    rw [setW_same (o := itOf b ms.length seen) hr]
    simp [choose, Sem.run, Question.forced]
  · have hne : L.isEmpty = false := by simp [Array.isEmpty, h0]
    simp only [hne, Bool.false_eq_true, if_false, Array.empty_append, Array.size_map]
    have hch : ∃ (j : Nat) (q : Nat), j < L.size ∧ (choose (Question.mapNext L.size)).run P w = .ok j { w with drawn := w.drawn + q } := by
      by_cases hf : L.size ≤ 1
      · exact ⟨0, 0, by omega, by simp [choose, Sem.run, Question.forced, hf]⟩
      · exact ⟨_, 1, Nat.mod_lt _ (by omega), by
          simp only [choose, Sem.run, Question.forced, decide_eq_true_eq, hf, if_false, Question.cut]
          rfl⟩
    obtain ⟨j, q, hj, hrun⟩ := hch
    obtain ⟨i, e, hi, hns, hLe⟩ := hmem L[j] (Array.getElem_mem hj)
    refine ⟨.tuple #[.bool true, .string e.key, .agg (encE e).toArray], itOf b ms.length (seen ++ [i]), q, ?_, .inr ⟨i, e, hi, hns, rfl, rfl⟩⟩
    simp only [hrun, Array.getElem?_map, Array.getElem?_eq_getElem hj, Option.map_some, Sem.run_bind, setObj, Sem.run, hr, Result.andThen, hLe, mEnt]
    simp [itOf, setW]

def nxOf (B : Code) (e : Env) (ρ : List Nat) (n k j : Nat) : Option (Nat × Nat) :=
  match nowOp B e k j with
  | some o => match o.dst, o.op with
    | some d, .next x false => bif Nat.blt d n then (match evv e ρ none x with
      | some (.pointer (some ⟨i, 0, none⟩)) => some (i, d)
      | _ => none) else none
    | _, _ => none
  | none => none

theorem J.next {b i d : Nat} {ms : List Ent} {seen : List Nat} (hx : nxOf B s.env ρ n k j = some (i, d)) (hm : MapAt W.heap.size ρ A w0 b ms) (hi : OwnO W.heap.size ρ A w0 i (itOf b ms.length seen))
    (h : ∀ v ob w' A', NextR b ms seen v ob → OwnO W.heap.size ρ A' w' i ob → MapAt W.heap.size ρ A' w' b ms → Mv (fun k => Lb ρ k ∨ k = i) A A' w0 w' → J P B Q n W Ac M (.o k (j + 1) :: r) ⟨put s.env d (.v v), s.mem⟩ ρ A' w') : J P B Q n W Ac M (.o k j :: r) s ρ A w0 := by
  have hne : b ≠ i := fun e => by
    subst e
    have := hm.2.2.2.symm.trans hi.2.2.2
    simp [itOf] at this
  unfold nxOf at hx
  split at hx
  · rename_i o ho
    split at hx
    · rename_i d' x hd hop
      obtain ⟨hdn, hx⟩ := bif_some hx
      split at hx
      · rename_i i' h1
        cases hx
        refine J.setO (Φ := NextR b ms seen) ho hd (blt_iff.1 hdn) hi (fun a w ok => ?_) (fun v ob w' A' hΦ ho' hM => h v ob w' A' hΦ ho' (OwnO.mvX (b := b) hm hM (fun hh => hh.elim hm.2.1 hne)) hM)
        have e1 : execOp a.eval o = (do Pure.pure (.value (← Instr.next (a.eval x) false o.type))) := by unfold execOp; rw [hop]
        obtain ⟨v, ob, q, hrun, hN⟩ := run_nextM (P := P) (T := o.type) (hi.mv ok.mv).2.2.2 (hm.mv ok.mv).2.2.2
        refine ⟨v, ob, q, ?_, hN⟩
        rw [e1, evv_den ok.fits (GOk.none _) h1]
        simp only [Sem.run_bind, hrun, Result.andThen_ok, Sem.run_pure]
      · cases hx
    · cases hx
  · cases hx

theorem mList_nodup : ∀ (ms : List Ent) (i : Nat), ((mList ms i).map (·.born)).Nodup
  | [], _ => List.nodup_nil
  | e :: r, i => by
    simp only [mList, List.map_cons, List.nodup_cons]
    refine ⟨fun h => ?_, mList_nodup r (i + 1)⟩
    obtain ⟨x, hx, he⟩ := List.mem_map.1 h
    obtain ⟨j, e', hj, rfl⟩ := mList_mem hx
    simp [mEnt] at he
    omega

theorem run_entryM {w : World} {r b i : Nat} {ms : List Ent} {seen : List Nat} {e : Ent} (hr : w.heap[r]? = some (itOf b ms.length (seen ++ [i]))) (hb : w.heap[b]? = some (.map (mList ms 0).toArray ms.length)) (hi : ms[i]? = some e) :
    (Instr.entry (.pointer (some ⟨r, 0, none⟩))).run P w = .ok (.tuple #[.string e.key, .agg (encE e).toArray]) w := by
  unfold itOf at hr
  have hf : (mList ms 0).toArray.find? (·.born == i) = some (mEnt e i) := by
    rw [← Array.find?_toList]
    have := find_born (mEnt e i) (mList ms 0) (mList_nodup ms 0) (List.mem_iff_getElem?.2 ⟨i, by rw [mList_get, hi]; simp⟩)
    simpa [mEnt] using this
  simp [Instr.entry, getObj, Sem.run_bind, Sem.run, hr, hb, Result.andThen, hf, mEnt]

def enOf (B : Code) (e : Env) (ρ : List Nat) (n k j : Nat) : Option (Nat × Nat) :=
  match nowOp B e k j with
  | some o => match o.dst, o.op with
    | some d, .entry x => bif Nat.blt d n then (match evv e ρ none x with
      | some (.pointer (some ⟨i, 0, none⟩)) => some (i, d)
      | _ => none) else none
    | _, _ => none
  | none => none

theorem J.entry {b i q d : Nat} {ms : List Ent} {seen : List Nat} {e : Ent} (hx : enOf B s.env ρ n k j = some (i, d)) (hm : MapAt W.heap.size ρ A w0 b ms) (hi : OwnO W.heap.size ρ A w0 i (itOf b ms.length (seen ++ [q]))) (hq : ms[q]? = some e)
    (h : J P B Q n W Ac M (.o k (j + 1) :: r) ⟨put s.env d (.v (.tuple #[.string e.key, .agg (encE e).toArray])), s.mem⟩ ρ A w0) : J P B Q n W Ac M (.o k j :: r) s ρ A w0 := by
  unfold enOf at hx
  split at hx
  · rename_i o ho
    split at hx
    · rename_i d' x hd hop
      obtain ⟨hdn, hx⟩ := bif_some hx
      split at hx
      · rename_i i' h1
        cases hx
        refine J.readG .text ho hd (blt_iff.1 hdn) (fun a w ok => ?_) h
        have e1 : execOp a.eval o = (do Pure.pure (.value (← Instr.entry (a.eval x)))) := by unfold execOp; rw [hop]
        rw [e1, evv_den ok.fits (GOk.none _) h1]
        simp only [Sem.run_bind, run_entryM (P := P) (hi.mv ok.mv).2.2.2 (hm.mv ok.mv).2.2.2 hq, Result.andThen_ok, Sem.run_pure]
      · cases hx
    · cases hx
  · cases hx
end
end Go.Proofs.Ytkgokehkobifkaa.J

/- Calls that write into blocks of the walk's own; the length of a map. -/
namespace Go.Proofs.Ytkgokehkobifkaa.J
open Go Go.RowKit

theorem Sn.weaken {M M' : Nat → Prop} {W w : World} (h : Sn M W w) (hM : ∀ k, M k → M' k) : Sn M' W w := { h with same := fun k hk hn => h.same k hk (fun hh => hn (hM k hh)) }

/-- What is known behind a call that may have written into the walk's own blocks X. -/
structure CgX (X : Nat → Prop) (W : World) (ρ : List Nat) (A A1 : Nat → Prop) (w0 w1 w2 : World) : Prop where
  mv : Mv (fun k => Lb ρ k ∨ X k) A A1 w0 w2
  bd : ∀ k, A1 k → k < w1.heap.size
  le : w0.heap.size ≤ w1.heap.size
  big : W.heap.size ≤ w1.heap.size
  rho : ∀ k, k ∈ ρ → k < w1.heap.size

section
variable {P : Program} {B : Code} {Q : Exit → Act → World → Prop} {n : Nat} {W : World} {Ac M A : Nat → Prop} {s : SS} {ρ : List Nat} {w0 : World} {r t : List It} {k j : Nat}

/-- The invariant behind a call that has written into our own blocks X alone. -/
theorem Ok.afterX {X : Nat → Prop} {a : Act} {w w2 : World} (ok : Ok n W Ac M s ρ A w0 a w) (hX : ∀ k, X k → k < w0.heap.size → (W.heap.size ≤ k ∨ M k) ∧ k ∉ ρ ∧ A k) (hXw : ∀ k, X k → k < w0.heap.size) (h : Sn X w w2) :
    Ok n W Ac M s ρ (Av A ρ) w2 a w2 ∧ Mv (fun k => Lb ρ k ∨ X k) A (Av A ρ) w0 w2 := by
  constructor
  · exact {
      fits := ok.fits
      locs := ⟨ok.locs.len, ok.locs.nodup, fun i L hi => by
        have hm : ρ.getD i 0 ∈ ρ := by
          have : i < ρ.length := by rw [ok.locs.len]; exact (List.getElem?_eq_some_iff.1 hi).1
          simp [List.getD, List.getElem?_eq_getElem this]
        rw [h.same _ (ok.locs.lt hm) (fun hx => (hX _ hx (hXw _ hx)).2.1 hm)]
        exact ok.locs.row hi⟩
      sn := { os := h.os.trans ok.sn.os, tape := h.tape.trans ok.sn.tape, output := h.output.trans ok.sn.output, drawn := Nat.le_trans ok.sn.drawn h.drawn, size := Nat.le_trans ok.sn.size h.size
              same := fun k hk hM => by rw [h.same k (Nat.lt_of_lt_of_le hk ok.sn.size) (fun hx => (hX k hx (hXw k hx)).1.elim (fun h => by omega) hM)]; exact ok.sn.same k hk hM }
      size := Nat.le_refl _
      same := fun _ _ _ => rfl
      loc := fun _ hk _ => .inr hk
      bdd := fun k hk => Nat.lt_of_lt_of_le (hk.elim (fun x => Nat.lt_of_lt_of_le (ok.bdd k x) ok.size) ok.locs.lt) h.size
      fresh := ok.fresh
      sub := fun k hk => .inl (ok.sub k hk)
      big := Nat.le_trans ok.sn.size h.size
      acb := ok.acb }
  · exact {
      size := Nat.le_trans ok.size h.size
      same := fun k hk hn => by
        rw [h.same k (Nat.lt_of_lt_of_le hk ok.size) (fun hx => hn (.inr hx))]
        exact ok.same k hk (fun hl => hn (.inl hl))
      sub := fun k hk hl => hk.elim (fun hh => ok.loc k hh hl) (fun hx => (hX k hx hl).2.2)
      dn := ok.mv.dn
      up := fun k hk hh hn => ok.mv.up k hk hh (fun hl => hn (.inl hl))
      bdd := fun k hk => Nat.lt_of_lt_of_le (ok.mv.bdd k hk) h.size }

theorem J.callXG {X : Nat → Prop} {S : World → Prop} {it it' : It} (hcur : IsCur k j S it it') (hX : ∀ k, X k → k < w0.heap.size → (W.heap.size ≤ k ∨ M k) ∧ k ∉ ρ ∧ A k) (hXw : ∀ k, X k → k < w0.heap.size) (hcl : ∀ w w', S w → Sn X w w' → S w')
    {g : FuncId} {args : List Value} {d : Option Nat} {R : World → (Nat → Prop) → Value → World → Prop} (hc : callOf P B s.env ρ n k j = some (g, args, d))
    (h : ∀ w1 A1, Mv (Lb ρ) A A1 w0 w1 → Locs s.mem ρ w1 → Calls P g args.toArray w1 (Ret X w1 (R w1 A1)))
    (hk : ∀ v w1 w2 A1, R w1 A1 v w2 → CgX X W ρ A A1 w0 w1 w2 → J P B Q n W Ac M (it' :: r) ⟨putO s.env d (.v v), s.mem⟩ ρ A1 w2) :
    J P B Q n W Ac M (it :: r) s ρ A w0 := by
  obtain ⟨o, ho, hd, hdn, hrun⟩ := callOf_spec hc
  refine J.act hcur ho fun a w ok hS => ?_
  unfold Oper.wp
  rw [hrun a w ok.fits]
  simp only [Oper.upon]
  refine (h w _ ok.mv ok.locs).mono ?_
  rintro e w2 ⟨v, rfl, hR, hs⟩
  simp only
  obtain ⟨hok, hmv⟩ := ok.afterX hX hXw hs
  refine ⟨hcl _ _ hS hs, hk v w w2 _ hR ⟨hmv, ok.mv.bdd, ok.size, ok.sn.size, fun k hk => ok.locs.lt hk⟩ _ _ ?_⟩
  rw [hd]
  cases d with
  | none => exact hok
  | some d => exact hok.put (x := .v v) (hdn d rfl) (plain_grd rfl) rfl

theorem J.callX {X : Nat → Prop} (hX : ∀ k, X k → k < w0.heap.size → (W.heap.size ≤ k ∨ M k) ∧ k ∉ ρ ∧ A k) (hXw : ∀ k, X k → k < w0.heap.size)
    {g : FuncId} {args : List Value} {d : Option Nat} {R : World → (Nat → Prop) → Value → World → Prop} (hc : callOf P B s.env ρ n k j = some (g, args, d))
    (h : ∀ w1 A1, Mv (Lb ρ) A A1 w0 w1 → Locs s.mem ρ w1 → Calls P g args.toArray w1 (Ret X w1 (R w1 A1)))
    (hk : ∀ v w1 w2 A1, R w1 A1 v w2 → CgX X W ρ A A1 w0 w1 w2 → J P B Q n W Ac M (.o k (j + 1) :: r) ⟨putO s.env d (.v v), s.mem⟩ ρ A1 w2) :
    J P B Q n W Ac M (.o k j :: r) s ρ A w0 := J.callXG .text hX hXw (fun _ _ _ _ => trivial) hc h hk

theorem J.callXq {X Y : Nat → Prop} {done : List Nat} {ws : World} (hX : ∀ k, X k → k < w0.heap.size → (W.heap.size ≤ k ∨ M k) ∧ k ∉ ρ ∧ A k) (hXw : ∀ k, X k → k < w0.heap.size) (hXY : ∀ k, X k → k < ws.heap.size → Y k)
    {g : FuncId} {args : List Value} {d : Option Nat} {R : World → (Nat → Prop) → Value → World → Prop} (hc : callOf P B s.env ρ n k j = some (g, args, d))
    (h : ∀ w1 A1, Mv (Lb ρ) A A1 w0 w1 → Locs s.mem ρ w1 → Calls P g args.toArray w1 (Ret X w1 (R w1 A1)))
    (hk : ∀ v w1 w2 A1, R w1 A1 v w2 → CgX X W ρ A A1 w0 w1 w2 → J P B Q n W Ac M (.p k (j :: done) (Snap ws Y) :: r) ⟨putO s.env d (.v v), s.mem⟩ ρ A1 w2) :
    J P B Q n W Ac M (.q k done j (Snap ws Y) :: r) s ρ A w0 :=
  J.callXG (.drawn done _) hX hXw (fun w w' hs h => ⟨Nat.le_trans hs.size h.size, fun k hk hn => by
    rw [h.same k (Nat.lt_of_lt_of_le hk hs.size) (fun hx => hn (hXY k hx hk))]
    exact hs.same k hk hn⟩) hc h hk

/-- The walk's own slice: its block. -/
theorem Nw.own_blk {N : Nat} {e : TypeId} {kk : Nat} {ρ : List Nat} {A : Nat → Prop} {w : World} {a : Option Addr} {n c : Nat} {xs : List Value} (h : Nw N e kk ρ A w a n c xs) : ∀ k, Eb a k → N ≤ k ∧ k ∉ ρ ∧ A k ∧ k < w.heap.size := by
  obtain ⟨_, ⟨rfl, _⟩ | ⟨g, cur, rfl, h1, h2, h3, h4, _⟩⟩ := h
  · rintro k ⟨x, hx, _⟩; cases hx
  · rintro k ⟨x, hx, he⟩
    cases hx; subst he
    exact ⟨h1, h2, h3, (Array.getElem?_eq_some_iff.1 h4).1⟩

/-- How many entries a map has. -/
def lmOf (B : Code) (e : Env) (ρ : List Nat) (n k j : Nat) : Option (TypeId × Nat × Nat) :=
  match nowOp B e k j with
  | some o => match o.dst, o.op with
    | some d, .call ⟨.builtin .len, args, tys⟩ => bif Nat.blt d n then (match args.toList, tys.toList with
      | [x], [T] => match evv e ρ none x with
        | some (.map (some b)) => some (T, b, d)
        | _ => none
      | _, _ => none) else none
    | _, _ => none
  | none => none

theorem J.lenM {T kt et : TypeId} {b d : Nat} {ms : List Ent} (hx : lmOf B s.env ρ n k j = some (T, b, d)) (ht : P.underlying T = some (.map kt et)) (hm : MapAt W.heap.size ρ A w0 b ms)
    (h : J P B Q n W Ac M (.o k (j + 1) :: r) ⟨put s.env d (.v (.int .i64 ((ms.length : Nat) : Int))), s.mem⟩ ρ A w0) : J P B Q n W Ac M (.o k j :: r) s ρ A w0 := by
  unfold lmOf at hx
  split at hx
  · rename_i o ho
    split at hx
    · rename_i d' args tys hd hop
      obtain ⟨hdn, hx⟩ := bif_some hx
      split at hx
      · rename_i y T' ha hty
        split at hx
        · rename_i b' h1
          cases hx
          have e1 : args = #[y] := Array.toList_inj.1 ha
          have e2 : tys = #[T] := Array.toList_inj.1 hty
          subst e1; subst e2
          refine J.readG .text ho hd (blt_iff.1 hdn) (fun a w ok => ?_) h
          have hg := MapKept.run_getObj_map (P := P) (hm.mv ok.mv).2.2.2
          unfold execOp
          simp [hop, resolve, invoke, builtin, Builtin.len_, Sem.run_bind, Sem.run_pure, Result.andThen_ok, evv_den ok.fits (GOk.none _) h1, run_underlying ht, hg, mList_len, goInt]
        · cases hx
      · cases hx
    · cases hx
  · cases hx
end
end Go.Proofs.Ytkgokehkobifkaa.J

/- slices.SortFunc at entries: out of the library's contract. -/
namespace Go.Proofs.Ytkgokehkobifkaa.J
open Go Go.RowKit

instance : Inhabited Ent := ⟨ent0⟩

theorem flatK_at (l : List Ent) (j : Nat) (hj : j < l.length * 4) : (l.flatMap encE)[j]? = some (Sort.flatK encE 4 l.toArray)[j]! := by
  have hi : j / 4 < l.length := by omega
  have h := flat_at (k := 4) (enc := encE) (l := l) (fun x _ => rfl) (j / 4) l[j / 4] (List.getElem?_eq_getElem hi) (j % 4) ((encE l[j / 4])[j % 4]'(by show j % 4 < 4; omega)) (List.getElem?_eq_getElem _)
  rw [show j / 4 * 4 + j % 4 = j by omega] at h
  rw [h, Sort.get_flatK _ _ _ _ (by simpa using hj)]
  congr 1
  rw [getElem!_pos l.toArray (j / 4) (by simpa using hi)]
  simp only [List.getElem_toArray]
  rw [getElem!_pos _ _ (by show j % 4 < 4; omega)]

theorem flatK_list (l : List Ent) : (Sort.flatK encE 4 l.toArray).toList = l.flatMap encE := by
  apply List.ext_getElem?
  intro j
  by_cases hj : j < l.length * 4
  · rw [flatK_at l j hj]
    have hs : j < (Sort.flatK encE 4 l.toArray).size := by simpa using hj
    rw [Array.getElem?_toList, Array.getElem?_eq_getElem hs, getElem!_pos _ j hs]
  · rw [List.getElem?_eq_none (by simp; omega), List.getElem?_eq_none (by rw [flat_len (k := 4) (fun _ _ => rfl)]; omega)]

theorem holds_of_row {W : World} {g : Nat} {cur : Array Value} {e : TypeId} {l : List Ent} (h : W.heap[g]? = some (.cells cur e (0, 0))) (ht : cur.toList.take (l.length * 4) = l.flatMap encE) :
    Sort.HoldsK encE 4 W g 0 l.toArray := by
  intro j hj
  have hj' : j < l.length * 4 := by simpa using hj
  have h1 := flatK_at l j hj'
  rw [← ht, List.getElem?_take, if_pos hj'] at h1
  constructor
  · show W.cell? _ = _
    simp only [World.cell?, h, Nat.zero_add, id]
    simpa using h1
  · simp [World.frozen?, h]

/-- What the sort's world holds. -/
theorem sortW {W : World} {g : Nat} {cur : Array Value} {e : TypeId} {l : List Ent} {c : Nat} (h : W.heap[g]? = some (.cells cur e (0, 0))) (hc : cur.size = c * 4) (hl : l.length ≤ c) (m : Nat) (os : Array Obj) :
    Sn (fun k => k = g) W (sortWorldK encE 4 W g 0 m l.toArray os) ∧ ∃ cur', (sortWorldK encE 4 W g 0 m l.toArray os).heap[g]? = some (.cells cur' e (0, 0)) ∧ cur'.size = c * 4 ∧ cur'.toList.take (l.length * 4) = l.flatMap encE := by
  have hlt : g < W.heap.size := (Array.getElem?_eq_some_iff.1 h).1
  have hh : ∀ k, k < W.heap.size → (sortWorldK encE 4 W g 0 m l.toArray os).heap[k]? = (W.heap.modify g (Sort.onCells (Sort.putCells id 0 (Sort.flatK encE 4 l.toArray))))[k]? := fun k hk => by
    show ((W.heap.modify g (Sort.onCells (Sort.putCells id 0 (Sort.flatK encE 4 l.toArray)))) ++ os)[k]? = _
    rw [Array.getElem?_append_left (by simpa using hk)]
  refine ⟨{ os := rfl, tape := rfl, output := rfl, drawn := Nat.le_add_right _ _, size := ?_, same := fun k hk hn => ?_ }, Sort.putCells id 0 (Sort.flatK encE 4 l.toArray) cur, ?_, ?_, ?_⟩
  · show _ ≤ ((W.heap.modify g _) ++ os).size
    simp
  · rw [hh k hk, Array.getElem?_modify, if_neg (fun e => hn e.symm)]
  · rw [hh g hlt, Array.getElem?_modify, if_pos rfl, h]
    rfl
  · simp [Sort.putCells, hc]
  · rw [← flatK_list]
    apply List.ext_getElem?
    intro j
    rw [List.getElem?_take]
    by_cases hj : j < l.length * 4
    · have hs : j < (Sort.flatK encE 4 l.toArray).size := by simpa using hj
      have hcj : j < cur.size := by rw [hc]; omega
      rw [if_pos hj, Array.getElem?_toList, Array.getElem?_toList, Sort.putCells, Array.getElem?_mapIdx, Array.getElem?_eq_getElem hcj, Option.map_some, if_pos ⟨Nat.zero_le _, by omega⟩, Array.getElem?_eq_getElem hs, Nat.sub_zero, getElem!_pos _ j hs]
      rfl
    · rw [if_neg hj, List.getElem?_eq_none (by simp; omega)]

theorem lt_ent (x y : Ent) : Go.Proofs.ltOf (fun x y : Ent => cmpS x.key y.key) x y = slt x.key y.key := by
  unfold Go.Proofs.ltOf
  rw [Bool.eq_iff_iff, decide_eq_true_iff, cmpS_lt]

theorem swo_ent : Sort.SWO (Go.Proofs.ltOf (fun x y : Ent => cmpS x.key y.key)) where
  irrefl x := by rw [lt_ent, slt_irrefl]
  trans x y z h1 h2 := by rw [lt_ent] at *; exact slt_trans h1 h2
  ntrans x y z h1 h2 := by
    rw [lt_ent] at *
    cases h : slt x.key z.key with
    | false => rfl
    | true =>
      rcases slt_tri x.key y.key with h3 | h3 | h3
      · rw [h3] at h1; cases h1
      · rw [h3] at h; rw [h] at h2; cases h2
      · rw [slt_trans h3 h] at h2; cases h2

/-- Not falling keys. -/
def UpL (l : List Ent) : Prop := ∀ (i j : Nat) (x y : Ent), i < j → l[i]? = some x → l[j]? = some y → slt y.key x.key = false

theorem perm_of_in {d d' : Array Ent} (h : Sort.PermIn 0 d.size d d') : d'.toList.Perm d.toList := by
  obtain ⟨h1, _, h2⟩ := h
  rw [Array.extract_eq_self_of_le (by omega), Array.extract_eq_self_of_le (by omega)] at h2
  exact h2

theorem up_of_in {d : Array Ent} (h : Sort.SortedIn (Go.Proofs.ltOf (fun x y : Ent => cmpS x.key y.key)) 0 d.size d) : UpL d.toList := by
  intro i j x y hij hx hy
  rw [Array.getElem?_toList] at hx hy
  obtain ⟨hi, rfl⟩ := Array.getElem?_eq_some_iff.1 hx
  obtain ⟨hj, rfl⟩ := Array.getElem?_eq_some_iff.1 hy
  have := h i j (Nat.zero_le _) hij hj
  rw [lt_ent, getElem!_pos d j hj, getElem!_pos d i hi] at this
  exact this

/-- Behind a call that has only made new blocks: the world has grown, the tape has been asked. -/
theorem Sn.grown {W w : World} (h : Sn nobody W w) : ∃ q os, w = Sort.grow (W.drewN q) os := by
  refine ⟨w.drawn - W.drawn, w.heap.extract W.heap.size w.heap.size, ?_⟩
  have h1 := h.os; have h2 := h.tape; have h3 := h.output; have h4 := h.drawn; have h5 := h.size; have h6 := h.same
  obtain ⟨hp, tp, dr, os, out⟩ := w
  obtain ⟨hp', tp', dr', os', out'⟩ := W
  simp only at h1 h2 h3 h4 h5 h6
  subst h1; subst h2; subst h3
  simp only [Sort.grow, World.drewN, World.mk.injEq, and_true, true_and]
  refine ⟨?_, by omega⟩
  apply Array.ext_getElem?
  intro i
  by_cases hi : i < hp'.size
  · rw [Array.getElem?_append_left hi]; exact h6 i hi (fun h => h)
  · rw [Array.getElem?_append_right (by omega), Array.getElem?_extract]
    by_cases h7 : i < hp.size
    · rw [if_pos (by omega)]
      congr 1; omega
    · rw [if_neg (by omega), Array.getElem?_eq_none (by omega)]

theorem cmp_lays (blk off size : Nat) (w : World) : CmpLays Pr 78 #[] encE 4 (fun x y : Ent => cmpS x.key y.key) blk off size w := by
  intro m os dk _ x y
  refine (byKey_calls x y nobody _ noA).mono ?_
  rintro e w' ⟨v, rfl, rfl, hs⟩
  exact ⟨rfl, hs.grown⟩

/-- What of ours turns when a slice is sorted in place. -/
theorem Nw.sorted {N N' : Nat} {e : TypeId} {kk : Nat} {ρ ρ' : List Nat} {A A' : Nat → Prop} {w w' : World} {g n c : Nat} {xs ys : List Value} {cur' : Array Value} (h : Nw N e kk ρ A w (some ⟨g, 0, none⟩) n c xs) (hrow : w'.heap[g]? = some (.cells cur' e (0, 0))) (hs : cur'.size = c * kk) (ht : cur'.toList.take (n * kk) = ys) (hl : ys.length = n * kk)
    (hN : N' ≤ g) (hρ : g ∉ ρ') (hA : A' g) : Nw N' e kk ρ' A' w' (some ⟨g, 0, none⟩) n c ys := by
  obtain ⟨h1, ⟨h2, _⟩ | ⟨g', cur, h2, h3, h4, h5, h6, h7, h8, h9, h10⟩⟩ := h
  · cases h2
  · cases h2
    exact ⟨hl, .inr ⟨g, cur', rfl, hN, hρ, hA, hrow, h7, h8, hs, ht⟩⟩
end Go.Proofs.Ytkgokehkobifkaa.J

/- Where slices.SortFunc at entries lies in this program: written by a program (laysort.py). -/
namespace Go.Proofs.Ytkgokehkobifkaa.J
open Go Go.RowKit Go.Shelf
def sortEnt_ren : Go.Shelf.Ren := ⟨fun | 6 => 77 | 15 => 100 | 14 => 99 | 28 => 123 | 29 => 124 | 20 => 115 | 21 => 116 | 22 => 117 | 23 => 118 | 24 => 119 | 25 => 120 | 26 => 121 | 27 => 122 | 46 => 129 | 47 => 130 | 48 => 131 | 49 => 132 | 50 => 133 | 57 => 135 | n => n, fun | 22 => 22 | 24 => 42 | 25 => 123 | 3 => 3 | 39 => 137 | 0 => 0 | 53 => 108 | 55 => 106 | 4 => 4 | 46 => 165 | 45 => 164 | 50 => 45 | 5 => 5 | 9 => 9 | 66 => 179 | 70 => 182 | 76 => 185 | 77 => 186 | n => n, fun | n => n⟩
theorem sortEnt : Go.Proofs.SlLaysF0.n6 Try.prog sortEnt_ren := {
  mixed := by kernel_rfl
  f6 := ⟨Try.f77.name, by decide, Try.func77.trans (congrArg some (by kernel_rfl))⟩
  f14 := ⟨Try.f99.name, by decide, Try.func99.trans (congrArg some (by kernel_rfl))⟩
  f15 := Try.func100.trans (congrArg some (by kernel_rfl))
  f20 := ⟨Try.f115.name, by decide, Try.func115.trans (congrArg some (by kernel_rfl))⟩
  f21 := ⟨Try.f116.name, by decide, Try.func116.trans (congrArg some (by kernel_rfl))⟩
  f22 := ⟨Try.f117.name, by decide, Try.func117.trans (congrArg some (by kernel_rfl))⟩
  f23 := ⟨Try.f118.name, by decide, Try.func118.trans (congrArg some (by kernel_rfl))⟩
  f24 := ⟨Try.f119.name, by decide, Try.func119.trans (congrArg some (by kernel_rfl))⟩
  f25 := ⟨Try.f120.name, by decide, Try.func120.trans (congrArg some (by kernel_rfl))⟩
  f26 := ⟨Try.f121.name, by decide, Try.func121.trans (congrArg some (by kernel_rfl))⟩
  f27 := ⟨Try.f122.name, by decide, Try.func122.trans (congrArg some (by kernel_rfl))⟩
  f28 := Try.func123.trans (congrArg some (by kernel_rfl))
  f29 := Try.func124.trans (congrArg some (by kernel_rfl))
  f46 := ⟨Try.f129.name, by decide, Try.func129.trans (congrArg some (by kernel_rfl))⟩
  f47 := Try.func130.trans (congrArg some (by kernel_rfl))
  f48 := Try.func131.trans (congrArg some (by kernel_rfl))
  f49 := ⟨Try.f132.name, by decide, Try.func132.trans (congrArg some (by kernel_rfl))⟩
  f50 := ⟨Try.f133.name, by decide, Try.func133.trans (congrArg some (by kernel_rfl))⟩
  f57 := ⟨Try.f135.name, by decide, Try.func135.trans (congrArg some (by kernel_rfl))⟩
  t0 := Try.underlying0
  a0 := Try.isAgg0
  z0 := Try.sizeOf0
  v0 := Try.zeroValue0
  t3 := Try.underlying3
  a3 := Try.isAgg3
  z3 := Try.sizeOf3
  v3 := Try.zeroValue3
  t4 := Try.underlying4
  a4 := Try.isAgg4
  z4 := Try.sizeOf4
  v4 := Try.zeroValue4
  t5 := Try.underlying5
  a5 := Try.isAgg5
  z5 := Try.sizeOf5
  v5 := Try.zeroValue5
  t9 := Try.underlying9
  a9 := Try.isAgg9
  z9 := Try.sizeOf9
  v9 := Try.zeroValue9
  t22 := Try.underlying22
  a22 := Try.isAgg22
  z22 := Try.sizeOf22
  v22 := Try.zeroValue22
  t25 := Try.underlying123
  a25 := Try.isAgg123
  z25 := Try.sizeOf123
  v25 := Try.zeroValue123
  t39 := Try.underlying137
  a39 := Try.isAgg137
  z39 := Try.sizeOf137
  v39 := Try.zeroValue137
  t45 := Try.underlying164
  a45 := Try.isAgg164
  z45 := Try.sizeOf164
  v45 := Try.zeroValue164
  t46 := Try.underlying165
  a46 := Try.isAgg165
  z46 := Try.sizeOf165
  v46 := Try.zeroValue165
  t50 := Try.underlying45
  a50 := Try.isAgg45
  z50 := Try.sizeOf45
  v50 := Try.zeroValue45
  t53 := Try.underlying108
  a53 := Try.isAgg108
  z53 := Try.sizeOf108
  v53 := Try.zeroValue108
  t55 := Try.underlying106
  a55 := Try.isAgg106
  z55 := Try.sizeOf106
  v55 := Try.zeroValue106
  t66 := Try.underlying179
  a66 := Try.isAgg179
  z66 := Try.sizeOf179
  v66 := Try.zeroValue179
  t70 := Try.underlying182
  a70 := Try.isAgg182
  z70 := Try.sizeOf182
  v70 := Try.zeroValue182
  t76 := Try.underlying185
  a76 := Try.isAgg185
  z76 := Try.sizeOf185
  v76 := Try.zeroValue185
  t77 := Try.underlying186
  a77 := Try.isAgg186
  z77 := Try.sizeOf186
  v77 := Try.zeroValue186 }
end Go.Proofs.Ytkgokehkobifkaa.J

/- slices.SortFunc over entries, by byKey. -/
namespace Go.Proofs.Ytkgokehkobifkaa.J
open Go Go.RowKit

theorem byKey_enters : ∀ args w, (callFunc 78 args).run Pr w = .ok (.enter 78 args) w :=
  enters_of Try.func78 (by kernel_rfl) rfl

theorem sort_calls (g n c : Nat) (l : List Ent) (hm : n ≤ 1000000) (N : Nat) (ρ : List Nat) (A : Nat → Prop) (W : World) (h : Nw N 42 4 ρ A W (some ⟨g, 0, none⟩) n c (l.flatMap encE)) :
    Calls Pr 77 #[.slice (some ⟨g, 0, none⟩) n c, .func (.func 78) #[] #[]] W
      (Ret (Eb (some ⟨g, 0, none⟩)) W fun v w => v = .tuple #[] ∧ ∃ l', l'.Perm l ∧ UpL l' ∧ Nw N 42 4 ρ A w (some ⟨g, 0, none⟩) n c (l'.flatMap encE)) := by
  have hN := h
  obtain ⟨h1, ⟨h2, _⟩ | ⟨g', cur, h2, h3, h4, h5, h6, h7, h8, h9, h10⟩⟩ := h
  · cases h2
  · cases h2
    have hn : n = l.length := flat_n h1 (fun _ _ => rfl) (by decide)
    subst hn
    have hlt : g < W.heap.size := (Array.getElem?_eq_some_iff.1 h6).1
    have hcon := AnyQ.slices_SortFunc (P := Pr) sortEnt 4 Try.isAgg42 Try.sizeOf42 encE (fun _ => rfl) (fun x v hv => encE_one x v hv) (fun x y : Ent => cmpS x.key y.key) swo_ent 78 #[] g 0 c l.toArray W byKey_enters (cmp_lays g 0 l.toArray.size W) (holds_of_row h6 h10) hlt (by simp only [List.size_toArray]; omega)
    refine Calls.mono hcon ?_
    rintro e w ⟨rfl, d', m, os, hp, hs, rfl⟩
    have hp' := perm_of_in hp
    have hsz : d'.size = l.length := by rw [hp.1]; simp
    have hs' := up_of_in (d := d') (by rw [show l.toArray.size = d'.size by rw [hsz]; simp] at hs; exact hs)
    obtain ⟨hsn, cur', hr, hc, ht⟩ := sortW (l := d'.toList) h6 h9 (by rw [Array.length_toList, hsz]; exact h7) m os
    rw [Array.length_toList, hsz] at ht
    simp only [Array.toArray_toList] at hsn hr
    refine ⟨_, rfl, ⟨rfl, d'.toList, by simpa using hp', hs', ?_⟩, hsn.weaken (fun k e => ⟨_, rfl, e.symm⟩)⟩
    exact Nw.sorted hN hr hc ht (by rw [flat_len (k := 4) (fun _ _ => rfl), Array.length_toList, hsz]) h3 h4 h5
end Go.Proofs.Ytkgokehkobifkaa.J

/- Package entry: Fold. -/
namespace Go.Proofs.Ytkgokehkobifkaa.J
open Go Go.RowKit

theorem posOf_some {q : Str} {ms : List Ent} {j : Nat} (h : posOf q ms = some j) : ∃ y, ms[j]? = some y ∧ y.key = q := by
  obtain ⟨h1, h2, _⟩ := List.findIdx?_eq_some_iff_getElem.1 h
  exact ⟨ms[j], List.getElem?_eq_getElem h1, seq_iff.1 h2⟩
theorem posOf_none {q : Str} {ms : List Ent} (h : posOf q ms = none) : ∀ y ∈ ms, y.key ≠ q := by
  intro y hy e
  unfold posOf at h
  rw [List.findIdx?_eq_none_iff] at h
  have := h y hy
  rw [e, seq_refl] at this; cases this

/-- What Fold's first loop makes of the entries so far and one more. -/
def newer (ms : List Ent) (e : Ent) : List Ent := match posOf e.key ms with
  | none => putM ms e
  | some j => match ms[j]? with
    | some y => if y.seq ≤ e.seq then putM ms e else ms
    | none => ms
def newF (l : List Ent) : List Ent := l.foldl newer []
theorem newF_snoc (l : List Ent) (e : Ent) : newF (l ++ [e]) = newer (newF l) e := by simp [newF]
theorem newF_next {l : List Ent} {i : Nat} {x : Ent} (h : l[i]? = some x) : newF (l.take (i + 1)) = newer (newF (l.take i)) x := by
  rw [take_snoc h, newF_snoc]
theorem newer_none {ms : List Ent} {e : Ent} (h : posOf e.key ms = none) : newer ms e = putM ms e := by simp [newer, h]
theorem newer_yes {ms : List Ent} {e y : Ent} {j : Nat} (h : posOf e.key ms = some j) (hy : ms[j]? = some y) (hs : y.seq ≤ e.seq) : newer ms e = putM ms e := by simp [newer, h, hy, hs]
theorem newer_no {ms : List Ent} {e y : Ent} {j : Nat} (h : posOf e.key ms = some j) (hy : ms[j]? = some y) (hs : ¬ y.seq ≤ e.seq) : newer ms e = ms := by simp [newer, h, hy, hs]
theorem putM_len (ms : List Ent) (e : Ent) : (putM ms e).length ≤ ms.length + 1 := by
  unfold putM
  split <;> simp
theorem newer_len (ms : List Ent) (e : Ent) : (newer ms e).length ≤ ms.length + 1 := by
  unfold newer
  have := putM_len ms e
  split
  · exact this
  · split
    · split
      · exact this
      · omega
    · omega
theorem foldl_newer_len : ∀ (l ms : List Ent), (l.foldl newer ms).length ≤ ms.length + l.length
  | [], ms => Nat.le_refl _
  | e :: r, ms => by
    have h1 := foldl_newer_len r (newer ms e)
    have h2 := newer_len ms e
    simp only [List.foldl_cons, List.length_cons]; omega
theorem newF_len (l : List Ent) : (newF l).length ≤ l.length := by simpa [newF] using foldl_newer_len l []

/-! ## the sorted list -/
def insE (e : Ent) : List Ent → List Ent
  | [] => [e]
  | x :: r => if slt x.key e.key = true then x :: insE e r else e :: x :: r
def sortE : List Ent → List Ent
  | [] => []
  | e :: r => insE e (sortE r)
theorem insE_perm (e : Ent) : ∀ l : List Ent, (insE e l).Perm (e :: l)
  | [] => List.Perm.refl _
  | x :: r => by
    unfold insE
    split
    · exact (List.Perm.cons x (insE_perm e r)).trans (List.Perm.swap e x r)
    · exact List.Perm.refl _
theorem sortE_perm : ∀ l : List Ent, (sortE l).Perm l
  | [] => List.Perm.refl _
  | e :: r => (insE_perm e (sortE r)).trans (List.Perm.cons e (sortE_perm r))

/-- Each key once. -/
def Keys1 (l : List Ent) : Prop := (l.map (·.key)).Nodup
theorem SortedL.rel : ∀ {l : List Ent}, SortedL l → l.Pairwise fun a b => slt a.key b.key = true
  | [], _ => List.Pairwise.nil
  | [x], _ => List.pairwise_singleton _ _
  | x :: y :: r, h => by
    have ih := SortedL.rel h.2
    refine List.Pairwise.cons ?_ ih
    intro z hz
    rcases List.mem_cons.1 hz with rfl | hz
    · exact h.1
    · exact slt_trans h.1 ((List.pairwise_cons.1 ih).1 z hz)
theorem SortedL.of_rel : ∀ {l : List Ent}, (l.Pairwise fun a b => slt a.key b.key = true) → SortedL l
  | [], _ => trivial
  | [_], _ => trivial
  | x :: y :: r, h => ⟨(List.pairwise_cons.1 h).1 y List.mem_cons_self, SortedL.of_rel (List.pairwise_cons.1 h).2⟩
theorem SortedL.tail {x : Ent} {l : List Ent} (h : SortedL (x :: l)) : SortedL l := SortedL.of_rel (List.pairwise_cons.1 h.rel).2
theorem sorted_perm : ∀ {a b : List Ent}, SortedL a → SortedL b → a.Perm b → a = b
  | [], b, _, _, h => h.symm.eq_nil.symm
  | x :: r, [], _, _, h => by have := h.length_eq; simp at this
  | x :: r, y :: t, ha, hb, h => by
    have pa := List.pairwise_cons.1 ha.rel
    have pb := List.pairwise_cons.1 hb.rel
    have hxy : x = y := by
      have hx : x ∈ y :: t := h.mem_iff.1 List.mem_cons_self
      have hy : y ∈ x :: r := h.mem_iff.2 List.mem_cons_self
      rcases List.mem_cons.1 hx with e | hx
      · exact e
      · rcases List.mem_cons.1 hy with e | hy
        · exact e.symm
        · have h1 := pa.1 y hy
          have h2 := pb.1 x hx
          rw [slt_asymm h1] at h2; cases h2
    subst hxy
    rw [sorted_perm (a := r) (b := t) ha.tail hb.tail (h.cons_inv)]

theorem up_sorted {l : List Ent} (hk : Keys1 l) (hu : UpL l) : SortedL l := by
  rw [sorted_iff]
  intro i a b ha hb
  have h1 := hu i (i + 1) a b (by omega) ha hb
  rcases slt_tri a.key b.key with h | h | h
  · exact h
  · have hl := (List.getElem?_eq_some_iff.1 hb).1
    have := (List.pairwise_iff_getElem.1 (List.nodup_iff_pairwise_ne.1 hk)) i (i + 1) (by simp; omega) (by simpa using hl) (by omega)
    rw [List.getElem_map, List.getElem_map] at this
    obtain ⟨_, rfl⟩ := List.getElem?_eq_some_iff.1 ha
    obtain ⟨_, rfl⟩ := List.getElem?_eq_some_iff.1 hb
    exact absurd h this
  · rw [h] at h1; cases h1
theorem insE_sorted (e : Ent) : ∀ {l : List Ent}, SortedL l → (∀ x ∈ l, x.key ≠ e.key) → SortedL (insE e l)
  | [], _, _ => trivial
  | x :: r, h, hk => by
    unfold insE
    split
    · rename_i hx
      have ih := insE_sorted e h.tail (fun y hy => hk y (List.mem_cons_of_mem _ hy))
      refine SortedL.of_rel (List.Pairwise.cons ?_ ih.rel)
      intro z hz
      rcases List.mem_cons.1 ((insE_perm e r).mem_iff.1 hz) with rfl | hz
      · exact hx
      · exact (List.pairwise_cons.1 h.rel).1 z hz
    · rename_i hx
      refine ⟨?_, h⟩
      rcases slt_tri x.key e.key with h1 | h1 | h1
      · exact absurd h1 hx
      · exact absurd h1 (hk x List.mem_cons_self)
      · exact h1
theorem sortE_sorted : ∀ {l : List Ent}, Keys1 l → SortedL (sortE l)
  | [], _ => trivial
  | e :: r, h => by
    have h' := List.nodup_cons.1 (show (e.key :: r.map (·.key)).Nodup from h)
    refine insE_sorted e (sortE_sorted h'.2) fun x hx he => ?_
    exact h'.1 (he ▸ List.mem_map.2 ⟨x, (sortE_perm r).mem_iff.1 hx, rfl⟩)

theorem putM_keys {ms : List Ent} {e : Ent} (h : Keys1 ms) : Keys1 (putM ms e) := by
  unfold putM
  split
  · rename_i j hj
    obtain ⟨y, hy, hk⟩ := posOf_some hj
    have : (ms.set j e).map (·.key) = ms.map (·.key) := by
      rw [List.map_set]
      apply List.ext_getElem?
      intro i
      by_cases hi : j = i
      · subst hi
        have hl := (List.getElem?_eq_some_iff.1 hy).1
        rw [List.getElem?_set_self (by simpa using hl), List.getElem?_map, hy]
        simp [hk]
      · rw [List.getElem?_set_ne hi]
    unfold Keys1
    rw [this]; exact h
  · rename_i hn
    have := posOf_none hn
    unfold Keys1
    rw [List.map_append, List.nodup_append]
    refine ⟨h, by simp, ?_⟩
    intro a ha b hb e'
    simp at hb
    obtain ⟨y, hy, rfl⟩ := List.mem_map.1 ha
    exact this y hy (e'.trans hb)
theorem newer_keys {ms : List Ent} {e : Ent} (h : Keys1 ms) : Keys1 (newer ms e) := by
  unfold newer
  split
  · exact putM_keys h
  · split
    · split
      · exact putM_keys h
      · exact h
    · exact h
theorem foldl_newer_keys : ∀ (l ms : List Ent), Keys1 ms → Keys1 (l.foldl newer ms)
  | [], _, h => h
  | _ :: r, _, h => foldl_newer_keys r _ (newer_keys h)
theorem newF_keys (l : List Ent) : Keys1 (newF l) := foldl_newer_keys l [] List.nodup_nil

/-- What Fold answers. -/
def foldF (l : List Ent) : List Ent := sortE (newF l)
theorem foldF_sorted (l : List Ent) : SortedL (foldF l) := sortE_sorted (newF_keys l)
theorem foldF_perm (l : List Ent) : (foldF l).Perm (newF l) := sortE_perm _
theorem foldF_len (l : List Ent) : (foldF l).length ≤ l.length := by
  rw [(foldF_perm l).length_eq]; exact newF_len l
theorem foldF_eq {l o s : List Ent} (h1 : o.Perm (newF l)) (h2 : s.Perm o) (h3 : UpL s) : s = foldF l := by
  have hp := h2.trans h1
  have hk : Keys1 s := by
    have := newF_keys l
    unfold Keys1 at *
    exact (hp.map (·.key)).nodup_iff.2 this
  exact sorted_perm (up_sorted hk h3) (foldF_sorted l) (hp.trans (foldF_perm l).symm)

/-! ## what the iterator has not handed out -/
def unseen (n : Nat) (seen : List Nat) : List Nat := (List.range n).filter fun j => !seen.contains j
theorem filter_one : ∀ {r seen : List Nat} {j : Nat}, r.Nodup → j ∈ r → j ∉ seen → (r.filter fun i => !seen.contains i).Perm (j :: r.filter fun i => !(seen ++ [j]).contains i)
  | x :: r, seen, j, hn, hj, hs => by
    have hn' := List.nodup_cons.1 hn
    by_cases hx : x = j
    · subst hx
      have e1 : (!seen.contains x) = true := by simp [hs]
      have e2 : (!(seen ++ [x]).contains x) = false := by simp
      rw [List.filter_cons, if_pos e1, List.filter_cons, if_neg (by rw [e2]; decide)]
      refine List.Perm.cons x ?_
      have : (r.filter fun i => !seen.contains i) = r.filter fun i => !(seen ++ [x]).contains i := by
        apply List.filter_congr
        intro y hy
        have hne : y ≠ x := fun e => hn'.1 (e ▸ hy)
        simp [hne]
      rw [this]
    · have hj' : j ∈ r := (List.mem_cons.1 hj).resolve_left (fun e => hx e.symm)
      have ih := filter_one hn'.2 hj' hs
      have e3 : (!(seen ++ [j]).contains x) = !seen.contains x := by simp [hx]
      rw [List.filter_cons, List.filter_cons, e3]
      split
      · exact (List.Perm.cons x ih).trans (List.Perm.swap j x _)
      · exact ih
theorem unseen_step {n : Nat} {seen : List Nat} {j : Nat} (hj : j < n) (hs : j ∉ seen) : (unseen n seen).Perm (j :: unseen n (seen ++ [j])) :=
  filter_one List.nodup_range (List.mem_range.2 hj) hs
theorem unseen_nil {n : Nat} {seen : List Nat} (h : ∀ j, j < n → j ∈ seen) : unseen n seen = [] := by
  unfold unseen
  rw [List.filter_eq_nil_iff]
  intro j hj
  have := h j (List.mem_range.1 hj)
  simp [this]
def restM (ms : List Ent) (seen : List Nat) : List Ent := (unseen ms.length seen).map fun j => ms.getD j ent0
theorem rest_start (ms : List Ent) : restM ms [] = ms := by
  unfold restM unseen
  apply List.ext_getElem?
  intro i
  rw [List.filter_eq_self.2 (by simp), List.getElem?_map]
  by_cases hi : i < ms.length
  · rw [List.getElem?_range hi]; simp [hi]
  · rw [List.getElem?_eq_none (by simpa using hi), List.getElem?_eq_none (by simpa using hi)]; rfl
theorem rest_step {ms outs : List Ent} {seen : List Nat} {j : Nat} {e : Ent} (hp : (outs ++ restM ms seen).Perm ms) (hj : ms[j]? = some e) (hs : j ∉ seen) : ((outs ++ [e]) ++ restM ms (seen ++ [j])).Perm ms := by
  refine List.Perm.trans ?_ hp
  have h1 := (unseen_step (List.getElem?_eq_some_iff.1 hj).1 hs).map fun j => ms.getD j ent0
  have h2 : ms.getD j ent0 = e := by simp [List.getD, hj]
  rw [List.map_cons, h2] at h1
  rw [List.append_assoc]
  exact List.Perm.append_left outs h1.symm
theorem rest_less {ms : List Ent} {seen : List Nat} {j : Nat} {e : Ent} (hj : ms[j]? = some e) (hs : j ∉ seen) : (restM ms (seen ++ [j])).length < (restM ms seen).length := by
  have h1 := (unseen_step (List.getElem?_eq_some_iff.1 hj).1 hs).length_eq
  simp only [restM, List.length_map]
  simp at h1; omega
theorem rest_end {ms outs : List Ent} {seen : List Nat} (hp : (outs ++ restM ms seen).Perm ms) (h : ∀ j, j < ms.length → j ∈ seen) : outs.Perm ms := by
  unfold restM at hp
  rw [unseen_nil h] at hp
  simpa using hp

/-! ## moves -/
theorem OwnO.mvNw {N : Nat} {e : TypeId} {kk : Nat} {ρ : List Nat} {A A1 : Nat → Prop} {w w1 : World} {b : Nat} {ob : Obj} {a : Option Addr} {nn c : Nat} {xs : List Value} (h : OwnO N ρ A w b ob) (hc : ∀ cs T f, ob ≠ .cells cs T f) (ho : Nw N e kk ρ A w a nn c xs)
    (m : Mv (fun k => Lb ρ k ∨ blk A a k) A A1 w w1) : OwnO N ρ A1 w1 b ob := by
  refine h.mvX m fun hh => hh.elim h.2.1 fun ⟨_, x, hx, he⟩ => ?_
  obtain ⟨_, ⟨h2, _⟩ | ⟨g, cur, h2, _, _, _, h6, _⟩⟩ := ho
  · rw [h2] at hx; cases hx
  · rw [h2] at hx; cases hx
    subst he
    have := h.2.2.2.symm.trans h6
    cases this
    exact hc _ _ _ rfl
theorem Nw.mvO {N : Nat} {e : TypeId} {kk : Nat} {ρ : List Nat} {A A1 : Nat → Prop} {w w1 : World} {b : Nat} {ob : Obj} {a : Option Addr} {nn c : Nat} {xs : List Value} (ho : Nw N e kk ρ A w a nn c xs) (h : OwnO N ρ A w b ob) (hc : ∀ cs T f, ob ≠ .cells cs T f)
    (m : Mv (fun k => Lb ρ k ∨ k = b) A A1 w w1) : Nw N e kk ρ A1 w1 a nn c xs := by
  obtain ⟨h1, h2 | ⟨g, cur, rfl, h3, h4, h5, h6, h7⟩⟩ := ho
  · exact ⟨h1, .inl h2⟩
  · refine Nw.mvX ⟨h1, .inr ⟨g, cur, rfl, h3, h4, h5, h6, h7⟩⟩ m fun g' hg _ hρ _ hX => ?_
    cases hg
    rcases hX with hX | rfl
    · exact hρ hX
    · have := h.2.2.2.symm.trans h6
      cases this
      exact hc _ _ _ rfl

section
variable {P : Program} {B : Code} {Q : Exit → Act → World → Prop} {n : Nat} {W : World} {Ac M A : Nat → Prop} {s : SS} {ρ : List Nat} {w0 : World} {r t : List It} {k j : Nat}
theorem J.lookupN {T kt et : TypeId} {b d : Nat} {q : Str} {z : Value} {ms : List Ent} (hx : lkOf B s.env ρ n k j = some (T, b, q, d)) (ht : P.underlying T = some (.map kt et)) (hk : P.underlying kt = some .string) (hz : ∀ w, (zeroValue et).run P w = .ok z w) (hm : MapAt W.heap.size ρ A w0 b ms) (hp : posOf q ms = none)
    (h : J P B Q n W Ac M (.o k (j + 1) :: r) ⟨put s.env d (.v (.tuple #[z, .bool false])), s.mem⟩ ρ A w0) : J P B Q n W Ac M (.o k j :: r) s ρ A w0 :=
  J.lookup hx ht hk hz hm (by rw [hp]; exact h)
theorem J.lookupS {T kt et : TypeId} {b d i : Nat} {q : Str} {z : Value} {ms : List Ent} {e : Ent} (hx : lkOf B s.env ρ n k j = some (T, b, q, d)) (ht : P.underlying T = some (.map kt et)) (hk : P.underlying kt = some .string) (hz : ∀ w, (zeroValue et).run P w = .ok z w) (hm : MapAt W.heap.size ρ A w0 b ms) (hp : posOf q ms = some i) (he : ms[i]? = some e)
    (h : J P B Q n W Ac M (.o k (j + 1) :: r) ⟨put s.env d (.v (.tuple #[.agg (encE e).toArray, .bool true])), s.mem⟩ ρ A w0) : J P B Q n W Ac M (.o k j :: r) s ρ A w0 :=
  J.lookup hx ht hk hz hm (by rw [hp]; simp only [he]; exact h)
end

structure FoldSt where
  k : Nat
  seen : List Nat
  outs : List Ent
  g : Nat
  c : Nat

theorem fold_calls (a : Option Addr) (n c : Nat) (l : List Ent) (hn : n ≤ 1000000) (Ac : Nat → Prop) (W : World) (hA : ∀ k, Ac k → k < W.heap.size) (hs : Sl 4 encE Ac W a n c l) :
    Calls Pr 30 #[.slice a n c] W (Ret nobody W fun v w => ∃ a' c', v = .slice a' (foldF l).length c' ∧ New W.heap.size 42 4 w a' (foldF l).length c' ((foldF l).flatMap encE)) := by
  refine J.enter (fn := Try.f30) (n := 55) Try.func30 (by kernel_rfl) (by kernel_rfl) (by kernel_rfl) hA ?_
  have hlen := hs.len; have hle := hs.le; have hcap := hs.cap; simp only [maxLen] at hcap
  refine J.rn [.n, .n, .u, .n, .n, .n] [0] [.c 0] [.o 3 0, .c 4] (by kernel_rfl) ?_
  refine J.makeMap (T := 121) (d := 11) (by kernel_rfl) ?_
  intro mb1 w1 A1 hm1 hle1 m1
  replace hs := hs.mv m1
  refine J.rn [.u, .n, .n, .n, .n, .u, .u, .u, .n, .n] [3, 12, 13, 14] [.o 3 1, .c 4] [.c 8, .b 0, .c 27] (by kernel_rfl) ?_
  refine J.loop (X := Nat) (fun i => ⟨[(3, .v ((.map (some mb1)))), (12, .v (.slice a n c)), (13, .v (.int .i64 ((n : Nat) : Int))), (14, .v (.int .i64 ((i : Nat) : Int)))], []⟩) (fun i A w => i ≤ n ∧ Sl 4 encE A w a n c l ∧ MapAt W.heap.size [] A w mb1 (newF (l.take i))) (fun i => n - i) [3, 12, 13, 14] 0 [] 0 (by kernel_rfl) (by kernel_rfl) (by kernel_rfl) (fun w1 A1 m1 => ⟨Nat.zero_le _, hs.mv m1, (hm1.mv m1)⟩) (fun i A2 w2 hI => ?_)
  obtain ⟨hi, hs, hmp⟩ := hI
  refine J.rn [.n, .n, .u, .n, .n] [3, 12, 13, 14, 15] [.c 9] [.c 12, .c 15] (by kernel_rfl) ?_
  refine J.cond (b := (decide (((i : Nat) : Int) < ((n : Nat) : Int)))) (k' := 14) (by kernel_rfl) (fun hc => ?_) (fun hc => ?_)
  · try simp only [nrm] at hc
    have hc1 := hc
    refine J.run [.n, .n, .n, .n, .n] [3, 12, 13, 14] ⟨[(3, .v ((.map (some mb1)))), (12, .v (.slice a n c)), (13, .v (.int .i64 ((n : Nat) : Int))), (14, .v (.int .i64 ((i : Nat) : Int)))], []⟩ [.c 13, .c 15] [.o 18 0, .c 19, .b 1, .c 26] (by kernel_rfl) ?_
    obtain ⟨p1, o1, rfl⟩ := hs.addr (by omega)
    refine J.idx (b := p1) (off := o1) (len := n) (i := ((i : Nat) : Int)) (sz := 4) (d := 16) (by kernel_rfl) (by omega) (by omega) ?_
    obtain ⟨x1, hx1⟩ : ∃ zq, (l)[i]? = some zq := ⟨_, List.getElem?_eq_getElem (by omega)⟩
    refine J.ld (T := 42) (b := p1) (off := o1 + i * 4) (d := 17) (v := .agg (encE x1).toArray) (by kernel_rfl) (fun w1 A1 m1 l1 => (hs.mv m1).ld (by kernel_rfl) hx1 (by kernel_rfl)) ?_
    refine J.new (T := 42) (cs := [.string (⟨#[]⟩ : Str), .string (⟨#[]⟩ : Str), .bool false, .int .i64 0]) (d := 5) (K := .ptr) (by kernel_rfl) (fun b1 hb1 => ?_)
    replace hmp := hmp.more hb1
    refine J.rn [.u, .n, .n, .n, .u, .u, .u] [3, 5, 12, 13, 14, 19, 21] [.o 18 3, .c 19, .b 1, .c 26] [.o 20 3, .c 21, .b 1, .c 26] (by kernel_rfl) ?_
    rcases hp1 : posOf x1.key (newF (l.take i)) with _ | j1
    · skip
      refine J.lookupN (T := 121) (kt := 9) (et := 42) (b := mb1) (d := 22) (q := x1.key) (z := .agg (encE ent0).toArray) (by kernel_rfl) Try.underlying121 Try.underlying9 Try.zeroValue42 hmp hp1 ?_
      refine J.rn [.u, .u, .u] [3, 5, 12, 13, 14, 23, 24] [.o 20 4, .c 21, .b 1, .c 26] [.o 20 7, .c 21, .b 1, .c 26] (by kernel_rfl) ?_
      refine J.new (T := 42) (cs := [.string (⟨#[]⟩ : Str), .string (⟨#[]⟩ : Str), .bool false, .int .i64 0]) (d := 6) (K := .ptr) (by kernel_rfl) (fun b2 hb2 => ?_)
      replace hmp := hmp.more hb2
      refine J.rn [.u, .u, .n, .n, .n, .u, .u, .u, .x, .x, .x, .x, .x, .u, .n] [3, 5, 12, 13, 14, 33] [.o 20 8, .c 21, .b 1, .c 26] [.c 23, .b 1, .c 26] (by kernel_rfl) ?_
      refine J.cond (b := true) (k' := 25) (by kernel_rfl) (fun _ => ?_) (fun hc => absurd hc (by decide))
      refine J.run [.n, .u, .u, .u, .u] [3, 12, 13, 14, 34, 36, 37] ⟨[(3, .v ((.map (some mb1)))), (12, .v (.slice (some ⟨p1, o1, none⟩) n c)), (13, .v (.int .i64 ((n : Nat) : Int))), (14, .v (.int .i64 ((i : Nat) : Int))), (34, .v ((.map (some mb1)))), (36, .v (.string x1.key)), (37, .v (.agg (encE x1).toArray))], [⟨42, encE x1⟩, ⟨42, encE ent0⟩]⟩ [.c 24, .b 1, .c 26] [.o 24 4, .b 1, .c 26] (by kernel_rfl) ?_
      refine J.update (T := 121) (kt := 9) (et := 42) (b := mb1) (e := x1) (by kernel_rfl) Try.underlying121 Try.underlying9 hmp ?_
      intro w3 A3 hm2 m2
      replace hs := hs.mv m2
      refine J.run [.n, .n, .n, .u, .u, .n] [3, 12, 13, 14] ⟨[(3, .v ((.map (some mb1)))), (12, .v (.slice (some ⟨p1, o1, none⟩) n c)), (13, .v (.int .i64 ((n : Nat) : Int))), (14, .v (.int .i64 (IntKind.i64.wrap (((i : Nat) : Int) + 1))))], [⟨42, encE x1⟩, ⟨42, encE ent0⟩]⟩ [.o 24 5, .b 1, .c 26] [] (by kernel_rfl) ?_
      have hw1 : IntKind.i64.wrap (((i : Nat) : Int) + 1) = ((i + 1 : Nat) : Int) := by rw [wrap_i64 (by omega) (by omega)]; try omega
      rw [hw1]
      rw [← newer_none hp1, ← newF_next hx1] at hm2
      exact J.again (i + 1) [3, 12, 13, 14] 0 (by omega) (by kernel_rfl) (by kernel_rfl) (fun w1 A1 m1 => ⟨by omega, hs.mv m1, (hm2.mv m1).fewer (by simp)⟩)
    · skip
      obtain ⟨y1, hy1, hk1⟩ := posOf_some hp1
      refine J.lookupS (T := 121) (kt := 9) (et := 42) (b := mb1) (d := 22) (q := x1.key) (z := .agg (encE ent0).toArray) (e := y1) (by kernel_rfl) Try.underlying121 Try.underlying9 Try.zeroValue42 hmp hp1 hy1 ?_
      refine J.rn [.u, .u, .u] [3, 5, 12, 13, 14, 23, 24] [.o 20 4, .c 21, .b 1, .c 26] [.o 20 7, .c 21, .b 1, .c 26] (by kernel_rfl) ?_
      refine J.new (T := 42) (cs := [.string (⟨#[]⟩ : Str), .string (⟨#[]⟩ : Str), .bool false, .int .i64 0]) (d := 6) (K := .ptr) (by kernel_rfl) (fun b3 hb3 => ?_)
      replace hmp := hmp.more hb3
      refine J.rn [.u, .u, .n, .n, .n, .u, .u, .u, .w, .w, .w, .w, .w, .u, .n] [3, 5, 12, 13, 14, 33] [.o 20 8, .c 21, .b 1, .c 26] [.c 23, .b 1, .c 26] (by kernel_rfl) ?_
      refine J.cond (b := (decide (x1.seq ≥ y1.seq))) (k' := 25) (by kernel_rfl) (fun hc => ?_) (fun hc => ?_)
      · try simp only [nrm] at hc
        have hc2 := hc
        refine J.rn [.n, .u, .u, .u, .u] [3, 12, 13, 14, 34, 36, 37] [.c 24, .b 1, .c 26] [.o 24 4, .b 1, .c 26] (by kernel_rfl) ?_
        refine J.update (T := 121) (kt := 9) (et := 42) (b := mb1) (e := x1) (by kernel_rfl) Try.underlying121 Try.underlying9 hmp ?_
        intro w4 A4 hm3 m3
        replace hs := hs.mv m3
        refine J.run [.n, .n, .n, .u, .u, .n] [3, 12, 13, 14] ⟨[(3, .v ((.map (some mb1)))), (12, .v (.slice (some ⟨p1, o1, none⟩) n c)), (13, .v (.int .i64 ((n : Nat) : Int))), (14, .v (.int .i64 (IntKind.i64.wrap (((i : Nat) : Int) + 1))))], [⟨42, encE x1⟩, ⟨42, encE y1⟩]⟩ [.o 24 5, .b 1, .c 26] [] (by kernel_rfl) ?_
        have hw2 : IntKind.i64.wrap (((i : Nat) : Int) + 1) = ((i + 1 : Nat) : Int) := by rw [wrap_i64 (by omega) (by omega)]; try omega
        rw [hw2]
        rw [← newer_yes hp1 hy1 (by omega), ← newF_next hx1] at hm3
        exact J.again (i + 1) [3, 12, 13, 14] 0 (by omega) (by kernel_rfl) (by kernel_rfl) (fun w1 A1 m1 => ⟨by omega, hs.mv m1, (hm3.mv m1).fewer (by simp)⟩)
      · try simp only [nrm] at hc
        have hc2 := hc
        refine J.run [.n, .n, .n, .u, .u, .n] [3, 12, 13, 14] ⟨[(3, .v ((.map (some mb1)))), (12, .v (.slice (some ⟨p1, o1, none⟩) n c)), (13, .v (.int .i64 ((n : Nat) : Int))), (14, .v (.int .i64 (IntKind.i64.wrap (((i : Nat) : Int) + 1))))], [⟨42, encE x1⟩, ⟨42, encE y1⟩]⟩ [.c 25, .b 1, .c 26] [] (by kernel_rfl) ?_
        have hw3 : IntKind.i64.wrap (((i : Nat) : Int) + 1) = ((i + 1 : Nat) : Int) := by rw [wrap_i64 (by omega) (by omega)]; try omega
        rw [hw3]
        have hnx := newF_next hx1; rw [newer_no hp1 hy1 (by omega)] at hnx; rw [← hnx] at hmp
        exact J.again (i + 1) [3, 12, 13, 14] 0 (by omega) (by kernel_rfl) (by kernel_rfl) (fun w1 A1 m1 => ⟨by omega, hs.mv m1, (hmp.mv m1).fewer (by simp)⟩)
  · try simp only [nrm] at hc
    have hc1 := hc
    refine J.exit (id := 0) (by kernel_rfl) (by rfl) ?_
    refine J.rn [.n, .n, .u] [3, 39] [.c 27] [.o 28 1, .c 29] (by kernel_rfl) ?_
    refine J.lenM (T := 121) (kt := 9) (et := 42) (b := mb1) (d := 40) (by kernel_rfl) Try.underlying121 hmp ?_
    have hml := newF_len (l.take i); rw [List.length_take] at hml
    refine J.mk0 (T := 22) (c := (newF (l.take i)).length) (cc := (((newF (l.take i)).length : Nat) : Int)) (d := 41) (bytes := 48) (sz := 4) (e := 42) (by kernel_rfl) rfl (by kernel_rfl) (by omega) (by simp only [maxLen]; omega) ?_
    intro g1 w5 A5 hn1 m4
    replace hs := hs.mv m4; replace hmp := hmp.mv m4
    refine J.rn [.u, .n, .n, .n, .n, .u] [8, 42] [.o 28 3, .c 29] [.o 31 1, .c 32, .c 44] (by kernel_rfl) ?_
    refine J.range (T := 121) (kt := 9) (et := 42) (b := mb1) (d := 43) (by kernel_rfl) Try.underlying121 hmp ?_
    intro it1 w6 A6 hi1 hle2 m5
    replace hs := hs.mv m5; replace hn1 := hn1.mv m5; replace hmp := hmp.mv m5
    refine J.rn [.n, .n] [8, 43] [.o 31 2, .c 32, .c 44] [.c 33, .b 2, .c 44] (by kernel_rfl) ?_
    refine J.loop (X := FoldSt) (fun x => ⟨[(8, .v (.slice (some ⟨x.g, 0, none⟩) x.k x.c)), (43, .v (.pointer (some ⟨it1, 0, none⟩)))], []⟩) (fun x A w => OwnO W.heap.size [] A w it1 (itOf mb1 (newF (l.take i)).length x.seen) ∧ MapAt W.heap.size [] A w mb1 (newF (l.take i)) ∧ Nw W.heap.size 42 4 [] A w (some ⟨x.g, 0, none⟩) x.k x.c (x.outs.flatMap encE) ∧ x.k = x.outs.length ∧ (x.outs ++ restM (newF (l.take i)) x.seen).Perm (newF (l.take i))) (fun x => (restM (newF (l.take i)) x.seen).length) [8, 43] 0 [] ⟨0, [], [], g1, (newF (l.take i)).length⟩ (by kernel_rfl) (by kernel_rfl) (by kernel_rfl) (fun w1 A1 m1 => ⟨hi1.mv m1, hmp.mv m1, hn1.mv m1, rfl, by rw [rest_start]; exact List.Perm.refl _⟩) (fun x A7 w7 hI => ?_)
    obtain ⟨hit, hmp, ho, hxk, hpm⟩ := hI
    have hpl := hpm.length_eq; rw [List.length_append] at hpl
    refine J.run [.n, .n] [8, 43] ⟨[(8, .v (.slice (some ⟨x.g, 0, none⟩) x.k x.c)), (43, .v (.pointer (some ⟨it1, 0, none⟩)))], []⟩ [.c 34] [.o 35 0, .c 36] (by kernel_rfl) ?_
    refine J.next (b := mb1) (i := it1) (d := 44) (by kernel_rfl) hmp hit ?_
    intro v1 ob1 w8 A8 hN1 hi2 hm4 m6
    replace ho := Nw.mvO ho hit (by intro _ _ _ h; cases h) m6
    rcases hN1 with ⟨hall1, rfl, rfl⟩ | ⟨j2, e1, hj1, hns1, rfl, rfl⟩
    · skip
      refine J.rn [.u, .n, .n] [8, 43, 45] [.o 35 1, .c 36] [.c 37, .c 40] (by kernel_rfl) ?_
      refine J.cond (b := false) (k' := 39) (by kernel_rfl) (fun hc => absurd hc (by decide)) (fun _ => ?_)
      refine J.exit (id := 2) (by kernel_rfl) (by rfl) ?_
      refine J.rn [.n, .n, .u] [8, 52] [.c 44] [.o 45 1, .c 46] (by kernel_rfl) ?_
      have hop := rest_end hpm hall1
      refine J.callX (X := Eb (some ⟨x.g, 0, none⟩)) (d := some 53) (fun k hk _ => let q := ho.own_blk k hk; ⟨.inl q.1, q.2.1, q.2.2.1⟩) (fun k hk => (ho.own_blk k hk).2.2.2) (by kernel_rfl) (fun w1 A1 m1 l1 => sort_calls x.g x.k x.c x.outs (by omega) _ _ _ w1 (ho.mv m1)) ?_
      rintro _ w1 w2 A2 ⟨rfl, l', hp', hu', ho⟩ g2
      have hle2 := hp'.length_eq; have hff := foldF_eq (l := l.take i) hop hp' hu'
      rw [List.take_of_length_le (by omega)] at hff; subst hff; rw [hxk, ← hle2]
      refine J.rn [.n, .n, .n, .u, .u, .n] [2] [.o 45 2, .c 46] [.c 48] (by kernel_rfl) ?_
      refine J.ret (v := .slice (some ⟨x.g, 0, none⟩) ((foldF l).length) x.c) (by kernel_rfl) (by kernel_rfl) (fun w1 A1 m1 hac l1 => ⟨_, _, rfl, ((ho.re (hxk.trans hle2.symm) rfl).mv m1).new⟩)
    · skip
      refine J.run [.u, .n, .n] [8, 43, 45] ⟨[(8, .v (.slice (some ⟨x.g, 0, none⟩) x.k x.c)), (43, .v (.pointer (some ⟨it1, 0, none⟩))), (45, .v (.bool true))], []⟩ [.o 35 1, .c 36] [.c 37, .c 40] (by kernel_rfl) ?_
      refine J.cond (b := true) (k' := 39) (by kernel_rfl) (fun _ => ?_) (fun hc => absurd hc (by decide))
      refine J.rn [.n, .n, .n, .n] [8, 43] [.c 38, .c 40] [.o 42 0, .c 43, .b 3] (by kernel_rfl) ?_
      refine J.entry (i := it1) (d := 46) (by kernel_rfl) hm4 hi2 hj1 ?_
      refine J.rn [.u] [8, 43, 47] [.o 42 1, .c 43, .b 3] [.o 42 2, .c 43, .b 3] (by kernel_rfl) ?_
      refine J.new (T := 42) (cs := [.string (⟨#[]⟩ : Str), .string (⟨#[]⟩ : Str), .bool false, .int .i64 0]) (d := 10) (K := .ptr) (by kernel_rfl) (fun b4 hb4 => ?_)
      replace ho := ho.more hb4
      replace hi2 := hi2.more hb4
      replace hm4 := hm4.more hb4
      refine J.run [.u, .n, .n, .u, .u] [43, 48, 49] ⟨[(43, .v (.pointer (some ⟨it1, 0, none⟩))), (48, .v (.slice (some ⟨x.g, 0, none⟩) x.k x.c)), (49, .v (.agg (encE e1).toArray))], [⟨42, encE e1⟩]⟩ [.o 42 3, .c 43, .b 3] [.o 43 2, .b 3] (by kernel_rfl) ?_
      refine J.new (T := 42) (cs := encE e1) (d := 50) (K := (.sl 1)) (by kernel_rfl) (fun b5 hb5 => ?_)
      replace ho := ho.more hb5
      replace hi2 := hi2.more hb5
      replace hm4 := hm4.more hb5
      refine J.append (e := 42) (sz := 4) (a := (some ⟨x.g, 0, none⟩)) (nn := x.k) (c := x.c) (T := 22) (Tx := 22) (x := .slice (some ⟨b5, 0, none⟩) 1 1) (bytes := 48) (d := 51) (xs := x.outs.flatMap encE) (news := encE e1) (m := 1) (by kernel_rfl) (by kernel_rfl) ho.own (.inr ho) (fun w1 A1 m1 l1 => l1.src (i := 1) rfl (e := 42) (by kernel_rfl) rfl rfl) (by simp only [maxLen]; omega) (by omega) ?_
      intro a1 c1 w9 A9 hn2 m7
      replace hi2 := OwnO.mvNw hi2 (by intro _ _ _ h; cases h) ho m7; replace hm4 := OwnO.mvNw hm4 (by intro _ _ _ h; cases h) ho m7
      replace hn2 := hn2.re (n' := x.k + 1) (ys := (x.outs ++ [e1]).flatMap encE) rfl (by first | (simp only [List.flatMap_append, dbytes_flat, byteCells_u8]; done) | (rw [List.flatMap_append]; rfl))
      refine J.run [.u, .n, .n] [8, 43] ⟨[(8, .v (.slice a1 (x.k + 1) c1)), (43, .v (.pointer (some ⟨it1, 0, none⟩)))], [⟨42, encE e1⟩, ⟨42, encE e1⟩]⟩ [.o 43 4, .b 3] [] (by kernel_rfl) ?_
      obtain ⟨g9, o9, rfl⟩ := hn2.addr (by omega)
      have ho9 : o9 = 0 := by rcases id hn2 with ⟨_, ⟨h2, _⟩ | ⟨_, _, h2, _⟩⟩ <;> cases h2 <;> rfl
      subst ho9
      exact J.again ⟨x.k + 1, x.seen ++ [j2], x.outs ++ [e1], g9, c1⟩ [8, 43] 0 (rest_less hj1 hns1) (by kernel_rfl) (by kernel_rfl) (fun w1 A1 m1 => ⟨(hi2.mv m1).fewer (by simp), (hm4.mv m1).fewer (by simp), (hn2.mv m1).fewer (by simp), by simp [hxk], rest_step hpm hj1 hns1⟩)
end Go.Proofs.Ytkgokehkobifkaa.J

/- Plain laws: what is written is read; a path climbs to its root. -/
namespace Go.Proofs.Ytkgokehkobifkaa.J
open Go Go.RowKit

theorem getGo_put : ∀ (v i acc : Nat) (rest : List UInt8), i ≤ 9 → v * 128 ^ i < 18446744073709551616 → (i = 0 ∨ 0 < v) →
    getGo ((putN v ++ rest).take (10 - i)) i acc = (acc + v * 128 ^ i, i + (putN v).length, true) := by
  intro v
  induction v using Nat.strongRecOn with
  | _ v ih =>
    intro i acc rest hi hv h0
    obtain ⟨m, hm⟩ : ∃ m, 10 - i = m + 1 := ⟨9 - i, by omega⟩
    have h9 : (128 : Nat) ^ 9 = 9223372036854775808 := by decide
    by_cases hlt : v < 128
    · rw [putN_lt hlt, hm, List.cons_append, List.take_succ_cons, getGo]
      have hb : (UInt8.ofNat v).toNat = v := by rw [u8_nat]; omega
      rw [hb, if_neg, if_pos hlt]
      · rfl
      · rintro (⟨h1, h2⟩ | ⟨h1, h2⟩)
        · rw [h1, h9] at hv; omega
        · omega
    · have hi8 : i ≤ 8 := by
        rcases Nat.lt_or_ge i 9 with h | h
        · omega
        · have : i = 9 := by omega
          rw [this, h9] at hv; omega
      rw [putN_ge (by omega), hm, List.cons_append, List.take_succ_cons, getGo]
      have hb : (UInt8.ofNat (v % 128 + 128)).toNat = v % 128 + 128 := by rw [u8_nat]; omega
      rw [hb, if_neg (by omega), if_neg (by omega)]
      have hp : v / 128 * 128 ^ (i + 1) ≤ v * 128 ^ i := by
        rw [Nat.pow_succ, Nat.mul_comm (128 ^ i) 128, ← Nat.mul_assoc]
        exact Nat.mul_le_mul_right _ (by omega)
      have e := ih (v / 128) (by omega) (i + 1) (acc + (v % 128 + 128) % 128 * 128 ^ i) rest (by omega) (by omega) (.inr (by omega))
      rw [show 10 - (i + 1) = m by omega] at e
      rw [e]
      simp only [Prod.mk.injEq, and_true]
      constructor
      · rw [Nat.pow_succ, Nat.mul_comm (128 ^ i) 128, ← Nat.mul_assoc, Nat.add_assoc, ← Nat.add_mul]
        congr 2; omega
      · simp; omega

theorem getN_put {v : Nat} (hv : v < 18446744073709551616) (rest : List UInt8) : getN (putN v ++ rest) = (v, (putN v).length, true) := by
  have := getGo_put v 0 0 rest (by omega) (by simpa using hv) (.inl rfl)
  simpa [getN] using this

theorem strOf_data (t : Str) : strOf t.data.toList = t := by cases t; simp [strOf]

theorem getT_put {t : Str} (ht : t.size < 18446744073709551616) (rest : List UInt8) : getT (putText t ++ rest) = (t, (putText t).length, true) := by
  have e : putText t ++ rest = putN t.size ++ (t.data.toList ++ rest) := by simp [putText]
  have h := getN_put ht (t.data.toList ++ rest)
  have hs := size_data t
  rw [e]
  rw [getT_yes (by rw [h]) (by rw [h]; simp [← hs])]
  rw [h]
  simp only [List.drop_left, Prod.mk.injEq, and_true]
  constructor
  · rw [hs, List.take_left]; exact strOf_data t
  · simp [putText, ← hs]

/-- What Bytes has written is read, whatever stands behind it. -/
theorem pars_entB {e : Ent} (h : e.Right) (rest : List UInt8) : pars (entB e ++ rest) = (e, (entB e).length, 0) := by
  have hR := h
  obtain ⟨r1, r2, r3, r4, r5, r6⟩ := h
  have hb : entB e = (if e.del = true then [1] else [0]) ++ putN e.seq.toNat ++ putText e.key ++ (if e.del = true then [] else putText e.value) := if_pos hR
  have hq : ((min e.seq.toNat 1099511627777 : Nat) : Int) = e.seq := by omega
  cases hd : e.del with
  | true =>
    rw [hd] at hb
    simp only [if_true, List.append_nil] at hb
    have e1 : entB e ++ rest = 1 :: (putN e.seq.toNat ++ (putText e.key ++ rest)) := by rw [hb]; simp
    have g1 := getN_put (v := e.seq.toNat) (by omega) (putText e.key ++ rest)
    have g2 := getT_put (t := e.key) (by omega) rest
    have hG : parsG (1 :: (putN e.seq.toNat ++ (putText e.key ++ rest))) = (e.seq.toNat, (putN e.seq.toNat).length, true) := by unfold parsG; simpa using g1
    have hT : parsT (1 :: (putN e.seq.toNat ++ (putText e.key ++ rest))) = (e.key, (putText e.key).length, true) := by
      unfold parsT; rw [hG]
      simp only [Nat.add_comm 1, List.drop_succ_cons, List.drop_left]; exact g2
    have hv : e.value = ⟨#[]⟩ := size_zero.1 (r4 hd)
    have hE : parsE (1 :: (putN e.seq.toNat ++ (putText e.key ++ rest))) = e := by
      unfold parsE; rw [hG, hT]
      simp only [List.getElem?_cons_zero, if_true, hq]
      cases e; simp only at hd hv; subst hd; subst hv; rfl
    have hN : parsN (1 :: (putN e.seq.toNat ++ (putText e.key ++ rest))) = (entB e).length := by
      unfold parsN; rw [hG, hT, hb]; simp; omega
    rw [e1]
    unfold pars
    rw [if_pos ⟨.inr rfl, by rw [hG], by rw [hT], .inl rfl, by rw [hE]; exact hR⟩, hE, hN]
  | false =>
    rw [hd] at hb
    simp only [Bool.false_eq_true, if_false] at hb
    have e1 : entB e ++ rest = 0 :: (putN e.seq.toNat ++ (putText e.key ++ (putText e.value ++ rest))) := by rw [hb]; simp
    have g1 := getN_put (v := e.seq.toNat) (by omega) (putText e.key ++ (putText e.value ++ rest))
    have g2 := getT_put (t := e.key) (by omega) (putText e.value ++ rest)
    have g3 := getT_put (t := e.value) (by omega) rest
    have hG : parsG (0 :: (putN e.seq.toNat ++ (putText e.key ++ (putText e.value ++ rest)))) = (e.seq.toNat, (putN e.seq.toNat).length, true) := by unfold parsG; simpa using g1
    have hT : parsT (0 :: (putN e.seq.toNat ++ (putText e.key ++ (putText e.value ++ rest)))) = (e.key, (putText e.key).length, true) := by
      unfold parsT; rw [hG]
      simp only [Nat.add_comm 1, List.drop_succ_cons, List.drop_left]; exact g2
    have hU : parsU (0 :: (putN e.seq.toNat ++ (putText e.key ++ (putText e.value ++ rest)))) = (e.value, (putText e.value).length, true) := by
      unfold parsU; rw [hG, hT]
      simp only [Nat.add_comm 1, Nat.add_right_comm _ 1, List.drop_succ_cons]
      rw [← List.drop_drop, List.drop_left, List.drop_left]; exact g3
    have hE : parsE (0 :: (putN e.seq.toNat ++ (putText e.key ++ (putText e.value ++ rest)))) = e := by
      unfold parsE; rw [hG, hT, hU]
      simp only [List.getElem?_cons_zero, hq]
      rw [if_neg (by decide)]
      cases e; simp only at hd; subst hd; rfl
    have hN : parsN (0 :: (putN e.seq.toNat ++ (putText e.key ++ (putText e.value ++ rest)))) = (entB e).length := by
      unfold parsN; rw [hG, hT, hU, hb]; simp; omega
    rw [e1]
    unfold pars
    rw [if_pos ⟨.inl rfl, by rw [hG], by rw [hT], .inr (by rw [hU]), by rw [hE]; exact hR⟩, hE, hN]

theorem pars_own {e : Ent} (h : e.Right) : pars (entB e) = (e, (entB e).length, 0) := by
  have := pars_entB h []
  rwa [List.append_nil] at this
theorem wholeF_own {e : Ent} (h : e.Right) : wholeF (entB e) = true := by
  unfold wholeF; rw [pars_own h]; simp

/-! ## paths -/
theorem climb_cons (bits : Int) (d : Dg) (b : Bool) (up : List Bool) (low : List Dg) (last : Dg) (hl : low.length = up.length) : climb bits d (b :: up) (low ++ [last]) = upF bits (climb bits d up low) (b, last) := by
  unfold climb
  rw [List.reverse_cons, List.zip_append (by rw [List.length_reverse]; exact hl.symm), List.foldl_append]
  rfl

theorem path_sides (bits : Int) : ∀ (N : Nat) (ls : List (List UInt8)) (i : Nat), ls.length < N → i < ls.length → (pathF bits ls i).length = (sides ls.length i).length
  | 0, _, _, h, _ => absurd h (Nat.not_lt_zero _)
  | N + 1, ls, i, h, hi => by
    by_cases h1 : ls.length ≤ 1
    · rw [pathF_1 h1, sides_1 h1]; rfl
    · have hh := half_lt (n := ls.length) (by omega)
      by_cases hk : i < half ls.length
      · have ht : (ls.take (half ls.length)).length = half ls.length := by rw [List.length_take]; omega
        rw [pathF_lo (by omega) hk, sides_lo (by omega) hk, List.length_append, path_sides bits N _ _ (by omega) (by omega), ht]; rfl
      · have hd : (ls.drop (half ls.length)).length = ls.length - half ls.length := List.length_drop
        rw [pathF_hi (by omega) (by omega), sides_hi (by omega) (by omega), List.length_append, path_sides bits N _ _ (by omega) (by omega), hd]; rfl

theorem climb_root (bits : Int) : ∀ (N : Nat) (ls : List (List UInt8)) (i : Nat) (leaf : List UInt8), ls.length < N → ls[i]? = some leaf → climb bits (leafF bits leaf) (sides ls.length i) (pathF bits ls i) = rootF bits ls
  | 0, _, _, _, h, _ => absurd h (Nat.not_lt_zero _)
  | N + 1, ls, i, leaf, h, hi => by
    have hil := (List.getElem?_eq_some_iff.1 hi).1
    by_cases h1 : ls.length ≤ 1
    · have h0 : i = 0 := by omega
      subst h0
      rw [pathF_1 h1, sides_1 h1, rootF_1 (by omega) hi]; rfl
    · have hh := half_lt (n := ls.length) (by omega)
      rw [rootF_2 (by omega)]
      by_cases hk : i < half ls.length
      · have ht : (ls.take (half ls.length)).length = half ls.length := by rw [List.length_take]; omega
        have hi' : (ls.take (half ls.length))[i]? = some leaf := by rw [List.getElem?_take, if_pos hk]; exact hi
        have hp := path_sides bits N (ls.take (half ls.length)) i (by omega) (by omega)
        have ih := climb_root bits N (ls.take (half ls.length)) i leaf (by omega) hi'
        rw [ht] at hp ih
        rw [pathF_lo (by omega) hk, sides_lo (by omega) hk, climb_cons _ _ _ _ _ _ hp, ih]
        rfl
      · have hd : (ls.drop (half ls.length)).length = ls.length - half ls.length := List.length_drop
        have hi' : (ls.drop (half ls.length))[i - half ls.length]? = some leaf := by rw [List.getElem?_drop, show half ls.length + (i - half ls.length) = i by omega]; exact hi
        have hp := path_sides bits N (ls.drop (half ls.length)) (i - half ls.length) (by omega) (by omega)
        have ih := climb_root bits N (ls.drop (half ls.length)) (i - half ls.length) leaf (by omega) hi'
        rw [hd] at hp ih
        rw [pathF_hi (by omega) (by omega), sides_hi (by omega) (by omega), climb_cons _ _ _ _ _ _ hp, ih]
        rfl

/-- A leaf's own path is taken. -/
theorem check_own (bits : Int) (ls : List (List UInt8)) (i : Nat) (leaf : List UInt8) (h : ls[i]? = some leaf) : checkF bits (rootF bits ls) ls.length ((i : Nat) : Int) leaf (pathF bits ls i) = true := by
  have hil := (List.getElem?_eq_some_iff.1 h).1
  unfold checkF checkN
  rw [Int.toNat_natCast, climb_root bits _ ls i leaf (Nat.lt_succ_self _) h, path_sides bits _ ls i (Nat.lt_succ_self _) hil]
  simp only [Bool.and_eq_true, decide_eq_true_eq]
  exact ⟨⟨by omega, by omega⟩, trivial, dgEq_iff.2 rfl⟩
end Go.Proofs.Ytkgokehkobifkaa.J

/- The law's helper: fit. -/
namespace Go.Proofs.Ytkgokehkobifkaa.J
open Go Go.RowKit

def okE (e : Ent) : Bool := decide e.Right
def pick64 (l : List Ent) : List Ent := (l.filter okE).take 64
theorem pick_yes {l : List Ent} {i : Nat} {x : Ent} (hx : l[i]? = some x) (hr : x.Right) (h : (pick64 (l.take i)).length < 64) : pick64 (l.take (i + 1)) = pick64 (l.take i) ++ [x] := by
  unfold pick64 at *
  rw [take_snoc hx, List.filter_append]
  have e1 : [x].filter okE = [x] := by simp [okE, hr]
  rw [List.length_take] at h
  rw [e1, List.take_append, List.take_of_length_le (l := [x]) (by simp only [List.length_cons, List.length_nil]; omega)]
theorem pick_no {l : List Ent} {i : Nat} {x : Ent} (hx : l[i]? = some x) (hr : ¬ x.Right) : pick64 (l.take (i + 1)) = pick64 (l.take i) := by
  unfold pick64
  rw [take_snoc hx, List.filter_append]
  have e1 : [x].filter okE = [] := by simp [okE, hr]
  rw [e1, List.append_nil]
theorem pick_full {l : List Ent} {i : Nat} (h : 64 ≤ (pick64 (l.take i)).length) : pick64 (l.take i) = pick64 l := by
  unfold pick64 at *
  rw [List.length_take] at h
  have e : l.filter okE = (l.take i).filter okE ++ (l.drop i).filter okE := by rw [← List.filter_append, List.take_append_drop]
  rw [e, List.take_append, show 64 - ((l.take i).filter okE).length = 0 by omega, List.take_zero, List.append_nil]
theorem pick_end {l : List Ent} {i : Nat} (h : l.length ≤ i) : pick64 (l.take i) = pick64 l := by rw [List.take_of_length_le h]

/-- What the laws make of any entries. -/
def fitF (l : List Ent) : List Ent := pick64 (foldF (fewF l 70))
theorem SortedL.sub {a b : List Ent} (h : SortedL b) (hs : a.Sublist b) : SortedL a := SortedL.of_rel (h.rel.sublist hs)
theorem fitF_fit (l : List Ent) : fitF l = [] ∨ FitL (fitF l) := by
  by_cases h : fitF l = []
  · exact .inl h
  · refine .inr ⟨List.length_pos_iff.2 h, ?_, ?_, ?_⟩
    · unfold fitF pick64; rw [List.length_take]; omega
    · exact (foldF_sorted (fewF l 70)).sub ((List.take_sublist 64 _).trans List.filter_sublist)
    · intro e he
      have := List.mem_of_mem_take he
      have := (List.mem_filter.1 this).2
      simpa [okE] using this
theorem fewF_len (l : List Ent) (m : Nat) : (fewF l m).length ≤ m := by unfold fewF; rw [List.length_map, List.length_take]; omega

structure FitSt where
  i : Nat
  k : Nat
  a : Option Addr
  c : Nat

theorem fit_law_calls (a : Option Addr) (n c : Nat) (l : List Ent) (Ac : Nat → Prop) (W : World) (hA : ∀ k, Ac k → k < W.heap.size) (hs : Sl 4 encE Ac W a n c l) :
    Calls Pr 9 #[.slice a n c] W (Ret nobody W fun v w => ∃ a' c', v = .slice a' (fitF l).length c' ∧ New W.heap.size 42 4 w a' (fitF l).length c' ((fitF l).flatMap encE)) := by
  refine J.enter (fn := Try.f9) (n := 33) Try.func9 (by kernel_rfl) (by kernel_rfl) (by kernel_rfl) hA ?_
  have hlen := hs.len; have hle := hs.le; have hcap := hs.cap; simp only [maxLen] at hcap
  refine J.rn [.n, .n, .u, .n, .n, .n, .u, .n, .n, .n, .u] [3, 6] [.c 0] [.o 5 1, .c 6] (by kernel_rfl) ?_
  refine J.call (d := some 7) (by kernel_rfl) (fun w1 A1 m1 l1 => few_calls a n c l 70 (by omega) nobody w1 noA (hs.mv m1).any) ?_
  rintro _ u1 w1 A1 ⟨a1, c1, rfl, hn1⟩ g1
  have hblhn1 := hn1.blk_lt; have hglhn1 := g1.le
  refine J.grab hn1 ?_
  have m1 := g1.grab hn1
  replace hs := hs.mv m1
  replace hn1 := hn1.take g1 rfl
  refine J.call (d := some 8) (by kernel_rfl) (fun w1 A1 m1 l1 => fold_calls a1 (min n 70) c1 (fewF l 70) (by omega) nobody w1 noA ((hn1.mv m1).any (fun x _ => rfl) (by decide))) ?_
  rintro _ u2 w2 A2 ⟨a2, c2, rfl, hfq⟩ g2
  have m2 := g2.mv
  replace hs := hs.mv m2; replace hn1 := hn1.mv m2
  have hfr : Sl 4 encE A2 w2 a2 (foldF (fewF l 70)).length c2 (foldF (fewF l 70)) := hfq.sl (fun x _ => rfl) (by decide) g2.bd
  refine J.rn [.u, .n, .n, .n, .n, .u, .n, .n] [3, 4, 5] [.o 5 3, .c 6] [.c 10, .b 0, .c 25] (by kernel_rfl) ?_
  have hfn := foldF_len (fewF l 70); have hf7 := fewF_len l 70
  refine J.loop (X := FitSt) (fun x => ⟨[(3, .v (.slice x.a x.k x.c)), (4, .v (.slice a2 ((foldF (fewF l 70)).length) c2)), (5, .v (.int .i64 ((x.i : Nat) : Int)))], []⟩) (fun x A w => x.i ≤ (foldF (fewF l 70)).length ∧ x.k = (pick64 ((foldF (fewF l 70)).take x.i)).length ∧ Sl 4 encE A w a2 (foldF (fewF l 70)).length c2 (foldF (fewF l 70)) ∧ Nw W.heap.size 42 4 [] A w x.a x.k x.c ((pick64 ((foldF (fewF l 70)).take x.i)).flatMap encE)) (fun x => (foldF (fewF l 70)).length - x.i) [3, 4, 5] 0 [] ⟨0, 0, none, 0⟩ (by kernel_rfl) (by kernel_rfl) (by kernel_rfl) (fun w1 A1 m1 => ⟨Nat.zero_le _, by simp [pick64], hfr.mv m1, by rw [List.take_zero]; exact Nw.nil _ _ _ _ _ _⟩) (fun x A3 w3 hI => ?_)
  obtain ⟨hi, hk, hfr, ho⟩ := hI; have hk6 : x.k ≤ 64 := by rw [hk]; unfold pick64; rw [List.length_take]; omega
  refine J.run [.n, .n, .n, .u, .u, .u, .u, .u] [3, 4, 5, 13] ⟨[(3, .v (.slice x.a x.k x.c)), (4, .v (.slice a2 ((foldF (fewF l 70)).length) c2)), (5, .v (.int .i64 ((x.i : Nat) : Int))), (13, .v (.bool (decide (((x.i : Nat) : Int) < (((foldF (fewF l 70)).length : Nat) : Int)))))], []⟩ [.c 11] [.o 13 5, .c 14, .c 17] (by kernel_rfl) ?_
  rcases Bool.eq_false_or_eq_true (decide (((x.i : Nat) : Int) < (((foldF (fewF l 70)).length : Nat) : Int))) with hc | hc
  · rw [hc]
    try simp only [nrm] at hc
    have hc1 := hc
    refine J.rn [.w, .w, .w, .u, .n] [3, 4, 5, 17] [.o 13 5, .c 14, .c 17] [.c 14, .c 17] (by kernel_rfl) ?_
    refine J.cond (b := (decide (((x.k : Nat) : Int) < 64))) (k' := 16) (by kernel_rfl) (fun hc => ?_) (fun hc => ?_)
    · try simp only [nrm] at hc
      have hc2 := hc
      refine J.rn [.n, .n, .n, .n, .n, .u, .u] [3, 4, 5, 20, 21] [.c 15, .c 17] [.o 20 2, .c 21, .b 1, .c 24] (by kernel_rfl) ?_
      obtain ⟨p1, o1, rfl⟩ := hfr.addr (by omega)
      refine J.idx (b := p1) (off := o1) (len := (foldF (fewF l 70)).length) (i := ((x.i : Nat) : Int)) (sz := 4) (d := 22) (by kernel_rfl) (by omega) (by omega) ?_
      obtain ⟨x1, hx1⟩ : ∃ zq, (foldF (fewF l 70))[x.i]? = some zq := ⟨_, List.getElem?_eq_getElem (by omega)⟩
      refine J.ld (T := 42) (b := p1) (off := o1 + x.i * 4) (d := 23) (v := .agg (encE x1).toArray) (by kernel_rfl) (fun w1 A1 m1 l1 => (hfr.mv m1).ld (by kernel_rfl) hx1 (by kernel_rfl)) ?_
      refine J.call (d := some 24) (by kernel_rfl) (fun w1 A1 m1 l1 => right_calls x1 nobody w1 noA) ?_
      rintro _ u3 w4 A4 rfl g3
      have m3 := g3.mv
      replace hfr := hfr.mv m3; replace ho := ho.mv m3
      refine J.rn [.n] [3, 4, 5, 24] [.o 20 5, .c 21, .b 1, .c 24] [.c 21, .b 1, .c 24] (by kernel_rfl) ?_
      refine J.cond (b := (decide x1.Right)) (k' := 23) (by kernel_rfl) (fun hc => ?_) (fun hc => ?_)
      · try simp only [nrm] at hc
        have hc3 := hc
        refine J.run [.n, .u, .u, .u] [4, 5, 25, 26, 27] ⟨[(4, .v (.slice (some ⟨p1, o1, none⟩) ((foldF (fewF l 70)).length) c2)), (5, .v (.int .i64 ((x.i : Nat) : Int))), (25, .v (.slice x.a x.k x.c)), (26, .v (.slice (some ⟨p1, o1, none⟩) ((foldF (fewF l 70)).length) c2)), (27, .v (.int .i64 ((x.i : Nat) : Int)))], []⟩ [.c 22, .b 1, .c 24] [.o 22 3, .b 1, .c 24] (by kernel_rfl) ?_
        refine J.idx (b := p1) (off := o1) (len := (foldF (fewF l 70)).length) (i := ((x.i : Nat) : Int)) (sz := 4) (d := 28) (by kernel_rfl) (by omega) (by omega) ?_
        refine J.ld (T := 42) (b := p1) (off := o1 + x.i * 4) (d := 29) (v := .agg (encE x1).toArray) (by kernel_rfl) (fun w1 A1 m1 l1 => (hfr.mv m1).ld (by kernel_rfl) hx1 (by kernel_rfl)) ?_
        refine J.new (T := 42) (cs := encE x1) (d := 30) (K := (.sl 1)) (by kernel_rfl) (fun b1 hb1 => ?_)
        replace ho := ho.more hb1
        refine J.append (e := 42) (sz := 4) (a := x.a) (nn := x.k) (c := x.c) (T := 22) (Tx := 22) (x := .slice (some ⟨b1, 0, none⟩) 1 1) (bytes := 48) (d := 31) (xs := (pick64 ((foldF (fewF l 70)).take x.i)).flatMap encE) (news := encE x1) (m := 1) (by kernel_rfl) (by kernel_rfl) ho.own (.inr ho) (fun w1 A1 m1 l1 => l1.src (i := 0) rfl (e := 42) (by kernel_rfl) rfl rfl) (by simp only [maxLen]; omega) (by omega) ?_
        intro a3 c3 w5 A5 hn2 m4
        replace hfr := hfr.mv m4
        replace hn2 := hn2.re (n' := x.k + 1) (ys := (pick64 ((foldF (fewF l 70)).take x.i) ++ [x1]).flatMap encE) rfl (by first | (simp only [List.flatMap_append, dbytes_flat, byteCells_u8]; done) | (rw [List.flatMap_append]; rfl))
        refine J.run [.u, .n, .n, .n, .u, .u, .u, .n] [3, 4, 5] ⟨[(3, .v (.slice a3 (x.k + 1) c3)), (4, .v (.slice (some ⟨p1, o1, none⟩) ((foldF (fewF l 70)).length) c2)), (5, .v (.int .i64 (IntKind.i64.wrap (((x.i : Nat) : Int) + 1))))], [⟨42, encE x1⟩]⟩ [.o 22 7, .b 1, .c 24] [] (by kernel_rfl) ?_
        have hw1 : IntKind.i64.wrap (((x.i : Nat) : Int) + 1) = ((x.i + 1 : Nat) : Int) := by rw [wrap_i64 (by omega) (by omega)]; try omega
        rw [hw1]
        have hpk := pick_yes hx1 hc3 (by omega); rw [← hpk] at hn2
        have hkk : x.k + 1 = (pick64 ((foldF (fewF l 70)).take (x.i + 1))).length := by rw [hpk, List.length_append, ← hk]; rfl
        exact J.again ⟨x.i + 1, x.k + 1, a3, c3⟩ [3, 4, 5] 0 (by simp only; omega) (by kernel_rfl) (by kernel_rfl) (fun w1 A1 m1 => ⟨by simp only; omega, hkk, hfr.mv m1, (hn2.mv m1).fewer (by simp)⟩)
      · try simp only [nrm] at hc
        have hc3 := hc
        refine J.run [.n, .n, .n, .u, .u, .u, .n] [3, 4, 5] ⟨[(3, .v (.slice x.a x.k x.c)), (4, .v (.slice (some ⟨p1, o1, none⟩) ((foldF (fewF l 70)).length) c2)), (5, .v (.int .i64 (IntKind.i64.wrap (((x.i : Nat) : Int) + 1))))], []⟩ [.c 23, .b 1, .c 24] [] (by kernel_rfl) ?_
        have hw2 : IntKind.i64.wrap (((x.i : Nat) : Int) + 1) = ((x.i + 1 : Nat) : Int) := by rw [wrap_i64 (by omega) (by omega)]; try omega
        rw [hw2]
        have hpk := pick_no hx1 hc3; rw [← hpk] at hk ho
        exact J.again ⟨x.i + 1, x.k, x.a, x.c⟩ [3, 4, 5] 0 (by simp only; omega) (by kernel_rfl) (by kernel_rfl) (fun w1 A1 m1 => ⟨by simp only; omega, hk, hfr.mv m1, (ho.mv m1).fewer (by simp)⟩)
    · try simp only [nrm] at hc
      have hc2 := hc
      refine J.exit (id := 0) (by kernel_rfl) (by rfl) ?_
      refine J.rn [.n, .n, .u, .u, .n] [2] [.c 25] [.c 27] (by kernel_rfl) ?_
      have hend : pick64 ((foldF (fewF l 70)).take x.i) = fitF l := by
        rcases Nat.lt_or_ge x.i (foldF (fewF l 70)).length with h | h
        · exact pick_full (by omega)
        · exact pick_end h
      rw [hend] at hk ho; rw [hk]
      refine J.ret (v := .slice x.a ((fitF l).length) x.c) (by kernel_rfl) (by kernel_rfl) (fun w1 A1 m1 hac l1 => ⟨_, _, rfl, ((ho.re hk rfl).mv m1).new⟩)
  · rw [hc]
    try simp only [nrm] at hc
    have hc1 := hc
    refine J.rn [.x, .x, .x, .u, .n] [3, 4, 5, 17] [.o 13 5, .c 14, .c 17] [.c 14, .c 17] (by kernel_rfl) ?_
    refine J.cond (b := false) (k' := 16) (by kernel_rfl) (fun hc => absurd hc (by decide)) (fun _ => ?_)
    refine J.exit (id := 0) (by kernel_rfl) (by rfl) ?_
    refine J.rn [.n, .n, .u, .u, .n] [2] [.c 25] [.c 27] (by kernel_rfl) ?_
    have hend : pick64 ((foldF (fewF l 70)).take x.i) = fitF l := by
      rcases Nat.lt_or_ge x.i (foldF (fewF l 70)).length with h | h
      · exact pick_full (by omega)
      · exact pick_end h
    rw [hend] at hk ho; rw [hk]
    refine J.ret (v := .slice x.a ((fitF l).length) x.c) (by kernel_rfl) (by kernel_rfl) (fun w1 A1 m1 hac l1 => ⟨_, _, rfl, ((ho.re hk rfl).mv m1).new⟩)
end Go.Proofs.Ytkgokehkobifkaa.J

/- The law's helper: shown. -/
namespace Go.Proofs.Ytkgokehkobifkaa.J
open Go Go.RowKit

theorem slt_lit (a b : Array UInt8) : slt ⟨a⟩ ⟨b⟩ = Op.bytesLess a.toList b.toList := by unfold slt; rw [ByteArray.toList_eq, ByteArray.toList_eq]
theorem seq_lit (a b : Array UInt8) : seq ⟨a⟩ ⟨b⟩ = (a.toList == b.toList) := by unfold seq; rw [ByteArray.toList_eq, ByteArray.toList_eq]

def shA : Ent := ⟨⟨#[97]⟩, ⟨#[]⟩, false, 1⟩
def shC : Ent := ⟨⟨#[99]⟩, ⟨#[]⟩, false, 2⟩
def shL : List Ent := [shA, shC]
theorem shA_right : shA.Right := by unfold Ent.Right shA; decide
theorem shC_right : shC.Right := by unfold Ent.Right shC; decide
theorem shL_fit : FitL shL := by
  refine ⟨by decide, by decide, ⟨?_, trivial⟩, fun e he => ?_⟩
  · show slt ⟨#[97]⟩ ⟨#[99]⟩ = true
    rw [slt_lit]; decide
  · simp [shL] at he
    rcases he with rfl | rfl
    · exact shA_right
    · exact shC_right
theorem sh_b : proveF 256 shL ⟨#[98]⟩ = ((true, openF 256 (shL.map entB) 0, openF 256 (shL.map entB) 1), 0) := by
  have h1 : hasKey ⟨#[98]⟩ shL = false := by simp [hasKey, shL, shA, shC, seq_lit]
  have h2 : cntLt ⟨#[98]⟩ shL = 1 := by simp [cntLt, shL, shA, shC, slt_lit, Op.bytesLess]
  unfold proveF
  rw [if_pos shL_fit, h1, h2, if_neg (by decide), if_neg (by decide)]
theorem sh_c : proveF 256 shL ⟨#[99]⟩ = ((false, openF 256 (shL.map entB) 1, opn0), 0) := by
  have h1 : hasKey ⟨#[99]⟩ shL = true := by simp [hasKey, shL, shA, shC, seq_lit]
  have h2 : cntLt ⟨#[99]⟩ shL = 1 := by simp [cntLt, shL, shA, shC, slt_lit, Op.bytesLess]
  unfold proveF
  rw [if_pos shL_fit, h1, h2, if_pos rfl]
theorem sh_d : proveF 256 shL ⟨#[100]⟩ = ((false, opn0, opn0), 5) := by
  have h1 : hasKey ⟨#[100]⟩ shL = false := by simp [hasKey, shL, shA, shC, seq_lit]
  have h2 : cntLt ⟨#[100]⟩ shL = 2 := by simp [cntLt, shL, shA, shC, slt_lit, Op.bytesLess]
  unfold proveF
  rw [if_pos shL_fit, h1, h2, if_neg (by decide), if_pos (by decide)]
def shT : Tab := ⟨0, 2, rootF 256 (shL.map entB), ⟨#[97]⟩, ⟨#[99]⟩⟩
theorem sh_x : descF 256 0 shL = (shT, 0) := by rw [descF_yes shL_fit (by decide) (by decide)]; rfl
theorem openF_leaf (bits : Int) (l : List Ent) (i : Nat) {e : Ent} (h : l[i]? = some e) : (openF bits (l.map entB) i).leaf = entB e := by simp [openF, h]
theorem open_holds {bits : Int} {l : List Ent} {i : Nat} {e : Ent} (h : l[i]? = some e) (hr : e.Right) (x : Tab) (hx : x.root = rootF bits (l.map entB)) : (openF bits (l.map entB) i).holds bits x l.length = true := by
  unfold Opn.holds holdsF
  rw [openF_leaf bits l i h, wholeF_own hr, hx]
  have := check_own bits (l.map entB) i (entB e) (by simp [h])
  rw [List.length_map] at this
  simpa [openF] using this
theorem sh_chk : seekC 256 shT 2 ⟨#[99]⟩ false (openF 256 (shL.map entB) 1) opn0 = (shC, true, 0) := by
  have h1 : (openF 256 (shL.map entB) 1).holds 256 shT 2 = true := open_holds (l := shL) (e := shC) rfl shC_right shT rfl
  have h2 : coversF shT ⟨#[99]⟩ = true := by
    unfold coversF
    rw [sle_not, sle_not]
    simp [shT, slt_lit, Op.bytesLess]
  have h3 : (pars (openF 256 (shL.map entB) 1).leaf).1 = shC := by rw [openF_leaf 256 shL 1 (e := shC) rfl, pars_own shC_right]
  unfold seekC
  rw [h1, h2, h3]
  simp [shC, seq_refl, opn0, Opn.none]
theorem openF_short (bits : Int) (l : List Ent) (i : Nat) : (openF bits (l.map entB) i).leaf.length ≤ 10000 := by
  cases h : l[i]? with
  | none => simp [openF, h]
  | some e => rw [openF_leaf bits l i h]; exact entB_len e

theorem sh_b_calls (a : Option Addr) (n c : Nat) (Ac : Nat → Prop) (W : World) (hA : ∀ k, Ac k → k < W.heap.size) (hs : Sl 4 encE Ac W a n c shL) :
    Calls Pr 25 #[.agg [.int .i64 256].toArray, .slice a n c, .string ⟨#[98]⟩] W (Ret nobody W fun v w => ∃ pv, v = .tuple #[pv, .int .i64 0] ∧ PtAt Ac w pv (true, openF 256 (shL.map entB) 0, openF 256 (shL.map entB) 1)) := by
  have := prove_calls 256 a n c shL ⟨#[98]⟩ Ac W hA hs
  rw [sh_b] at this
  exact this
theorem sh_c_calls (a : Option Addr) (n c : Nat) (Ac : Nat → Prop) (W : World) (hA : ∀ k, Ac k → k < W.heap.size) (hs : Sl 4 encE Ac W a n c shL) :
    Calls Pr 25 #[.agg [.int .i64 256].toArray, .slice a n c, .string ⟨#[99]⟩] W (Ret nobody W fun v w => ∃ pv, v = .tuple #[pv, .int .i64 0] ∧ PtAt Ac w pv (false, openF 256 (shL.map entB) 1, opn0)) := by
  have := prove_calls 256 a n c shL ⟨#[99]⟩ Ac W hA hs
  rw [sh_c] at this
  exact this
theorem sh_d_calls (a : Option Addr) (n c : Nat) (Ac : Nat → Prop) (W : World) (hA : ∀ k, Ac k → k < W.heap.size) (hs : Sl 4 encE Ac W a n c shL) :
    Calls Pr 25 #[.agg [.int .i64 256].toArray, .slice a n c, .string ⟨#[100]⟩] W (Ret nobody W fun v w => ∃ pv, v = .tuple #[pv, .int .i64 5] ∧ PtAt Ac w pv (false, opn0, opn0)) := by
  have := prove_calls 256 a n c shL ⟨#[100]⟩ Ac W hA hs
  rw [sh_d] at this
  exact this
theorem sh_x_calls (a : Option Addr) (n c : Nat) (Ac : Nat → Prop) (W : World) (hA : ∀ k, Ac k → k < W.heap.size) (hs : Sl 4 encE Ac W a n c shL) :
    Calls Pr 10 #[.agg [.int .i64 256].toArray, .int .i64 0, .slice a n c] W (Ret nobody W fun v w => v = .tuple #[.agg (encT shT).toArray, .int .i64 0]) := by
  have := describe_calls 256 0 a n c shL Ac W hA hs
  rw [sh_x] at this
  exact this
theorem shown_calls (Ac : Nat → Prop) (W : World) (hA : ∀ k, Ac k → k < W.heap.size) :
    Calls Pr 8 #[] W (Ret nobody W fun v w => v = .bool true) := by
  refine J.enter (fn := Try.f8) (n := 99) Try.func8 (by kernel_rfl) (by kernel_rfl) (by kernel_rfl) hA ?_
  refine J.rn [.n, .n, .u, .n, .n, .n, .u] [14] [.c 0] [.o 3 1, .c 4] (by kernel_rfl) ?_
  refine J.new (T := 32) (cs := [.int .i64 0]) (d := 1) (K := .ptr) (by kernel_rfl) (fun b1 hb1 => ?_)
  refine J.run [.u, .n, .n, .n, .u, .u] [1, 15, 16] ⟨[(1, .loc 0 0), (15, .v (.agg [.string (⟨#[97]⟩ : Str), .string (⟨#[]⟩ : Str), .bool false, .int .i64 1].toArray)), (16, .v (.agg [.string (⟨#[99]⟩ : Str), .string (⟨#[]⟩ : Str), .bool false, .int .i64 2].toArray))], [⟨32, [.int .i64 256]⟩]⟩ [.o 3 2, .c 4] [.o 5 2, .c 6] (by kernel_rfl) ?_
  refine J.new (T := 42) (cs := [.string (⟨#[97]⟩ : Str), .string (⟨#[]⟩ : Str), .bool false, .int .i64 1, .string (⟨#[99]⟩ : Str), .string (⟨#[]⟩ : Str), .bool false, .int .i64 2]) (d := 17) (K := (.sl 2)) (by kernel_rfl) (fun b2 hb2 => ?_)
  refine J.freeze 1 rfl (by kernel_rfl) (fun h => h) (L := ⟨42, [.string (⟨#[97]⟩ : Str), .string (⟨#[]⟩ : Str), .bool false, .int .i64 1, .string (⟨#[99]⟩ : Str), .string (⟨#[]⟩ : Str), .bool false, .int .i64 2]⟩) rfl (fun w1 A1 m1 hs1 hr1 hn1 => ?_)
  have hz : Sl 4 encE A1 w1 (some ⟨b2, 0, none⟩) 2 2 shL := Sl.ofRow (enc := encE) (l := shL) (kk := 4) (b := b2) (cs := [.string (⟨#[97]⟩ : Str), .string (⟨#[]⟩ : Str), .bool false, .int .i64 1, .string (⟨#[99]⟩ : Str), .string (⟨#[]⟩ : Str), .bool false, .int .i64 2]) hr1 hn1 rfl (fun x _ => rfl) rfl (by simp only [maxLen]; omega)
  refine J.rn [.u, .n, .n, .n, .u, .u] [1, 2, 19, 20] [.o 5 3, .c 6] [.o 7 2, .c 8] (by kernel_rfl) ?_
  refine J.call (d := some 21) (by kernel_rfl) (fun w1 A1 m1 l1 => sh_b_calls (some ⟨b2, 0, none⟩) 2 2 A1 w1 m1.bdd (hz.mv m1)) ?_
  rintro _ u1 w2 A2 ⟨_, rfl, la1, ln1, lc1, pa1, pn1, pc1, la2, ln2, lc2, pa2, pn2, pc2, rfl, hal1, hap1, hbl1, hbp1⟩ g1
  have m2 := g1.mv
  replace hz := hz.mv m2
  refine J.rn [.u, .u, .u] [1, 2, 22, 23] [.o 7 3, .c 8] [.o 7 6, .c 8] (by kernel_rfl) ?_
  refine J.new (T := 28) (cs := [.bool false, .int .i64 0, .slice none 0 0, .slice none 0 0, .int .i64 0, .slice none 0 0, .slice none 0 0]) (d := 3) (K := .ptr) (by kernel_rfl) (fun b3 hb3 => ?_)
  refine J.run [.u, .u, .n, .n, .n, .u, .u] [1, 2, 3, 4, 25, 26] ⟨[(1, .loc 0 0), (2, .v (.slice (some ⟨b2, 0, none⟩) 2 2)), (3, .loc 1 0), (4, .v (.int .i64 0)), (25, .v (.agg [.int .i64 256].toArray)), (26, .v (.slice (some ⟨b2, 0, none⟩) 2 2))], [⟨32, [.int .i64 256]⟩, ⟨28, [.bool true, .int .i64 0, .slice la1 ln1 lc1, .slice pa1 pn1 pc1, .int .i64 1, .slice la2 ln2 lc2, .slice pa2 pn2 pc2]⟩]⟩ [.o 7 7, .c 8] [.o 9 2, .c 10] (by kernel_rfl) ?_
  refine J.call (d := some 27) (by kernel_rfl) (fun w1 A1 m1 l1 => sh_c_calls (some ⟨b2, 0, none⟩) 2 2 A1 w1 m1.bdd (hz.mv m1)) ?_
  rintro _ u2 w3 A3 ⟨_, rfl, la3, ln3, lc3, pa3, pn3, pc3, la4, ln4, lc4, pa4, pn4, pc4, rfl, hal2, hap2, hbl2, hbp2⟩ g2
  have m3 := g2.mv
  replace hz := hz.mv m3; replace hal1 := hal1.mv m3; replace hap1 := hap1.mv m3; replace hbl1 := hbl1.mv m3; replace hbp1 := hbp1.mv m3
  refine J.rn [.u, .u, .u] [1, 2, 3, 4, 28, 29] [.o 9 3, .c 10] [.o 9 6, .c 10] (by kernel_rfl) ?_
  refine J.new (T := 28) (cs := [.bool false, .int .i64 0, .slice none 0 0, .slice none 0 0, .int .i64 0, .slice none 0 0, .slice none 0 0]) (d := 5) (K := .ptr) (by kernel_rfl) (fun b4 hb4 => ?_)
  refine J.run [.u, .u, .n, .n, .n, .u, .u] [1, 2, 3, 4, 5, 6, 31, 32] ⟨[(1, .loc 0 0), (2, .v (.slice (some ⟨b2, 0, none⟩) 2 2)), (3, .loc 1 0), (4, .v (.int .i64 0)), (5, .loc 2 0), (6, .v (.int .i64 0)), (31, .v (.agg [.int .i64 256].toArray)), (32, .v (.slice (some ⟨b2, 0, none⟩) 2 2))], [⟨32, [.int .i64 256]⟩, ⟨28, [.bool true, .int .i64 0, .slice la1 ln1 lc1, .slice pa1 pn1 pc1, .int .i64 1, .slice la2 ln2 lc2, .slice pa2 pn2 pc2]⟩, ⟨28, [.bool false, .int .i64 1, .slice la3 ln3 lc3, .slice pa3 pn3 pc3, .int .i64 0, .slice la4 ln4 lc4, .slice pa4 pn4 pc4]⟩]⟩ [.o 9 7, .c 10] [.o 11 2, .c 12] (by kernel_rfl) ?_
  refine J.call (d := some 33) (by kernel_rfl) (fun w1 A1 m1 l1 => sh_d_calls (some ⟨b2, 0, none⟩) 2 2 A1 w1 m1.bdd (hz.mv m1)) ?_
  rintro _ u3 w4 A4 ⟨_, rfl, la5, ln5, lc5, pa5, pn5, pc5, la6, ln6, lc6, pa6, pn6, pc6, rfl, hal3, hap3, hbl3, hbp3⟩ g3
  have m4 := g3.mv
  replace hz := hz.mv m4; replace hal1 := hal1.mv m4; replace hap1 := hap1.mv m4; replace hbl1 := hbl1.mv m4; replace hbp1 := hbp1.mv m4; replace hal2 := hal2.mv m4; replace hap2 := hap2.mv m4; replace hbl2 := hbl2.mv m4; replace hbp2 := hbp2.mv m4
  refine J.rn [.u, .u, .u] [1, 2, 3, 4, 5, 6, 34, 35] [.o 11 3, .c 12] [.o 11 6, .c 12] (by kernel_rfl) ?_
  refine J.new (T := 28) (cs := [.bool false, .int .i64 0, .slice none 0 0, .slice none 0 0, .int .i64 0, .slice none 0 0, .slice none 0 0]) (d := 7) (K := .ptr) (by kernel_rfl) (fun b5 hb5 => ?_)
  refine J.run [.u, .u, .n, .n, .n, .u, .u] [1, 3, 4, 5, 6, 8, 37, 38] ⟨[(1, .loc 0 0), (3, .loc 1 0), (4, .v (.int .i64 0)), (5, .loc 2 0), (6, .v (.int .i64 0)), (8, .v (.int .i64 5)), (37, .v (.agg [.int .i64 256].toArray)), (38, .v (.slice (some ⟨b2, 0, none⟩) 2 2))], [⟨32, [.int .i64 256]⟩, ⟨28, [.bool true, .int .i64 0, .slice la1 ln1 lc1, .slice pa1 pn1 pc1, .int .i64 1, .slice la2 ln2 lc2, .slice pa2 pn2 pc2]⟩, ⟨28, [.bool false, .int .i64 1, .slice la3 ln3 lc3, .slice pa3 pn3 pc3, .int .i64 0, .slice la4 ln4 lc4, .slice pa4 pn4 pc4]⟩, ⟨28, [.bool false, .int .i64 0, .slice la5 ln5 lc5, .slice pa5 pn5 pc5, .int .i64 0, .slice la6 ln6 lc6, .slice pa6 pn6 pc6]⟩]⟩ [.o 11 7, .c 12] [.o 13 2, .c 14] (by kernel_rfl) ?_
  refine J.call (d := some 39) (by kernel_rfl) (fun w1 A1 m1 l1 => sh_x_calls (some ⟨b2, 0, none⟩) 2 2 A1 w1 m1.bdd (hz.mv m1)) ?_
  rintro _ u4 w5 A5 rfl g4
  have m5 := g4.mv
  replace hz := hz.mv m5; replace hal1 := hal1.mv m5; replace hap1 := hap1.mv m5; replace hbl1 := hbl1.mv m5; replace hbp1 := hbp1.mv m5; replace hal2 := hal2.mv m5; replace hap2 := hap2.mv m5; replace hbl2 := hbl2.mv m5; replace hbp2 := hbp2.mv m5; replace hal3 := hal3.mv m5; replace hap3 := hap3.mv m5; replace hbl3 := hbl3.mv m5; replace hbp3 := hbp3.mv m5
  refine J.rn [.u, .u, .u] [1, 3, 4, 5, 6, 8, 40, 41] [.o 13 3, .c 14] [.o 13 6, .c 14] (by kernel_rfl) ?_
  refine J.new (T := 36) (cs := [.int .i64 0, .int .i64 0, .int .u8 0, .int .u8 0, .int .u8 0, .int .u8 0, .int .u8 0, .int .u8 0, .int .u8 0, .int .u8 0, .int .u8 0, .int .u8 0, .int .u8 0, .int .u8 0, .int .u8 0, .int .u8 0, .int .u8 0, .int .u8 0, .int .u8 0, .int .u8 0, .int .u8 0, .int .u8 0, .int .u8 0, .int .u8 0, .int .u8 0, .int .u8 0, .int .u8 0, .int .u8 0, .int .u8 0, .int .u8 0, .int .u8 0, .int .u8 0, .int .u8 0, .int .u8 0, .string (⟨#[]⟩ : Str), .string (⟨#[]⟩ : Str)]) (d := 9) (K := .ptr) (by kernel_rfl) (fun b6 hb6 => ?_)
  refine J.run [.u, .u, .n, .n, .n, .u, .u, .u] [3, 4, 5, 6, 8, 43, 44, 45] ⟨[(3, .loc 1 0), (4, .v (.int .i64 0)), (5, .loc 2 0), (6, .v (.int .i64 0)), (8, .v (.int .i64 5)), (43, .v (.agg [.int .i64 256].toArray)), (44, .v (.agg (encT shT).toArray)), (45, .v (.agg [.bool false, .int .i64 1, .slice la3 ln3 lc3, .slice pa3 pn3 pc3, .int .i64 0, .slice la4 ln4 lc4, .slice pa4 pn4 pc4].toArray))], [⟨32, [.int .i64 256]⟩, ⟨28, [.bool true, .int .i64 0, .slice la1 ln1 lc1, .slice pa1 pn1 pc1, .int .i64 1, .slice la2 ln2 lc2, .slice pa2 pn2 pc2]⟩, ⟨28, [.bool false, .int .i64 1, .slice la3 ln3 lc3, .slice pa3 pn3 pc3, .int .i64 0, .slice la4 ln4 lc4, .slice pa4 pn4 pc4]⟩, ⟨28, [.bool false, .int .i64 0, .slice la5 ln5 lc5, .slice pa5 pn5 pc5, .int .i64 0, .slice la6 ln6 lc6, .slice pa6 pn6 pc6]⟩, ⟨36, encT shT⟩]⟩ [.o 13 7, .c 14] [.o 15 3, .c 16] (by kernel_rfl) ?_
  have hla : ln3 = (openF 256 (shL.map entB) 1).leaf.length := hal2.len; have hlo := openF_short 256 shL 1
  have hlb : ln4 = opn0.leaf.length := hbl2.len; have hlz : opn0.leaf.length = 0 := rfl
  refine J.call (d := some 46) (by kernel_rfl) (fun w1 A1 m1 l1 => (by have q := seekCheck_calls 256 shT 2 rfl (by decide) ⟨#[99]⟩ false (openF 256 (shL.map entB) 1) opn0 la3 ln3 lc3 pa3 pn3 pc3 la4 ln4 lc4 pa4 pn4 pc4 (by omega) (by omega) A1 w1 m1.bdd (hal2.mv m1) (hap2.mv m1) (hbl2.mv m1) (hbp2.mv m1); rw [sh_chk] at q; exact q)) ?_
  rintro _ u5 w6 A6 rfl g5
  have m6 := g5.mv
  replace hz := hz.mv m6; replace hal1 := hal1.mv m6; replace hap1 := hap1.mv m6; replace hbl1 := hbl1.mv m6; replace hbp1 := hbp1.mv m6; replace hal2 := hal2.mv m6; replace hap2 := hap2.mv m6; replace hbl2 := hbl2.mv m6; replace hbp2 := hbp2.mv m6; replace hal3 := hal3.mv m6; replace hap3 := hap3.mv m6; replace hbl3 := hbl3.mv m6; replace hbp3 := hbp3.mv m6
  refine J.rn [.u, .u, .u, .u] [3, 4, 5, 6, 8, 47, 48, 49] [.o 15 4, .c 16] [.o 15 8, .c 16] (by kernel_rfl) ?_
  refine J.new (T := 42) (cs := [.string (⟨#[]⟩ : Str), .string (⟨#[]⟩ : Str), .bool false, .int .i64 0]) (d := 11) (K := .ptr) (by kernel_rfl) (fun b7 hb7 => ?_)
  refine J.run [.u, .u, .u, .n, .n, .n, .u, .u, .u, .w, .w, .w, .w, .u, .u, .w, .w, .w, .w, .u, .u, .w, .w, .u, .u, .w, .w, .w, .u, .u, .w, .w, .w, .w, .u, .u, .w, .w, .u, .u, .w, .w, .u, .u, .w, .u, .u, .w, .w, .w, .u, .u] [13, 95] ⟨[(13, .v (.int .i64 0)), (95, .v (.bool (shC.seq == 2)))], [⟨32, [.int .i64 256]⟩, ⟨28, [.bool true, .int .i64 0, .slice la1 ln1 lc1, .slice pa1 pn1 pc1, .int .i64 1, .slice la2 ln2 lc2, .slice pa2 pn2 pc2]⟩, ⟨28, [.bool false, .int .i64 1, .slice la3 ln3 lc3, .slice pa3 pn3 pc3, .int .i64 0, .slice la4 ln4 lc4, .slice pa4 pn4 pc4]⟩, ⟨28, [.bool false, .int .i64 0, .slice la5 ln5 lc5, .slice pa5 pn5 pc5, .int .i64 0, .slice la6 ln6 lc6, .slice pa6 pn6 pc6]⟩, ⟨36, encT shT⟩, ⟨42, encE shC⟩]⟩ [.o 15 9, .c 16] [.o 17 46, .c 18] (by kernel_rfl) ?_
  rcases Bool.eq_false_or_eq_true (shC.seq == 2) with hc | hc
  · rw [hc]
    try simp only [nrm] at hc
    have hc1 := hc
    refine J.rn [.w, .w, .u, .u, .n] [0] [.o 17 46, .c 18] [.c 18] (by kernel_rfl) ?_
    refine J.ret (v := .bool true) (by kernel_rfl) (by kernel_rfl) (fun w1 A1 m1 hac l1 => rfl)
  · rw [hc]
    try simp only [nrm] at hc
    have hc1 := hc
    refine J.rn [.x, .x, .u, .u, .n] [0] [.o 17 46, .c 18] [.c 18] (by kernel_rfl) ?_
    refine J.ret (v := .bool false) (by kernel_rfl) (by kernel_rfl) (fun w1 A1 m1 hac l1 => absurd rfl hc1)
end Go.Proofs.Ytkgokehkobifkaa.J

/- Slices that are handed in and appended to. -/
namespace Go.Proofs.Ytkgokehkobifkaa.J
open Go Go.RowKit

/-- What a call hands back that has appended to the slice oa: the same block or a new one. -/
def Grown (e : TypeId) (k : Nat) (W w : World) (oa a : Option Addr) (n c : Nat) (xs : List Value) : Prop := Nw 0 e k [] (fun _ => True) w a n c xs ∧ ∀ x, Eb a x → Eb oa x ∨ W.heap.size ≤ x

theorem Nw.lt_blk {N : Nat} {e : TypeId} {k : Nat} {ρ : List Nat} {A : Nat → Prop} {w : World} {a : Option Addr} {n c : Nat} {xs : List Value} (h : Nw N e k ρ A w a n c xs) : ∀ x, Eb a x → x < w.heap.size := fun x hx => (h.own_blk x hx).2.2.2

/-- It is taken over. -/
theorem Grown.take {N : Nat} {e : TypeId} {k : Nat} {ρ : List Nat} {A A1 : Nat → Prop} {w0 w1 w2 : World} {oa a : Option Addr} {on oc n c : Nat} {xs0 xs : List Value} (h : Grown e k w1 w2 oa a n c xs) (ho : Nw N e k ρ A w0 oa on oc xs0) (hN : N ≤ w1.heap.size) (hρ : ∀ k, k ∈ ρ → k < w1.heap.size) : Nw N e k ρ (Gr A1 a) w2 a n c xs := by
  obtain ⟨⟨h1, h2 | ⟨g, cur, rfl, h3, h4, h5, h6⟩⟩, hb⟩ := h
  · exact ⟨h1, .inl h2⟩
  · have hg := hb g ⟨_, rfl, rfl⟩
    refine ⟨h1, .inr ⟨g, cur, rfl, ?_, ?_, .inr ⟨_, rfl, rfl⟩, h6⟩⟩
    · rcases hg with hg | hg
      · exact (ho.own_blk g hg).1
      · omega
    · intro hm
      rcases hg with hg | hg
      · exact (ho.own_blk g hg).2.1 hm
      · have := hρ g hm; omega

theorem CgX.grabN {N : Nat} {e : TypeId} {k : Nat} {W : World} {ρ : List Nat} {A A1 : Nat → Prop} {w0 w1 w2 : World} {oa a : Option Addr} {on oc n c : Nat} {xs0 xs : List Value} (g : CgX (Eb oa) W ρ A A1 w0 w1 w2) (ho : Nw N e k ρ A w0 oa on oc xs0) (h : Grown e k w1 w2 oa a n c xs) : Mv (fun k => Lb ρ k ∨ Eb oa k) A (Gr A1 a) w0 w2 where
  size := g.mv.size
  same := g.mv.same
  sub := g.mv.sub
  dn := fun k hk hh => hh.elim (g.mv.dn k hk) (fun hx => by
    rcases h.2 k hx with h' | h'
    · exact (ho.own_blk k h').2.2.1
    · have := g.le; omega)
  up := fun k hk hh hn => .inl (g.mv.up k hk hh hn)
  bdd := fun k hk => hk.elim (g.mv.bdd k) (fun hx => h.1.lt_blk k hx)

section
variable {P : Program} {B : Code} {Q : Exit → Act → World → Prop} {n : Nat} {W : World} {Ac M A : Nat → Prop} {s : SS} {ρ : List Nat} {w0 : World} {r t : List It} {k j : Nat}

theorem J.grabN {e : TypeId} {kk : Nat} {w1 : World} {oa a : Option Addr} {nn c : Nat} {xs : List Value} (hn : Grown e kk w1 w0 oa a nn c xs) (h : J P B Q n W Ac M t s ρ (Gr A a) w0) : J P B Q n W Ac M t s ρ A w0 :=
  J.grabE (Eb a) (fun x hx => hn.1.lt_blk x hx) h

/-- An append to a slice that was handed in: its block may lie below the call's start, if the call may write into it. -/
theorem J.appendN {N : Nat} {T Tx e : TypeId} {a : Option Addr} {nn c d sz bytes m : Nat} {x : Value} {xs news : List Value} (hx : appOf B s.env ρ n k j = some (T, Tx, a, nn, c, x, d)) (hT : elemI P T = some (e, sz, bytes))
    (hN : N ≤ W.heap.size) (hM : ∀ k, Eb a k → k < W.heap.size → M k)
    (ho : Nw N e sz ρ A w0 a nn c xs) (hs : ∀ w1 A1, Mv (Lb ρ) A A1 w0 w1 → Locs s.mem ρ w1 → Src P sz Tx x m news w1) (hm : nn + m ≤ maxLen) (hb : (nn + m) * bytes ≤ 140737488355328)
    (h : ∀ a' c' w' A', Nw N e sz ρ A' w' a' (nn + m) c' (xs ++ news) → (∀ k, Eb a' k → Eb a k ∨ w0.heap.size ≤ k) → Mv (fun k => Lb ρ k ∨ blk A a k) A A' w0 w' → J P B Q n W Ac M (.o k (j + 1) :: r) ⟨put s.env d (.v (.slice a' (nn + m) c')), s.mem⟩ ρ A' w') :
    J P B Q n W Ac M (.o k j :: r) s ρ A w0 := by
  obtain ⟨o, hno, hd, hdn, hrun⟩ := appOf_spec hx
  refine J.op hno fun act w ok => ?_
  obtain ⟨a', c', w', A', hr, hown, hmv, hAA, h1, h2, h3, hdr, hbk, hsame⟩ := run_append (ty := o.type) hT (.inl (ho.mv ok.mv)) (.inr (ho.mv ok.mv)) (hs w _ ok.mv ok.locs) hm hb (Nat.le_trans hN ok.sn.size) ok.mv.bdd (fun k hk => ok.locs.lt hk)
  unfold Oper.wp
  rw [hrun P act w ok.fits, hr]
  simp only [Result.andThen_ok, Oper.upon, hd]
  have hblk : ∀ k, k < w0.heap.size → (blk (Av A ρ) a k → blk A a k) := fun k hk hb => ⟨ok.mv.dn k hk hb.1, hb.2⟩
  have hMv : Mv (fun k => Lb ρ k ∨ blk A a k) A A' w0 w' := {
    size := Nat.le_trans ok.size hmv.size
    same := fun k hk hn => by
      rw [hmv.same k (Nat.lt_of_lt_of_le hk ok.size) (fun hb => hn (.inr (hblk k hk hb)))]
      exact ok.same k hk (fun hm => hn (.inl hm))
    sub := fun k hk hl => hk.elim (fun h => ok.loc k h hl) (fun h => h.1)
    dn := fun k hk h => ok.mv.dn k hk (hmv.dn k (Nat.lt_of_lt_of_le hk ok.size) h)
    up := fun k hk h hn => hmv.up k (Nat.lt_of_lt_of_le hk ok.size) (.inl h) (fun hb => hn (.inr (hblk k hk hb)))
    bdd := hmv.bdd }
  have hnew : ∀ k, Eb a' k → Eb a k ∨ w0.heap.size ≤ k := fun k hk => by
    obtain ⟨x', hx', he⟩ := hk
    rcases hbk x' hx' with ⟨x2, h4, h5⟩ | h4
    · exact .inl ⟨x2, h4, h5.trans he⟩
    · exact .inr (by have := ok.size; omega)
  have hρ' : ∀ k, k ∈ ρ → w'.heap[k]? = w.heap[k]? := fun k hk => hsame k (ok.locs.lt hk) (fun hh => hh.2.2 hk)
  refine h a' c' w' A' hown hnew hMv _ _ (Ok.put (s := s) (x := .v (.slice a' (nn + m) c')) ?_ hdn (plain_grd rfl) rfl)
  exact {
    fits := ok.fits
    locs := ⟨ok.locs.len, ok.locs.nodup, fun i L hi => by
      have hm : ρ.getD i 0 ∈ ρ := by
        have : i < ρ.length := by rw [ok.locs.len]; exact (List.getElem?_eq_some_iff.1 hi).1
        simp [List.getD, List.getElem?_eq_getElem this]
      rw [hρ' _ hm]
      exact ok.locs.row hi⟩
    sn := { os := h1.trans ok.sn.os, tape := h2.trans ok.sn.tape, output := h3.trans ok.sn.output, drawn := Nat.le_trans ok.sn.drawn hdr, size := Nat.le_trans ok.sn.size hmv.size
            same := fun k hk hM' => by
              rw [hsame k (Nat.lt_of_lt_of_le hk ok.sn.size) (fun hh => hM' (hM k hh.1.2 hk))]
              exact ok.sn.same k hk hM' }
    size := Nat.le_refl _
    same := fun _ _ _ => rfl
    loc := fun k hk _ => hAA k (.inr hk)
    bdd := hmv.bdd
    fresh := ok.fresh
    sub := fun k hk => hAA k (.inl (ok.sub k hk))
    big := Nat.le_trans ok.sn.size hmv.size
    acb := ok.acb }
end
end Go.Proofs.Ytkgokehkobifkaa.J

/- Package tree: beside, Range. -/
namespace Go.Proofs.Ytkgokehkobifkaa.J
open Go Go.RowKit

/-- The roots of the parts without the leaves i to j - 1. -/
def besideF (bits : Int) (ls : List (List UInt8)) (i j : Int) : List Dg :=
  if j ≤ 0 ∨ ((ls.length : Nat) : Int) ≤ i then [rootF bits ls]
  else if h1 : ls.length ≤ 1 then []
  else besideF bits (ls.take (half ls.length)) i j ++ besideF bits (ls.drop (half ls.length)) (i - ((half ls.length : Nat) : Int)) (j - ((half ls.length : Nat) : Int))
termination_by ls.length
decreasing_by
  · have := half_lt (n := ls.length) (by omega); rw [List.length_take]; omega
  · have := half_lt (n := ls.length) (by omega); rw [List.length_drop]; omega
theorem besideF_out {bits : Int} {ls : List (List UInt8)} {i j : Int} (h : j ≤ 0 ∨ ((ls.length : Nat) : Int) ≤ i) : besideF bits ls i j = [rootF bits ls] := by rw [besideF, if_pos h]
theorem besideF_one {bits : Int} {ls : List (List UInt8)} {i j : Int} (h : ¬ (j ≤ 0 ∨ ((ls.length : Nat) : Int) ≤ i)) (h1 : ls.length ≤ 1) : besideF bits ls i j = [] := by rw [besideF, if_neg h, dif_pos h1]
theorem besideF_two {bits : Int} {ls : List (List UInt8)} {i j : Int} (h : ¬ (j ≤ 0 ∨ ((ls.length : Nat) : Int) ≤ i)) (h1 : 2 ≤ ls.length) : besideF bits ls i j = besideF bits (ls.take (half ls.length)) i j ++ besideF bits (ls.drop (half ls.length)) (i - ((half ls.length : Nat) : Int)) (j - ((half ls.length : Nat) : Int)) := by rw [besideF, if_neg h, dif_neg (by omega)]
theorem besideF_len (bits : Int) : ∀ (N : Nat) (ls : List (List UInt8)) (i j : Int), ls.length < N → 1 ≤ ls.length → (besideF bits ls i j).length ≤ ls.length
  | 0, _, _, _, h, _ => absurd h (Nat.not_lt_zero _)
  | N + 1, ls, i, j, h, hp => by
    by_cases h1 : j ≤ 0 ∨ ((ls.length : Nat) : Int) ≤ i
    · rw [besideF_out h1]; simpa using hp
    · by_cases h2 : ls.length ≤ 1
      · rw [besideF_one h1 h2]; simp
      · have hh := half_lt (n := ls.length) (by omega)
        have e1 : (ls.take (half ls.length)).length = half ls.length := by rw [List.length_take]; omega
        have e2 : (ls.drop (half ls.length)).length = ls.length - half ls.length := List.length_drop
        rw [besideF_two h1 (by omega), List.length_append]
        have i1 := besideF_len bits N (ls.take (half ls.length)) i j (by omega) (by omega)
        have i2 := besideF_len bits N (ls.drop (half ls.length)) (i - ((half ls.length : Nat) : Int)) (j - ((half ls.length : Nat) : Int)) (by omega) (by omega)
        omega
theorem besideF_le (bits : Int) (ls : List (List UInt8)) (i j : Int) (h : 1 ≤ ls.length) : (besideF bits ls i j).length ≤ ls.length := besideF_len bits _ ls i j (Nat.lt_succ_self _) h
theorem Nw.lower {N N' : Nat} {e : TypeId} {k : Nat} {ρ ρ' : List Nat} {A A' : Nat → Prop} {w : World} {a : Option Addr} {n c : Nat} {xs : List Value} (h : Nw N e k ρ A w a n c xs) (hN : N' ≤ N) (hρ : ∀ x, x ∈ ρ' → x ∈ ρ) (hA : ∀ x, Eb a x → A' x) : Nw N' e k ρ' A' w a n c xs := by
  obtain ⟨h1, h2 | ⟨g, cur, rfl, h3, h4, h5, h6⟩⟩ := h
  · exact ⟨h1, .inl h2⟩
  · exact ⟨h1, .inr ⟨g, cur, rfl, by omega, fun h => h4 (hρ _ h), hA g ⟨_, rfl, rfl⟩, h6⟩⟩
theorem Nw.grown {N : Nat} {e : TypeId} {k : Nat} {ρ : List Nat} {A : Nat → Prop} {W w : World} {oa a : Option Addr} {n c : Nat} {xs : List Value} (h : Nw N e k ρ A w a n c xs) (hb : ∀ x, Eb a x → Eb oa x ∨ W.heap.size ≤ x) : Grown e k W w oa a n c xs :=
  ⟨h.lower (Nat.zero_le _) (fun _ h => nomatch h) (fun _ _ => trivial), hb⟩
theorem Nw.len {α : Type} {N : Nat} {e : TypeId} {k : Nat} {ρ : List Nat} {A : Nat → Prop} {w : World} {a : Option Addr} {n c : Nat} {enc : α → List Value} {l : List α} (h : Nw N e k ρ A w a n c (l.flatMap enc)) (hk : ∀ x ∈ l, (enc x).length = k) (hkp : 0 < k) : n = l.length := (h.any hk hkp).len

theorem beside_step (bits : Int) (oa : Option Addr) (on oc : Nat) (xs : List Dg) (a : Option Addr) (n c : Nat) (ls : List (List UInt8)) (i j : Int) (ih : ∀ (oa : Option Addr) (on oc : Nat) (xs : List Dg) (a : Option Addr) (n c : Nat) (l2 : List (List UInt8)) (i2 j2 : Int), l2.length < ls.length → 1 ≤ l2.length → Short l2 → l2.length ≤ 1000000 → on + l2.length ≤ 2000000 → ((l2.length : Nat) : Int) - 1000000000 ≤ i2 → i2 ≤ 1000000000 → ((l2.length : Nat) : Int) - 1000000000 ≤ j2 → j2 ≤ 1000000000 → ∀ (Ac : Nat → Prop) (W : World), (∀ k, Ac k → k < W.heap.size) → Nw 0 34 32 [] Ac W oa on oc (xs.flatMap dcells) → Rows Ac W a n c l2 → Calls Pr 86 #[.agg [.int .i64 bits].toArray, .slice oa on oc, .slice a n c, .int .i64 i2, .int .i64 j2] W (Ret (Eb oa) W fun v w => ∃ a' n' c', v = .slice a' n' c' ∧ Grown 34 32 W w oa a' n' c' ((xs ++ besideF bits l2 i2 j2).flatMap dcells))) (hp : 1 ≤ ls.length) (hsh : Short ls) (hn : ls.length ≤ 1000000) (hon : on + ls.length ≤ 2000000) (hi1 : ((ls.length : Nat) : Int) - 1000000000 ≤ i) (hi2 : i ≤ 1000000000) (hj1 : ((ls.length : Nat) : Int) - 1000000000 ≤ j) (hj2 : j ≤ 1000000000) (Ac : Nat → Prop) (W : World) (hA : ∀ k, Ac k → k < W.heap.size) (ho : Nw 0 34 32 [] Ac W oa on oc (xs.flatMap dcells)) (hs : Rows Ac W a n c ls) :
    Calls Pr 86 #[.agg [.int .i64 bits].toArray, .slice oa on oc, .slice a n c, .int .i64 i, .int .i64 j] W (Ret (Eb oa) W fun v w => ∃ a' n' c', v = .slice a' n' c' ∧ Grown 34 32 W w oa a' n' c' ((xs ++ besideF bits ls i j).flatMap dcells)) := by
  refine J.enter (fn := Try.f86) (n := 55) Try.func86 (by kernel_rfl) (by kernel_rfl) (by kernel_rfl) hA ?_
  have hlen := hs.len; have hle := hs.le; have hcap := hs.cap; simp only [maxLen] at hcap; have hxl := ho.len (fun x _ => rfl) (by decide)
  have hg0 : ∀ x, Eb oa x → Eb oa x ∨ W.heap.size ≤ x := fun _ h => .inl h
  have hik : ∀ (z : Int) (k : Nat), k < ls.length → ((ls.length : Nat) : Int) - 1000000000 ≤ z → z ≤ 1000000000 → IntKind.i64.wrap (z - ((k : Nat) : Int)) = z - ((k : Nat) : Int) := fun z k hk h1 h2 => wrap_i64 (by omega) (by omega)
  refine J.rn [.n, .n] [0, 1, 2, 3, 4] [.c 0] [.o 1 0, .c 2] (by kernel_rfl) ?_
  refine J.new (T := 32) (cs := [.int .i64 bits]) (d := 5) (K := .ptr) (by kernel_rfl) (fun b1 hb1 => ?_)
  replace ho := ho.more hb1
  refine J.run [.u, .n, .n, .n, .n, .n, .u, .u, .u] [1, 2, 3, 4, 5, 15] ⟨[(1, .v (.slice oa on oc)), (2, .v (.slice a n c)), (3, .v (.int .i64 i)), (4, .v (.int .i64 j)), (5, .loc 0 0), (15, .v (.bool (decide (j ≤ 0))))], [⟨32, [.int .i64 bits]⟩]⟩ [.o 1 1, .c 2] [.o 5 3, .c 6, .b 0, .c 17] (by kernel_rfl) ?_
  rcases Bool.eq_false_or_eq_true (decide (j ≤ 0)) with hc | hc
  · rw [hc]
    try simp only [nrm] at hc
    have hc1 := hc
    refine J.rn [.x, .x, .x, .x, .u, .u, .n] [1, 2, 3, 4, 5, 12] [.o 5 3, .c 6, .b 0, .c 17] [.c 6, .b 0, .c 17] (by kernel_rfl) ?_
    refine J.cond (b := true) (k' := 10) (by kernel_rfl) (fun _ => ?_) (fun hc => absurd hc (by decide))
    refine J.run [.n, .n, .u, .u, .u] [21, 22, 23] ⟨[(21, .v (.slice oa on oc)), (22, .v (.agg [.int .i64 bits].toArray)), (23, .v (.slice a n c))], [⟨32, [.int .i64 bits]⟩]⟩ [.c 7, .b 0, .c 17] [.o 8 3, .c 9, .b 0, .c 17] (by kernel_rfl) ?_
    refine J.call (d := some 24) (by kernel_rfl) (fun w1 A1 m1 l1 => root_calls bits _ a n c ls (Nat.lt_succ_self _) (by first | assumption | exact Short.take (by assumption) _ | exact Short.drop (by assumption) _ | exact Short.drop (Short.take (by assumption) _) _) (by first | omega | (simp; omega)) nobody w1 noA (hs.mv m1).any) ?_
    rintro _ u1 w1 A1 rfl g1
    have m1 := g1.mv
    replace hs := hs.mv m1; replace ho := ho.mv m1
    refine J.new (T := 34) (cs := dcells (rootF bits ls)) (d := 25) (K := (.sl 1)) (by kernel_rfl) (fun b2 hb2 => ?_)
    replace ho := ho.more hb2
    refine J.appendN (N := 0) (e := 34) (sz := 32) (a := oa) (nn := on) (c := oc) (T := 24) (Tx := 24) (x := .slice (some ⟨b2, 0, none⟩) 1 1) (bytes := 32) (d := 26) (xs := xs.flatMap dcells) (news := dcells (rootF bits ls)) (m := 1) (by kernel_rfl) (by kernel_rfl) (Nat.zero_le _) (fun k hk _ => hk) ho (fun w1 A1 m1 l1 => l1.src (i := 1) rfl (e := 34) (by kernel_rfl) rfl rfl) (by simp only [maxLen]; omega) (by omega) ?_
    intro a3 c3 w3 A3 h3 hb3 m3
    replace h3 := h3.re (n' := on + 1) (ys := (xs ++ [rootF bits ls]).flatMap dcells) rfl (by rw [List.flatMap_append]; rfl)
    have hb4 : ∀ x, Eb a3 x → Eb oa x ∨ W.heap.size ≤ x := fun x hx => (hb3 x hx).imp id (fun h => by have := m1.size; omega)
    refine J.rn [.u, .n] [10] [.o 8 6, .c 9, .b 0, .c 17] [.c 9, .b 0, .c 17] (by kernel_rfl) ?_
    refine J.ret (v := .slice a3 (on + 1) c3) (by kernel_rfl) (by kernel_rfl) (fun w1 A1 m1 hac l1 => ⟨_, _, _, rfl, by rw [besideF_out (by omega)]; exact (h3.mv m1).grown hb4⟩)
  · rw [hc]
    try simp only [nrm] at hc
    have hc1 := hc
    refine J.rn [.w, .w, .w, .w, .u, .u, .n] [1, 2, 3, 4, 5, 12] [.o 5 3, .c 6, .b 0, .c 17] [.c 6, .b 0, .c 17] (by kernel_rfl) ?_
    refine J.cond (b := (decide (i ≥ ((n : Nat) : Int)))) (k' := 10) (by kernel_rfl) (fun hc => ?_) (fun hc => ?_)
    · try simp only [nrm] at hc
      have hc2 := hc
      refine J.run [.n, .n, .u, .u, .u] [21, 22, 23] ⟨[(21, .v (.slice oa on oc)), (22, .v (.agg [.int .i64 bits].toArray)), (23, .v (.slice a n c))], [⟨32, [.int .i64 bits]⟩]⟩ [.c 7, .b 0, .c 17] [.o 8 3, .c 9, .b 0, .c 17] (by kernel_rfl) ?_
      refine J.call (d := some 24) (by kernel_rfl) (fun w1 A1 m1 l1 => root_calls bits _ a n c ls (Nat.lt_succ_self _) (by first | assumption | exact Short.take (by assumption) _ | exact Short.drop (by assumption) _ | exact Short.drop (Short.take (by assumption) _) _) (by first | omega | (simp; omega)) nobody w1 noA (hs.mv m1).any) ?_
      rintro _ u2 w2 A2 rfl g2
      have m2 := g2.mv
      replace hs := hs.mv m2; replace ho := ho.mv m2
      refine J.new (T := 34) (cs := dcells (rootF bits ls)) (d := 25) (K := (.sl 1)) (by kernel_rfl) (fun b3 hb3 => ?_)
      replace ho := ho.more hb3
      refine J.appendN (N := 0) (e := 34) (sz := 32) (a := oa) (nn := on) (c := oc) (T := 24) (Tx := 24) (x := .slice (some ⟨b3, 0, none⟩) 1 1) (bytes := 32) (d := 26) (xs := xs.flatMap dcells) (news := dcells (rootF bits ls)) (m := 1) (by kernel_rfl) (by kernel_rfl) (Nat.zero_le _) (fun k hk _ => hk) ho (fun w1 A1 m1 l1 => l1.src (i := 1) rfl (e := 34) (by kernel_rfl) rfl rfl) (by simp only [maxLen]; omega) (by omega) ?_
      intro a3 c3 w3 A3 h3 hb3 m3
      replace h3 := h3.re (n' := on + 1) (ys := (xs ++ [rootF bits ls]).flatMap dcells) rfl (by rw [List.flatMap_append]; rfl)
      have hb4 : ∀ x, Eb a3 x → Eb oa x ∨ W.heap.size ≤ x := fun x hx => (hb3 x hx).imp id (fun h => by have := m2.size; omega)
      refine J.rn [.u, .n] [10] [.o 8 6, .c 9, .b 0, .c 17] [.c 9, .b 0, .c 17] (by kernel_rfl) ?_
      refine J.ret (v := .slice a3 (on + 1) c3) (by kernel_rfl) (by kernel_rfl) (fun w1 A1 m1 hac l1 => ⟨_, _, _, rfl, by rw [besideF_out (by omega)]; exact (h3.mv m1).grown hb4⟩)
    · try simp only [nrm] at hc
      have hc2 := hc
      refine J.rn [.n, .n, .u, .u, .u, .u, .n] [1, 2, 3, 4, 5, 27] [.c 10, .b 0, .c 17] [.c 12, .b 0, .c 17] (by kernel_rfl) ?_
      refine J.cond (b := (((n : Nat) : Int) == 1)) (k' := 16) (by kernel_rfl) (fun hc => ?_) (fun hc => ?_)
      · try simp only [nrm] at hc
        have hc3 := hc
        refine J.rn [.n, .n, .u, .u, .n] [10] [.c 13, .b 0, .c 17] [.c 15, .b 0, .c 17] (by kernel_rfl) ?_
        refine J.ret (v := .slice oa on oc) (by kernel_rfl) (by kernel_rfl) (fun w1 A1 m1 hac l1 => ⟨_, _, _, rfl, by rw [besideF_one (by omega) (by omega), List.append_nil]; exact (ho.mv m1).grown hg0⟩)
      · try simp only [nrm] at hc
        have hc3 := hc
        refine J.run [.n, .n, .n, .n, .u, .u] [1, 2, 3, 4, 5, 33] ⟨[(1, .v (.slice oa on oc)), (2, .v (.slice a n c)), (3, .v (.int .i64 i)), (4, .v (.int .i64 j)), (5, .loc 0 0), (33, .v (.int .i64 ((n : Nat) : Int)))], [⟨32, [.int .i64 bits]⟩]⟩ [.c 16, .b 0, .c 17] [.o 18 2, .c 19] (by kernel_rfl) ?_
        have hhh1 := half_lt2 n
        refine J.call (d := some 34) (by kernel_rfl) (fun w1 A1 m1 l1 => tree_half n (by omega) (by simp only [maxLen]; omega) nobody w1 noA) ?_
        rintro _ u3 w3 A3 rfl g3
        have m3 := g3.mv
        replace hs := hs.mv m3; replace ho := ho.mv m3
        refine J.run [.u, .n, .n] [1, 2, 3, 4, 5, 11] ⟨[(1, .v (.slice oa on oc)), (2, .v (.slice a n c)), (3, .v (.int .i64 i)), (4, .v (.int .i64 j)), (5, .loc 0 0), (11, .v (.int .i64 ((half n : Nat) : Int)))], [⟨32, [.int .i64 bits]⟩]⟩ [.o 18 3, .c 19] [.c 20, .c 21] (by kernel_rfl) ?_
        refine J.draw [] (adr oa) (by kernel_rfl) (by kernel_rfl) ho.adrA (fun w4 A4 m4 hr1 hX1 => ?_)
        replace hs := hs.mv m4; replace ho := ho.mv m4
        refine J.take0 [(0, .u), (1, .u), (2, .u), (3, .u), (5, .u), (6, .u)] [2, 3, 4, 5, 11, 35, 36, 37, 38, 40, 41] [(2, .v (.slice a n c)), (3, .v (.int .i64 i)), (4, .v (.int .i64 j)), (5, .loc 0 0), (11, .v (.int .i64 ((half n : Nat) : Int))), (35, .v (.agg [.int .i64 bits].toArray)), (36, .v (.slice oa on oc)), (37, .v (.slice a n c)), (38, .v (.int .i64 ((half n : Nat) : Int))), (40, .v (.int .i64 i)), (41, .v (.int .i64 j))] [6, 5, 3, 2, 1, 0] (calm_body _ _ _) ho.adrN hr1 (by kernel_rfl) ?_
        refine J.slp (j := 4) (a := a) (len := n) (cap := c) (sz := 1) (lo := none) (hi := (some ((half n : Nat) : Int))) (mx := none) (d := 39) (calm_body _ _ _) (by kernel_rfl) (by kernel_rfl) 0 (half n) c (by simp) (by simp) (by simp) (by have := hs.le; omega) (by have := hs.le; omega) (by have := hs.le; omega) (by simp) ?_
        intro a1 ha1 hb1
        rw [hb1 rfl, Nat.sub_zero, Nat.sub_zero]; clear ha1 hb1 a1
        have hp1 := hs.upto (H := half n) (X := c) (by have := hs.le; omega) (by have := hs.le; omega) (by have := hs.le; omega)
        refine J.pick1 7 (by kernel_rfl) (by kernel_rfl) ?_
        refine J.callXq (X := Eb oa) (d := some 42) (fun k hk _ => ⟨(hg0 k hk).symm, (ho.own_blk k hk).2.1, (ho.own_blk k hk).2.2.1⟩) (fun k hk => (ho.own_blk k hk).2.2.2) (fun k hk _ => .inl hk) (by kernel_rfl) (fun w1 A1 m1 l1 => ih oa on oc xs a (half n) c (ls.take (half n)) i j  (by simp; omega) (by simp; omega) (by first | assumption | exact Short.take (by assumption) _ | exact Short.drop (by assumption) _ | exact Short.drop (Short.take (by assumption) _) _) (by simp; omega) (by simp; omega) (by simp; omega) (by omega) (by simp; omega) (by omega) A1 w1 m1.bdd ((ho.mv m1).lower (Nat.le_refl _) (fun _ h => nomatch h) (fun x hx => ((ho.mv m1).own_blk x hx).2.2.1)) (hp1.mv m1)) ?_
        rintro _ u4 w5 A5 ⟨oa1, on1, oc1, rfl, hn1⟩ g4
        have hg1 : ∀ x, Eb oa1 x → Eb oa x ∨ W.heap.size ≤ x := fun x hx => (hn1.2 x hx).elim (hg0 x) (fun h => .inr (Nat.le_trans g4.big h))
        refine J.grabN hn1 ?_
        have m5 := g4.grabN ho hn1
        replace hn1 := hn1.take (A1 := A5) ho (Nat.zero_le _) g4.rho
        replace hs := hs.mv m5; replace hp1 := hp1.mv m5
        have hplhn1 := besideF_le bits (ls.take (half n)) i j (by simp; omega); simp at hplhn1
        have hnlhn1 := hn1.len (fun x _ => rfl) (by decide); simp at hnlhn1
        refine J.take1 [(8, .u)] [1, 2, 3, 4, 5, 11] [(1, .v (.slice oa1 on1 oc1)), (2, .v (.slice a n c)), (3, .v (.int .i64 i)), (4, .v (.int .i64 j)), (5, .loc 0 0), (11, .v (.int .i64 ((half n : Nat) : Int)))] [8, 7, 4, 6, 5, 3, 2, 1, 0] (calm_body _ _ _) (by kernel_rfl) ?_
        refine J.pdone (by kernel_rfl) ?_
        refine J.run [.n] [1, 2, 3, 4, 5, 11] ⟨[(1, .v (.slice oa1 on1 oc1)), (2, .v (.slice a n c)), (3, .v (.int .i64 i)), (4, .v (.int .i64 j)), (5, .loc 0 0), (11, .v (.int .i64 ((half n : Nat) : Int)))], [⟨32, [.int .i64 bits]⟩]⟩ [.c 21] [.c 22, .c 23] (by kernel_rfl) ?_
        refine J.draw [] (adr oa1) (by kernel_rfl) (by kernel_rfl) hn1.adrA (fun w6 A6 m6 hr2 hX2 => ?_)
        replace hs := hs.mv m6; replace hp1 := hp1.mv m6; replace hn1 := hn1.mv m6
        refine J.take0 [(0, .u), (1, .u), (2, .u), (3, .u), (5, .u), (6, .u), (7, .u), (8, .u), (9, .u), (10, .u)] [43, 44, 45, 46, 50, 53] [(43, .v (.agg [.int .i64 bits].toArray)), (44, .v (.slice oa1 on1 oc1)), (45, .v (.slice a n c)), (46, .v (.int .i64 ((half n : Nat) : Int))), (50, .v (.int .i64 (IntKind.i64.wrap (i - ((half n : Nat) : Int))))), (53, .v (.int .i64 (IntKind.i64.wrap (j - ((half n : Nat) : Int)))))] [10, 9, 8, 7, 6, 5, 3, 2, 1, 0] (calm_body _ _ _) hn1.adrN hr2 (by kernel_rfl) ?_
        rw [hik i (half n) (by omega) hi1 hi2]
        rw [hik j (half n) (by omega) hj1 hj2]
        refine J.slp (j := 4) (a := a) (len := n) (cap := c) (sz := 1) (lo := (some ((half n : Nat) : Int))) (hi := none) (mx := none) (d := 47) (calm_body _ _ _) (by kernel_rfl) (by kernel_rfl) (half n) n c (by simp) (by simp) (by simp) (by have := hs.le; omega) (by have := hs.le; omega) (by have := hs.le; omega) (by simp) ?_
        intro a2 ha2 hb2
        have hp2 := hs.from (L := half n) (by have := hs.le; omega) ha2
        refine J.pick1 11 (by kernel_rfl) (by kernel_rfl) ?_
        refine J.callXq (X := Eb oa1) (d := some 54) (fun k hk _ => ⟨(hg1 k hk).symm, (hn1.own_blk k hk).2.1, (hn1.own_blk k hk).2.2.1⟩) (fun k hk => (hn1.own_blk k hk).2.2.2) (fun k hk _ => .inl hk) (by kernel_rfl) (fun w1 A1 m1 l1 => ih oa1 on1 oc1 (xs ++ besideF bits (ls.take (half n)) i j) a2 (n - (half n)) (c - (half n)) (ls.drop (half n)) (i - ((half n : Nat) : Int)) (j - ((half n : Nat) : Int))  (by simp; omega) (by simp; omega) (by first | assumption | exact Short.take (by assumption) _ | exact Short.drop (by assumption) _ | exact Short.drop (Short.take (by assumption) _) _) (by simp; omega) (by simp; omega) (by simp; omega) (by omega) (by simp; omega) (by omega) A1 w1 m1.bdd ((hn1.mv m1).lower (Nat.le_refl _) (fun _ h => nomatch h) (fun x hx => ((hn1.mv m1).own_blk x hx).2.2.1)) (hp2.mv m1)) ?_
        rintro _ u5 w7 A7 ⟨oa2, on2, oc2, rfl, hn2⟩ g5
        have hg2 : ∀ x, Eb oa2 x → Eb oa x ∨ W.heap.size ≤ x := fun x hx => (hn2.2 x hx).elim (hg1 x) (fun h => .inr (Nat.le_trans g5.big h))
        refine J.grabN hn2 ?_
        have m7 := g5.grabN hn1 hn2
        replace hn2 := hn2.take (A1 := A7) hn1 (Nat.zero_le _) g5.rho
        replace hs := hs.mv m7; replace hp1 := hp1.mv m7; replace hp2 := hp2.mv m7
        have hplhn2 := besideF_le bits (ls.drop (half n)) (i - ((half n : Nat) : Int)) (j - ((half n : Nat) : Int)) (by simp; omega); simp at hplhn2
        have hnlhn2 := hn2.len (fun x _ => rfl) (by decide); simp at hnlhn2
        refine J.take1 [(12, .u)] [10] [(10, .v (.slice oa2 on2 oc2))] [12, 11, 4, 10, 9, 8, 7, 6, 5, 3, 2, 1, 0] (calm_body _ _ _) (by kernel_rfl) ?_
        refine J.pdone (by kernel_rfl) ?_
        refine J.ret (v := .slice oa2 on2 oc2) (by kernel_rfl) (by kernel_rfl) (fun w1 A1 m1 hac l1 => ⟨_, _, _, rfl, by rw [besideF_two (by omega) (by omega), ← hlen, ← List.append_assoc]; exact (hn2.mv m1).grown hg2⟩)
theorem beside_calls (bits : Int) : ∀ (N : Nat) (oa : Option Addr) (on oc : Nat) (xs : List Dg) (a : Option Addr) (n c : Nat) (ls : List (List UInt8)) (i j : Int), ls.length < N → 1 ≤ ls.length → Short ls → ls.length ≤ 1000000 → on + ls.length ≤ 2000000 → ((ls.length : Nat) : Int) - 1000000000 ≤ i → i ≤ 1000000000 → ((ls.length : Nat) : Int) - 1000000000 ≤ j → j ≤ 1000000000 → ∀ (Ac : Nat → Prop) (W : World), (∀ k, Ac k → k < W.heap.size) → Nw 0 34 32 [] Ac W oa on oc (xs.flatMap dcells) → Rows Ac W a n c ls → Calls Pr 86 #[.agg [.int .i64 bits].toArray, .slice oa on oc, .slice a n c, .int .i64 i, .int .i64 j] W (Ret (Eb oa) W fun v w => ∃ a' n' c', v = .slice a' n' c' ∧ Grown 34 32 W w oa a' n' c' ((xs ++ besideF bits ls i j).flatMap dcells))
  | 0, _, _, _, _, _, _, _, _, _, _, h, _, _, _, _, _, _, _, _, _, _, _, _, _ => absurd h (Nat.not_lt_zero _)
  | N + 1, oa, on, oc, xs, a, n, c, ls, i, j, h, h1, h2, h3, h4, h5, h6, h7, h8, Ac, W, hA, ho, hs => beside_step bits oa on oc xs a n c ls i j (fun oa on oc xs a n c l2 i2 j2 hl => beside_calls bits N oa on oc xs a n c l2 i2 j2 (by omega)) h1 h2 h3 h4 h5 h6 h7 h8 Ac W hA ho hs
end Go.Proofs.Ytkgokehkobifkaa.J
