/- Part 6 of the texts that the proof of the row stands on: the calculus, contracts of the functions, plain laws; no condition of its own. -/
import Derived.Test.YtkgokehkobifkaaSB5
import Derived.Deep.Slices
import Derived.WalkKit
import Derived.ProofKit
import Derived.OpenShut
import Derived.ShutString
import Derived.ChangeOld
import Derived.Below
import Derived.SizedLaws
import Derived.Carry
set_option linter.unusedVariables false
set_option linter.unusedSimpArgs false
/- SeekBack: what two lists of entries have in common; the walk. -/
namespace Go.Proofs.Ytkgokehkobifkaa.J
open Go Go.RowKit

def sameL : List Ent → List Ent → Bool
  | [], [] => true
  | x :: xs, y :: ys => entEq x y && sameL xs ys
  | _, _ => false
theorem sameL_iff : ∀ {xs ys : List Ent}, sameL xs ys = true ↔ xs = ys
  | [], [] => by simp [sameL]
  | [], _ :: _ => by simp [sameL]
  | _ :: _, [] => by simp [sameL]
  | x :: xs, y :: ys => by simp [sameL, entEq_iff, sameL_iff (xs := xs) (ys := ys)]
theorem sameL_no {xs ys : List Ent} {i : Nat} {x y : Ent} (hx : xs[i]? = some x) (hy : ys[i]? = some y) (h : entEq x y = false) : sameL xs ys = false := by
  cases hs : sameL xs ys with
  | false => rfl
  | true =>
    have := sameL_iff.1 hs
    subst this
    rw [hx] at hy; cases hy
    rw [entEq_refl] at h; cases h
theorem sameL_len {xs ys : List Ent} (h : xs.length ≠ ys.length) : sameL xs ys = false := by
  cases hs : sameL xs ys with
  | false => rfl
  | true => exact absurd (congrArg List.length (sameL_iff.1 hs)) h
theorem sameL_all {xs ys : List Ent} (hl : xs.length = ys.length) (h : ∀ (i : Nat) (x y : Ent), xs[i]? = some x → ys[i]? = some y → entEq x y = true) : sameL xs ys = true := by
  rw [sameL_iff]
  apply List.ext_getElem hl
  intro i h1 h2
  exact entEq_iff.1 (h i _ _ (List.getElem?_eq_getElem h1) (List.getElem?_eq_getElem h2))

theorem proveF_short (bits : Int) (l : List Ent) (key : Str) : (proveF bits l key).1.2.1.leaf.length ≤ 10000 ∧ (proveF bits l key).1.2.2.leaf.length ≤ 10000 := by
  unfold proveF
  split
  · split
    · exact ⟨openF_short _ _ _, by simp [opn0]⟩
    · split
      · simp [opn0]
      · exact ⟨openF_short _ _ _, openF_short _ _ _⟩
  · simp [opn0]
theorem spanF_short (bits : Int) (l : List Ent) (lo hi : Str) : Short (spanF bits l lo hi).1.leaves := by
  unfold spanF
  split
  · split
    · intro b hb; cases hb
    · exact (short_ents l).take _ |>.drop _
  · intro b hb; cases hb
/-- What the check of a key's own point tells. -/
def chkE (key : Str) (l : List Ent) : Ent := if hasKey key l = true then l.getD (cntLt key l) ent0 else ent0
theorem chkE_at {key : Str} {l : List Ent} {x : Ent} (h : hasKey key l = true) (hx : l[cntLt key l]? = some x) : chkE key l = x := by unfold chkE; rw [if_pos h]; simp [List.getD, hx]
theorem check_point' {bits : Int} {l : List Ent} (h : FitL l) (key : Str) (hp : (proveF bits l key).2 = 0) :
    seekC bits (descF bits 1 l).1 l.length key (proveF bits l key).1.1 (proveF bits l key).1.2.1 (proveF bits l key).1.2.2 = (chkE key l, hasKey key l, 0) := check_point h (by decide) (by decide) key hp
theorem cov_ne {bits : Int} {l : List Ent} (h : FitL l) (key : Str) : (!(coversF (descF bits 1 l).1 key == ((proveF bits l key).2 == 0))) = false := by
  rw [covers_iff (bits := bits) h (by decide) (by decide) key]
  cases hd : decide ((proveF bits l key).2 = 0) <;> simp_all
theorem over_ne {bits : Int} {l : List Ent} (h : FitL l) (lo hi : Str) : (!(overF (descF bits 1 l).1 lo hi == ((spanF bits l lo hi).2 == 0))) = false := by
  rw [over_iff (bits := bits) h (by decide) (by decide) lo hi]
  cases hd : decide ((spanF bits l lo hi).2 = 0) <;> simp_all
theorem filter_next {p : Ent → Bool} {l : List Ent} {i : Nat} {x : Ent} (hx : l[i]? = some x) : (l.take (i + 1)).filter p = (l.take i).filter p ++ (if p x = true then [x] else []) := by
  rw [take_snoc hx, List.filter_append]
  cases h : p x <;> simp [h]
structure WantSt where
  i : Nat
  k : Nat
  a : Option Addr
  c : Nat

theorem same_calls (a : Option Addr) (n c : Nat) (xs : List Ent) (b : Option Addr) (m d : Nat) (ys : List Ent) (Ac : Nat → Prop) (W : World) (hA : ∀ k, Ac k → k < W.heap.size) (hs : Sl 4 encE Ac W a n c xs) (ht : Sl 4 encE Ac W b m d ys) :
    Calls Pr 23 #[.slice a n c, .slice b m d] W (Ret nobody W fun v w => v = .bool (sameL xs ys)) := by
  refine J.enter (fn := Try.f23) (n := 26) Try.func23 (by kernel_rfl) (by kernel_rfl) (by kernel_rfl) hA ?_
  have hlen := hs.len; have hle := hs.le; have hcap := hs.cap; have hlen2 := ht.len; have hle2 := ht.le; simp only [maxLen] at hcap
  refine J.run [.n, .n, .u, .n, .n, .n, .n, .u, .u, .u, .u, .u, .n] [0, 1, 10] ⟨[(0, .v (.slice a n c)), (1, .v (.slice b m d)), (10, .v (.bool (((n : Nat) : Int) != ((m : Nat) : Int))))], []⟩ [.c 0] [.c 5, .c 10] (by kernel_rfl) ?_
  refine J.cond (b := (((n : Nat) : Int) != ((m : Nat) : Int))) (k' := 9) (by kernel_rfl) (fun hc => ?_) (fun hc => ?_)
  · try simp only [nrm] at hc
    have hc1 := hc
    refine J.run [.n, .n, .u, .n] [4] ⟨[(4, .v (.bool false))], []⟩ [.c 6, .c 10] [.c 8, .c 10] (by kernel_rfl) ?_
    refine J.ret (v := .bool false) (by kernel_rfl) (by kernel_rfl) (fun w1 A1 m1 hac l1 => by rw [sameL_len (by omega)])
  · try simp only [nrm] at hc
    have hc1 := hc
    refine J.run [.n, .n, .n, .n, .u, .n, .n] [0, 1, 5] ⟨[(0, .v (.slice a n c)), (1, .v (.slice b m d)), (5, .v (.int .i64 0))], []⟩ [.c 9, .c 10] [.c 14, .b 0, .c 31] (by kernel_rfl) ?_
    have hnm : n = m := by omega
    refine J.loop (X := Nat) (fun i => ⟨[(0, .v (.slice a n c)), (1, .v (.slice b m d)), (5, .v (.int .i64 ((i : Nat) : Int)))], []⟩) (fun i A w => i ≤ n ∧ Sl 4 encE A w a n c xs ∧ Sl 4 encE A w b m d ys ∧ ∀ j x y, j < i → xs[j]? = some x → ys[j]? = some y → entEq x y = true) (fun i => n - i) [0, 1, 5] 0 [] 0 (by kernel_rfl) (by kernel_rfl) (by kernel_rfl) (fun w1 A1 m1 => ⟨Nat.zero_le _, hs.mv m1, ht.mv m1, fun j _ _ h => absurd h (Nat.not_lt_zero _)⟩) (fun i A1 w1 hI => ?_)
    obtain ⟨hi, hs, ht, hb⟩ := hI
    refine J.run [.n, .n, .n, .u, .u, .u, .u, .n] [0, 1, 5, 14] ⟨[(0, .v (.slice a n c)), (1, .v (.slice b m d)), (5, .v (.int .i64 ((i : Nat) : Int))), (14, .v (.bool (decide (((i : Nat) : Int) < ((n : Nat) : Int)))))], []⟩ [.c 15] [.c 18, .c 21] (by kernel_rfl) ?_
    refine J.cond (b := (decide (((i : Nat) : Int) < ((n : Nat) : Int)))) (k' := 20) (by kernel_rfl) (fun hc => ?_) (fun hc => ?_)
    · try simp only [nrm] at hc
      have hc2 := hc
      refine J.run [.n, .n, .n, .n] [0, 1, 5] ⟨[(0, .v (.slice a n c)), (1, .v (.slice b m d)), (5, .v (.int .i64 ((i : Nat) : Int)))], []⟩ [.c 19, .c 21] [.c 24, .c 25, .b 1, .c 30] (by kernel_rfl) ?_
      refine J.draw [] nobody (by kernel_rfl) (by kernel_rfl) (fun _ h => h.elim) (fun w2 A2 m1 hr1 hX1 => ?_)
      replace hs := hs.mv m1; replace ht := ht.mv m1
      refine J.take0 [(0, .u), (1, .u), (4, .u), (5, .u)] [0, 1, 5, 17, 18, 21, 22] [(0, .v (.slice a n c)), (1, .v (.slice b m d)), (5, .v (.int .i64 ((i : Nat) : Int))), (17, .v (.slice a n c)), (18, .v (.int .i64 ((i : Nat) : Int))), (21, .v (.slice b m d)), (22, .v (.int .i64 ((i : Nat) : Int)))] [5, 4, 1, 0] (calm_body _ _ _) (by intro k _ h; exact h) hr1 (by kernel_rfl) ?_
      obtain ⟨p1, o1, rfl⟩ := hs.addr (by omega)
      refine J.idxp (j := 2) (b := p1) (off := o1) (len := n) (i := ((i : Nat) : Int)) (sz := 4) (d := 19) (calm_body _ _ _) (by kernel_rfl) (by kernel_rfl) (by omega) (by omega) ?_
      obtain ⟨x1, hx1⟩ : ∃ zq, (xs)[i]? = some zq := ⟨_, List.getElem?_eq_getElem (by omega)⟩
      refine J.ldp (i := 3) (T := 42) (b := p1) (off := o1 + i * 4) (d := 20) (v := .agg (encE x1).toArray) (calm_body _ _ _) (by kernel_rfl) (by kernel_rfl) hX1 (fun w1 m1 => (hs.mv m1).ld (by kernel_rfl) hx1 (by kernel_rfl)) ?_
      obtain ⟨p2, o2, rfl⟩ := ht.addr (by omega)
      refine J.idxp (j := 6) (b := p2) (off := o2) (len := m) (i := ((i : Nat) : Int)) (sz := 4) (d := 23) (calm_body _ _ _) (by kernel_rfl) (by kernel_rfl) (by omega) (by omega) ?_
      obtain ⟨x2, hx2⟩ : ∃ zq, (ys)[i]? = some zq := ⟨_, List.getElem?_eq_getElem (by omega)⟩
      refine J.ldp (i := 7) (T := 42) (b := p2) (off := o2 + i * 4) (d := 24) (v := .agg (encE x2).toArray) (calm_body _ _ _) (by kernel_rfl) (by kernel_rfl) hX1 (fun w1 m1 => (ht.mv m1).ld (by kernel_rfl) hx2 (by kernel_rfl)) ?_
      refine J.eqAp (j := 8) (neg := true) (T := 42) (d := 25) (b := entEq x1 x2) (calm_body _ _ _) (by kernel_rfl) (by kernel_rfl) ent_guard (ent_eq x1 x2) ?_
      refine J.pdone (by kernel_rfl) ?_
      refine J.cond (b := (!(entEq x1 x2))) (k' := 29) (by kernel_rfl) (fun hc => ?_) (fun hc => ?_)
      · try simp only [nrm] at hc
        have hc3 := hc
        refine J.run [.n, .n, .u, .n] [4] ⟨[(4, .v (.bool false))], []⟩ [.c 26, .b 1, .c 30] [.c 28, .b 1, .c 30] (by kernel_rfl) ?_
        refine J.ret (v := .bool false) (by kernel_rfl) (by kernel_rfl) (fun w1 A1 m1 hac l1 => by rw [sameL_no hx1 hx2 (by simpa using hc3)])
      · try simp only [nrm] at hc
        have hc3 := hc
        refine J.run [.n, .n, .n, .u, .u, .u, .n] [0, 1, 5] ⟨[(0, .v (.slice (some ⟨p1, o1, none⟩) n c)), (1, .v (.slice (some ⟨p2, o2, none⟩) m d)), (5, .v (.int .i64 (IntKind.i64.wrap (((i : Nat) : Int) + 1))))], []⟩ [.c 29, .b 1, .c 30] [] (by kernel_rfl) ?_
        have hw1 : IntKind.i64.wrap (((i : Nat) : Int) + 1) = ((i + 1 : Nat) : Int) := by rw [wrap_i64 (by omega) (by omega)]; try omega
        rw [hw1]
        exact J.again (i + 1) [0, 1, 5] 0 (by omega) (by kernel_rfl) (by kernel_rfl) (fun w1 A1 m1 => ⟨by omega, hs.mv m1, ht.mv m1, fun j x y hj hx hy => by rcases Nat.lt_succ_iff_lt_or_eq.1 hj with h | rfl; exact hb j x y h hx hy; rw [hx1] at hx; rw [hx2] at hy; cases hx; cases hy; simpa using hc3⟩)
    · try simp only [nrm] at hc
      have hc2 := hc
      refine J.exit (id := 0) (by kernel_rfl) (by rfl) ?_
      refine J.run [.n, .n, .u, .n] [4] ⟨[(4, .v (.bool true))], []⟩ [.c 31] [.c 33] (by kernel_rfl) ?_
      refine J.ret (v := .bool true) (by kernel_rfl) (by kernel_rfl) (fun w1 A1 m1 hac l1 => by rw [sameL_all (by omega) fun j x y hx hy => hb j x y (by have := (List.getElem?_eq_some_iff.1 hx).1; omega) hx hy])
theorem seekBack_calls (a : Option Addr) (n c : Nat) (l : List Ent) (bits : Int) (key hi : Str) (Ac : Nat → Prop) (W : World) (hA : ∀ k, Ac k → k < W.heap.size) (hs : Sl 4 encE Ac W a n c l) :
    Calls Pr 6 #[.slice a n c, .int .i64 bits, .string key, .string hi] W (Ret nobody W fun v w => v = .bool true) := by
  refine J.enter (fn := Try.f6) (n := 179) Try.func6 (by kernel_rfl) (by kernel_rfl) (by kernel_rfl) hA ?_
  have hlen := hs.len; have hle := hs.le; have hcap := hs.cap; simp only [maxLen] at hcap
  refine J.run [.n, .n, .u, .n, .n, .n] [0, 1, 2, 3] ⟨[(0, .v (.slice a n c)), (1, .v (.int .i64 bits)), (2, .v (.string key)), (3, .v (.string hi))], []⟩ [.c 0] [.o 3 0, .c 4] (by kernel_rfl) ?_
  refine J.call (d := some 26) (by kernel_rfl) (fun w1 A1 m1 l1 => shown_calls nobody w1 noA) ?_
  rintro _ u1 w1 A1 rfl g1
  have m1 := g1.mv
  replace hs := hs.mv m1
  refine J.run [.u, .n, .n, .n, .u] [1, 2, 3, 9, 27] ⟨[(1, .v (.int .i64 bits)), (2, .v (.string key)), (3, .v (.string hi)), (9, .v (.bool true)), (27, .v (.slice a n c))], []⟩ [.o 3 1, .c 4] [.o 5 1, .c 6] (by kernel_rfl) ?_
  refine J.call (d := some 28) (by kernel_rfl) (fun w1 A1 m1 l1 => fit_law_calls a n c l nobody w1 noA (hs.mv m1).any) ?_
  rintro _ u2 w2 A2 ⟨a1, c1, rfl, hfq1⟩ g2
  have m2 := g2.mv
  replace hs := hs.mv m2
  have hl1 : Sl 4 encE A2 w2 a1 (fitF l).length c1 (fitF l) := hfq1.sl (fun x _ => rfl) (by decide) g2.bd
  refine J.run [.u, .n, .n, .n, .u, .u] [0, 2, 3, 9, 30] ⟨[(0, .v (.slice a1 ((fitF l).length) c1)), (2, .v (.string key)), (3, .v (.string hi)), (9, .v (.bool true)), (30, .v (.agg [.int .i64 bits].toArray))], []⟩ [.o 5 2, .c 6] [.o 7 2, .c 8] (by kernel_rfl) ?_
  refine J.new (T := 32) (cs := [.int .i64 0]) (d := 10) (K := .ptr) (by kernel_rfl) (fun b1 hb1 => ?_)
  refine J.run [.u, .n, .n, .n, .u, .u] [0, 2, 3, 9, 10, 32, 33] ⟨[(0, .v (.slice a1 ((fitF l).length) c1)), (2, .v (.string key)), (3, .v (.string hi)), (9, .v (.bool true)), (10, .loc 0 0), (32, .v (.agg [.int .i64 bits].toArray)), (33, .v (.slice a1 ((fitF l).length) c1))], [⟨32, [.int .i64 bits]⟩]⟩ [.o 7 3, .c 8] [.o 9 2, .c 10] (by kernel_rfl) ?_
  refine J.call (d := some 34) (by kernel_rfl) (fun w1 A1 m1 l1 => describe_calls bits 1 a1 ((fitF l).length) c1 (fitF l) A1 w1 m1.bdd (hl1.mv m1)) ?_
  rintro _ u3 w3 A3 rfl g3
  have m3 := g3.mv
  replace hs := hs.mv m3; replace hl1 := hl1.mv m3
  refine J.run [.u, .u, .u] [0, 2, 3, 9, 10, 35, 36] ⟨[(0, .v (.slice a1 ((fitF l).length) c1)), (2, .v (.string key)), (3, .v (.string hi)), (9, .v (.bool true)), (10, .loc 0 0), (35, .v (.agg (encT (descF bits 1 (fitF l)).1).toArray)), (36, .v (.int .i64 ((descF bits 1 (fitF l)).2)))], [⟨32, [.int .i64 bits]⟩]⟩ [.o 9 3, .c 10] [.o 9 6, .c 10] (by kernel_rfl) ?_
  refine J.new (T := 36) (cs := [.int .i64 0, .int .i64 0, .int .u8 0, .int .u8 0, .int .u8 0, .int .u8 0, .int .u8 0, .int .u8 0, .int .u8 0, .int .u8 0, .int .u8 0, .int .u8 0, .int .u8 0, .int .u8 0, .int .u8 0, .int .u8 0, .int .u8 0, .int .u8 0, .int .u8 0, .int .u8 0, .int .u8 0, .int .u8 0, .int .u8 0, .int .u8 0, .int .u8 0, .int .u8 0, .int .u8 0, .int .u8 0, .int .u8 0, .int .u8 0, .int .u8 0, .int .u8 0, .int .u8 0, .int .u8 0, .string (⟨#[]⟩ : Str), .string (⟨#[]⟩ : Str)]) (d := 11) (K := .ptr) (by kernel_rfl) (fun b2 hb2 => ?_)
  refine J.run [.u, .u, .n, .n, .n, .u, .u, .u] [0, 2, 3, 9, 10, 11, 12, 38, 39, 40] ⟨[(0, .v (.slice a1 ((fitF l).length) c1)), (2, .v (.string key)), (3, .v (.string hi)), (9, .v (.bool true)), (10, .loc 0 0), (11, .loc 1 0), (12, .v (.int .i64 ((descF bits 1 (fitF l)).2))), (38, .v (.agg [.int .i64 bits].toArray)), (39, .v (.slice a1 ((fitF l).length) c1)), (40, .v (.string key))], [⟨32, [.int .i64 bits]⟩, ⟨36, encT (descF bits 1 (fitF l)).1⟩]⟩ [.o 9 7, .c 10] [.o 11 3, .c 12] (by kernel_rfl) ?_
  refine J.call (d := some 41) (by kernel_rfl) (fun w1 A1 m1 l1 => prove_calls bits a1 ((fitF l).length) c1 (fitF l) key A1 w1 m1.bdd (hl1.mv m1)) ?_
  rintro _ u4 w4 A4 ⟨_, rfl, la1, ln1, lc1, pa1, pn1, pc1, la2, ln2, lc2, pa2, pn2, pc2, rfl, hal1, hap1, hbl1, hbp1⟩ g4
  have m4 := g4.mv
  replace hs := hs.mv m4; replace hl1 := hl1.mv m4
  refine J.run [.u, .u, .u] [0, 2, 3, 9, 10, 11, 12, 42, 43] ⟨[(0, .v (.slice a1 ((fitF l).length) c1)), (2, .v (.string key)), (3, .v (.string hi)), (9, .v (.bool true)), (10, .loc 0 0), (11, .loc 1 0), (12, .v (.int .i64 ((descF bits 1 (fitF l)).2))), (42, .v (.agg [.bool ((proveF bits (fitF l) key).1.1), .int .i64 ((proveF bits (fitF l) key).1.2.1.t), .slice la1 ln1 lc1, .slice pa1 pn1 pc1, .int .i64 ((proveF bits (fitF l) key).1.2.2.t), .slice la2 ln2 lc2, .slice pa2 pn2 pc2].toArray)), (43, .v (.int .i64 ((proveF bits (fitF l) key).2)))], [⟨32, [.int .i64 bits]⟩, ⟨36, encT (descF bits 1 (fitF l)).1⟩]⟩ [.o 11 4, .c 12] [.o 11 7, .c 12] (by kernel_rfl) ?_
  refine J.new (T := 28) (cs := [.bool false, .int .i64 0, .slice none 0 0, .slice none 0 0, .int .i64 0, .slice none 0 0, .slice none 0 0]) (d := 13) (K := .ptr) (by kernel_rfl) (fun b3 hb3 => ?_)
  refine J.run [.u, .u, .n, .n, .n, .u, .u, .u, .u] [0, 2, 3, 9, 10, 11, 12, 13, 14, 45, 46, 47, 48] ⟨[(0, .v (.slice a1 ((fitF l).length) c1)), (2, .v (.string key)), (3, .v (.string hi)), (9, .v (.bool true)), (10, .loc 0 0), (11, .loc 1 0), (12, .v (.int .i64 ((descF bits 1 (fitF l)).2))), (13, .loc 2 0), (14, .v (.int .i64 ((proveF bits (fitF l) key).2))), (45, .v (.agg [.int .i64 bits].toArray)), (46, .v (.slice a1 ((fitF l).length) c1)), (47, .v (.string key)), (48, .v (.string hi))], [⟨32, [.int .i64 bits]⟩, ⟨36, encT (descF bits 1 (fitF l)).1⟩, ⟨28, [.bool ((proveF bits (fitF l) key).1.1), .int .i64 ((proveF bits (fitF l) key).1.2.1.t), .slice la1 ln1 lc1, .slice pa1 pn1 pc1, .int .i64 ((proveF bits (fitF l) key).1.2.2.t), .slice la2 ln2 lc2, .slice pa2 pn2 pc2]⟩]⟩ [.o 11 8, .c 12] [.o 13 4, .c 14] (by kernel_rfl) ?_
  refine J.call (d := some 49) (by kernel_rfl) (fun w1 A1 m1 l1 => proveSpan_calls bits a1 ((fitF l).length) c1 (fitF l) key hi A1 w1 m1.bdd (hl1.mv m1)) ?_
  rintro _ u5 w5 A5 ⟨_, rfl, la3, ln3, lc3, pa3, pn3, pc3, rfl, hsr1, hsp1⟩ g5
  have m5 := g5.mv
  replace hs := hs.mv m5; replace hl1 := hl1.mv m5; replace hal1 := hal1.mv m5; replace hap1 := hap1.mv m5; replace hbl1 := hbl1.mv m5; replace hbp1 := hbp1.mv m5
  refine J.run [.u, .u, .u] [0, 2, 3, 9, 10, 11, 12, 13, 14, 50, 51] ⟨[(0, .v (.slice a1 ((fitF l).length) c1)), (2, .v (.string key)), (3, .v (.string hi)), (9, .v (.bool true)), (10, .loc 0 0), (11, .loc 1 0), (12, .v (.int .i64 ((descF bits 1 (fitF l)).2))), (13, .loc 2 0), (14, .v (.int .i64 ((proveF bits (fitF l) key).2))), (50, .v (.agg [.int .i64 ((spanF bits (fitF l) key hi).1.t), .slice la3 ln3 lc3, .slice pa3 pn3 pc3].toArray)), (51, .v (.int .i64 ((spanF bits (fitF l) key hi).2)))], [⟨32, [.int .i64 bits]⟩, ⟨36, encT (descF bits 1 (fitF l)).1⟩, ⟨28, [.bool ((proveF bits (fitF l) key).1.1), .int .i64 ((proveF bits (fitF l) key).1.2.1.t), .slice la1 ln1 lc1, .slice pa1 pn1 pc1, .int .i64 ((proveF bits (fitF l) key).1.2.2.t), .slice la2 ln2 lc2, .slice pa2 pn2 pc2]⟩]⟩ [.o 13 5, .c 14] [.o 13 8, .c 14] (by kernel_rfl) ?_
  refine J.new (T := 54) (cs := [.int .i64 0, .slice none 0 0, .slice none 0 0]) (d := 15) (K := .ptr) (by kernel_rfl) (fun b4 hb4 => ?_)
  refine J.run [.u, .u, .n, .n, .n, .n, .u, .u, .u, .n] [0, 2, 3, 9, 10, 11, 12, 13, 14, 15, 16, 54] ⟨[(0, .v (.slice a1 ((fitF l).length) c1)), (2, .v (.string key)), (3, .v (.string hi)), (9, .v (.bool true)), (10, .loc 0 0), (11, .loc 1 0), (12, .v (.int .i64 ((descF bits 1 (fitF l)).2))), (13, .loc 2 0), (14, .v (.int .i64 ((proveF bits (fitF l) key).2))), (15, .loc 3 0), (16, .v (.int .i64 ((spanF bits (fitF l) key hi).2))), (54, .v (.bool ((((fitF l).length : Nat) : Int) == 0)))], [⟨32, [.int .i64 bits]⟩, ⟨36, encT (descF bits 1 (fitF l)).1⟩, ⟨28, [.bool ((proveF bits (fitF l) key).1.1), .int .i64 ((proveF bits (fitF l) key).1.2.1.t), .slice la1 ln1 lc1, .slice pa1 pn1 pc1, .int .i64 ((proveF bits (fitF l) key).1.2.2.t), .slice la2 ln2 lc2, .slice pa2 pn2 pc2]⟩, ⟨54, [.int .i64 ((spanF bits (fitF l) key hi).1.t), .slice la3 ln3 lc3, .slice pa3 pn3 pc3]⟩]⟩ [.o 13 9, .c 14] [.c 17, .c 22] (by kernel_rfl) ?_
  refine J.cond (b := ((((fitF l).length : Nat) : Int) == 0)) (k' := 21) (by kernel_rfl) (fun hc => ?_) (fun hc => ?_)
  · try simp only [nrm] at hc
    have hc1 := hc
    refine J.run [.n, .n, .u, .u, .w, .w, .u, .u] [14, 16, 60] ⟨[(14, .v (.int .i64 ((proveF bits (fitF l) key).2))), (16, .v (.int .i64 ((spanF bits (fitF l) key hi).2))), (60, .v (.bool (((descF bits 1 (fitF l)).2) == 1)))], [⟨32, [.int .i64 bits]⟩, ⟨36, encT (descF bits 1 (fitF l)).1⟩, ⟨28, [.bool ((proveF bits (fitF l) key).1.1), .int .i64 ((proveF bits (fitF l) key).1.2.1.t), .slice la1 ln1 lc1, .slice pa1 pn1 pc1, .int .i64 ((proveF bits (fitF l) key).1.2.2.t), .slice la2 ln2 lc2, .slice pa2 pn2 pc2]⟩, ⟨54, [.int .i64 ((spanF bits (fitF l) key hi).1.t), .slice la3 ln3 lc3, .slice pa3 pn3 pc3]⟩]⟩ [.c 18, .c 22] [.o 19 6, .c 20, .c 22] (by kernel_rfl) ?_
    rcases Bool.eq_false_or_eq_true (((descF bits 1 (fitF l)).2) == 1) with hc | hc
    · rw [hc]
      try simp only [nrm] at hc
      have hc2 := hc
      refine J.run [.w, .w, .u, .u] [16, 64] ⟨[(16, .v (.int .i64 ((spanF bits (fitF l) key hi).2))), (64, .v (.bool (((proveF bits (fitF l) key).2) == 1)))], [⟨32, [.int .i64 bits]⟩, ⟨36, encT (descF bits 1 (fitF l)).1⟩, ⟨28, [.bool ((proveF bits (fitF l) key).1.1), .int .i64 ((proveF bits (fitF l) key).1.2.1.t), .slice la1 ln1 lc1, .slice pa1 pn1 pc1, .int .i64 ((proveF bits (fitF l) key).1.2.2.t), .slice la2 ln2 lc2, .slice pa2 pn2 pc2]⟩, ⟨54, [.int .i64 ((spanF bits (fitF l) key hi).1.t), .slice la3 ln3 lc3, .slice pa3 pn3 pc3]⟩]⟩ [.o 19 6, .c 20, .c 22] [.o 19 10, .c 20, .c 22] (by kernel_rfl) ?_
      rcases Bool.eq_false_or_eq_true (((proveF bits (fitF l) key).2) == 1) with hc | hc
      · rw [hc]
        try simp only [nrm] at hc
        have hc3 := hc
        refine J.run [.w, .w, .u, .u, .n] [8] ⟨[(8, .v (.bool (((spanF bits (fitF l) key hi).2) == 1)))], [⟨32, [.int .i64 bits]⟩, ⟨36, encT (descF bits 1 (fitF l)).1⟩, ⟨28, [.bool ((proveF bits (fitF l) key).1.1), .int .i64 ((proveF bits (fitF l) key).1.2.1.t), .slice la1 ln1 lc1, .slice pa1 pn1 pc1, .int .i64 ((proveF bits (fitF l) key).1.2.2.t), .slice la2 ln2 lc2, .slice pa2 pn2 pc2]⟩, ⟨54, [.int .i64 ((spanF bits (fitF l) key hi).1.t), .slice la3 ln3 lc3, .slice pa3 pn3 pc3]⟩]⟩ [.o 19 10, .c 20, .c 22] [.c 20, .c 22] (by kernel_rfl) ?_
        have hL : fitF l = [] := List.eq_nil_of_length_eq_zero (by omega)
        refine J.ret (v := .bool (((spanF bits (fitF l) key hi).2) == 1)) (by kernel_rfl) (by kernel_rfl) (fun w1 A1 m1 hac l1 => by simp [hL, descF, proveF, spanF, FitL])
      · rw [hc]
        try simp only [nrm] at hc
        have hc3 := hc
        refine J.run [.x, .x, .u, .u, .n] [8] ⟨[(8, .v (.bool false))], [⟨32, [.int .i64 bits]⟩, ⟨36, encT (descF bits 1 (fitF l)).1⟩, ⟨28, [.bool ((proveF bits (fitF l) key).1.1), .int .i64 ((proveF bits (fitF l) key).1.2.1.t), .slice la1 ln1 lc1, .slice pa1 pn1 pc1, .int .i64 ((proveF bits (fitF l) key).1.2.2.t), .slice la2 ln2 lc2, .slice pa2 pn2 pc2]⟩, ⟨54, [.int .i64 ((spanF bits (fitF l) key hi).1.t), .slice la3 ln3 lc3, .slice pa3 pn3 pc3]⟩]⟩ [.o 19 10, .c 20, .c 22] [.c 20, .c 22] (by kernel_rfl) ?_
        have hL : fitF l = [] := List.eq_nil_of_length_eq_zero (by omega)
        exfalso
        have h9 := hc3; simp [hL, descF, proveF, spanF, FitL] at h9
    · rw [hc]
      try simp only [nrm] at hc
      have hc2 := hc
      refine J.run [.x, .x, .u, .u, .x, .x, .u, .u, .n] [8] ⟨[(8, .v (.bool false))], [⟨32, [.int .i64 bits]⟩, ⟨36, encT (descF bits 1 (fitF l)).1⟩, ⟨28, [.bool ((proveF bits (fitF l) key).1.1), .int .i64 ((proveF bits (fitF l) key).1.2.1.t), .slice la1 ln1 lc1, .slice pa1 pn1 pc1, .int .i64 ((proveF bits (fitF l) key).1.2.2.t), .slice la2 ln2 lc2, .slice pa2 pn2 pc2]⟩, ⟨54, [.int .i64 ((spanF bits (fitF l) key hi).1.t), .slice la3 ln3 lc3, .slice pa3 pn3 pc3]⟩]⟩ [.o 19 6, .c 20, .c 22] [.c 20, .c 22] (by kernel_rfl) ?_
      have hL : fitF l = [] := List.eq_nil_of_length_eq_zero (by omega)
      exfalso
      have h9 := hc2; simp [hL, descF, proveF, spanF, FitL] at h9
  · try simp only [nrm] at hc
    have hc1 := hc
    refine J.run [.n, .n, .n, .n, .u, .u] [0, 2, 3, 9, 10, 11, 13, 14, 15, 16, 68, 69] ⟨[(0, .v (.slice a1 ((fitF l).length) c1)), (2, .v (.string key)), (3, .v (.string hi)), (9, .v (.bool true)), (10, .loc 0 0), (11, .loc 1 0), (13, .loc 2 0), (14, .v (.int .i64 ((proveF bits (fitF l) key).2))), (15, .loc 3 0), (16, .v (.int .i64 ((spanF bits (fitF l) key hi).2))), (68, .v (.agg (encT (descF bits 1 (fitF l)).1).toArray)), (69, .v (.string key))], [⟨32, [.int .i64 bits]⟩, ⟨36, encT (descF bits 1 (fitF l)).1⟩, ⟨28, [.bool ((proveF bits (fitF l) key).1.1), .int .i64 ((proveF bits (fitF l) key).1.2.1.t), .slice la1 ln1 lc1, .slice pa1 pn1 pc1, .int .i64 ((proveF bits (fitF l) key).1.2.2.t), .slice la2 ln2 lc2, .slice pa2 pn2 pc2]⟩, ⟨54, [.int .i64 ((spanF bits (fitF l) key hi).1.t), .slice la3 ln3 lc3, .slice pa3 pn3 pc3]⟩]⟩ [.c 21, .c 22] [.o 24 2, .c 25, .c 30] (by kernel_rfl) ?_
    have hf : FitL (fitF l) := (fitF_fit l).resolve_left (fun h => by rw [h] at hc1; exact hc1 rfl); have hf0 := hf.1; have hf64 := hf.2.1
    refine J.call (d := some 70) (by kernel_rfl) (fun w1 A1 m1 l1 => covers_calls (descF bits 1 (fitF l)).1 key nobody w1 noA) ?_
    rintro _ u6 w6 A6 rfl g6
    have m6 := g6.mv
    replace hs := hs.mv m6; replace hl1 := hl1.mv m6; replace hal1 := hal1.mv m6; replace hap1 := hap1.mv m6; replace hbl1 := hbl1.mv m6; replace hbp1 := hbp1.mv m6; replace hsr1 := hsr1.mv m6; replace hsp1 := hsp1.mv m6
    refine J.run [.u, .u, .u, .u] [0, 2, 3, 9, 10, 11, 13, 14, 15, 16, 74] ⟨[(0, .v (.slice a1 ((fitF l).length) c1)), (2, .v (.string key)), (3, .v (.string hi)), (9, .v (.bool true)), (10, .loc 0 0), (11, .loc 1 0), (13, .loc 2 0), (14, .v (.int .i64 ((proveF bits (fitF l) key).2))), (15, .loc 3 0), (16, .v (.int .i64 ((spanF bits (fitF l) key hi).2))), (74, .v (.bool (!((coversF (descF bits 1 (fitF l)).1 key) == (((proveF bits (fitF l) key).2) == 0)))))], [⟨32, [.int .i64 bits]⟩, ⟨36, encT (descF bits 1 (fitF l)).1⟩, ⟨28, [.bool ((proveF bits (fitF l) key).1.1), .int .i64 ((proveF bits (fitF l) key).1.2.1.t), .slice la1 ln1 lc1, .slice pa1 pn1 pc1, .int .i64 ((proveF bits (fitF l) key).1.2.2.t), .slice la2 ln2 lc2, .slice pa2 pn2 pc2]⟩, ⟨54, [.int .i64 ((spanF bits (fitF l) key hi).1.t), .slice la3 ln3 lc3, .slice pa3 pn3 pc3]⟩]⟩ [.o 24 3, .c 25, .c 30] [.o 24 7, .c 25, .c 30] (by kernel_rfl) ?_
    rw [(cov_ne hf key)]
    rcases Bool.eq_false_or_eq_true false with hc | hc
    · rw [hc]
      try simp only [nrm] at hc
      have hc4 := hc
      refine J.run [.x, .x, .x, .x, .x, .x, .x, .u, .n] [0, 2, 3, 9, 10, 11, 13, 14, 15, 16, 82] ⟨[(0, .v (.slice a1 ((fitF l).length) c1)), (2, .v (.string key)), (3, .v (.string hi)), (9, .v (.bool true)), (10, .loc 0 0), (11, .loc 1 0), (13, .loc 2 0), (14, .v (.int .i64 ((proveF bits (fitF l) key).2))), (15, .loc 3 0), (16, .v (.int .i64 ((spanF bits (fitF l) key hi).2))), (82, .v (.bool true))], [⟨32, [.int .i64 bits]⟩, ⟨36, encT (descF bits 1 (fitF l)).1⟩, ⟨28, [.bool ((proveF bits (fitF l) key).1.1), .int .i64 ((proveF bits (fitF l) key).1.2.1.t), .slice la1 ln1 lc1, .slice pa1 pn1 pc1, .int .i64 ((proveF bits (fitF l) key).1.2.2.t), .slice la2 ln2 lc2, .slice pa2 pn2 pc2]⟩, ⟨54, [.int .i64 ((spanF bits (fitF l) key hi).1.t), .slice la3 ln3 lc3, .slice pa3 pn3 pc3]⟩]⟩ [.o 24 7, .c 25, .c 30] [.c 25, .c 30] (by kernel_rfl) ?_
      refine J.cond (b := true) (k' := 29) (by kernel_rfl) (fun _ => ?_) (fun hc => absurd hc (by decide))
      refine J.run [.n, .n, .u, .n] [8] ⟨[(8, .v (.bool false))], [⟨32, [.int .i64 bits]⟩, ⟨36, encT (descF bits 1 (fitF l)).1⟩, ⟨28, [.bool ((proveF bits (fitF l) key).1.1), .int .i64 ((proveF bits (fitF l) key).1.2.1.t), .slice la1 ln1 lc1, .slice pa1 pn1 pc1, .int .i64 ((proveF bits (fitF l) key).1.2.2.t), .slice la2 ln2 lc2, .slice pa2 pn2 pc2]⟩, ⟨54, [.int .i64 ((spanF bits (fitF l) key hi).1.t), .slice la3 ln3 lc3, .slice pa3 pn3 pc3]⟩]⟩ [.c 26, .c 30] [.c 28, .c 30] (by kernel_rfl) ?_
      exfalso
      have h9 := hc4; simp at h9
    · rw [hc]
      try simp only [nrm] at hc
      have hc4 := hc
      refine J.run [.w, .w, .w] [0, 2, 3, 9, 10, 11, 13, 14, 15, 16, 74, 75, 76, 77] ⟨[(0, .v (.slice a1 ((fitF l).length) c1)), (2, .v (.string key)), (3, .v (.string hi)), (9, .v (.bool true)), (10, .loc 0 0), (11, .loc 1 0), (13, .loc 2 0), (14, .v (.int .i64 ((proveF bits (fitF l) key).2))), (15, .loc 3 0), (16, .v (.int .i64 ((spanF bits (fitF l) key hi).2))), (74, .v (.bool false)), (75, .v (.agg (encT (descF bits 1 (fitF l)).1).toArray)), (76, .v (.string key)), (77, .v (.string hi))], [⟨32, [.int .i64 bits]⟩, ⟨36, encT (descF bits 1 (fitF l)).1⟩, ⟨28, [.bool ((proveF bits (fitF l) key).1.1), .int .i64 ((proveF bits (fitF l) key).1.2.1.t), .slice la1 ln1 lc1, .slice pa1 pn1 pc1, .int .i64 ((proveF bits (fitF l) key).1.2.2.t), .slice la2 ln2 lc2, .slice pa2 pn2 pc2]⟩, ⟨54, [.int .i64 ((spanF bits (fitF l) key hi).1.t), .slice la3 ln3 lc3, .slice pa3 pn3 pc3]⟩]⟩ [.o 24 7, .c 25, .c 30] [.o 24 10, .c 25, .c 30] (by kernel_rfl) ?_
      refine J.call (d := some 78) (by kernel_rfl) (fun w1 A1 m1 l1 => overlaps_calls (descF bits 1 (fitF l)).1 key hi nobody w1 noA) ?_
      rintro _ u7 w7 A7 rfl g7
      have m7 := g7.mv
      replace hs := hs.mv m7; replace hl1 := hl1.mv m7; replace hal1 := hal1.mv m7; replace hap1 := hap1.mv m7; replace hbl1 := hbl1.mv m7; replace hbp1 := hbp1.mv m7; replace hsr1 := hsr1.mv m7; replace hsp1 := hsp1.mv m7
      refine J.run [.w, .w, .w, .u, .n] [0, 2, 3, 9, 10, 11, 13, 14, 15, 16, 82] ⟨[(0, .v (.slice a1 ((fitF l).length) c1)), (2, .v (.string key)), (3, .v (.string hi)), (9, .v (.bool true)), (10, .loc 0 0), (11, .loc 1 0), (13, .loc 2 0), (14, .v (.int .i64 ((proveF bits (fitF l) key).2))), (15, .loc 3 0), (16, .v (.int .i64 ((spanF bits (fitF l) key hi).2))), (82, .v (.bool (!((overF (descF bits 1 (fitF l)).1 key hi) == (((spanF bits (fitF l) key hi).2) == 0)))))], [⟨32, [.int .i64 bits]⟩, ⟨36, encT (descF bits 1 (fitF l)).1⟩, ⟨28, [.bool ((proveF bits (fitF l) key).1.1), .int .i64 ((proveF bits (fitF l) key).1.2.1.t), .slice la1 ln1 lc1, .slice pa1 pn1 pc1, .int .i64 ((proveF bits (fitF l) key).1.2.2.t), .slice la2 ln2 lc2, .slice pa2 pn2 pc2]⟩, ⟨54, [.int .i64 ((spanF bits (fitF l) key hi).1.t), .slice la3 ln3 lc3, .slice pa3 pn3 pc3]⟩]⟩ [.o 24 11, .c 25, .c 30] [.c 25, .c 30] (by kernel_rfl) ?_
      rw [(over_ne hf key hi)]
      refine J.cond (b := false) (k' := 29) (by kernel_rfl) (fun hc => absurd hc (by decide)) (fun _ => ?_)
      refine J.run [.n, .n, .n, .n, .u, .u, .n] [0, 2, 3, 9, 10, 11, 13, 15, 16, 84] ⟨[(0, .v (.slice a1 ((fitF l).length) c1)), (2, .v (.string key)), (3, .v (.string hi)), (9, .v (.bool true)), (10, .loc 0 0), (11, .loc 1 0), (13, .loc 2 0), (15, .loc 3 0), (16, .v (.int .i64 ((spanF bits (fitF l) key hi).2))), (84, .v (.bool (((proveF bits (fitF l) key).2) == 0)))], [⟨32, [.int .i64 bits]⟩, ⟨36, encT (descF bits 1 (fitF l)).1⟩, ⟨28, [.bool ((proveF bits (fitF l) key).1.1), .int .i64 ((proveF bits (fitF l) key).1.2.1.t), .slice la1 ln1 lc1, .slice pa1 pn1 pc1, .int .i64 ((proveF bits (fitF l) key).1.2.2.t), .slice la2 ln2 lc2, .slice pa2 pn2 pc2]⟩, ⟨54, [.int .i64 ((spanF bits (fitF l) key hi).1.t), .slice la3 ln3 lc3, .slice pa3 pn3 pc3]⟩]⟩ [.c 29, .c 30] [.c 33, .c 46] (by kernel_rfl) ?_
      refine J.cond (b := (((proveF bits (fitF l) key).2) == 0)) (k' := 45) (by kernel_rfl) (fun hc => ?_) (fun hc => ?_)
      · try simp only [nrm] at hc
        have hc5 := hc
        refine J.run [.n, .n, .u, .u] [0, 2, 3, 9, 10, 11, 13, 15, 16, 86, 87] ⟨[(0, .v (.slice a1 ((fitF l).length) c1)), (2, .v (.string key)), (3, .v (.string hi)), (9, .v (.bool true)), (10, .loc 0 0), (11, .loc 1 0), (13, .loc 2 0), (15, .loc 3 0), (16, .v (.int .i64 ((spanF bits (fitF l) key hi).2))), (86, .v (.slice a1 ((fitF l).length) c1)), (87, .v (.string key))], [⟨32, [.int .i64 bits]⟩, ⟨36, encT (descF bits 1 (fitF l)).1⟩, ⟨28, [.bool ((proveF bits (fitF l) key).1.1), .int .i64 ((proveF bits (fitF l) key).1.2.1.t), .slice la1 ln1 lc1, .slice pa1 pn1 pc1, .int .i64 ((proveF bits (fitF l) key).1.2.2.t), .slice la2 ln2 lc2, .slice pa2 pn2 pc2]⟩, ⟨54, [.int .i64 ((spanF bits (fitF l) key hi).1.t), .slice la3 ln3 lc3, .slice pa3 pn3 pc3]⟩]⟩ [.c 34, .c 46] [.o 35 2, .c 36, .c 46] (by kernel_rfl) ?_
        refine J.call (d := some 88) (by kernel_rfl) (fun w1 A1 m1 l1 => find_calls a1 ((fitF l).length) c1 (fitF l) key nobody w1 noA (hl1.mv m1).any) ?_
        rintro _ u9 w8 A8 rfl g8
        have m8 := g8.mv
        replace hs := hs.mv m8; replace hl1 := hl1.mv m8; replace hal1 := hal1.mv m8; replace hap1 := hap1.mv m8; replace hbl1 := hbl1.mv m8; replace hbp1 := hbp1.mv m8; replace hsr1 := hsr1.mv m8; replace hsp1 := hsp1.mv m8
        refine J.run [.u, .u, .u, .u, .u, .n, .n, .n, .u, .u, .u, .u] [0, 2, 3, 9, 10, 11, 15, 16, 17, 18, 92, 93, 94, 95] ⟨[(0, .v (.slice a1 ((fitF l).length) c1)), (2, .v (.string key)), (3, .v (.string hi)), (9, .v (.bool true)), (10, .loc 0 0), (11, .loc 1 0), (15, .loc 3 0), (16, .v (.int .i64 ((spanF bits (fitF l) key hi).2))), (17, .v (.int .i64 ((cntLt key (fitF l) : Nat) : Int))), (18, .v (.bool (hasKey key (fitF l)))), (92, .v (.agg [.int .i64 bits].toArray)), (93, .v (.agg (encT (descF bits 1 (fitF l)).1).toArray)), (94, .v (.string key)), (95, .v (.agg [.bool ((proveF bits (fitF l) key).1.1), .int .i64 ((proveF bits (fitF l) key).1.2.1.t), .slice la1 ln1 lc1, .slice pa1 pn1 pc1, .int .i64 ((proveF bits (fitF l) key).1.2.2.t), .slice la2 ln2 lc2, .slice pa2 pn2 pc2].toArray))], [⟨32, [.int .i64 bits]⟩, ⟨36, encT (descF bits 1 (fitF l)).1⟩, ⟨28, [.bool ((proveF bits (fitF l) key).1.1), .int .i64 ((proveF bits (fitF l) key).1.2.1.t), .slice la1 ln1 lc1, .slice pa1 pn1 pc1, .int .i64 ((proveF bits (fitF l) key).1.2.2.t), .slice la2 ln2 lc2, .slice pa2 pn2 pc2]⟩, ⟨54, [.int .i64 ((spanF bits (fitF l) key hi).1.t), .slice la3 ln3 lc3, .slice pa3 pn3 pc3]⟩]⟩ [.o 35 3, .c 36, .c 46] [.o 37 4, .c 38, .c 46] (by kernel_rfl) ?_
        have hps := proveF_short bits (fitF l) key; have hla : ln1 = (proveF bits (fitF l) key).1.2.1.leaf.length := hal1.len; have hlb : ln2 = (proveF bits (fitF l) key).1.2.2.leaf.length := hbl1.len
        refine J.call (d := some 96) (by kernel_rfl) (fun w1 A1 m1 l1 => (by have q := seekCheck_calls bits (descF bits 1 (fitF l)).1 (fitF l).length (descF_1 hf (by decide) (by decide)) (by omega) key (proveF bits (fitF l) key).1.1 (proveF bits (fitF l) key).1.2.1 (proveF bits (fitF l) key).1.2.2 la1 ln1 lc1 pa1 pn1 pc1 la2 ln2 lc2 pa2 pn2 pc2 (by omega) (by omega) A1 w1 m1.bdd (hal1.mv m1) (hap1.mv m1) (hbl1.mv m1) (hbp1.mv m1); rw [check_point' hf key hc5] at q; exact q)) ?_
        rintro _ u10 w9 A9 rfl g9
        have m9 := g9.mv
        replace hs := hs.mv m9; replace hl1 := hl1.mv m9; replace hal1 := hal1.mv m9; replace hap1 := hap1.mv m9; replace hbl1 := hbl1.mv m9; replace hbp1 := hbp1.mv m9; replace hsr1 := hsr1.mv m9; replace hsp1 := hsp1.mv m9
        refine J.run [.u, .u, .u, .u] [0, 2, 3, 9, 10, 11, 15, 16, 17, 18, 97, 98, 99] ⟨[(0, .v (.slice a1 ((fitF l).length) c1)), (2, .v (.string key)), (3, .v (.string hi)), (9, .v (.bool true)), (10, .loc 0 0), (11, .loc 1 0), (15, .loc 3 0), (16, .v (.int .i64 ((spanF bits (fitF l) key hi).2))), (17, .v (.int .i64 ((cntLt key (fitF l) : Nat) : Int))), (18, .v (.bool (hasKey key (fitF l)))), (97, .v (.agg (encE (chkE key (fitF l))).toArray)), (98, .v (.bool (hasKey key (fitF l)))), (99, .v (.int .i64 0))], [⟨32, [.int .i64 bits]⟩, ⟨36, encT (descF bits 1 (fitF l)).1⟩, ⟨28, [.bool ((proveF bits (fitF l) key).1.1), .int .i64 ((proveF bits (fitF l) key).1.2.1.t), .slice la1 ln1 lc1, .slice pa1 pn1 pc1, .int .i64 ((proveF bits (fitF l) key).1.2.2.t), .slice la2 ln2 lc2, .slice pa2 pn2 pc2]⟩, ⟨54, [.int .i64 ((spanF bits (fitF l) key hi).1.t), .slice la3 ln3 lc3, .slice pa3 pn3 pc3]⟩]⟩ [.o 37 5, .c 38, .c 46] [.o 37 9, .c 38, .c 46] (by kernel_rfl) ?_
        refine J.new (T := 42) (cs := [.string (⟨#[]⟩ : Str), .string (⟨#[]⟩ : Str), .bool false, .int .i64 0]) (d := 19) (K := .ptr) (by kernel_rfl) (fun b5 hb5 => ?_)
        refine J.run [.u, .u, .u, .n, .n] [0, 2, 3, 9, 10, 11, 15, 16, 17, 18, 19, 20, 21] ⟨[(0, .v (.slice a1 ((fitF l).length) c1)), (2, .v (.string key)), (3, .v (.string hi)), (9, .v (.bool true)), (10, .loc 0 0), (11, .loc 1 0), (15, .loc 3 0), (16, .v (.int .i64 ((spanF bits (fitF l) key hi).2))), (17, .v (.int .i64 ((cntLt key (fitF l) : Nat) : Int))), (18, .v (.bool (hasKey key (fitF l)))), (19, .loc 4 0), (20, .v (.bool (hasKey key (fitF l)))), (21, .v (.int .i64 0))], [⟨32, [.int .i64 bits]⟩, ⟨36, encT (descF bits 1 (fitF l)).1⟩, ⟨28, [.bool ((proveF bits (fitF l) key).1.1), .int .i64 ((proveF bits (fitF l) key).1.2.1.t), .slice la1 ln1 lc1, .slice pa1 pn1 pc1, .int .i64 ((proveF bits (fitF l) key).1.2.2.t), .slice la2 ln2 lc2, .slice pa2 pn2 pc2]⟩, ⟨54, [.int .i64 ((spanF bits (fitF l) key hi).1.t), .slice la3 ln3 lc3, .slice pa3 pn3 pc3]⟩, ⟨42, encE (chkE key (fitF l))⟩]⟩ [.o 37 10, .c 38, .c 46] [.c 39, .c 40, .c 46] (by kernel_rfl) ?_
        rcases Bool.eq_false_or_eq_true (hasKey key (fitF l)) with hc | hc
        · rw [hc]
          try simp only [nrm] at hc
          have hc6 := hc
          have hkc := hasKey_cnt hc6
          refine J.draw [] nobody (by kernel_rfl) (by kernel_rfl) (fun _ h => h.elim) (fun w10 A10 m10 hr1 hX1 => ?_)
          replace hs := hs.mv m10; replace hl1 := hl1.mv m10; replace hal1 := hal1.mv m10; replace hap1 := hap1.mv m10; replace hbl1 := hbl1.mv m10; replace hbp1 := hbp1.mv m10; replace hsr1 := hsr1.mv m10; replace hsp1 := hsp1.mv m10
          refine J.take0 [(0, .u), (1, .u), (2, .u), (3, .w), (4, .w), (5, .w), (6, .u), (7, .u), (8, .w), (9, .w), (10, .w), (11, .w), (12, .w), (13, .w), (14, .w)] [0, 2, 3, 9, 10, 11, 15, 16, 17, 19, 107, 109, 114] [(0, .v (.slice a1 ((fitF l).length) c1)), (2, .v (.string key)), (3, .v (.string hi)), (9, .v (.bool true)), (10, .loc 0 0), (11, .loc 1 0), (15, .loc 3 0), (16, .v (.int .i64 ((spanF bits (fitF l) key hi).2))), (17, .v (.int .i64 ((cntLt key (fitF l) : Nat) : Int))), (19, .loc 4 0), (107, .v (.bool false)), (109, .v (.bool true)), (114, .v (.bool (decide (((cntLt key (fitF l) : Nat) : Int) ≥ (((fitF l).length : Nat) : Int)))))] [14, 13, 12, 11, 10, 9, 8, 7, 6, 5, 4, 3, 2, 1, 0] (calm_body _ _ _) (by intro k _ h; exact h) hr1 (by kernel_rfl) ?_
          rw [(show (decide (((cntLt key (fitF l) : Nat) : Int) ≥ (((fitF l).length : Nat) : Int))) = false from decide_eq_false (by have := hasKey_cnt (k := key) (l := fitF l) (by assumption); omega))]
          refine J.take0 [(15, .w), (16, .w), (17, .w)] [0, 2, 3, 9, 10, 11, 15, 16, 107, 109, 114, 115, 116, 117] [(0, .v (.slice a1 ((fitF l).length) c1)), (2, .v (.string key)), (3, .v (.string hi)), (9, .v (.bool true)), (10, .loc 0 0), (11, .loc 1 0), (15, .loc 3 0), (16, .v (.int .i64 ((spanF bits (fitF l) key hi).2))), (107, .v (.bool false)), (109, .v (.bool true)), (114, .v (.bool false)), (115, .v (.agg (encE (chkE key (fitF l))).toArray)), (116, .v (.slice a1 ((fitF l).length) c1)), (117, .v (.int .i64 ((cntLt key (fitF l) : Nat) : Int)))] [17, 16, 15, 14, 13, 12, 11, 10, 9, 8, 7, 6, 5, 4, 3, 2, 1, 0] (calm_body _ _ _) (by intro k _ h; exact h) hr1 (by kernel_rfl) ?_
          obtain ⟨p1, o1, rfl⟩ := hl1.addr (by omega)
          refine J.idxp (j := 18) (b := p1) (off := o1) (len := (fitF l).length) (i := ((cntLt key (fitF l) : Nat) : Int)) (sz := 4) (d := 118) (calm_body _ _ _) (by kernel_rfl) (by kernel_rfl) (by omega) (by omega) ?_
          obtain ⟨x1, hx1⟩ : ∃ zq, ((fitF l))[cntLt key (fitF l)]? = some zq := ⟨_, List.getElem?_eq_getElem (by omega)⟩
          refine J.ldp (i := 19) (T := 42) (b := p1) (off := o1 + (cntLt key (fitF l)) * 4) (d := 119) (v := .agg (encE x1).toArray) (calm_body _ _ _) (by kernel_rfl) (by kernel_rfl) hX1 (fun w1 m1 => (hl1.mv m1).ld (by kernel_rfl) hx1 (by kernel_rfl)) ?_
          refine J.eqAp (j := 20) (neg := true) (T := 42) (d := 120) (b := entEq (chkE key (fitF l)) x1) (calm_body _ _ _) (by kernel_rfl) (by kernel_rfl) ent_guard (ent_eq (chkE key (fitF l)) x1) ?_
          refine J.take0 [(21, .w), (22, .w), (23, .u)] [0, 2, 3, 9, 10, 11, 15, 16, 123] [(0, .v (.slice (some ⟨p1, o1, none⟩) ((fitF l).length) c1)), (2, .v (.string key)), (3, .v (.string hi)), (9, .v (.bool true)), (10, .loc 0 0), (11, .loc 1 0), (15, .loc 3 0), (16, .v (.int .i64 ((spanF bits (fitF l) key hi).2))), (123, .v (.bool (!(entEq (chkE key (fitF l)) x1))))] [23, 22, 21, 20, 19, 18, 17, 16, 15, 14, 13, 12, 11, 10, 9, 8, 7, 6, 5, 4, 3, 2, 1, 0] (calm_body _ _ _) (by intro k _ h; exact h) hr1 (by kernel_rfl) ?_
          refine J.pdone (by kernel_rfl) ?_
          refine J.cond (b := (!(entEq (chkE key (fitF l)) x1))) (k' := 44) (by kernel_rfl) (fun hc => ?_) (fun hc => ?_)
          · try simp only [nrm] at hc
            have hc7 := hc
            refine J.run [.n, .n, .u, .n] [8] ⟨[(8, .v (.bool false))], [⟨32, [.int .i64 bits]⟩, ⟨36, encT (descF bits 1 (fitF l)).1⟩, ⟨28, [.bool ((proveF bits (fitF l) key).1.1), .int .i64 ((proveF bits (fitF l) key).1.2.1.t), .slice la1 ln1 lc1, .slice pa1 pn1 pc1, .int .i64 ((proveF bits (fitF l) key).1.2.2.t), .slice la2 ln2 lc2, .slice pa2 pn2 pc2]⟩, ⟨54, [.int .i64 ((spanF bits (fitF l) key hi).1.t), .slice la3 ln3 lc3, .slice pa3 pn3 pc3]⟩, ⟨42, encE (chkE key (fitF l))⟩]⟩ [.c 41, .c 46] [.c 43, .c 46] (by kernel_rfl) ?_
            exfalso
            have h9 := hc7; rw [chkE_at hc6 hx1, entEq_refl] at h9; cases h9
          · try simp only [nrm] at hc
            have hc7 := hc
            refine J.run [.n, .n, .n, .n, .u, .u, .n] [0, 2, 3, 9, 10, 11, 15, 125] ⟨[(0, .v (.slice (some ⟨p1, o1, none⟩) ((fitF l).length) c1)), (2, .v (.string key)), (3, .v (.string hi)), (9, .v (.bool true)), (10, .loc 0 0), (11, .loc 1 0), (15, .loc 3 0), (125, .v (.bool (((spanF bits (fitF l) key hi).2) != 0)))], [⟨32, [.int .i64 bits]⟩, ⟨36, encT (descF bits 1 (fitF l)).1⟩, ⟨28, [.bool ((proveF bits (fitF l) key).1.1), .int .i64 ((proveF bits (fitF l) key).1.2.1.t), .slice la1 ln1 lc1, .slice pa1 pn1 pc1, .int .i64 ((proveF bits (fitF l) key).1.2.2.t), .slice la2 ln2 lc2, .slice pa2 pn2 pc2]⟩, ⟨54, [.int .i64 ((spanF bits (fitF l) key hi).1.t), .slice la3 ln3 lc3, .slice pa3 pn3 pc3]⟩, ⟨42, encE (chkE key (fitF l))⟩]⟩ [.c 44, .c 46] [.c 49, .c 54] (by kernel_rfl) ?_
            refine J.cond (b := (((spanF bits (fitF l) key hi).2) != 0)) (k' := 53) (by kernel_rfl) (fun hc => ?_) (fun hc => ?_)
            · try simp only [nrm] at hc
              have hc8 := hc
              refine J.run [.n, .n, .u, .u, .n] [8] ⟨[(8, .v (.bool true))], [⟨32, [.int .i64 bits]⟩, ⟨36, encT (descF bits 1 (fitF l)).1⟩, ⟨28, [.bool ((proveF bits (fitF l) key).1.1), .int .i64 ((proveF bits (fitF l) key).1.2.1.t), .slice la1 ln1 lc1, .slice pa1 pn1 pc1, .int .i64 ((proveF bits (fitF l) key).1.2.2.t), .slice la2 ln2 lc2, .slice pa2 pn2 pc2]⟩, ⟨54, [.int .i64 ((spanF bits (fitF l) key hi).1.t), .slice la3 ln3 lc3, .slice pa3 pn3 pc3]⟩, ⟨42, encE (chkE key (fitF l))⟩]⟩ [.c 50, .c 54] [.c 52, .c 54] (by kernel_rfl) ?_
              refine J.ret (v := .bool true) (by kernel_rfl) (by kernel_rfl) (fun w1 A1 m1 hac l1 => rfl)
            · try simp only [nrm] at hc
              have hc8 := hc
              refine J.run [.n, .n, .n, .u, .n, .n, .n, .n, .u, .n, .n] [0, 2, 3, 9, 10, 11, 15, 22, 23] ⟨[(0, .v (.slice (some ⟨p1, o1, none⟩) ((fitF l).length) c1)), (2, .v (.string key)), (3, .v (.string hi)), (9, .v (.bool true)), (10, .loc 0 0), (11, .loc 1 0), (15, .loc 3 0), (22, .v (.slice none 0 0)), (23, .v (.int .i64 0))], [⟨32, [.int .i64 bits]⟩, ⟨36, encT (descF bits 1 (fitF l)).1⟩, ⟨28, [.bool ((proveF bits (fitF l) key).1.1), .int .i64 ((proveF bits (fitF l) key).1.2.1.t), .slice la1 ln1 lc1, .slice pa1 pn1 pc1, .int .i64 ((proveF bits (fitF l) key).1.2.2.t), .slice la2 ln2 lc2, .slice pa2 pn2 pc2]⟩, ⟨54, [.int .i64 ((spanF bits (fitF l) key hi).1.t), .slice la3 ln3 lc3, .slice pa3 pn3 pc3]⟩, ⟨42, encE (chkE key (fitF l))⟩]⟩ [.c 53, .c 54] [.c 60, .b 0, .c 75] (by kernel_rfl) ?_
              refine J.loop (X := WantSt) (fun y => ⟨[(0, .v (.slice (some ⟨p1, o1, none⟩) ((fitF l).length) c1)), (2, .v (.string key)), (3, .v (.string hi)), (9, .v (.bool true)), (10, .loc 0 0), (11, .loc 1 0), (15, .loc 3 0), (22, .v (.slice y.a y.k y.c)), (23, .v (.int .i64 ((y.i : Nat) : Int)))], [⟨32, [.int .i64 bits]⟩, ⟨36, encT (descF bits 1 (fitF l)).1⟩, ⟨28, [.bool ((proveF bits (fitF l) key).1.1), .int .i64 ((proveF bits (fitF l) key).1.2.1.t), .slice la1 ln1 lc1, .slice pa1 pn1 pc1, .int .i64 ((proveF bits (fitF l) key).1.2.2.t), .slice la2 ln2 lc2, .slice pa2 pn2 pc2]⟩, ⟨54, [.int .i64 ((spanF bits (fitF l) key hi).1.t), .slice la3 ln3 lc3, .slice pa3 pn3 pc3]⟩, ⟨42, encE (chkE key (fitF l))⟩]⟩) (fun y A w => y.i ≤ (fitF l).length ∧ y.k = (((fitF l).take y.i).filter (keepB (delB key hi))).length ∧ Nw W.heap.size 42 4 [b1, b2, b3, b4, b5] A w y.a y.k y.c ((((fitF l).take y.i).filter (keepB (delB key hi))).flatMap encE) ∧ Sl 4 encE A w (some ⟨p1, o1, none⟩) ((fitF l).length) c1 (fitF l) ∧ Sl 1 u8 A w la1 ln1 lc1 ((proveF bits (fitF l) key).1.2.1.leaf) ∧ Sl 32 dcells A w pa1 pn1 pc1 ((proveF bits (fitF l) key).1.2.1.path) ∧ Sl 1 u8 A w la2 ln2 lc2 ((proveF bits (fitF l) key).1.2.2.leaf) ∧ Sl 32 dcells A w pa2 pn2 pc2 ((proveF bits (fitF l) key).1.2.2.path) ∧ Rows A w la3 ln3 lc3 ((spanF bits (fitF l) key hi).1.leaves) ∧ Sl 32 dcells A w pa3 pn3 pc3 ((spanF bits (fitF l) key hi).1.path)) (fun y => (fitF l).length - y.i) [0, 2, 3, 9, 10, 11, 15, 22, 23] 5 [b1, b2, b3, b4, b5] ⟨0, 0, none, 0⟩ (by kernel_rfl) (by kernel_rfl) (by kernel_rfl) (fun w1 A1 m1 => ⟨Nat.zero_le _, rfl, Nw.nil _ _ _ _ _ _, hl1.mv m1, hal1.mv m1, hap1.mv m1, hbl1.mv m1, hbp1.mv m1, hsr1.mv m1, hsp1.mv m1⟩) (fun y A11 w11 hI => ?_)
              obtain ⟨hyi, hyk, ho, hl1, hal1, hap1, hbl1, hbp1, hsr1, hsp1⟩ := hI
              have hkl : y.k ≤ y.i := by rw [hyk]; exact Nat.le_trans (List.length_filter_le _ _) (by rw [List.length_take]; omega)
              refine J.run [.n, .n, .n, .u, .u, .u, .u, .n] [0, 2, 3, 9, 10, 11, 15, 22, 23, 130] ⟨[(0, .v (.slice (some ⟨p1, o1, none⟩) ((fitF l).length) c1)), (2, .v (.string key)), (3, .v (.string hi)), (9, .v (.bool true)), (10, .loc 0 0), (11, .loc 1 0), (15, .loc 3 0), (22, .v (.slice y.a y.k y.c)), (23, .v (.int .i64 ((y.i : Nat) : Int))), (130, .v (.bool (decide (((y.i : Nat) : Int) < (((fitF l).length : Nat) : Int)))))], [⟨32, [.int .i64 bits]⟩, ⟨36, encT (descF bits 1 (fitF l)).1⟩, ⟨28, [.bool ((proveF bits (fitF l) key).1.1), .int .i64 ((proveF bits (fitF l) key).1.2.1.t), .slice la1 ln1 lc1, .slice pa1 pn1 pc1, .int .i64 ((proveF bits (fitF l) key).1.2.2.t), .slice la2 ln2 lc2, .slice pa2 pn2 pc2]⟩, ⟨54, [.int .i64 ((spanF bits (fitF l) key hi).1.t), .slice la3 ln3 lc3, .slice pa3 pn3 pc3]⟩, ⟨42, encE (chkE key (fitF l))⟩]⟩ [.c 61] [.c 64, .c 67] (by kernel_rfl) ?_
              refine J.cond (b := (decide (((y.i : Nat) : Int) < (((fitF l).length : Nat) : Int)))) (k' := 66) (by kernel_rfl) (fun hc => ?_) (fun hc => ?_)
              · try simp only [nrm] at hc
                have hc9 := hc
                refine J.run [.n, .n, .n, .n, .n, .u, .u] [0, 2, 3, 9, 10, 11, 15, 22, 23, 133, 134] ⟨[(0, .v (.slice (some ⟨p1, o1, none⟩) ((fitF l).length) c1)), (2, .v (.string key)), (3, .v (.string hi)), (9, .v (.bool true)), (10, .loc 0 0), (11, .loc 1 0), (15, .loc 3 0), (22, .v (.slice y.a y.k y.c)), (23, .v (.int .i64 ((y.i : Nat) : Int))), (133, .v (.slice (some ⟨p1, o1, none⟩) ((fitF l).length) c1)), (134, .v (.int .i64 ((y.i : Nat) : Int)))], [⟨32, [.int .i64 bits]⟩, ⟨36, encT (descF bits 1 (fitF l)).1⟩, ⟨28, [.bool ((proveF bits (fitF l) key).1.1), .int .i64 ((proveF bits (fitF l) key).1.2.1.t), .slice la1 ln1 lc1, .slice pa1 pn1 pc1, .int .i64 ((proveF bits (fitF l) key).1.2.2.t), .slice la2 ln2 lc2, .slice pa2 pn2 pc2]⟩, ⟨54, [.int .i64 ((spanF bits (fitF l) key hi).1.t), .slice la3 ln3 lc3, .slice pa3 pn3 pc3]⟩, ⟨42, encE (chkE key (fitF l))⟩]⟩ [.c 65, .c 67] [.o 70 2, .c 71, .b 1, .c 74] (by kernel_rfl) ?_
                refine J.idx (b := p1) (off := o1) (len := (fitF l).length) (i := ((y.i : Nat) : Int)) (sz := 4) (d := 135) (by kernel_rfl) (by omega) (by omega) ?_
                refine J.run [.u] [0, 2, 3, 9, 10, 11, 15, 22, 23, 136] ⟨[(0, .v (.slice (some ⟨p1, o1, none⟩) ((fitF l).length) c1)), (2, .v (.string key)), (3, .v (.string hi)), (9, .v (.bool true)), (10, .loc 0 0), (11, .loc 1 0), (15, .loc 3 0), (22, .v (.slice y.a y.k y.c)), (23, .v (.int .i64 ((y.i : Nat) : Int))), (136, .v (.pointer (some ⟨p1, o1 + y.i * 4, none⟩)))], [⟨32, [.int .i64 bits]⟩, ⟨36, encT (descF bits 1 (fitF l)).1⟩, ⟨28, [.bool ((proveF bits (fitF l) key).1.1), .int .i64 ((proveF bits (fitF l) key).1.2.1.t), .slice la1 ln1 lc1, .slice pa1 pn1 pc1, .int .i64 ((proveF bits (fitF l) key).1.2.2.t), .slice la2 ln2 lc2, .slice pa2 pn2 pc2]⟩, ⟨54, [.int .i64 ((spanF bits (fitF l) key hi).1.t), .slice la3 ln3 lc3, .slice pa3 pn3 pc3]⟩, ⟨42, encE (chkE key (fitF l))⟩]⟩ [.o 70 3, .c 71, .b 1, .c 74] [.o 70 4, .c 71, .b 1, .c 74] (by kernel_rfl) ?_
                obtain ⟨x2, hx2⟩ : ∃ zq, ((fitF l))[y.i]? = some zq := ⟨_, List.getElem?_eq_getElem (by omega)⟩
                refine J.ld (T := 9) (b := p1) (off := o1 + y.i * 4) (d := 137) (v := .string x2.key) (by kernel_rfl) (fun w1 A1 m1 l1 => (hl1.mv m1).ld1 (by kernel_rfl) hx2 (j := 0) rfl) ?_
                refine J.run [.u, .u, .u] [0, 2, 3, 9, 10, 11, 15, 22, 23, 140] ⟨[(0, .v (.slice (some ⟨p1, o1, none⟩) ((fitF l).length) c1)), (2, .v (.string key)), (3, .v (.string hi)), (9, .v (.bool true)), (10, .loc 0 0), (11, .loc 1 0), (15, .loc 3 0), (22, .v (.slice y.a y.k y.c)), (23, .v (.int .i64 ((y.i : Nat) : Int))), (140, .v (.bool (!(slt x2.key key))))], [⟨32, [.int .i64 bits]⟩, ⟨36, encT (descF bits 1 (fitF l)).1⟩, ⟨28, [.bool ((proveF bits (fitF l) key).1.1), .int .i64 ((proveF bits (fitF l) key).1.2.1.t), .slice la1 ln1 lc1, .slice pa1 pn1 pc1, .int .i64 ((proveF bits (fitF l) key).1.2.2.t), .slice la2 ln2 lc2, .slice pa2 pn2 pc2]⟩, ⟨54, [.int .i64 ((spanF bits (fitF l) key hi).1.t), .slice la3 ln3 lc3, .slice pa3 pn3 pc3]⟩, ⟨42, encE (chkE key (fitF l))⟩]⟩ [.o 70 5, .c 71, .b 1, .c 74] [.o 70 8, .c 71, .b 1, .c 74] (by kernel_rfl) ?_
                rcases Bool.eq_false_or_eq_true (!(slt x2.key key)) with hc | hc
                · rw [hc]
                  try simp only [nrm] at hc
                  have hc10 := hc
                  refine J.run [.w, .w, .w] [0, 2, 3, 9, 10, 11, 15, 22, 23, 140, 143] ⟨[(0, .v (.slice (some ⟨p1, o1, none⟩) ((fitF l).length) c1)), (2, .v (.string key)), (3, .v (.string hi)), (9, .v (.bool true)), (10, .loc 0 0), (11, .loc 1 0), (15, .loc 3 0), (22, .v (.slice y.a y.k y.c)), (23, .v (.int .i64 ((y.i : Nat) : Int))), (140, .v (.bool true)), (143, .v (.bool ((seq hi (⟨#[]⟩ : Str)))))], [⟨32, [.int .i64 bits]⟩, ⟨36, encT (descF bits 1 (fitF l)).1⟩, ⟨28, [.bool ((proveF bits (fitF l) key).1.1), .int .i64 ((proveF bits (fitF l) key).1.2.1.t), .slice la1 ln1 lc1, .slice pa1 pn1 pc1, .int .i64 ((proveF bits (fitF l) key).1.2.2.t), .slice la2 ln2 lc2, .slice pa2 pn2 pc2]⟩, ⟨54, [.int .i64 ((spanF bits (fitF l) key hi).1.t), .slice la3 ln3 lc3, .slice pa3 pn3 pc3]⟩, ⟨42, encE (chkE key (fitF l))⟩]⟩ [.o 70 8, .c 71, .b 1, .c 74] [.o 70 11, .c 71, .b 1, .c 74] (by kernel_rfl) ?_
                  rcases Bool.eq_false_or_eq_true ((seq hi (⟨#[]⟩ : Str))) with hc | hc
                  · rw [hc]
                    try simp only [nrm] at hc
                    have hc11 := hc
                    refine J.run [.x, .x, .x, .x, .x, .x, .x, .w, .u, .n] [0, 2, 3, 9, 10, 11, 15, 22, 23, 152] ⟨[(0, .v (.slice (some ⟨p1, o1, none⟩) ((fitF l).length) c1)), (2, .v (.string key)), (3, .v (.string hi)), (9, .v (.bool true)), (10, .loc 0 0), (11, .loc 1 0), (15, .loc 3 0), (22, .v (.slice y.a y.k y.c)), (23, .v (.int .i64 ((y.i : Nat) : Int))), (152, .v (.bool true))], [⟨32, [.int .i64 bits]⟩, ⟨36, encT (descF bits 1 (fitF l)).1⟩, ⟨28, [.bool ((proveF bits (fitF l) key).1.1), .int .i64 ((proveF bits (fitF l) key).1.2.1.t), .slice la1 ln1 lc1, .slice pa1 pn1 pc1, .int .i64 ((proveF bits (fitF l) key).1.2.2.t), .slice la2 ln2 lc2, .slice pa2 pn2 pc2]⟩, ⟨54, [.int .i64 ((spanF bits (fitF l) key hi).1.t), .slice la3 ln3 lc3, .slice pa3 pn3 pc3]⟩, ⟨42, encE (chkE key (fitF l))⟩]⟩ [.o 70 11, .c 71, .b 1, .c 74] [.c 71, .b 1, .c 74] (by kernel_rfl) ?_
                    refine J.cond (b := true) (k' := 73) (by kernel_rfl) (fun _ => ?_) (fun hc => absurd hc (by decide))
                    refine J.run [.n, .u, .u, .u] [0, 2, 3, 9, 10, 11, 15, 23, 153, 154, 155] ⟨[(0, .v (.slice (some ⟨p1, o1, none⟩) ((fitF l).length) c1)), (2, .v (.string key)), (3, .v (.string hi)), (9, .v (.bool true)), (10, .loc 0 0), (11, .loc 1 0), (15, .loc 3 0), (23, .v (.int .i64 ((y.i : Nat) : Int))), (153, .v (.slice y.a y.k y.c)), (154, .v (.slice (some ⟨p1, o1, none⟩) ((fitF l).length) c1)), (155, .v (.int .i64 ((y.i : Nat) : Int)))], [⟨32, [.int .i64 bits]⟩, ⟨36, encT (descF bits 1 (fitF l)).1⟩, ⟨28, [.bool ((proveF bits (fitF l) key).1.1), .int .i64 ((proveF bits (fitF l) key).1.2.1.t), .slice la1 ln1 lc1, .slice pa1 pn1 pc1, .int .i64 ((proveF bits (fitF l) key).1.2.2.t), .slice la2 ln2 lc2, .slice pa2 pn2 pc2]⟩, ⟨54, [.int .i64 ((spanF bits (fitF l) key hi).1.t), .slice la3 ln3 lc3, .slice pa3 pn3 pc3]⟩, ⟨42, encE (chkE key (fitF l))⟩]⟩ [.c 72, .b 1, .c 74] [.o 72 3, .b 1, .c 74] (by kernel_rfl) ?_
                    refine J.idx (b := p1) (off := o1) (len := (fitF l).length) (i := ((y.i : Nat) : Int)) (sz := 4) (d := 156) (by kernel_rfl) (by omega) (by omega) ?_
                    refine J.ld (T := 42) (b := p1) (off := o1 + y.i * 4) (d := 157) (v := .agg (encE x2).toArray) (by kernel_rfl) (fun w1 A1 m1 l1 => (hl1.mv m1).ld (by kernel_rfl) hx2 (by kernel_rfl)) ?_
                    refine J.new (T := 42) (cs := encE x2) (d := 158) (K := (.sl 1)) (by kernel_rfl) (fun b6 hb6 => ?_)
                    replace ho := ho.more hb6
                    refine J.append (e := 42) (sz := 4) (a := y.a) (nn := y.k) (c := y.c) (T := 22) (Tx := 22) (x := .slice (some ⟨b6, 0, none⟩) 1 1) (bytes := 48) (d := 159) (xs := (((fitF l).take y.i).filter (keepB (delB key hi))).flatMap encE) (news := encE x2) (m := 1) (by kernel_rfl) (by kernel_rfl) ho.own (.inr ho) (fun w1 A1 m1 l1 => l1.src (i := 5) rfl (e := 42) (by kernel_rfl) rfl rfl) (by simp only [maxLen]; omega) (by omega) ?_
                    intro a2 c2 w12 A12 hn1 m11
                    replace hl1 := hl1.mv m11; replace hal1 := hal1.mv m11; replace hap1 := hap1.mv m11; replace hbl1 := hbl1.mv m11; replace hbp1 := hbp1.mv m11; replace hsr1 := hsr1.mv m11; replace hsp1 := hsp1.mv m11
                    replace hn1 := hn1.re (n' := y.k + 1) (ys := ((((fitF l).take y.i).filter (keepB (delB key hi))) ++ [x2]).flatMap encE) rfl (by first | (simp only [List.flatMap_append, dbytes_flat, byteCells_u8]; done) | (rw [List.flatMap_append]; rfl))
                    refine J.run [.u, .n, .n, .n, .u, .u, .u, .n] [0, 2, 3, 9, 10, 11, 15, 22, 23] ⟨[(0, .v (.slice (some ⟨p1, o1, none⟩) ((fitF l).length) c1)), (2, .v (.string key)), (3, .v (.string hi)), (9, .v (.bool true)), (10, .loc 0 0), (11, .loc 1 0), (15, .loc 3 0), (22, .v (.slice a2 (y.k + 1) c2)), (23, .v (.int .i64 (IntKind.i64.wrap (((y.i : Nat) : Int) + 1))))], [⟨32, [.int .i64 bits]⟩, ⟨36, encT (descF bits 1 (fitF l)).1⟩, ⟨28, [.bool ((proveF bits (fitF l) key).1.1), .int .i64 ((proveF bits (fitF l) key).1.2.1.t), .slice la1 ln1 lc1, .slice pa1 pn1 pc1, .int .i64 ((proveF bits (fitF l) key).1.2.2.t), .slice la2 ln2 lc2, .slice pa2 pn2 pc2]⟩, ⟨54, [.int .i64 ((spanF bits (fitF l) key hi).1.t), .slice la3 ln3 lc3, .slice pa3 pn3 pc3]⟩, ⟨42, encE (chkE key (fitF l))⟩, ⟨42, encE x2⟩]⟩ [.o 72 7, .b 1, .c 74] [] (by kernel_rfl) ?_
                    have hw1 : IntKind.i64.wrap (((y.i : Nat) : Int) + 1) = ((y.i + 1 : Nat) : Int) := by rw [wrap_i64 (by omega) (by omega)]; try omega
                    rw [hw1]
                    have hkp : keepB (delB key hi) x2 = true := by rw [keep_iff]; simp [belowF, hc10, hc11]
                    have hnx := filter_next (p := keepB (delB key hi)) hx2; rw [hkp] at hnx; simp only [if_true, Bool.false_eq_true, if_false, List.append_nil] at hnx
                    rw [← hnx] at hn1
                    exact J.again ⟨y.i + 1, y.k + 1, a2, c2⟩ [0, 2, 3, 9, 10, 11, 15, 22, 23] 5 (by simp only; omega) (by kernel_rfl) (by kernel_rfl) (fun w1 A1 m1 => ⟨by simp only; omega, by rw [hnx, List.length_append, ← hyk]; rfl, (hn1.mv m1).fewer (by simp), hl1.mv m1, hal1.mv m1, hap1.mv m1, hbl1.mv m1, hbp1.mv m1, hsr1.mv m1, hsp1.mv m1⟩)
                  · rw [hc]
                    try simp only [nrm] at hc
                    have hc11 := hc
                    refine J.run [.w, .w] [0, 2, 3, 9, 10, 11, 15, 22, 23, 140, 143, 144, 145] ⟨[(0, .v (.slice (some ⟨p1, o1, none⟩) ((fitF l).length) c1)), (2, .v (.string key)), (3, .v (.string hi)), (9, .v (.bool true)), (10, .loc 0 0), (11, .loc 1 0), (15, .loc 3 0), (22, .v (.slice y.a y.k y.c)), (23, .v (.int .i64 ((y.i : Nat) : Int))), (140, .v (.bool true)), (143, .v (.bool false)), (144, .v (.slice (some ⟨p1, o1, none⟩) ((fitF l).length) c1)), (145, .v (.int .i64 ((y.i : Nat) : Int)))], [⟨32, [.int .i64 bits]⟩, ⟨36, encT (descF bits 1 (fitF l)).1⟩, ⟨28, [.bool ((proveF bits (fitF l) key).1.1), .int .i64 ((proveF bits (fitF l) key).1.2.1.t), .slice la1 ln1 lc1, .slice pa1 pn1 pc1, .int .i64 ((proveF bits (fitF l) key).1.2.2.t), .slice la2 ln2 lc2, .slice pa2 pn2 pc2]⟩, ⟨54, [.int .i64 ((spanF bits (fitF l) key hi).1.t), .slice la3 ln3 lc3, .slice pa3 pn3 pc3]⟩, ⟨42, encE (chkE key (fitF l))⟩]⟩ [.o 70 11, .c 71, .b 1, .c 74] [.o 70 13, .c 71, .b 1, .c 74] (by kernel_rfl) ?_
                    refine J.idx (b := p1) (off := o1) (len := (fitF l).length) (i := ((y.i : Nat) : Int)) (sz := 4) (d := 146) (by kernel_rfl) (by omega) (by omega) ?_
                    refine J.run [.w] [0, 2, 3, 9, 10, 11, 15, 22, 23, 140, 143, 147] ⟨[(0, .v (.slice (some ⟨p1, o1, none⟩) ((fitF l).length) c1)), (2, .v (.string key)), (3, .v (.string hi)), (9, .v (.bool true)), (10, .loc 0 0), (11, .loc 1 0), (15, .loc 3 0), (22, .v (.slice y.a y.k y.c)), (23, .v (.int .i64 ((y.i : Nat) : Int))), (140, .v (.bool true)), (143, .v (.bool false)), (147, .v (.pointer (some ⟨p1, o1 + y.i * 4, none⟩)))], [⟨32, [.int .i64 bits]⟩, ⟨36, encT (descF bits 1 (fitF l)).1⟩, ⟨28, [.bool ((proveF bits (fitF l) key).1.1), .int .i64 ((proveF bits (fitF l) key).1.2.1.t), .slice la1 ln1 lc1, .slice pa1 pn1 pc1, .int .i64 ((proveF bits (fitF l) key).1.2.2.t), .slice la2 ln2 lc2, .slice pa2 pn2 pc2]⟩, ⟨54, [.int .i64 ((spanF bits (fitF l) key hi).1.t), .slice la3 ln3 lc3, .slice pa3 pn3 pc3]⟩, ⟨42, encE (chkE key (fitF l))⟩]⟩ [.o 70 14, .c 71, .b 1, .c 74] [.o 70 15, .c 71, .b 1, .c 74] (by kernel_rfl) ?_
                    refine J.ld (T := 9) (b := p1) (off := o1 + y.i * 4) (d := 148) (v := .string x2.key) (by kernel_rfl) (fun w1 A1 m1 l1 => (hl1.mv m1).ld1 (by kernel_rfl) hx2 (j := 0) rfl) ?_
                    refine J.run [.w, .w, .w, .u, .n] [0, 2, 3, 9, 10, 11, 15, 22, 23, 152] ⟨[(0, .v (.slice (some ⟨p1, o1, none⟩) ((fitF l).length) c1)), (2, .v (.string key)), (3, .v (.string hi)), (9, .v (.bool true)), (10, .loc 0 0), (11, .loc 1 0), (15, .loc 3 0), (22, .v (.slice y.a y.k y.c)), (23, .v (.int .i64 ((y.i : Nat) : Int))), (152, .v (.bool (slt x2.key hi)))], [⟨32, [.int .i64 bits]⟩, ⟨36, encT (descF bits 1 (fitF l)).1⟩, ⟨28, [.bool ((proveF bits (fitF l) key).1.1), .int .i64 ((proveF bits (fitF l) key).1.2.1.t), .slice la1 ln1 lc1, .slice pa1 pn1 pc1, .int .i64 ((proveF bits (fitF l) key).1.2.2.t), .slice la2 ln2 lc2, .slice pa2 pn2 pc2]⟩, ⟨54, [.int .i64 ((spanF bits (fitF l) key hi).1.t), .slice la3 ln3 lc3, .slice pa3 pn3 pc3]⟩, ⟨42, encE (chkE key (fitF l))⟩]⟩ [.o 70 16, .c 71, .b 1, .c 74] [.c 71, .b 1, .c 74] (by kernel_rfl) ?_
                    refine J.cond (b := (slt x2.key hi)) (k' := 73) (by kernel_rfl) (fun hc => ?_) (fun hc => ?_)
                    · try simp only [nrm] at hc
                      have hc12 := hc
                      refine J.run [.n, .u, .u, .u] [0, 2, 3, 9, 10, 11, 15, 23, 153, 154, 155] ⟨[(0, .v (.slice (some ⟨p1, o1, none⟩) ((fitF l).length) c1)), (2, .v (.string key)), (3, .v (.string hi)), (9, .v (.bool true)), (10, .loc 0 0), (11, .loc 1 0), (15, .loc 3 0), (23, .v (.int .i64 ((y.i : Nat) : Int))), (153, .v (.slice y.a y.k y.c)), (154, .v (.slice (some ⟨p1, o1, none⟩) ((fitF l).length) c1)), (155, .v (.int .i64 ((y.i : Nat) : Int)))], [⟨32, [.int .i64 bits]⟩, ⟨36, encT (descF bits 1 (fitF l)).1⟩, ⟨28, [.bool ((proveF bits (fitF l) key).1.1), .int .i64 ((proveF bits (fitF l) key).1.2.1.t), .slice la1 ln1 lc1, .slice pa1 pn1 pc1, .int .i64 ((proveF bits (fitF l) key).1.2.2.t), .slice la2 ln2 lc2, .slice pa2 pn2 pc2]⟩, ⟨54, [.int .i64 ((spanF bits (fitF l) key hi).1.t), .slice la3 ln3 lc3, .slice pa3 pn3 pc3]⟩, ⟨42, encE (chkE key (fitF l))⟩]⟩ [.c 72, .b 1, .c 74] [.o 72 3, .b 1, .c 74] (by kernel_rfl) ?_
                      refine J.idx (b := p1) (off := o1) (len := (fitF l).length) (i := ((y.i : Nat) : Int)) (sz := 4) (d := 156) (by kernel_rfl) (by omega) (by omega) ?_
                      refine J.ld (T := 42) (b := p1) (off := o1 + y.i * 4) (d := 157) (v := .agg (encE x2).toArray) (by kernel_rfl) (fun w1 A1 m1 l1 => (hl1.mv m1).ld (by kernel_rfl) hx2 (by kernel_rfl)) ?_
                      refine J.new (T := 42) (cs := encE x2) (d := 158) (K := (.sl 1)) (by kernel_rfl) (fun b7 hb7 => ?_)
                      replace ho := ho.more hb7
                      refine J.append (e := 42) (sz := 4) (a := y.a) (nn := y.k) (c := y.c) (T := 22) (Tx := 22) (x := .slice (some ⟨b7, 0, none⟩) 1 1) (bytes := 48) (d := 159) (xs := (((fitF l).take y.i).filter (keepB (delB key hi))).flatMap encE) (news := encE x2) (m := 1) (by kernel_rfl) (by kernel_rfl) ho.own (.inr ho) (fun w1 A1 m1 l1 => l1.src (i := 5) rfl (e := 42) (by kernel_rfl) rfl rfl) (by simp only [maxLen]; omega) (by omega) ?_
                      intro a3 c3 w13 A13 hn2 m12
                      replace hl1 := hl1.mv m12; replace hal1 := hal1.mv m12; replace hap1 := hap1.mv m12; replace hbl1 := hbl1.mv m12; replace hbp1 := hbp1.mv m12; replace hsr1 := hsr1.mv m12; replace hsp1 := hsp1.mv m12
                      replace hn2 := hn2.re (n' := y.k + 1) (ys := ((((fitF l).take y.i).filter (keepB (delB key hi))) ++ [x2]).flatMap encE) rfl (by first | (simp only [List.flatMap_append, dbytes_flat, byteCells_u8]; done) | (rw [List.flatMap_append]; rfl))
                      refine J.run [.u, .n, .n, .n, .u, .u, .u, .n] [0, 2, 3, 9, 10, 11, 15, 22, 23] ⟨[(0, .v (.slice (some ⟨p1, o1, none⟩) ((fitF l).length) c1)), (2, .v (.string key)), (3, .v (.string hi)), (9, .v (.bool true)), (10, .loc 0 0), (11, .loc 1 0), (15, .loc 3 0), (22, .v (.slice a3 (y.k + 1) c3)), (23, .v (.int .i64 (IntKind.i64.wrap (((y.i : Nat) : Int) + 1))))], [⟨32, [.int .i64 bits]⟩, ⟨36, encT (descF bits 1 (fitF l)).1⟩, ⟨28, [.bool ((proveF bits (fitF l) key).1.1), .int .i64 ((proveF bits (fitF l) key).1.2.1.t), .slice la1 ln1 lc1, .slice pa1 pn1 pc1, .int .i64 ((proveF bits (fitF l) key).1.2.2.t), .slice la2 ln2 lc2, .slice pa2 pn2 pc2]⟩, ⟨54, [.int .i64 ((spanF bits (fitF l) key hi).1.t), .slice la3 ln3 lc3, .slice pa3 pn3 pc3]⟩, ⟨42, encE (chkE key (fitF l))⟩, ⟨42, encE x2⟩]⟩ [.o 72 7, .b 1, .c 74] [] (by kernel_rfl) ?_
                      have hw2 : IntKind.i64.wrap (((y.i : Nat) : Int) + 1) = ((y.i + 1 : Nat) : Int) := by rw [wrap_i64 (by omega) (by omega)]; try omega
                      rw [hw2]
                      have hkp : keepB (delB key hi) x2 = true := by rw [keep_iff]; simp [belowF, hc10, hc11, hc12]
                      have hnx := filter_next (p := keepB (delB key hi)) hx2; rw [hkp] at hnx; simp only [if_true, Bool.false_eq_true, if_false, List.append_nil] at hnx
                      rw [← hnx] at hn2
                      exact J.again ⟨y.i + 1, y.k + 1, a3, c3⟩ [0, 2, 3, 9, 10, 11, 15, 22, 23] 5 (by simp only; omega) (by kernel_rfl) (by kernel_rfl) (fun w1 A1 m1 => ⟨by simp only; omega, by rw [hnx, List.length_append, ← hyk]; rfl, (hn2.mv m1).fewer (by simp), hl1.mv m1, hal1.mv m1, hap1.mv m1, hbl1.mv m1, hbp1.mv m1, hsr1.mv m1, hsp1.mv m1⟩)
                    · try simp only [nrm] at hc
                      have hc12 := hc
                      refine J.run [.n, .n, .n, .u, .u, .u, .n] [0, 2, 3, 9, 10, 11, 15, 22, 23] ⟨[(0, .v (.slice (some ⟨p1, o1, none⟩) ((fitF l).length) c1)), (2, .v (.string key)), (3, .v (.string hi)), (9, .v (.bool true)), (10, .loc 0 0), (11, .loc 1 0), (15, .loc 3 0), (22, .v (.slice y.a y.k y.c)), (23, .v (.int .i64 (IntKind.i64.wrap (((y.i : Nat) : Int) + 1))))], [⟨32, [.int .i64 bits]⟩, ⟨36, encT (descF bits 1 (fitF l)).1⟩, ⟨28, [.bool ((proveF bits (fitF l) key).1.1), .int .i64 ((proveF bits (fitF l) key).1.2.1.t), .slice la1 ln1 lc1, .slice pa1 pn1 pc1, .int .i64 ((proveF bits (fitF l) key).1.2.2.t), .slice la2 ln2 lc2, .slice pa2 pn2 pc2]⟩, ⟨54, [.int .i64 ((spanF bits (fitF l) key hi).1.t), .slice la3 ln3 lc3, .slice pa3 pn3 pc3]⟩, ⟨42, encE (chkE key (fitF l))⟩]⟩ [.c 73, .b 1, .c 74] [] (by kernel_rfl) ?_
                      have hw3 : IntKind.i64.wrap (((y.i : Nat) : Int) + 1) = ((y.i + 1 : Nat) : Int) := by rw [wrap_i64 (by omega) (by omega)]; try omega
                      rw [hw3]
                      have hkp : keepB (delB key hi) x2 = false := by rw [keep_iff]; simp [belowF, hc10, hc11, hc12]
                      have hnx := filter_next (p := keepB (delB key hi)) hx2; rw [hkp] at hnx; simp only [if_true, Bool.false_eq_true, if_false, List.append_nil] at hnx
                      rw [← hnx] at ho
                      exact J.again ⟨y.i + 1, y.k, y.a, y.c⟩ [0, 2, 3, 9, 10, 11, 15, 22, 23] 5 (by simp only; omega) (by kernel_rfl) (by kernel_rfl) (fun w1 A1 m1 => ⟨by simp only; omega, by rw [hnx]; exact hyk, (ho.mv m1).fewer (by simp), hl1.mv m1, hal1.mv m1, hap1.mv m1, hbl1.mv m1, hbp1.mv m1, hsr1.mv m1, hsp1.mv m1⟩)
                · rw [hc]
                  try simp only [nrm] at hc
                  have hc10 := hc
                  refine J.run [.x, .x, .x, .x, .x, .x, .x, .x, .x, .x, .x, .u, .n] [0, 2, 3, 9, 10, 11, 15, 22, 23, 152] ⟨[(0, .v (.slice (some ⟨p1, o1, none⟩) ((fitF l).length) c1)), (2, .v (.string key)), (3, .v (.string hi)), (9, .v (.bool true)), (10, .loc 0 0), (11, .loc 1 0), (15, .loc 3 0), (22, .v (.slice y.a y.k y.c)), (23, .v (.int .i64 ((y.i : Nat) : Int))), (152, .v (.bool false))], [⟨32, [.int .i64 bits]⟩, ⟨36, encT (descF bits 1 (fitF l)).1⟩, ⟨28, [.bool ((proveF bits (fitF l) key).1.1), .int .i64 ((proveF bits (fitF l) key).1.2.1.t), .slice la1 ln1 lc1, .slice pa1 pn1 pc1, .int .i64 ((proveF bits (fitF l) key).1.2.2.t), .slice la2 ln2 lc2, .slice pa2 pn2 pc2]⟩, ⟨54, [.int .i64 ((spanF bits (fitF l) key hi).1.t), .slice la3 ln3 lc3, .slice pa3 pn3 pc3]⟩, ⟨42, encE (chkE key (fitF l))⟩]⟩ [.o 70 8, .c 71, .b 1, .c 74] [.c 71, .b 1, .c 74] (by kernel_rfl) ?_
                  refine J.cond (b := false) (k' := 73) (by kernel_rfl) (fun hc => absurd hc (by decide)) (fun _ => ?_)
                  refine J.run [.n, .n, .n, .u, .u, .u, .n] [0, 2, 3, 9, 10, 11, 15, 22, 23] ⟨[(0, .v (.slice (some ⟨p1, o1, none⟩) ((fitF l).length) c1)), (2, .v (.string key)), (3, .v (.string hi)), (9, .v (.bool true)), (10, .loc 0 0), (11, .loc 1 0), (15, .loc 3 0), (22, .v (.slice y.a y.k y.c)), (23, .v (.int .i64 (IntKind.i64.wrap (((y.i : Nat) : Int) + 1))))], [⟨32, [.int .i64 bits]⟩, ⟨36, encT (descF bits 1 (fitF l)).1⟩, ⟨28, [.bool ((proveF bits (fitF l) key).1.1), .int .i64 ((proveF bits (fitF l) key).1.2.1.t), .slice la1 ln1 lc1, .slice pa1 pn1 pc1, .int .i64 ((proveF bits (fitF l) key).1.2.2.t), .slice la2 ln2 lc2, .slice pa2 pn2 pc2]⟩, ⟨54, [.int .i64 ((spanF bits (fitF l) key hi).1.t), .slice la3 ln3 lc3, .slice pa3 pn3 pc3]⟩, ⟨42, encE (chkE key (fitF l))⟩]⟩ [.c 73, .b 1, .c 74] [] (by kernel_rfl) ?_
                  have hw4 : IntKind.i64.wrap (((y.i : Nat) : Int) + 1) = ((y.i + 1 : Nat) : Int) := by rw [wrap_i64 (by omega) (by omega)]; try omega
                  rw [hw4]
                  have hkp : keepB (delB key hi) x2 = false := by rw [keep_iff]; simp [belowF, hc10]
                  have hnx := filter_next (p := keepB (delB key hi)) hx2; rw [hkp] at hnx; simp only [if_true, Bool.false_eq_true, if_false, List.append_nil] at hnx
                  rw [← hnx] at ho
                  exact J.again ⟨y.i + 1, y.k, y.a, y.c⟩ [0, 2, 3, 9, 10, 11, 15, 22, 23] 5 (by simp only; omega) (by kernel_rfl) (by kernel_rfl) (fun w1 A1 m1 => ⟨by simp only; omega, by rw [hnx]; exact hyk, (ho.mv m1).fewer (by simp), hl1.mv m1, hal1.mv m1, hap1.mv m1, hbl1.mv m1, hbp1.mv m1, hsr1.mv m1, hsp1.mv m1⟩)
              · try simp only [nrm] at hc
                have hc9 := hc
                refine J.exit (id := 0) (by kernel_rfl) (by rfl) ?_
                have hfin : (fitF l).take y.i = fitF l := List.take_of_length_le (by omega)
                rw [hfin] at ho hyk
                refine J.run [.n, .n, .u, .u, .u, .u, .u] [9, 22, 161, 162, 163, 164, 165] ⟨[(9, .v (.bool true)), (22, .v (.slice y.a y.k y.c)), (161, .v (.agg [.int .i64 bits].toArray)), (162, .v (.agg (encT (descF bits 1 (fitF l)).1).toArray)), (163, .v (.string key)), (164, .v (.string hi)), (165, .v (.agg [.int .i64 ((spanF bits (fitF l) key hi).1.t), .slice la3 ln3 lc3, .slice pa3 pn3 pc3].toArray))], [⟨32, [.int .i64 bits]⟩, ⟨36, encT (descF bits 1 (fitF l)).1⟩, ⟨28, [.bool ((proveF bits (fitF l) key).1.1), .int .i64 ((proveF bits (fitF l) key).1.2.1.t), .slice la1 ln1 lc1, .slice pa1 pn1 pc1, .int .i64 ((proveF bits (fitF l) key).1.2.2.t), .slice la2 ln2 lc2, .slice pa2 pn2 pc2]⟩, ⟨54, [.int .i64 ((spanF bits (fitF l) key hi).1.t), .slice la3 ln3 lc3, .slice pa3 pn3 pc3]⟩, ⟨42, encE (chkE key (fitF l))⟩]⟩ [.c 75] [.o 76 5, .c 77] (by kernel_rfl) ?_
                refine J.call (d := some 166) (by kernel_rfl) (fun w1 A1 m1 l1 => (by have q := checkSpan_calls bits (descF bits 1 (fitF l)).1 (fitF l).length (descF_1 hf (by decide) (by decide)) (by omega) key hi (spanF bits (fitF l) key hi).1 (spanF_short _ _ _ _) la3 ln3 lc3 pa3 pn3 pc3 nobody w1 noA (hsr1.mv m1).any (hsp1.mv m1).any; rw [check_span hf (by decide) (by decide) key hi hc8] at q; exact q)) ?_
                rintro _ u11 w14 A14 ⟨a4, c4, rfl, hgq1⟩ g10
                have m13 := g10.mv
                replace hl1 := hl1.mv m13; replace hal1 := hal1.mv m13; replace hap1 := hap1.mv m13; replace hbl1 := hbl1.mv m13; replace hbp1 := hbp1.mv m13; replace hsr1 := hsr1.mv m13; replace hsp1 := hsp1.mv m13; replace ho := ho.mv m13
                have hg1 : Sl 4 encE A14 w14 a4 ((fitF l).filter (keepB (delB key hi))).length c4 ((fitF l).filter (keepB (delB key hi))) := hgq1.sl (fun x _ => rfl) (by decide) g10.bd
                refine J.run [.u, .u, .u, .u, .u, .n, .n, .n, .u, .u, .w, .w, .u, .u, .w, .w] [174, 175, 176] ⟨[(174, .v (.bool true)), (175, .v (.slice a4 (((fitF l).filter (keepB (delB key hi))).length) c4)), (176, .v (.slice y.a y.k y.c))], [⟨32, [.int .i64 bits]⟩, ⟨36, encT (descF bits 1 (fitF l)).1⟩, ⟨28, [.bool ((proveF bits (fitF l) key).1.1), .int .i64 ((proveF bits (fitF l) key).1.2.1.t), .slice la1 ln1 lc1, .slice pa1 pn1 pc1, .int .i64 ((proveF bits (fitF l) key).1.2.2.t), .slice la2 ln2 lc2, .slice pa2 pn2 pc2]⟩, ⟨54, [.int .i64 ((spanF bits (fitF l) key hi).1.t), .slice la3 ln3 lc3, .slice pa3 pn3 pc3]⟩, ⟨42, encE (chkE key (fitF l))⟩]⟩ [.o 76 6, .c 77] [.o 78 8, .c 79] (by kernel_rfl) ?_
                refine J.call (d := some 177) (by kernel_rfl) (fun w1 A1 m1 l1 => same_calls a4 (((fitF l).filter (keepB (delB key hi))).length) c4 ((fitF l).filter (keepB (delB key hi))) y.a y.k y.c ((fitF l).filter (keepB (delB key hi))) nobody w1 noA (hg1.mv m1).any ((ho.mv m1).any (fun x _ => rfl) (by decide))) ?_
                rintro _ u12 w15 A15 rfl g11
                have m14 := g11.mv
                replace hl1 := hl1.mv m14; replace hal1 := hal1.mv m14; replace hap1 := hap1.mv m14; replace hbl1 := hbl1.mv m14; replace hbp1 := hbp1.mv m14; replace hsr1 := hsr1.mv m14; replace hsp1 := hsp1.mv m14; replace hg1 := hg1.mv m14; replace ho := ho.mv m14
                refine J.run [.u, .u, .n] [8] ⟨[(8, .v (.bool (sameL ((fitF l).filter (keepB (delB key hi))) ((fitF l).filter (keepB (delB key hi))))))], [⟨32, [.int .i64 bits]⟩, ⟨36, encT (descF bits 1 (fitF l)).1⟩, ⟨28, [.bool ((proveF bits (fitF l) key).1.1), .int .i64 ((proveF bits (fitF l) key).1.2.1.t), .slice la1 ln1 lc1, .slice pa1 pn1 pc1, .int .i64 ((proveF bits (fitF l) key).1.2.2.t), .slice la2 ln2 lc2, .slice pa2 pn2 pc2]⟩, ⟨54, [.int .i64 ((spanF bits (fitF l) key hi).1.t), .slice la3 ln3 lc3, .slice pa3 pn3 pc3]⟩, ⟨42, encE (chkE key (fitF l))⟩]⟩ [.o 78 9, .c 79] [.c 79] (by kernel_rfl) ?_
                refine J.ret (v := .bool (sameL ((fitF l).filter (keepB (delB key hi))) ((fitF l).filter (keepB (delB key hi))))) (by kernel_rfl) (by kernel_rfl) (fun w1 A1 m1 hac l1 => by rw [sameL_iff.2 rfl])
        · rw [hc]
          try simp only [nrm] at hc
          have hc6 := hc
          refine J.draw [] nobody (by kernel_rfl) (by kernel_rfl) (fun _ h => h.elim) (fun w16 A16 m15 hr2 hX2 => ?_)
          replace hs := hs.mv m15; replace hl1 := hl1.mv m15; replace hal1 := hal1.mv m15; replace hap1 := hap1.mv m15; replace hbl1 := hbl1.mv m15; replace hbp1 := hbp1.mv m15; replace hsr1 := hsr1.mv m15; replace hsp1 := hsp1.mv m15
          refine J.take0 [(0, .u), (1, .u), (2, .u), (3, .w), (4, .w), (5, .w), (6, .u), (7, .u), (8, .w), (9, .w), (10, .x), (11, .x), (12, .x), (13, .x), (14, .x), (15, .x), (16, .x), (17, .x), (18, .x), (19, .x), (20, .x), (21, .x), (22, .w), (23, .u)] [0, 2, 3, 9, 10, 11, 15, 16, 123] [(0, .v (.slice a1 ((fitF l).length) c1)), (2, .v (.string key)), (3, .v (.string hi)), (9, .v (.bool true)), (10, .loc 0 0), (11, .loc 1 0), (15, .loc 3 0), (16, .v (.int .i64 ((spanF bits (fitF l) key hi).2))), (123, .v (.bool false))] [23, 22, 21, 20, 19, 18, 17, 16, 15, 14, 13, 12, 11, 10, 9, 8, 7, 6, 5, 4, 3, 2, 1, 0] (calm_body _ _ _) (by intro k _ h; exact h) hr2 (by kernel_rfl) ?_
          refine J.pdone (by kernel_rfl) ?_
          refine J.cond (b := false) (k' := 44) (by kernel_rfl) (fun hc => absurd hc (by decide)) (fun _ => ?_)
          refine J.run [.n, .n, .n, .n, .u, .u, .n] [0, 2, 3, 9, 10, 11, 15, 125] ⟨[(0, .v (.slice a1 ((fitF l).length) c1)), (2, .v (.string key)), (3, .v (.string hi)), (9, .v (.bool true)), (10, .loc 0 0), (11, .loc 1 0), (15, .loc 3 0), (125, .v (.bool (((spanF bits (fitF l) key hi).2) != 0)))], [⟨32, [.int .i64 bits]⟩, ⟨36, encT (descF bits 1 (fitF l)).1⟩, ⟨28, [.bool ((proveF bits (fitF l) key).1.1), .int .i64 ((proveF bits (fitF l) key).1.2.1.t), .slice la1 ln1 lc1, .slice pa1 pn1 pc1, .int .i64 ((proveF bits (fitF l) key).1.2.2.t), .slice la2 ln2 lc2, .slice pa2 pn2 pc2]⟩, ⟨54, [.int .i64 ((spanF bits (fitF l) key hi).1.t), .slice la3 ln3 lc3, .slice pa3 pn3 pc3]⟩, ⟨42, encE (chkE key (fitF l))⟩]⟩ [.c 44, .c 46] [.c 49, .c 54] (by kernel_rfl) ?_
          refine J.cond (b := (((spanF bits (fitF l) key hi).2) != 0)) (k' := 53) (by kernel_rfl) (fun hc => ?_) (fun hc => ?_)
          · try simp only [nrm] at hc
            have hc13 := hc
            refine J.run [.n, .n, .u, .u, .n] [8] ⟨[(8, .v (.bool true))], [⟨32, [.int .i64 bits]⟩, ⟨36, encT (descF bits 1 (fitF l)).1⟩, ⟨28, [.bool ((proveF bits (fitF l) key).1.1), .int .i64 ((proveF bits (fitF l) key).1.2.1.t), .slice la1 ln1 lc1, .slice pa1 pn1 pc1, .int .i64 ((proveF bits (fitF l) key).1.2.2.t), .slice la2 ln2 lc2, .slice pa2 pn2 pc2]⟩, ⟨54, [.int .i64 ((spanF bits (fitF l) key hi).1.t), .slice la3 ln3 lc3, .slice pa3 pn3 pc3]⟩, ⟨42, encE (chkE key (fitF l))⟩]⟩ [.c 50, .c 54] [.c 52, .c 54] (by kernel_rfl) ?_
            refine J.ret (v := .bool true) (by kernel_rfl) (by kernel_rfl) (fun w1 A1 m1 hac l1 => rfl)
          · try simp only [nrm] at hc
            have hc13 := hc
            refine J.run [.n, .n, .n, .u, .n, .n, .n, .n, .u, .n, .n] [0, 2, 3, 9, 10, 11, 15, 22, 23] ⟨[(0, .v (.slice a1 ((fitF l).length) c1)), (2, .v (.string key)), (3, .v (.string hi)), (9, .v (.bool true)), (10, .loc 0 0), (11, .loc 1 0), (15, .loc 3 0), (22, .v (.slice none 0 0)), (23, .v (.int .i64 0))], [⟨32, [.int .i64 bits]⟩, ⟨36, encT (descF bits 1 (fitF l)).1⟩, ⟨28, [.bool ((proveF bits (fitF l) key).1.1), .int .i64 ((proveF bits (fitF l) key).1.2.1.t), .slice la1 ln1 lc1, .slice pa1 pn1 pc1, .int .i64 ((proveF bits (fitF l) key).1.2.2.t), .slice la2 ln2 lc2, .slice pa2 pn2 pc2]⟩, ⟨54, [.int .i64 ((spanF bits (fitF l) key hi).1.t), .slice la3 ln3 lc3, .slice pa3 pn3 pc3]⟩, ⟨42, encE (chkE key (fitF l))⟩]⟩ [.c 53, .c 54] [.c 60, .b 0, .c 75] (by kernel_rfl) ?_
            refine J.loop (X := WantSt) (fun y => ⟨[(0, .v (.slice a1 ((fitF l).length) c1)), (2, .v (.string key)), (3, .v (.string hi)), (9, .v (.bool true)), (10, .loc 0 0), (11, .loc 1 0), (15, .loc 3 0), (22, .v (.slice y.a y.k y.c)), (23, .v (.int .i64 ((y.i : Nat) : Int)))], [⟨32, [.int .i64 bits]⟩, ⟨36, encT (descF bits 1 (fitF l)).1⟩, ⟨28, [.bool ((proveF bits (fitF l) key).1.1), .int .i64 ((proveF bits (fitF l) key).1.2.1.t), .slice la1 ln1 lc1, .slice pa1 pn1 pc1, .int .i64 ((proveF bits (fitF l) key).1.2.2.t), .slice la2 ln2 lc2, .slice pa2 pn2 pc2]⟩, ⟨54, [.int .i64 ((spanF bits (fitF l) key hi).1.t), .slice la3 ln3 lc3, .slice pa3 pn3 pc3]⟩, ⟨42, encE (chkE key (fitF l))⟩]⟩) (fun y A w => y.i ≤ (fitF l).length ∧ y.k = (((fitF l).take y.i).filter (keepB (delB key hi))).length ∧ Nw W.heap.size 42 4 [b1, b2, b3, b4, b5] A w y.a y.k y.c ((((fitF l).take y.i).filter (keepB (delB key hi))).flatMap encE) ∧ Sl 4 encE A w a1 ((fitF l).length) c1 (fitF l) ∧ Sl 1 u8 A w la1 ln1 lc1 ((proveF bits (fitF l) key).1.2.1.leaf) ∧ Sl 32 dcells A w pa1 pn1 pc1 ((proveF bits (fitF l) key).1.2.1.path) ∧ Sl 1 u8 A w la2 ln2 lc2 ((proveF bits (fitF l) key).1.2.2.leaf) ∧ Sl 32 dcells A w pa2 pn2 pc2 ((proveF bits (fitF l) key).1.2.2.path) ∧ Rows A w la3 ln3 lc3 ((spanF bits (fitF l) key hi).1.leaves) ∧ Sl 32 dcells A w pa3 pn3 pc3 ((spanF bits (fitF l) key hi).1.path)) (fun y => (fitF l).length - y.i) [0, 2, 3, 9, 10, 11, 15, 22, 23] 5 [b1, b2, b3, b4, b5] ⟨0, 0, none, 0⟩ (by kernel_rfl) (by kernel_rfl) (by kernel_rfl) (fun w1 A1 m1 => ⟨Nat.zero_le _, rfl, Nw.nil _ _ _ _ _ _, hl1.mv m1, hal1.mv m1, hap1.mv m1, hbl1.mv m1, hbp1.mv m1, hsr1.mv m1, hsp1.mv m1⟩) (fun y A17 w17 hI => ?_)
            obtain ⟨hyi, hyk, ho, hl1, hal1, hap1, hbl1, hbp1, hsr1, hsp1⟩ := hI
            have hkl : y.k ≤ y.i := by rw [hyk]; exact Nat.le_trans (List.length_filter_le _ _) (by rw [List.length_take]; omega)
            refine J.run [.n, .n, .n, .u, .u, .u, .u, .n] [0, 2, 3, 9, 10, 11, 15, 22, 23, 130] ⟨[(0, .v (.slice a1 ((fitF l).length) c1)), (2, .v (.string key)), (3, .v (.string hi)), (9, .v (.bool true)), (10, .loc 0 0), (11, .loc 1 0), (15, .loc 3 0), (22, .v (.slice y.a y.k y.c)), (23, .v (.int .i64 ((y.i : Nat) : Int))), (130, .v (.bool (decide (((y.i : Nat) : Int) < (((fitF l).length : Nat) : Int)))))], [⟨32, [.int .i64 bits]⟩, ⟨36, encT (descF bits 1 (fitF l)).1⟩, ⟨28, [.bool ((proveF bits (fitF l) key).1.1), .int .i64 ((proveF bits (fitF l) key).1.2.1.t), .slice la1 ln1 lc1, .slice pa1 pn1 pc1, .int .i64 ((proveF bits (fitF l) key).1.2.2.t), .slice la2 ln2 lc2, .slice pa2 pn2 pc2]⟩, ⟨54, [.int .i64 ((spanF bits (fitF l) key hi).1.t), .slice la3 ln3 lc3, .slice pa3 pn3 pc3]⟩, ⟨42, encE (chkE key (fitF l))⟩]⟩ [.c 61] [.c 64, .c 67] (by kernel_rfl) ?_
            refine J.cond (b := (decide (((y.i : Nat) : Int) < (((fitF l).length : Nat) : Int)))) (k' := 66) (by kernel_rfl) (fun hc => ?_) (fun hc => ?_)
            · try simp only [nrm] at hc
              have hc14 := hc
              refine J.run [.n, .n, .n, .n, .n, .u, .u] [0, 2, 3, 9, 10, 11, 15, 22, 23, 133, 134] ⟨[(0, .v (.slice a1 ((fitF l).length) c1)), (2, .v (.string key)), (3, .v (.string hi)), (9, .v (.bool true)), (10, .loc 0 0), (11, .loc 1 0), (15, .loc 3 0), (22, .v (.slice y.a y.k y.c)), (23, .v (.int .i64 ((y.i : Nat) : Int))), (133, .v (.slice a1 ((fitF l).length) c1)), (134, .v (.int .i64 ((y.i : Nat) : Int)))], [⟨32, [.int .i64 bits]⟩, ⟨36, encT (descF bits 1 (fitF l)).1⟩, ⟨28, [.bool ((proveF bits (fitF l) key).1.1), .int .i64 ((proveF bits (fitF l) key).1.2.1.t), .slice la1 ln1 lc1, .slice pa1 pn1 pc1, .int .i64 ((proveF bits (fitF l) key).1.2.2.t), .slice la2 ln2 lc2, .slice pa2 pn2 pc2]⟩, ⟨54, [.int .i64 ((spanF bits (fitF l) key hi).1.t), .slice la3 ln3 lc3, .slice pa3 pn3 pc3]⟩, ⟨42, encE (chkE key (fitF l))⟩]⟩ [.c 65, .c 67] [.o 70 2, .c 71, .b 1, .c 74] (by kernel_rfl) ?_
              obtain ⟨p2, o2, rfl⟩ := hl1.addr (by omega)
              refine J.idx (b := p2) (off := o2) (len := (fitF l).length) (i := ((y.i : Nat) : Int)) (sz := 4) (d := 135) (by kernel_rfl) (by omega) (by omega) ?_
              refine J.run [.u] [0, 2, 3, 9, 10, 11, 15, 22, 23, 136] ⟨[(0, .v (.slice (some ⟨p2, o2, none⟩) ((fitF l).length) c1)), (2, .v (.string key)), (3, .v (.string hi)), (9, .v (.bool true)), (10, .loc 0 0), (11, .loc 1 0), (15, .loc 3 0), (22, .v (.slice y.a y.k y.c)), (23, .v (.int .i64 ((y.i : Nat) : Int))), (136, .v (.pointer (some ⟨p2, o2 + y.i * 4, none⟩)))], [⟨32, [.int .i64 bits]⟩, ⟨36, encT (descF bits 1 (fitF l)).1⟩, ⟨28, [.bool ((proveF bits (fitF l) key).1.1), .int .i64 ((proveF bits (fitF l) key).1.2.1.t), .slice la1 ln1 lc1, .slice pa1 pn1 pc1, .int .i64 ((proveF bits (fitF l) key).1.2.2.t), .slice la2 ln2 lc2, .slice pa2 pn2 pc2]⟩, ⟨54, [.int .i64 ((spanF bits (fitF l) key hi).1.t), .slice la3 ln3 lc3, .slice pa3 pn3 pc3]⟩, ⟨42, encE (chkE key (fitF l))⟩]⟩ [.o 70 3, .c 71, .b 1, .c 74] [.o 70 4, .c 71, .b 1, .c 74] (by kernel_rfl) ?_
              obtain ⟨x3, hx3⟩ : ∃ zq, ((fitF l))[y.i]? = some zq := ⟨_, List.getElem?_eq_getElem (by omega)⟩
              refine J.ld (T := 9) (b := p2) (off := o2 + y.i * 4) (d := 137) (v := .string x3.key) (by kernel_rfl) (fun w1 A1 m1 l1 => (hl1.mv m1).ld1 (by kernel_rfl) hx3 (j := 0) rfl) ?_
              refine J.run [.u, .u, .u] [0, 2, 3, 9, 10, 11, 15, 22, 23, 140] ⟨[(0, .v (.slice (some ⟨p2, o2, none⟩) ((fitF l).length) c1)), (2, .v (.string key)), (3, .v (.string hi)), (9, .v (.bool true)), (10, .loc 0 0), (11, .loc 1 0), (15, .loc 3 0), (22, .v (.slice y.a y.k y.c)), (23, .v (.int .i64 ((y.i : Nat) : Int))), (140, .v (.bool (!(slt x3.key key))))], [⟨32, [.int .i64 bits]⟩, ⟨36, encT (descF bits 1 (fitF l)).1⟩, ⟨28, [.bool ((proveF bits (fitF l) key).1.1), .int .i64 ((proveF bits (fitF l) key).1.2.1.t), .slice la1 ln1 lc1, .slice pa1 pn1 pc1, .int .i64 ((proveF bits (fitF l) key).1.2.2.t), .slice la2 ln2 lc2, .slice pa2 pn2 pc2]⟩, ⟨54, [.int .i64 ((spanF bits (fitF l) key hi).1.t), .slice la3 ln3 lc3, .slice pa3 pn3 pc3]⟩, ⟨42, encE (chkE key (fitF l))⟩]⟩ [.o 70 5, .c 71, .b 1, .c 74] [.o 70 8, .c 71, .b 1, .c 74] (by kernel_rfl) ?_
              rcases Bool.eq_false_or_eq_true (!(slt x3.key key)) with hc | hc
              · rw [hc]
                try simp only [nrm] at hc
                have hc15 := hc
                refine J.run [.w, .w, .w] [0, 2, 3, 9, 10, 11, 15, 22, 23, 140, 143] ⟨[(0, .v (.slice (some ⟨p2, o2, none⟩) ((fitF l).length) c1)), (2, .v (.string key)), (3, .v (.string hi)), (9, .v (.bool true)), (10, .loc 0 0), (11, .loc 1 0), (15, .loc 3 0), (22, .v (.slice y.a y.k y.c)), (23, .v (.int .i64 ((y.i : Nat) : Int))), (140, .v (.bool true)), (143, .v (.bool ((seq hi (⟨#[]⟩ : Str)))))], [⟨32, [.int .i64 bits]⟩, ⟨36, encT (descF bits 1 (fitF l)).1⟩, ⟨28, [.bool ((proveF bits (fitF l) key).1.1), .int .i64 ((proveF bits (fitF l) key).1.2.1.t), .slice la1 ln1 lc1, .slice pa1 pn1 pc1, .int .i64 ((proveF bits (fitF l) key).1.2.2.t), .slice la2 ln2 lc2, .slice pa2 pn2 pc2]⟩, ⟨54, [.int .i64 ((spanF bits (fitF l) key hi).1.t), .slice la3 ln3 lc3, .slice pa3 pn3 pc3]⟩, ⟨42, encE (chkE key (fitF l))⟩]⟩ [.o 70 8, .c 71, .b 1, .c 74] [.o 70 11, .c 71, .b 1, .c 74] (by kernel_rfl) ?_
                rcases Bool.eq_false_or_eq_true ((seq hi (⟨#[]⟩ : Str))) with hc | hc
                · rw [hc]
                  try simp only [nrm] at hc
                  have hc16 := hc
                  refine J.run [.x, .x, .x, .x, .x, .x, .x, .w, .u, .n] [0, 2, 3, 9, 10, 11, 15, 22, 23, 152] ⟨[(0, .v (.slice (some ⟨p2, o2, none⟩) ((fitF l).length) c1)), (2, .v (.string key)), (3, .v (.string hi)), (9, .v (.bool true)), (10, .loc 0 0), (11, .loc 1 0), (15, .loc 3 0), (22, .v (.slice y.a y.k y.c)), (23, .v (.int .i64 ((y.i : Nat) : Int))), (152, .v (.bool true))], [⟨32, [.int .i64 bits]⟩, ⟨36, encT (descF bits 1 (fitF l)).1⟩, ⟨28, [.bool ((proveF bits (fitF l) key).1.1), .int .i64 ((proveF bits (fitF l) key).1.2.1.t), .slice la1 ln1 lc1, .slice pa1 pn1 pc1, .int .i64 ((proveF bits (fitF l) key).1.2.2.t), .slice la2 ln2 lc2, .slice pa2 pn2 pc2]⟩, ⟨54, [.int .i64 ((spanF bits (fitF l) key hi).1.t), .slice la3 ln3 lc3, .slice pa3 pn3 pc3]⟩, ⟨42, encE (chkE key (fitF l))⟩]⟩ [.o 70 11, .c 71, .b 1, .c 74] [.c 71, .b 1, .c 74] (by kernel_rfl) ?_
                  refine J.cond (b := true) (k' := 73) (by kernel_rfl) (fun _ => ?_) (fun hc => absurd hc (by decide))
                  refine J.run [.n, .u, .u, .u] [0, 2, 3, 9, 10, 11, 15, 23, 153, 154, 155] ⟨[(0, .v (.slice (some ⟨p2, o2, none⟩) ((fitF l).length) c1)), (2, .v (.string key)), (3, .v (.string hi)), (9, .v (.bool true)), (10, .loc 0 0), (11, .loc 1 0), (15, .loc 3 0), (23, .v (.int .i64 ((y.i : Nat) : Int))), (153, .v (.slice y.a y.k y.c)), (154, .v (.slice (some ⟨p2, o2, none⟩) ((fitF l).length) c1)), (155, .v (.int .i64 ((y.i : Nat) : Int)))], [⟨32, [.int .i64 bits]⟩, ⟨36, encT (descF bits 1 (fitF l)).1⟩, ⟨28, [.bool ((proveF bits (fitF l) key).1.1), .int .i64 ((proveF bits (fitF l) key).1.2.1.t), .slice la1 ln1 lc1, .slice pa1 pn1 pc1, .int .i64 ((proveF bits (fitF l) key).1.2.2.t), .slice la2 ln2 lc2, .slice pa2 pn2 pc2]⟩, ⟨54, [.int .i64 ((spanF bits (fitF l) key hi).1.t), .slice la3 ln3 lc3, .slice pa3 pn3 pc3]⟩, ⟨42, encE (chkE key (fitF l))⟩]⟩ [.c 72, .b 1, .c 74] [.o 72 3, .b 1, .c 74] (by kernel_rfl) ?_
                  refine J.idx (b := p2) (off := o2) (len := (fitF l).length) (i := ((y.i : Nat) : Int)) (sz := 4) (d := 156) (by kernel_rfl) (by omega) (by omega) ?_
                  refine J.ld (T := 42) (b := p2) (off := o2 + y.i * 4) (d := 157) (v := .agg (encE x3).toArray) (by kernel_rfl) (fun w1 A1 m1 l1 => (hl1.mv m1).ld (by kernel_rfl) hx3 (by kernel_rfl)) ?_
                  refine J.new (T := 42) (cs := encE x3) (d := 158) (K := (.sl 1)) (by kernel_rfl) (fun b8 hb8 => ?_)
                  replace ho := ho.more hb8
                  refine J.append (e := 42) (sz := 4) (a := y.a) (nn := y.k) (c := y.c) (T := 22) (Tx := 22) (x := .slice (some ⟨b8, 0, none⟩) 1 1) (bytes := 48) (d := 159) (xs := (((fitF l).take y.i).filter (keepB (delB key hi))).flatMap encE) (news := encE x3) (m := 1) (by kernel_rfl) (by kernel_rfl) ho.own (.inr ho) (fun w1 A1 m1 l1 => l1.src (i := 5) rfl (e := 42) (by kernel_rfl) rfl rfl) (by simp only [maxLen]; omega) (by omega) ?_
                  intro a5 c5 w18 A18 hn3 m16
                  replace hl1 := hl1.mv m16; replace hal1 := hal1.mv m16; replace hap1 := hap1.mv m16; replace hbl1 := hbl1.mv m16; replace hbp1 := hbp1.mv m16; replace hsr1 := hsr1.mv m16; replace hsp1 := hsp1.mv m16
                  replace hn3 := hn3.re (n' := y.k + 1) (ys := ((((fitF l).take y.i).filter (keepB (delB key hi))) ++ [x3]).flatMap encE) rfl (by first | (simp only [List.flatMap_append, dbytes_flat, byteCells_u8]; done) | (rw [List.flatMap_append]; rfl))
                  refine J.run [.u, .n, .n, .n, .u, .u, .u, .n] [0, 2, 3, 9, 10, 11, 15, 22, 23] ⟨[(0, .v (.slice (some ⟨p2, o2, none⟩) ((fitF l).length) c1)), (2, .v (.string key)), (3, .v (.string hi)), (9, .v (.bool true)), (10, .loc 0 0), (11, .loc 1 0), (15, .loc 3 0), (22, .v (.slice a5 (y.k + 1) c5)), (23, .v (.int .i64 (IntKind.i64.wrap (((y.i : Nat) : Int) + 1))))], [⟨32, [.int .i64 bits]⟩, ⟨36, encT (descF bits 1 (fitF l)).1⟩, ⟨28, [.bool ((proveF bits (fitF l) key).1.1), .int .i64 ((proveF bits (fitF l) key).1.2.1.t), .slice la1 ln1 lc1, .slice pa1 pn1 pc1, .int .i64 ((proveF bits (fitF l) key).1.2.2.t), .slice la2 ln2 lc2, .slice pa2 pn2 pc2]⟩, ⟨54, [.int .i64 ((spanF bits (fitF l) key hi).1.t), .slice la3 ln3 lc3, .slice pa3 pn3 pc3]⟩, ⟨42, encE (chkE key (fitF l))⟩, ⟨42, encE x3⟩]⟩ [.o 72 7, .b 1, .c 74] [] (by kernel_rfl) ?_
                  have hw5 : IntKind.i64.wrap (((y.i : Nat) : Int) + 1) = ((y.i + 1 : Nat) : Int) := by rw [wrap_i64 (by omega) (by omega)]; try omega
                  rw [hw5]
                  have hkp : keepB (delB key hi) x3 = true := by rw [keep_iff]; simp [belowF, hc15, hc16]
                  have hnx := filter_next (p := keepB (delB key hi)) hx3; rw [hkp] at hnx; simp only [if_true, Bool.false_eq_true, if_false, List.append_nil] at hnx
                  rw [← hnx] at hn3
                  exact J.again ⟨y.i + 1, y.k + 1, a5, c5⟩ [0, 2, 3, 9, 10, 11, 15, 22, 23] 5 (by simp only; omega) (by kernel_rfl) (by kernel_rfl) (fun w1 A1 m1 => ⟨by simp only; omega, by rw [hnx, List.length_append, ← hyk]; rfl, (hn3.mv m1).fewer (by simp), hl1.mv m1, hal1.mv m1, hap1.mv m1, hbl1.mv m1, hbp1.mv m1, hsr1.mv m1, hsp1.mv m1⟩)
                · rw [hc]
                  try simp only [nrm] at hc
                  have hc16 := hc
                  refine J.run [.w, .w] [0, 2, 3, 9, 10, 11, 15, 22, 23, 140, 143, 144, 145] ⟨[(0, .v (.slice (some ⟨p2, o2, none⟩) ((fitF l).length) c1)), (2, .v (.string key)), (3, .v (.string hi)), (9, .v (.bool true)), (10, .loc 0 0), (11, .loc 1 0), (15, .loc 3 0), (22, .v (.slice y.a y.k y.c)), (23, .v (.int .i64 ((y.i : Nat) : Int))), (140, .v (.bool true)), (143, .v (.bool false)), (144, .v (.slice (some ⟨p2, o2, none⟩) ((fitF l).length) c1)), (145, .v (.int .i64 ((y.i : Nat) : Int)))], [⟨32, [.int .i64 bits]⟩, ⟨36, encT (descF bits 1 (fitF l)).1⟩, ⟨28, [.bool ((proveF bits (fitF l) key).1.1), .int .i64 ((proveF bits (fitF l) key).1.2.1.t), .slice la1 ln1 lc1, .slice pa1 pn1 pc1, .int .i64 ((proveF bits (fitF l) key).1.2.2.t), .slice la2 ln2 lc2, .slice pa2 pn2 pc2]⟩, ⟨54, [.int .i64 ((spanF bits (fitF l) key hi).1.t), .slice la3 ln3 lc3, .slice pa3 pn3 pc3]⟩, ⟨42, encE (chkE key (fitF l))⟩]⟩ [.o 70 11, .c 71, .b 1, .c 74] [.o 70 13, .c 71, .b 1, .c 74] (by kernel_rfl) ?_
                  refine J.idx (b := p2) (off := o2) (len := (fitF l).length) (i := ((y.i : Nat) : Int)) (sz := 4) (d := 146) (by kernel_rfl) (by omega) (by omega) ?_
                  refine J.run [.w] [0, 2, 3, 9, 10, 11, 15, 22, 23, 140, 143, 147] ⟨[(0, .v (.slice (some ⟨p2, o2, none⟩) ((fitF l).length) c1)), (2, .v (.string key)), (3, .v (.string hi)), (9, .v (.bool true)), (10, .loc 0 0), (11, .loc 1 0), (15, .loc 3 0), (22, .v (.slice y.a y.k y.c)), (23, .v (.int .i64 ((y.i : Nat) : Int))), (140, .v (.bool true)), (143, .v (.bool false)), (147, .v (.pointer (some ⟨p2, o2 + y.i * 4, none⟩)))], [⟨32, [.int .i64 bits]⟩, ⟨36, encT (descF bits 1 (fitF l)).1⟩, ⟨28, [.bool ((proveF bits (fitF l) key).1.1), .int .i64 ((proveF bits (fitF l) key).1.2.1.t), .slice la1 ln1 lc1, .slice pa1 pn1 pc1, .int .i64 ((proveF bits (fitF l) key).1.2.2.t), .slice la2 ln2 lc2, .slice pa2 pn2 pc2]⟩, ⟨54, [.int .i64 ((spanF bits (fitF l) key hi).1.t), .slice la3 ln3 lc3, .slice pa3 pn3 pc3]⟩, ⟨42, encE (chkE key (fitF l))⟩]⟩ [.o 70 14, .c 71, .b 1, .c 74] [.o 70 15, .c 71, .b 1, .c 74] (by kernel_rfl) ?_
                  refine J.ld (T := 9) (b := p2) (off := o2 + y.i * 4) (d := 148) (v := .string x3.key) (by kernel_rfl) (fun w1 A1 m1 l1 => (hl1.mv m1).ld1 (by kernel_rfl) hx3 (j := 0) rfl) ?_
                  refine J.run [.w, .w, .w, .u, .n] [0, 2, 3, 9, 10, 11, 15, 22, 23, 152] ⟨[(0, .v (.slice (some ⟨p2, o2, none⟩) ((fitF l).length) c1)), (2, .v (.string key)), (3, .v (.string hi)), (9, .v (.bool true)), (10, .loc 0 0), (11, .loc 1 0), (15, .loc 3 0), (22, .v (.slice y.a y.k y.c)), (23, .v (.int .i64 ((y.i : Nat) : Int))), (152, .v (.bool (slt x3.key hi)))], [⟨32, [.int .i64 bits]⟩, ⟨36, encT (descF bits 1 (fitF l)).1⟩, ⟨28, [.bool ((proveF bits (fitF l) key).1.1), .int .i64 ((proveF bits (fitF l) key).1.2.1.t), .slice la1 ln1 lc1, .slice pa1 pn1 pc1, .int .i64 ((proveF bits (fitF l) key).1.2.2.t), .slice la2 ln2 lc2, .slice pa2 pn2 pc2]⟩, ⟨54, [.int .i64 ((spanF bits (fitF l) key hi).1.t), .slice la3 ln3 lc3, .slice pa3 pn3 pc3]⟩, ⟨42, encE (chkE key (fitF l))⟩]⟩ [.o 70 16, .c 71, .b 1, .c 74] [.c 71, .b 1, .c 74] (by kernel_rfl) ?_
                  refine J.cond (b := (slt x3.key hi)) (k' := 73) (by kernel_rfl) (fun hc => ?_) (fun hc => ?_)
                  · try simp only [nrm] at hc
                    have hc17 := hc
                    refine J.run [.n, .u, .u, .u] [0, 2, 3, 9, 10, 11, 15, 23, 153, 154, 155] ⟨[(0, .v (.slice (some ⟨p2, o2, none⟩) ((fitF l).length) c1)), (2, .v (.string key)), (3, .v (.string hi)), (9, .v (.bool true)), (10, .loc 0 0), (11, .loc 1 0), (15, .loc 3 0), (23, .v (.int .i64 ((y.i : Nat) : Int))), (153, .v (.slice y.a y.k y.c)), (154, .v (.slice (some ⟨p2, o2, none⟩) ((fitF l).length) c1)), (155, .v (.int .i64 ((y.i : Nat) : Int)))], [⟨32, [.int .i64 bits]⟩, ⟨36, encT (descF bits 1 (fitF l)).1⟩, ⟨28, [.bool ((proveF bits (fitF l) key).1.1), .int .i64 ((proveF bits (fitF l) key).1.2.1.t), .slice la1 ln1 lc1, .slice pa1 pn1 pc1, .int .i64 ((proveF bits (fitF l) key).1.2.2.t), .slice la2 ln2 lc2, .slice pa2 pn2 pc2]⟩, ⟨54, [.int .i64 ((spanF bits (fitF l) key hi).1.t), .slice la3 ln3 lc3, .slice pa3 pn3 pc3]⟩, ⟨42, encE (chkE key (fitF l))⟩]⟩ [.c 72, .b 1, .c 74] [.o 72 3, .b 1, .c 74] (by kernel_rfl) ?_
                    refine J.idx (b := p2) (off := o2) (len := (fitF l).length) (i := ((y.i : Nat) : Int)) (sz := 4) (d := 156) (by kernel_rfl) (by omega) (by omega) ?_
                    refine J.ld (T := 42) (b := p2) (off := o2 + y.i * 4) (d := 157) (v := .agg (encE x3).toArray) (by kernel_rfl) (fun w1 A1 m1 l1 => (hl1.mv m1).ld (by kernel_rfl) hx3 (by kernel_rfl)) ?_
                    refine J.new (T := 42) (cs := encE x3) (d := 158) (K := (.sl 1)) (by kernel_rfl) (fun b9 hb9 => ?_)
                    replace ho := ho.more hb9
                    refine J.append (e := 42) (sz := 4) (a := y.a) (nn := y.k) (c := y.c) (T := 22) (Tx := 22) (x := .slice (some ⟨b9, 0, none⟩) 1 1) (bytes := 48) (d := 159) (xs := (((fitF l).take y.i).filter (keepB (delB key hi))).flatMap encE) (news := encE x3) (m := 1) (by kernel_rfl) (by kernel_rfl) ho.own (.inr ho) (fun w1 A1 m1 l1 => l1.src (i := 5) rfl (e := 42) (by kernel_rfl) rfl rfl) (by simp only [maxLen]; omega) (by omega) ?_
                    intro a6 c6 w19 A19 hn4 m17
                    replace hl1 := hl1.mv m17; replace hal1 := hal1.mv m17; replace hap1 := hap1.mv m17; replace hbl1 := hbl1.mv m17; replace hbp1 := hbp1.mv m17; replace hsr1 := hsr1.mv m17; replace hsp1 := hsp1.mv m17
                    replace hn4 := hn4.re (n' := y.k + 1) (ys := ((((fitF l).take y.i).filter (keepB (delB key hi))) ++ [x3]).flatMap encE) rfl (by first | (simp only [List.flatMap_append, dbytes_flat, byteCells_u8]; done) | (rw [List.flatMap_append]; rfl))
                    refine J.run [.u, .n, .n, .n, .u, .u, .u, .n] [0, 2, 3, 9, 10, 11, 15, 22, 23] ⟨[(0, .v (.slice (some ⟨p2, o2, none⟩) ((fitF l).length) c1)), (2, .v (.string key)), (3, .v (.string hi)), (9, .v (.bool true)), (10, .loc 0 0), (11, .loc 1 0), (15, .loc 3 0), (22, .v (.slice a6 (y.k + 1) c6)), (23, .v (.int .i64 (IntKind.i64.wrap (((y.i : Nat) : Int) + 1))))], [⟨32, [.int .i64 bits]⟩, ⟨36, encT (descF bits 1 (fitF l)).1⟩, ⟨28, [.bool ((proveF bits (fitF l) key).1.1), .int .i64 ((proveF bits (fitF l) key).1.2.1.t), .slice la1 ln1 lc1, .slice pa1 pn1 pc1, .int .i64 ((proveF bits (fitF l) key).1.2.2.t), .slice la2 ln2 lc2, .slice pa2 pn2 pc2]⟩, ⟨54, [.int .i64 ((spanF bits (fitF l) key hi).1.t), .slice la3 ln3 lc3, .slice pa3 pn3 pc3]⟩, ⟨42, encE (chkE key (fitF l))⟩, ⟨42, encE x3⟩]⟩ [.o 72 7, .b 1, .c 74] [] (by kernel_rfl) ?_
                    have hw6 : IntKind.i64.wrap (((y.i : Nat) : Int) + 1) = ((y.i + 1 : Nat) : Int) := by rw [wrap_i64 (by omega) (by omega)]; try omega
                    rw [hw6]
                    have hkp : keepB (delB key hi) x3 = true := by rw [keep_iff]; simp [belowF, hc15, hc16, hc17]
                    have hnx := filter_next (p := keepB (delB key hi)) hx3; rw [hkp] at hnx; simp only [if_true, Bool.false_eq_true, if_false, List.append_nil] at hnx
                    rw [← hnx] at hn4
                    exact J.again ⟨y.i + 1, y.k + 1, a6, c6⟩ [0, 2, 3, 9, 10, 11, 15, 22, 23] 5 (by simp only; omega) (by kernel_rfl) (by kernel_rfl) (fun w1 A1 m1 => ⟨by simp only; omega, by rw [hnx, List.length_append, ← hyk]; rfl, (hn4.mv m1).fewer (by simp), hl1.mv m1, hal1.mv m1, hap1.mv m1, hbl1.mv m1, hbp1.mv m1, hsr1.mv m1, hsp1.mv m1⟩)
                  · try simp only [nrm] at hc
                    have hc17 := hc
                    refine J.run [.n, .n, .n, .u, .u, .u, .n] [0, 2, 3, 9, 10, 11, 15, 22, 23] ⟨[(0, .v (.slice (some ⟨p2, o2, none⟩) ((fitF l).length) c1)), (2, .v (.string key)), (3, .v (.string hi)), (9, .v (.bool true)), (10, .loc 0 0), (11, .loc 1 0), (15, .loc 3 0), (22, .v (.slice y.a y.k y.c)), (23, .v (.int .i64 (IntKind.i64.wrap (((y.i : Nat) : Int) + 1))))], [⟨32, [.int .i64 bits]⟩, ⟨36, encT (descF bits 1 (fitF l)).1⟩, ⟨28, [.bool ((proveF bits (fitF l) key).1.1), .int .i64 ((proveF bits (fitF l) key).1.2.1.t), .slice la1 ln1 lc1, .slice pa1 pn1 pc1, .int .i64 ((proveF bits (fitF l) key).1.2.2.t), .slice la2 ln2 lc2, .slice pa2 pn2 pc2]⟩, ⟨54, [.int .i64 ((spanF bits (fitF l) key hi).1.t), .slice la3 ln3 lc3, .slice pa3 pn3 pc3]⟩, ⟨42, encE (chkE key (fitF l))⟩]⟩ [.c 73, .b 1, .c 74] [] (by kernel_rfl) ?_
                    have hw7 : IntKind.i64.wrap (((y.i : Nat) : Int) + 1) = ((y.i + 1 : Nat) : Int) := by rw [wrap_i64 (by omega) (by omega)]; try omega
                    rw [hw7]
                    have hkp : keepB (delB key hi) x3 = false := by rw [keep_iff]; simp [belowF, hc15, hc16, hc17]
                    have hnx := filter_next (p := keepB (delB key hi)) hx3; rw [hkp] at hnx; simp only [if_true, Bool.false_eq_true, if_false, List.append_nil] at hnx
                    rw [← hnx] at ho
                    exact J.again ⟨y.i + 1, y.k, y.a, y.c⟩ [0, 2, 3, 9, 10, 11, 15, 22, 23] 5 (by simp only; omega) (by kernel_rfl) (by kernel_rfl) (fun w1 A1 m1 => ⟨by simp only; omega, by rw [hnx]; exact hyk, (ho.mv m1).fewer (by simp), hl1.mv m1, hal1.mv m1, hap1.mv m1, hbl1.mv m1, hbp1.mv m1, hsr1.mv m1, hsp1.mv m1⟩)
              · rw [hc]
                try simp only [nrm] at hc
                have hc15 := hc
                refine J.run [.x, .x, .x, .x, .x, .x, .x, .x, .x, .x, .x, .u, .n] [0, 2, 3, 9, 10, 11, 15, 22, 23, 152] ⟨[(0, .v (.slice (some ⟨p2, o2, none⟩) ((fitF l).length) c1)), (2, .v (.string key)), (3, .v (.string hi)), (9, .v (.bool true)), (10, .loc 0 0), (11, .loc 1 0), (15, .loc 3 0), (22, .v (.slice y.a y.k y.c)), (23, .v (.int .i64 ((y.i : Nat) : Int))), (152, .v (.bool false))], [⟨32, [.int .i64 bits]⟩, ⟨36, encT (descF bits 1 (fitF l)).1⟩, ⟨28, [.bool ((proveF bits (fitF l) key).1.1), .int .i64 ((proveF bits (fitF l) key).1.2.1.t), .slice la1 ln1 lc1, .slice pa1 pn1 pc1, .int .i64 ((proveF bits (fitF l) key).1.2.2.t), .slice la2 ln2 lc2, .slice pa2 pn2 pc2]⟩, ⟨54, [.int .i64 ((spanF bits (fitF l) key hi).1.t), .slice la3 ln3 lc3, .slice pa3 pn3 pc3]⟩, ⟨42, encE (chkE key (fitF l))⟩]⟩ [.o 70 8, .c 71, .b 1, .c 74] [.c 71, .b 1, .c 74] (by kernel_rfl) ?_
                refine J.cond (b := false) (k' := 73) (by kernel_rfl) (fun hc => absurd hc (by decide)) (fun _ => ?_)
                refine J.run [.n, .n, .n, .u, .u, .u, .n] [0, 2, 3, 9, 10, 11, 15, 22, 23] ⟨[(0, .v (.slice (some ⟨p2, o2, none⟩) ((fitF l).length) c1)), (2, .v (.string key)), (3, .v (.string hi)), (9, .v (.bool true)), (10, .loc 0 0), (11, .loc 1 0), (15, .loc 3 0), (22, .v (.slice y.a y.k y.c)), (23, .v (.int .i64 (IntKind.i64.wrap (((y.i : Nat) : Int) + 1))))], [⟨32, [.int .i64 bits]⟩, ⟨36, encT (descF bits 1 (fitF l)).1⟩, ⟨28, [.bool ((proveF bits (fitF l) key).1.1), .int .i64 ((proveF bits (fitF l) key).1.2.1.t), .slice la1 ln1 lc1, .slice pa1 pn1 pc1, .int .i64 ((proveF bits (fitF l) key).1.2.2.t), .slice la2 ln2 lc2, .slice pa2 pn2 pc2]⟩, ⟨54, [.int .i64 ((spanF bits (fitF l) key hi).1.t), .slice la3 ln3 lc3, .slice pa3 pn3 pc3]⟩, ⟨42, encE (chkE key (fitF l))⟩]⟩ [.c 73, .b 1, .c 74] [] (by kernel_rfl) ?_
                have hw8 : IntKind.i64.wrap (((y.i : Nat) : Int) + 1) = ((y.i + 1 : Nat) : Int) := by rw [wrap_i64 (by omega) (by omega)]; try omega
                rw [hw8]
                have hkp : keepB (delB key hi) x3 = false := by rw [keep_iff]; simp [belowF, hc15]
                have hnx := filter_next (p := keepB (delB key hi)) hx3; rw [hkp] at hnx; simp only [if_true, Bool.false_eq_true, if_false, List.append_nil] at hnx
                rw [← hnx] at ho
                exact J.again ⟨y.i + 1, y.k, y.a, y.c⟩ [0, 2, 3, 9, 10, 11, 15, 22, 23] 5 (by simp only; omega) (by kernel_rfl) (by kernel_rfl) (fun w1 A1 m1 => ⟨by simp only; omega, by rw [hnx]; exact hyk, (ho.mv m1).fewer (by simp), hl1.mv m1, hal1.mv m1, hap1.mv m1, hbl1.mv m1, hbp1.mv m1, hsr1.mv m1, hsp1.mv m1⟩)
            · try simp only [nrm] at hc
              have hc14 := hc
              refine J.exit (id := 0) (by kernel_rfl) (by rfl) ?_
              have hfin : (fitF l).take y.i = fitF l := List.take_of_length_le (by omega)
              rw [hfin] at ho hyk
              refine J.run [.n, .n, .u, .u, .u, .u, .u] [9, 22, 161, 162, 163, 164, 165] ⟨[(9, .v (.bool true)), (22, .v (.slice y.a y.k y.c)), (161, .v (.agg [.int .i64 bits].toArray)), (162, .v (.agg (encT (descF bits 1 (fitF l)).1).toArray)), (163, .v (.string key)), (164, .v (.string hi)), (165, .v (.agg [.int .i64 ((spanF bits (fitF l) key hi).1.t), .slice la3 ln3 lc3, .slice pa3 pn3 pc3].toArray))], [⟨32, [.int .i64 bits]⟩, ⟨36, encT (descF bits 1 (fitF l)).1⟩, ⟨28, [.bool ((proveF bits (fitF l) key).1.1), .int .i64 ((proveF bits (fitF l) key).1.2.1.t), .slice la1 ln1 lc1, .slice pa1 pn1 pc1, .int .i64 ((proveF bits (fitF l) key).1.2.2.t), .slice la2 ln2 lc2, .slice pa2 pn2 pc2]⟩, ⟨54, [.int .i64 ((spanF bits (fitF l) key hi).1.t), .slice la3 ln3 lc3, .slice pa3 pn3 pc3]⟩, ⟨42, encE (chkE key (fitF l))⟩]⟩ [.c 75] [.o 76 5, .c 77] (by kernel_rfl) ?_
              refine J.call (d := some 166) (by kernel_rfl) (fun w1 A1 m1 l1 => (by have q := checkSpan_calls bits (descF bits 1 (fitF l)).1 (fitF l).length (descF_1 hf (by decide) (by decide)) (by omega) key hi (spanF bits (fitF l) key hi).1 (spanF_short _ _ _ _) la3 ln3 lc3 pa3 pn3 pc3 nobody w1 noA (hsr1.mv m1).any (hsp1.mv m1).any; rw [check_span hf (by decide) (by decide) key hi hc13] at q; exact q)) ?_
              rintro _ u13 w20 A20 ⟨a7, c7, rfl, hgq2⟩ g12
              have m18 := g12.mv
              replace hl1 := hl1.mv m18; replace hal1 := hal1.mv m18; replace hap1 := hap1.mv m18; replace hbl1 := hbl1.mv m18; replace hbp1 := hbp1.mv m18; replace hsr1 := hsr1.mv m18; replace hsp1 := hsp1.mv m18; replace ho := ho.mv m18
              have hg2 : Sl 4 encE A20 w20 a7 ((fitF l).filter (keepB (delB key hi))).length c7 ((fitF l).filter (keepB (delB key hi))) := hgq2.sl (fun x _ => rfl) (by decide) g12.bd
              refine J.run [.u, .u, .u, .u, .u, .n, .n, .n, .u, .u, .w, .w, .u, .u, .w, .w] [174, 175, 176] ⟨[(174, .v (.bool true)), (175, .v (.slice a7 (((fitF l).filter (keepB (delB key hi))).length) c7)), (176, .v (.slice y.a y.k y.c))], [⟨32, [.int .i64 bits]⟩, ⟨36, encT (descF bits 1 (fitF l)).1⟩, ⟨28, [.bool ((proveF bits (fitF l) key).1.1), .int .i64 ((proveF bits (fitF l) key).1.2.1.t), .slice la1 ln1 lc1, .slice pa1 pn1 pc1, .int .i64 ((proveF bits (fitF l) key).1.2.2.t), .slice la2 ln2 lc2, .slice pa2 pn2 pc2]⟩, ⟨54, [.int .i64 ((spanF bits (fitF l) key hi).1.t), .slice la3 ln3 lc3, .slice pa3 pn3 pc3]⟩, ⟨42, encE (chkE key (fitF l))⟩]⟩ [.o 76 6, .c 77] [.o 78 8, .c 79] (by kernel_rfl) ?_
              refine J.call (d := some 177) (by kernel_rfl) (fun w1 A1 m1 l1 => same_calls a7 (((fitF l).filter (keepB (delB key hi))).length) c7 ((fitF l).filter (keepB (delB key hi))) y.a y.k y.c ((fitF l).filter (keepB (delB key hi))) nobody w1 noA (hg2.mv m1).any ((ho.mv m1).any (fun x _ => rfl) (by decide))) ?_
              rintro _ u14 w21 A21 rfl g13
              have m19 := g13.mv
              replace hl1 := hl1.mv m19; replace hal1 := hal1.mv m19; replace hap1 := hap1.mv m19; replace hbl1 := hbl1.mv m19; replace hbp1 := hbp1.mv m19; replace hsr1 := hsr1.mv m19; replace hsp1 := hsp1.mv m19; replace hg2 := hg2.mv m19; replace ho := ho.mv m19
              refine J.run [.u, .u, .n] [8] ⟨[(8, .v (.bool (sameL ((fitF l).filter (keepB (delB key hi))) ((fitF l).filter (keepB (delB key hi))))))], [⟨32, [.int .i64 bits]⟩, ⟨36, encT (descF bits 1 (fitF l)).1⟩, ⟨28, [.bool ((proveF bits (fitF l) key).1.1), .int .i64 ((proveF bits (fitF l) key).1.2.1.t), .slice la1 ln1 lc1, .slice pa1 pn1 pc1, .int .i64 ((proveF bits (fitF l) key).1.2.2.t), .slice la2 ln2 lc2, .slice pa2 pn2 pc2]⟩, ⟨54, [.int .i64 ((spanF bits (fitF l) key hi).1.t), .slice la3 ln3 lc3, .slice pa3 pn3 pc3]⟩, ⟨42, encE (chkE key (fitF l))⟩]⟩ [.o 78 9, .c 79] [.c 79] (by kernel_rfl) ?_
              refine J.ret (v := .bool (sameL ((fitF l).filter (keepB (delB key hi))) ((fitF l).filter (keepB (delB key hi))))) (by kernel_rfl) (by kernel_rfl) (fun w1 A1 m1 hac l1 => by rw [sameL_iff.2 rfl])
      · try simp only [nrm] at hc
        have hc5 := hc
        refine J.run [.n, .n, .n, .n, .u, .u, .n] [0, 2, 3, 9, 10, 11, 15, 125] ⟨[(0, .v (.slice a1 ((fitF l).length) c1)), (2, .v (.string key)), (3, .v (.string hi)), (9, .v (.bool true)), (10, .loc 0 0), (11, .loc 1 0), (15, .loc 3 0), (125, .v (.bool (((spanF bits (fitF l) key hi).2) != 0)))], [⟨32, [.int .i64 bits]⟩, ⟨36, encT (descF bits 1 (fitF l)).1⟩, ⟨28, [.bool ((proveF bits (fitF l) key).1.1), .int .i64 ((proveF bits (fitF l) key).1.2.1.t), .slice la1 ln1 lc1, .slice pa1 pn1 pc1, .int .i64 ((proveF bits (fitF l) key).1.2.2.t), .slice la2 ln2 lc2, .slice pa2 pn2 pc2]⟩, ⟨54, [.int .i64 ((spanF bits (fitF l) key hi).1.t), .slice la3 ln3 lc3, .slice pa3 pn3 pc3]⟩]⟩ [.c 45, .c 46] [.c 49, .c 54] (by kernel_rfl) ?_
        refine J.cond (b := (((spanF bits (fitF l) key hi).2) != 0)) (k' := 53) (by kernel_rfl) (fun hc => ?_) (fun hc => ?_)
        · try simp only [nrm] at hc
          have hc18 := hc
          refine J.run [.n, .n, .u, .u, .n] [8] ⟨[(8, .v (.bool true))], [⟨32, [.int .i64 bits]⟩, ⟨36, encT (descF bits 1 (fitF l)).1⟩, ⟨28, [.bool ((proveF bits (fitF l) key).1.1), .int .i64 ((proveF bits (fitF l) key).1.2.1.t), .slice la1 ln1 lc1, .slice pa1 pn1 pc1, .int .i64 ((proveF bits (fitF l) key).1.2.2.t), .slice la2 ln2 lc2, .slice pa2 pn2 pc2]⟩, ⟨54, [.int .i64 ((spanF bits (fitF l) key hi).1.t), .slice la3 ln3 lc3, .slice pa3 pn3 pc3]⟩]⟩ [.c 50, .c 54] [.c 52, .c 54] (by kernel_rfl) ?_
          refine J.ret (v := .bool true) (by kernel_rfl) (by kernel_rfl) (fun w1 A1 m1 hac l1 => rfl)
        · try simp only [nrm] at hc
          have hc18 := hc
          refine J.run [.n, .n, .n, .u, .n, .n, .n, .n, .u, .n, .n] [0, 2, 3, 9, 10, 11, 15, 22, 23] ⟨[(0, .v (.slice a1 ((fitF l).length) c1)), (2, .v (.string key)), (3, .v (.string hi)), (9, .v (.bool true)), (10, .loc 0 0), (11, .loc 1 0), (15, .loc 3 0), (22, .v (.slice none 0 0)), (23, .v (.int .i64 0))], [⟨32, [.int .i64 bits]⟩, ⟨36, encT (descF bits 1 (fitF l)).1⟩, ⟨28, [.bool ((proveF bits (fitF l) key).1.1), .int .i64 ((proveF bits (fitF l) key).1.2.1.t), .slice la1 ln1 lc1, .slice pa1 pn1 pc1, .int .i64 ((proveF bits (fitF l) key).1.2.2.t), .slice la2 ln2 lc2, .slice pa2 pn2 pc2]⟩, ⟨54, [.int .i64 ((spanF bits (fitF l) key hi).1.t), .slice la3 ln3 lc3, .slice pa3 pn3 pc3]⟩]⟩ [.c 53, .c 54] [.c 60, .b 0, .c 75] (by kernel_rfl) ?_
          refine J.loop (X := WantSt) (fun y => ⟨[(0, .v (.slice a1 ((fitF l).length) c1)), (2, .v (.string key)), (3, .v (.string hi)), (9, .v (.bool true)), (10, .loc 0 0), (11, .loc 1 0), (15, .loc 3 0), (22, .v (.slice y.a y.k y.c)), (23, .v (.int .i64 ((y.i : Nat) : Int)))], [⟨32, [.int .i64 bits]⟩, ⟨36, encT (descF bits 1 (fitF l)).1⟩, ⟨28, [.bool ((proveF bits (fitF l) key).1.1), .int .i64 ((proveF bits (fitF l) key).1.2.1.t), .slice la1 ln1 lc1, .slice pa1 pn1 pc1, .int .i64 ((proveF bits (fitF l) key).1.2.2.t), .slice la2 ln2 lc2, .slice pa2 pn2 pc2]⟩, ⟨54, [.int .i64 ((spanF bits (fitF l) key hi).1.t), .slice la3 ln3 lc3, .slice pa3 pn3 pc3]⟩]⟩) (fun y A w => y.i ≤ (fitF l).length ∧ y.k = (((fitF l).take y.i).filter (keepB (delB key hi))).length ∧ Nw W.heap.size 42 4 [b1, b2, b3, b4] A w y.a y.k y.c ((((fitF l).take y.i).filter (keepB (delB key hi))).flatMap encE) ∧ Sl 4 encE A w a1 ((fitF l).length) c1 (fitF l) ∧ Sl 1 u8 A w la1 ln1 lc1 ((proveF bits (fitF l) key).1.2.1.leaf) ∧ Sl 32 dcells A w pa1 pn1 pc1 ((proveF bits (fitF l) key).1.2.1.path) ∧ Sl 1 u8 A w la2 ln2 lc2 ((proveF bits (fitF l) key).1.2.2.leaf) ∧ Sl 32 dcells A w pa2 pn2 pc2 ((proveF bits (fitF l) key).1.2.2.path) ∧ Rows A w la3 ln3 lc3 ((spanF bits (fitF l) key hi).1.leaves) ∧ Sl 32 dcells A w pa3 pn3 pc3 ((spanF bits (fitF l) key hi).1.path)) (fun y => (fitF l).length - y.i) [0, 2, 3, 9, 10, 11, 15, 22, 23] 4 [b1, b2, b3, b4] ⟨0, 0, none, 0⟩ (by kernel_rfl) (by kernel_rfl) (by kernel_rfl) (fun w1 A1 m1 => ⟨Nat.zero_le _, rfl, Nw.nil _ _ _ _ _ _, hl1.mv m1, hal1.mv m1, hap1.mv m1, hbl1.mv m1, hbp1.mv m1, hsr1.mv m1, hsp1.mv m1⟩) (fun y A22 w22 hI => ?_)
          obtain ⟨hyi, hyk, ho, hl1, hal1, hap1, hbl1, hbp1, hsr1, hsp1⟩ := hI
          have hkl : y.k ≤ y.i := by rw [hyk]; exact Nat.le_trans (List.length_filter_le _ _) (by rw [List.length_take]; omega)
          refine J.run [.n, .n, .n, .u, .u, .u, .u, .n] [0, 2, 3, 9, 10, 11, 15, 22, 23, 130] ⟨[(0, .v (.slice a1 ((fitF l).length) c1)), (2, .v (.string key)), (3, .v (.string hi)), (9, .v (.bool true)), (10, .loc 0 0), (11, .loc 1 0), (15, .loc 3 0), (22, .v (.slice y.a y.k y.c)), (23, .v (.int .i64 ((y.i : Nat) : Int))), (130, .v (.bool (decide (((y.i : Nat) : Int) < (((fitF l).length : Nat) : Int)))))], [⟨32, [.int .i64 bits]⟩, ⟨36, encT (descF bits 1 (fitF l)).1⟩, ⟨28, [.bool ((proveF bits (fitF l) key).1.1), .int .i64 ((proveF bits (fitF l) key).1.2.1.t), .slice la1 ln1 lc1, .slice pa1 pn1 pc1, .int .i64 ((proveF bits (fitF l) key).1.2.2.t), .slice la2 ln2 lc2, .slice pa2 pn2 pc2]⟩, ⟨54, [.int .i64 ((spanF bits (fitF l) key hi).1.t), .slice la3 ln3 lc3, .slice pa3 pn3 pc3]⟩]⟩ [.c 61] [.c 64, .c 67] (by kernel_rfl) ?_
          refine J.cond (b := (decide (((y.i : Nat) : Int) < (((fitF l).length : Nat) : Int)))) (k' := 66) (by kernel_rfl) (fun hc => ?_) (fun hc => ?_)
          · try simp only [nrm] at hc
            have hc19 := hc
            refine J.run [.n, .n, .n, .n, .n, .u, .u] [0, 2, 3, 9, 10, 11, 15, 22, 23, 133, 134] ⟨[(0, .v (.slice a1 ((fitF l).length) c1)), (2, .v (.string key)), (3, .v (.string hi)), (9, .v (.bool true)), (10, .loc 0 0), (11, .loc 1 0), (15, .loc 3 0), (22, .v (.slice y.a y.k y.c)), (23, .v (.int .i64 ((y.i : Nat) : Int))), (133, .v (.slice a1 ((fitF l).length) c1)), (134, .v (.int .i64 ((y.i : Nat) : Int)))], [⟨32, [.int .i64 bits]⟩, ⟨36, encT (descF bits 1 (fitF l)).1⟩, ⟨28, [.bool ((proveF bits (fitF l) key).1.1), .int .i64 ((proveF bits (fitF l) key).1.2.1.t), .slice la1 ln1 lc1, .slice pa1 pn1 pc1, .int .i64 ((proveF bits (fitF l) key).1.2.2.t), .slice la2 ln2 lc2, .slice pa2 pn2 pc2]⟩, ⟨54, [.int .i64 ((spanF bits (fitF l) key hi).1.t), .slice la3 ln3 lc3, .slice pa3 pn3 pc3]⟩]⟩ [.c 65, .c 67] [.o 70 2, .c 71, .b 1, .c 74] (by kernel_rfl) ?_
            obtain ⟨p3, o3, rfl⟩ := hl1.addr (by omega)
            refine J.idx (b := p3) (off := o3) (len := (fitF l).length) (i := ((y.i : Nat) : Int)) (sz := 4) (d := 135) (by kernel_rfl) (by omega) (by omega) ?_
            refine J.run [.u] [0, 2, 3, 9, 10, 11, 15, 22, 23, 136] ⟨[(0, .v (.slice (some ⟨p3, o3, none⟩) ((fitF l).length) c1)), (2, .v (.string key)), (3, .v (.string hi)), (9, .v (.bool true)), (10, .loc 0 0), (11, .loc 1 0), (15, .loc 3 0), (22, .v (.slice y.a y.k y.c)), (23, .v (.int .i64 ((y.i : Nat) : Int))), (136, .v (.pointer (some ⟨p3, o3 + y.i * 4, none⟩)))], [⟨32, [.int .i64 bits]⟩, ⟨36, encT (descF bits 1 (fitF l)).1⟩, ⟨28, [.bool ((proveF bits (fitF l) key).1.1), .int .i64 ((proveF bits (fitF l) key).1.2.1.t), .slice la1 ln1 lc1, .slice pa1 pn1 pc1, .int .i64 ((proveF bits (fitF l) key).1.2.2.t), .slice la2 ln2 lc2, .slice pa2 pn2 pc2]⟩, ⟨54, [.int .i64 ((spanF bits (fitF l) key hi).1.t), .slice la3 ln3 lc3, .slice pa3 pn3 pc3]⟩]⟩ [.o 70 3, .c 71, .b 1, .c 74] [.o 70 4, .c 71, .b 1, .c 74] (by kernel_rfl) ?_
            obtain ⟨x4, hx4⟩ : ∃ zq, ((fitF l))[y.i]? = some zq := ⟨_, List.getElem?_eq_getElem (by omega)⟩
            refine J.ld (T := 9) (b := p3) (off := o3 + y.i * 4) (d := 137) (v := .string x4.key) (by kernel_rfl) (fun w1 A1 m1 l1 => (hl1.mv m1).ld1 (by kernel_rfl) hx4 (j := 0) rfl) ?_
            refine J.run [.u, .u, .u] [0, 2, 3, 9, 10, 11, 15, 22, 23, 140] ⟨[(0, .v (.slice (some ⟨p3, o3, none⟩) ((fitF l).length) c1)), (2, .v (.string key)), (3, .v (.string hi)), (9, .v (.bool true)), (10, .loc 0 0), (11, .loc 1 0), (15, .loc 3 0), (22, .v (.slice y.a y.k y.c)), (23, .v (.int .i64 ((y.i : Nat) : Int))), (140, .v (.bool (!(slt x4.key key))))], [⟨32, [.int .i64 bits]⟩, ⟨36, encT (descF bits 1 (fitF l)).1⟩, ⟨28, [.bool ((proveF bits (fitF l) key).1.1), .int .i64 ((proveF bits (fitF l) key).1.2.1.t), .slice la1 ln1 lc1, .slice pa1 pn1 pc1, .int .i64 ((proveF bits (fitF l) key).1.2.2.t), .slice la2 ln2 lc2, .slice pa2 pn2 pc2]⟩, ⟨54, [.int .i64 ((spanF bits (fitF l) key hi).1.t), .slice la3 ln3 lc3, .slice pa3 pn3 pc3]⟩]⟩ [.o 70 5, .c 71, .b 1, .c 74] [.o 70 8, .c 71, .b 1, .c 74] (by kernel_rfl) ?_
            rcases Bool.eq_false_or_eq_true (!(slt x4.key key)) with hc | hc
            · rw [hc]
              try simp only [nrm] at hc
              have hc20 := hc
              refine J.run [.w, .w, .w] [0, 2, 3, 9, 10, 11, 15, 22, 23, 140, 143] ⟨[(0, .v (.slice (some ⟨p3, o3, none⟩) ((fitF l).length) c1)), (2, .v (.string key)), (3, .v (.string hi)), (9, .v (.bool true)), (10, .loc 0 0), (11, .loc 1 0), (15, .loc 3 0), (22, .v (.slice y.a y.k y.c)), (23, .v (.int .i64 ((y.i : Nat) : Int))), (140, .v (.bool true)), (143, .v (.bool ((seq hi (⟨#[]⟩ : Str)))))], [⟨32, [.int .i64 bits]⟩, ⟨36, encT (descF bits 1 (fitF l)).1⟩, ⟨28, [.bool ((proveF bits (fitF l) key).1.1), .int .i64 ((proveF bits (fitF l) key).1.2.1.t), .slice la1 ln1 lc1, .slice pa1 pn1 pc1, .int .i64 ((proveF bits (fitF l) key).1.2.2.t), .slice la2 ln2 lc2, .slice pa2 pn2 pc2]⟩, ⟨54, [.int .i64 ((spanF bits (fitF l) key hi).1.t), .slice la3 ln3 lc3, .slice pa3 pn3 pc3]⟩]⟩ [.o 70 8, .c 71, .b 1, .c 74] [.o 70 11, .c 71, .b 1, .c 74] (by kernel_rfl) ?_
              rcases Bool.eq_false_or_eq_true ((seq hi (⟨#[]⟩ : Str))) with hc | hc
              · rw [hc]
                try simp only [nrm] at hc
                have hc21 := hc
                refine J.run [.x, .x, .x, .x, .x, .x, .x, .w, .u, .n] [0, 2, 3, 9, 10, 11, 15, 22, 23, 152] ⟨[(0, .v (.slice (some ⟨p3, o3, none⟩) ((fitF l).length) c1)), (2, .v (.string key)), (3, .v (.string hi)), (9, .v (.bool true)), (10, .loc 0 0), (11, .loc 1 0), (15, .loc 3 0), (22, .v (.slice y.a y.k y.c)), (23, .v (.int .i64 ((y.i : Nat) : Int))), (152, .v (.bool true))], [⟨32, [.int .i64 bits]⟩, ⟨36, encT (descF bits 1 (fitF l)).1⟩, ⟨28, [.bool ((proveF bits (fitF l) key).1.1), .int .i64 ((proveF bits (fitF l) key).1.2.1.t), .slice la1 ln1 lc1, .slice pa1 pn1 pc1, .int .i64 ((proveF bits (fitF l) key).1.2.2.t), .slice la2 ln2 lc2, .slice pa2 pn2 pc2]⟩, ⟨54, [.int .i64 ((spanF bits (fitF l) key hi).1.t), .slice la3 ln3 lc3, .slice pa3 pn3 pc3]⟩]⟩ [.o 70 11, .c 71, .b 1, .c 74] [.c 71, .b 1, .c 74] (by kernel_rfl) ?_
                refine J.cond (b := true) (k' := 73) (by kernel_rfl) (fun _ => ?_) (fun hc => absurd hc (by decide))
                refine J.run [.n, .u, .u, .u] [0, 2, 3, 9, 10, 11, 15, 23, 153, 154, 155] ⟨[(0, .v (.slice (some ⟨p3, o3, none⟩) ((fitF l).length) c1)), (2, .v (.string key)), (3, .v (.string hi)), (9, .v (.bool true)), (10, .loc 0 0), (11, .loc 1 0), (15, .loc 3 0), (23, .v (.int .i64 ((y.i : Nat) : Int))), (153, .v (.slice y.a y.k y.c)), (154, .v (.slice (some ⟨p3, o3, none⟩) ((fitF l).length) c1)), (155, .v (.int .i64 ((y.i : Nat) : Int)))], [⟨32, [.int .i64 bits]⟩, ⟨36, encT (descF bits 1 (fitF l)).1⟩, ⟨28, [.bool ((proveF bits (fitF l) key).1.1), .int .i64 ((proveF bits (fitF l) key).1.2.1.t), .slice la1 ln1 lc1, .slice pa1 pn1 pc1, .int .i64 ((proveF bits (fitF l) key).1.2.2.t), .slice la2 ln2 lc2, .slice pa2 pn2 pc2]⟩, ⟨54, [.int .i64 ((spanF bits (fitF l) key hi).1.t), .slice la3 ln3 lc3, .slice pa3 pn3 pc3]⟩]⟩ [.c 72, .b 1, .c 74] [.o 72 3, .b 1, .c 74] (by kernel_rfl) ?_
                refine J.idx (b := p3) (off := o3) (len := (fitF l).length) (i := ((y.i : Nat) : Int)) (sz := 4) (d := 156) (by kernel_rfl) (by omega) (by omega) ?_
                refine J.ld (T := 42) (b := p3) (off := o3 + y.i * 4) (d := 157) (v := .agg (encE x4).toArray) (by kernel_rfl) (fun w1 A1 m1 l1 => (hl1.mv m1).ld (by kernel_rfl) hx4 (by kernel_rfl)) ?_
                refine J.new (T := 42) (cs := encE x4) (d := 158) (K := (.sl 1)) (by kernel_rfl) (fun b10 hb10 => ?_)
                replace ho := ho.more hb10
                refine J.append (e := 42) (sz := 4) (a := y.a) (nn := y.k) (c := y.c) (T := 22) (Tx := 22) (x := .slice (some ⟨b10, 0, none⟩) 1 1) (bytes := 48) (d := 159) (xs := (((fitF l).take y.i).filter (keepB (delB key hi))).flatMap encE) (news := encE x4) (m := 1) (by kernel_rfl) (by kernel_rfl) ho.own (.inr ho) (fun w1 A1 m1 l1 => l1.src (i := 4) rfl (e := 42) (by kernel_rfl) rfl rfl) (by simp only [maxLen]; omega) (by omega) ?_
                intro a8 c8 w23 A23 hn5 m20
                replace hl1 := hl1.mv m20; replace hal1 := hal1.mv m20; replace hap1 := hap1.mv m20; replace hbl1 := hbl1.mv m20; replace hbp1 := hbp1.mv m20; replace hsr1 := hsr1.mv m20; replace hsp1 := hsp1.mv m20
                replace hn5 := hn5.re (n' := y.k + 1) (ys := ((((fitF l).take y.i).filter (keepB (delB key hi))) ++ [x4]).flatMap encE) rfl (by first | (simp only [List.flatMap_append, dbytes_flat, byteCells_u8]; done) | (rw [List.flatMap_append]; rfl))
                refine J.run [.u, .n, .n, .n, .u, .u, .u, .n] [0, 2, 3, 9, 10, 11, 15, 22, 23] ⟨[(0, .v (.slice (some ⟨p3, o3, none⟩) ((fitF l).length) c1)), (2, .v (.string key)), (3, .v (.string hi)), (9, .v (.bool true)), (10, .loc 0 0), (11, .loc 1 0), (15, .loc 3 0), (22, .v (.slice a8 (y.k + 1) c8)), (23, .v (.int .i64 (IntKind.i64.wrap (((y.i : Nat) : Int) + 1))))], [⟨32, [.int .i64 bits]⟩, ⟨36, encT (descF bits 1 (fitF l)).1⟩, ⟨28, [.bool ((proveF bits (fitF l) key).1.1), .int .i64 ((proveF bits (fitF l) key).1.2.1.t), .slice la1 ln1 lc1, .slice pa1 pn1 pc1, .int .i64 ((proveF bits (fitF l) key).1.2.2.t), .slice la2 ln2 lc2, .slice pa2 pn2 pc2]⟩, ⟨54, [.int .i64 ((spanF bits (fitF l) key hi).1.t), .slice la3 ln3 lc3, .slice pa3 pn3 pc3]⟩, ⟨42, encE x4⟩]⟩ [.o 72 7, .b 1, .c 74] [] (by kernel_rfl) ?_
                have hw9 : IntKind.i64.wrap (((y.i : Nat) : Int) + 1) = ((y.i + 1 : Nat) : Int) := by rw [wrap_i64 (by omega) (by omega)]; try omega
                rw [hw9]
                have hkp : keepB (delB key hi) x4 = true := by rw [keep_iff]; simp [belowF, hc20, hc21]
                have hnx := filter_next (p := keepB (delB key hi)) hx4; rw [hkp] at hnx; simp only [if_true, Bool.false_eq_true, if_false, List.append_nil] at hnx
                rw [← hnx] at hn5
                exact J.again ⟨y.i + 1, y.k + 1, a8, c8⟩ [0, 2, 3, 9, 10, 11, 15, 22, 23] 4 (by simp only; omega) (by kernel_rfl) (by kernel_rfl) (fun w1 A1 m1 => ⟨by simp only; omega, by rw [hnx, List.length_append, ← hyk]; rfl, (hn5.mv m1).fewer (by simp), hl1.mv m1, hal1.mv m1, hap1.mv m1, hbl1.mv m1, hbp1.mv m1, hsr1.mv m1, hsp1.mv m1⟩)
              · rw [hc]
                try simp only [nrm] at hc
                have hc21 := hc
                refine J.run [.w, .w] [0, 2, 3, 9, 10, 11, 15, 22, 23, 140, 143, 144, 145] ⟨[(0, .v (.slice (some ⟨p3, o3, none⟩) ((fitF l).length) c1)), (2, .v (.string key)), (3, .v (.string hi)), (9, .v (.bool true)), (10, .loc 0 0), (11, .loc 1 0), (15, .loc 3 0), (22, .v (.slice y.a y.k y.c)), (23, .v (.int .i64 ((y.i : Nat) : Int))), (140, .v (.bool true)), (143, .v (.bool false)), (144, .v (.slice (some ⟨p3, o3, none⟩) ((fitF l).length) c1)), (145, .v (.int .i64 ((y.i : Nat) : Int)))], [⟨32, [.int .i64 bits]⟩, ⟨36, encT (descF bits 1 (fitF l)).1⟩, ⟨28, [.bool ((proveF bits (fitF l) key).1.1), .int .i64 ((proveF bits (fitF l) key).1.2.1.t), .slice la1 ln1 lc1, .slice pa1 pn1 pc1, .int .i64 ((proveF bits (fitF l) key).1.2.2.t), .slice la2 ln2 lc2, .slice pa2 pn2 pc2]⟩, ⟨54, [.int .i64 ((spanF bits (fitF l) key hi).1.t), .slice la3 ln3 lc3, .slice pa3 pn3 pc3]⟩]⟩ [.o 70 11, .c 71, .b 1, .c 74] [.o 70 13, .c 71, .b 1, .c 74] (by kernel_rfl) ?_
                refine J.idx (b := p3) (off := o3) (len := (fitF l).length) (i := ((y.i : Nat) : Int)) (sz := 4) (d := 146) (by kernel_rfl) (by omega) (by omega) ?_
                refine J.run [.w] [0, 2, 3, 9, 10, 11, 15, 22, 23, 140, 143, 147] ⟨[(0, .v (.slice (some ⟨p3, o3, none⟩) ((fitF l).length) c1)), (2, .v (.string key)), (3, .v (.string hi)), (9, .v (.bool true)), (10, .loc 0 0), (11, .loc 1 0), (15, .loc 3 0), (22, .v (.slice y.a y.k y.c)), (23, .v (.int .i64 ((y.i : Nat) : Int))), (140, .v (.bool true)), (143, .v (.bool false)), (147, .v (.pointer (some ⟨p3, o3 + y.i * 4, none⟩)))], [⟨32, [.int .i64 bits]⟩, ⟨36, encT (descF bits 1 (fitF l)).1⟩, ⟨28, [.bool ((proveF bits (fitF l) key).1.1), .int .i64 ((proveF bits (fitF l) key).1.2.1.t), .slice la1 ln1 lc1, .slice pa1 pn1 pc1, .int .i64 ((proveF bits (fitF l) key).1.2.2.t), .slice la2 ln2 lc2, .slice pa2 pn2 pc2]⟩, ⟨54, [.int .i64 ((spanF bits (fitF l) key hi).1.t), .slice la3 ln3 lc3, .slice pa3 pn3 pc3]⟩]⟩ [.o 70 14, .c 71, .b 1, .c 74] [.o 70 15, .c 71, .b 1, .c 74] (by kernel_rfl) ?_
                refine J.ld (T := 9) (b := p3) (off := o3 + y.i * 4) (d := 148) (v := .string x4.key) (by kernel_rfl) (fun w1 A1 m1 l1 => (hl1.mv m1).ld1 (by kernel_rfl) hx4 (j := 0) rfl) ?_
                refine J.run [.w, .w, .w, .u, .n] [0, 2, 3, 9, 10, 11, 15, 22, 23, 152] ⟨[(0, .v (.slice (some ⟨p3, o3, none⟩) ((fitF l).length) c1)), (2, .v (.string key)), (3, .v (.string hi)), (9, .v (.bool true)), (10, .loc 0 0), (11, .loc 1 0), (15, .loc 3 0), (22, .v (.slice y.a y.k y.c)), (23, .v (.int .i64 ((y.i : Nat) : Int))), (152, .v (.bool (slt x4.key hi)))], [⟨32, [.int .i64 bits]⟩, ⟨36, encT (descF bits 1 (fitF l)).1⟩, ⟨28, [.bool ((proveF bits (fitF l) key).1.1), .int .i64 ((proveF bits (fitF l) key).1.2.1.t), .slice la1 ln1 lc1, .slice pa1 pn1 pc1, .int .i64 ((proveF bits (fitF l) key).1.2.2.t), .slice la2 ln2 lc2, .slice pa2 pn2 pc2]⟩, ⟨54, [.int .i64 ((spanF bits (fitF l) key hi).1.t), .slice la3 ln3 lc3, .slice pa3 pn3 pc3]⟩]⟩ [.o 70 16, .c 71, .b 1, .c 74] [.c 71, .b 1, .c 74] (by kernel_rfl) ?_
                refine J.cond (b := (slt x4.key hi)) (k' := 73) (by kernel_rfl) (fun hc => ?_) (fun hc => ?_)
                · try simp only [nrm] at hc
                  have hc22 := hc
                  refine J.run [.n, .u, .u, .u] [0, 2, 3, 9, 10, 11, 15, 23, 153, 154, 155] ⟨[(0, .v (.slice (some ⟨p3, o3, none⟩) ((fitF l).length) c1)), (2, .v (.string key)), (3, .v (.string hi)), (9, .v (.bool true)), (10, .loc 0 0), (11, .loc 1 0), (15, .loc 3 0), (23, .v (.int .i64 ((y.i : Nat) : Int))), (153, .v (.slice y.a y.k y.c)), (154, .v (.slice (some ⟨p3, o3, none⟩) ((fitF l).length) c1)), (155, .v (.int .i64 ((y.i : Nat) : Int)))], [⟨32, [.int .i64 bits]⟩, ⟨36, encT (descF bits 1 (fitF l)).1⟩, ⟨28, [.bool ((proveF bits (fitF l) key).1.1), .int .i64 ((proveF bits (fitF l) key).1.2.1.t), .slice la1 ln1 lc1, .slice pa1 pn1 pc1, .int .i64 ((proveF bits (fitF l) key).1.2.2.t), .slice la2 ln2 lc2, .slice pa2 pn2 pc2]⟩, ⟨54, [.int .i64 ((spanF bits (fitF l) key hi).1.t), .slice la3 ln3 lc3, .slice pa3 pn3 pc3]⟩]⟩ [.c 72, .b 1, .c 74] [.o 72 3, .b 1, .c 74] (by kernel_rfl) ?_
                  refine J.idx (b := p3) (off := o3) (len := (fitF l).length) (i := ((y.i : Nat) : Int)) (sz := 4) (d := 156) (by kernel_rfl) (by omega) (by omega) ?_
                  refine J.ld (T := 42) (b := p3) (off := o3 + y.i * 4) (d := 157) (v := .agg (encE x4).toArray) (by kernel_rfl) (fun w1 A1 m1 l1 => (hl1.mv m1).ld (by kernel_rfl) hx4 (by kernel_rfl)) ?_
                  refine J.new (T := 42) (cs := encE x4) (d := 158) (K := (.sl 1)) (by kernel_rfl) (fun b11 hb11 => ?_)
                  replace ho := ho.more hb11
                  refine J.append (e := 42) (sz := 4) (a := y.a) (nn := y.k) (c := y.c) (T := 22) (Tx := 22) (x := .slice (some ⟨b11, 0, none⟩) 1 1) (bytes := 48) (d := 159) (xs := (((fitF l).take y.i).filter (keepB (delB key hi))).flatMap encE) (news := encE x4) (m := 1) (by kernel_rfl) (by kernel_rfl) ho.own (.inr ho) (fun w1 A1 m1 l1 => l1.src (i := 4) rfl (e := 42) (by kernel_rfl) rfl rfl) (by simp only [maxLen]; omega) (by omega) ?_
                  intro a9 c9 w24 A24 hn6 m21
                  replace hl1 := hl1.mv m21; replace hal1 := hal1.mv m21; replace hap1 := hap1.mv m21; replace hbl1 := hbl1.mv m21; replace hbp1 := hbp1.mv m21; replace hsr1 := hsr1.mv m21; replace hsp1 := hsp1.mv m21
                  replace hn6 := hn6.re (n' := y.k + 1) (ys := ((((fitF l).take y.i).filter (keepB (delB key hi))) ++ [x4]).flatMap encE) rfl (by first | (simp only [List.flatMap_append, dbytes_flat, byteCells_u8]; done) | (rw [List.flatMap_append]; rfl))
                  refine J.run [.u, .n, .n, .n, .u, .u, .u, .n] [0, 2, 3, 9, 10, 11, 15, 22, 23] ⟨[(0, .v (.slice (some ⟨p3, o3, none⟩) ((fitF l).length) c1)), (2, .v (.string key)), (3, .v (.string hi)), (9, .v (.bool true)), (10, .loc 0 0), (11, .loc 1 0), (15, .loc 3 0), (22, .v (.slice a9 (y.k + 1) c9)), (23, .v (.int .i64 (IntKind.i64.wrap (((y.i : Nat) : Int) + 1))))], [⟨32, [.int .i64 bits]⟩, ⟨36, encT (descF bits 1 (fitF l)).1⟩, ⟨28, [.bool ((proveF bits (fitF l) key).1.1), .int .i64 ((proveF bits (fitF l) key).1.2.1.t), .slice la1 ln1 lc1, .slice pa1 pn1 pc1, .int .i64 ((proveF bits (fitF l) key).1.2.2.t), .slice la2 ln2 lc2, .slice pa2 pn2 pc2]⟩, ⟨54, [.int .i64 ((spanF bits (fitF l) key hi).1.t), .slice la3 ln3 lc3, .slice pa3 pn3 pc3]⟩, ⟨42, encE x4⟩]⟩ [.o 72 7, .b 1, .c 74] [] (by kernel_rfl) ?_
                  have hw10 : IntKind.i64.wrap (((y.i : Nat) : Int) + 1) = ((y.i + 1 : Nat) : Int) := by rw [wrap_i64 (by omega) (by omega)]; try omega
                  rw [hw10]
                  have hkp : keepB (delB key hi) x4 = true := by rw [keep_iff]; simp [belowF, hc20, hc21, hc22]
                  have hnx := filter_next (p := keepB (delB key hi)) hx4; rw [hkp] at hnx; simp only [if_true, Bool.false_eq_true, if_false, List.append_nil] at hnx
                  rw [← hnx] at hn6
                  exact J.again ⟨y.i + 1, y.k + 1, a9, c9⟩ [0, 2, 3, 9, 10, 11, 15, 22, 23] 4 (by simp only; omega) (by kernel_rfl) (by kernel_rfl) (fun w1 A1 m1 => ⟨by simp only; omega, by rw [hnx, List.length_append, ← hyk]; rfl, (hn6.mv m1).fewer (by simp), hl1.mv m1, hal1.mv m1, hap1.mv m1, hbl1.mv m1, hbp1.mv m1, hsr1.mv m1, hsp1.mv m1⟩)
                · try simp only [nrm] at hc
                  have hc22 := hc
                  refine J.run [.n, .n, .n, .u, .u, .u, .n] [0, 2, 3, 9, 10, 11, 15, 22, 23] ⟨[(0, .v (.slice (some ⟨p3, o3, none⟩) ((fitF l).length) c1)), (2, .v (.string key)), (3, .v (.string hi)), (9, .v (.bool true)), (10, .loc 0 0), (11, .loc 1 0), (15, .loc 3 0), (22, .v (.slice y.a y.k y.c)), (23, .v (.int .i64 (IntKind.i64.wrap (((y.i : Nat) : Int) + 1))))], [⟨32, [.int .i64 bits]⟩, ⟨36, encT (descF bits 1 (fitF l)).1⟩, ⟨28, [.bool ((proveF bits (fitF l) key).1.1), .int .i64 ((proveF bits (fitF l) key).1.2.1.t), .slice la1 ln1 lc1, .slice pa1 pn1 pc1, .int .i64 ((proveF bits (fitF l) key).1.2.2.t), .slice la2 ln2 lc2, .slice pa2 pn2 pc2]⟩, ⟨54, [.int .i64 ((spanF bits (fitF l) key hi).1.t), .slice la3 ln3 lc3, .slice pa3 pn3 pc3]⟩]⟩ [.c 73, .b 1, .c 74] [] (by kernel_rfl) ?_
                  have hw11 : IntKind.i64.wrap (((y.i : Nat) : Int) + 1) = ((y.i + 1 : Nat) : Int) := by rw [wrap_i64 (by omega) (by omega)]; try omega
                  rw [hw11]
                  have hkp : keepB (delB key hi) x4 = false := by rw [keep_iff]; simp [belowF, hc20, hc21, hc22]
                  have hnx := filter_next (p := keepB (delB key hi)) hx4; rw [hkp] at hnx; simp only [if_true, Bool.false_eq_true, if_false, List.append_nil] at hnx
                  rw [← hnx] at ho
                  exact J.again ⟨y.i + 1, y.k, y.a, y.c⟩ [0, 2, 3, 9, 10, 11, 15, 22, 23] 4 (by simp only; omega) (by kernel_rfl) (by kernel_rfl) (fun w1 A1 m1 => ⟨by simp only; omega, by rw [hnx]; exact hyk, (ho.mv m1).fewer (by simp), hl1.mv m1, hal1.mv m1, hap1.mv m1, hbl1.mv m1, hbp1.mv m1, hsr1.mv m1, hsp1.mv m1⟩)
            · rw [hc]
              try simp only [nrm] at hc
              have hc20 := hc
              refine J.run [.x, .x, .x, .x, .x, .x, .x, .x, .x, .x, .x, .u, .n] [0, 2, 3, 9, 10, 11, 15, 22, 23, 152] ⟨[(0, .v (.slice (some ⟨p3, o3, none⟩) ((fitF l).length) c1)), (2, .v (.string key)), (3, .v (.string hi)), (9, .v (.bool true)), (10, .loc 0 0), (11, .loc 1 0), (15, .loc 3 0), (22, .v (.slice y.a y.k y.c)), (23, .v (.int .i64 ((y.i : Nat) : Int))), (152, .v (.bool false))], [⟨32, [.int .i64 bits]⟩, ⟨36, encT (descF bits 1 (fitF l)).1⟩, ⟨28, [.bool ((proveF bits (fitF l) key).1.1), .int .i64 ((proveF bits (fitF l) key).1.2.1.t), .slice la1 ln1 lc1, .slice pa1 pn1 pc1, .int .i64 ((proveF bits (fitF l) key).1.2.2.t), .slice la2 ln2 lc2, .slice pa2 pn2 pc2]⟩, ⟨54, [.int .i64 ((spanF bits (fitF l) key hi).1.t), .slice la3 ln3 lc3, .slice pa3 pn3 pc3]⟩]⟩ [.o 70 8, .c 71, .b 1, .c 74] [.c 71, .b 1, .c 74] (by kernel_rfl) ?_
              refine J.cond (b := false) (k' := 73) (by kernel_rfl) (fun hc => absurd hc (by decide)) (fun _ => ?_)
              refine J.run [.n, .n, .n, .u, .u, .u, .n] [0, 2, 3, 9, 10, 11, 15, 22, 23] ⟨[(0, .v (.slice (some ⟨p3, o3, none⟩) ((fitF l).length) c1)), (2, .v (.string key)), (3, .v (.string hi)), (9, .v (.bool true)), (10, .loc 0 0), (11, .loc 1 0), (15, .loc 3 0), (22, .v (.slice y.a y.k y.c)), (23, .v (.int .i64 (IntKind.i64.wrap (((y.i : Nat) : Int) + 1))))], [⟨32, [.int .i64 bits]⟩, ⟨36, encT (descF bits 1 (fitF l)).1⟩, ⟨28, [.bool ((proveF bits (fitF l) key).1.1), .int .i64 ((proveF bits (fitF l) key).1.2.1.t), .slice la1 ln1 lc1, .slice pa1 pn1 pc1, .int .i64 ((proveF bits (fitF l) key).1.2.2.t), .slice la2 ln2 lc2, .slice pa2 pn2 pc2]⟩, ⟨54, [.int .i64 ((spanF bits (fitF l) key hi).1.t), .slice la3 ln3 lc3, .slice pa3 pn3 pc3]⟩]⟩ [.c 73, .b 1, .c 74] [] (by kernel_rfl) ?_
              have hw12 : IntKind.i64.wrap (((y.i : Nat) : Int) + 1) = ((y.i + 1 : Nat) : Int) := by rw [wrap_i64 (by omega) (by omega)]; try omega
              rw [hw12]
              have hkp : keepB (delB key hi) x4 = false := by rw [keep_iff]; simp [belowF, hc20]
              have hnx := filter_next (p := keepB (delB key hi)) hx4; rw [hkp] at hnx; simp only [if_true, Bool.false_eq_true, if_false, List.append_nil] at hnx
              rw [← hnx] at ho
              exact J.again ⟨y.i + 1, y.k, y.a, y.c⟩ [0, 2, 3, 9, 10, 11, 15, 22, 23] 4 (by simp only; omega) (by kernel_rfl) (by kernel_rfl) (fun w1 A1 m1 => ⟨by simp only; omega, by rw [hnx]; exact hyk, (ho.mv m1).fewer (by simp), hl1.mv m1, hal1.mv m1, hap1.mv m1, hbl1.mv m1, hbp1.mv m1, hsr1.mv m1, hsp1.mv m1⟩)
          · try simp only [nrm] at hc
            have hc19 := hc
            refine J.exit (id := 0) (by kernel_rfl) (by rfl) ?_
            have hfin : (fitF l).take y.i = fitF l := List.take_of_length_le (by omega)
            rw [hfin] at ho hyk
            refine J.run [.n, .n, .u, .u, .u, .u, .u] [9, 22, 161, 162, 163, 164, 165] ⟨[(9, .v (.bool true)), (22, .v (.slice y.a y.k y.c)), (161, .v (.agg [.int .i64 bits].toArray)), (162, .v (.agg (encT (descF bits 1 (fitF l)).1).toArray)), (163, .v (.string key)), (164, .v (.string hi)), (165, .v (.agg [.int .i64 ((spanF bits (fitF l) key hi).1.t), .slice la3 ln3 lc3, .slice pa3 pn3 pc3].toArray))], [⟨32, [.int .i64 bits]⟩, ⟨36, encT (descF bits 1 (fitF l)).1⟩, ⟨28, [.bool ((proveF bits (fitF l) key).1.1), .int .i64 ((proveF bits (fitF l) key).1.2.1.t), .slice la1 ln1 lc1, .slice pa1 pn1 pc1, .int .i64 ((proveF bits (fitF l) key).1.2.2.t), .slice la2 ln2 lc2, .slice pa2 pn2 pc2]⟩, ⟨54, [.int .i64 ((spanF bits (fitF l) key hi).1.t), .slice la3 ln3 lc3, .slice pa3 pn3 pc3]⟩]⟩ [.c 75] [.o 76 5, .c 77] (by kernel_rfl) ?_
            refine J.call (d := some 166) (by kernel_rfl) (fun w1 A1 m1 l1 => (by have q := checkSpan_calls bits (descF bits 1 (fitF l)).1 (fitF l).length (descF_1 hf (by decide) (by decide)) (by omega) key hi (spanF bits (fitF l) key hi).1 (spanF_short _ _ _ _) la3 ln3 lc3 pa3 pn3 pc3 nobody w1 noA (hsr1.mv m1).any (hsp1.mv m1).any; rw [check_span hf (by decide) (by decide) key hi hc18] at q; exact q)) ?_
            rintro _ u15 w25 A25 ⟨a10, c10, rfl, hgq3⟩ g14
            have m22 := g14.mv
            replace hl1 := hl1.mv m22; replace hal1 := hal1.mv m22; replace hap1 := hap1.mv m22; replace hbl1 := hbl1.mv m22; replace hbp1 := hbp1.mv m22; replace hsr1 := hsr1.mv m22; replace hsp1 := hsp1.mv m22; replace ho := ho.mv m22
            have hg3 : Sl 4 encE A25 w25 a10 ((fitF l).filter (keepB (delB key hi))).length c10 ((fitF l).filter (keepB (delB key hi))) := hgq3.sl (fun x _ => rfl) (by decide) g14.bd
            refine J.run [.u, .u, .u, .u, .u, .n, .n, .n, .u, .u, .w, .w, .u, .u, .w, .w] [174, 175, 176] ⟨[(174, .v (.bool true)), (175, .v (.slice a10 (((fitF l).filter (keepB (delB key hi))).length) c10)), (176, .v (.slice y.a y.k y.c))], [⟨32, [.int .i64 bits]⟩, ⟨36, encT (descF bits 1 (fitF l)).1⟩, ⟨28, [.bool ((proveF bits (fitF l) key).1.1), .int .i64 ((proveF bits (fitF l) key).1.2.1.t), .slice la1 ln1 lc1, .slice pa1 pn1 pc1, .int .i64 ((proveF bits (fitF l) key).1.2.2.t), .slice la2 ln2 lc2, .slice pa2 pn2 pc2]⟩, ⟨54, [.int .i64 ((spanF bits (fitF l) key hi).1.t), .slice la3 ln3 lc3, .slice pa3 pn3 pc3]⟩]⟩ [.o 76 6, .c 77] [.o 78 8, .c 79] (by kernel_rfl) ?_
            refine J.call (d := some 177) (by kernel_rfl) (fun w1 A1 m1 l1 => same_calls a10 (((fitF l).filter (keepB (delB key hi))).length) c10 ((fitF l).filter (keepB (delB key hi))) y.a y.k y.c ((fitF l).filter (keepB (delB key hi))) nobody w1 noA (hg3.mv m1).any ((ho.mv m1).any (fun x _ => rfl) (by decide))) ?_
            rintro _ u16 w26 A26 rfl g15
            have m23 := g15.mv
            replace hl1 := hl1.mv m23; replace hal1 := hal1.mv m23; replace hap1 := hap1.mv m23; replace hbl1 := hbl1.mv m23; replace hbp1 := hbp1.mv m23; replace hsr1 := hsr1.mv m23; replace hsp1 := hsp1.mv m23; replace hg3 := hg3.mv m23; replace ho := ho.mv m23
            refine J.run [.u, .u, .n] [8] ⟨[(8, .v (.bool (sameL ((fitF l).filter (keepB (delB key hi))) ((fitF l).filter (keepB (delB key hi))))))], [⟨32, [.int .i64 bits]⟩, ⟨36, encT (descF bits 1 (fitF l)).1⟩, ⟨28, [.bool ((proveF bits (fitF l) key).1.1), .int .i64 ((proveF bits (fitF l) key).1.2.1.t), .slice la1 ln1 lc1, .slice pa1 pn1 pc1, .int .i64 ((proveF bits (fitF l) key).1.2.2.t), .slice la2 ln2 lc2, .slice pa2 pn2 pc2]⟩, ⟨54, [.int .i64 ((spanF bits (fitF l) key hi).1.t), .slice la3 ln3 lc3, .slice pa3 pn3 pc3]⟩]⟩ [.o 78 9, .c 79] [.c 79] (by kernel_rfl) ?_
            refine J.ret (v := .bool (sameL ((fitF l).filter (keepB (delB key hi))) ((fitF l).filter (keepB (delB key hi))))) (by kernel_rfl) (by kernel_rfl) (fun w1 A1 m1 hac l1 => by rw [sameL_iff.2 rfl])
end Go.Proofs.Ytkgokehkobifkaa.J

/- The arguments of a law, as they come in. -/
namespace Go.Proofs.Ytkgokehkobifkaa.J
open Go Go.RowKit

section
variable {H : Type} {enc : TypeId × Value → H} {P : Program} {w : World} {base : Nat} {spare : Nat → Bool} {held : Bool}

/-- Whatever reads at type t is the cells of one of these. -/
def Reads1 {α : Type} (enc : TypeId × Value → H) (P : Program) (w : World) (base : Nat) (spare : Nat → Bool) (held : Bool) (t : TypeId) (F : α → List Value → Prop) : Prop :=
  ∀ (fuel : Nat) (cs : List Value) (x : DataW H × List MemPlace), DataW.trod enc P w base spare held fuel t cs = some x → ∃ y : α, F y cs

theorem mapM_fld {β : Type} (g : TypeId → Nat → Option β) : ∀ (fs : List Field), (fs.mapM fun f => g f.type f.offset) = (fs.map fldS).mapM fun s => g s.2.1 s.2.2
  | [] => rfl
  | f :: r => by rw [List.map_cons, List.mapM_cons, List.mapM_cons, mapM_fld g r]; rfl

theorem rd_u8 {t : TypeId} (ht : P.underlying t = some (.int .u8)) : Reads1 enc P w base spare held t fun y cs => cs = u8 y := by
  intro fuel cs x h
  obtain ⟨n, rfl, _, hw⟩ := DataW.trod_int ht h
  have hb : 0 ≤ n ∧ n < 256 := by
    have h1 : IntKind.u8.min ≤ n ∧ n ≤ IntKind.u8.max := by simpa [Lit.wf] using hw
    have h2 : IntKind.u8.min = 0 := by decide
    have h3 : IntKind.u8.max = 255 := by decide
    omega
  refine ⟨UInt8.ofNat n.toNat, ?_⟩
  show [Value.int .u8 n] = [Value.int .u8 ((UInt8.ofNat n.toNat).toNat : Nat)]
  have : (UInt8.ofNat n.toNat).toNat = n.toNat := by rw [u8_nat]; omega
  rw [this]
  congr 2; omega

theorem rd_slice {α : Type} {t e : TypeId} {k : Nat} {enc' : α → List Value} (ht : P.underlying t = some (.slice e)) (hk : P.cellsOf e = k) (hkp : 0 < k) (he : Reads1 enc P w base spare held e fun y cs => cs = enc' y) {fuel : Nat} {cs : List Value} {x : DataW H × List MemPlace}
    (h : DataW.trod enc P w base spare held fuel t cs = some x) : ∃ a n c l, cs = [.slice a n c] ∧ Sl k enc' nobody w a n c l := by
  rcases Go.Deep.open_slice ht h with ⟨rfl, _⟩ | ⟨a, len, cap, m, n, D, Pl, rfl, hb, hl, hm, hmm, _, hx⟩
  · exact ⟨none, 0, 0, [], rfl, Sl.nil none (by decide)⟩
  · have hle : len ≤ m := by rw [hmm]; split <;> omega
    have hel : ∀ i, i < len → ∃ y : α, (enc' y).length = k ∧ ∀ j, j < k → w.cell? (a.add (i * k + j)) = (enc' y)[j]? := by
      intro i hi
      obtain ⟨cs', h1, h2⟩ := hx i (by omega)
      obtain ⟨y, rfl⟩ := he n cs' (D i, Pl i) h2
      obtain ⟨_, h3, h4⟩ := World.cells?_some h1
      rw [hk] at h3 h4
      refine ⟨y, h3, fun j hj => ?_⟩
      rw [← h4 j hj, Go.Deep.add_add]
    rcases Nat.eq_zero_or_pos len with h0 | h0
    · subst h0
      exact ⟨some a, 0, cap, [], rfl, Sl.nil (some a) hm⟩
    · obtain ⟨y0, hy0, hc0⟩ := hel 0 h0
      have hspot : a.spot = none := by
        have hv : w.cell? a = some ((enc' y0)[0]'(by omega)) := by
          have := hc0 0 hkp
          rw [List.getElem?_eq_getElem (by omega)] at this
          simpa [Addr.add] using this
        exact World.cell?_spot hv
      obtain ⟨b, off, sp⟩ := a
      simp only at hspot
      subst hspot
      have key : ∀ m, m ≤ len → ∃ l : List α, l.length = m ∧ ∀ i y, l[i]? = some y → (enc' y).length = k ∧ ∀ j, j < k → w.cell? ((⟨b, off, none⟩ : Addr).add (i * k + j)) = (enc' y)[j]? := by
        intro m
        induction m with
        | zero => exact fun _ => ⟨[], rfl, fun i y h => by simp at h⟩
        | succ m ih =>
          intro hm'
          obtain ⟨l, hl', hll⟩ := ih (by omega)
          obtain ⟨y, hy1, hy2⟩ := hel m (by omega)
          refine ⟨l ++ [y], by simp [hl'], fun i z hz => ?_⟩
          rcases Nat.lt_or_ge i l.length with hi | hi
          · rw [List.getElem?_append_left hi] at hz; exact hll i z hz
          · rw [List.getElem?_append_right hi] at hz
            have hi0 : i - l.length = 0 := by
              have := (List.getElem?_eq_some_iff.1 hz).1
              simp at this; omega
            rw [hi0] at hz
            simp at hz; subst hz
            have : i = m := by omega
            subst this
            exact ⟨hy1, hy2⟩
      obtain ⟨l, hl', hll⟩ := key len (Nat.le_refl _)
      refine ⟨_, len, cap, l, rfl, ⟨hl'.symm, hl, hm, fun hne => ?_⟩⟩
      have hcell0 := (hll 0 l[0] (List.getElem?_eq_getElem (by omega))).2 0 hkp
      have hbl : b < w.heap.size := by
        have hlen0 := (hll 0 l[0] (List.getElem?_eq_getElem (by omega))).1
        rw [List.getElem?_eq_getElem (by omega)] at hcell0
        rcases Nat.lt_or_ge b w.heap.size with h | h
        · exact h
        · have h2 : ((⟨b, off, none⟩ : Addr).add (0 * k + 0)).block = b := by simp [Addr.add]
          unfold World.cell? at hcell0
          rw [h2, Array.getElem?_eq_none h] at hcell0
          simp at hcell0
      refine ⟨b, off, rfl, fun h => h, hbl, fun i y hy j v hv => ?_⟩
      obtain ⟨h1, h2⟩ := hll i y hy
      have hj : j < k := by
        have := (List.getElem?_eq_some_iff.1 hv).1; omega
      have := h2 j hj
      rw [hv, Addr.add_lit, ← Nat.add_assoc] at this
      exact this
end

section
variable {H : Type} {enc : TypeId × Value → H} {w : World} {base : Nat} {spare : Nat → Bool} {held : Bool}

theorem fld_at {fs : Array Field} {sp : List (Bool × TypeId × Nat)} (hf : fs.toList.map fldS = sp) {i : Nat} {s : Bool × TypeId × Nat} (hi : sp[i]? = some s) : ∃ f, fs[i]? = some f ∧ f.type = s.2.1 ∧ f.offset = s.2.2 := by
  subst hf
  rw [List.getElem?_map, Array.getElem?_toList] at hi
  cases h : fs[i]? with
  | none => rw [h] at hi; cases hi
  | some f => rw [h] at hi; cases hi; exact ⟨f, rfl, rfl, rfl⟩

/-- One field of a struct, read. -/
theorem rd_fld {fs : Array Field} {sp : List (Bool × TypeId × Nat)} (hf : fs.toList.map fldS = sp) {n : Nat} {cs : List Value} {xs : List (DataW H × List MemPlace)} (hxl : xs.length = fs.size)
    (hx : ∀ (i : Nat) (f : Field), fs[i]? = some f → DataW.trod enc Pr w base spare held n f.type ((cs.drop f.offset).take (Pr.cellsOf f.type)) = xs[i]?) {i : Nat} {b : Bool} {t : TypeId} {off k : Nat} (hi : sp[i]? = some (b, t, off)) (hk : Pr.cellsOf t = k) :
    ∃ y, DataW.trod enc Pr w base spare held n t ((cs.drop off).take k) = some y := by
  obtain ⟨f, hfi, h1, h2⟩ := fld_at hf hi
  have h := hx i f hfi
  simp only at h1 h2
  rw [h1, h2, hk] at h
  have hlt : i < xs.length := by rw [hxl]; exact (Array.getElem?_eq_some_iff.1 hfi).1
  rw [List.getElem?_eq_getElem hlt] at h
  exact ⟨_, h⟩

theorem list4 {α : Type} {l : List α} (h : l.length = 4) : ∃ a b c d, l = [a, b, c, d] := by
  match l, h with
  | [a, b, c, d], _ => exact ⟨a, b, c, d, rfl⟩
theorem rd_ent : Reads1 enc Pr w base spare held 42 fun y cs => cs = encE y := by
  intro fuel cs x h
  obtain ⟨xs, n, rfl, _, hlen, hxl, hx⟩ := DataW.trod_struct (fs := Pr.fieldsOf 42) (by kernel_rfl) h
  have h4 : Pr.cellsOf 42 = 4 := by kernel_rfl
  rw [h4] at hlen
  have hf : (Pr.fieldsOf 42).toList.map fldS = [(false, 9, 0), (false, 9, 1), (false, 4, 2), (false, 3, 3)] := by kernel_rfl
  obtain ⟨c0, c1, c2, c3, rfl⟩ := list4 hlen
  obtain ⟨y0, g0⟩ := rd_fld hf hxl hx (i := 0) rfl (k := 1) (by kernel_rfl)
  obtain ⟨y1, g1⟩ := rd_fld hf hxl hx (i := 1) rfl (k := 1) (by kernel_rfl)
  obtain ⟨y2, g2⟩ := rd_fld hf hxl hx (i := 2) rfl (k := 1) (by kernel_rfl)
  obtain ⟨y3, g3⟩ := rd_fld hf hxl hx (i := 3) rfl (k := 1) (by kernel_rfl)
  obtain ⟨s0, e0, _⟩ := DataW.trod_string (by kernel_rfl) g0
  obtain ⟨s1, e1, _⟩ := DataW.trod_string (by kernel_rfl) g1
  obtain ⟨b2, e2, _⟩ := DataW.trod_bool (by kernel_rfl) g2
  obtain ⟨n3, e3, _⟩ := DataW.trod_int (k := .i64) (by kernel_rfl) g3
  simp only [List.drop_zero, List.drop_succ_cons, List.take_succ_cons, List.take_zero, List.cons.injEq, and_true] at e0 e1 e2 e3
  subst e0; subst e1; subst e2; subst e3
  exact ⟨⟨s0, s1, b2, n3⟩, rfl⟩

theorem rd_ents {fuel : Nat} {cs : List Value} {x : DataW H × List MemPlace} (h : DataW.trod enc Pr w base spare held fuel 22 cs = some x) : ∃ a n c l, cs = [.slice a n c] ∧ Sl 4 encE nobody w a n c l :=
  rd_slice (by kernel_rfl) (by kernel_rfl) (by decide) rd_ent h
end
end Go.Proofs.Ytkgokehkobifkaa.J
