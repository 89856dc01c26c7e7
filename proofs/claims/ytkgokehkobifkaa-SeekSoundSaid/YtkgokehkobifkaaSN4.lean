/- Part 4 of the texts that the proof of the row stands on: the calculus, contracts of the functions, plain laws; no condition of its own. -/
import Derived.Test.YtkgokehkobifkaaSN3
import Derived.Recover
import Derived.Tactics
import Derived.Tactics2
set_option linter.unusedVariables false
set_option linter.unusedSimpArgs false
/- Package tree: opening.root, CheckRange. -/
namespace Go.Proofs.Ytkgokehkobifkaa.J
open Go Go.RowKit

theorem Locs.ldp {P : Program} {mem : List Loc} {ρ : List Nat} {w : World} (l : Locs mem ρ w) {i : Nat} {L : Loc} (hi : mem[i]? = some L) {t : TypeId} {off k : Nat} {cs : List Value} (ha : aggOf P t = some true) (hs : sizeO P t = some k) (hk : Nat.ble (off + k) L.cells.length = true) (hc : (L.cells.drop off).take k = cs) :
    Ld P w t (ρ.getD i 0) off (.agg cs.toArray) := by
  have hk := Nat.le_of_ble_eq_true hk
  subst hc
  refine Ld.agg ha (by rw [hs, List.length_take, List.length_drop]; congr 1; omega) fun j v hv => ?_
  rw [l.cell hi]
  rw [List.getElem?_take] at hv
  split at hv
  · rw [List.getElem?_drop] at hv; exact hv
  · cases hv

/-- The root of count leaves, of which the part begins at i: the sum, the path that is left, whether it was too short. -/
def rootO (bits : Int) (part : List (List UInt8)) (count : Nat) (i : Int) (p : List Dg) : Dg × List Dg × Bool :=
  if i + ((part.length : Nat) : Int) ≤ 0 ∨ ((count : Nat) : Int) ≤ i then (match p with
    | [] => (dg0, [], true)
    | d :: r => (d, r, false))
  else if h1 : count ≤ 1 then (leafF bits (part.getD (-i).toNat []), p, false)
  else
    let x := rootO bits part (half count) i p
    let y := rootO bits part (count - half count) (i - ((half count : Nat) : Int)) x.2.1
    (nodeF bits x.1 y.1, y.2.1, x.2.2 || y.2.2)
termination_by count
decreasing_by
  · have := half_lt (n := count) (by omega); omega
  · have := half_lt (n := count) (by omega); omega
theorem rootO_out {bits : Int} {part : List (List UInt8)} {count : Nat} {i : Int} {d : Dg} {r : List Dg} (h : i + ((part.length : Nat) : Int) ≤ 0 ∨ ((count : Nat) : Int) ≤ i) : rootO bits part count i (d :: r) = (d, r, false) := by rw [rootO.eq_def, if_pos h]
theorem rootO_bad {bits : Int} {part : List (List UInt8)} {count : Nat} {i : Int} (h : i + ((part.length : Nat) : Int) ≤ 0 ∨ ((count : Nat) : Int) ≤ i) : rootO bits part count i [] = (dg0, [], true) := by rw [rootO.eq_def, if_pos h]
theorem rootO_one {bits : Int} {part : List (List UInt8)} {count : Nat} {i : Int} {p : List Dg} (h : ¬ (i + ((part.length : Nat) : Int) ≤ 0 ∨ ((count : Nat) : Int) ≤ i)) (h1 : count ≤ 1) : rootO bits part count i p = (leafF bits (part.getD (-i).toNat []), p, false) := by rw [rootO.eq_def, if_neg h, dif_pos h1]
theorem rootO_two {bits : Int} {part : List (List UInt8)} {count : Nat} {i : Int} {p : List Dg} (h : ¬ (i + ((part.length : Nat) : Int) ≤ 0 ∨ ((count : Nat) : Int) ≤ i)) (h1 : 2 ≤ count) : rootO bits part count i p =
    (nodeF bits (rootO bits part (half count) i p).1 (rootO bits part (count - half count) (i - ((half count : Nat) : Int)) (rootO bits part (half count) i p).2.1).1,
      (rootO bits part (count - half count) (i - ((half count : Nat) : Int)) (rootO bits part (half count) i p).2.1).2.1,
      (rootO bits part (half count) i p).2.2 || (rootO bits part (count - half count) (i - ((half count : Nat) : Int)) (rootO bits part (half count) i p).2.1).2.2) := by
  rw [rootO.eq_def, if_neg h, dif_neg (by omega)]
theorem rootO_take {bits : Int} {part : List (List UInt8)} {count : Nat} {i : Int} {p : List Dg} {d : Dg} (h : i + ((part.length : Nat) : Int) ≤ 0 ∨ ((count : Nat) : Int) ≤ i) (hd : p[0]? = some d) : rootO bits part count i p = (d, p.drop 1, false) := by
  cases p with
  | nil => cases hd
  | cons x r => cases hd; rw [rootO_out h]; rfl
def checkR (bits : Int) (root : Dg) (count : Nat) (i : Int) (part : List (List UInt8)) (p : List Dg) : Bool :=
  decide (0 < part.length ∧ 0 ≤ i ∧ part.length ≤ count ∧ i ≤ ((count - part.length : Nat) : Int)) && (!(rootO bits part count i p).2.2 && (decide ((rootO bits part count i p).2.1.length = 0) && dgEq (rootO bits part count i p).1 root))

theorem beside_new (bits : Int) (a : Option Addr) (n c : Nat) (ls : List (List UInt8)) (i j : Nat) (hij : i < j) (hj : j ≤ ls.length) (hsh : Short ls) (hn : ls.length ≤ 1000000) (Ac : Nat → Prop) (W : World) (hA : ∀ k, Ac k → k < W.heap.size) (hs : Rows Ac W a n c ls) :
    Calls Pr 86 #[.agg [.int .i64 bits].toArray, .slice none 0 0, .slice a n c, .int .i64 ((i : Nat) : Int), .int .i64 ((j : Nat) : Int)] W (Ret nobody W fun v w => ∃ a' n' c', v = .slice a' n' c' ∧ New W.heap.size 34 32 w a' n' c' ((besideF bits ls ((i : Nat) : Int) ((j : Nat) : Int)).flatMap dcells)) := by
  have h := beside_calls bits _ none 0 0 [] a n c ls ((i : Nat) : Int) ((j : Nat) : Int) (Nat.lt_succ_self _) (by omega) hsh hn (by omega) (by omega) (by omega) (by omega) (by omega) Ac W hA (Nw.nil _ _ _ _ _ _) hs
  refine h.mono ?_
  rintro e w ⟨v, rfl, ⟨a', n', c', rfl, hg⟩, hsn⟩
  have hb : ∀ x, Eb a' x → W.heap.size ≤ x := fun x hx => (hg.2 x hx).elim (fun ⟨_, h, _⟩ => nomatch h) id
  refine ⟨_, rfl, ⟨a', n', c', rfl, ?_⟩, hsn.weaken fun k ⟨_, h, _⟩ => nomatch h⟩
  obtain ⟨⟨h1, h2 | ⟨g, cur, rfl, h3, h4, h5, h6⟩⟩, _⟩ := hg
  · exact ⟨h1, .inl h2⟩
  · exact ⟨h1, .inr ⟨g, cur, rfl, hb g ⟨_, rfl, rfl⟩, h4, h5, h6⟩⟩
theorem Range_calls (bits : Int) (a : Option Addr) (n c : Nat) (ls : List (List UInt8)) (i j : Nat) (hij : i < j) (hj : j ≤ ls.length) (hsh : Short ls) (hn : ls.length ≤ 1000000) (Ac : Nat → Prop) (W : World) (hA : ∀ k, Ac k → k < W.heap.size) (hs : Rows Ac W a n c ls) :
    Calls Pr 55 #[.agg [.int .i64 bits].toArray, .slice a n c, .int .i64 ((i : Nat) : Int), .int .i64 ((j : Nat) : Int)] W (Ret nobody W fun v w => ∃ a' n' c', v = .tuple #[.slice a' n' c', .int .i64 0] ∧ New W.heap.size 34 32 w a' n' c' ((besideF bits ls ((i : Nat) : Int) ((j : Nat) : Int)).flatMap dcells)) := by
  refine J.enter (fn := Try.f55) (n := 28) Try.func55 (by kernel_rfl) (by kernel_rfl) (by kernel_rfl) hA ?_
  have hlen := hs.len; have hle := hs.le; have hcap := hs.cap; simp only [maxLen] at hcap
  refine J.rn [.n, .n] [0, 1, 2, 3] [.c 0] [.o 1 0, .c 2] (by kernel_rfl) ?_
  refine J.new (T := 32) (cs := [.int .i64 bits]) (d := 4) (K := .ptr) (by kernel_rfl) (fun b1 hb1 => ?_)
  refine J.run [.u, .u, .n, .n, .n, .n, .u, .u, .u] [1, 2, 3, 4, 12] ⟨[(1, .v (.slice a n c)), (2, .v (.int .i64 ((i : Nat) : Int))), (3, .v (.int .i64 ((j : Nat) : Int))), (4, .loc 0 0), (12, .v (.bool (decide (((i : Nat) : Int) < 0))))], [⟨32, [.int .i64 bits]⟩]⟩ [.o 1 1, .c 2] [.o 4 3, .c 5, .c 10] (by kernel_rfl) ?_
  rcases Bool.eq_false_or_eq_true (decide (((i : Nat) : Int) < 0)) with hc | hc
  · rw [hc]
    try simp only [nrm] at hc
    have hc1 := hc
    refine J.rn [.x, .x, .x, .u, .u, .x, .x, .x, .x, .u, .n] [1, 2, 3, 4, 22] [.o 4 3, .c 5, .c 10] [.c 5, .c 10] (by kernel_rfl) ?_
    refine J.cond (b := true) (k' := 9) (by kernel_rfl) (fun _ => ?_) (fun hc => absurd hc (by decide))
    refine J.rn [.n, .n, .u, .u, .n] [8, 9] [.c 6, .c 10] [.c 8, .c 10] (by kernel_rfl) ?_
    omega
  · rw [hc]
    try simp only [nrm] at hc
    have hc1 := hc
    refine J.run [.w, .w, .w, .u, .u] [1, 2, 3, 4, 17] ⟨[(1, .v (.slice a n c)), (2, .v (.int .i64 ((i : Nat) : Int))), (3, .v (.int .i64 ((j : Nat) : Int))), (4, .loc 0 0), (17, .v (.bool (decide (((i : Nat) : Int) ≥ ((j : Nat) : Int)))))], [⟨32, [.int .i64 bits]⟩]⟩ [.o 4 3, .c 5, .c 10] [.o 4 8, .c 5, .c 10] (by kernel_rfl) ?_
    rcases Bool.eq_false_or_eq_true (decide (((i : Nat) : Int) ≥ ((j : Nat) : Int))) with hc | hc
    · rw [hc]
      try simp only [nrm] at hc
      have hc2 := hc
      refine J.rn [.x, .x, .x, .x, .u, .n] [1, 2, 3, 4, 22] [.o 4 8, .c 5, .c 10] [.c 5, .c 10] (by kernel_rfl) ?_
      refine J.cond (b := true) (k' := 9) (by kernel_rfl) (fun _ => ?_) (fun hc => absurd hc (by decide))
      refine J.rn [.n, .n, .u, .u, .n] [8, 9] [.c 6, .c 10] [.c 8, .c 10] (by kernel_rfl) ?_
      omega
    · rw [hc]
      try simp only [nrm] at hc
      have hc2 := hc
      refine J.rn [.w, .w, .w, .w, .u, .n] [1, 2, 3, 4, 22] [.o 4 8, .c 5, .c 10] [.c 5, .c 10] (by kernel_rfl) ?_
      refine J.cond (b := (decide (((j : Nat) : Int) > ((n : Nat) : Int)))) (k' := 9) (by kernel_rfl) (fun hc => ?_) (fun hc => ?_)
      · try simp only [nrm] at hc
        have hc3 := hc
        refine J.run [.n, .n, .u, .u, .n] [8, 9] ⟨[(8, .v (.slice none 0 0)), (9, .v (.int .i64 1))], [⟨32, [.int .i64 bits]⟩]⟩ [.c 6, .c 10] [.c 8, .c 10] (by kernel_rfl) ?_
        omega
      · try simp only [nrm] at hc
        have hc3 := hc
        refine J.rn [.n, .n, .n, .u, .u, .u, .u] [23, 24, 25, 26] [.c 9, .c 10] [.o 11 4, .c 12] (by kernel_rfl) ?_
        refine J.call (d := some 27) (by kernel_rfl) (fun w1 A1 m1 l1 => beside_new bits a n c ls i j (by omega) (by omega) (by first | assumption | exact Short.take (by assumption) _ | exact Short.drop (by assumption) _ | exact Short.drop (Short.take (by assumption) _) _) (by omega) nobody w1 noA (hs.mv m1).any) ?_
        rintro _ u1 w1 A1 ⟨a1, n1, c1, rfl, hn1⟩ g1
        have hblhn1 := hn1.blk_lt; have hglhn1 := g1.le
        refine J.grab hn1 ?_
        have m1 := g1.grab hn1
        replace hs := hs.mv m1
        replace hn1 := hn1.take g1 rfl
        refine J.rn [.u, .u, .n] [8, 9] [.o 11 5, .c 12] [.c 12] (by kernel_rfl) ?_
        refine J.ret (v := .tuple #[.slice a1 n1 c1, .int .i64 0]) (by kernel_rfl) (by kernel_rfl) (fun w1 A1 m1 hac l1 => ⟨_, _, _, rfl, (hn1.mv m1).new⟩)
theorem rootO_step (bits : Int) (ga : Option Addr) (gn gc : Nat) (part : List (List UInt8)) (hsh : Short part) (hgn : part.length ≤ 1000000) (pa : Option Addr) (pn pc : Nat) (p : List Dg) (bad : Bool) (count : Nat) (i : Int) (ih : ∀ (pa : Option Addr) (pn pc : Nat) (p2 : List Dg) (bad : Bool) (k2 : Nat) (i2 : Int), k2 < count → 1 ≤ k2 → k2 ≤ 1000000 → ((k2 : Nat) : Int) - 1000000000 ≤ i2 → i2 ≤ 1000000000 → ∀ (b : Nat) (Ac : Nat → Prop) (W : World), (∀ k, Ac k → k < W.heap.size) → W.heap[b]? = some (.cells [.int .i64 bits, .slice ga gn gc, .slice pa pn pc, .bool bad].toArray 134 (0, 0)) → Ac b → Rows Ac W ga gn gc part → Sl 32 dcells Ac W pa pn pc p2 → Calls Pr 88 #[.pointer (some ⟨b, 0, none⟩), .int .i64 ((k2 : Nat) : Int), .int .i64 i2] W (RB b 134 W fun v cs w => v = .agg (dcells (rootO bits part k2 i2 p2).1).toArray ∧ ∃ a2 n2 c2, cs = [.int .i64 bits, .slice ga gn gc, .slice a2 n2 c2, .bool (bad || (rootO bits part k2 i2 p2).2.2)] ∧ ∀ (A : Nat → Prop) (w : World), Sl 32 dcells A w pa pn pc p2 → Sl 32 dcells A w a2 n2 c2 (rootO bits part k2 i2 p2).2.1)) (h1 : 1 ≤ count) (h2 : count ≤ 1000000) (h3 : ((count : Nat) : Int) - 1000000000 ≤ i) (h4 : i ≤ 1000000000) (b : Nat) (Ac : Nat → Prop) (W : World) (hA : ∀ k, Ac k → k < W.heap.size) (hrow : W.heap[b]? = some (.cells [.int .i64 bits, .slice ga gn gc, .slice pa pn pc, .bool bad].toArray 134 (0, 0))) (hAb : Ac b) (hs : Rows Ac W ga gn gc part) (hp : Sl 32 dcells Ac W pa pn pc p) :
    Calls Pr 88 #[.pointer (some ⟨b, 0, none⟩), .int .i64 ((count : Nat) : Int), .int .i64 i] W (RB b 134 W fun v cs w => v = .agg (dcells (rootO bits part count i p).1).toArray ∧ ∃ a2 n2 c2, cs = [.int .i64 bits, .slice ga gn gc, .slice a2 n2 c2, .bool (bad || (rootO bits part count i p).2.2)] ∧ ∀ (A : Nat → Prop) (w : World), Sl 32 dcells A w pa pn pc p → Sl 32 dcells A w a2 n2 c2 (rootO bits part count i p).2.1) := by
  refine J.enterM (fn := Try.f88) (n := 85) (b := b) (T := 134) (cs := [.int .i64 bits, .slice ga gn gc, .slice pa pn pc, .bool bad]) (args := [.int .i64 ((count : Nat) : Int), .int .i64 i]) Try.func88 (by kernel_rfl) (by kernel_rfl) (by kernel_rfl) hA hrow hAb ?_
  have hlen := hs.len; have hle := hs.le; have hcap := hs.cap; have hpl := hp.len; have hpe := hp.le; have hpc := hp.cap; simp only [maxLen] at hcap hpc
  have hcb : ((count : Nat) : Int) - ((half count : Nat) : Int) = ((count - half count : Nat) : Int) ∨ ((half count : Nat) : Int) > ((count : Nat) : Int) := by omega
  have hik : ∀ k : Nat, k ≤ 1000000 → k ≤ count → IntKind.i64.wrap (i - ((k : Nat) : Int)) = i - ((k : Nat) : Int) := fun k hk h => wrap_i64 (by omega) (by omega)
  have hck : ∀ k : Nat, k ≤ count → IntKind.i64.wrap (((count : Nat) : Int) - ((k : Nat) : Int)) = ((count - k : Nat) : Int) := fun k hk => by rw [wrap_i64 (by omega) (by omega)]; omega
  have hneg : i ≤ 0 → IntKind.i64.wrap (0 - i) = (((-i).toNat : Nat) : Int) := fun h => by rw [wrap_i64 (by omega) (by omega)]; omega
  refine J.rn [.n, .n] [0, 1, 2] [.c 0] [.o 1 0, .c 2] (by kernel_rfl) ?_
  refine J.new (T := 34) (cs := [.int .u8 0, .int .u8 0, .int .u8 0, .int .u8 0, .int .u8 0, .int .u8 0, .int .u8 0, .int .u8 0, .int .u8 0, .int .u8 0, .int .u8 0, .int .u8 0, .int .u8 0, .int .u8 0, .int .u8 0, .int .u8 0, .int .u8 0, .int .u8 0, .int .u8 0, .int .u8 0, .int .u8 0, .int .u8 0, .int .u8 0, .int .u8 0, .int .u8 0, .int .u8 0, .int .u8 0, .int .u8 0, .int .u8 0, .int .u8 0, .int .u8 0, .int .u8 0]) (d := 6) (K := .ptr) (by kernel_rfl) (fun b1 hb1 => ?_)
  refine J.run [.n, .n, .n, .n, .n, .u, .u, .u, .u, .u, .u, .u, .u, .u] [0, 1, 2, 6, 19] ⟨[(0, .loc 0 0), (1, .v (.int .i64 ((count : Nat) : Int))), (2, .v (.int .i64 i)), (6, .loc 1 0), (19, .v (.bool (decide ((IntKind.i64.wrap (i + ((gn : Nat) : Int))) ≤ 0))))], [⟨134, [.int .i64 bits, .slice ga gn gc, .slice pa pn pc, .bool bad]⟩, ⟨34, [.int .u8 0, .int .u8 0, .int .u8 0, .int .u8 0, .int .u8 0, .int .u8 0, .int .u8 0, .int .u8 0, .int .u8 0, .int .u8 0, .int .u8 0, .int .u8 0, .int .u8 0, .int .u8 0, .int .u8 0, .int .u8 0, .int .u8 0, .int .u8 0, .int .u8 0, .int .u8 0, .int .u8 0, .int .u8 0, .int .u8 0, .int .u8 0, .int .u8 0, .int .u8 0, .int .u8 0, .int .u8 0, .int .u8 0, .int .u8 0, .int .u8 0, .int .u8 0]⟩]⟩ [.o 1 1, .c 2] [.o 5 9, .c 6, .b 0, .c 31] (by kernel_rfl) ?_
  have hw1 : IntKind.i64.wrap (i + ((gn : Nat) : Int)) = (i + ((gn : Nat) : Int)) := by rw [wrap_i64 (by omega) (by omega)]
  rw [hw1]
  rcases Bool.eq_false_or_eq_true (decide ((i + ((gn : Nat) : Int)) ≤ 0)) with hc | hc
  · rw [hc]
    try simp only [nrm] at hc
    have hc1 := hc
    refine J.rn [.x, .x, .x, .u, .u, .n] [0, 1, 2, 6, 10] [.o 5 9, .c 6, .b 0, .c 31] [.c 6, .b 0, .c 31] (by kernel_rfl) ?_
    refine J.cond (b := true) (k' := 24) (by kernel_rfl) (fun _ => ?_) (fun hc => absurd hc (by decide))
    refine J.rn [.n, .n, .n, .u, .u, .u, .u, .u, .u, .n] [0, 6, 29] [.c 7, .b 0, .c 31] [.c 10, .c 17, .b 0, .c 31] (by kernel_rfl) ?_
    refine J.cond (b := (((pn : Nat) : Int) == 0)) (k' := 16) (by kernel_rfl) (fun hc => ?_) (fun hc => ?_)
    · try simp only [nrm] at hc
      have hc2 := hc
      refine J.run [.n, .n, .u, .u, .u, .u, .n, .n, .n, .u, .u, .n] [6] ⟨[(6, .loc 1 0)], [⟨134, [.int .i64 bits, .slice ga gn gc, .slice pa pn pc, .bool true]⟩, ⟨34, [.int .u8 0, .int .u8 0, .int .u8 0, .int .u8 0, .int .u8 0, .int .u8 0, .int .u8 0, .int .u8 0, .int .u8 0, .int .u8 0, .int .u8 0, .int .u8 0, .int .u8 0, .int .u8 0, .int .u8 0, .int .u8 0, .int .u8 0, .int .u8 0, .int .u8 0, .int .u8 0, .int .u8 0, .int .u8 0, .int .u8 0, .int .u8 0, .int .u8 0, .int .u8 0, .int .u8 0, .int .u8 0, .int .u8 0, .int .u8 0, .int .u8 0, .int .u8 0]⟩]⟩ [.c 11, .c 17, .b 0, .c 31] [.c 15, .c 17, .b 0, .c 31] (by kernel_rfl) ?_
      have hpn : p = [] := List.eq_nil_of_length_eq_zero (by omega)
      subst hpn
      refine J.ret (v := .agg [.int .u8 0, .int .u8 0, .int .u8 0, .int .u8 0, .int .u8 0, .int .u8 0, .int .u8 0, .int .u8 0, .int .u8 0, .int .u8 0, .int .u8 0, .int .u8 0, .int .u8 0, .int .u8 0, .int .u8 0, .int .u8 0, .int .u8 0, .int .u8 0, .int .u8 0, .int .u8 0, .int .u8 0, .int .u8 0, .int .u8 0, .int .u8 0, .int .u8 0, .int .u8 0, .int .u8 0, .int .u8 0, .int .u8 0, .int .u8 0, .int .u8 0, .int .u8 0].toArray) (by kernel_rfl) (by kernel_rfl) (fun w1 A1 m1 hac l1 => ⟨_, l1.row (i := 0) rfl, by rw [rootO_bad (by omega)]; exact ⟨rfl, _, _, _, by rw [Bool.or_true], fun A w h => h⟩⟩)
    · try simp only [nrm] at hc
      have hc2 := hc
      refine J.rn [.n, .n, .n, .u, .u, .u, .u] [0, 6, 37] [.c 16, .c 17, .b 0, .c 31] [.o 18 4, .c 19, .b 0, .c 31] (by kernel_rfl) ?_
      obtain ⟨p1, o1, rfl⟩ := hp.addr (by omega)
      refine J.idx (b := p1) (off := o1) (len := pn) (i := 0) (sz := 32) (d := 38) (by kernel_rfl) (by omega) (by omega) ?_
      obtain ⟨x1, hx1⟩ : ∃ zq, (p)[0]? = some zq := ⟨_, List.getElem?_eq_getElem (by omega)⟩
      refine J.ld (T := 34) (b := p1) (off := o1 + 0 * 32) (d := 39) (v := .agg (dcells x1).toArray) (by kernel_rfl) (fun w1 A1 m1 l1 => (hp.mv m1).ld (by kernel_rfl) hx1 (by kernel_rfl)) ?_
      refine J.new (T := 34) (cs := [.int .u8 0, .int .u8 0, .int .u8 0, .int .u8 0, .int .u8 0, .int .u8 0, .int .u8 0, .int .u8 0, .int .u8 0, .int .u8 0, .int .u8 0, .int .u8 0, .int .u8 0, .int .u8 0, .int .u8 0, .int .u8 0, .int .u8 0, .int .u8 0, .int .u8 0, .int .u8 0, .int .u8 0, .int .u8 0, .int .u8 0, .int .u8 0, .int .u8 0, .int .u8 0, .int .u8 0, .int .u8 0, .int .u8 0, .int .u8 0, .int .u8 0, .int .u8 0]) (d := 7) (K := .ptr) (by kernel_rfl) (fun b2 hb2 => ?_)
      refine J.rn [.u, .n, .n, .n, .u, .u, .u, .u, .u] [6, 7, 40, 44] [.o 18 7, .c 19, .b 0, .c 31] [.o 20 5, .c 21, .b 0, .c 31] (by kernel_rfl) ?_
      refine J.sl (a := (some ⟨p1, o1, none⟩)) (len := pn) (cap := pc) (sz := 32) (lo := (some 1)) (hi := none) (mx := none) (d := 45) (by kernel_rfl) 1 pn pc (by simp) (by simp) (by simp) (by have := hp.le; omega) (by have := hp.le; omega) (by have := hp.le; omega) (by simp) ?_
      intro a1 ha1 hb1
      have hp1 := hp.from (L := 1) (by have := hp.le; omega) ha1
      refine J.run [.u, .u, .u, .n, .n, .n, .u, .u, .n] [6] ⟨[(6, .loc 1 0)], [⟨134, [.int .i64 bits, .slice ga gn gc, .slice a1 (pn - 1) (pc - 1), .bool bad]⟩, ⟨34, dcells x1⟩, ⟨34, dcells x1⟩]⟩ [.o 20 6, .c 21, .b 0, .c 31] [.c 23, .b 0, .c 31] (by kernel_rfl) ?_
      refine J.ret (v := .agg (dcells x1).toArray) (by kernel_rfl) (by kernel_rfl) (fun w1 A1 m1 hac l1 => ⟨_, l1.row (i := 0) rfl, by rw [rootO_take (by omega) hx1]; exact ⟨rfl, _, _, _, by rw [Bool.or_false], fun A w h => h.from (L := 1) (by omega) ha1⟩⟩)
  · rw [hc]
    try simp only [nrm] at hc
    have hc1 := hc
    refine J.rn [.w, .w, .w, .u, .u, .n] [0, 1, 2, 6, 10] [.o 5 9, .c 6, .b 0, .c 31] [.c 6, .b 0, .c 31] (by kernel_rfl) ?_
    refine J.cond (b := (decide (i ≥ ((count : Nat) : Int)))) (k' := 24) (by kernel_rfl) (fun hc => ?_) (fun hc => ?_)
    · try simp only [nrm] at hc
      have hc3 := hc
      refine J.rn [.n, .n, .n, .u, .u, .u, .u, .u, .u, .n] [0, 6, 29] [.c 7, .b 0, .c 31] [.c 10, .c 17, .b 0, .c 31] (by kernel_rfl) ?_
      refine J.cond (b := (((pn : Nat) : Int) == 0)) (k' := 16) (by kernel_rfl) (fun hc => ?_) (fun hc => ?_)
      · try simp only [nrm] at hc
        have hc4 := hc
        refine J.run [.n, .n, .u, .u, .u, .u, .n, .n, .n, .u, .u, .n] [6] ⟨[(6, .loc 1 0)], [⟨134, [.int .i64 bits, .slice ga gn gc, .slice pa pn pc, .bool true]⟩, ⟨34, [.int .u8 0, .int .u8 0, .int .u8 0, .int .u8 0, .int .u8 0, .int .u8 0, .int .u8 0, .int .u8 0, .int .u8 0, .int .u8 0, .int .u8 0, .int .u8 0, .int .u8 0, .int .u8 0, .int .u8 0, .int .u8 0, .int .u8 0, .int .u8 0, .int .u8 0, .int .u8 0, .int .u8 0, .int .u8 0, .int .u8 0, .int .u8 0, .int .u8 0, .int .u8 0, .int .u8 0, .int .u8 0, .int .u8 0, .int .u8 0, .int .u8 0, .int .u8 0]⟩]⟩ [.c 11, .c 17, .b 0, .c 31] [.c 15, .c 17, .b 0, .c 31] (by kernel_rfl) ?_
        have hpn : p = [] := List.eq_nil_of_length_eq_zero (by omega)
        subst hpn
        refine J.ret (v := .agg [.int .u8 0, .int .u8 0, .int .u8 0, .int .u8 0, .int .u8 0, .int .u8 0, .int .u8 0, .int .u8 0, .int .u8 0, .int .u8 0, .int .u8 0, .int .u8 0, .int .u8 0, .int .u8 0, .int .u8 0, .int .u8 0, .int .u8 0, .int .u8 0, .int .u8 0, .int .u8 0, .int .u8 0, .int .u8 0, .int .u8 0, .int .u8 0, .int .u8 0, .int .u8 0, .int .u8 0, .int .u8 0, .int .u8 0, .int .u8 0, .int .u8 0, .int .u8 0].toArray) (by kernel_rfl) (by kernel_rfl) (fun w1 A1 m1 hac l1 => ⟨_, l1.row (i := 0) rfl, by rw [rootO_bad (by omega)]; exact ⟨rfl, _, _, _, by rw [Bool.or_true], fun A w h => h⟩⟩)
      · try simp only [nrm] at hc
        have hc4 := hc
        refine J.rn [.n, .n, .n, .u, .u, .u, .u] [0, 6, 37] [.c 16, .c 17, .b 0, .c 31] [.o 18 4, .c 19, .b 0, .c 31] (by kernel_rfl) ?_
        obtain ⟨p2, o2, rfl⟩ := hp.addr (by omega)
        refine J.idx (b := p2) (off := o2) (len := pn) (i := 0) (sz := 32) (d := 38) (by kernel_rfl) (by omega) (by omega) ?_
        obtain ⟨x2, hx2⟩ : ∃ zq, (p)[0]? = some zq := ⟨_, List.getElem?_eq_getElem (by omega)⟩
        refine J.ld (T := 34) (b := p2) (off := o2 + 0 * 32) (d := 39) (v := .agg (dcells x2).toArray) (by kernel_rfl) (fun w1 A1 m1 l1 => (hp.mv m1).ld (by kernel_rfl) hx2 (by kernel_rfl)) ?_
        refine J.new (T := 34) (cs := [.int .u8 0, .int .u8 0, .int .u8 0, .int .u8 0, .int .u8 0, .int .u8 0, .int .u8 0, .int .u8 0, .int .u8 0, .int .u8 0, .int .u8 0, .int .u8 0, .int .u8 0, .int .u8 0, .int .u8 0, .int .u8 0, .int .u8 0, .int .u8 0, .int .u8 0, .int .u8 0, .int .u8 0, .int .u8 0, .int .u8 0, .int .u8 0, .int .u8 0, .int .u8 0, .int .u8 0, .int .u8 0, .int .u8 0, .int .u8 0, .int .u8 0, .int .u8 0]) (d := 7) (K := .ptr) (by kernel_rfl) (fun b3 hb3 => ?_)
        refine J.rn [.u, .n, .n, .n, .u, .u, .u, .u, .u] [6, 7, 40, 44] [.o 18 7, .c 19, .b 0, .c 31] [.o 20 5, .c 21, .b 0, .c 31] (by kernel_rfl) ?_
        refine J.sl (a := (some ⟨p2, o2, none⟩)) (len := pn) (cap := pc) (sz := 32) (lo := (some 1)) (hi := none) (mx := none) (d := 45) (by kernel_rfl) 1 pn pc (by simp) (by simp) (by simp) (by have := hp.le; omega) (by have := hp.le; omega) (by have := hp.le; omega) (by simp) ?_
        intro a2 ha2 hb2
        have hp2 := hp.from (L := 1) (by have := hp.le; omega) ha2
        refine J.run [.u, .u, .u, .n, .n, .n, .u, .u, .n] [6] ⟨[(6, .loc 1 0)], [⟨134, [.int .i64 bits, .slice ga gn gc, .slice a2 (pn - 1) (pc - 1), .bool bad]⟩, ⟨34, dcells x2⟩, ⟨34, dcells x2⟩]⟩ [.o 20 6, .c 21, .b 0, .c 31] [.c 23, .b 0, .c 31] (by kernel_rfl) ?_
        refine J.ret (v := .agg (dcells x2).toArray) (by kernel_rfl) (by kernel_rfl) (fun w1 A1 m1 hac l1 => ⟨_, l1.row (i := 0) rfl, by rw [rootO_take (by omega) hx2]; exact ⟨rfl, _, _, _, by rw [Bool.or_false], fun A w h => h.from (L := 1) (by omega) ha2⟩⟩)
    · try simp only [nrm] at hc
      have hc3 := hc
      refine J.rn [.n, .n, .u, .u, .u, .n] [0, 1, 2, 6, 49] [.c 24, .b 0, .c 31] [.c 26, .b 0, .c 31] (by kernel_rfl) ?_
      refine J.cond (b := (((count : Nat) : Int) == 1)) (k' := 30) (by kernel_rfl) (fun hc => ?_) (fun hc => ?_)
      · try simp only [nrm] at hc
        have hc5 := hc
        refine J.run [.n] [0, 2, 6] ⟨[(0, .loc 0 0), (2, .v (.int .i64 i)), (6, .loc 1 0)], [⟨134, [.int .i64 bits, .slice ga gn gc, .slice pa pn pc, .bool bad]⟩, ⟨34, [.int .u8 0, .int .u8 0, .int .u8 0, .int .u8 0, .int .u8 0, .int .u8 0, .int .u8 0, .int .u8 0, .int .u8 0, .int .u8 0, .int .u8 0, .int .u8 0, .int .u8 0, .int .u8 0, .int .u8 0, .int .u8 0, .int .u8 0, .int .u8 0, .int .u8 0, .int .u8 0, .int .u8 0, .int .u8 0, .int .u8 0, .int .u8 0, .int .u8 0, .int .u8 0, .int .u8 0, .int .u8 0, .int .u8 0, .int .u8 0, .int .u8 0, .int .u8 0]⟩]⟩ [.c 27, .b 0, .c 31] [.c 28, .c 29, .b 0, .c 31] (by kernel_rfl) ?_
        refine J.draw [1] nobody (by kernel_rfl) (by kernel_rfl) (fun _ h => h.elim) (fun w1 A1 m1 hr1 hX1 => ?_)
        replace hs := hs.mv m1; replace hp := hp.mv m1
        refine J.take0 [(0, .u), (1, .u), (2, .u), (3, .u), (4, .u), (5, .u), (6, .u), (7, .u), (8, .u), (9, .u)] [6, 55, 59, 61] [(6, .loc 1 0), (55, .v (.agg [.int .i64 bits].toArray)), (59, .v (.slice ga gn gc)), (61, .v (.int .i64 (IntKind.i64.wrap (0 - i))))] [9, 8, 7, 6, 5, 4, 3, 2, 1, 0] (calm_body _ _ _) (by intro k _ h; exact h) hr1 (by kernel_rfl) ?_
        rw [hneg (by omega)]
        obtain ⟨p3, o3, rfl⟩ := hs.addr (by omega)
        refine J.idxp (j := 10) (b := p3) (off := o3) (len := gn) (i := (((-i).toNat : Nat) : Int)) (sz := 1) (d := 62) (calm_body _ _ _) (by kernel_rfl) (by kernel_rfl) (by omega) (by omega) ?_
        obtain ⟨x3, hx3⟩ : ∃ zq, (part)[(-i).toNat]? = some zq := ⟨_, List.getElem?_eq_getElem (by omega)⟩
        obtain ⟨ra1, rn1, rc1, hrow1, hld1⟩ := hs.row hx3
        have hshhrow1 := (Short.at (by assumption) hx3 : x3.length ≤ 1000000); have hllhrow1 := hrow1.len
        refine J.ldp (i := 11) (T := 23) (b := p3) (off := o3 + ((-i).toNat) * 1) (d := 63) (v := .slice ra1 rn1 rc1) (calm_body _ _ _) (by kernel_rfl) (by kernel_rfl) hX1 (fun w1 m1 => hld1 _ _ _ m1 _ _ (by kernel_rfl)) ?_
        refine J.pick1 12 (by kernel_rfl) (by kernel_rfl) ?_
        refine J.callq (d := some 64) (by kernel_rfl) (fun w1 A1 m1 l1 => leaf_calls bits ra1 rn1 rc1 x3 (by omega) nobody w1 noA (hrow1.mv m1).any) ?_
        rintro _ u1 w2 A2 rfl g1
        have m2 := g1.mv
        replace hs := hs.mv m2; replace hp := hp.mv m2; replace hrow1 := hrow1.mv m2
        refine J.pick1 13 (by kernel_rfl) (by kernel_rfl) ?_
        refine J.storeq (i := 1) (m' := [⟨134, [.int .i64 bits, .slice (some ⟨p3, o3, none⟩) gn gc, .slice pa pn pc, .bool bad]⟩, ⟨34, dcells (leafF bits x3)⟩]) (by kernel_rfl) (by simp) rfl (by simp) ?_
        refine J.pdone (by kernel_rfl) ?_
        refine J.ret (v := .agg (dcells (leafF bits x3)).toArray) (by kernel_rfl) (by kernel_rfl) (fun w1 A1 m1 hac l1 => ⟨_, l1.row (i := 0) rfl, by rw [rootO_one (by omega) (by omega)]; exact ⟨by simp [List.getD, hx3], _, _, _, by rw [Bool.or_false], fun A w h => h⟩⟩)
      · try simp only [nrm] at hc
        have hc5 := hc
        refine J.rn [.n, .n, .n, .n, .u] [0, 1, 2, 6, 65] [.c 30, .b 0, .c 31] [.o 32 1, .c 33] (by kernel_rfl) ?_
        have hhh1 := half_lt2 count
        refine J.call (d := some 66) (by kernel_rfl) (fun w1 A1 m1 l1 => tree_half count (by omega) (by simp only [maxLen]; omega) nobody w1 noA) ?_
        rintro _ u2 w3 A3 rfl g2
        have m3 := g2.mv
        replace hs := hs.mv m3; replace hp := hp.mv m3
        refine J.run [.u, .n, .n, .n, .u, .u, .u] [0, 1, 2, 6, 8, 67, 68, 69] ⟨[(0, .loc 0 0), (1, .v (.int .i64 ((count : Nat) : Int))), (2, .v (.int .i64 i)), (6, .loc 1 0), (8, .v (.int .i64 ((half count : Nat) : Int))), (67, .loc 0 0), (68, .v (.int .i64 ((half count : Nat) : Int))), (69, .v (.int .i64 i))], [⟨134, [.int .i64 bits, .slice ga gn gc, .slice pa pn pc, .bool bad]⟩, ⟨34, [.int .u8 0, .int .u8 0, .int .u8 0, .int .u8 0, .int .u8 0, .int .u8 0, .int .u8 0, .int .u8 0, .int .u8 0, .int .u8 0, .int .u8 0, .int .u8 0, .int .u8 0, .int .u8 0, .int .u8 0, .int .u8 0, .int .u8 0, .int .u8 0, .int .u8 0, .int .u8 0, .int .u8 0, .int .u8 0, .int .u8 0, .int .u8 0, .int .u8 0, .int .u8 0, .int .u8 0, .int .u8 0, .int .u8 0, .int .u8 0, .int .u8 0, .int .u8 0]⟩]⟩ [.o 32 2, .c 33] [.o 34 3, .c 35] (by kernel_rfl) ?_
        refine J.callM (d := some 70) 0 rfl rfl (by kernel_rfl) (fun w1 A1 m1 l1 a1 => ih pa pn pc p bad (half count) i (by omega) (by omega) (by omega) (by omega) (by omega) b (fun k => k = b) w1 (oneA (m1.bdd _ a1)) (l1.row (i := 0) rfl) rfl ((hs.mv m1).one a1) ((hp.mv m1).one a1)) ?_
        rintro _ _ u3 w4 A4 ⟨rfl, pa1, pn1, pc1, rfl, hsl1⟩ g3
        have m4 := g3.mv
        replace hs := hs.mv m4; replace hp := hp.mv m4
        have hp3 := hsl1 _ _ hp
        refine J.new (T := 34) (cs := [.int .u8 0, .int .u8 0, .int .u8 0, .int .u8 0, .int .u8 0, .int .u8 0, .int .u8 0, .int .u8 0, .int .u8 0, .int .u8 0, .int .u8 0, .int .u8 0, .int .u8 0, .int .u8 0, .int .u8 0, .int .u8 0, .int .u8 0, .int .u8 0, .int .u8 0, .int .u8 0, .int .u8 0, .int .u8 0, .int .u8 0, .int .u8 0, .int .u8 0, .int .u8 0, .int .u8 0, .int .u8 0, .int .u8 0, .int .u8 0, .int .u8 0, .int .u8 0]) (d := 9) (K := .ptr) (by kernel_rfl) (fun b4 hb4 => ?_)
        refine J.run [.u, .n, .n] [0, 1, 2, 6, 8, 9] ⟨[(0, .loc 0 0), (1, .v (.int .i64 ((count : Nat) : Int))), (2, .v (.int .i64 i)), (6, .loc 1 0), (8, .v (.int .i64 ((half count : Nat) : Int))), (9, .loc 2 0)], [⟨134, [.int .i64 bits, .slice ga gn gc, .slice pa1 pn1 pc1, .bool (bad || (rootO bits part (half count) i p).2.2)]⟩, ⟨34, [.int .u8 0, .int .u8 0, .int .u8 0, .int .u8 0, .int .u8 0, .int .u8 0, .int .u8 0, .int .u8 0, .int .u8 0, .int .u8 0, .int .u8 0, .int .u8 0, .int .u8 0, .int .u8 0, .int .u8 0, .int .u8 0, .int .u8 0, .int .u8 0, .int .u8 0, .int .u8 0, .int .u8 0, .int .u8 0, .int .u8 0, .int .u8 0, .int .u8 0, .int .u8 0, .int .u8 0, .int .u8 0, .int .u8 0, .int .u8 0, .int .u8 0, .int .u8 0]⟩, ⟨34, dcells (rootO bits part (half count) i p).1⟩]⟩ [.o 34 5, .c 35] [.c 36, .c 37] (by kernel_rfl) ?_
        refine J.draw [0, 1] nobody (by kernel_rfl) (by kernel_rfl) (fun _ h => h.elim) (fun w5 A5 m5 hr2 hX2 => ?_)
        replace hs := hs.mv m5; replace hp := hp.mv m5; replace hp3 := hp3.mv m5
        refine J.take0 [(0, .u), (1, .u), (2, .u), (4, .u), (5, .u), (6, .u), (7, .u), (8, .u), (9, .u), (10, .u), (11, .u)] [6, 73, 75, 76, 79, 82] [(6, .loc 1 0), (73, .loc 0 0), (75, .v (.agg (dcells (rootO bits part (half count) i p).1).toArray)), (76, .loc 0 0), (79, .v (.int .i64 (IntKind.i64.wrap (((count : Nat) : Int) - ((half count : Nat) : Int))))), (82, .v (.int .i64 (IntKind.i64.wrap (i - ((half count : Nat) : Int)))))] [11, 10, 9, 8, 7, 6, 5, 4, 2, 1, 0] (calm_body _ _ _) (by intro k _ h; exact h) hr2 (by kernel_rfl) ?_
        rw [hik (half count) (by omega) (by omega)]
        rw [hck (half count) (by omega)]
        refine J.pick [3, 12] (by kernel_rfl) (by kernel_rfl) (by simp) (fun i hi => ?_)
        simp only [List.mem_cons, List.not_mem_nil, or_false] at hi
        rcases hi with rfl | rfl
        · skip
          refine J.ldq (T := 32) (b := b) (off := 0) (d := 74) (v := .agg [.int .i64 bits].toArray) (by kernel_rfl) (fun w1 A1 m1 l1 => l1.ldp (i := 0) (off := 0) (k := 1) rfl (by kernel_rfl) (by kernel_rfl) (by kernel_rfl) rfl) ?_
          refine J.pick1 12 (by kernel_rfl) (by kernel_rfl) ?_
          refine J.callMq (d := some 83) 0 rfl rfl (by kernel_rfl) (.inl (.inr ⟨0, by simp, by simp, rfl⟩)) (fun w1 A1 m1 l1 a1 => ih pa1 pn1 pc1 ((rootO bits part (half count) i p).2.1) (bad || (rootO bits part (half count) i p).2.2) (count - half count) (i - ((half count : Nat) : Int)) (by omega) (by omega) (by omega) (by omega) (by omega) b (fun k => k = b) w1 (oneA (m1.bdd _ a1)) (l1.row (i := 0) rfl) rfl ((hs.mv m1).one a1) ((hp3.mv m1).one a1)) ?_
          rintro _ _ u4 w6 A6 ⟨rfl, pa2, pn2, pc2, rfl, hsl2⟩ g4
          have m6 := g4.mv
          replace hs := hs.mv m6; replace hp := hp.mv m6; replace hp3 := hp3.mv m6
          have hp4 := hsl2 _ _ hp3
          refine J.pick1 13 (by kernel_rfl) (by kernel_rfl) ?_
          refine J.callq (d := some 84) (by kernel_rfl) (fun w1 A1 m1 l1 => node_calls bits ((rootO bits part (half count) i p).1) ((rootO bits part (count - half count) (i - ((half count : Nat) : Int)) ((rootO bits part (half count) i p).2.1)).1) nobody w1 noA) ?_
          rintro _ u5 w7 A7 rfl g5
          have m7 := g5.mv
          replace hs := hs.mv m7; replace hp := hp.mv m7; replace hp3 := hp3.mv m7; replace hp4 := hp4.mv m7
          refine J.pick1 14 (by kernel_rfl) (by kernel_rfl) ?_
          refine J.storeq (i := 1) (m' := [⟨134, [.int .i64 bits, .slice ga gn gc, .slice pa2 pn2 pc2, .bool ((bad || (rootO bits part (half count) i p).2.2) || (rootO bits part (count - half count) (i - ((half count : Nat) : Int)) ((rootO bits part (half count) i p).2.1)).2.2)]⟩, ⟨34, dcells (nodeF bits ((rootO bits part (half count) i p).1) ((rootO bits part (count - half count) (i - ((half count : Nat) : Int)) ((rootO bits part (half count) i p).2.1)).1))⟩, ⟨34, dcells (rootO bits part (half count) i p).1⟩]) (by kernel_rfl) (by simp) rfl (by simp) ?_
          refine J.pdone (by kernel_rfl) ?_
          refine J.ret (v := .agg (dcells (nodeF bits ((rootO bits part (half count) i p).1) ((rootO bits part (count - half count) (i - ((half count : Nat) : Int)) ((rootO bits part (half count) i p).2.1)).1))).toArray) (by kernel_rfl) (by kernel_rfl) (fun w1 A1 m1 hac l1 => ⟨_, l1.row (i := 0) rfl, by rw [rootO_two (by omega) (by omega)]; exact ⟨rfl, _, _, _, by rw [← Bool.or_assoc], fun A w h => hsl2 _ _ (hsl1 _ _ h)⟩⟩)
        · skip
          refine J.callMq (d := some 83) 0 rfl rfl (by kernel_rfl) (.inl (.inr ⟨0, by simp, by simp, rfl⟩)) (fun w1 A1 m1 l1 a1 => ih pa1 pn1 pc1 ((rootO bits part (half count) i p).2.1) (bad || (rootO bits part (half count) i p).2.2) (count - half count) (i - ((half count : Nat) : Int)) (by omega) (by omega) (by omega) (by omega) (by omega) b (fun k => k = b) w1 (oneA (m1.bdd _ a1)) (l1.row (i := 0) rfl) rfl ((hs.mv m1).one a1) ((hp3.mv m1).one a1)) ?_
          rintro _ _ u6 w8 A8 ⟨rfl, pa3, pn3, pc3, rfl, hsl3⟩ g6
          have m8 := g6.mv
          replace hs := hs.mv m8; replace hp := hp.mv m8; replace hp3 := hp3.mv m8
          have hp5 := hsl3 _ _ hp3
          refine J.pick1 3 (by kernel_rfl) (by kernel_rfl) ?_
          refine J.ldq (T := 32) (b := b) (off := 0) (d := 74) (v := .agg [.int .i64 bits].toArray) (by kernel_rfl) (fun w1 A1 m1 l1 => l1.ldp (i := 0) (off := 0) (k := 1) rfl (by kernel_rfl) (by kernel_rfl) (by kernel_rfl) rfl) ?_
          refine J.pick1 13 (by kernel_rfl) (by kernel_rfl) ?_
          refine J.callq (d := some 84) (by kernel_rfl) (fun w1 A1 m1 l1 => node_calls bits ((rootO bits part (half count) i p).1) ((rootO bits part (count - half count) (i - ((half count : Nat) : Int)) ((rootO bits part (half count) i p).2.1)).1) nobody w1 noA) ?_
          rintro _ u7 w9 A9 rfl g7
          have m9 := g7.mv
          replace hs := hs.mv m9; replace hp := hp.mv m9; replace hp3 := hp3.mv m9; replace hp5 := hp5.mv m9
          refine J.pick1 14 (by kernel_rfl) (by kernel_rfl) ?_
          refine J.storeq (i := 1) (m' := [⟨134, [.int .i64 bits, .slice ga gn gc, .slice pa3 pn3 pc3, .bool ((bad || (rootO bits part (half count) i p).2.2) || (rootO bits part (count - half count) (i - ((half count : Nat) : Int)) ((rootO bits part (half count) i p).2.1)).2.2)]⟩, ⟨34, dcells (nodeF bits ((rootO bits part (half count) i p).1) ((rootO bits part (count - half count) (i - ((half count : Nat) : Int)) ((rootO bits part (half count) i p).2.1)).1))⟩, ⟨34, dcells (rootO bits part (half count) i p).1⟩]) (by kernel_rfl) (by simp) rfl (by simp) ?_
          refine J.pdone (by kernel_rfl) ?_
          refine J.ret (v := .agg (dcells (nodeF bits ((rootO bits part (half count) i p).1) ((rootO bits part (count - half count) (i - ((half count : Nat) : Int)) ((rootO bits part (half count) i p).2.1)).1))).toArray) (by kernel_rfl) (by kernel_rfl) (fun w1 A1 m1 hac l1 => ⟨_, l1.row (i := 0) rfl, by rw [rootO_two (by omega) (by omega)]; exact ⟨rfl, _, _, _, by rw [← Bool.or_assoc], fun A w h => hsl3 _ _ (hsl1 _ _ h)⟩⟩)
theorem rootO_calls (bits : Int) (ga : Option Addr) (gn gc : Nat) (part : List (List UInt8)) (hsh : Short part) (hgn : part.length ≤ 1000000) : ∀ (N : Nat), ∀ (pa : Option Addr) (pn pc : Nat) (p2 : List Dg) (bad : Bool) (k2 : Nat) (i2 : Int), k2 < N → 1 ≤ k2 → k2 ≤ 1000000 → ((k2 : Nat) : Int) - 1000000000 ≤ i2 → i2 ≤ 1000000000 → ∀ (b : Nat) (Ac : Nat → Prop) (W : World), (∀ k, Ac k → k < W.heap.size) → W.heap[b]? = some (.cells [.int .i64 bits, .slice ga gn gc, .slice pa pn pc, .bool bad].toArray 134 (0, 0)) → Ac b → Rows Ac W ga gn gc part → Sl 32 dcells Ac W pa pn pc p2 → Calls Pr 88 #[.pointer (some ⟨b, 0, none⟩), .int .i64 ((k2 : Nat) : Int), .int .i64 i2] W (RB b 134 W fun v cs w => v = .agg (dcells (rootO bits part k2 i2 p2).1).toArray ∧ ∃ a2 n2 c2, cs = [.int .i64 bits, .slice ga gn gc, .slice a2 n2 c2, .bool (bad || (rootO bits part k2 i2 p2).2.2)] ∧ ∀ (A : Nat → Prop) (w : World), Sl 32 dcells A w pa pn pc p2 → Sl 32 dcells A w a2 n2 c2 (rootO bits part k2 i2 p2).2.1)
  | 0, _, _, _, _, _, _, _, h, _, _, _, _, _, _, _, _, _, _, _, _ => absurd h (Nat.not_lt_zero _)
  | N + 1, pa, pn, pc, p, bad, k, i, h, h1, h2, h3, h4, b, Ac, W, hA, hrow, hAb, hs, hp => rootO_step bits ga gn gc part hsh hgn pa pn pc p bad k i (fun pa pn pc p bad k2 i2 hl => rootO_calls bits ga gn gc part hsh hgn N pa pn pc p bad k2 i2 (by omega)) h1 h2 h3 h4 b Ac W hA hrow hAb hs hp
theorem checkR_calls (bits : Int) (root : Dg) (count : Nat) (i : Int) (ga : Option Addr) (gn gc : Nat) (part : List (List UInt8)) (pa : Option Addr) (pn pc : Nat) (p : List Dg) (hsh : Short part) (hgn : part.length ≤ 1000000) (hc : count ≤ 1000000) (Ac : Nat → Prop) (W : World) (hA : ∀ k, Ac k → k < W.heap.size) (hs : Rows Ac W ga gn gc part) (hp : Sl 32 dcells Ac W pa pn pc p) :
    Calls Pr 58 #[.agg [.int .i64 bits].toArray, .agg (dcells root).toArray, .int .i64 ((count : Nat) : Int), .int .i64 i, .slice ga gn gc, .slice pa pn pc] W (Ret nobody W fun v w => v = .bool (checkR bits root count i part p)) := by
  refine J.enter (fn := Try.f58) (n := 63) Try.func58 (by kernel_rfl) (by kernel_rfl) (by kernel_rfl) hA ?_
  have hlen := hs.len; have hle := hs.le; have hcap := hs.cap; have hpl := hp.len; have hpe := hp.le; have hpc := hp.cap; simp only [maxLen] at hcap hpc
  refine J.rn [.n, .n] [0, 1, 2, 3, 4, 5] [.c 0] [.o 1 0, .c 2] (by kernel_rfl) ?_
  refine J.new (T := 32) (cs := [.int .i64 bits]) (d := 6) (K := .ptr) (by kernel_rfl) (fun b1 hb1 => ?_)
  refine J.new (T := 34) (cs := dcells root) (d := 7) (K := .ptr) (by kernel_rfl) (fun b2 hb2 => ?_)
  refine J.run [.u, .n, .n, .n, .n, .u, .u, .u, .u] [2, 3, 4, 5, 6, 7, 18] ⟨[(2, .v (.int .i64 ((count : Nat) : Int))), (3, .v (.int .i64 i)), (4, .v (.slice ga gn gc)), (5, .v (.slice pa pn pc)), (6, .loc 0 0), (7, .loc 1 0), (18, .v (.bool (((gn : Nat) : Int) == 0)))], [⟨32, [.int .i64 bits]⟩, ⟨34, dcells root⟩]⟩ [.o 1 2, .c 2] [.o 4 4, .c 5, .c 10] (by kernel_rfl) ?_
  rcases Bool.eq_false_or_eq_true (((gn : Nat) : Int) == 0) with hc | hc
  · rw [hc]
    try simp only [nrm] at hc
    have hc1 := hc
    refine J.rn [.x, .x, .u, .u, .x, .x, .x, .x, .u, .u, .x, .x, .x, .x, .x, .x, .u, .n] [2, 3, 4, 5, 6, 7, 35] [.o 4 4, .c 5, .c 10] [.c 5, .c 10] (by kernel_rfl) ?_
    refine J.cond (b := true) (k' := 9) (by kernel_rfl) (fun _ => ?_) (fun hc => absurd hc (by decide))
    refine J.rn [.n, .n, .u, .n] [12] [.c 6, .c 10] [.c 8, .c 10] (by kernel_rfl) ?_
    have hcs : count - gn = count - part.length := by rw [hlen]
    refine J.ret (v := .bool false) (by kernel_rfl) (by kernel_rfl) (fun w1 A1 m1 hac l1 => by unfold checkR; rw [decide_eq_false (p := 0 < part.length ∧ 0 ≤ i ∧ part.length ≤ count ∧ i ≤ ((count - part.length : Nat) : Int)) (by rintro ⟨q1, q2, q3, q4⟩; omega)]; simp_all)
  · rw [hc]
    try simp only [nrm] at hc
    have hc1 := hc
    refine J.run [.w, .w, .u, .u] [2, 3, 4, 5, 6, 7, 22] ⟨[(2, .v (.int .i64 ((count : Nat) : Int))), (3, .v (.int .i64 i)), (4, .v (.slice ga gn gc)), (5, .v (.slice pa pn pc)), (6, .loc 0 0), (7, .loc 1 0), (22, .v (.bool (decide (i < 0))))], [⟨32, [.int .i64 bits]⟩, ⟨34, dcells root⟩]⟩ [.o 4 4, .c 5, .c 10] [.o 4 8, .c 5, .c 10] (by kernel_rfl) ?_
    rcases Bool.eq_false_or_eq_true (decide (i < 0)) with hc | hc
    · rw [hc]
      try simp only [nrm] at hc
      have hc2 := hc
      refine J.rn [.x, .x, .x, .x, .u, .u, .x, .x, .x, .x, .x, .x, .u, .n] [2, 3, 4, 5, 6, 7, 35] [.o 4 8, .c 5, .c 10] [.c 5, .c 10] (by kernel_rfl) ?_
      refine J.cond (b := true) (k' := 9) (by kernel_rfl) (fun _ => ?_) (fun hc => absurd hc (by decide))
      refine J.rn [.n, .n, .u, .n] [12] [.c 6, .c 10] [.c 8, .c 10] (by kernel_rfl) ?_
      have hcs : count - gn = count - part.length := by rw [hlen]
      refine J.ret (v := .bool false) (by kernel_rfl) (by kernel_rfl) (fun w1 A1 m1 hac l1 => by unfold checkR; rw [decide_eq_false (p := 0 < part.length ∧ 0 ≤ i ∧ part.length ≤ count ∧ i ≤ ((count - part.length : Nat) : Int)) (by rintro ⟨q1, q2, q3, q4⟩; omega)]; simp_all)
    · rw [hc]
      try simp only [nrm] at hc
      have hc2 := hc
      refine J.run [.w, .w, .w, .w, .u, .u] [2, 3, 4, 5, 6, 7, 28] ⟨[(2, .v (.int .i64 ((count : Nat) : Int))), (3, .v (.int .i64 i)), (4, .v (.slice ga gn gc)), (5, .v (.slice pa pn pc)), (6, .loc 0 0), (7, .loc 1 0), (28, .v (.bool (decide (((count : Nat) : Int) < ((gn : Nat) : Int)))))], [⟨32, [.int .i64 bits]⟩, ⟨34, dcells root⟩]⟩ [.o 4 8, .c 5, .c 10] [.o 4 14, .c 5, .c 10] (by kernel_rfl) ?_
      rcases Bool.eq_false_or_eq_true (decide (((count : Nat) : Int) < ((gn : Nat) : Int))) with hc | hc
      · rw [hc]
        try simp only [nrm] at hc
        have hc3 := hc
        refine J.rn [.x, .x, .x, .x, .x, .x, .u, .n] [2, 3, 4, 5, 6, 7, 35] [.o 4 14, .c 5, .c 10] [.c 5, .c 10] (by kernel_rfl) ?_
        refine J.cond (b := true) (k' := 9) (by kernel_rfl) (fun _ => ?_) (fun hc => absurd hc (by decide))
        refine J.rn [.n, .n, .u, .n] [12] [.c 6, .c 10] [.c 8, .c 10] (by kernel_rfl) ?_
        have hcs : count - gn = count - part.length := by rw [hlen]
        refine J.ret (v := .bool false) (by kernel_rfl) (by kernel_rfl) (fun w1 A1 m1 hac l1 => by unfold checkR; rw [decide_eq_false (p := 0 < part.length ∧ 0 ≤ i ∧ part.length ≤ count ∧ i ≤ ((count - part.length : Nat) : Int)) (by rintro ⟨q1, q2, q3, q4⟩; omega)]; simp_all)
      · rw [hc]
        try simp only [nrm] at hc
        have hc3 := hc
        refine J.run [.w, .w, .w, .w, .w, .w, .u, .n] [2, 3, 4, 5, 6, 7, 35] ⟨[(2, .v (.int .i64 ((count : Nat) : Int))), (3, .v (.int .i64 i)), (4, .v (.slice ga gn gc)), (5, .v (.slice pa pn pc)), (6, .loc 0 0), (7, .loc 1 0), (35, .v (.bool (decide (i > (IntKind.i64.wrap (((count : Nat) : Int) - ((gn : Nat) : Int)))))))], [⟨32, [.int .i64 bits]⟩, ⟨34, dcells root⟩]⟩ [.o 4 14, .c 5, .c 10] [.c 5, .c 10] (by kernel_rfl) ?_
        rw [(show IntKind.i64.wrap (((count : Nat) : Int) - ((gn : Nat) : Int)) = ((count - gn : Nat) : Int) by rw [wrap_i64 (by omega) (by omega)]; omega)]
        refine J.cond (b := (decide (i > ((count - gn : Nat) : Int)))) (k' := 9) (by kernel_rfl) (fun hc => ?_) (fun hc => ?_)
        · try simp only [nrm] at hc
          have hc4 := hc
          refine J.rn [.n, .n, .u, .n] [12] [.c 6, .c 10] [.c 8, .c 10] (by kernel_rfl) ?_
          have hcs : count - gn = count - part.length := by rw [hlen]
          refine J.ret (v := .bool false) (by kernel_rfl) (by kernel_rfl) (fun w1 A1 m1 hac l1 => by unfold checkR; rw [decide_eq_false (p := 0 < part.length ∧ 0 ≤ i ∧ part.length ≤ count ∧ i ≤ ((count - part.length : Nat) : Int)) (by rintro ⟨q1, q2, q3, q4⟩; omega)]; simp_all)
        · try simp only [nrm] at hc
          have hc4 := hc
          refine J.rn [.n, .n, .n, .u, .u, .u, .u] [2, 3, 7, 39] [.c 9, .c 10] [.o 11 4, .c 12] (by kernel_rfl) ?_
          refine J.new (T := 134) (cs := [.int .i64 bits, .slice ga gn gc, .slice pa pn pc, .bool false]) (d := 40) (K := .ptr) (by kernel_rfl) (fun b3 hb3 => ?_)
          refine J.run [.u, .n, .n, .n, .u, .u, .u] [7, 13, 41, 42, 43] ⟨[(7, .loc 1 0), (13, .loc 2 0), (41, .loc 2 0), (42, .v (.int .i64 ((count : Nat) : Int))), (43, .v (.int .i64 i))], [⟨32, [.int .i64 bits]⟩, ⟨34, dcells root⟩, ⟨134, [.int .i64 bits, .slice ga gn gc, .slice pa pn pc, .bool false]⟩]⟩ [.o 11 5, .c 12] [.o 13 3, .c 14] (by kernel_rfl) ?_
          refine J.callM (d := some 44) 2 rfl rfl (by kernel_rfl) (fun w1 A1 m1 l1 a1 => rootO_calls bits ga gn gc part hsh hgn _ pa pn pc p false count i (Nat.lt_succ_self _) (by omega) (by omega) (by omega) (by omega) b3 (fun k => k = b3) w1 (oneA (m1.bdd _ a1)) (l1.row (i := 2) rfl) rfl ((hs.mv m1).one a1) ((hp.mv m1).one a1)) ?_
          rintro _ _ u1 w1 A1 ⟨rfl, pa1, pn1, pc1, rfl, hsl1⟩ g1
          have m1 := g1.mv
          replace hs := hs.mv m1; replace hp := hp.mv m1
          have hp1 := hsl1 _ _ hp; have hlhp1 := hp1.len
          refine J.new (T := 34) (cs := [.int .u8 0, .int .u8 0, .int .u8 0, .int .u8 0, .int .u8 0, .int .u8 0, .int .u8 0, .int .u8 0, .int .u8 0, .int .u8 0, .int .u8 0, .int .u8 0, .int .u8 0, .int .u8 0, .int .u8 0, .int .u8 0, .int .u8 0, .int .u8 0, .int .u8 0, .int .u8 0, .int .u8 0, .int .u8 0, .int .u8 0, .int .u8 0, .int .u8 0, .int .u8 0, .int .u8 0, .int .u8 0, .int .u8 0, .int .u8 0, .int .u8 0, .int .u8 0]) (d := 14) (K := .ptr) (by kernel_rfl) (fun b4 hb4 => ?_)
          refine J.run [.u, .n, .n, .n, .u, .u, .u, .u, .u, .u] [7, 13, 14, 50] ⟨[(7, .loc 1 0), (13, .loc 2 0), (14, .loc 3 0), (50, .v (.bool (!(false || (rootO bits part count i p).2.2))))], [⟨32, [.int .i64 bits]⟩, ⟨34, dcells root⟩, ⟨134, [.int .i64 bits, .slice ga gn gc, .slice pa1 pn1 pc1, .bool (false || (rootO bits part count i p).2.2)]⟩, ⟨34, dcells (rootO bits part count i p).1⟩]⟩ [.o 13 5, .c 14] [.o 15 6, .c 16] (by kernel_rfl) ?_
          rcases Bool.eq_false_or_eq_true (!(false || (rootO bits part count i p).2.2)) with hc | hc
          · rw [hc]
            try simp only [nrm] at hc
            have hc5 := hc
            refine J.run [.w, .w, .w, .w, .w, .w, .u, .u] [7, 14, 58] ⟨[(7, .loc 1 0), (14, .loc 3 0), (58, .v (.bool (((pn1 : Nat) : Int) == 0)))], [⟨32, [.int .i64 bits]⟩, ⟨34, dcells root⟩, ⟨134, [.int .i64 bits, .slice ga gn gc, .slice pa1 pn1 pc1, .bool (false || (rootO bits part count i p).2.2)]⟩, ⟨34, dcells (rootO bits part count i p).1⟩]⟩ [.o 15 6, .c 16] [.o 15 14, .c 16] (by kernel_rfl) ?_
            rcases Bool.eq_false_or_eq_true (((pn1 : Nat) : Int) == 0) with hc | hc
            · rw [hc]
              try simp only [nrm] at hc
              have hc6 := hc
              refine J.rn [.w, .w] [58, 59, 60] [.o 15 14, .c 16] [.o 15 16, .c 16] (by kernel_rfl) ?_
              refine J.eqA (neg := false) (T := 34) (d := 61) (b := dgEq ((rootO bits part count i p).1) root) (by kernel_rfl) dig_guard (dig_eq ((rootO bits part count i p).1) root) ?_
              refine J.rn [.u, .u, .n] [12] [.o 15 17, .c 16] [.c 16] (by kernel_rfl) ?_
              have hcs : count - gn = count - part.length := by rw [hlen]
              refine J.ret (v := .bool (dgEq ((rootO bits part count i p).1) root)) (by kernel_rfl) (by kernel_rfl) (fun w1 A1 m1 hac l1 => by unfold checkR; rw [decide_eq_true (p := 0 < part.length ∧ 0 ≤ i ∧ part.length ≤ count ∧ i ≤ ((count - part.length : Nat) : Int)) ⟨by omega, by omega, by omega, by omega⟩]; simp_all)
            · rw [hc]
              try simp only [nrm] at hc
              have hc6 := hc
              refine J.rn [.x, .x, .x, .u, .u, .n] [12] [.o 15 14, .c 16] [.c 16] (by kernel_rfl) ?_
              have hcs : count - gn = count - part.length := by rw [hlen]
              refine J.ret (v := .bool false) (by kernel_rfl) (by kernel_rfl) (fun w1 A1 m1 hac l1 => by unfold checkR; rw [decide_eq_true (p := 0 < part.length ∧ 0 ≤ i ∧ part.length ≤ count ∧ i ≤ ((count - part.length : Nat) : Int)) ⟨by omega, by omega, by omega, by omega⟩]; simp_all)
          · rw [hc]
            try simp only [nrm] at hc
            have hc5 := hc
            refine J.run [.x, .x, .x, .x, .x, .x, .u, .u, .x, .x, .x, .u, .u, .n] [12] ⟨[(12, .v (.bool false))], [⟨32, [.int .i64 bits]⟩, ⟨34, dcells root⟩, ⟨134, [.int .i64 bits, .slice ga gn gc, .slice pa1 pn1 pc1, .bool (false || (rootO bits part count i p).2.2)]⟩, ⟨34, dcells (rootO bits part count i p).1⟩]⟩ [.o 15 6, .c 16] [.c 16] (by kernel_rfl) ?_
            have hcs : count - gn = count - part.length := by rw [hlen]
            refine J.ret (v := .bool false) (by kernel_rfl) (by kernel_rfl) (fun w1 A1 m1 hac l1 => by unfold checkR; rw [decide_eq_true (p := 0 < part.length ∧ 0 ≤ i ∧ part.length ≤ count ∧ i ≤ ((count - part.length : Nat) : Int)) ⟨by omega, by omega, by omega, by omega⟩]; simp_all)
end Go.Proofs.Ytkgokehkobifkaa.J

/- Calls of a function that is a variable; stores into slices of the walk's own; clear. -/
namespace Go.Proofs.Ytkgokehkobifkaa.J
open Go Go.RowKit

section
variable {P : Program} {B : Code} {Q : Exit → Act → World → Prop} {n : Nat} {W : World} {Ac M A : Nat → Prop} {s : SS} {ρ : List Nat} {w0 : World} {r t : List It} {k j : Nat}

def evvs (e : Env) (ρ : List Nat) : List Operand → Option (List Value)
  | [] => some []
  | x :: r => match evv e ρ none x, evvs e ρ r with
    | some v, some l => some (v :: l)
    | _, _ => none
theorem evvs_den {e : Env} {a : Act} (hf : Fits n e ρ a) : ∀ {l : List Operand} {vs : List Value}, evvs e ρ l = some vs → l.map a.eval = vs
  | [], vs, h => by cases h; rfl
  | x :: r, vs, h => by
    unfold evvs at h
    split at h
    · rename_i v l h1 h2
      cases h
      rw [List.map_cons, evv_den hf (GOk.none _) h1, evvs_den hf h2]
    · cases h

def callVOf (B : Code) (e : Env) (ρ : List Nat) (n k j : Nat) : Option (FuncId × List Value × List Value × Option Nat) :=
  match nowOp B e k j with
  | some o => match o.op with
    | .call ⟨.value x, args, _⟩ => bif (match o.dst with | some d => Nat.blt d n | none => true) then (match evv e ρ none x, evvs e ρ args.toList with
      | some (.func (.func F) ⟨[]⟩ ⟨cb⟩), some vs => some (F, vs, cb, o.dst)
      | _, _ => none) else none
    | _ => none
  | none => none

theorem callVOf_spec {g : FuncId} {args cb : List Value} {d : Option Nat} (h : callVOf B s.env ρ n k j = some (g, args, cb, d)) (heg : ∀ args w, (callFunc g args).run P w = .ok (.enter g args) w) :
    ∃ o, nowOp B s.env k j = some o ∧ o.dst = d ∧ (∀ d', d = some d' → d' < n) ∧ ∀ a w, Fits n s.env ρ a → (execOp a.eval o).run P w = .ok (.enter g (args ++ cb).toArray) w := by
  unfold callVOf at h
  split at h
  · rename_i o ho
    split at h
    · rename_i x ars tys hop
      obtain ⟨h1, h⟩ := bif_some h
      split at h
      · rename_i F cb' vs e1 e2
        cases h
        refine ⟨o, ho, rfl, fun d' hd' => ?_, fun a w hf => ?_⟩
        · rw [hd'] at h1; exact blt_iff.1 h1
        · have ex := evv_den hf (GOk.none _) e1
          have ea : ars.map a.eval = args.toArray := by
            rw [← evvs_den hf e2, ← List.map_toArray]
          unfold execOp
          simp [hop, resolve, invoke, Deferred.ofValue, ex, ea, Sem.run_bind, Sem.run_pure, Result.andThen_ok, heg]
      · cases h
    · cases h
  · cases h

theorem J.callV {g : FuncId} {args cb : List Value} {d : Option Nat} {R : World → (Nat → Prop) → Value → World → Prop} (hc : callVOf B s.env ρ n k j = some (g, args, cb, d)) (heg : ∀ args w, (callFunc g args).run P w = .ok (.enter g args) w)
    (h : ∀ w1 A1, Mv (Lb ρ) A A1 w0 w1 → Locs s.mem ρ w1 → Calls P g (args ++ cb).toArray w1 (Ret nobody w1 (R w1 A1)))
    (hk : ∀ v w1 w2 A1, R w1 A1 v w2 → Cg W ρ A A1 w0 w1 w2 → J P B Q n W Ac M (.o k (j + 1) :: r) ⟨putO s.env d (.v v), s.mem⟩ ρ A1 w2) :
    J P B Q n W Ac M (.o k j :: r) s ρ A w0 := by
  obtain ⟨o, ho, hd, hdn, hrun⟩ := callVOf_spec hc heg
  refine J.op ho fun a w ok => ?_
  unfold Oper.wp
  rw [hrun a w ok.fits]
  simp only [Oper.upon]
  refine (h w _ ok.mv ok.locs).mono ?_
  rintro e w2 ⟨v, rfl, hR, hs⟩
  simp only
  have hok := ok.after hs
  refine hk v w w2 _ hR ⟨ok.mv.after hs, ok.mv.bdd, ok.size, ok.sn.size, fun k hk => ok.locs.lt hk⟩ _ _ ?_
  rw [hd]
  cases d with
  | none => exact hok
  | some d => exact hok.put (x := .v v) (hdn d rfl) (plain_grd rfl) rfl

/-- One block of the walk's own (or one that the call may write into) turned. -/
theorem Ok.setB {a : Act} {w : World} (ok : Ok n W Ac M s ρ A w0 a w) {b : Nat} (hb : b < w0.heap.size) (hW : W.heap.size ≤ b ∨ M b) (hρ : b ∉ ρ) (hA : A b) (cs : Array Value) :
    Mv (fun k => Lb ρ k ∨ k = b) A (Av A ρ) w0 (w.setRow b cs) ∧ Ok n W Ac M s ρ (Av A ρ) (w.setRow b cs) a (w.setRow b cs) := by
  have hsn : Sn (fun k => k = b) w (w.setRow b cs) := { os := rfl, tape := rfl, output := rfl, drawn := Nat.le_refl _, size := by simp [World.setRow], same := fun k hk hn => setRow_other w _ _ _ hn }
  have h := ok.afterX (X := fun k => k = b) (fun k hk _ => by subst hk; exact ⟨hW, hρ, hA⟩) (fun k hk => by subst hk; exact hb) hsn
  exact ⟨h.2, h.1⟩

/-- Cells stored into a slice of the walk's own. -/
theorem Nw.put {N : Nat} {e : TypeId} {kk : Nat} {A1 : Nat → Prop} {w : World} {g nn c off : Nat} {xs cs : List Value} (ho : Nw N e kk ρ A w (some ⟨g, 0, none⟩) nn c xs) (hfit : off + cs.length ≤ nn * kk) (h1 : ∀ u ∈ cs, u.oneCell' = true) (hA : A1 g) :
    ∃ cur', (storeCells ⟨g, off, none⟩ cs 0).run P w = .ok () (w.setRow g cur') ∧ Nw N e kk ρ A1 (w.setRow g cur') (some ⟨g, 0, none⟩) nn c (xs.take off ++ cs ++ xs.drop (off + cs.length)) := by
  obtain ⟨hl, ⟨h2, _⟩ | ⟨g', cur, h2, h3, h4, h5, h6, h7, h8, h9, h10⟩⟩ := ho
  · cases h2
  · cases h2
    have hcur : nn * kk ≤ cur.size := by rw [h9]; exact Nat.mul_le_mul_right _ h7
    have hst := run_storeCells_at P g off e cs 0 cur w h6 (by simpa using Nat.le_trans hfit hcur) h1
    simp only [Nat.add_zero] at hst
    refine ⟨_, hst, ?_, .inr ⟨g, _, rfl, h3, h4, hA, setRow_heap w g cur _ e _ h6, h7, h8, ?_, ?_⟩⟩
    · simp only [List.length_append, List.length_take, List.length_drop]; omega
    · simp only [List.size_toArray, List.length_append, List.length_take, List.length_drop, Array.length_toList]; omega
    · subst h10
      apply List.ext_getElem?
      intro i
      have hcl : cur.toList.length = cur.size := Array.length_toList
      rw [List.getElem?_take]
      by_cases hi : i < nn * kk
      · rw [if_pos hi]
        rcases Nat.lt_or_ge i off with h | h
        · rw [List.getElem?_append_left (by simp only [List.length_append, List.length_take, Array.length_toList]; omega), List.getElem?_append_left (by simp only [List.length_take, Array.length_toList]; omega), List.getElem?_take, if_pos h]
          rw [List.getElem?_append_left (by simp only [List.length_append, List.length_take, Array.length_toList]; omega), List.getElem?_append_left (by simp only [List.length_take, Array.length_toList]; omega), List.getElem?_take, if_pos h, List.getElem?_take, if_pos hi]
        · rcases Nat.lt_or_ge i (off + cs.length) with h' | h'
          · rw [List.getElem?_append_left (by simp only [List.length_append, List.length_take, Array.length_toList]; omega), List.getElem?_append_right (by simp only [List.length_take, Array.length_toList]; omega)]
            rw [List.getElem?_append_left (by simp only [List.length_append, List.length_take, Array.length_toList]; omega), List.getElem?_append_right (by simp only [List.length_take, Array.length_toList]; omega)]
            congr 1
            simp only [List.length_take, Array.length_toList]; omega
          · rw [List.getElem?_append_right (by simp only [List.length_append, List.length_take, Array.length_toList]; omega)]
            rw [List.getElem?_append_right (by simp only [List.length_append, List.length_take, Array.length_toList]; omega)]
            rw [List.getElem?_drop, List.getElem?_drop, List.getElem?_take]
            rw [if_pos (by simp only [List.length_append, List.length_take, Array.length_toList]; omega)]
            congr 1
            simp only [List.length_append, List.length_take, Array.length_toList]; omega
      · rw [if_neg hi, List.getElem?_eq_none]
        simp only [List.length_append, List.length_take, List.length_drop, Array.length_toList]; omega

theorem J.stOwn {N : Nat} {T e : TypeId} {kk g off nn c : Nat} {v : Value} {xs cs : List Value} (hx : stOf B s.env ρ k j = some (T, g, off, v)) (hM : g < W.heap.size → M g) (ho : Nw N e kk ρ A w0 (some ⟨g, 0, none⟩) nn c xs)
    (hs : sizeO P T = some cs.length) (hv : v.cells = cs.toArray) (h1 : ∀ u ∈ cs, u.oneCell' = true) (hfit : off + cs.length ≤ nn * kk)
    (h : ∀ w' A', Nw N e kk ρ A' w' (some ⟨g, 0, none⟩) nn c (xs.take off ++ cs ++ xs.drop (off + cs.length)) → Mv (fun k => Lb ρ k ∨ k = g) A A' w0 w' → J P B Q n W Ac M (.o k (j + 1) :: r) s ρ A' w') : J P B Q n W Ac M (.o k j :: r) s ρ A w0 := by
  unfold stOf at hx
  split at hx
  · rename_i o hno
    split at hx
    · rename_i t' x y hop hdst
      split at hx
      · rename_i bb oo v' h2 h3
        cases hx
        refine J.op hno fun a w ok => ?_
        obtain ⟨q1, q2, q3, q4⟩ := ho.own_blk g ⟨_, rfl, rfl⟩
        obtain ⟨cur', hst, hnew⟩ := (ho.mv ok.mv).put (P := P) (A1 := Av A ρ) hfit h1 (.inl q3)
        have hsto : (Instr.storeAt T (.pointer (some ⟨g, off, none⟩)) v).run P w = .ok () (w.setRow g cur') := by
          unfold Instr.storeAt Instr.sureAddr storeVar
          have h1' : v.cells.size = cs.length := by rw [hv]; simp
          simp only [Sem.run_bind, Sem.run_pure, Result.andThen_ok, run_sizeOf hs w, h1', ne_eq, not_true_eq_false, if_false]
          rw [hv]; exact hst
        unfold Oper.wp
        rw [exec_store hop, evv_den ok.fits (GOk.none _) h2, evv_den ok.fits (GOk.none _) h3]
        simp only [Sem.run_bind, hsto, Result.andThen_ok, Sem.run_pure, Oper.upon, hdst, Act.put]
        obtain ⟨hmv, hok⟩ := ok.setB q4 (by rcases Nat.lt_or_ge g W.heap.size with h | h; exact .inr (hM h); exact .inl h) q2 q3 cur'
        exact h _ _ hnew hmv _ _ hok
      · cases hx
    · cases hx
  · cases hx

def clOf (B : Code) (e : Env) (ρ : List Nat) (k j : Nat) : Option (TypeId × Option Addr × Nat × Nat) :=
  match nowOp B e k j with
  | some o => match o.op, o.dst with
    | .call ⟨.builtin .clear, args, tys⟩, none => match args.toList, tys.toList with
      | [x], [T] => match evv e ρ none x with
        | some (.slice a n c) => some (T, a, n, c)
        | _ => none
      | _, _ => none
    | _, _ => none
  | none => none

theorem J.clearOwn {N : Nat} {T e el : TypeId} {kk g off m cc nn c : Nat} {z : Value} {xs : List Value} (hx : clOf B s.env ρ k j = some (T, some ⟨g, off, none⟩, m, cc)) (hT : P.underlying T = some (.slice el)) (hz : ∀ w, (zeroValue el).run P w = .ok z w) (hzc : z.cells.size = kk) (hz1 : ∀ u ∈ z.cells.toList, u.oneCell' = true) (hm : 0 < m)
    (hM : g < W.heap.size → M g) (ho : Nw N e kk ρ A w0 (some ⟨g, 0, none⟩) nn c xs) (hfit : off + m * kk ≤ nn * kk)
    (h : ∀ w' A', Nw N e kk ρ A' w' (some ⟨g, 0, none⟩) nn c (xs.take off ++ (Builtin.zeroCells z.cells m).toList ++ xs.drop (off + m * kk)) → Mv (fun k => Lb ρ k ∨ k = g) A A' w0 w' → J P B Q n W Ac M (.o k (j + 1) :: r) s ρ A' w') : J P B Q n W Ac M (.o k j :: r) s ρ A w0 := by
  unfold clOf at hx
  split at hx
  · rename_i o hno
    split at hx
    · rename_i args tys hop hdst
      split at hx
      · rename_i x T' ha ht
        split at hx
        · rename_i a' n' c' h2
          cases hx
          refine J.op hno fun a w ok => ?_
          obtain ⟨q1, q2, q3, q4⟩ := ho.own_blk g ⟨_, rfl, rfl⟩
          have hlen : (Builtin.zeroCells z.cells m).toList.length = m * kk := by rw [Array.length_toList, size_zeroCells, hzc]
          have h1 : ∀ u ∈ (Builtin.zeroCells z.cells m).toList, u.oneCell' = true := by
            intro u hu
            refine hz1 u ?_
            simp [Builtin.zeroCells] at hu
            obtain ⟨i, hi, rfl⟩ := hu
            have hp : 0 < z.cells.size := by
              rcases Nat.eq_zero_or_pos z.cells.size with h0 | h0
              · rw [h0, Nat.mul_zero] at hi; omega
              · exact h0
            rw [getElem!_pos z.cells (i % z.cells.size) (Nat.mod_lt _ hp)]
            exact Array.mem_toList_iff.2 (Array.getElem_mem _)
          obtain ⟨cur', hst, hnew⟩ := (ho.mv ok.mv).put (P := P) (off := off) (cs := (Builtin.zeroCells z.cells m).toList) (A1 := Av A ρ) (by rw [hlen]; exact hfit) h1 (.inl q3)
          rw [hlen] at hnew
          have e1 : args = #[x] := Array.toList_inj.1 ha
          have e2 : tys = #[T] := Array.toList_inj.1 ht
          subst e1; subst e2
          obtain ⟨m', rfl⟩ : ∃ m', m = m' + 1 := ⟨m - 1, by omega⟩
          unfold Oper.wp
          unfold execOp
          simp only [hop, resolve, invoke, builtin, Builtin.clear_, Sem.run_bind, Sem.run_pure, Result.andThen_ok, List.map_toArray, List.map_cons, List.map_nil, evv_den ok.fits (GOk.none _) h2]
          have hcl : Sem.run P (Builtin.clear_ #[T] o.type #[.slice (some ⟨g, off, none⟩) (m' + 1) cc]) w = .ok (.tuple #[]) (w.setRow g cur') := by
            simp [Builtin.clear_, run_underlying hT, Sem.run_bind, hz, hst]
          unfold Builtin.clear_ at hcl
          simp only [Sem.run_bind] at hcl
          rw [hcl]
          simp only [Result.andThen_ok, Oper.upon, hdst, Act.put]
          obtain ⟨hmv, hok⟩ := ok.setB q4 (by rcases Nat.lt_or_ge g W.heap.size with h | h; exact .inr (hM h); exact .inl h) q2 q3 cur'
          exact h _ _ hnew hmv _ _ hok
        · cases hx
      · cases hx
    · cases hx
  · cases hx
end
end Go.Proofs.Ytkgokehkobifkaa.J

/- slices.IndexFunc and DeleteFunc over entries, whatever function is handed in. -/
namespace Go.Proofs.Ytkgokehkobifkaa.J
open Go Go.RowKit

/-- What a function that is handed in leans on: it stays. -/
structure Phi (Φ : (Nat → Prop) → World → Prop) (A : Nat → Prop) (w : World) : Prop where
  st : ∀ (X A A1 : Nat → Prop) (w w1 : World), Mv X A A1 w w1 → Φ A w → Φ A1 w1
  wk : ∀ (A A1 : Nat → Prop) (w : World), (∀ k, A1 k → A k) → Φ A w → Φ A1 w
  val : Φ A w
theorem Phi.mv {Φ : (Nat → Prop) → World → Prop} {X A A1 : Nat → Prop} {w w1 : World} (h : Phi Φ A w) (m : Mv X A A1 w w1) : Phi Φ A1 w1 := ⟨h.st, h.wk, h.st X A A1 w w1 m h.val⟩
theorem Phi.any {Φ : (Nat → Prop) → World → Prop} {A : Nat → Prop} {w : World} (h : Phi Φ A w) : Phi Φ nobody w := ⟨h.st, h.wk, h.wk A nobody w (fun _ h => h.elim) h.val⟩
theorem Phi.triv (A : Nat → Prop) (w : World) : Phi (fun _ _ => True) A w := ⟨fun _ _ _ _ _ _ _ => trivial, fun _ _ _ _ _ => trivial, trivial⟩
/-- A function of entries, by what it answers. -/
structure FunC (F : FuncId) (cb : List Value) (Φ : (Nat → Prop) → World → Prop) (p : Ent → Bool) : Prop where
  eg : ∀ args w, (callFunc F args).run Pr w = .ok (.enter F args) w
  call : ∀ (x : Ent) (A : Nat → Prop) (w : World), (∀ k, A k → k < w.heap.size) → Phi Φ A w → Calls Pr F ([Value.agg (encE x).toArray] ++ cb).toArray w (Ret nobody w fun v _ => v = .bool (p x))

theorem flat_take {α : Type} {k : Nat} {enc : α → List Value} : ∀ (l : List α) (i : Nat), (∀ x ∈ l, (enc x).length = k) → (l.flatMap enc).take (i * k) = (l.take i).flatMap enc
  | [], i, _ => by simp
  | x :: r, 0, _ => by simp
  | x :: r, i + 1, h => by
    have hx := h x List.mem_cons_self
    rw [List.flatMap_cons, List.take_succ_cons, List.flatMap_cons, ← flat_take r i (fun y hy => h y (List.mem_cons_of_mem _ hy)), List.take_append, Nat.add_mul, Nat.one_mul, List.take_of_length_le (by omega)]
    congr 2; omega
theorem flat_drop {α : Type} {k : Nat} {enc : α → List Value} : ∀ (l : List α) (i : Nat), (∀ x ∈ l, (enc x).length = k) → (l.flatMap enc).drop (i * k) = (l.drop i).flatMap enc
  | [], i, _ => by simp
  | x :: r, 0, _ => by simp
  | x :: r, i + 1, h => by
    have hx := h x List.mem_cons_self
    rw [List.flatMap_cons, List.drop_succ_cons, ← flat_drop r i (fun y hy => h y (List.mem_cons_of_mem _ hy)), List.drop_append, Nat.add_mul, Nat.one_mul, List.drop_eq_nil_of_le (by omega), List.nil_append]
    congr 1; omega
theorem flat_put {α : Type} {k : Nat} {enc : α → List Value} {l : List α} {i : Nat} {y : α} (hk : ∀ x, (enc x).length = k) (hi : i < l.length) : (l.flatMap enc).take (i * k) ++ enc y ++ (l.flatMap enc).drop (i * k + k) = (l.set i y).flatMap enc := by
  rw [flat_take l i (fun x _ => hk x), show i * k + k = (i + 1) * k by rw [Nat.add_mul, Nat.one_mul], flat_drop l (i + 1) (fun x _ => hk x), List.set_eq_take_append_cons_drop, if_pos hi]
  simp [List.flatMap_append]

theorem Nw.upto {N : Nat} {e : TypeId} {kk : Nat} {ρ : List Nat} {A : Nat → Prop} {w : World} {a : Option Addr} {n m c : Nat} {xs : List Value} (h : Nw N e kk ρ A w a n c xs) (hm : m ≤ n) (ha : a ≠ none) : Nw N e kk ρ A w a m c (xs.take (m * kk)) := by
  obtain ⟨h1, ⟨h2, _⟩ | ⟨g, cur, rfl, h3, h4, h5, h6, h7, h8, h9, h10⟩⟩ := h
  · exact absurd h2 ha
  · have hmk : m * kk ≤ n * kk := Nat.mul_le_mul_right _ hm
    refine ⟨by rw [List.length_take]; omega, .inr ⟨g, cur, rfl, h3, h4, h5, h6, by omega, h8, h9, ?_⟩⟩
    rw [← h10, List.take_take, Nat.min_eq_left hmk]

/-! ## what DeleteFunc leaves -/
def keepB (p : Ent → Bool) (e : Ent) : Bool := !p e
/-- The row xs as it stands when j entries have been seen and i of them are kept. -/
structure DfInv (p : Ent → Bool) (l xs : List Ent) (n i j : Nat) : Prop where
  ij : i < j
  jn : j ≤ n
  len : xs.length = n
  kept : xs.take i = (l.take j).filter (keepB p)
  rest : xs.drop j = l.drop j
theorem DfInv.start {p : Ent → Bool} {l : List Ent} {i : Nat} {x : Ent} (hx : l[i]? = some x) (hp : p x = true) (hb : ∀ j y, j < i → l[j]? = some y → p y = false) : DfInv p l l l.length i (i + 1) where
  ij := Nat.lt_succ_self _
  jn := (List.getElem?_eq_some_iff.1 hx).1
  len := rfl
  kept := by
    have h1 : (l.take i).filter (keepB p) = l.take i := by
      rw [List.filter_eq_self]
      intro y hy
      obtain ⟨j, hj⟩ := List.mem_iff_getElem?.1 hy
      rw [List.getElem?_take] at hj
      split at hj
      · rename_i h; simp [keepB, hb j y h hj]
      · cases hj
    rw [take_snoc hx, List.filter_append, h1]
    simp [keepB, hp]
  rest := rfl
theorem DfInv.at {p : Ent → Bool} {l xs : List Ent} {n i j : Nat} (h : DfInv p l xs n i j) {y : Ent} (hy : xs[j]? = some y) : l[j]? = some y := by
  have h1 : (xs.drop j)[0]? = some y := by rw [List.getElem?_drop]; exact hy
  rw [h.rest, List.getElem?_drop] at h1; exact h1
theorem DfInv.rest' {p : Ent → Bool} {l xs : List Ent} {n i j : Nat} (h : DfInv p l xs n i j) : xs.drop (j + 1) = l.drop (j + 1) := by
  rw [← List.drop_drop, ← List.drop_drop, h.rest]
theorem DfInv.drop {p : Ent → Bool} {l xs : List Ent} {n i j : Nat} (h : DfInv p l xs n i j) {y : Ent} (hy : xs[j]? = some y) (hp : p y = true) (hj : j < n) : DfInv p l xs n i (j + 1) :=
  ⟨by have := h.ij; omega, by omega, h.len, by rw [take_snoc (h.at hy), List.filter_append, h.kept]; simp [keepB, hp], h.rest'⟩
theorem DfInv.keep {p : Ent → Bool} {l xs : List Ent} {n i j : Nat} (h : DfInv p l xs n i j) {y : Ent} (hy : xs[j]? = some y) (hp : p y = false) (hj : j < n) : DfInv p l (xs.set i y) n (i + 1) (j + 1) where
  ij := by have := h.ij; omega
  jn := by omega
  len := by rw [List.length_set]; exact h.len
  kept := by
    have hi : i < xs.length := by have := h.ij; rw [h.len]; omega
    rw [take_snoc (h.at hy), List.filter_append, ← h.kept, take_snoc (l := xs.set i y) (x := y) (by rw [List.getElem?_set_self hi]), List.take_set_of_le (Nat.le_refl _)]
    simp [keepB, hp]
  rest := by rw [List.drop_set_of_lt (by have := h.ij; omega)]; exact h.rest'
theorem DfInv.end_ {p : Ent → Bool} {l xs : List Ent} {n i j : Nat} (h : DfInv p l xs n i j) (hl : l.length = n) (hj : n ≤ j) : xs.take i = l.filter (keepB p) := by
  rw [h.kept, List.take_of_length_le (by omega)]
theorem DfInv.cnt {p : Ent → Bool} {l xs : List Ent} {n i j : Nat} (h : DfInv p l xs n i j) (hl : l.length = n) (hj : n ≤ j) : i = (l.filter (keepB p)).length := by
  rw [← h.end_ hl hj, List.length_take, h.len]; have := h.ij; have := h.jn; omega
theorem keep_all {p : Ent → Bool} {l : List Ent} (h : firstI p l = -1) : l.filter (keepB p) = l := by
  rw [List.filter_eq_self]
  intro y hy
  unfold firstI at h
  cases hf : l.findIdx? p with
  | none =>
    rw [List.findIdx?_eq_none_iff] at hf
    have := hf y hy
    simp [keepB, this]
  | some i => rw [hf] at h; simp only at h; omega
theorem firstI_cases (p : Ent → Bool) (l : List Ent) : firstI p l = -1 ∨ ∃ i x, firstI p l = ((i : Nat) : Int) ∧ l[i]? = some x ∧ p x = true ∧ ∀ j y, j < i → l[j]? = some y → p y = false := by
  unfold firstI
  cases hf : l.findIdx? p with
  | none => exact .inl rfl
  | some i =>
    obtain ⟨h1, h2, h3⟩ := List.findIdx?_eq_some_iff_getElem.1 hf
    refine .inr ⟨i, l[i], rfl, List.getElem?_eq_getElem h1, h2, fun j y hj hy => ?_⟩
    obtain ⟨h4, rfl⟩ := List.getElem?_eq_some_iff.1 hy
    simpa using h3 j hj
theorem firstI_bd (p : Ent → Bool) (l : List Ent) : -1 ≤ firstI p l ∧ firstI p l < ((l.length : Nat) : Int) := by
  rcases firstI_cases p l with h | ⟨i, x, h, hx, _⟩
  · omega
  · have := (List.getElem?_eq_some_iff.1 hx).1; omega
structure DfSt where
  i : Nat
  j : Nat
  xs : List Ent

theorem indexFunc_calls (F : FuncId) (cb : List Value) (Φ : (Nat → Prop) → World → Prop) (p : Ent → Bool) (hF : FunC F cb Φ p) (a : Option Addr) (n c : Nat) (l : List Ent) (Ac : Nat → Prop) (W : World) (hA : ∀ k, Ac k → k < W.heap.size) (hs : Sl 4 encE Ac W a n c l) (hph : Phi Φ Ac W) :
    Calls Pr 89 #[.slice a n c, (.func (.func F) #[] cb.toArray)] W (Ret nobody W fun v w => v = .int .i64 (firstI p l)) := by
  refine J.enter (fn := Try.f89) (n := 19) Try.func89 (by kernel_rfl) (by kernel_rfl) (by kernel_rfl) hA ?_
  have hlen := hs.len; have hle := hs.le; have hcap := hs.cap; simp only [maxLen] at hcap
  refine J.rn [.n, .n, .u, .n, .n, .n, .n, .u, .u, .u, .n, .n] [0, 1, 7, 8] [.c 0] [.c 6, .b 0, .c 25] (by kernel_rfl) ?_
  refine J.loop (X := Nat) (fun i => ⟨[(0, .v (.slice a n c)), (1, .v ((.func (.func F) #[] cb.toArray))), (7, .v (.int .i64 ((n : Nat) : Int))), (8, .v (.int .i64 ((i : Nat) : Int)))], []⟩) (fun i A w => i ≤ n ∧ Sl 4 encE A w a n c l ∧ Phi Φ A w ∧ ∀ j y, j < i → l[j]? = some y → p y = false) (fun i => n - i) [0, 1, 7, 8] 0 [] 0 (by kernel_rfl) (by kernel_rfl) (by kernel_rfl) (fun w1 A1 m1 => ⟨Nat.zero_le _, hs.mv m1, hph.mv m1, fun j _ h => absurd h (Nat.not_lt_zero _)⟩) (fun i A1 w1 hI => ?_)
  obtain ⟨hi, hs, hph, hb⟩ := hI
  refine J.run [.n, .n, .u, .n, .n] [0, 1, 7, 8, 9] ⟨[(0, .v (.slice a n c)), (1, .v ((.func (.func F) #[] cb.toArray))), (7, .v (.int .i64 ((n : Nat) : Int))), (8, .v (.int .i64 ((i : Nat) : Int))), (9, .v (.bool (decide (((i : Nat) : Int) < ((n : Nat) : Int)))))], []⟩ [.c 7] [.c 10, .c 13] (by kernel_rfl) ?_
  refine J.cond (b := (decide (((i : Nat) : Int) < ((n : Nat) : Int)))) (k' := 12) (by kernel_rfl) (fun hc => ?_) (fun hc => ?_)
  · try simp only [nrm] at hc
    have hc1 := hc
    refine J.rn [.n, .n, .n, .n, .n, .u, .u, .n, .n, .n, .u, .u, .u] [0, 1, 5, 7, 8, 11, 12, 13] [.c 11, .c 13] [.o 18 3, .c 19, .b 1, .c 24] (by kernel_rfl) ?_
    obtain ⟨p1, o1, rfl⟩ := hs.addr (by omega)
    refine J.idx (b := p1) (off := o1) (len := n) (i := ((i : Nat) : Int)) (sz := 4) (d := 14) (by kernel_rfl) (by omega) (by omega) ?_
    obtain ⟨x1, hx1⟩ : ∃ zq, (l)[i]? = some zq := ⟨_, List.getElem?_eq_getElem (by omega)⟩
    refine J.ld (T := 42) (b := p1) (off := o1 + i * 4) (d := 15) (v := .agg (encE x1).toArray) (by kernel_rfl) (fun w1 A1 m1 l1 => (hs.mv m1).ld (by kernel_rfl) hx1 (by kernel_rfl)) ?_
    refine J.callV (g := F) (cb := cb) (args := [.agg (encE x1).toArray]) (d := some 16) (by kernel_rfl) hF.eg (fun w1 A1 m1 l1 => hF.call x1 A1 w1 m1.bdd (hph.mv m1)) ?_
    rintro _ u1 w2 A2 rfl g1
    have m1 := g1.mv
    replace hs := hs.mv m1; replace hph := hph.mv m1
    refine J.rn [.n] [0, 1, 5, 7, 8, 16] [.o 18 6, .c 19, .b 1, .c 24] [.c 19, .b 1, .c 24] (by kernel_rfl) ?_
    refine J.cond (b := (p x1)) (k' := 23) (by kernel_rfl) (fun hc => ?_) (fun hc => ?_)
    · try simp only [nrm] at hc
      have hc2 := hc
      refine J.rn [.n, .n, .u, .u, .n] [4] [.c 20, .b 1, .c 24] [.c 22, .b 1, .c 24] (by kernel_rfl) ?_
      refine J.ret (v := .int .i64 ((i : Nat) : Int)) (by kernel_rfl) (by kernel_rfl) (fun w1 A1 m1 hac l1 => by rw [firstI_some hx1 hc2 hb])
    · try simp only [nrm] at hc
      have hc2 := hc
      refine J.run [.n, .n, .n, .u, .u, .n] [0, 1, 7, 8] ⟨[(0, .v (.slice (some ⟨p1, o1, none⟩) n c)), (1, .v ((.func (.func F) #[] cb.toArray))), (7, .v (.int .i64 ((n : Nat) : Int))), (8, .v (.int .i64 (IntKind.i64.wrap (((i : Nat) : Int) + 1))))], []⟩ [.c 23, .b 1, .c 24] [] (by kernel_rfl) ?_
      have hw1 : IntKind.i64.wrap (((i : Nat) : Int) + 1) = ((i + 1 : Nat) : Int) := by rw [wrap_i64 (by omega) (by omega)]; try omega
      rw [hw1]
      exact J.again (i + 1) [0, 1, 7, 8] 0 (by omega) (by kernel_rfl) (by kernel_rfl) (fun w1 A1 m1 => ⟨by omega, hs.mv m1, hph.mv m1, fun j y hj hy => by rcases Nat.lt_succ_iff_lt_or_eq.1 hj with h | rfl; exact hb j y h hy; rw [hx1] at hy; cases hy; exact hc2⟩)
  · try simp only [nrm] at hc
    have hc1 := hc
    refine J.exit (id := 0) (by kernel_rfl) (by rfl) ?_
    refine J.rn [.n, .n, .u, .n] [4] [.c 25] [.c 27] (by kernel_rfl) ?_
    refine J.ret (v := .int .i64 (-1)) (by kernel_rfl) (by kernel_rfl) (fun w1 A1 m1 hac l1 => by rw [firstI_none fun j y hy => hb j y (by have := (List.getElem?_eq_some_iff.1 hy).1; omega) hy])
theorem deleteFunc_calls (F : FuncId) (cb : List Value) (Φ : (Nat → Prop) → World → Prop) (p : Ent → Bool) (hF : FunC F cb Φ p) (g n c : Nat) (l : List Ent) (hn : n ≤ 1000000) (Ac : Nat → Prop) (W : World) (hA : ∀ k, Ac k → k < W.heap.size) (ho : Nw 0 42 4 [] Ac W (some ⟨g, 0, none⟩) n c (l.flatMap encE)) (hph : Phi Φ Ac W) :
    Calls Pr 59 #[.slice (some ⟨g, 0, none⟩) n c, (.func (.func F) #[] cb.toArray)] W (Ret (Eb (some ⟨g, 0, none⟩)) W fun v w => v = .slice (some ⟨g, 0, none⟩) (l.filter (keepB p)).length c ∧ Nw 0 42 4 [] Ac w (some ⟨g, 0, none⟩) (l.filter (keepB p)).length c ((l.filter (keepB p)).flatMap encE)) := by
  refine J.enter (fn := Try.f59) (n := 42) Try.func59 (by kernel_rfl) (by kernel_rfl) (by kernel_rfl) hA ?_
  have hlen : n = l.length := ho.len (fun x _ => rfl) (by decide); have hgA : Ac g := (ho.own_blk g ⟨_, rfl, rfl⟩).2.2.1; have hnc : n ≤ c := (ho.any (fun x _ => rfl) (by decide)).le; have hcap := (ho.any (fun x _ => rfl) (by decide)).cap; simp only [maxLen] at hcap; have hfb := firstI_bd p l
  refine J.rn [.n, .n, .u, .n, .n, .n, .u, .u] [0, 1, 8, 9] [.c 0] [.o 3 2, .c 4] (by kernel_rfl) ?_
  refine J.call (d := some 10) (by kernel_rfl) (fun w1 A1 m1 l1 => indexFunc_calls F cb Φ p hF (some ⟨g, 0, none⟩) n c l nobody w1 noA ((ho.mv m1).any (fun x _ => rfl) (by decide)) (hph.mv m1).any) ?_
  rintro _ u1 w1 A1 rfl g1
  have m1 := g1.mv
  replace hph := hph.mv m1; replace ho := ho.mv m1
  refine J.rn [.u, .n, .n, .n, .n, .u, .u, .n] [0, 1, 5, 12] [.o 3 3, .c 4] [.c 7, .c 12] (by kernel_rfl) ?_
  refine J.cond (b := ((firstI p l) == (-1))) (k' := 11) (by kernel_rfl) (fun hc => ?_) (fun hc => ?_)
  · try simp only [nrm] at hc
    have hc1 := hc
    refine J.rn [.n, .n, .u, .u, .n] [4] [.c 8, .c 12] [.c 10, .c 12] (by kernel_rfl) ?_
    have hka := keep_all hc1
    refine J.ret (v := .slice (some ⟨g, 0, none⟩) n c) (by kernel_rfl) (by kernel_rfl) (fun w1 A1 m1 hac l1 => by rw [hka, ← hlen]; exact ⟨rfl, (ho.mv m1).lower (Nat.le_refl _) (by simp) (fun y ⟨z, hz, he⟩ => by cases hz; subst he; exact hgA)⟩)
  · try simp only [nrm] at hc
    have hc1 := hc
    refine J.run [.n, .n, .n, .n, .u, .u, .u, .n, .n] [0, 1, 5, 6] ⟨[(0, .v (.slice (some ⟨g, 0, none⟩) n c)), (1, .v ((.func (.func F) #[] cb.toArray))), (5, .v (.int .i64 (firstI p l))), (6, .v (.int .i64 (IntKind.i64.wrap ((firstI p l) + 1))))], []⟩ [.c 11, .c 12] [.c 16, .b 0, .c 35] (by kernel_rfl) ?_
    have hw1 : IntKind.i64.wrap ((firstI p l) + 1) = ((firstI p l) + 1) := by rw [wrap_i64 (by omega) (by omega)]
    rw [hw1]
    obtain ⟨i0, x0, hi0, hx0, hp0, hb0⟩ := (firstI_cases p l).resolve_left hc1
    rw [hi0]; have hil := (List.getElem?_eq_some_iff.1 hx0).1
    have hw0 : ((i0 : Nat) : Int) + 1 = ((i0 + 1 : Nat) : Int) := by omega
    rw [hw0]
    refine J.loop (X := DfSt) (fun x => ⟨[(0, .v (.slice (some ⟨g, 0, none⟩) n c)), (1, .v ((.func (.func F) #[] cb.toArray))), (5, .v (.int .i64 ((x.i : Nat) : Int))), (6, .v (.int .i64 ((x.j : Nat) : Int)))], []⟩) (fun x A w => Nw 0 42 4 [] A w (some ⟨g, 0, none⟩) n c (x.xs.flatMap encE) ∧ Phi Φ A w ∧ DfInv p l x.xs n x.i x.j) (fun x => n - x.j) [0, 1, 5, 6] 0 [] ⟨i0, i0 + 1, l⟩ (by kernel_rfl) (by kernel_rfl) (by kernel_rfl) (fun w1 A1 m1 => ⟨ho.mv m1, hph.mv m1, by rw [hlen]; exact DfInv.start hx0 hp0 hb0⟩) (fun x A2 w2 hI => ?_)
    obtain ⟨ho, hph, hinv⟩ := hI; have hij := hinv.ij; have hjn := hinv.jn; have hxl := hinv.len
    refine J.run [.n, .n, .n, .u, .u, .u, .u, .n] [0, 1, 5, 6, 19] ⟨[(0, .v (.slice (some ⟨g, 0, none⟩) n c)), (1, .v ((.func (.func F) #[] cb.toArray))), (5, .v (.int .i64 ((x.i : Nat) : Int))), (6, .v (.int .i64 ((x.j : Nat) : Int))), (19, .v (.bool (decide (((x.j : Nat) : Int) < ((n : Nat) : Int)))))], []⟩ [.c 17] [.c 20, .c 23] (by kernel_rfl) ?_
    refine J.cond (b := (decide (((x.j : Nat) : Int) < ((n : Nat) : Int)))) (k' := 22) (by kernel_rfl) (fun hc => ?_) (fun hc => ?_)
    · try simp only [nrm] at hc
      have hc2 := hc
      refine J.rn [.n, .n, .n, .n, .n, .u, .u] [0, 1, 5, 6, 22, 23] [.c 21, .c 23] [.o 26 2, .c 27, .b 1, .c 34] (by kernel_rfl) ?_
      refine J.idx (b := g) (off := 0) (len := n) (i := ((x.j : Nat) : Int)) (sz := 4) (d := 24) (by kernel_rfl) (by omega) (by omega) ?_
      obtain ⟨x1, hx1⟩ : ∃ zq, (x.xs)[x.j]? = some zq := ⟨_, List.getElem?_eq_getElem (by omega)⟩
      refine J.ld (T := 42) (b := g) (off := 0 + x.j * 4) (d := 25) (v := .agg (encE x1).toArray) (by kernel_rfl) (fun w1 A1 m1 l1 => ((ho.mv m1).any (fun x _ => rfl) (by decide)).ld (by kernel_rfl) hx1 (by kernel_rfl)) ?_
      refine J.new (T := 42) (cs := [.string (⟨#[]⟩ : Str), .string (⟨#[]⟩ : Str), .bool false, .int .i64 0]) (d := 7) (K := .ptr) (by kernel_rfl) (fun b1 hb1 => ?_)
      replace ho := ho.more hb1
      refine J.rn [.u, .n, .n, .n, .u, .u] [0, 1, 5, 6, 7, 26, 27] [.o 26 5, .c 27, .b 1, .c 34] [.o 28 2, .c 29, .b 1, .c 34] (by kernel_rfl) ?_
      refine J.callV (g := F) (cb := cb) (args := [.agg (encE x1).toArray]) (d := some 28) (by kernel_rfl) hF.eg (fun w1 A1 m1 l1 => hF.call x1 A1 w1 m1.bdd (hph.mv m1)) ?_
      rintro _ u2 w3 A3 rfl g2
      have m2 := g2.mv
      replace hph := hph.mv m2; replace ho := ho.mv m2
      refine J.rn [.u, .n] [0, 1, 5, 6, 7, 29] [.o 28 3, .c 29, .b 1, .c 34] [.c 29, .b 1, .c 34] (by kernel_rfl) ?_
      refine J.cond (b := (!(p x1))) (k' := 33) (by kernel_rfl) (fun hc => ?_) (fun hc => ?_)
      · try simp only [nrm] at hc
        have hc3 := hc
        refine J.run [.n, .n, .u, .u, .u] [0, 1, 5, 6, 30, 31, 32] ⟨[(0, .v (.slice (some ⟨g, 0, none⟩) n c)), (1, .v ((.func (.func F) #[] cb.toArray))), (5, .v (.int .i64 ((x.i : Nat) : Int))), (6, .v (.int .i64 ((x.j : Nat) : Int))), (30, .v (.slice (some ⟨g, 0, none⟩) n c)), (31, .v (.int .i64 ((x.i : Nat) : Int))), (32, .v (.agg (encE x1).toArray))], [⟨42, encE x1⟩]⟩ [.c 30, .b 1, .c 34] [.o 31 3, .c 32, .b 1, .c 34] (by kernel_rfl) ?_
        refine J.idx (b := g) (off := 0) (len := n) (i := ((x.i : Nat) : Int)) (sz := 4) (d := 33) (by kernel_rfl) (by omega) (by omega) ?_
        refine J.stOwn (N := 0) (T := 42) (e := 42) (kk := 4) (g := g) (off := 0 + x.i * 4) (nn := n) (c := c) (v := .agg (encE x1).toArray) (cs := encE x1) (xs := x.xs.flatMap encE) (by kernel_rfl) (fun _ => ⟨_, rfl, rfl⟩) ho (by kernel_rfl) rfl (encE_one x1) (by show 0 + x.i * 4 + 4 ≤ n * 4; omega) ?_
        intro w4 A4 ho1 m3
        rw [Nat.zero_add, encE_len, flat_put encE_len (by omega)] at ho1
        replace hph := hph.mv m3
        refine J.run [.n, .n, .u, .u, .u, .n, .n, .n, .u, .u, .u, .n] [0, 1, 5, 6] ⟨[(0, .v (.slice (some ⟨g, 0, none⟩) n c)), (1, .v ((.func (.func F) #[] cb.toArray))), (5, .v (.int .i64 (IntKind.i64.wrap (((x.i : Nat) : Int) + 1)))), (6, .v (.int .i64 (IntKind.i64.wrap (((x.j : Nat) : Int) + 1))))], [⟨42, encE x1⟩]⟩ [.o 31 5, .c 32, .b 1, .c 34] [] (by kernel_rfl) ?_
        have hw2 : IntKind.i64.wrap (((x.i : Nat) : Int) + 1) = ((x.i + 1 : Nat) : Int) := by rw [wrap_i64 (by omega) (by omega)]; try omega
        rw [hw2]
        have hw3 : IntKind.i64.wrap (((x.j : Nat) : Int) + 1) = ((x.j + 1 : Nat) : Int) := by rw [wrap_i64 (by omega) (by omega)]; try omega
        rw [hw3]
        exact J.again ⟨x.i + 1, x.j + 1, x.xs.set x.i x1⟩ [0, 1, 5, 6] 0 (by simp only; omega) (by kernel_rfl) (by kernel_rfl) (fun w1 A1 m1 => ⟨(ho1.mv m1).fewer (by simp), hph.mv m1, hinv.keep hx1 (by simpa using hc3) (by omega)⟩)
      · try simp only [nrm] at hc
        have hc3 := hc
        refine J.run [.n, .n, .n, .u, .u, .u, .n] [0, 1, 5, 6] ⟨[(0, .v (.slice (some ⟨g, 0, none⟩) n c)), (1, .v ((.func (.func F) #[] cb.toArray))), (5, .v (.int .i64 ((x.i : Nat) : Int))), (6, .v (.int .i64 (IntKind.i64.wrap (((x.j : Nat) : Int) + 1))))], [⟨42, encE x1⟩]⟩ [.c 33, .b 1, .c 34] [] (by kernel_rfl) ?_
        have hw4 : IntKind.i64.wrap (((x.j : Nat) : Int) + 1) = ((x.j + 1 : Nat) : Int) := by rw [wrap_i64 (by omega) (by omega)]; try omega
        rw [hw4]
        exact J.again ⟨x.i, x.j + 1, x.xs⟩ [0, 1, 5, 6] 0 (by simp only; omega) (by kernel_rfl) (by kernel_rfl) (fun w1 A1 m1 => ⟨(ho.mv m1).fewer (by simp), hph.mv m1, hinv.drop hx1 (by simpa using hc3) (by omega)⟩)
    · try simp only [nrm] at hc
      have hc2 := hc
      refine J.exit (id := 0) (by kernel_rfl) (by rfl) ?_
      refine J.run [.n, .n, .u, .u] [0, 5, 36, 37] ⟨[(0, .v (.slice (some ⟨g, 0, none⟩) n c)), (5, .v (.int .i64 ((x.i : Nat) : Int))), (36, .v (.slice (some ⟨g, 0, none⟩) n c)), (37, .v (.int .i64 ((x.i : Nat) : Int)))], []⟩ [.c 35] [.o 36 2, .c 37] (by kernel_rfl) ?_
      refine J.sl (a := (some ⟨g, 0, none⟩)) (len := n) (cap := c) (sz := 4) (lo := (some ((x.i : Nat) : Int))) (hi := none) (mx := none) (d := 38) (by kernel_rfl) x.i n c (by simp) (by simp) (by simp) (by omega) (by omega) (by omega) (by simp) ?_
      intro a1 ha1 hb1
      have hae : a1 = some ⟨g, 0 + x.i * 4, none⟩ := by rw [ha1 (by omega)]; simp only [Option.map_some, Addr.add, Nat.zero_add]; by_cases h0 : x.i * 4 = 0 <;> simp [h0]
      subst hae
      refine J.clearOwn (N := 0) (T := 22) (e := 42) (el := 42) (kk := 4) (g := g) (off := 0 + x.i * 4) (m := n - x.i) (cc := c - x.i) (nn := n) (c := c) (z := .agg (encE ent0).toArray) (xs := x.xs.flatMap encE) (by kernel_rfl) Try.underlying22 Try.zeroValue42 rfl (by intro u hu; exact encE_one ent0 u (by simpa [Value.cells] using hu)) (by omega) (fun _ => ⟨_, rfl, rfl⟩) ho (by omega) ?_
      intro w5 A5 ho2 m4
      refine J.run [.n, .n, .n, .u, .u] [39, 40] ⟨[(39, .v (.slice (some ⟨g, 0, none⟩) n c)), (40, .v (.int .i64 ((x.i : Nat) : Int)))], []⟩ [.o 36 4, .c 37] [.o 38 2, .c 39] (by kernel_rfl) ?_
      refine J.sl (a := (some ⟨g, 0, none⟩)) (len := n) (cap := c) (sz := 4) (lo := none) (hi := (some ((x.i : Nat) : Int))) (mx := none) (d := 41) (by kernel_rfl) 0 x.i c (by simp) (by simp) (by simp) (by omega) (by omega) (by omega) (by simp) ?_
      intro a2 ha2 hb2
      rw [hb2 rfl, Nat.sub_zero, Nat.sub_zero]; clear ha2 hb2 a2
      refine J.rn [.u, .n] [4] [.o 38 3, .c 39] [.c 39] (by kernel_rfl) ?_
      have hcn := hinv.cnt hlen.symm (by omega); have hen := hinv.end_ hlen.symm (by omega)
      have hfin := ho2.upto (m := x.i) (by omega) (by simp)
      rw [Nat.zero_add, List.append_assoc, List.take_append_of_le_length (by rw [List.length_take, flat_len (k := 4) (fun _ _ => rfl)]; omega), List.take_take, Nat.min_self, flat_take (k := 4) x.xs x.i (fun _ _ => rfl), hen] at hfin
      rw [hcn] at hfin ⊢
      refine J.ret (v := .slice (some ⟨g, 0, none⟩) ((l.filter (keepB p)).length) c) (by kernel_rfl) (by kernel_rfl) (fun w1 A1 m1 hac l1 => ⟨rfl, (hfin.mv m1).lower (Nat.le_refl _) (by simp) (fun y ⟨z, hz, he⟩ => by cases hz; subst he; exact hgA)⟩)
end Go.Proofs.Ytkgokehkobifkaa.J

/- Calls that may panic. -/
namespace Go.Proofs.Ytkgokehkobifkaa.J
open Go Go.RowKit

/-- Returns with R, or panics with a value that Rp says. -/
def EndR (M : Nat → Prop) (W : World) (R Rp : Value → World → Prop) : Ending → World → Prop
  | .returned v, w => R v w ∧ Sn M W w
  | .panicked c, w => ∃ v, c = [{ v, recovered := false }] ∧ Rp v w ∧ Sn M W w
  | .outgrown, _ => False

section
variable {P : Program} {B : Code} {Q : Exit → Act → World → Prop} {n : Nat} {W : World} {Ac M A : Nat → Prop} {s : SS} {ρ : List Nat} {w0 : World} {r : List It} {k j : Nat}

theorem J.enterQ {f : FuncId} {fn : Func} {args : List Value} {R : Ending → World → Prop} (hf : P.funcs[f]? = some fn) (hb : fn.body = some (bodyOf fn)) (hn : fn.ntmps = n) (hl : Nat.ble args.length n = true)
    (hA : ∀ k, Ac k → k < W.heap.size) (h : J P (bodyOf fn) (bodyPost P fn R) n W Ac M [.c 0] ⟨envOf args 0, []⟩ [] Ac W) : Calls P f args.toArray W R := by
  refine calls_of_wp hf hb ?_
  have hl := Nat.le_of_ble_eq_true hl
  obtain ⟨c, hc, hw⟩ := h { tmps := args.toArray ++ Array.replicate (fn.ntmps - args.toArray.size) undef, defers := [] } W {
    fits := {
      size := by simp; omega
      defers := rfl
      val := fun t s hs => by
        obtain ⟨j, v, h1, h2, h3⟩ := envOf_mem hs
        subst h3
        have hj : j < args.length := (List.getElem?_eq_some_iff.1 h1).1
        simp only [Nat.zero_add] at h2
        subst h2
        simp only [den, Array.getD_eq_getD_getElem?]
        rw [Array.getElem?_append_left (by simpa using hj)]
        simp [h1]
      grd := fun d t c b s hs => by
        obtain ⟨j, v, _, _, h3⟩ := envOf_mem hs
        cases h3
      rng := fun t s hs => by
        obtain ⟨j, v, _, _, h3⟩ := envOf_mem hs
        subst h3; rfl }
    locs := ⟨rfl, List.nodup_nil, fun i L h => by simp at h⟩
    sn := Sn.refl _ _
    size := Nat.le_refl _
    same := fun _ _ _ => rfl
    loc := fun _ h => by cases h
    bdd := hA
    fresh := fun _ h => by cases h
    sub := fun _ h => h
    big := Nat.le_refl _
    acb := hA }
  rw [show cat (bodyOf fn) 0 = some (bodyOf fn) by cases bodyOf fn <;> rfl] at hc
  cases hc
  refine wp_mono hw ?_
  intro e a w h
  cases e <;> exact h

theorem exQ_ret {P : Program} {B : Code} {Q : Exit → Act → World → Prop} {a : Act} {w : World} (h : Q .ret a w) : ∀ l : List It, exQ P B Q l .ret a w
  | [] => h
  | x :: l => by cases x <;> exact exQ_ret h l
theorem exQ_panic {P : Program} {B : Code} {Q : Exit → Act → World → Prop} {a : Act} {w : World} {c : List PanicEntry} (h : Q (.panic c) a w) : ∀ l : List It, exQ P B Q l (.panic c) a w
  | [] => h
  | x :: l => by cases x <;> exact exQ_panic h l

theorem J.retE {fn : Func} {R Rp : Value → World → Prop} {v : Value} (hk : cat B k = some .ret) (hr : resv P s ρ fn.results.toList = some v)
    (hR : ∀ w1 A1, Mv (Lb ρ) A A1 w0 w1 → (∀ k, Ac k → A1 k) → Locs s.mem ρ w1 → R v w1) : J P B (bodyPost P fn (EndR M W R Rp)) n W Ac M (.c k :: r) s ρ A w0 := by
  intro a w ok
  exact ⟨.ret, hk, wp_ret (exQ_ret ⟨ok.fits.defers, v, resv_run ok.fits ok.locs hr, hR w _ ok.mv (fun k h => .inl (ok.sub k h)) ok.locs, ok.sn⟩ _)⟩

theorem J.endE {fn : Func} {R Rp : Value → World → Prop} {v : Value} (hr : resv P s ρ fn.results.toList = some v)
    (hR : ∀ w1 A1, Mv (Lb ρ) A A1 w0 w1 → (∀ k, Ac k → A1 k) → Locs s.mem ρ w1 → R v w1) : J P B (bodyPost P fn (EndR M W R Rp)) n W Ac M [] s ρ A w0 := by
  intro a w ok
  exact ⟨ok.fits.defers, v, resv_run ok.fits ok.locs hr, hR w _ ok.mv (fun k h => .inl (ok.sub k h)) ok.locs, ok.sn⟩

def panicOf (B : Code) (e : Env) (ρ : List Nat) (k j : Nat) : Option Value :=
  match nowOp B e k j with
  | some o => match o.op with
    | .panic x => match evv e ρ none x with
      | some (.iface t v) => some (.iface t v)
      | _ => none
    | _ => none
  | none => none

theorem J.panic {fn : Func} {R Rp : Value → World → Prop} {v : Value} (hp : panicOf B s.env ρ k j = some v)
    (hR : ∀ w1 A1, Mv (Lb ρ) A A1 w0 w1 → (∀ k, Ac k → A1 k) → Locs s.mem ρ w1 → Rp v w1) : J P B (bodyPost P fn (EndR M W R Rp)) n W Ac M (.o k j :: r) s ρ A w0 := by
  unfold panicOf at hp
  split at hp
  · rename_i o ho
    split at hp
    · rename_i x hop
      split at hp
      · rename_i t v' hv
        cases hp
        refine J.op ho fun a w ok => ?_
        have ex := evv_den ok.fits (GOk.none _) hv
        unfold Oper.wp execOp
        simp only [hop, ex, Instr.panic, goPanic]
        show o.upon P a _ _ (.halt (.panic (.iface t v')) w)
        rw [Oper.upon_panic]
        exact exQ_panic ⟨ok.fits.defers, _, rfl, hR w _ ok.mv (fun k h => .inl (ok.sub k h)) ok.locs, ok.sn⟩ _
      · cases hp
    · cases hp
  · cases hp

/-- A call that may panic; if so, the caller does. -/
theorem J.callEG {S : World → Prop} {it it' : It} (hcur : IsCur k j S it it') (hcl : Cl S) {fn : Func} {R' Rp' : Value → World → Prop} {g : FuncId} {args : List Value} {d : Option Nat} {R Rp : World → (Nat → Prop) → Value → World → Prop}
    {o : Oper} (ho : nowOp B s.env k j = some o) (hd : o.dst = d) (hdn : ∀ d', d = some d' → d' < n) (hrun : ∀ a w, Fits n s.env ρ a → (execOp a.eval o).run P w = .ok (.enter g args.toArray) w)
    (h : ∀ w1 A1, Mv (Lb ρ) A A1 w0 w1 → Locs s.mem ρ w1 → Calls P g args.toArray w1 (EndR nobody w1 (R w1 A1) (Rp w1 A1)))
    (hk : ∀ v w1 w2 A1, R w1 A1 v w2 → Cg W ρ A A1 w0 w1 w2 → J P B (bodyPost P fn (EndR M W R' Rp')) n W Ac M (it' :: r) ⟨putO s.env d (.v v), s.mem⟩ ρ A1 w2)
    (hp : ∀ v w1 w2 A1, Rp w1 A1 v w2 → Cg W ρ A A1 w0 w1 w2 → (∀ k, Ac k → A1 k) → Rp' v w2) :
    J P B (bodyPost P fn (EndR M W R' Rp')) n W Ac M (it :: r) s ρ A w0 := by
  refine J.act hcur ho fun a w ok hS => ?_
  unfold Oper.wp
  rw [hrun a w ok.fits]
  simp only [Oper.upon]
  refine (h w _ ok.mv ok.locs).mono ?_
  intro e w2 he
  cases e with
  | returned v =>
    obtain ⟨hR, hs⟩ := he
    have hok := ok.after hs
    refine ⟨hcl.call _ _ hS hs, hk v w w2 _ hR ⟨ok.mv.after hs, ok.mv.bdd, ok.size, ok.sn.size, fun k hk => ok.locs.lt hk⟩ _ _ ?_⟩
    rw [hd]
    cases d with
    | none => exact hok
    | some d => exact hok.put (x := .v v) (hdn d rfl) (plain_grd rfl) rfl
  | panicked c =>
    obtain ⟨v, rfl, hR, hs⟩ := he
    exact exQ_panic ⟨ok.fits.defers, v, rfl, hp v w w2 _ hR ⟨ok.mv.after hs, ok.mv.bdd, ok.size, ok.sn.size, fun k hk => ok.locs.lt hk⟩ (fun k hk => .inl (ok.sub k hk)), (ok.after hs).sn⟩ _
  | outgrown => exact he.elim

theorem J.callE {fn : Func} {R' Rp' : Value → World → Prop} {g : FuncId} {args : List Value} {d : Option Nat} {R Rp : World → (Nat → Prop) → Value → World → Prop} (hc : callOf P B s.env ρ n k j = some (g, args, d))
    (h : ∀ w1 A1, Mv (Lb ρ) A A1 w0 w1 → Locs s.mem ρ w1 → Calls P g args.toArray w1 (EndR nobody w1 (R w1 A1) (Rp w1 A1)))
    (hk : ∀ v w1 w2 A1, R w1 A1 v w2 → Cg W ρ A A1 w0 w1 w2 → J P B (bodyPost P fn (EndR M W R' Rp')) n W Ac M (.o k (j + 1) :: r) ⟨putO s.env d (.v v), s.mem⟩ ρ A1 w2)
    (hp : ∀ v w1 w2 A1, Rp w1 A1 v w2 → Cg W ρ A A1 w0 w1 w2 → (∀ k, Ac k → A1 k) → Rp' v w2) :
    J P B (bodyPost P fn (EndR M W R' Rp')) n W Ac M (.o k j :: r) s ρ A w0 := by
  obtain ⟨o, ho, hd, hdn, hrun⟩ := callOf_spec hc
  exact J.callEG .text Cl.top ho hd hdn hrun h hk hp
theorem J.callEq {done : List Nat} {ws : World} {X : Nat → Prop} {fn : Func} {R' Rp' : Value → World → Prop} {g : FuncId} {args : List Value} {d : Option Nat} {R Rp : World → (Nat → Prop) → Value → World → Prop} (hc : callOf P B s.env ρ n k j = some (g, args, d))
    (h : ∀ w1 A1, Mv (Lb ρ) A A1 w0 w1 → Locs s.mem ρ w1 → Calls P g args.toArray w1 (EndR nobody w1 (R w1 A1) (Rp w1 A1)))
    (hk : ∀ v w1 w2 A1, R w1 A1 v w2 → Cg W ρ A A1 w0 w1 w2 → J P B (bodyPost P fn (EndR M W R' Rp')) n W Ac M (.p k (j :: done) (Snap ws X) :: r) ⟨putO s.env d (.v v), s.mem⟩ ρ A1 w2)
    (hp : ∀ v w1 w2 A1, Rp w1 A1 v w2 → Cg W ρ A A1 w0 w1 w2 → (∀ k, Ac k → A1 k) → Rp' v w2) :
    J P B (bodyPost P fn (EndR M W R' Rp')) n W Ac M (.q k done j (Snap ws X) :: r) s ρ A w0 := by
  obtain ⟨o, ho, hd, hdn, hrun⟩ := callOf_spec hc
  exact J.callEG (.drawn done _) (Cl.snap ws X) ho hd hdn hrun h hk hp
/-- The same for a function that is a value. -/
theorem J.callVE {fn : Func} {R' Rp' : Value → World → Prop} {g : FuncId} {args cb : List Value} {d : Option Nat} {R Rp : World → (Nat → Prop) → Value → World → Prop} (hc : callVOf B s.env ρ n k j = some (g, args, cb, d)) (heg : ∀ args w, (callFunc g args).run P w = .ok (.enter g args) w)
    (h : ∀ w1 A1, Mv (Lb ρ) A A1 w0 w1 → Locs s.mem ρ w1 → Calls P g (args ++ cb).toArray w1 (EndR nobody w1 (R w1 A1) (Rp w1 A1)))
    (hk : ∀ v w1 w2 A1, R w1 A1 v w2 → Cg W ρ A A1 w0 w1 w2 → J P B (bodyPost P fn (EndR M W R' Rp')) n W Ac M (.o k (j + 1) :: r) ⟨putO s.env d (.v v), s.mem⟩ ρ A1 w2)
    (hp : ∀ v w1 w2 A1, Rp w1 A1 v w2 → Cg W ρ A A1 w0 w1 w2 → (∀ k, Ac k → A1 k) → Rp' v w2) :
    J P B (bodyPost P fn (EndR M W R' Rp')) n W Ac M (.o k j :: r) s ρ A w0 := by
  obtain ⟨o, ho, hd, hdn, hrun⟩ := callVOf_spec hc heg
  exact J.callEG .text Cl.top ho hd hdn hrun h hk hp
/-- In a region that draws. -/
theorem J.callVq {done : List Nat} {ws : World} {X : Nat → Prop} {g : FuncId} {args cb : List Value} {d : Option Nat} {R : World → (Nat → Prop) → Value → World → Prop} (hc : callVOf B s.env ρ n k j = some (g, args, cb, d)) (heg : ∀ args w, (callFunc g args).run P w = .ok (.enter g args) w)
    (h : ∀ w1 A1, Mv (Lb ρ) A A1 w0 w1 → Locs s.mem ρ w1 → Calls P g (args ++ cb).toArray w1 (Ret nobody w1 (R w1 A1)))
    (hk : ∀ v w1 w2 A1, R w1 A1 v w2 → Cg W ρ A A1 w0 w1 w2 → J P B Q n W Ac M (.p k (j :: done) (Snap ws X) :: r) ⟨putO s.env d (.v v), s.mem⟩ ρ A1 w2) :
    J P B Q n W Ac M (.q k done j (Snap ws X) :: r) s ρ A w0 := by
  obtain ⟨o, ho, hd, hdn, hrun⟩ := callVOf_spec hc heg
  refine J.act (.drawn done _) ho fun a w ok hS => ?_
  unfold Oper.wp
  rw [hrun a w ok.fits]
  simp only [Oper.upon]
  refine (h w _ ok.mv ok.locs).mono ?_
  rintro e w2 ⟨v, rfl, hR, hs⟩
  simp only
  have hok := ok.after hs
  refine ⟨(Cl.snap ws X).call _ _ hS hs, hk v w w2 _ hR ⟨ok.mv.after hs, ok.mv.bdd, ok.size, ok.sn.size, fun k hk => ok.locs.lt hk⟩ _ _ ?_⟩
  rw [hd]
  cases d with
  | none => exact hok
  | some d => exact hok.put (x := .v v) (hdn d rfl) (plain_grd rfl) rfl
end
end Go.Proofs.Ytkgokehkobifkaa.J

/- Package clash: compare; what is to be compared, kept as functions. -/
namespace Go.Proofs.Ytkgokehkobifkaa.J
open Go Go.RowKit

def encV (v : Value) : List Value := [v]
theorem one0 {α : Type} (x : α) : [x][0]? = some x := rfl

theorem Sl.dg0 {A : Nat → Prop} {w : World} {b : Nat} {d : Dg} (h : Sl 32 dcells A w (some ⟨b, 0, none⟩) 1 1 [d]) : Ld Pr w 34 b 0 (.agg (dcells d).toArray) := by
  have q := h.ld (P := Pr) (t := 34) (by kernel_rfl) (one0 d) (by kernel_rfl)
  exact q

/-- What compare panics with. -/
def ClV (A : Nat → Prop) (w : World) (v : Value) (xs ys : List UInt8) : Prop := ∃ a n c b m d, v = .iface 128 (.agg #[.slice a n c, .slice b m d]) ∧ Sl 1 u8 A w a n c xs ∧ Sl 1 u8 A w b m d ys

theorem ClV.weaken {A A1 : Nat → Prop} {w : World} {v : Value} {xs ys : List UInt8} (h : ClV A w v xs ys) (hA : ∀ k, A1 k → A k) : ClV A1 w v xs ys :=
  let ⟨a, n, c, b, m, d, e, h1, h2⟩ := h; ⟨a, n, c, b, m, d, e, h1.weaken hA, h2.weaken hA⟩
theorem ClV.mv {X A A1 : Nat → Prop} {w w1 : World} {v : Value} {xs ys : List UInt8} (h : ClV A w v xs ys) (m : Mv X A A1 w w1) : ClV A1 w1 v xs ys :=
  let ⟨a, n, c, b, k, d, e, h1, h2⟩ := h; ⟨a, n, c, b, k, d, e, h1.mv m, h2.mv m⟩

theorem cmpTexts_calls (a : Option Addr) (n c : Nat) (xs : List UInt8) (b : Option Addr) (m d : Nat) (ys : List UInt8) (Ac : Nat → Prop) (W : World) (hA : ∀ k, Ac k → k < W.heap.size) (ha : Sl 1 u8 Ac W a n c xs) (hb : Sl 1 u8 Ac W b m d ys) :
    Calls Pr 43 #[.slice a n c, .slice b m d] W (EndR nobody W (fun v w => xs = ys) (fun v w => xs ≠ ys ∧ ClV Ac w v xs ys)) := by
  refine J.enterQ (M := nobody) (fn := Try.f43) (n := 12) Try.func43 (by kernel_rfl) (by kernel_rfl) (by kernel_rfl) hA ?_
  refine J.rn [.n, .n, .u, .u] [0, 1, 4, 5] [.c 0] [.o 1 2, .c 2] (by kernel_rfl) ?_
  refine J.call (d := some 6) (by kernel_rfl) (fun w1 A1 m1 l1 => bytesEqual_calls a n c xs b m d ys nobody w1 noA (ha.mv m1).any (hb.mv m1).any) ?_
  rintro _ u1 w1 A1 rfl g1
  have m1 := g1.mv
  replace ha := ha.mv m1; replace hb := hb.mv m1
  refine J.rn [.u, .n] [0, 1, 7] [.o 1 3, .c 2] [.c 2] (by kernel_rfl) ?_
  refine J.cond (b := (!(seq (strOf xs) (strOf ys)))) (k' := 4) (by kernel_rfl) (fun hc => ?_) (fun hc => ?_)
  · try simp only [nrm] at hc
    have hc1 := hc
    refine J.rn [.n, .u, .u, .u, .u] [11] [.c 3] [.o 3 4] (by kernel_rfl) ?_
    refine J.panic (v := (.iface 128 (.agg [.slice a n c, .slice b m d].toArray))) (by kernel_rfl) (fun w1 A1 m1 hac l1 => ⟨by rw [strOf_seq] at hc1; simpa using hc1, a, n, c, b, m, d, rfl, (ha.mv m1).weaken hac, (hb.mv m1).weaken hac⟩)
  · try simp only [nrm] at hc
    have hc1 := hc
    refine J.run [.n] [] ⟨[], []⟩ [.c 4] [] (by kernel_rfl) ?_
    refine J.endE (v := .tuple #[]) (by kernel_rfl) (fun w1 A1 m1 hac l1 => by rw [strOf_seq] at hc1; simpa using hc1)
theorem leafCheck_calls (b1 b2 : Nat) (la : Option Addr) (ln lc : Nat) (leaf : List UInt8) (hln : ln ≤ 1000000) (a : Option Addr) (n c : Nat) (ls : List (List UInt8)) (x : List UInt8) (Ac : Nat → Prop) (W : World) (hA : ∀ k, Ac k → k < W.heap.size) (h1 : Sl 1 encV Ac W (some ⟨b1, 0, none⟩) 1 1 [(.slice la ln lc)]) (hl : Sl 1 u8 Ac W la ln lc leaf) (h2 : Sl 1 encV Ac W (some ⟨b2, 0, none⟩) 1 1 [(.slice a n c)]) (hr : Rows Ac W a n c ls) (hx : ls[0]? = some x) (hsh : Short ls) :
    Calls Pr 42 #[.pointer (some ⟨b1, 0, none⟩), .pointer (some ⟨b2, 0, none⟩)] W (EndR nobody W (fun v w => (0 :: leaf) = (0 :: x)) (fun v w => (0 :: leaf) ≠ (0 :: x) ∧ ClV Ac w v (0 :: leaf) (0 :: x))) := by
  refine J.enterQ (M := nobody) (fn := Try.f42) (n := 9) Try.func42 (by kernel_rfl) (by kernel_rfl) (by kernel_rfl) hA ?_
  have hlen := hr.len; have hpos : 0 < ls.length := (List.getElem?_eq_some_iff.1 hx).1
  refine J.draw [] nobody (by kernel_rfl) (by kernel_rfl) (fun _ h => h.elim) (fun w1 A1 m1 hr1 hX1 => ?_)
  replace h1 := h1.mv m1; replace h2 := h2.mv m1; replace hl := hl.mv m1; replace hr := hr.mv m1
  refine J.ldp (i := 0) (T := 23) (b := b1) (off := 0) (d := 2) (v := .slice la ln lc) (calm_body _ _ _) (by kernel_rfl) (by kernel_rfl) hX1 (fun w1 m1 => (h1.mv m1).ld1 (by kernel_rfl) (one0 _) (j := 0) rfl) ?_
  refine J.ldp (i := 2) (T := 47) (b := b2) (off := 0) (d := 4) (v := .slice a n c) (calm_body _ _ _) (by kernel_rfl) (by kernel_rfl) hX1 (fun w1 m1 => (h2.mv m1).ld1 (by kernel_rfl) (one0 _) (j := 0) rfl) ?_
  obtain ⟨p1, o1, rfl⟩ := hr.addr (by omega)
  refine J.idxp (j := 3) (b := p1) (off := o1) (len := n) (i := 0) (sz := 1) (d := 5) (calm_body _ _ _) (by kernel_rfl) (by kernel_rfl) (by omega) (by omega) ?_
  obtain ⟨ra1, rn1, rc1, hrow1, hld1⟩ := hr.row hx
  have hshhrow1 := (Short.at (by assumption) hx : x.length ≤ 1000000); have hllhrow1 := hrow1.len
  refine J.ldp (i := 4) (T := 23) (b := p1) (off := o1 + 0 * 1) (d := 6) (v := .slice ra1 rn1 rc1) (calm_body _ _ _) (by kernel_rfl) (by kernel_rfl) hX1 (fun w1 m1 => hld1 _ _ _ m1 _ _ (by kernel_rfl)) ?_
  refine J.pick1 1 (by kernel_rfl) (by kernel_rfl) ?_
  refine J.callq (d := some 3) (by kernel_rfl) (fun w1 A1 m1 l1 => leafText_calls la ln lc leaf (by omega) nobody w1 noA (hl.mv m1).any) ?_
  rintro _ u1 w2 A2 ⟨a1, n1, c1, rfl, hx1⟩ g1
  have m2 := g1.mv
  replace h1 := h1.mv m2; replace h2 := h2.mv m2; replace hl := hl.mv m2; replace hr := hr.mv m2; replace hrow1 := hrow1.mv m2
  have hs1 : Sl 1 u8 A2 w2 a1 n1 c1 (0 :: leaf) := hx1 A2 g1.bd
  have hbbhs1 := g1.big
  refine J.pick1 5 (by kernel_rfl) (by kernel_rfl) ?_
  refine J.callq (d := some 7) (by kernel_rfl) (fun w1 A1 m1 l1 => leafText_calls ra1 rn1 rc1 x (by omega) nobody w1 noA (hrow1.mv m1).any) ?_
  rintro _ u2 w3 A3 ⟨a2, n2, c2, rfl, hx2⟩ g2
  have m3 := g2.mv
  replace h1 := h1.mv m3; replace h2 := h2.mv m3; replace hl := hl.mv m3; replace hr := hr.mv m3; replace hrow1 := hrow1.mv m3; replace hs1 := hs1.mv m3
  have hs2 : Sl 1 u8 A3 w3 a2 n2 c2 (0 :: x) := hx2 A3 g2.bd
  have hbbhs2 := g2.big
  refine J.pick1 6 (by kernel_rfl) (by kernel_rfl) ?_
  refine J.callEq (d := some 8) (by kernel_rfl) (fun w1 A1 m1 l1 => cmpTexts_calls a1 n1 c1 (0 :: leaf) a2 n2 c2 (0 :: x) A1 w1 m1.bdd (hs1.mv m1) (hs2.mv m1)) ?_ (fun v w1 w2 A1 hp g hac => ⟨hp.1, hp.2.weaken hac⟩)
  rintro _ u3 w4 A4 hq g3
  have m4 := g3.mv
  replace h1 := h1.mv m4; replace h2 := h2.mv m4; replace hl := hl.mv m4; replace hr := hr.mv m4; replace hrow1 := hrow1.mv m4; replace hs1 := hs1.mv m4; replace hs2 := hs2.mv m4
  refine J.pdone (by kernel_rfl) ?_
  refine J.endE (v := .tuple #[]) (by kernel_rfl) (fun w1 A1 m1 hac l1 => hq)
theorem leftCheck_calls (b1 b2 b3 b4 : Nat) (h d l r : Dg) (Ac : Nat → Prop) (W : World) (hA : ∀ k, Ac k → k < W.heap.size) (h1 : Sl 32 dcells Ac W (some ⟨b1, 0, none⟩) 1 1 [h]) (h2 : Sl 32 dcells Ac W (some ⟨b2, 0, none⟩) 1 1 [d]) (h3 : Sl 32 dcells Ac W (some ⟨b3, 0, none⟩) 1 1 [l]) (h4 : Sl 32 dcells Ac W (some ⟨b4, 0, none⟩) 1 1 [r]) :
    Calls Pr 47 #[.pointer (some ⟨b1, 0, none⟩), .pointer (some ⟨b2, 0, none⟩), .pointer (some ⟨b3, 0, none⟩), .pointer (some ⟨b4, 0, none⟩)] W (EndR nobody W (fun v w => (1 :: (dbytes h ++ dbytes d)) = (1 :: (dbytes l ++ dbytes r))) (fun v w => (1 :: (dbytes h ++ dbytes d)) ≠ (1 :: (dbytes l ++ dbytes r)) ∧ ClV Ac w v (1 :: (dbytes h ++ dbytes d)) (1 :: (dbytes l ++ dbytes r)))) := by
  refine J.enterQ (M := nobody) (fn := Try.f47) (n := 11) Try.func47 (by kernel_rfl) (by kernel_rfl) (by kernel_rfl) hA ?_
  refine J.draw [] nobody (by kernel_rfl) (by kernel_rfl) (fun _ h => h.elim) (fun w1 A1 m1 hr1 hX1 => ?_)
  replace h1 := h1.mv m1; replace h2 := h2.mv m1; replace h3 := h3.mv m1; replace h4 := h4.mv m1
  refine J.ldp (i := 0) (T := 34) (b := b1) (off := 0) (d := 4) (v := .agg (dcells h).toArray) (calm_body _ _ _) (by kernel_rfl) (by kernel_rfl) hX1 (fun w1 m1 => (h1.mv m1).dg0) ?_
  refine J.ldp (i := 1) (T := 34) (b := b2) (off := 0) (d := 5) (v := .agg (dcells d).toArray) (calm_body _ _ _) (by kernel_rfl) (by kernel_rfl) hX1 (fun w1 m1 => (h2.mv m1).dg0) ?_
  refine J.ldp (i := 3) (T := 34) (b := b3) (off := 0) (d := 7) (v := .agg (dcells l).toArray) (calm_body _ _ _) (by kernel_rfl) (by kernel_rfl) hX1 (fun w1 m1 => (h3.mv m1).dg0) ?_
  refine J.ldp (i := 4) (T := 34) (b := b4) (off := 0) (d := 8) (v := .agg (dcells r).toArray) (calm_body _ _ _) (by kernel_rfl) (by kernel_rfl) hX1 (fun w1 m1 => (h4.mv m1).dg0) ?_
  refine J.pick1 2 (by kernel_rfl) (by kernel_rfl) ?_
  refine J.callq (d := some 6) (by kernel_rfl) (fun w1 A1 m1 l1 => nodeText_calls h d nobody w1 noA) ?_
  rintro _ u1 w2 A2 ⟨a1, n1, c1, rfl, hx1⟩ g1
  have m2 := g1.mv
  replace h1 := h1.mv m2; replace h2 := h2.mv m2; replace h3 := h3.mv m2; replace h4 := h4.mv m2
  have hs1 : Sl 1 u8 A2 w2 a1 n1 c1 (1 :: (dbytes h ++ dbytes d)) := hx1 A2 g1.bd
  have hbbhs1 := g1.big
  refine J.pick1 5 (by kernel_rfl) (by kernel_rfl) ?_
  refine J.callq (d := some 9) (by kernel_rfl) (fun w1 A1 m1 l1 => nodeText_calls l r nobody w1 noA) ?_
  rintro _ u2 w3 A3 ⟨a2, n2, c2, rfl, hx2⟩ g2
  have m3 := g2.mv
  replace h1 := h1.mv m3; replace h2 := h2.mv m3; replace h3 := h3.mv m3; replace h4 := h4.mv m3; replace hs1 := hs1.mv m3
  have hs2 : Sl 1 u8 A3 w3 a2 n2 c2 (1 :: (dbytes l ++ dbytes r)) := hx2 A3 g2.bd
  have hbbhs2 := g2.big
  refine J.pick1 6 (by kernel_rfl) (by kernel_rfl) ?_
  refine J.callEq (d := some 10) (by kernel_rfl) (fun w1 A1 m1 l1 => cmpTexts_calls a1 n1 c1 (1 :: (dbytes h ++ dbytes d)) a2 n2 c2 (1 :: (dbytes l ++ dbytes r)) A1 w1 m1.bdd (hs1.mv m1) (hs2.mv m1)) ?_ (fun v w1 w2 A1 hp g hac => ⟨hp.1, hp.2.weaken hac⟩)
  rintro _ u3 w4 A4 hq g3
  have m4 := g3.mv
  replace h1 := h1.mv m4; replace h2 := h2.mv m4; replace h3 := h3.mv m4; replace h4 := h4.mv m4; replace hs1 := hs1.mv m4; replace hs2 := hs2.mv m4
  refine J.pdone (by kernel_rfl) ?_
  refine J.endE (v := .tuple #[]) (by kernel_rfl) (fun w1 A1 m1 hac l1 => hq)
theorem rightCheck_calls (b1 b2 b3 b4 : Nat) (h d l r : Dg) (Ac : Nat → Prop) (W : World) (hA : ∀ k, Ac k → k < W.heap.size) (h1 : Sl 32 dcells Ac W (some ⟨b1, 0, none⟩) 1 1 [d]) (h2 : Sl 32 dcells Ac W (some ⟨b2, 0, none⟩) 1 1 [h]) (h3 : Sl 32 dcells Ac W (some ⟨b3, 0, none⟩) 1 1 [l]) (h4 : Sl 32 dcells Ac W (some ⟨b4, 0, none⟩) 1 1 [r]) :
    Calls Pr 49 #[.pointer (some ⟨b1, 0, none⟩), .pointer (some ⟨b2, 0, none⟩), .pointer (some ⟨b3, 0, none⟩), .pointer (some ⟨b4, 0, none⟩)] W (EndR nobody W (fun v w => (1 :: (dbytes d ++ dbytes h)) = (1 :: (dbytes l ++ dbytes r))) (fun v w => (1 :: (dbytes d ++ dbytes h)) ≠ (1 :: (dbytes l ++ dbytes r)) ∧ ClV Ac w v (1 :: (dbytes d ++ dbytes h)) (1 :: (dbytes l ++ dbytes r)))) := by
  refine J.enterQ (M := nobody) (fn := Try.f49) (n := 11) Try.func49 (by kernel_rfl) (by kernel_rfl) (by kernel_rfl) hA ?_
  refine J.draw [] nobody (by kernel_rfl) (by kernel_rfl) (fun _ h => h.elim) (fun w1 A1 m1 hr1 hX1 => ?_)
  replace h1 := h1.mv m1; replace h2 := h2.mv m1; replace h3 := h3.mv m1; replace h4 := h4.mv m1
  refine J.ldp (i := 0) (T := 34) (b := b1) (off := 0) (d := 4) (v := .agg (dcells d).toArray) (calm_body _ _ _) (by kernel_rfl) (by kernel_rfl) hX1 (fun w1 m1 => (h1.mv m1).dg0) ?_
  refine J.ldp (i := 1) (T := 34) (b := b2) (off := 0) (d := 5) (v := .agg (dcells h).toArray) (calm_body _ _ _) (by kernel_rfl) (by kernel_rfl) hX1 (fun w1 m1 => (h2.mv m1).dg0) ?_
  refine J.ldp (i := 3) (T := 34) (b := b3) (off := 0) (d := 7) (v := .agg (dcells l).toArray) (calm_body _ _ _) (by kernel_rfl) (by kernel_rfl) hX1 (fun w1 m1 => (h3.mv m1).dg0) ?_
  refine J.ldp (i := 4) (T := 34) (b := b4) (off := 0) (d := 8) (v := .agg (dcells r).toArray) (calm_body _ _ _) (by kernel_rfl) (by kernel_rfl) hX1 (fun w1 m1 => (h4.mv m1).dg0) ?_
  refine J.pick1 2 (by kernel_rfl) (by kernel_rfl) ?_
  refine J.callq (d := some 6) (by kernel_rfl) (fun w1 A1 m1 l1 => nodeText_calls d h nobody w1 noA) ?_
  rintro _ u1 w2 A2 ⟨a1, n1, c1, rfl, hx1⟩ g1
  have m2 := g1.mv
  replace h1 := h1.mv m2; replace h2 := h2.mv m2; replace h3 := h3.mv m2; replace h4 := h4.mv m2
  have hs1 : Sl 1 u8 A2 w2 a1 n1 c1 (1 :: (dbytes d ++ dbytes h)) := hx1 A2 g1.bd
  have hbbhs1 := g1.big
  refine J.pick1 5 (by kernel_rfl) (by kernel_rfl) ?_
  refine J.callq (d := some 9) (by kernel_rfl) (fun w1 A1 m1 l1 => nodeText_calls l r nobody w1 noA) ?_
  rintro _ u2 w3 A3 ⟨a2, n2, c2, rfl, hx2⟩ g2
  have m3 := g2.mv
  replace h1 := h1.mv m3; replace h2 := h2.mv m3; replace h3 := h3.mv m3; replace h4 := h4.mv m3; replace hs1 := hs1.mv m3
  have hs2 : Sl 1 u8 A3 w3 a2 n2 c2 (1 :: (dbytes l ++ dbytes r)) := hx2 A3 g2.bd
  have hbbhs2 := g2.big
  refine J.pick1 6 (by kernel_rfl) (by kernel_rfl) ?_
  refine J.callEq (d := some 10) (by kernel_rfl) (fun w1 A1 m1 l1 => cmpTexts_calls a1 n1 c1 (1 :: (dbytes d ++ dbytes h)) a2 n2 c2 (1 :: (dbytes l ++ dbytes r)) A1 w1 m1.bdd (hs1.mv m1) (hs2.mv m1)) ?_ (fun v w1 w2 A1 hp g hac => ⟨hp.1, hp.2.weaken hac⟩)
  rintro _ u3 w4 A4 hq g3
  have m4 := g3.mv
  replace h1 := h1.mv m4; replace h2 := h2.mv m4; replace h3 := h3.mv m4; replace h4 := h4.mv m4; replace hs1 := hs1.mv m4; replace hs2 := hs2.mv m4
  refine J.pdone (by kernel_rfl) ?_
  refine J.endE (v := .tuple #[]) (by kernel_rfl) (fun w1 A1 m1 hac l1 => hq)
end Go.Proofs.Ytkgokehkobifkaa.J

/- Package clash: the comparisons that are kept, and their run from the last one on. -/
namespace Go.Proofs.Ytkgokehkobifkaa.J
open Go Go.RowKit

abbrev Txts := List UInt8 × List UInt8
/-- A function that compares the two texts p. -/
def Chk (A : Nat → Prop) (w : World) (f : Value) (p : Txts) : Prop := ∃ g cb, f = .func (.func g) #[] (cb : List Value).toArray ∧ (∀ args w, (callFunc g args).run Pr w = .ok (.enter g args) w) ∧
  ∀ X A1 w1, Mv X A A1 w w1 → Calls Pr g ([] ++ cb).toArray w1 (EndR nobody w1 (fun _ _ => p.1 = p.2) (fun v w2 => p.1 ≠ p.2 ∧ ClV A1 w2 v p.1 p.2))
theorem Mv.trans' {X Y A A1 A2 : Nat → Prop} {w w1 w2 : World} (m : Mv X A A1 w w1) (n : Mv Y A1 A2 w1 w2) : Mv (fun k => X k ∨ (Y k ∧ A k)) A A2 w w2 where
  size := Nat.le_trans m.size n.size
  same k hk hx := by
    rw [n.same k (Nat.lt_of_lt_of_le hk m.size) (fun hy => hx (.inr ⟨hy, m.dn k hk (n.sub k hy (Nat.lt_of_lt_of_le hk m.size))⟩)), m.same k hk (fun h => hx (.inl h))]
  sub k h hk := h.elim (fun x => m.sub k x hk) (fun y => y.2)
  dn k hk h := m.dn k hk (n.dn k (Nat.lt_of_lt_of_le hk m.size) h)
  up k hk h hx := n.up k (Nat.lt_of_lt_of_le hk m.size) (m.up k hk h (fun x => hx (.inl x))) (fun y => hx (.inr ⟨y, h⟩))
  bdd := n.bdd
theorem Chk.mv {X A A1 : Nat → Prop} {w w1 : World} {f : Value} {p : Txts} (h : Chk A w f p) (m : Mv X A A1 w w1) : Chk A1 w1 f p :=
  let ⟨g, cb, e, eg, hc⟩ := h; ⟨g, cb, e, eg, fun _ A2 w2 m2 => hc _ A2 w2 (m.trans' m2)⟩
/-- A slice of such functions. -/
structure Chks (A : Nat → Prop) (w : World) (a : Option Addr) (n c : Nat) (fs : List Value) (ps : List Txts) : Prop where
  sl : Sl 1 encV A w a n c fs
  len : ps.length = fs.length
  each : ∀ (i : Nat) (f : Value) (p : Txts), fs[i]? = some f → ps[i]? = some p → Chk A w f p
theorem Chks.mv {X A A1 : Nat → Prop} {w w1 : World} {a : Option Addr} {n c : Nat} {fs : List Value} {ps : List Txts} (h : Chks A w a n c fs ps) (m : Mv X A A1 w w1) : Chks A1 w1 a n c fs ps :=
  ⟨h.sl.mv m, h.len, fun i f p hf hp => (h.each i f p hf hp).mv m⟩
/-- All from i on are alike. -/
def alikeFrom (ps : List Txts) (i : Nat) : Prop := ∀ j q, i ≤ j → ps[j]? = some q → q.1 = q.2
/-- The last pair that is unlike. -/
def lastUn (ps : List Txts) (p : Txts) : Prop := ∃ i, ps[i]? = some p ∧ p.1 ≠ p.2 ∧ alikeFrom ps (i + 1)
theorem alikeFrom.step {ps : List Txts} {i : Nat} {p : Txts} (h : alikeFrom ps (i + 1)) (hp : ps[i]? = some p) (he : p.1 = p.2) : alikeFrom ps i := by
  intro j q hj hq
  rcases Nat.lt_or_ge i j with h1 | h1
  · exact h j q h1 hq
  · obtain rfl : j = i := by omega
    rw [hp] at hq; cases hq; exact he

theorem runBack_calls (b1 : Nat) (a : Option Addr) (n c : Nat) (fs : List Value) (ps : List Txts) (hn : n ≤ 2000000) (Ac : Nat → Prop) (W : World) (hA : ∀ k, Ac k → k < W.heap.size) (h1 : Sl 1 encV Ac W (some ⟨b1, 0, none⟩) 1 1 [(.slice a n c)]) (hs : Chks Ac W a n c fs ps) :
    Calls Pr 51 #[.pointer (some ⟨b1, 0, none⟩)] W (EndR nobody W (fun v w => alikeFrom ps 0) (fun v w => ∃ p, lastUn ps p ∧ ClV Ac w v p.1 p.2)) := by
  refine J.enterQ (M := nobody) (fn := Try.f51) (n := 14) Try.func51 (by kernel_rfl) (by kernel_rfl) (by kernel_rfl) hA ?_
  have hlen := hs.sl.len; have hpl := hs.len
  refine J.rn [.n, .n] [0] [.c 0] [.o 1 0, .c 2] (by kernel_rfl) ?_
  refine J.ld (T := 85) (b := b1) (off := 0) (d := 2) (v := .slice a n c) (by kernel_rfl) (fun w1 A1 m1 l1 => (h1.mv m1).ld1 (by kernel_rfl) (one0 _) (j := 0) rfl) ?_
  refine J.run [.u, .u, .u, .n, .n] [0, 1] ⟨[(0, .v (.pointer (some ⟨b1, 0, none⟩))), (1, .v (.int .i64 (IntKind.i64.wrap (((n : Nat) : Int) - 1))))], []⟩ [.o 1 1, .c 2] [.c 3, .b 0] (by kernel_rfl) ?_
  have hw1 : IntKind.i64.wrap (((n : Nat) : Int) - 1) = (((n : Nat) : Int) - 1) := by rw [wrap_i64 (by omega) (by omega)]
  rw [hw1]
  refine J.loop (X := Nat) (fun i => ⟨[(0, .v (.pointer (some ⟨b1, 0, none⟩))), (1, .v (.int .i64 (((i : Nat) : Int) - 1)))], []⟩) (fun i A w => i ≤ n ∧ alikeFrom ps i ∧ Sl 1 encV A w (some ⟨b1, 0, none⟩) 1 1 [(.slice a n c)] ∧ Chks A w a n c fs ps) (fun i => i) [0, 1] 0 [] n (by kernel_rfl) (by kernel_rfl) (by kernel_rfl) (fun w1 A1 m1 => ⟨Nat.le_refl _, fun j q hj hq => absurd (List.getElem?_eq_some_iff.1 hq).1 (by omega), h1.mv m1, hs.mv m1⟩) (fun i A1 w1 hI => ?_)
  obtain ⟨hin, hal, h1, hs⟩ := hI
  refine J.run [.n, .n, .n, .u, .u, .n] [0, 1, 6] ⟨[(0, .v (.pointer (some ⟨b1, 0, none⟩))), (1, .v (.int .i64 (((i : Nat) : Int) - 1))), (6, .v (.bool (decide ((((i : Nat) : Int) - 1) ≥ 0))))], []⟩ [.c 4] [.c 7, .c 10] (by kernel_rfl) ?_
  refine J.cond (b := (decide ((((i : Nat) : Int) - 1) ≥ 0))) (k' := 9) (by kernel_rfl) (fun hc => ?_) (fun hc => ?_)
  · try simp only [nrm] at hc
    have hc1 := hc
    refine J.rn [.n, .n, .n, .n] [0, 1] [.c 8, .c 10] [.o 12 0, .b 1, .c 13] (by kernel_rfl) ?_
    refine J.ld (T := 85) (b := b1) (off := 0) (d := 9) (v := .slice a n c) (by kernel_rfl) (fun w1 A1 m1 l1 => (h1.mv m1).ld1 (by kernel_rfl) (one0 _) (j := 0) rfl) ?_
    refine J.run [.u] [0, 1, 9, 10] ⟨[(0, .v (.pointer (some ⟨b1, 0, none⟩))), (1, .v (.int .i64 (((i : Nat) : Int) - 1))), (9, .v (.slice a n c)), (10, .v (.int .i64 (((i : Nat) : Int) - 1)))], []⟩ [.o 12 1, .b 1, .c 13] [.o 12 2, .b 1, .c 13] (by kernel_rfl) ?_
    have hi0 : 0 < i := by omega
    obtain ⟨i, rfl⟩ : ∃ z, i = z + 1 := ⟨i - 1, by omega⟩
    have hwi : (((i + 1 : Nat) : Int)) - 1 = ((i : Nat) : Int) := by omega
    rw [hwi]
    have hfl := hs.sl
    obtain ⟨p1, o1, rfl⟩ := hfl.addr (by omega)
    obtain ⟨fv, hfv⟩ : ∃ zq, fs[i]? = some zq := ⟨_, List.getElem?_eq_getElem (by omega)⟩
    obtain ⟨tp, htp⟩ : ∃ zq, ps[i]? = some zq := ⟨_, List.getElem?_eq_getElem (by omega)⟩
    obtain ⟨gf, cb, rfl, heg, hcall⟩ := hs.each i fv tp hfv htp
    refine J.idx (b := p1) (off := o1) (len := n) (i := ((i : Nat) : Int)) (sz := 1) (d := 11) (by kernel_rfl) (by omega) (by omega) ?_
    refine J.ld (T := 1) (b := p1) (off := o1 + i * 1) (d := 12) (v := (.func (.func gf) #[] cb.toArray)) (by kernel_rfl) (fun w1 A1 m1 l1 => (hfl.mv m1).ld1 (by kernel_rfl) hfv (j := 0) rfl) ?_
    refine J.callVE (d := some 13) (by kernel_rfl) (g := gf) (cb := cb) (args := []) (R := fun _ _ _ _ => tp.1 = tp.2) (Rp := fun _ A1 v w2 => tp.1 ≠ tp.2 ∧ ClV A1 w2 v tp.1 tp.2) heg (fun w1 A1 m1 l1 => hcall _ A1 w1 m1) ?_ (fun v w1 w2 A1 hp g hac => ⟨tp, ⟨i, htp, hp.1, hal⟩, hp.2.weaken hac⟩)
    rintro _ u1 w2 A2 hq g1
    have m1 := g1.mv
    replace h1 := h1.mv m1; replace hs := hs.mv m1; replace hfl := hfl.mv m1
    refine J.run [.n, .n, .n, .u, .u, .u, .n] [0, 1] ⟨[(0, .v (.pointer (some ⟨b1, 0, none⟩))), (1, .v (.int .i64 (IntKind.i64.wrap (((i : Nat) : Int) - 1))))], []⟩ [.o 12 5, .b 1, .c 13] [] (by kernel_rfl) ?_
    have hw2 : IntKind.i64.wrap (((i : Nat) : Int) - 1) = (((i : Nat) : Int) - 1) := by rw [wrap_i64 (by omega) (by omega)]
    rw [hw2]
    exact J.again i [0, 1] 0 (by omega) (by kernel_rfl) (by kernel_rfl) (fun w1 A1 m1 => ⟨by omega, hal.step htp hq, h1.mv m1, hs.mv m1⟩)
  · try simp only [nrm] at hc
    have hc1 := hc
    refine J.exit (id := 0) (by kernel_rfl) (by rfl) ?_
    obtain rfl : i = 0 := by omega
    refine J.endE (v := .tuple #[]) (by kernel_rfl) (fun w1 A1 m1 hac l1 => hal)
end Go.Proofs.Ytkgokehkobifkaa.J

/- Package clash: what is panicked with is laid into the results. -/
namespace Go.Proofs.Ytkgokehkobifkaa.J
open Go Go.RowKit

def resM (b2 b3 b4 : Nat) (k : Nat) : Prop := k = b2 ∨ k = b3 ∨ k = b4

theorem rescue_walk (b2 b3 b4 : Nat) (a : Option Addr) (n c : Nat) (b : Option Addr) (m d : Nat) (Q : Exit → Act → World → Prop) (Ac : Nat → Prop) (W : World)
    (hcalm : CalmQ Q) (hQ : ∀ q w, q.defers = [] → Sn (resM b2 b3 b4) W w → w.heap[b2]? = some (.cells #[.slice a n c] 23 (0, 0)) → w.heap[b3]? = some (.cells #[.slice b m d] 23 (0, 0)) → w.heap[b4]? = some (.cells #[.bool true] 4 (0, 0)) → Q .normal q w) :
    J Pr (bodyOf Try.f83) Q 16 W Ac (resM b2 b3 b4) [.c 2] ⟨[(0, .loc 0 0), (1, .loc 1 0), (2, .loc 2 0), (6, .v ((.iface 128 (.agg [.slice a n c, .slice b m d].toArray))))], [⟨23, [.slice none 0 0]⟩, ⟨23, [.slice none 0 0]⟩, ⟨4, [.bool false]⟩]⟩ [b2, b3, b4] Ac W := by
  refine J.rn [.n, .n, .n, .u, .n] [0, 1, 2, 6, 8] [.c 2] [.c 5, .b 0] (by kernel_rfl) ?_
  refine J.cond (b := false) (k' := 7) (by kernel_rfl) (fun hc => absurd hc (by decide)) (fun _ => ?_)
  refine J.rn [.n, .n, .u, .u, .u, .n] [0, 1, 2, 6, 10, 11] [.c 7, .b 0] [.c 9, .b 0] (by kernel_rfl) ?_
  refine J.cond (b := true) (k' := 13) (by kernel_rfl) (fun _ => ?_) (fun hc => absurd hc (by decide))
  refine J.rn [.n, .n] [0, 1, 2, 11] [.c 10, .b 0] [.o 11 0, .c 12, .b 0] (by kernel_rfl) ?_
  refine J.new (T := 128) (cs := [.slice none 0 0, .slice none 0 0]) (d := 4) (K := .ptr) (by kernel_rfl) (fun b1 hb1 => ?_)
  refine J.run [.u, .n] [0, 1, 2, 4] ⟨[(0, .loc 0 0), (1, .loc 1 0), (2, .loc 2 0), (4, .loc 3 0)], [⟨23, [.slice none 0 0]⟩, ⟨23, [.slice none 0 0]⟩, ⟨4, [.bool false]⟩, ⟨128, [.slice a n c, .slice b m d]⟩]⟩ [.o 11 1, .c 12, .b 0] [.c 12, .b 0] (by kernel_rfl) ?_
  refine J.draw [0, 1, 2] nobody (by kernel_rfl) (by kernel_rfl) (fun _ h => h.elim) (fun w1 A1 m1 hr1 hX1 => ?_)
  refine J.take0 [(0, .u), (1, .u), (2, .u), (3, .u)] [0, 1, 2, 13, 15] [(0, .loc 0 0), (1, .loc 1 0), (2, .loc 2 0), (13, .v (.slice a n c)), (15, .v (.slice b m d))] [3, 2, 1, 0] hcalm (by intro k _ h; exact h) hr1 (by kernel_rfl) ?_
  refine J.pick1 4 (by kernel_rfl) (by kernel_rfl) ?_
  refine J.storeq (i := 0) (m' := [⟨23, [.slice a n c]⟩, ⟨23, [.slice none 0 0]⟩, ⟨4, [.bool false]⟩, ⟨128, [.slice a n c, .slice b m d]⟩]) (by kernel_rfl) (by simp) rfl (by simp) ?_
  refine J.pick1 5 (by kernel_rfl) (by kernel_rfl) ?_
  refine J.storeq (i := 1) (m' := [⟨23, [.slice a n c]⟩, ⟨23, [.slice b m d]⟩, ⟨4, [.bool false]⟩, ⟨128, [.slice a n c, .slice b m d]⟩]) (by kernel_rfl) (by simp) rfl (by simp) ?_
  refine J.pick1 6 (by kernel_rfl) (by kernel_rfl) ?_
  refine J.storeq (i := 2) (m' := [⟨23, [.slice a n c]⟩, ⟨23, [.slice b m d]⟩, ⟨4, [.bool true]⟩, ⟨128, [.slice a n c, .slice b m d]⟩]) (by kernel_rfl) (by simp) rfl (by simp) ?_
  refine J.pdone (by kernel_rfl) ?_
  refine J.run [.n] [] ⟨[], [⟨23, [.slice a n c]⟩, ⟨23, [.slice b m d]⟩, ⟨4, [.bool true]⟩, ⟨128, [.slice a n c, .slice b m d]⟩]⟩ [.b 0] [] (by kernel_rfl) ?_
  exact fun a w ok => hQ a w ok.fits.defers ok.sn (ok.locs.at_ 0 _ rfl) (ok.locs.at_ 1 _ rfl) (ok.locs.at_ 2 _ rfl)
theorem idle_walk (b2 b3 b4 : Nat) (Q : Exit → Act → World → Prop) (Ac : Nat → Prop) (W : World)
    (hcalm : CalmQ Q) (hQ : ∀ q w, q.defers = [] → Sn (resM b2 b3 b4) W w → w.heap[b2]? = some (.cells #[.slice none 0 0] 23 (0, 0)) → w.heap[b3]? = some (.cells #[.slice none 0 0] 23 (0, 0)) → w.heap[b4]? = some (.cells #[.bool false] 4 (0, 0)) → Q .normal q w) :
    J Pr (bodyOf Try.f83) Q 16 W Ac (resM b2 b3 b4) [.c 2] ⟨[(0, .loc 0 0), (1, .loc 1 0), (2, .loc 2 0), (6, .v (.nilIface))], [⟨23, [.slice none 0 0]⟩, ⟨23, [.slice none 0 0]⟩, ⟨4, [.bool false]⟩]⟩ [b2, b3, b4] Ac W := by
  refine J.rn [.n, .n, .n, .u, .n] [0, 1, 2, 6, 8] [.c 2] [.c 5, .b 0] (by kernel_rfl) ?_
  refine J.cond (b := true) (k' := 7) (by kernel_rfl) (fun _ => ?_) (fun hc => absurd hc (by decide))
  refine J.run [.n, .u, .n, .n] [] ⟨[], [⟨23, [.slice none 0 0]⟩, ⟨23, [.slice none 0 0]⟩, ⟨4, [.bool false]⟩]⟩ [.c 6, .b 0] [] (by kernel_rfl) ?_
  exact fun a w ok => hQ a w ok.fits.defers ok.sn (ok.locs.at_ 0 _ rfl) (ok.locs.at_ 1 _ rfl) (ok.locs.at_ 2 _ rfl)
end Go.Proofs.Ytkgokehkobifkaa.J

/- Package clash: seek. -/
namespace Go.Proofs.Ytkgokehkobifkaa.J
open Go Go.RowKit

section
variable {P : Program} {Q : Exit → Act → List Frame → World → Prop} {a : Act} {c : Frame} {cs : List Frame} {w : World} {o : Oper} {id d : Nat}
theorem recover_panicking {v : Value} {older : List PanicEntry} (ho : o.op = .call ⟨.builtin .recover, #[], #[]⟩) (hg : o.guard = none) (hd : o.dst = some d) (hu : c.mode = .panicking ({ v, recovered := false } :: older))
    (h : Q .normal (a.put (some d) v) ({ c with mode := .panicking ({ v, recovered := true } :: older) } :: cs) w) : (Code.region id #[o] false).wpS P Q a (c :: cs) w := by
  apply wpS_region
  have hr : (execOp a.eval o).run P w = .ok .recover w := by simp [execOp, ho, go_sem]
  have hw : Region.wanted o (yielded #[o] a.tmps) = true := by simp [Region.wanted, hg]
  simp [wpOpsS, List.range, List.range.loop, hw, hr, recoverD, hu, hd, h]
theorem recover_idle (ho : o.op = .call ⟨.builtin .recover, #[], #[]⟩) (hg : o.guard = none) (hd : o.dst = some d) (hu : c.mode = .returning)
    (h : Q .normal (a.put (some d) .nilIface) (c :: cs) w) : (Code.region id #[o] false).wpS P Q a (c :: cs) w := by
  apply wpS_region
  have hr : (execOp a.eval o).run P w = .ok .recover w := by simp [execOp, ho, go_sem]
  have hw : Region.wanted o (yielded #[o] a.tmps) = true := by simp [Region.wanted, hg]
  simp [wpOpsS, List.range, List.range.loop, hw, hr, recoverD, hu, hd, h]
end

noncomputable def rescueB : Code := (cat (bodyOf Try.f83) 2).getD .skip
noncomputable def rescueO : Oper := (opsAt (bodyOf Try.f83) 1).headD default
theorem rescue_body : Try.f83.body = some (.seq (.region 0 #[rescueO] false) rescueB) := by kernel_rfl
theorem rescue_at : cat (bodyOf Try.f83) 2 = some rescueB := by kernel_rfl

theorem rest_wp {Q : Exit → Act → World → Prop} {a : Act} {W : World} (hj : ∃ c, cat (bodyOf Try.f83) 2 = some c ∧ c.wp Pr (exQ Pr (bodyOf Try.f83) Q []) a W) : rescueB.wp Pr Q a W := by
  obtain ⟨c, hc, hw⟩ := hj
  cases rescue_at.symm.trans hc
  exact wp_mono hw (fun e a w h => by cases e <;> exact h)
theorem rescue_ok (b2 b3 b4 : Nat) (hnd : [b2, b3, b4].Nodup) (v : Value) (Ac : Nat → Prop) (W : World) (hA : ∀ k, Ac k → k < W.heap.size) (h2 : Ac b2) (h3 : Ac b3) (h4 : Ac b4)
    (r2 : W.heap[b2]? = some (.cells #[.slice none 0 0] 23 (0, 0))) (r3 : W.heap[b3]? = some (.cells #[.slice none 0 0] 23 (0, 0))) (r4 : W.heap[b4]? = some (.cells #[.bool false] 4 (0, 0))) :
    Ok 16 W Ac (resM b2 b3 b4) ⟨[(0, .loc 0 0), (1, .loc 1 0), (2, .loc 2 0), (6, .v v)], [⟨23, [.slice none 0 0]⟩, ⟨23, [.slice none 0 0]⟩, ⟨4, [.bool false]⟩]⟩ [b2, b3, b4] Ac W
      (({ tmps := #[.pointer (some ⟨b2, 0, none⟩), .pointer (some ⟨b3, 0, none⟩), .pointer (some ⟨b4, 0, none⟩)] ++ Array.replicate (Try.f83.ntmps - 3) undef, defers := [] } : Act).put (some 6) v) W := by
  have hn : Try.f83.ntmps = 16 := by kernel_rfl
  rw [hn]
  have hin : ∀ k, k ∈ [b2, b3, b4] → resM b2 b3 b4 k ∧ Ac k := by
    intro k hk
    simp only [List.mem_cons, List.not_mem_nil, or_false] at hk
    rcases hk with rfl | rfl | rfl
    · exact ⟨.inl rfl, h2⟩
    · exact ⟨.inr (.inl rfl), h3⟩
    · exact ⟨.inr (.inr rfl), h4⟩
  exact {
    fits := {
      size := by simp [Act.put]
      defers := rfl
      val := fun t s hs => by
        simp only [List.mem_cons, Prod.mk.injEq, List.not_mem_nil, or_false] at hs
        rcases hs with ⟨rfl, rfl⟩ | ⟨rfl, rfl⟩ | ⟨rfl, rfl⟩ | ⟨rfl, rfl⟩ <;> simp [Act.put, den, Array.replicate, List.replicate]
      grd := fun d t c b s hs => by simp at hs
      rng := fun t s hs => by
        simp only [List.mem_cons, Prod.mk.injEq, List.not_mem_nil, or_false] at hs
        rcases hs with ⟨rfl, rfl⟩ | ⟨rfl, rfl⟩ | ⟨rfl, rfl⟩ | ⟨rfl, rfl⟩ <;> rfl }
    locs := ⟨rfl, hnd, fun i L h => by
      match i, h with
      | 0, h => cases h; exact r2
      | 1, h => cases h; exact r3
      | 2, h => cases h; exact r4⟩
    sn := Sn.refl _ _
    size := Nat.le_refl _
    same := fun _ _ _ => rfl
    loc := fun k hk _ => (hin k hk).2
    bdd := hA
    fresh := fun k hk => .inr (hin k hk).1
    sub := fun _ h => h
    big := Nat.le_refl _
    acb := hA }

theorem rescue_panicking (b2 b3 b4 : Nat) (hnd : [b2, b3, b4].Nodup) (a : Option Addr) (n c : Nat) (b : Option Addr) (m d : Nat) (older : List PanicEntry) (Ac : Nat → Prop) (W : World) (hA : ∀ k, Ac k → k < W.heap.size) (h2 : Ac b2) (h3 : Ac b3) (h4 : Ac b4)
    (r2 : W.heap[b2]? = some (.cells #[.slice none 0 0] 23 (0, 0))) (r3 : W.heap[b3]? = some (.cells #[.slice none 0 0] 23 (0, 0))) (r4 : W.heap[b4]? = some (.cells #[.bool false] 4 (0, 0))) :
    CallsD Pr 83 #[.pointer (some ⟨b2, 0, none⟩), .pointer (some ⟨b3, 0, none⟩), .pointer (some ⟨b4, 0, none⟩)] (.panicking ({ v := .iface 128 (.agg [.slice a n c, .slice b m d].toArray), recovered := false } :: older)) W
      fun e u' w => e = .returned (.tuple #[]) ∧ u' = .panicking ({ v := .iface 128 (.agg [.slice a n c, .slice b m d].toArray), recovered := true } :: older) ∧ Sn (resM b2 b3 b4) W w ∧
        w.heap[b2]? = some (.cells #[.slice a n c] 23 (0, 0)) ∧ w.heap[b3]? = some (.cells #[.slice b m d] 23 (0, 0)) ∧ w.heap[b4]? = some (.cells #[.bool true] 4 (0, 0)) := by
  refine callsD_of_wpS Try.func83 rescue_body fun c₀ cs hu => ?_
  refine wpS_seq (recover_panicking (d := 6) (by kernel_rfl) (by kernel_rfl) (by kernel_rfl) hu ?_)
  show rescueB.wpS Pr _ _ _ _
  refine wpS_of_wp ?_
  refine rest_wp (rescue_walk b2 b3 b4 a n c b m d _ Ac W (by intro c d v a w h; cases d <;> exact h) (fun q w hq hs e2 e3 e4 => ?_) _ W (rescue_ok b2 b3 b4 hnd _ Ac W hA h2 h3 h4 r2 r3 r4))
  exact ⟨hq, _, rfl, .tuple #[], results_none (by kernel_rfl) _ _ _, rfl, rfl, hs, e2, e3, e4⟩
theorem rescue_idle (b2 b3 b4 : Nat) (hnd : [b2, b3, b4].Nodup) (Ac : Nat → Prop) (W : World) (hA : ∀ k, Ac k → k < W.heap.size) (h2 : Ac b2) (h3 : Ac b3) (h4 : Ac b4)
    (r2 : W.heap[b2]? = some (.cells #[.slice none 0 0] 23 (0, 0))) (r3 : W.heap[b3]? = some (.cells #[.slice none 0 0] 23 (0, 0))) (r4 : W.heap[b4]? = some (.cells #[.bool false] 4 (0, 0))) :
    CallsD Pr 83 #[.pointer (some ⟨b2, 0, none⟩), .pointer (some ⟨b3, 0, none⟩), .pointer (some ⟨b4, 0, none⟩)] .returning W
      fun e u' w => e = .returned (.tuple #[]) ∧ u' = .returning ∧ Sn (resM b2 b3 b4) W w ∧
        w.heap[b2]? = some (.cells #[.slice none 0 0] 23 (0, 0)) ∧ w.heap[b3]? = some (.cells #[.slice none 0 0] 23 (0, 0)) ∧ w.heap[b4]? = some (.cells #[.bool false] 4 (0, 0)) := by
  refine callsD_of_wpS Try.func83 rescue_body fun c₀ cs hu => ?_
  refine wpS_seq (recover_idle (d := 6) (by kernel_rfl) (by kernel_rfl) (by kernel_rfl) hu ?_)
  show rescueB.wpS Pr _ _ _ _
  refine wpS_of_wp ?_
  refine rest_wp (idle_walk b2 b3 b4 _ Ac W (by intro c d v a w h; cases d <;> exact h) (fun q w hq hs e2 e3 e4 => ?_) _ W (rescue_ok b2 b3 b4 hnd _ Ac W hA h2 h3 h4 r2 r3 r4))
  exact ⟨hq, .returning, by rw [← hu], .tuple #[], results_none (by kernel_rfl) _ _ _, rfl, rfl, hs, e2, e3, e4⟩
end Go.Proofs.Ytkgokehkobifkaa.J

/- Package clash: seek. -/
namespace Go.Proofs.Ytkgokehkobifkaa.J
open Go Go.RowKit

theorem cell1 {w : World} {b : Nat} {v : Value} {T : TypeId} (h : w.heap[b]? = some (.cells #[v] T (0, 0))) : w.cell? ⟨b, 0, none⟩ = some v := by simp [World.cell?, h]
theorem froz1 {w : World} {b : Nat} {v : Value} {T : TypeId} (h : w.heap[b]? = some (.cells #[v] T (0, 0))) : w.frozen? ⟨b, 0, none⟩ = false := by simp [World.frozen?, h]
theorem setCell_same {w : World} {b : Nat} {v : Value} {T : TypeId} (h : w.heap[b]? = some (.cells #[v] T (0, 0))) : w.setCell ⟨b, 0, none⟩ v = w := by
  unfold World.setCell
  have e : w.heap.modify b (fun | .cells c elem frozen => .cells (if (none : Option Nat).isSome then c else c.setIfInBounds 0 v) elem frozen | o => o) = w.heap := by
    apply Array.ext_getElem?
    intro i
    rw [Array.getElem?_modify]
    split
    · rename_i hi; subst hi; rw [h]; rfl
    · rfl
  exact congrArg (fun hp => { w with heap := hp }) e
theorem alloc_at (w : World) (o : Obj) : (w.alloc o).heap[w.heap.size]? = some o := by
  show (w.heap.push o)[w.heap.size]? = some o
  rw [Array.getElem?_push_size]
theorem alloc_sz (w : World) (o : Obj) : (w.alloc o).heap.size = w.heap.size + 1 := by simp

theorem seek_results (b2 b3 b4 : Nat) (hnd : [b2, b3, b4].Nodup) (x y z : Value) (w : World) (tmps : Array Value) (hs : tmps.size = 8) (t2 : tmps.getD 2 undef = .pointer (some ⟨b2, 0, none⟩)) (t3 : tmps.getD 3 undef = .pointer (some ⟨b3, 0, none⟩)) (t4 : tmps.getD 4 undef = .pointer (some ⟨b4, 0, none⟩))
    (r2 : w.heap[b2]? = some (.cells #[x] 23 (0, 0))) (r3 : w.heap[b3]? = some (.cells #[y] 23 (0, 0))) (r4 : w.heap[b4]? = some (.cells #[z] 4 (0, 0))) :
    (results Try.f50 tmps).run Pr w = .ok (.tuple #[x, y, z]) w :=
  resv_run (n := 8) (s := ⟨[(2, .loc 0 0), (3, .loc 1 0), (4, .loc 2 0)], [⟨23, [x]⟩, ⟨23, [y]⟩, ⟨4, [z]⟩]⟩) (ρ := [b2, b3, b4]) (a := { tmps := tmps, defers := [] }) {
      size := hs
      defers := rfl
      val := fun t s hs => by
        simp only [List.mem_cons, Prod.mk.injEq, List.not_mem_nil, or_false] at hs
        rcases hs with ⟨rfl, rfl⟩ | ⟨rfl, rfl⟩ | ⟨rfl, rfl⟩
        · exact t2
        · exact t3
        · exact t4
      grd := fun d t c b s hs => by simp at hs
      rng := fun t s hs => by
        simp only [List.mem_cons, Prod.mk.injEq, List.not_mem_nil, or_false] at hs
        rcases hs with ⟨rfl, rfl⟩ | ⟨rfl, rfl⟩ | ⟨rfl, rfl⟩ <;> rfl }
    ⟨rfl, hnd, fun i L h => by
      match i, h with
      | 0, h => cases h; exact r2
      | 1, h => cases h; exact r3
      | 2, h => cases h; exact r4⟩ (by kernel_rfl)

theorem seek_calls (g : FuncId) (cb : List Value) (heg : ∀ args w, (callFunc g args).run Pr w = .ok (.enter g args) w) (E : Prop) (U : Txts → Prop) (Ac : Nat → Prop) (W : World) (hA : ∀ k, Ac k → k < W.heap.size)
    (hcall : ∀ X A1 w1, Mv X Ac A1 W w1 → Calls Pr g ([] ++ cb).toArray w1 (EndR nobody w1 (fun _ _ => E) (fun v w2 => ∃ p, U p ∧ ClV A1 w2 v p.1 p.2))) :
    Calls Pr 50 #[.func (.func g) #[] cb.toArray] W (Ret nobody W fun v w => (E ∧ v = .tuple #[.slice none 0 0, .slice none 0 0, .bool false]) ∨
      ∃ p a n c b m d, U p ∧ v = .tuple #[.slice a n c, .slice b m d, .bool true] ∧ Sl 1 u8 Ac w a n c p.1 ∧ Sl 1 u8 Ac w b m d p.2) := by
  have hmf : ∀ (fn : Fn) (first cap : Array Value) (w : World), (Instr.makeFunc fn first cap).run Pr w = .ok (.func fn first cap) w := fun _ _ _ _ => rfl
  have hn : Try.f50.ntmps = 8 := rfl
  go_enter_defers Try.func50, hn
  go_wp2
  generalize hw1 : ((W.alloc (Obj.cells #[Value.slice none 0 0] 23)).alloc (Obj.cells #[Value.slice none 0 0] 23)).alloc (Obj.cells #[Value.bool false] 4) = w1
  have hs1 : ((W.alloc (Obj.cells #[Value.slice none 0 0] 23)).alloc (Obj.cells #[Value.slice none 0 0] 23)).heap.size = W.heap.size + 1 + 1 := by rw [alloc_sz, alloc_sz]
  have hsz : w1.heap.size = W.heap.size + 3 := by rw [← hw1, alloc_sz, hs1]
  have hnd : [W.heap.size, W.heap.size + 1, W.heap.size + 1 + 1].Nodup := by
    simp only [List.nodup_cons, List.mem_cons, List.not_mem_nil, or_false, List.nodup_nil, not_false_eq_true, and_true]
    omega
  have h4 : w1.heap[W.heap.size + 1 + 1]? = some (.cells #[.bool false] 4 (0, 0)) := by rw [← hw1, ← hs1]; exact alloc_at _ _
  have h3 : w1.heap[W.heap.size + 1]? = some (.cells #[.slice none 0 0] 23 (0, 0)) := by
    rw [← hw1, Below.heap_alloc _ _ _ (by rw [hs1]; omega), ← alloc_sz W (Obj.cells #[Value.slice none 0 0] 23)]; exact alloc_at _ _
  have h2 : w1.heap[W.heap.size]? = some (.cells #[.slice none 0 0] 23 (0, 0)) := by
    rw [← hw1, Below.heap_alloc _ _ _ (by rw [hs1]; omega), Below.heap_alloc _ _ _ (by rw [alloc_sz]; omega)]; exact alloc_at _ _
  have hold : ∀ k, k < W.heap.size → w1.heap[k]? = W.heap[k]? := by
    intro k hk
    rw [← hw1, Below.heap_alloc _ _ _ (by rw [hs1]; omega), Below.heap_alloc _ _ _ (by rw [alloc_sz]; omega), Below.heap_alloc _ _ _ hk]
  let A1 : Nat → Prop := fun k => Ac k ∨ resM W.heap.size (W.heap.size + 1) (W.heap.size + 1 + 1) k
  have hm : Mv nobody Ac A1 W w1 := {
    size := by omega
    same := fun k hk _ => hold k hk
    sub := fun _ h => h.elim
    dn := fun k hk h => h.elim id (fun h => by rcases h with h | h | h <;> omega)
    up := fun k _ h _ => .inl h
    bdd := fun k h => h.elim (fun h => by have := hA k h; omega) (fun h => by rcases h with h | h | h <;> omega) }
  have hw : Sn nobody W w1 := by rw [← hw1]; exact { os := rfl, tape := rfl, output := rfl, drawn := Nat.le_refl _, size := by rw [hw1]; omega, same := fun k hk _ => by rw [hw1]; exact hold k hk }
  have hfin : ∀ {w2 w3 : World}, Sn nobody w1 w2 → Sn (resM W.heap.size (W.heap.size + 1) (W.heap.size + 1 + 1)) w2 w3 → Sn nobody W w3 := fun {w2 w3} h1 h2 => {
    os := h2.os.trans (h1.os.trans hw.os), tape := h2.tape.trans (h1.tape.trans hw.tape), output := h2.output.trans (h1.output.trans hw.output)
    drawn := Nat.le_trans hw.drawn (Nat.le_trans h1.drawn h2.drawn), size := Nat.le_trans hw.size (Nat.le_trans h1.size h2.size)
    same := fun k hk _ => by
      have z1 := h1.size
      rw [h2.same k (by omega) (fun h => by rcases h with h | h | h <;> omega), h1.same k (by omega) (fun h => h), hold k hk] }
  refine (hcall nobody A1 w1 hm).mono ?_
  intro e w2 he
  cases e with
  | outgrown => exact he.elim
  | returned v =>
    obtain ⟨hE, hs⟩ := he
    have r2 : w2.heap[W.heap.size]? = some (.cells #[.slice none 0 0] 23 (0, 0)) := by rw [hs.same _ (by omega) (fun h => h)]; exact h2
    have r3 : w2.heap[W.heap.size + 1]? = some (.cells #[.slice none 0 0] 23 (0, 0)) := by rw [hs.same _ (by omega) (fun h => h)]; exact h3
    have r4 : w2.heap[W.heap.size + 1 + 1]? = some (.cells #[.bool false] 4 (0, 0)) := by rw [hs.same _ (by omega) (fun h => h)]; exact h4
    simp only
    go_wp2_with (simp only [cell1 r2, cell1 r3, cell1 r4, froz1 r2, froz1 r3, froz1 r4, setCell_same r2, setCell_same r3, setCell_same r4])
    refine leaves_cons (f := 83) (args := #[.pointer (some ⟨W.heap.size, 0, none⟩), .pointer (some ⟨W.heap.size + 1, 0, none⟩), .pointer (some ⟨W.heap.size + 1 + 1, 0, none⟩)]) (by simp) (by simp [go_sem]) ?_
    refine (rescue_idle _ _ _ hnd A1 w2 (fun k h => Nat.lt_of_lt_of_le (hm.bdd k h) hs.size) (.inr (.inl rfl)) (.inr (.inr (.inl rfl))) (.inr (.inr (.inr rfl))) r2 r3 r4).mono ?_
    rintro e u' w3 ⟨rfl, rfl, hs3, e2, e3, e4⟩
    exact ⟨_, seek_results _ _ _ hnd _ _ _ w3 _ rfl rfl rfl rfl e2 e3 e4, _, rfl, .inl ⟨hE, rfl⟩, hfin hs hs3⟩
  | panicked ch =>
    obtain ⟨v, rfl, ⟨p, hU, a, n, c, b, m, d, rfl, s1, s2⟩, hs⟩ := he
    refine leaves_cons (f := 83) (args := #[.pointer (some ⟨W.heap.size, 0, none⟩), .pointer (some ⟨W.heap.size + 1, 0, none⟩), .pointer (some ⟨W.heap.size + 1 + 1, 0, none⟩)]) (by simp) (by simp [go_sem]) ?_
    refine (rescue_panicking _ _ _ hnd a n c b m d [] A1 w2 (fun k h => Nat.lt_of_lt_of_le (hm.bdd k h) hs.size) (.inr (.inl rfl)) (.inr (.inr (.inl rfl))) (.inr (.inr (.inr rfl))) (by rw [hs.same _ (by omega) (fun h => h)]; exact h2) (by rw [hs.same _ (by omega) (fun h => h)]; exact h3) (by rw [hs.same _ (by omega) (fun h => h)]; exact h4)).mono ?_
    rintro e u' w3 ⟨rfl, rfl, hs3, e2, e3, e4⟩
    have m3 : Mv (resM W.heap.size (W.heap.size + 1) (W.heap.size + 1 + 1)) A1 A1 w2 w3 := { size := hs3.size, same := hs3.same, sub := fun k h _ => .inr h, dn := fun _ _ h => h, up := fun _ _ h _ => h, bdd := fun k h => by have := hm.bdd k h; have := hs.size; have := hs3.size; omega }
    exact ⟨_, seek_results _ _ _ hnd _ _ _ w3 _ rfl rfl rfl rfl e2 e3 e4, _, rfl, .inr ⟨p, a, n, c, b, m, d, hU, rfl, (s1.mv m3).weaken (fun k h => .inl h), (s2.mv m3).weaken (fun k h => .inl h)⟩, hfin hs hs3⟩
end Go.Proofs.Ytkgokehkobifkaa.J
