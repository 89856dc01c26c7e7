/- Part 2 of the texts that the proof of the row stands on: the calculus, contracts of the functions, plain laws; no condition of its own. -/
import Derived.Test.YtkgokehkobifkaaSN1
import Derived.Laws.StructEq
import Derived.Laws.Externs
import Derived.Lib.Bytealg
set_option linter.unusedVariables false
set_option linter.unusedSimpArgs false
/- Package sum: New, Write. -/
namespace Go.Proofs.Ytkgokehkobifkaa.J
open Go Go.RowKit

def updR (p : Nat → Int) (at_ : Nat) (l : List UInt8) : Nat → Int := fun j => if at_ ≤ j ∧ j < at_ + l.length then (((l.getD (j - at_) 0).toNat : Nat) : Int) else p j

theorem b64_copy {p : Nat → Int} {at_ : Nat} {l : List UInt8} (h : at_ + l.length ≤ 64) : (b64 p).take at_ ++ l.flatMap u8 ++ (b64 p).drop (at_ + l.length) = b64 (updR p at_ l) := by
  have hf : l.flatMap u8 = l.map fun b => Value.int .u8 b.toNat := by unfold u8; rw [List.map_eq_flatMap]
  rw [hf]
  apply List.ext_getElem?
  intro i
  have hl : ((b64 p).take at_).length = at_ := by rw [List.length_take, b64_len]; omega
  have hl2 : ((b64 p).take at_ ++ l.map fun b => Value.int .u8 b.toNat).length = at_ + l.length := by rw [List.length_append, hl, List.length_map]
  by_cases h64 : i < 64
  · rw [show (b64 (updR p at_ l))[i]? = some (.int .u8 (updR p at_ l i)) from rmap_at _ h64]
    by_cases h1 : i < at_
    · rw [List.getElem?_append_left (by rw [hl2]; omega), List.getElem?_append_left (by rw [hl]; omega), List.getElem?_take_of_lt h1, show (b64 p)[i]? = some (.int .u8 (p i)) from rmap_at _ h64]
      simp only [updR]; rw [if_neg (by omega)]
    · by_cases h2 : i < at_ + l.length
      · rw [List.getElem?_append_left (by rw [hl2]; omega), List.getElem?_append_right (by rw [hl]; omega), hl, List.getElem?_map]
        simp only [updR]; rw [if_pos ⟨by omega, h2⟩]
        have h3 : i - at_ < l.length := by omega
        simp [List.getElem?_eq_getElem h3]
      · rw [List.getElem?_append_right (by rw [hl2]; omega), hl2, List.getElem?_drop, show at_ + l.length + (i - (at_ + l.length)) = i by omega, show (b64 p)[i]? = some (.int .u8 (p i)) from rmap_at _ h64]
        simp only [updR]; rw [if_neg (by omega)]
  · rw [List.getElem?_eq_none (by simp [b64_len, hl]; omega), List.getElem?_eq_none (by rw [b64_len]; omega)]

theorem cut_mid {α : Type} (X Y Z M : List α) {i m : Nat} (h : i + m ≤ Y.length) :
    (X ++ Y ++ Z).take (X.length + i) ++ M ++ (X ++ Y ++ Z).drop (X.length + i + m) = X ++ (Y.take i ++ M ++ Y.drop (i + m)) ++ Z := by
  have h1 : (X ++ Y ++ Z).take (X.length + i) = X ++ Y.take i := by
    rw [List.append_assoc, List.take_append, List.take_append, List.take_of_length_le (by omega), show X.length + i - X.length = i by omega, show i - Y.length = 0 by omega]
    simp
  have h2 : (X ++ Y ++ Z).drop (X.length + i + m) = Y.drop (i + m) ++ Z := by
    rw [List.append_assoc, List.drop_append, List.drop_append, List.drop_of_length_le (by omega), show X.length + i + m - X.length = i + m by omega, show i + m - Y.length = 0 by omega]
    simp
  rw [h1, h2]; simp [List.append_assoc]

theorem hcells_copy {h k p : Nat → Int} {held size : Int} {at_ : Nat} {l : List UInt8} (ht : at_ + l.length ≤ 64) :
    (hcells h k p held size).take (72 + at_ * 1) ++ l.flatMap u8 ++ (hcells h k p held size).drop (72 + at_ * 1 + l.length) = hcells h k (updR p at_ l) held size := by
  rw [Nat.mul_one]
  unfold hcells
  rw [← b64_copy ht]
  have e1 : (w8 h ++ w64 k).length = 72 := by simp [w8_len, w64_len]
  have e2 : (b64 p).length = 64 := b64_len p
  rw [← e1]
  exact cut_mid _ _ _ _ (by omega)

/-- The sum under way. -/
structure HS where
  h : Nat → Int
  p : Nat → Int
  held : Nat

def HS.step (kk : Nat → Int) (s : HS) (bs : List UInt8) : HS :=
  if s.held + min bs.length (64 - s.held) = 64 then ⟨hD s.h kk (updR s.p s.held (bs.take (min bs.length (64 - s.held)))) 8, updR s.p s.held (bs.take (min bs.length (64 - s.held))), 0⟩
  else ⟨s.h, updR s.p s.held (bs.take (min bs.length (64 - s.held))), s.held + min bs.length (64 - s.held)⟩

def HS.wr (kk : Nat → Int) (s : HS) (bs : List UInt8) : HS :=
  if bs.length = 0 ∨ 64 ≤ s.held then s else HS.wr kk (s.step kk bs) (bs.drop (min bs.length (64 - s.held)))
termination_by bs.length
decreasing_by rw [List.length_drop]; omega

theorem HS.step_held (kk : Nat → Int) (s : HS) (bs : List UInt8) (h : s.held < 64) : (s.step kk bs).held < 64 := by
  unfold HS.step
  split
  · exact Nat.zero_lt_succ _
  · simp only; omega
theorem HS.wr_held (kk : Nat → Int) (s : HS) (bs : List UInt8) (h : s.held < 64) : (s.wr kk bs).held < 64 := by
  rw [HS.wr]
  split
  · exact h
  · exact HS.wr_held kk _ _ (HS.step_held kk s bs h)
termination_by bs.length
decreasing_by rw [List.length_drop]; omega
theorem HS.wr_nil {kk : Nat → Int} {s : HS} {bs : List UInt8} (h : bs.length = 0) : s.wr kk bs = s := by rw [HS.wr, if_pos (.inl h)]
theorem HS.wr_step {kk : Nat → Int} {s : HS} {bs : List UInt8} (h : 0 < bs.length) (hh : s.held < 64) : s.wr kk bs = (s.step kk bs).wr kk (bs.drop (min bs.length (64 - s.held))) := by
  rw [HS.wr, if_neg (by omega)]
theorem HS.step_full {kk : Nat → Int} {s : HS} {bs : List UInt8} (h : s.held + min bs.length (64 - s.held) = 64) : s.step kk bs = ⟨hD s.h kk (updR s.p s.held (bs.take (min bs.length (64 - s.held)))) 8, updR s.p s.held (bs.take (min bs.length (64 - s.held))), 0⟩ := if_pos h
theorem HS.step_part {kk : Nat → Int} {s : HS} {bs : List UInt8} (h : ¬ s.held + min bs.length (64 - s.held) = 64) : s.step kk bs = ⟨s.h, updR s.p s.held (bs.take (min bs.length (64 - s.held))), s.held + min bs.length (64 - s.held)⟩ := if_neg h

structure WrSt where
  a : Option Addr
  n : Nat
  c : Nat
  bs : List UInt8
  s : HS
def WrInv (kk : Nat → Int) (s0 : HS) (bs0 : List UInt8) (A : Nat → Prop) (w : World) (x : WrSt) : Prop :=
  Sl 1 u8 A w x.a x.n x.c x.bs ∧ x.s.held < 64 ∧ s0.wr kk bs0 = x.s.wr kk x.bs

def kW (i : Nat) : Int := ([1116352408, 1899447441, 3049323471, 3921009573, 961987163, 1508970993, 2453635748, 2870763221, 3624381080, 310598401, 607225278, 1426881987, 1925078388, 2162078206, 2614888103, 3248222580, 3835390401, 4022224774, 264347078, 604807628, 770255983, 1249150122, 1555081692, 1996064986, 2554220882, 2821834349, 2952996808, 3210313671, 3336571891, 3584528711, 113926993, 338241895, 666307205, 773529912, 1294757372, 1396182291, 1695183700, 1986661051, 2177026350, 2456956037, 2730485921, 2820302411, 3259730800, 3345764771, 3516065817, 3600352804, 4094571909, 275423344, 430227734, 506948616, 659060556, 883997877, 958139571, 1322822218, 1537002063, 1747873779, 1955562222, 2024104815, 2227730452, 2361852424, 2428436474, 2756734187, 3204031479, 3329325298] : List Int).getD i 0
theorem words_calls (Ac : Nat → Prop) (W : World) (hA : ∀ k, Ac k → k < W.heap.size) :
    Calls Pr 126 #[] W (Ret nobody W fun v w => v = .agg (w64 kW).toArray) := by
  refine J.enter (fn := Try.f126) (n := 2) Try.func126 (by kernel_rfl) (by kernel_rfl) (by kernel_rfl) hA ?_
  refine J.rn [.n, .n] [] [.c 0] [.o 1 0, .c 2] (by kernel_rfl) ?_
  refine J.new (T := 173) (cs := [.int .u32 0, .int .u32 0, .int .u32 0, .int .u32 0, .int .u32 0, .int .u32 0, .int .u32 0, .int .u32 0, .int .u32 0, .int .u32 0, .int .u32 0, .int .u32 0, .int .u32 0, .int .u32 0, .int .u32 0, .int .u32 0, .int .u32 0, .int .u32 0, .int .u32 0, .int .u32 0, .int .u32 0, .int .u32 0, .int .u32 0, .int .u32 0, .int .u32 0, .int .u32 0, .int .u32 0, .int .u32 0, .int .u32 0, .int .u32 0, .int .u32 0, .int .u32 0, .int .u32 0, .int .u32 0, .int .u32 0, .int .u32 0, .int .u32 0, .int .u32 0, .int .u32 0, .int .u32 0, .int .u32 0, .int .u32 0, .int .u32 0, .int .u32 0, .int .u32 0, .int .u32 0, .int .u32 0, .int .u32 0, .int .u32 0, .int .u32 0, .int .u32 0, .int .u32 0, .int .u32 0, .int .u32 0, .int .u32 0, .int .u32 0, .int .u32 0, .int .u32 0, .int .u32 0, .int .u32 0, .int .u32 0, .int .u32 0, .int .u32 0, .int .u32 0]) (d := 0) (K := .ptr) (by kernel_rfl) (fun b1 hb1 => ?_)
  refine J.rn [.n, .n, .n, .u, .u, .n] [0] [.o 1 1, .c 2] [.c 4] (by kernel_rfl) ?_
  refine J.ret (v := .agg (w64 kW).toArray) (by kernel_rfl) (by kernel_rfl) (fun w1 A1 m1 hac l1 => rfl)
def h0 (i : Nat) : Int := ([1779033703, 3144134277, 1013904242, 2773480762, 1359893119, 2600822924, 528734635, 1541459225] : List Int).getD i 0
theorem new_calls (Ac : Nat → Prop) (W : World) (hA : ∀ k, Ac k → k < W.heap.size) :
    Calls Pr 102 #[] W (Ret nobody W fun v w => ∃ b, v = .pointer (some ⟨b, 0, none⟩) ∧ W.heap.size ≤ b ∧ w.heap[b]? = some (.cells (hcells h0 kW (fun _ => 0) 0 0).toArray 177 (0, 0))) := by
  refine J.enter (fn := Try.f102) (n := 5) Try.func102 (by kernel_rfl) (by kernel_rfl) (by kernel_rfl) hA ?_
  refine J.rn [.n, .n, .u, .n, .n, .n, .u] [1] [.c 0] [.o 3 1, .c 4] (by kernel_rfl) ?_
  refine J.call (d := some 2) (by kernel_rfl) (fun w1 A1 m1 l1 => words_calls nobody w1 noA) ?_
  rintro _ u1 w1 A1 rfl g1
  have m1 := g1.mv
  refine J.rn [.u] [3] [.o 3 2, .c 4] [.o 3 3, .c 4] (by kernel_rfl) ?_
  refine J.new (T := 177) (cs := [.int .u32 1779033703, .int .u32 3144134277, .int .u32 1013904242, .int .u32 2773480762, .int .u32 1359893119, .int .u32 2600822924, .int .u32 528734635, .int .u32 1541459225, .int .u32 (kW 0), .int .u32 (kW 1), .int .u32 (kW 2), .int .u32 (kW 3), .int .u32 (kW 4), .int .u32 (kW 5), .int .u32 (kW 6), .int .u32 (kW 7), .int .u32 (kW 8), .int .u32 (kW 9), .int .u32 (kW 10), .int .u32 (kW 11), .int .u32 (kW 12), .int .u32 (kW 13), .int .u32 (kW 14), .int .u32 (kW 15), .int .u32 (kW 16), .int .u32 (kW 17), .int .u32 (kW 18), .int .u32 (kW 19), .int .u32 (kW 20), .int .u32 (kW 21), .int .u32 (kW 22), .int .u32 (kW 23), .int .u32 (kW 24), .int .u32 (kW 25), .int .u32 (kW 26), .int .u32 (kW 27), .int .u32 (kW 28), .int .u32 (kW 29), .int .u32 (kW 30), .int .u32 (kW 31), .int .u32 (kW 32), .int .u32 (kW 33), .int .u32 (kW 34), .int .u32 (kW 35), .int .u32 (kW 36), .int .u32 (kW 37), .int .u32 (kW 38), .int .u32 (kW 39), .int .u32 (kW 40), .int .u32 (kW 41), .int .u32 (kW 42), .int .u32 (kW 43), .int .u32 (kW 44), .int .u32 (kW 45), .int .u32 (kW 46), .int .u32 (kW 47), .int .u32 (kW 48), .int .u32 (kW 49), .int .u32 (kW 50), .int .u32 (kW 51), .int .u32 (kW 52), .int .u32 (kW 53), .int .u32 (kW 54), .int .u32 (kW 55), .int .u32 (kW 56), .int .u32 (kW 57), .int .u32 (kW 58), .int .u32 (kW 59), .int .u32 (kW 60), .int .u32 (kW 61), .int .u32 (kW 62), .int .u32 (kW 63), .int .u8 0, .int .u8 0, .int .u8 0, .int .u8 0, .int .u8 0, .int .u8 0, .int .u8 0, .int .u8 0, .int .u8 0, .int .u8 0, .int .u8 0, .int .u8 0, .int .u8 0, .int .u8 0, .int .u8 0, .int .u8 0, .int .u8 0, .int .u8 0, .int .u8 0, .int .u8 0, .int .u8 0, .int .u8 0, .int .u8 0, .int .u8 0, .int .u8 0, .int .u8 0, .int .u8 0, .int .u8 0, .int .u8 0, .int .u8 0, .int .u8 0, .int .u8 0, .int .u8 0, .int .u8 0, .int .u8 0, .int .u8 0, .int .u8 0, .int .u8 0, .int .u8 0, .int .u8 0, .int .u8 0, .int .u8 0, .int .u8 0, .int .u8 0, .int .u8 0, .int .u8 0, .int .u8 0, .int .u8 0, .int .u8 0, .int .u8 0, .int .u8 0, .int .u8 0, .int .u8 0, .int .u8 0, .int .u8 0, .int .u8 0, .int .u8 0, .int .u8 0, .int .u8 0, .int .u8 0, .int .u8 0, .int .u8 0, .int .u8 0, .int .u8 0, .int .i64 0, .int .u64 0]) (d := 4) (K := .ptr) (by kernel_rfl) (fun b1 hb1 => ?_)
  refine J.run [.u, .n] [0] ⟨[(0, .loc 0 0)], [⟨177, [.int .u32 1779033703, .int .u32 3144134277, .int .u32 1013904242, .int .u32 2773480762, .int .u32 1359893119, .int .u32 2600822924, .int .u32 528734635, .int .u32 1541459225, .int .u32 (kW 0), .int .u32 (kW 1), .int .u32 (kW 2), .int .u32 (kW 3), .int .u32 (kW 4), .int .u32 (kW 5), .int .u32 (kW 6), .int .u32 (kW 7), .int .u32 (kW 8), .int .u32 (kW 9), .int .u32 (kW 10), .int .u32 (kW 11), .int .u32 (kW 12), .int .u32 (kW 13), .int .u32 (kW 14), .int .u32 (kW 15), .int .u32 (kW 16), .int .u32 (kW 17), .int .u32 (kW 18), .int .u32 (kW 19), .int .u32 (kW 20), .int .u32 (kW 21), .int .u32 (kW 22), .int .u32 (kW 23), .int .u32 (kW 24), .int .u32 (kW 25), .int .u32 (kW 26), .int .u32 (kW 27), .int .u32 (kW 28), .int .u32 (kW 29), .int .u32 (kW 30), .int .u32 (kW 31), .int .u32 (kW 32), .int .u32 (kW 33), .int .u32 (kW 34), .int .u32 (kW 35), .int .u32 (kW 36), .int .u32 (kW 37), .int .u32 (kW 38), .int .u32 (kW 39), .int .u32 (kW 40), .int .u32 (kW 41), .int .u32 (kW 42), .int .u32 (kW 43), .int .u32 (kW 44), .int .u32 (kW 45), .int .u32 (kW 46), .int .u32 (kW 47), .int .u32 (kW 48), .int .u32 (kW 49), .int .u32 (kW 50), .int .u32 (kW 51), .int .u32 (kW 52), .int .u32 (kW 53), .int .u32 (kW 54), .int .u32 (kW 55), .int .u32 (kW 56), .int .u32 (kW 57), .int .u32 (kW 58), .int .u32 (kW 59), .int .u32 (kW 60), .int .u32 (kW 61), .int .u32 (kW 62), .int .u32 (kW 63), .int .u8 0, .int .u8 0, .int .u8 0, .int .u8 0, .int .u8 0, .int .u8 0, .int .u8 0, .int .u8 0, .int .u8 0, .int .u8 0, .int .u8 0, .int .u8 0, .int .u8 0, .int .u8 0, .int .u8 0, .int .u8 0, .int .u8 0, .int .u8 0, .int .u8 0, .int .u8 0, .int .u8 0, .int .u8 0, .int .u8 0, .int .u8 0, .int .u8 0, .int .u8 0, .int .u8 0, .int .u8 0, .int .u8 0, .int .u8 0, .int .u8 0, .int .u8 0, .int .u8 0, .int .u8 0, .int .u8 0, .int .u8 0, .int .u8 0, .int .u8 0, .int .u8 0, .int .u8 0, .int .u8 0, .int .u8 0, .int .u8 0, .int .u8 0, .int .u8 0, .int .u8 0, .int .u8 0, .int .u8 0, .int .u8 0, .int .u8 0, .int .u8 0, .int .u8 0, .int .u8 0, .int .u8 0, .int .u8 0, .int .u8 0, .int .u8 0, .int .u8 0, .int .u8 0, .int .u8 0, .int .u8 0, .int .u8 0, .int .u8 0, .int .u8 0, .int .i64 0, .int .u64 0]⟩]⟩ [.o 3 4, .c 4] [.c 4] (by kernel_rfl) ?_
  refine J.sameM (m' := [⟨177, hcells h0 kW (fun _ => 0) 0 0⟩]) (by kernel_rfl) ?_
  have hbW : W.heap.size ≤ b1 := Nat.le_trans m1.size hb1
  refine J.ret (v := .pointer (some ⟨b1, 0, none⟩)) (by kernel_rfl) (by kernel_rfl) (fun w1 A1 m1 hac l1 => ⟨_, rfl, hbW, l1.row (i := 0) rfl⟩)
theorem write_calls (s : HS) (kk : Nat → Int) (size : Int) (a : Option Addr) (n c : Nat) (bs : List UInt8) (hh : s.held < 64) (b : Nat) (Ac : Nat → Prop) (W : World) (hA : ∀ k, Ac k → k < W.heap.size) (hrow : W.heap[b]? = some (.cells (hcells s.h kk s.p ((s.held : Nat) : Int) size).toArray 177 (0, 0))) (hAb : Ac b) (hs : Sl 1 u8 Ac W a n c bs) :
    Calls Pr 103 #[.pointer (some ⟨b, 0, none⟩), .slice a n c] W (RB b 177 W fun v cs w => cs = hcells (s.wr kk bs).h kk (s.wr kk bs).p (((s.wr kk bs).held : Nat) : Int) (IntKind.u64.wrap (size + IntKind.u64.wrap ((n : Nat) : Int)))) := by
  refine J.enterM (fn := Try.f103) (n := 53) (b := b) (T := 177) (cs := (hcells s.h kk s.p ((s.held : Nat) : Int) size)) (args := [.slice a n c]) Try.func103 (by kernel_rfl) (by kernel_rfl) (by kernel_rfl) hA hrow hAb ?_
  refine J.run [.n, .n, .u, .u, .u, .u, .u, .u, .u, .u, .u, .u, .u, .n, .n] [0, 1] ⟨[(0, .loc 0 0), (1, .v (.slice a n c))], [⟨177, hcells s.h kk s.p ((s.held : Nat) : Int) (IntKind.u64.wrap (size + (IntKind.u64.wrap ((n : Nat) : Int))))⟩]⟩ [.c 0] [.c 3, .b 0] (by kernel_rfl) ?_
  refine J.sameM (m' := [⟨177, hcells s.h kk s.p ((s.held : Nat) : Int) (IntKind.u64.wrap (size + IntKind.u64.wrap ((n : Nat) : Int)))⟩]) (by kernel_rfl) ?_
  refine J.loop (X := WrSt) (fun x => ⟨[(0, .loc 0 0), (1, .v (.slice x.a x.n x.c))], [⟨177, hcells x.s.h kk x.s.p ((x.s.held : Nat) : Int) (IntKind.u64.wrap (size + IntKind.u64.wrap ((n : Nat) : Int)))⟩]⟩) (fun x A w => WrInv kk s bs A w x) (fun x => x.n) [0, 1] 1 [b] ⟨a, n, c, bs, s⟩ (by kernel_rfl) (by kernel_rfl) (by kernel_rfl) (fun w1 A1 m1 => ⟨hs.mv m1, hh, rfl⟩) (fun x A1 w1 hI => ?_)
  obtain ⟨hs, hh, hw⟩ := hI; have hlen := hs.len; have hle := hs.le; have hcap := hs.cap; simp only [maxLen] at hcap
  refine J.run [.n, .n, .n, .u, .u, .u, .n] [0, 1, 17] ⟨[(0, .loc 0 0), (1, .v (.slice x.a x.n x.c)), (17, .v (.bool (decide (((x.n : Nat) : Int) > 0))))], [⟨177, hcells x.s.h kk x.s.p ((x.s.held : Nat) : Int) (IntKind.u64.wrap (size + IntKind.u64.wrap ((n : Nat) : Int)))⟩]⟩ [.c 4] [.c 7, .c 10] (by kernel_rfl) ?_
  refine J.cond (b := (decide (((x.n : Nat) : Int) > 0))) (k' := 9) (by kernel_rfl) (fun hc => ?_) (fun hc => ?_)
  · try simp only [nrm] at hc
    have hc1 := hc
    refine J.run [.n, .n, .n] [0, 1] ⟨[(0, .loc 0 0), (1, .v (.slice x.a x.n x.c))], [⟨177, hcells x.s.h kk x.s.p ((x.s.held : Nat) : Int) (IntKind.u64.wrap (size + IntKind.u64.wrap ((n : Nat) : Int)))⟩]⟩ [.c 8, .c 10] [.c 12, .c 13, .b 1] (by kernel_rfl) ?_
    refine J.draw [0] nobody (by kernel_rfl) (by kernel_rfl) (fun _ h => h.elim) (fun w2 A2 m1 hr1 hX1 => ?_)
    replace hs := hs.mv m1
    refine J.take0 [(0, .u), (1, .u), (2, .u), (3, .u), (4, .u), (5, .u), (8, .u)] [0, 1, 20, 23, 26] [(0, .loc 0 0), (1, .v (.slice x.a x.n x.c)), (20, .loc 0 72), (23, .loc 0 136), (26, .v (.slice x.a x.n x.c))] [8, 5, 4, 3, 2, 1, 0] (calm_body _ _ _) (by intro k _ h; exact h) hr1 (by kernel_rfl) ?_
    refine J.pick1 6 (by kernel_rfl) (by kernel_rfl) ?_
    refine J.ldq (T := 3) (b := b) (off := 136) (d := 24) (v := .int .i64 ((x.s.held : Nat) : Int)) (by kernel_rfl) (fun w1 A1 m1 l1 => l1.ldc (i := 0) rfl (by kernel_rfl) (by kernel_rfl)) ?_
    refine J.slAp (j := 7) (b := b) (off := 72) (len := 64) (sz := 1) (lo := (some ((x.s.held : Nat) : Int))) (hi := none) (d := 25) (calm_body _ _ _) (by kernel_rfl) (by kernel_rfl) x.s.held 64 (by simp) (by simp) (by omega) (by omega) (by omega) ?_
    refine J.pick1 9 (by kernel_rfl) (by kernel_rfl) ?_
    refine J.copyq (T := 23) (Tx := 23) (el := 5) (b := b) (off := 72 + x.s.held * 1) (dl := (64 - x.s.held)) (dc := (64 - x.s.held)) (d := 27) (m := x.n) (c := x.c) (a := x.a) (enc := u8) (l := x.bs) 0 (by kernel_rfl) (by kernel_rfl) (by kernel_rfl) rfl rfl (fun w1 A1 m1 l1 => hs.mv m1) (fun _ _ => rfl) (fun x _ => u8_one x) (by kernel_rfl) (by simp only [hcells_len]; omega) (.inl (.inr ⟨0, by simp, by simp, rfl⟩)) ?_
    refine J.sameM (m' := [⟨177, (hcells x.s.h kk x.s.p ((x.s.held : Nat) : Int) (IntKind.u64.wrap (size + IntKind.u64.wrap ((n : Nat) : Int)))).take (72 + x.s.held * 1) ++ (x.bs.take (min x.n (64 - x.s.held))).flatMap u8 ++ (hcells x.s.h kk x.s.p ((x.s.held : Nat) : Int) (IntKind.u64.wrap (size + IntKind.u64.wrap ((n : Nat) : Int)))).drop (72 + x.s.held * 1 + (min x.n (64 - x.s.held)))⟩]) (by kernel_rfl) ?_
    have hql : (x.bs.take (min x.n (64 - x.s.held))).length = (min x.n (64 - x.s.held)) := by rw [List.length_take, ← hlen]; omega
    have hcp := hcells_copy (h := x.s.h) (k := kk) (p := x.s.p) (held := ((x.s.held : Nat) : Int)) (size := (IntKind.u64.wrap (size + IntKind.u64.wrap ((n : Nat) : Int)))) (at_ := x.s.held) (l := x.bs.take (min x.n (64 - x.s.held))) (by rw [hql]; omega)
    rw [hql] at hcp; rw [hcp]
    refine J.take1 [(10, .u)] [0, 1, 4] [(0, .loc 0 0), (1, .v (.slice x.a x.n x.c)), (4, .v (.int .i64 ((min x.n (64 - x.s.held) : Nat) : Int)))] [10, 9, 7, 6, 8, 5, 4, 3, 2, 1, 0] (calm_body _ _ _) (by kernel_rfl) ?_
    refine J.pdone (by kernel_rfl) ?_
    refine J.run [.n, .n, .u, .u, .u, .u, .u, .u, .u, .u, .u, .n, .n, .n, .u, .u] [0, 36, 37] ⟨[(0, .loc 0 0), (36, .v (.slice x.a x.n x.c)), (37, .v (.int .i64 ((min x.n (64 - x.s.held) : Nat) : Int)))], [⟨177, hcells x.s.h kk (updR x.s.p x.s.held (x.bs.take (min x.n (64 - x.s.held)))) (IntKind.i64.wrap (((x.s.held : Nat) : Int) + ((min x.n (64 - x.s.held) : Nat) : Int))) (IntKind.u64.wrap (size + IntKind.u64.wrap ((n : Nat) : Int)))⟩]⟩ [.c 13, .b 1] [.o 16 2, .c 17, .b 1] (by kernel_rfl) ?_
    have hw1 : IntKind.i64.wrap (((x.s.held : Nat) : Int) + ((min x.n (64 - x.s.held) : Nat) : Int)) = ((x.s.held + (min x.n (64 - x.s.held)) : Nat) : Int) := by rw [wrap_i64 (by omega) (by omega)]; try omega
    rw [hw1]
    refine J.sl (a := x.a) (len := x.n) (cap := x.c) (sz := 1) (lo := (some ((min x.n (64 - x.s.held) : Nat) : Int))) (hi := none) (mx := none) (d := 38) (by kernel_rfl) (min x.n (64 - x.s.held)) x.n x.c (by simp) (by simp) (by simp) (by have := hs.le; omega) (by have := hs.le; omega) (by have := hs.le; omega) (by simp) ?_
    intro a1 ha1 hb1
    have hp1 := hs.from (L := min x.n (64 - x.s.held)) (by have := hs.le; omega) ha1
    refine J.rn [.u, .n, .n, .n, .u, .u, .u, .u, .u, .n] [0, 1, 43] [.o 16 3, .c 17, .b 1] [.c 19, .b 1] (by kernel_rfl) ?_
    refine J.cond (b := (((x.s.held + (min x.n (64 - x.s.held)) : Nat) : Int) == 64)) (k' := 23) (by kernel_rfl) (fun hc => ?_) (fun hc => ?_)
    · try simp only [nrm] at hc
      have hc2 := hc
      refine J.run [.n, .n, .u, .u, .u, .u] [0, 1, 44, 47] ⟨[(0, .loc 0 0), (1, .v (.slice a1 (x.n - (min x.n (64 - x.s.held))) (x.c - (min x.n (64 - x.s.held))))), (44, .loc 0 0), (47, .loc 0 72)], [⟨177, hcells x.s.h kk (updR x.s.p x.s.held (x.bs.take (min x.n (64 - x.s.held)))) ((x.s.held + (min x.n (64 - x.s.held)) : Nat) : Int) (IntKind.u64.wrap (size + IntKind.u64.wrap ((n : Nat) : Int)))⟩]⟩ [.c 20, .b 1] [.o 21 4, .c 22, .b 1] (by kernel_rfl) ?_
      refine J.slA (b := b) (off := 72) (len := 64) (sz := 1) (lo := none) (hi := none) (d := 48) (by kernel_rfl) 0 64 (by simp) (by simp) (by omega) (by omega) (by omega) ?_
      refine J.callM (d := some 49) 0 rfl rfl (by kernel_rfl) (fun w1 A1 m1 l1 a1 => block_calls x.s.h kk (updR x.s.p x.s.held (x.bs.take (min x.n (64 - x.s.held)))) ((x.s.held + (min x.n (64 - x.s.held)) : Nat) : Int) (IntKind.u64.wrap (size + IntKind.u64.wrap ((n : Nat) : Int))) b (fun k => k = b) w1 (oneA (m1.bdd _ a1)) (l1.row (i := 0) rfl) rfl) ?_
      rintro _ _ u1 w3 A3 rfl g1
      have m2 := g1.mv
      replace hs := hs.mv m2; replace hp1 := hp1.mv m2
      refine J.run [.n, .n, .u, .u, .u, .u, .n, .n] [0, 1] ⟨[(0, .loc 0 0), (1, .v (.slice a1 (x.n - (min x.n (64 - x.s.held))) (x.c - (min x.n (64 - x.s.held)))))], [⟨177, hcells (hD x.s.h kk (updR x.s.p x.s.held (x.bs.take (min x.n (64 - x.s.held)))) 8) kk (updR x.s.p x.s.held (x.bs.take (min x.n (64 - x.s.held)))) 0 (IntKind.u64.wrap (size + IntKind.u64.wrap ((n : Nat) : Int)))⟩]⟩ [.o 21 6, .c 22, .b 1] [] (by kernel_rfl) ?_
      have hstep := HS.step_full (kk := kk) (s := x.s) (bs := x.bs) (by rw [← hlen]; omega)
      rw [← hlen] at hstep
      rw [show hcells (hD x.s.h kk (updR x.s.p x.s.held (x.bs.take (min x.n (64 - x.s.held)))) 8) kk (updR x.s.p x.s.held (x.bs.take (min x.n (64 - x.s.held)))) 0 (IntKind.u64.wrap (size + IntKind.u64.wrap ((n : Nat) : Int))) = hcells (x.s.step kk x.bs).h kk (x.s.step kk x.bs).p (((x.s.step kk x.bs).held : Nat) : Int) (IntKind.u64.wrap (size + IntKind.u64.wrap ((n : Nat) : Int))) by first | (rw [hstep]; done) | (rw [hstep]; rfl)]
      exact J.again ⟨a1, (x.n - (min x.n (64 - x.s.held))), (x.c - (min x.n (64 - x.s.held))), x.bs.drop (min x.n (64 - x.s.held)), (x.s.step kk x.bs)⟩ [0, 1] 1 (by simp only; omega) (by kernel_rfl) (by kernel_rfl) (fun w1 A1 m1 => ⟨hp1.mv m1, HS.step_held kk _ _ hh, by rw [hw, HS.wr_step (by omega) hh, ← hlen]⟩)
    · try simp only [nrm] at hc
      have hc2 := hc
      refine J.run [.n, .n] [0, 1] ⟨[(0, .loc 0 0), (1, .v (.slice a1 (x.n - (min x.n (64 - x.s.held))) (x.c - (min x.n (64 - x.s.held)))))], [⟨177, hcells x.s.h kk (updR x.s.p x.s.held (x.bs.take (min x.n (64 - x.s.held)))) ((x.s.held + (min x.n (64 - x.s.held)) : Nat) : Int) (IntKind.u64.wrap (size + IntKind.u64.wrap ((n : Nat) : Int)))⟩]⟩ [.c 23, .b 1] [] (by kernel_rfl) ?_
      have hstep := HS.step_part (kk := kk) (s := x.s) (bs := x.bs) (by rw [← hlen]; omega)
      rw [← hlen] at hstep
      rw [show hcells x.s.h kk (updR x.s.p x.s.held (x.bs.take (min x.n (64 - x.s.held)))) ((x.s.held + (min x.n (64 - x.s.held)) : Nat) : Int) (IntKind.u64.wrap (size + IntKind.u64.wrap ((n : Nat) : Int))) = hcells (x.s.step kk x.bs).h kk (x.s.step kk x.bs).p (((x.s.step kk x.bs).held : Nat) : Int) (IntKind.u64.wrap (size + IntKind.u64.wrap ((n : Nat) : Int))) by first | (rw [hstep]; done) | (rw [hstep]; rfl)]
      exact J.again ⟨a1, (x.n - (min x.n (64 - x.s.held))), (x.c - (min x.n (64 - x.s.held))), x.bs.drop (min x.n (64 - x.s.held)), (x.s.step kk x.bs)⟩ [0, 1] 1 (by simp only; omega) (by kernel_rfl) (by kernel_rfl) (fun w1 A1 m1 => ⟨hp1.mv m1, HS.step_held kk _ _ hh, by rw [hw, HS.wr_step (by omega) hh, ← hlen]⟩)
  · try simp only [nrm] at hc
    have hc1 := hc
    refine J.exit (id := 0) (by kernel_rfl) (by rfl) ?_
    have hw2 := hw; rw [HS.wr_nil (s := x.s) (bs := x.bs) (by omega)] at hw2
    rw [← hw2]
    refine J.end_ (v := .tuple #[]) (by kernel_rfl) (fun w1 A1 m1 hac l1 => ⟨_, l1.row (i := 0) rfl, rfl⟩)
end Go.Proofs.Ytkgokehkobifkaa.J

/- Package sum: Sum, Of, Kept. -/
namespace Go.Proofs.Ytkgokehkobifkaa.J
open Go Go.RowKit

def byteOf (x : Int) : UInt8 := UInt8.ofNat x.toNat
theorem u8_of (x : Int) : IntKind.u8.wrap x = (((byteOf (IntKind.u8.wrap x)).toNat : Nat) : Int) := by
  rw [wrap_u8i, byteOf, u8_nat]
  omega
theorem tmod_nat (a : Nat) : Int.tmod ((a : Nat) : Int) 64 = ((a % 64 : Nat) : Int) := rfl

theorem w8_ix {f : Nat → Int} {t : Nat} (h : t < 8) : (w8 f)[t]? = some (.int .u32 (f t)) := rmap_at _ h
def padK (held : Nat) : Nat := (119 - held) % 64
def lenB (n : Int) : Nat → List UInt8
  | 0 => []
  | j + 1 => lenB n j ++ [byteOf (IntKind.u8.wrap (Int.fdiv n (2 ^ min (8 * (7 - ((j : Nat) : Int))).toNat IntKind.u64.bits)))]
theorem lenB_len (n : Int) : ∀ j, (lenB n j).length = j
  | 0 => rfl
  | j + 1 => by rw [lenB, List.length_append, lenB_len n j]; rfl
def tail (held : Nat) (n : Int) (j : Nat) : List UInt8 := 128 :: List.replicate (padK held) 0 ++ lenB n j

theorem flatMap_len {α : Type} {k : Nat} {enc : α → List Value} : ∀ (l : List α), (∀ x ∈ l, (enc x).length = k) → (l.flatMap enc).length = l.length * k
  | [], _ => by simp
  | x :: r, h => by
    rw [List.flatMap_cons, List.length_append, h x (by simp), flatMap_len r (fun y hy => h y (by simp [hy])), List.length_cons, Nat.add_mul, Nat.one_mul, Nat.add_comm]
theorem flatMap_at {α : Type} {k : Nat} {enc : α → List Value} : ∀ {l : List α}, (∀ x ∈ l, (enc x).length = k) → ∀ {i : Nat} {x : α}, l[i]? = some x → ∀ {j : Nat} {v : Value}, (enc x)[j]? = some v → (l.flatMap enc)[i * k + j]? = some v
  | [], _, i, x, hx, _, _, _ => by simp at hx
  | y :: r, h, 0, x, hx, j, v, hv => by
    simp only [List.getElem?_cons_zero, Option.some.injEq] at hx
    subst hx
    have := (List.getElem?_eq_some_iff.1 hv).1
    rw [List.flatMap_cons, Nat.zero_mul, Nat.zero_add, List.getElem?_append_left this, hv]
  | y :: r, h, i + 1, x, hx, j, v, hv => by
    simp only [List.getElem?_cons_succ] at hx
    have hy := h y (by simp)
    rw [List.flatMap_cons, List.getElem?_append_right (by rw [hy, Nat.add_mul]; omega), hy, show (i + 1) * k + j - k = i * k + j by rw [Nat.add_mul]; omega]
    exact flatMap_at (fun z hz => h z (by simp [hz])) hx hv

theorem Own.one {α : Type} {N : Nat} {e : TypeId} {k : Nat} {ρ : List Nat} {A : Nat → Prop} {w : World} {a : Option Addr} {n c : Nat} {enc : α → List Value} {l : List α} (h : Own N e k ρ A w a n c (l.flatMap enc)) (hk : ∀ x ∈ l, (enc x).length = k) (hkp : 0 < k) {b : Nat} (hb : A b) (hm : b ∈ ρ) :
    Sl k enc (fun q => q = b) w a n c l := by
  rcases h with h | h
  · have h2 := h
    obtain ⟨h1, ⟨rfl, rfl, rfl⟩ | ⟨g, cur, rfl, h3, h4, h5, h6, h7, h8, h9, h10⟩⟩ := h
    · have q := h2.sl (Ac := fun _ => False) hk hkp (fun _ h => h.elim)
      exact ⟨q.len, q.le, q.cap, fun hne => by
        have := q.len
        cases l with
        | nil => exact absurd rfl hne
        | cons => simp at this⟩
    · have q := h2.sl (Ac := fun _ => False) hk hkp (fun _ h => h.elim)
      refine ⟨q.len, q.le, q.cap, fun hne => ?_⟩
      obtain ⟨b', off, e1, _, e3, e4⟩ := q.at_ hne
      cases e1
      exact ⟨g, 0, rfl, fun e => h4 (e ▸ hm), e3, e4⟩
  · obtain ⟨h1, h2, h3, h4⟩ := h
    have hll := flatMap_len l hk
    have hlen : n = l.length := by
      rw [hll] at h1
      exact (Nat.eq_of_mul_eq_mul_right hkp h1).symm
    refine ⟨hlen, Nat.le_of_eq h2, h3, fun hne => ?_⟩
    have hxs : l.flatMap enc ≠ [] := by
      intro e
      have : (l.flatMap enc).length = 0 := by rw [e]; rfl
      rw [hll] at this
      have : l.length = 0 := by
        rcases Nat.mul_eq_zero.1 this with h | h
        · exact h
        · omega
      exact hne (List.eq_nil_of_length_eq_zero this)
    obtain ⟨b', off, e1, e2, e3, e4⟩ := h4 hxs
    refine ⟨b', off, e1, fun e => e2 (e ▸ hb), e3, fun i x hx j v hv => ?_⟩
    have := e4 (i * k + j) v (flatMap_at hk hx hv)
    rwa [← Nat.add_assoc] at this

/-- What the sum of the tail comes to. -/
def HS.fin (kk : Nat → Int) (s : HS) (size : Int) : HS := s.wr kk (tail s.held (IntKind.u64.wrap (8 * size)) 8)
def dgF (h : Nat → Int) : Nat → Nat → Int
  | 0 => fun _ => 0
  | i + 1 => upd (upd (upd (upd (dgF h i) (4 * i) (IntKind.u8.wrap (Int.fdiv (h i) (2 ^ 24)))) (4 * i + 1) (IntKind.u8.wrap (Int.fdiv (h i) (2 ^ 16)))) (4 * i + 2) (IntKind.u8.wrap (Int.fdiv (h i) (2 ^ 8)))) (4 * i + 3) (IntKind.u8.wrap (h i))

structure PadSt where
  a : Option Addr
  c : Nat
  k : Nat

theorem pad_next {held k : Nat} (hh : held < 64) (hk : k ≤ padK held) (hc : ¬ (held + (1 + k)) % 64 = 56) : k + 1 ≤ padK held := by
  unfold padK at *
  have : k ≠ (119 - held) % 64 := by
    rintro rfl
    omega
  omega
theorem pad_end {held k : Nat} (hh : held < 64) (hk : k ≤ padK held) (hc : (held + (1 + k)) % 64 = 56) : k = padK held := by
  unfold padK at *
  omega
theorem zeros_snoc (k : Nat) : (128 :: List.replicate k (0 : UInt8)).flatMap u8 ++ [.int .u8 0] = (128 :: List.replicate (k + 1) 0).flatMap u8 := by
  rw [List.replicate_succ', ← List.cons_append, List.flatMap_append]; rfl
theorem lenB_snoc (held : Nat) (n : Int) (j : Nat) : (tail held n j).flatMap u8 ++ [.int .u8 (IntKind.u8.wrap (Int.fdiv n (2 ^ min (8 * (7 - ((j : Nat) : Int))).toNat IntKind.u64.bits)))] = (tail held n (j + 1)).flatMap u8 := by
  rw [u8_of]
  unfold tail
  rw [lenB, ← List.append_assoc, List.flatMap_append (ys := [_])]
  rfl
theorem tail_len (held : Nat) (n : Int) (j : Nat) : (tail held n j).length = 1 + padK held + j := by
  simp [tail, lenB_len]; omega

structure LenSt where
  a : Option Addr
  c : Nat
  j : Nat

theorem sum_calls (s : HS) (kk : Nat → Int) (size : Int) (hh : s.held < 64) (b : Nat) (Ac : Nat → Prop) (W : World) (hA : ∀ k, Ac k → k < W.heap.size) (hrow : W.heap[b]? = some (.cells (hcells s.h kk s.p ((s.held : Nat) : Int) size).toArray 177 (0, 0))) (hAb : Ac b) :
    Calls Pr 104 #[.pointer (some ⟨b, 0, none⟩)] W (RB b 177 W fun v cs w => v = .agg (b32 (dgF (s.fin kk size).h 8)).toArray ∧ cs = hcells s.h kk s.p ((s.held : Nat) : Int) size) := by
  refine J.enterM (fn := Try.f104) (n := 75) (b := b) (T := 177) (cs := (hcells s.h kk s.p ((s.held : Nat) : Int) size)) (args := []) Try.func104 (by kernel_rfl) (by kernel_rfl) (by kernel_rfl) hA hrow hAb ?_
  refine J.rn [.n, .n] [0] [.c 0] [.o 1 0, .c 2] (by kernel_rfl) ?_
  refine J.new (T := 34) (cs := [.int .u8 0, .int .u8 0, .int .u8 0, .int .u8 0, .int .u8 0, .int .u8 0, .int .u8 0, .int .u8 0, .int .u8 0, .int .u8 0, .int .u8 0, .int .u8 0, .int .u8 0, .int .u8 0, .int .u8 0, .int .u8 0, .int .u8 0, .int .u8 0, .int .u8 0, .int .u8 0, .int .u8 0, .int .u8 0, .int .u8 0, .int .u8 0, .int .u8 0, .int .u8 0, .int .u8 0, .int .u8 0, .int .u8 0, .int .u8 0, .int .u8 0, .int .u8 0]) (d := 2) (K := .ptr) (by kernel_rfl) (fun b1 hb1 => ?_)
  refine J.rn [.n, .n, .n, .u, .u, .u] [2, 12] [.o 1 1, .c 2] [.o 3 3, .c 4] (by kernel_rfl) ?_
  refine J.new (T := 177) (cs := [.int .u32 0, .int .u32 0, .int .u32 0, .int .u32 0, .int .u32 0, .int .u32 0, .int .u32 0, .int .u32 0, .int .u32 0, .int .u32 0, .int .u32 0, .int .u32 0, .int .u32 0, .int .u32 0, .int .u32 0, .int .u32 0, .int .u32 0, .int .u32 0, .int .u32 0, .int .u32 0, .int .u32 0, .int .u32 0, .int .u32 0, .int .u32 0, .int .u32 0, .int .u32 0, .int .u32 0, .int .u32 0, .int .u32 0, .int .u32 0, .int .u32 0, .int .u32 0, .int .u32 0, .int .u32 0, .int .u32 0, .int .u32 0, .int .u32 0, .int .u32 0, .int .u32 0, .int .u32 0, .int .u32 0, .int .u32 0, .int .u32 0, .int .u32 0, .int .u32 0, .int .u32 0, .int .u32 0, .int .u32 0, .int .u32 0, .int .u32 0, .int .u32 0, .int .u32 0, .int .u32 0, .int .u32 0, .int .u32 0, .int .u32 0, .int .u32 0, .int .u32 0, .int .u32 0, .int .u32 0, .int .u32 0, .int .u32 0, .int .u32 0, .int .u32 0, .int .u32 0, .int .u32 0, .int .u32 0, .int .u32 0, .int .u32 0, .int .u32 0, .int .u32 0, .int .u32 0, .int .u8 0, .int .u8 0, .int .u8 0, .int .u8 0, .int .u8 0, .int .u8 0, .int .u8 0, .int .u8 0, .int .u8 0, .int .u8 0, .int .u8 0, .int .u8 0, .int .u8 0, .int .u8 0, .int .u8 0, .int .u8 0, .int .u8 0, .int .u8 0, .int .u8 0, .int .u8 0, .int .u8 0, .int .u8 0, .int .u8 0, .int .u8 0, .int .u8 0, .int .u8 0, .int .u8 0, .int .u8 0, .int .u8 0, .int .u8 0, .int .u8 0, .int .u8 0, .int .u8 0, .int .u8 0, .int .u8 0, .int .u8 0, .int .u8 0, .int .u8 0, .int .u8 0, .int .u8 0, .int .u8 0, .int .u8 0, .int .u8 0, .int .u8 0, .int .u8 0, .int .u8 0, .int .u8 0, .int .u8 0, .int .u8 0, .int .u8 0, .int .u8 0, .int .u8 0, .int .u8 0, .int .u8 0, .int .u8 0, .int .u8 0, .int .u8 0, .int .u8 0, .int .u8 0, .int .u8 0, .int .u8 0, .int .u8 0, .int .u8 0, .int .u8 0, .int .i64 0, .int .u64 0]) (d := 3) (K := .ptr) (by kernel_rfl) (fun b2 hb2 => ?_)
  refine J.rn [.u, .n, .n, .n, .u, .u, .u, .u, .n, .n, .n] [2, 3, 4] [.o 3 4, .c 4] [.o 7 0, .c 8] (by kernel_rfl) ?_
  refine J.new (T := 5) (cs := [.int .u8 128]) (d := 16) (K := (.sl 1)) (by kernel_rfl) (fun b3 hb3 => ?_)
  refine J.run [.u, .n, .n, .n] [2, 3, 4, 5] ⟨[(2, .loc 1 0), (3, .loc 2 0), (4, .v (.int .u64 (IntKind.u64.wrap (8 * size)))), (5, .v (.slice (some ⟨b3, 0, none⟩) 1 1))], [⟨177, hcells s.h kk s.p ((s.held : Nat) : Int) size⟩, ⟨34, [.int .u8 0, .int .u8 0, .int .u8 0, .int .u8 0, .int .u8 0, .int .u8 0, .int .u8 0, .int .u8 0, .int .u8 0, .int .u8 0, .int .u8 0, .int .u8 0, .int .u8 0, .int .u8 0, .int .u8 0, .int .u8 0, .int .u8 0, .int .u8 0, .int .u8 0, .int .u8 0, .int .u8 0, .int .u8 0, .int .u8 0, .int .u8 0, .int .u8 0, .int .u8 0, .int .u8 0, .int .u8 0, .int .u8 0, .int .u8 0, .int .u8 0, .int .u8 0]⟩, ⟨177, hcells s.h kk s.p ((s.held : Nat) : Int) size⟩, ⟨5, [.int .u8 128]⟩]⟩ [.o 7 1, .c 8] [.c 10, .b 0, .c 19] (by kernel_rfl) ?_
  refine J.freeze 3 rfl (by kernel_rfl) (fun (h : b3 = b) => by have := hA _ hAb; omega) (L := ⟨5, [.int .u8 128]⟩) rfl (fun w1 A1 m1 hs1 hr1 hn1 => ?_)
  have hz : Sl 1 u8 A1 w1 (some ⟨b3, 0, none⟩) 1 1 [128] := Sl.ofRow (enc := u8) (l := [128]) (kk := 1) (b := b3) (cs := [.int .u8 128]) hr1 hn1 rfl (fun x _ => rfl) rfl (by simp only [maxLen]; omega)
  have ho : Own W.heap.size 5 1 [b, b1, b2] A1 w1 (some ⟨b3, 0, none⟩) 1 1 (([128] : List UInt8).flatMap u8) := .inr (hz.tight (fun x _ => u8_len x))
  refine J.loop (X := PadSt) (fun x => ⟨[(2, .loc 1 0), (3, .loc 2 0), (4, .v (.int .u64 (IntKind.u64.wrap (8 * size)))), (5, .v (.slice x.a (1 + x.k) x.c))], [⟨177, hcells s.h kk s.p ((s.held : Nat) : Int) size⟩, ⟨34, [.int .u8 0, .int .u8 0, .int .u8 0, .int .u8 0, .int .u8 0, .int .u8 0, .int .u8 0, .int .u8 0, .int .u8 0, .int .u8 0, .int .u8 0, .int .u8 0, .int .u8 0, .int .u8 0, .int .u8 0, .int .u8 0, .int .u8 0, .int .u8 0, .int .u8 0, .int .u8 0, .int .u8 0, .int .u8 0, .int .u8 0, .int .u8 0, .int .u8 0, .int .u8 0, .int .u8 0, .int .u8 0, .int .u8 0, .int .u8 0, .int .u8 0, .int .u8 0]⟩, ⟨177, hcells s.h kk s.p ((s.held : Nat) : Int) size⟩]⟩) (fun x A w => Own W.heap.size 5 1 [b, b1, b2] A w x.a (1 + x.k) x.c ((128 :: List.replicate x.k 0).flatMap u8) ∧ x.k ≤ padK s.held) (fun x => 64 - x.k) [2, 3, 4, 5] 3 [b, b1, b2] ⟨some ⟨b3, 0, none⟩, 1, 0⟩ (by kernel_rfl) (by kernel_rfl) (by kernel_rfl) (fun w1 A1 m1 => ⟨ho.mv m1, Nat.zero_le _⟩) (fun x A2 w2 hI => ?_)
  obtain ⟨ho, hk⟩ := hI; have hpk : padK s.held < 64 := Nat.mod_lt _ (by omega)
  refine J.run [.n, .n, .n, .u, .u, .u, .u, .u, .u, .u, .n] [2, 3, 4, 5, 23] ⟨[(2, .loc 1 0), (3, .loc 2 0), (4, .v (.int .u64 (IntKind.u64.wrap (8 * size)))), (5, .v (.slice x.a (1 + x.k) x.c)), (23, .v (.bool ((Int.tmod (IntKind.i64.wrap (((s.held : Nat) : Int) + (((1 + x.k) : Nat) : Int))) 64) != 56)))], [⟨177, hcells s.h kk s.p ((s.held : Nat) : Int) size⟩, ⟨34, [.int .u8 0, .int .u8 0, .int .u8 0, .int .u8 0, .int .u8 0, .int .u8 0, .int .u8 0, .int .u8 0, .int .u8 0, .int .u8 0, .int .u8 0, .int .u8 0, .int .u8 0, .int .u8 0, .int .u8 0, .int .u8 0, .int .u8 0, .int .u8 0, .int .u8 0, .int .u8 0, .int .u8 0, .int .u8 0, .int .u8 0, .int .u8 0, .int .u8 0, .int .u8 0, .int .u8 0, .int .u8 0, .int .u8 0, .int .u8 0, .int .u8 0, .int .u8 0]⟩, ⟨177, hcells s.h kk s.p ((s.held : Nat) : Int) size⟩]⟩ [.c 11] [.c 14, .c 17] (by kernel_rfl) ?_
  have hw1 : IntKind.i64.wrap (((s.held : Nat) : Int) + (((1 + x.k) : Nat) : Int)) = ((s.held + (1 + x.k) : Nat) : Int) := by rw [wrap_i64 (by omega) (by omega)]; try omega
  rw [hw1]
  refine J.cond (b := ((Int.tmod ((s.held + (1 + x.k) : Nat) : Int) 64) != 56)) (k' := 16) (by kernel_rfl) (fun hc => ?_) (fun hc => ?_)
  · try simp only [nrm] at hc
    have hc1 := hc
    refine J.run [.n, .n, .n, .u] [2, 3, 4, 24] ⟨[(2, .loc 1 0), (3, .loc 2 0), (4, .v (.int .u64 (IntKind.u64.wrap (8 * size)))), (24, .v (.slice x.a (1 + x.k) x.c))], [⟨177, hcells s.h kk s.p ((s.held : Nat) : Int) size⟩, ⟨34, [.int .u8 0, .int .u8 0, .int .u8 0, .int .u8 0, .int .u8 0, .int .u8 0, .int .u8 0, .int .u8 0, .int .u8 0, .int .u8 0, .int .u8 0, .int .u8 0, .int .u8 0, .int .u8 0, .int .u8 0, .int .u8 0, .int .u8 0, .int .u8 0, .int .u8 0, .int .u8 0, .int .u8 0, .int .u8 0, .int .u8 0, .int .u8 0, .int .u8 0, .int .u8 0, .int .u8 0, .int .u8 0, .int .u8 0, .int .u8 0, .int .u8 0, .int .u8 0]⟩, ⟨177, hcells s.h kk s.p ((s.held : Nat) : Int) size⟩]⟩ [.c 15, .c 17] [.o 18 1, .b 1] (by kernel_rfl) ?_
    refine J.new (T := 5) (cs := [.int .u8 0]) (d := 25) (K := (.sl 1)) (by kernel_rfl) (fun b4 hb4 => ?_)
    replace ho := ho.more hb4
    refine J.append (T := 23) (Tx := 23) (x := .slice (some ⟨b4, 0, none⟩) 1 1) (bytes := 1) (d := 26) (by kernel_rfl) (by kernel_rfl) ho (.inl (by omega)) (fun w1 A1 m1 l1 => l1.src (i := 3) rfl (e := 5) (by kernel_rfl) rfl rfl) (by simp only [maxLen]; omega) (by omega) ?_
    clear ho; intro a1 c1 w3 A3 ho m2
    refine J.rn [.u, .n, .n] [2, 3, 4, 5] [.o 18 3, .b 1] [] (by kernel_rfl) ?_
    rw [tmod_nat] at hc1; have hpn := pad_next hh hk (by omega)
    rw [zeros_snoc] at ho
    have e3 : 1 + x.k + 1 = 1 + (x.k + 1) := by omega
    rw [e3] at ho ⊢
    exact J.again ⟨a1, c1, x.k + 1⟩ [2, 3, 4, 5] 3 (by simp only; omega) (by kernel_rfl) (by kernel_rfl) (fun w1 A1 m1 => ⟨.inl ((ho.mv m1).fewer (by simp)), hpn⟩)
  · try simp only [nrm] at hc
    have hc1 := hc
    rw [tmod_nat] at hc1; have hpe : x.k = padK s.held := pad_end hh hk (by omega)
    rw [hpe] at ho; rw [hpe]
    refine J.exit (id := 0) (by kernel_rfl) (by rfl) ?_
    refine J.rn [.n, .n, .n, .u, .n, .n] [2, 3, 4, 5, 6] [.c 19] [.c 23, .b 2, .c 34] (by kernel_rfl) ?_
    refine J.loop (X := LenSt) (fun y => ⟨[(2, .loc 1 0), (3, .loc 2 0), (4, .v (.int .u64 (IntKind.u64.wrap (8 * size)))), (5, .v (.slice y.a (1 + padK s.held + y.j) y.c)), (6, .v (.int .i64 (7 - ((y.j : Nat) : Int))))], [⟨177, hcells s.h kk s.p ((s.held : Nat) : Int) size⟩, ⟨34, [.int .u8 0, .int .u8 0, .int .u8 0, .int .u8 0, .int .u8 0, .int .u8 0, .int .u8 0, .int .u8 0, .int .u8 0, .int .u8 0, .int .u8 0, .int .u8 0, .int .u8 0, .int .u8 0, .int .u8 0, .int .u8 0, .int .u8 0, .int .u8 0, .int .u8 0, .int .u8 0, .int .u8 0, .int .u8 0, .int .u8 0, .int .u8 0, .int .u8 0, .int .u8 0, .int .u8 0, .int .u8 0, .int .u8 0, .int .u8 0, .int .u8 0, .int .u8 0]⟩, ⟨177, hcells s.h kk s.p ((s.held : Nat) : Int) size⟩]⟩) (fun y A w => Own W.heap.size 5 1 [b, b1, b2] A w y.a (1 + padK s.held + y.j) y.c ((tail s.held (IntKind.u64.wrap (8 * size)) y.j).flatMap u8) ∧ y.j ≤ 8) (fun y => 8 - y.j) [2, 3, 4, 5, 6] 3 [b, b1, b2] ⟨x.a, x.c, 0⟩ (by kernel_rfl) (by kernel_rfl) (by kernel_rfl) (fun w1 A1 m1 => ⟨by have := ho.mv m1; simpa [tail, lenB] using this, Nat.zero_le _⟩) (fun y A4 w4 hI => ?_)
    obtain ⟨ho, hj⟩ := hI
    refine J.rn [.n, .n, .n, .u, .u, .n] [2, 3, 4, 5, 6, 28] [.c 24] [.c 27, .c 30] (by kernel_rfl) ?_
    refine J.cond (b := (decide ((7 - ((y.j : Nat) : Int)) ≥ 0))) (k' := 29) (by kernel_rfl) (fun hc => ?_) (fun hc => ?_)
    · try simp only [nrm] at hc
      have hc2 := hc
      refine J.run [.n, .n, .n, .n, .u, .u, .u, .u] [2, 3, 4, 6, 31, 32, 34] ⟨[(2, .loc 1 0), (3, .loc 2 0), (4, .v (.int .u64 (IntKind.u64.wrap (8 * size)))), (6, .v (.int .i64 (7 - ((y.j : Nat) : Int)))), (31, .v (.slice y.a (1 + padK s.held + y.j) y.c)), (32, .v (.int .u64 (IntKind.u64.wrap (8 * size)))), (34, .v (.int .i64 (IntKind.i64.wrap (8 * (7 - ((y.j : Nat) : Int))))))], [⟨177, hcells s.h kk s.p ((s.held : Nat) : Int) size⟩, ⟨34, [.int .u8 0, .int .u8 0, .int .u8 0, .int .u8 0, .int .u8 0, .int .u8 0, .int .u8 0, .int .u8 0, .int .u8 0, .int .u8 0, .int .u8 0, .int .u8 0, .int .u8 0, .int .u8 0, .int .u8 0, .int .u8 0, .int .u8 0, .int .u8 0, .int .u8 0, .int .u8 0, .int .u8 0, .int .u8 0, .int .u8 0, .int .u8 0, .int .u8 0, .int .u8 0, .int .u8 0, .int .u8 0, .int .u8 0, .int .u8 0, .int .u8 0, .int .u8 0]⟩, ⟨177, hcells s.h kk s.p ((s.held : Nat) : Int) size⟩]⟩ [.c 28, .c 30] [.o 32 4, .b 3, .c 33] (by kernel_rfl) ?_
      have hw2 : IntKind.i64.wrap (8 * (7 - ((y.j : Nat) : Int))) = (8 * (7 - ((y.j : Nat) : Int))) := by rw [wrap_i64 (by omega) (by omega)]
      rw [hw2]
      refine J.shr (q := .u64) (d := 35) (x := (IntKind.u64.wrap (8 * size))) (y := (8 * (7 - ((y.j : Nat) : Int)))) (by kernel_rfl) (by omega) ?_
      refine J.run [.u] [2, 3, 4, 6, 31, 36] ⟨[(2, .loc 1 0), (3, .loc 2 0), (4, .v (.int .u64 (IntKind.u64.wrap (8 * size)))), (6, .v (.int .i64 (7 - ((y.j : Nat) : Int)))), (31, .v (.slice y.a (1 + padK s.held + y.j) y.c)), (36, .v (.int .u8 (IntKind.u8.wrap (Int.fdiv (IntKind.u64.wrap (8 * size)) (2 ^ min (8 * (7 - ((y.j : Nat) : Int))).toNat IntKind.u64.bits)))))], [⟨177, hcells s.h kk s.p ((s.held : Nat) : Int) size⟩, ⟨34, [.int .u8 0, .int .u8 0, .int .u8 0, .int .u8 0, .int .u8 0, .int .u8 0, .int .u8 0, .int .u8 0, .int .u8 0, .int .u8 0, .int .u8 0, .int .u8 0, .int .u8 0, .int .u8 0, .int .u8 0, .int .u8 0, .int .u8 0, .int .u8 0, .int .u8 0, .int .u8 0, .int .u8 0, .int .u8 0, .int .u8 0, .int .u8 0, .int .u8 0, .int .u8 0, .int .u8 0, .int .u8 0, .int .u8 0, .int .u8 0, .int .u8 0, .int .u8 0]⟩, ⟨177, hcells s.h kk s.p ((s.held : Nat) : Int) size⟩]⟩ [.o 32 5, .b 3, .c 33] [.o 32 6, .b 3, .c 33] (by kernel_rfl) ?_
      refine J.new (T := 5) (cs := [.int .u8 (IntKind.u8.wrap (Int.fdiv (IntKind.u64.wrap (8 * size)) (2 ^ min (8 * (7 - ((y.j : Nat) : Int))).toNat IntKind.u64.bits)))]) (d := 37) (K := (.sl 1)) (by kernel_rfl) (fun b5 hb5 => ?_)
      replace ho := ho.more hb5
      refine J.append (T := 23) (Tx := 23) (x := .slice (some ⟨b5, 0, none⟩) 1 1) (bytes := 1) (d := 38) (by kernel_rfl) (by kernel_rfl) ho (.inl (by omega)) (fun w1 A1 m1 l1 => l1.src (i := 3) rfl (e := 5) (by kernel_rfl) rfl rfl) (by simp only [maxLen]; omega) (by omega) ?_
      clear ho; intro a2 c2 w5 A5 ho m3
      refine J.run [.u, .n, .n, .n, .u, .u, .u, .n] [2, 3, 4, 5, 6] ⟨[(2, .loc 1 0), (3, .loc 2 0), (4, .v (.int .u64 (IntKind.u64.wrap (8 * size)))), (5, .v (.slice a2 (1 + padK s.held + y.j + 1) c2)), (6, .v (.int .i64 (IntKind.i64.wrap ((7 - ((y.j : Nat) : Int)) - 1))))], [⟨177, hcells s.h kk s.p ((s.held : Nat) : Int) size⟩, ⟨34, [.int .u8 0, .int .u8 0, .int .u8 0, .int .u8 0, .int .u8 0, .int .u8 0, .int .u8 0, .int .u8 0, .int .u8 0, .int .u8 0, .int .u8 0, .int .u8 0, .int .u8 0, .int .u8 0, .int .u8 0, .int .u8 0, .int .u8 0, .int .u8 0, .int .u8 0, .int .u8 0, .int .u8 0, .int .u8 0, .int .u8 0, .int .u8 0, .int .u8 0, .int .u8 0, .int .u8 0, .int .u8 0, .int .u8 0, .int .u8 0, .int .u8 0, .int .u8 0]⟩, ⟨177, hcells s.h kk s.p ((s.held : Nat) : Int) size⟩, ⟨5, [.int .u8 (IntKind.u8.wrap (Int.fdiv (IntKind.u64.wrap (8 * size)) (2 ^ min (8 * (7 - ((y.j : Nat) : Int))).toNat IntKind.u64.bits)))]⟩]⟩ [.o 32 8, .b 3, .c 33] [] (by kernel_rfl) ?_
      have hw3 : IntKind.i64.wrap ((7 - ((y.j : Nat) : Int)) - 1) = ((7 - ((y.j : Nat) : Int)) - 1) := by rw [wrap_i64 (by omega) (by omega)]
      rw [hw3]
      rw [lenB_snoc] at ho
      have e6 : ((7 - ((y.j : Nat) : Int)) - 1) = 7 - ((y.j + 1 : Nat) : Int) := by omega
      rw [e6]
      exact J.again ⟨a2, c2, y.j + 1⟩ [2, 3, 4, 5, 6] 3 (by simp only; omega) (by kernel_rfl) (by kernel_rfl) (fun w1 A1 m1 => ⟨.inl ((ho.mv m1).fewer (by simp)), by simp only; omega⟩)
    · try simp only [nrm] at hc
      have hc2 := hc
      have hj8 : y.j = 8 := by omega
      rw [hj8] at ho; rw [hj8]
      refine J.exit (id := 2) (by kernel_rfl) (by rfl) ?_
      refine J.run [.n, .n, .u] [2, 3, 39] ⟨[(2, .loc 1 0), (3, .loc 2 0), (39, .v (.slice y.a (1 + padK s.held + 8) y.c))], [⟨177, hcells s.h kk s.p ((s.held : Nat) : Int) size⟩, ⟨34, [.int .u8 0, .int .u8 0, .int .u8 0, .int .u8 0, .int .u8 0, .int .u8 0, .int .u8 0, .int .u8 0, .int .u8 0, .int .u8 0, .int .u8 0, .int .u8 0, .int .u8 0, .int .u8 0, .int .u8 0, .int .u8 0, .int .u8 0, .int .u8 0, .int .u8 0, .int .u8 0, .int .u8 0, .int .u8 0, .int .u8 0, .int .u8 0, .int .u8 0, .int .u8 0, .int .u8 0, .int .u8 0, .int .u8 0, .int .u8 0, .int .u8 0, .int .u8 0]⟩, ⟨177, hcells s.h kk s.p ((s.held : Nat) : Int) size⟩]⟩ [.c 34] [.o 35 1, .c 36] (by kernel_rfl) ?_
      refine J.callM (d := some 40) 2 rfl rfl (by kernel_rfl) (fun w1 A1 m1 l1 a1 => write_calls s kk size y.a (1 + padK s.held + 8) y.c (tail s.held (IntKind.u64.wrap (8 * size)) 8) hh b2 (fun k => k = b2) w1 (oneA (m1.bdd _ a1)) (l1.row (i := 2) rfl) rfl ((ho.mv m1).one (fun x _ => u8_len x) (by decide) a1 (by simp))) ?_
      rintro _ _ u1 w6 A6 rfl g1
      have m4 := g1.mv
      replace ho := ho.mv m4
      refine J.rn [.n, .n, .n] [2, 3] [.o 35 2, .c 36] [.o 37 0, .c 38] (by kernel_rfl) ?_
      refine J.new (T := 34) (cs := [.int .u8 0, .int .u8 0, .int .u8 0, .int .u8 0, .int .u8 0, .int .u8 0, .int .u8 0, .int .u8 0, .int .u8 0, .int .u8 0, .int .u8 0, .int .u8 0, .int .u8 0, .int .u8 0, .int .u8 0, .int .u8 0, .int .u8 0, .int .u8 0, .int .u8 0, .int .u8 0, .int .u8 0, .int .u8 0, .int .u8 0, .int .u8 0, .int .u8 0, .int .u8 0, .int .u8 0, .int .u8 0, .int .u8 0, .int .u8 0, .int .u8 0, .int .u8 0]) (d := 7) (K := .ptr) (by kernel_rfl) (fun b6 hb6 => ?_)
      replace ho := ho.more hb6
      refine J.run [.n, .n, .n, .n, .u, .u, .u, .n, .n] [2, 7, 42, 43] ⟨[(2, .loc 1 0), (7, .loc 3 0), (42, .v (.agg [.int .u32 (((s.wr kk (tail s.held (IntKind.u64.wrap (8 * size)) 8)).h) 0), .int .u32 (((s.wr kk (tail s.held (IntKind.u64.wrap (8 * size)) 8)).h) 1), .int .u32 (((s.wr kk (tail s.held (IntKind.u64.wrap (8 * size)) 8)).h) 2), .int .u32 (((s.wr kk (tail s.held (IntKind.u64.wrap (8 * size)) 8)).h) 3), .int .u32 (((s.wr kk (tail s.held (IntKind.u64.wrap (8 * size)) 8)).h) 4), .int .u32 (((s.wr kk (tail s.held (IntKind.u64.wrap (8 * size)) 8)).h) 5), .int .u32 (((s.wr kk (tail s.held (IntKind.u64.wrap (8 * size)) 8)).h) 6), .int .u32 (((s.wr kk (tail s.held (IntKind.u64.wrap (8 * size)) 8)).h) 7)].toArray)), (43, .v (.int .i64 0))], [⟨177, hcells s.h kk s.p ((s.held : Nat) : Int) size⟩, ⟨34, [.int .u8 0, .int .u8 0, .int .u8 0, .int .u8 0, .int .u8 0, .int .u8 0, .int .u8 0, .int .u8 0, .int .u8 0, .int .u8 0, .int .u8 0, .int .u8 0, .int .u8 0, .int .u8 0, .int .u8 0, .int .u8 0, .int .u8 0, .int .u8 0, .int .u8 0, .int .u8 0, .int .u8 0, .int .u8 0, .int .u8 0, .int .u8 0, .int .u8 0, .int .u8 0, .int .u8 0, .int .u8 0, .int .u8 0, .int .u8 0, .int .u8 0, .int .u8 0]⟩, ⟨177, hcells (s.wr kk (tail s.held (IntKind.u64.wrap (8 * size)) 8)).h kk (s.wr kk (tail s.held (IntKind.u64.wrap (8 * size)) 8)).p (((s.wr kk (tail s.held (IntKind.u64.wrap (8 * size)) 8)).held : Nat) : Int) (IntKind.u64.wrap (size + IntKind.u64.wrap (((1 + padK s.held + 8) : Nat) : Int)))⟩, ⟨34, [.int .u8 0, .int .u8 0, .int .u8 0, .int .u8 0, .int .u8 0, .int .u8 0, .int .u8 0, .int .u8 0, .int .u8 0, .int .u8 0, .int .u8 0, .int .u8 0, .int .u8 0, .int .u8 0, .int .u8 0, .int .u8 0, .int .u8 0, .int .u8 0, .int .u8 0, .int .u8 0, .int .u8 0, .int .u8 0, .int .u8 0, .int .u8 0, .int .u8 0, .int .u8 0, .int .u8 0, .int .u8 0, .int .u8 0, .int .u8 0, .int .u8 0, .int .u8 0]⟩]⟩ [.o 37 1, .c 38] [.c 42, .b 4, .c 55] (by kernel_rfl) ?_
      refine J.sameM (m' := [⟨177, hcells s.h kk s.p ((s.held : Nat) : Int) size⟩, ⟨34, [.int .u8 0, .int .u8 0, .int .u8 0, .int .u8 0, .int .u8 0, .int .u8 0, .int .u8 0, .int .u8 0, .int .u8 0, .int .u8 0, .int .u8 0, .int .u8 0, .int .u8 0, .int .u8 0, .int .u8 0, .int .u8 0, .int .u8 0, .int .u8 0, .int .u8 0, .int .u8 0, .int .u8 0, .int .u8 0, .int .u8 0, .int .u8 0, .int .u8 0, .int .u8 0, .int .u8 0, .int .u8 0, .int .u8 0, .int .u8 0, .int .u8 0, .int .u8 0]⟩, ⟨177, hcells (s.wr kk (tail s.held (IntKind.u64.wrap (8 * size)) 8)).h kk (s.wr kk (tail s.held (IntKind.u64.wrap (8 * size)) 8)).p (((s.wr kk (tail s.held (IntKind.u64.wrap (8 * size)) 8)).held : Nat) : Int) (IntKind.u64.wrap (size + IntKind.u64.wrap (((1 + padK s.held + 8) : Nat) : Int)))⟩, ⟨34, b32 (dgF (s.fin kk size).h 0)⟩]) (by kernel_rfl) ?_
      refine J.loop (X := Nat) (fun i => ⟨[(2, .loc 1 0), (7, .loc 3 0), (42, .v (.agg (w8 (s.fin kk size).h).toArray)), (43, .v (.int .i64 ((i : Nat) : Int)))], [⟨177, hcells s.h kk s.p ((s.held : Nat) : Int) size⟩, ⟨34, [.int .u8 0, .int .u8 0, .int .u8 0, .int .u8 0, .int .u8 0, .int .u8 0, .int .u8 0, .int .u8 0, .int .u8 0, .int .u8 0, .int .u8 0, .int .u8 0, .int .u8 0, .int .u8 0, .int .u8 0, .int .u8 0, .int .u8 0, .int .u8 0, .int .u8 0, .int .u8 0, .int .u8 0, .int .u8 0, .int .u8 0, .int .u8 0, .int .u8 0, .int .u8 0, .int .u8 0, .int .u8 0, .int .u8 0, .int .u8 0, .int .u8 0, .int .u8 0]⟩, ⟨177, hcells (s.wr kk (tail s.held (IntKind.u64.wrap (8 * size)) 8)).h kk (s.wr kk (tail s.held (IntKind.u64.wrap (8 * size)) 8)).p (((s.wr kk (tail s.held (IntKind.u64.wrap (8 * size)) 8)).held : Nat) : Int) (IntKind.u64.wrap (size + IntKind.u64.wrap (((1 + padK s.held + 8) : Nat) : Int)))⟩, ⟨34, b32 (dgF (s.fin kk size).h i)⟩]⟩) (fun i A w => i ≤ 8) (fun i => 8 - i) [2, 7, 42, 43] 4 [b, b1, b2, b6] 0 (by kernel_rfl) (by kernel_rfl) (by kernel_rfl) (fun w1 A1 m1 => Nat.zero_le _) (fun i A7 w7 hI => ?_)
      refine J.run [.n, .n, .u, .n, .n] [2, 7, 42, 43, 44] ⟨[(2, .loc 1 0), (7, .loc 3 0), (42, .v (.agg (w8 (s.fin kk size).h).toArray)), (43, .v (.int .i64 ((i : Nat) : Int))), (44, .v (.bool (decide (((i : Nat) : Int) < 8))))], [⟨177, hcells s.h kk s.p ((s.held : Nat) : Int) size⟩, ⟨34, [.int .u8 0, .int .u8 0, .int .u8 0, .int .u8 0, .int .u8 0, .int .u8 0, .int .u8 0, .int .u8 0, .int .u8 0, .int .u8 0, .int .u8 0, .int .u8 0, .int .u8 0, .int .u8 0, .int .u8 0, .int .u8 0, .int .u8 0, .int .u8 0, .int .u8 0, .int .u8 0, .int .u8 0, .int .u8 0, .int .u8 0, .int .u8 0, .int .u8 0, .int .u8 0, .int .u8 0, .int .u8 0, .int .u8 0, .int .u8 0, .int .u8 0, .int .u8 0]⟩, ⟨177, hcells (s.wr kk (tail s.held (IntKind.u64.wrap (8 * size)) 8)).h kk (s.wr kk (tail s.held (IntKind.u64.wrap (8 * size)) 8)).p (((s.wr kk (tail s.held (IntKind.u64.wrap (8 * size)) 8)).held : Nat) : Int) (IntKind.u64.wrap (size + IntKind.u64.wrap (((1 + padK s.held + 8) : Nat) : Int)))⟩, ⟨34, b32 (dgF (s.fin kk size).h i)⟩]⟩ [.c 43] [.c 46, .c 49] (by kernel_rfl) ?_
      refine J.cond (b := (decide (((i : Nat) : Int) < 8))) (k' := 48) (by kernel_rfl) (fun hc => ?_) (fun hc => ?_)
      · try simp only [nrm] at hc
        have hc3 := hc
        refine J.rn [.n, .n, .n, .n, .n, .u] [2, 7, 42, 43, 45] [.c 47, .c 49] [.o 52 1, .c 53, .b 5, .c 54] (by kernel_rfl) ?_
        refine J.ix (cs := w8 (s.fin kk size).h) (len := 8) (i := ((i : Nat) : Int)) (el := 108) (d := 46) (v := .int .u32 ((s.fin kk size).h i)) (by kernel_rfl) (by omega) (by omega) (by kernel_rfl) (by kernel_rfl) (w8_ix (by omega)) ?_
        refine J.run [.u, .u, .n, .n, .u, .u, .u, .u, .u, .u, .u, .u, .u, .u, .u, .u, .u, .u, .u, .u, .u, .u, .u, .u, .u, .u] [2, 7, 42, 43, 48, 51, 54, 57, 60, 63, 66, 68] ⟨[(2, .loc 1 0), (7, .loc 3 0), (42, .v (.agg (w8 (s.fin kk size).h).toArray)), (43, .v (.int .i64 ((i : Nat) : Int))), (48, .v (.int .i64 (IntKind.i64.wrap (4 * ((i : Nat) : Int))))), (51, .v (.int .i64 (IntKind.i64.wrap ((IntKind.i64.wrap (4 * ((i : Nat) : Int))) + 1)))), (54, .v (.int .i64 (IntKind.i64.wrap ((IntKind.i64.wrap (4 * ((i : Nat) : Int))) + 2)))), (57, .v (.int .i64 (IntKind.i64.wrap ((IntKind.i64.wrap (4 * ((i : Nat) : Int))) + 3)))), (60, .v (.int .u8 (IntKind.u8.wrap (Int.fdiv ((s.fin kk size).h i) (2 ^ 24))))), (63, .v (.int .u8 (IntKind.u8.wrap (Int.fdiv ((s.fin kk size).h i) (2 ^ 16))))), (66, .v (.int .u8 (IntKind.u8.wrap (Int.fdiv ((s.fin kk size).h i) (2 ^ 8))))), (68, .v (.int .u8 (IntKind.u8.wrap ((s.fin kk size).h i))))], [⟨177, hcells s.h kk s.p ((s.held : Nat) : Int) size⟩, ⟨34, [.int .u8 0, .int .u8 0, .int .u8 0, .int .u8 0, .int .u8 0, .int .u8 0, .int .u8 0, .int .u8 0, .int .u8 0, .int .u8 0, .int .u8 0, .int .u8 0, .int .u8 0, .int .u8 0, .int .u8 0, .int .u8 0, .int .u8 0, .int .u8 0, .int .u8 0, .int .u8 0, .int .u8 0, .int .u8 0, .int .u8 0, .int .u8 0, .int .u8 0, .int .u8 0, .int .u8 0, .int .u8 0, .int .u8 0, .int .u8 0, .int .u8 0, .int .u8 0]⟩, ⟨177, hcells (s.wr kk (tail s.held (IntKind.u64.wrap (8 * size)) 8)).h kk (s.wr kk (tail s.held (IntKind.u64.wrap (8 * size)) 8)).p (((s.wr kk (tail s.held (IntKind.u64.wrap (8 * size)) 8)).held : Nat) : Int) (IntKind.u64.wrap (size + IntKind.u64.wrap (((1 + padK s.held + 8) : Nat) : Int)))⟩, ⟨34, b32 (dgF (s.fin kk size).h i)⟩]⟩ [.o 52 2, .c 53, .b 5, .c 54] [.o 53 22, .b 5, .c 54] (by kernel_rfl) ?_
        have hw4 : IntKind.i64.wrap (4 * ((i : Nat) : Int)) = ((4 * i : Nat) : Int) := by rw [wrap_i64 (by omega) (by omega)]; try omega
        rw [hw4]
        have hw5 : IntKind.i64.wrap (((4 * i : Nat) : Int) + 1) = ((4 * i + 1 : Nat) : Int) := by rw [wrap_i64 (by omega) (by omega)]; try omega
        rw [hw5]
        have hw6 : IntKind.i64.wrap (((4 * i : Nat) : Int) + 2) = ((4 * i + 2 : Nat) : Int) := by rw [wrap_i64 (by omega) (by omega)]; try omega
        rw [hw6]
        have hw7 : IntKind.i64.wrap (((4 * i : Nat) : Int) + 3) = ((4 * i + 3 : Nat) : Int) := by rw [wrap_i64 (by omega) (by omega)]; try omega
        rw [hw7]
        refine J.idxA (b := b6) (off := 0) (len := 32) (i := ((4 * i : Nat) : Int)) (sz := 1) (d := 69) (by kernel_rfl) (by omega) (by omega) ?_
        refine J.stx (t := 5) (b := b6) (off := 0 + (4 * i) * 1) (v := .int .u8 (IntKind.u8.wrap (Int.fdiv ((s.fin kk size).h i) (2 ^ 24)))) 3 (by kernel_rfl) rfl rfl (by kernel_rfl) rfl rfl (by simp [b32_len]; omega) ?_
        refine J.sameM (m' := [⟨177, hcells s.h kk s.p ((s.held : Nat) : Int) size⟩, ⟨34, [.int .u8 0, .int .u8 0, .int .u8 0, .int .u8 0, .int .u8 0, .int .u8 0, .int .u8 0, .int .u8 0, .int .u8 0, .int .u8 0, .int .u8 0, .int .u8 0, .int .u8 0, .int .u8 0, .int .u8 0, .int .u8 0, .int .u8 0, .int .u8 0, .int .u8 0, .int .u8 0, .int .u8 0, .int .u8 0, .int .u8 0, .int .u8 0, .int .u8 0, .int .u8 0, .int .u8 0, .int .u8 0, .int .u8 0, .int .u8 0, .int .u8 0, .int .u8 0]⟩, ⟨177, hcells (s.wr kk (tail s.held (IntKind.u64.wrap (8 * size)) 8)).h kk (s.wr kk (tail s.held (IntKind.u64.wrap (8 * size)) 8)).p (((s.wr kk (tail s.held (IntKind.u64.wrap (8 * size)) 8)).held : Nat) : Int) (IntKind.u64.wrap (size + IntKind.u64.wrap (((1 + padK s.held + 8) : Nat) : Int)))⟩, ⟨34, (b32 (dgF (s.fin kk size).h i)).set (0 + (4 * i) * 1) (.int .u8 (IntKind.u8.wrap (Int.fdiv ((s.fin kk size).h i) (2 ^ 24))))⟩]) (by kernel_rfl) ?_
        rw [b32_set (by omega)]
        refine J.idxA (b := b6) (off := 0) (len := 32) (i := ((4 * i + 1 : Nat) : Int)) (sz := 1) (d := 70) (by kernel_rfl) (by omega) (by omega) ?_
        refine J.stx (t := 5) (b := b6) (off := 0 + (4 * i + 1) * 1) (v := .int .u8 (IntKind.u8.wrap (Int.fdiv ((s.fin kk size).h i) (2 ^ 16)))) 3 (by kernel_rfl) rfl rfl (by kernel_rfl) rfl rfl (by simp [b32_len]; omega) ?_
        refine J.sameM (m' := [⟨177, hcells s.h kk s.p ((s.held : Nat) : Int) size⟩, ⟨34, [.int .u8 0, .int .u8 0, .int .u8 0, .int .u8 0, .int .u8 0, .int .u8 0, .int .u8 0, .int .u8 0, .int .u8 0, .int .u8 0, .int .u8 0, .int .u8 0, .int .u8 0, .int .u8 0, .int .u8 0, .int .u8 0, .int .u8 0, .int .u8 0, .int .u8 0, .int .u8 0, .int .u8 0, .int .u8 0, .int .u8 0, .int .u8 0, .int .u8 0, .int .u8 0, .int .u8 0, .int .u8 0, .int .u8 0, .int .u8 0, .int .u8 0, .int .u8 0]⟩, ⟨177, hcells (s.wr kk (tail s.held (IntKind.u64.wrap (8 * size)) 8)).h kk (s.wr kk (tail s.held (IntKind.u64.wrap (8 * size)) 8)).p (((s.wr kk (tail s.held (IntKind.u64.wrap (8 * size)) 8)).held : Nat) : Int) (IntKind.u64.wrap (size + IntKind.u64.wrap (((1 + padK s.held + 8) : Nat) : Int)))⟩, ⟨34, (b32 (upd (dgF (s.fin kk size).h i) (4 * i) (IntKind.u8.wrap (Int.fdiv ((s.fin kk size).h i) (2 ^ 24))))).set (0 + (4 * i + 1) * 1) (.int .u8 (IntKind.u8.wrap (Int.fdiv ((s.fin kk size).h i) (2 ^ 16))))⟩]) (by kernel_rfl) ?_
        rw [b32_set (by omega)]
        refine J.idxA (b := b6) (off := 0) (len := 32) (i := ((4 * i + 2 : Nat) : Int)) (sz := 1) (d := 71) (by kernel_rfl) (by omega) (by omega) ?_
        refine J.stx (t := 5) (b := b6) (off := 0 + (4 * i + 2) * 1) (v := .int .u8 (IntKind.u8.wrap (Int.fdiv ((s.fin kk size).h i) (2 ^ 8)))) 3 (by kernel_rfl) rfl rfl (by kernel_rfl) rfl rfl (by simp [b32_len]; omega) ?_
        refine J.sameM (m' := [⟨177, hcells s.h kk s.p ((s.held : Nat) : Int) size⟩, ⟨34, [.int .u8 0, .int .u8 0, .int .u8 0, .int .u8 0, .int .u8 0, .int .u8 0, .int .u8 0, .int .u8 0, .int .u8 0, .int .u8 0, .int .u8 0, .int .u8 0, .int .u8 0, .int .u8 0, .int .u8 0, .int .u8 0, .int .u8 0, .int .u8 0, .int .u8 0, .int .u8 0, .int .u8 0, .int .u8 0, .int .u8 0, .int .u8 0, .int .u8 0, .int .u8 0, .int .u8 0, .int .u8 0, .int .u8 0, .int .u8 0, .int .u8 0, .int .u8 0]⟩, ⟨177, hcells (s.wr kk (tail s.held (IntKind.u64.wrap (8 * size)) 8)).h kk (s.wr kk (tail s.held (IntKind.u64.wrap (8 * size)) 8)).p (((s.wr kk (tail s.held (IntKind.u64.wrap (8 * size)) 8)).held : Nat) : Int) (IntKind.u64.wrap (size + IntKind.u64.wrap (((1 + padK s.held + 8) : Nat) : Int)))⟩, ⟨34, (b32 (upd (upd (dgF (s.fin kk size).h i) (4 * i) (IntKind.u8.wrap (Int.fdiv ((s.fin kk size).h i) (2 ^ 24)))) (4 * i + 1) (IntKind.u8.wrap (Int.fdiv ((s.fin kk size).h i) (2 ^ 16))))).set (0 + (4 * i + 2) * 1) (.int .u8 (IntKind.u8.wrap (Int.fdiv ((s.fin kk size).h i) (2 ^ 8))))⟩]) (by kernel_rfl) ?_
        rw [b32_set (by omega)]
        refine J.idxA (b := b6) (off := 0) (len := 32) (i := ((4 * i + 3 : Nat) : Int)) (sz := 1) (d := 72) (by kernel_rfl) (by omega) (by omega) ?_
        refine J.stx (t := 5) (b := b6) (off := 0 + (4 * i + 3) * 1) (v := .int .u8 (IntKind.u8.wrap ((s.fin kk size).h i))) 3 (by kernel_rfl) rfl rfl (by kernel_rfl) rfl rfl (by simp [b32_len]; omega) ?_
        refine J.sameM (m' := [⟨177, hcells s.h kk s.p ((s.held : Nat) : Int) size⟩, ⟨34, [.int .u8 0, .int .u8 0, .int .u8 0, .int .u8 0, .int .u8 0, .int .u8 0, .int .u8 0, .int .u8 0, .int .u8 0, .int .u8 0, .int .u8 0, .int .u8 0, .int .u8 0, .int .u8 0, .int .u8 0, .int .u8 0, .int .u8 0, .int .u8 0, .int .u8 0, .int .u8 0, .int .u8 0, .int .u8 0, .int .u8 0, .int .u8 0, .int .u8 0, .int .u8 0, .int .u8 0, .int .u8 0, .int .u8 0, .int .u8 0, .int .u8 0, .int .u8 0]⟩, ⟨177, hcells (s.wr kk (tail s.held (IntKind.u64.wrap (8 * size)) 8)).h kk (s.wr kk (tail s.held (IntKind.u64.wrap (8 * size)) 8)).p (((s.wr kk (tail s.held (IntKind.u64.wrap (8 * size)) 8)).held : Nat) : Int) (IntKind.u64.wrap (size + IntKind.u64.wrap (((1 + padK s.held + 8) : Nat) : Int)))⟩, ⟨34, (b32 (upd (upd (upd (dgF (s.fin kk size).h i) (4 * i) (IntKind.u8.wrap (Int.fdiv ((s.fin kk size).h i) (2 ^ 24)))) (4 * i + 1) (IntKind.u8.wrap (Int.fdiv ((s.fin kk size).h i) (2 ^ 16)))) (4 * i + 2) (IntKind.u8.wrap (Int.fdiv ((s.fin kk size).h i) (2 ^ 8))))).set (0 + (4 * i + 3) * 1) (.int .u8 (IntKind.u8.wrap ((s.fin kk size).h i)))⟩]) (by kernel_rfl) ?_
        rw [b32_set (by omega)]
        refine J.run [.n, .n, .n, .u, .u, .n] [2, 7, 42, 43] ⟨[(2, .loc 1 0), (7, .loc 3 0), (42, .v (.agg (w8 (s.fin kk size).h).toArray)), (43, .v (.int .i64 (IntKind.i64.wrap (((i : Nat) : Int) + 1))))], [⟨177, hcells s.h kk s.p ((s.held : Nat) : Int) size⟩, ⟨34, [.int .u8 0, .int .u8 0, .int .u8 0, .int .u8 0, .int .u8 0, .int .u8 0, .int .u8 0, .int .u8 0, .int .u8 0, .int .u8 0, .int .u8 0, .int .u8 0, .int .u8 0, .int .u8 0, .int .u8 0, .int .u8 0, .int .u8 0, .int .u8 0, .int .u8 0, .int .u8 0, .int .u8 0, .int .u8 0, .int .u8 0, .int .u8 0, .int .u8 0, .int .u8 0, .int .u8 0, .int .u8 0, .int .u8 0, .int .u8 0, .int .u8 0, .int .u8 0]⟩, ⟨177, hcells (s.wr kk (tail s.held (IntKind.u64.wrap (8 * size)) 8)).h kk (s.wr kk (tail s.held (IntKind.u64.wrap (8 * size)) 8)).p (((s.wr kk (tail s.held (IntKind.u64.wrap (8 * size)) 8)).held : Nat) : Int) (IntKind.u64.wrap (size + IntKind.u64.wrap (((1 + padK s.held + 8) : Nat) : Int)))⟩, ⟨34, b32 (upd (upd (upd (upd (dgF (s.fin kk size).h i) (4 * i) (IntKind.u8.wrap (Int.fdiv ((s.fin kk size).h i) (2 ^ 24)))) (4 * i + 1) (IntKind.u8.wrap (Int.fdiv ((s.fin kk size).h i) (2 ^ 16)))) (4 * i + 2) (IntKind.u8.wrap (Int.fdiv ((s.fin kk size).h i) (2 ^ 8)))) (4 * i + 3) (IntKind.u8.wrap ((s.fin kk size).h i)))⟩]⟩ [.o 53 30, .b 5, .c 54] [] (by kernel_rfl) ?_
        have hw8 : IntKind.i64.wrap (((i : Nat) : Int) + 1) = ((i + 1 : Nat) : Int) := by rw [wrap_i64 (by omega) (by omega)]; try omega
        rw [hw8]
        exact J.again (i + 1) [2, 7, 42, 43] 4 (by omega) (by kernel_rfl) (by kernel_rfl) (fun w1 A1 m1 => (by omega))
      · try simp only [nrm] at hc
        have hc3 := hc
        have hi8 : i = 8 := by omega
        subst hi8
        refine J.exit (id := 4) (by kernel_rfl) (by rfl) ?_
        refine J.run [.n, .n, .u, .u, .n] [2] ⟨[(2, .loc 1 0)], [⟨177, hcells s.h kk s.p ((s.held : Nat) : Int) size⟩, ⟨34, b32 (dgF (s.fin kk size).h 8)⟩, ⟨177, hcells (s.wr kk (tail s.held (IntKind.u64.wrap (8 * size)) 8)).h kk (s.wr kk (tail s.held (IntKind.u64.wrap (8 * size)) 8)).p (((s.wr kk (tail s.held (IntKind.u64.wrap (8 * size)) 8)).held : Nat) : Int) (IntKind.u64.wrap (size + IntKind.u64.wrap (((1 + padK s.held + 8) : Nat) : Int)))⟩, ⟨34, b32 (dgF (s.fin kk size).h 8)⟩]⟩ [.c 55] [.c 57] (by kernel_rfl) ?_
        refine J.ret (v := .agg (b32 (dgF (s.fin kk size).h 8)).toArray) (by kernel_rfl) (by kernel_rfl) (fun w1 A1 m1 hac l1 => ⟨_, l1.row (i := 0) rfl, rfl, rfl⟩)
end Go.Proofs.Ytkgokehkobifkaa.J

/- Package sum: Of, Kept. -/
namespace Go.Proofs.Ytkgokehkobifkaa.J
open Go Go.RowKit

def Byt (f : Nat → Int) (n : Nat) : Prop := ∀ i, i < n → 0 ≤ f i ∧ f i < 256
theorem Byt.put {f : Nat → Int} {n i : Nat} {v : Int} (h : Byt f n) (h0 : 0 ≤ v) (h1 : v < 256) : Byt (upd f i v) n := by
  intro j hj
  unfold upd
  split
  · exact ⟨h0, h1⟩
  · exact h j hj
theorem Byt.updW {f : Nat → Int} {n i : Nat} {v : Int} (h : Byt f n) : Byt (upd f i (IntKind.u8.wrap v)) n := by
  rw [wrap_u8i]; exact h.put (by omega) (by omega)
theorem dgF_byt (h : Nat → Int) (n : Nat) : ∀ i, Byt (dgF h i) n
  | 0 => fun _ _ => ⟨Int.le_refl _, show (0 : Int) < 256 by decide⟩
  | i + 1 => (((dgF_byt h n i).updW.updW).updW).updW

def dgOf (f : Nat → Int) : Dg := fun i => byteOf (f i)
theorem b32_dg {f : Nat → Int} (h : Byt f 32) : b32 f = dcells (dgOf f) := by
  have key : ∀ i : Fin 32, f i = (((dgOf f i).toNat : Nat) : Int) := fun i => by
    have := h i i.2
    show f i = (((UInt8.ofNat (f i).toNat).toNat : Nat) : Int)
    rw [u8_nat]; omega
  have e : b32 f = [.int .u8 (f 0), .int .u8 (f 1), .int .u8 (f 2), .int .u8 (f 3), .int .u8 (f 4), .int .u8 (f 5), .int .u8 (f 6), .int .u8 (f 7), .int .u8 (f 8), .int .u8 (f 9), .int .u8 (f 10), .int .u8 (f 11), .int .u8 (f 12), .int .u8 (f 13), .int .u8 (f 14), .int .u8 (f 15),
    .int .u8 (f 16), .int .u8 (f 17), .int .u8 (f 18), .int .u8 (f 19), .int .u8 (f 20), .int .u8 (f 21), .int .u8 (f 22), .int .u8 (f 23), .int .u8 (f 24), .int .u8 (f 25), .int .u8 (f 26), .int .u8 (f 27), .int .u8 (f 28), .int .u8 (f 29), .int .u8 (f 30), .int .u8 (f 31)] := by rfl
  rw [e]
  unfold dcells
  rw [← key 0, ← key 1, ← key 2, ← key 3, ← key 4, ← key 5, ← key 6, ← key 7, ← key 8, ← key 9, ← key 10, ← key 11, ← key 12, ← key 13, ← key 14, ← key 15, ← key 16, ← key 17, ← key 18, ← key 19, ← key 20, ← key 21, ← key 22, ← key 23, ← key 24, ← key 25, ← key 26, ← key 27, ← key 28, ← key 29, ← key 30, ← key 31]
  rfl

/-- The sum of some bytes, all of its bits. -/
def sumF (bs : List UInt8) : Nat → Int := dgF ((HS.wr kW ⟨h0, fun _ => 0, 0⟩ bs).fin kW (IntKind.u64.wrap (0 + IntKind.u64.wrap ((bs.length : Nat) : Int)))).h 8

theorem Sl.off {α : Type} {k : Nat} {enc : α → List Value} {A A1 X : Nat → Prop} {w w1 : World} {a : Option Addr} {n c : Nat} {l : List α} (h : Sl k enc A w a n c l) (m : Mv X A A1 w w1) {b : Nat} (hb : w.heap.size ≤ b) : Sl k enc (fun q => A1 q ∨ q = b) w1 a n c l := by
  have h1 := h.mv m
  refine ⟨h1.len, h1.le, h1.cap, fun hne => ?_⟩
  obtain ⟨b1, o1, e1, e2, e3, e4⟩ := h.at_ hne
  obtain ⟨b2, o2, f1, f2, f3, f4⟩ := h1.at_ hne
  rw [e1] at f1; cases f1
  exact ⟨b1, o1, e1, fun q => q.elim f2 (fun e => by omega), f3, f4⟩

def keptB (bits : Int) : Nat := (if 256 < (if bits < 0 then 0 else bits) then 256 else (if bits < 0 then 0 else bits)).toNat
def kpStep (B i : Nat) (x : Int) : Int :=
  if ((B : Nat) : Int) - ((8 * i : Nat) : Int) ≤ 0 then 0 else if ((B : Nat) : Int) - ((8 * i : Nat) : Int) < 8 then bAnd .u8 x (IntKind.u8.wrap (255 * 2 ^ min (8 - (((B : Nat) : Int) - ((8 * i : Nat) : Int))).toNat IntKind.u8.bits)) else x
def kpF (B : Nat) (D : Nat → Int) : Nat → Nat → Int
  | 0 => D
  | i + 1 => upd (kpF B D i) i (kpStep B i (kpF B D i i))
theorem upd_self (f : Nat → Int) (i : Nat) : upd f i (f i) = f := by
  funext j; unfold upd; split
  · rename_i h; rw [h]
  · rfl
theorem kpStep_byt {B i : Nat} {x : Int} (h : 0 ≤ x ∧ x < 256) : 0 ≤ kpStep B i x ∧ kpStep B i x < 256 := by
  unfold kpStep
  split
  · exact ⟨Int.le_refl _, by decide⟩
  · split
    · unfold bAnd; rw [wrap_u8i]; omega
    · exact h
theorem kpF_byt {B : Nat} {D : Nat → Int} (h : Byt D 32) : ∀ i, i ≤ 32 → Byt (kpF B D i) 32
  | 0, _ => h
  | i + 1, hi => by
    have ih := kpF_byt (B := B) h i (by omega)
    have := kpStep_byt (B := B) (i := i) (ih i (by omega))
    exact ih.put this.1 this.2
def kept (bs : List UInt8) (bits : Int) : Dg := dgOf (kpF (keptB bits) (sumF bs) 32)
theorem kept_cells (bs : List UInt8) (bits : Int) : b32 (kpF (keptB bits) (sumF bs) 32) = dcells (kept bs bits) := b32_dg (kpF_byt (dgF_byt _ _ _) 32 (Nat.le_refl _))
theorem kp_a {B i : Nat} {x : Int} (h : ((B : Nat) : Int) - ((8 * i : Nat) : Int) ≤ 0) : kpStep B i x = 0 := if_pos h
theorem kp_b {B i : Nat} {x : Int} (h : ¬ ((B : Nat) : Int) - ((8 * i : Nat) : Int) ≤ 0) (h2 : ((B : Nat) : Int) - ((8 * i : Nat) : Int) < 8) : kpStep B i x = bAnd .u8 x (IntKind.u8.wrap (255 * 2 ^ min (8 - (((B : Nat) : Int) - ((8 * i : Nat) : Int))).toNat IntKind.u8.bits)) := by
  unfold kpStep; rw [if_neg h, if_pos h2]
theorem kp_c {B i : Nat} {x : Int} (h : ¬ ((B : Nat) : Int) - ((8 * i : Nat) : Int) ≤ 0) (h2 : ¬ ((B : Nat) : Int) - ((8 * i : Nat) : Int) < 8) : kpStep B i x = x := by
  unfold kpStep; rw [if_neg h, if_neg h2]

theorem of_calls (a : Option Addr) (n c : Nat) (bs : List UInt8) (Ac : Nat → Prop) (W : World) (hA : ∀ k, Ac k → k < W.heap.size) (hs : Sl 1 u8 Ac W a n c bs) :
    Calls Pr 84 #[.slice a n c] W (Ret nobody W fun v w => v = .agg (b32 (sumF bs)).toArray) := by
  refine J.enter (fn := Try.f84) (n := 10) Try.func84 (by kernel_rfl) (by kernel_rfl) (by kernel_rfl) hA ?_
  refine J.rn [.n, .n] [0] [.c 0] [.o 1 0, .c 2] (by kernel_rfl) ?_
  refine J.new (T := 34) (cs := [.int .u8 0, .int .u8 0, .int .u8 0, .int .u8 0, .int .u8 0, .int .u8 0, .int .u8 0, .int .u8 0, .int .u8 0, .int .u8 0, .int .u8 0, .int .u8 0, .int .u8 0, .int .u8 0, .int .u8 0, .int .u8 0, .int .u8 0, .int .u8 0, .int .u8 0, .int .u8 0, .int .u8 0, .int .u8 0, .int .u8 0, .int .u8 0, .int .u8 0, .int .u8 0, .int .u8 0, .int .u8 0, .int .u8 0, .int .u8 0, .int .u8 0, .int .u8 0]) (d := 2) (K := .ptr) (by kernel_rfl) (fun b1 hb1 => ?_)
  refine J.rn [.n, .n, .n] [0, 2] [.o 1 1, .c 2] [.o 3 0, .c 4] (by kernel_rfl) ?_
  have hs0 := hs
  refine J.call (d := some 4) (by kernel_rfl) (fun w1 A1 m1 l1 => new_calls nobody w1 noA) ?_
  rintro _ u1 w1 A1 ⟨bn1, rfl, hq1, hr1⟩ g1
  have m1 := g1.mv
  replace hs := hs.mv m1
  refine J.adopt bn1 4 177 (hcells h0 kW (fun _ => 0) 0 0) hr1 (Nat.le_trans g1.big hq1) (fun h => by have := g1.rho _ h; omega) (by kernel_rfl) (by decide) (m := 1) rfl ?_
  replace hs := hs0.off m1 (Nat.le_trans g1.le hq1)
  refine J.run [.u, .n, .n, .n, .u, .u] [2, 3, 5, 6] ⟨[(2, .loc 0 0), (3, .loc 1 0), (5, .loc 1 0), (6, .v (.slice a n c))], [⟨34, [.int .u8 0, .int .u8 0, .int .u8 0, .int .u8 0, .int .u8 0, .int .u8 0, .int .u8 0, .int .u8 0, .int .u8 0, .int .u8 0, .int .u8 0, .int .u8 0, .int .u8 0, .int .u8 0, .int .u8 0, .int .u8 0, .int .u8 0, .int .u8 0, .int .u8 0, .int .u8 0, .int .u8 0, .int .u8 0, .int .u8 0, .int .u8 0, .int .u8 0, .int .u8 0, .int .u8 0, .int .u8 0, .int .u8 0, .int .u8 0, .int .u8 0, .int .u8 0]⟩, ⟨177, hcells h0 kW (fun _ => 0) 0 0⟩]⟩ [.o 3 1, .c 4] [.o 5 2, .c 6] (by kernel_rfl) ?_
  refine J.callM (d := some 7) 1 rfl rfl (by kernel_rfl) (fun w1 A1 m1 l1 a1 => write_calls ⟨h0, fun _ => 0, 0⟩ kW 0 a n c bs (by decide) bn1 (fun k => k = bn1) w1 (oneA (m1.bdd _ a1)) (l1.row (i := 1) rfl) rfl ((hs.mv m1).one a1)) ?_
  rintro _ _ u2 w2 A2 rfl g2
  have m2 := g2.mv
  replace hs := hs.mv m2
  refine J.run [.n, .n, .n, .u] [2, 8] ⟨[(2, .loc 0 0), (8, .loc 1 0)], [⟨34, [.int .u8 0, .int .u8 0, .int .u8 0, .int .u8 0, .int .u8 0, .int .u8 0, .int .u8 0, .int .u8 0, .int .u8 0, .int .u8 0, .int .u8 0, .int .u8 0, .int .u8 0, .int .u8 0, .int .u8 0, .int .u8 0, .int .u8 0, .int .u8 0, .int .u8 0, .int .u8 0, .int .u8 0, .int .u8 0, .int .u8 0, .int .u8 0, .int .u8 0, .int .u8 0, .int .u8 0, .int .u8 0, .int .u8 0, .int .u8 0, .int .u8 0, .int .u8 0]⟩, ⟨177, hcells (HS.wr kW ⟨h0, fun _ => 0, 0⟩ bs).h kW (HS.wr kW ⟨h0, fun _ => 0, 0⟩ bs).p (((HS.wr kW ⟨h0, fun _ => 0, 0⟩ bs).held : Nat) : Int) (IntKind.u64.wrap (0 + IntKind.u64.wrap ((n : Nat) : Int)))⟩]⟩ [.o 5 3, .c 6] [.o 7 1, .c 8] (by kernel_rfl) ?_
  refine J.callM (d := some 9) 1 rfl rfl (by kernel_rfl) (fun w1 A1 m1 l1 a1 => sum_calls (HS.wr kW ⟨h0, fun _ => 0, 0⟩ bs) kW (IntKind.u64.wrap (0 + IntKind.u64.wrap ((n : Nat) : Int))) (HS.wr_held _ _ _ (by decide)) bn1 (fun k => k = bn1) w1 (oneA (m1.bdd _ a1)) (l1.row (i := 1) rfl) rfl) ?_
  rintro _ _ u3 w3 A3 ⟨rfl, rfl⟩ g3
  have m3 := g3.mv
  replace hs := hs.mv m3
  refine J.rn [.u, .n] [2] [.o 7 2, .c 8] [.c 8] (by kernel_rfl) ?_
  have hl := hs.len
  refine J.ret (v := .agg (b32 (dgF ((HS.wr kW ⟨h0, fun _ => 0, 0⟩ bs).fin kW (IntKind.u64.wrap (0 + IntKind.u64.wrap ((n : Nat) : Int)))).h 8)).toArray) (by kernel_rfl) (by kernel_rfl) (fun w1 A1 m1 hac l1 => by rw [hl]; rfl)
theorem kept_calls (a : Option Addr) (n c : Nat) (bs : List UInt8) (bits : Int) (Ac : Nat → Prop) (W : World) (hA : ∀ k, Ac k → k < W.heap.size) (hs : Sl 1 u8 Ac W a n c bs) :
    Calls Pr 52 #[.slice a n c, .int .i64 bits] W (Ret nobody W fun v w => v = .agg (dcells (kept bs bits)).toArray) := by
  refine J.enter (fn := Try.f52) (n := 38) Try.func52 (by kernel_rfl) (by kernel_rfl) (by kernel_rfl) hA ?_
  refine J.rn [.n, .n] [0, 1] [.c 0] [.o 1 0, .c 2] (by kernel_rfl) ?_
  refine J.new (T := 34) (cs := [.int .u8 0, .int .u8 0, .int .u8 0, .int .u8 0, .int .u8 0, .int .u8 0, .int .u8 0, .int .u8 0, .int .u8 0, .int .u8 0, .int .u8 0, .int .u8 0, .int .u8 0, .int .u8 0, .int .u8 0, .int .u8 0, .int .u8 0, .int .u8 0, .int .u8 0, .int .u8 0, .int .u8 0, .int .u8 0, .int .u8 0, .int .u8 0, .int .u8 0, .int .u8 0, .int .u8 0, .int .u8 0, .int .u8 0, .int .u8 0, .int .u8 0, .int .u8 0]) (d := 4) (K := .ptr) (by kernel_rfl) (fun b1 hb1 => ?_)
  refine J.rn [.n, .n, .n, .u] [1, 4, 8] [.o 1 1, .c 2] [.o 3 1, .c 4] (by kernel_rfl) ?_
  refine J.call (d := some 9) (by kernel_rfl) (fun w1 A1 m1 l1 => of_calls a n c bs nobody w1 noA (hs.mv m1).any) ?_
  rintro _ u1 w1 A1 rfl g1
  have m1 := g1.mv
  replace hs := hs.mv m1
  refine J.new (T := 34) (cs := [.int .u8 0, .int .u8 0, .int .u8 0, .int .u8 0, .int .u8 0, .int .u8 0, .int .u8 0, .int .u8 0, .int .u8 0, .int .u8 0, .int .u8 0, .int .u8 0, .int .u8 0, .int .u8 0, .int .u8 0, .int .u8 0, .int .u8 0, .int .u8 0, .int .u8 0, .int .u8 0, .int .u8 0, .int .u8 0, .int .u8 0, .int .u8 0, .int .u8 0, .int .u8 0, .int .u8 0, .int .u8 0, .int .u8 0, .int .u8 0, .int .u8 0, .int .u8 0]) (d := 5) (K := .ptr) (by kernel_rfl) (fun b2 hb2 => ?_)
  refine J.run [.u, .n, .n, .n, .u, .u, .u, .u, .n, .n, .n, .n, .u, .n, .n] [1, 4, 5, 13] ⟨[(1, .v (.int .i64 (if 256 < (if bits < 0 then 0 else bits) then 256 else (if bits < 0 then 0 else bits)))), (4, .loc 0 0), (5, .loc 1 0), (13, .v (.int .i64 0))], [⟨34, [.int .u8 0, .int .u8 0, .int .u8 0, .int .u8 0, .int .u8 0, .int .u8 0, .int .u8 0, .int .u8 0, .int .u8 0, .int .u8 0, .int .u8 0, .int .u8 0, .int .u8 0, .int .u8 0, .int .u8 0, .int .u8 0, .int .u8 0, .int .u8 0, .int .u8 0, .int .u8 0, .int .u8 0, .int .u8 0, .int .u8 0, .int .u8 0, .int .u8 0, .int .u8 0, .int .u8 0, .int .u8 0, .int .u8 0, .int .u8 0, .int .u8 0, .int .u8 0]⟩, ⟨34, b32 (sumF bs)⟩]⟩ [.o 3 3, .c 4] [.c 10, .b 0, .c 34] (by kernel_rfl) ?_
  have hB : (if 256 < (if bits < 0 then 0 else bits) then 256 else (if bits < 0 then 0 else bits)) = ((keptB bits : Nat) : Int) := by unfold keptB; omega
  have hB2 : keptB bits ≤ 256 := by unfold keptB; omega
  rw [hB]
  refine J.sameM (m' := [⟨34, [.int .u8 0, .int .u8 0, .int .u8 0, .int .u8 0, .int .u8 0, .int .u8 0, .int .u8 0, .int .u8 0, .int .u8 0, .int .u8 0, .int .u8 0, .int .u8 0, .int .u8 0, .int .u8 0, .int .u8 0, .int .u8 0, .int .u8 0, .int .u8 0, .int .u8 0, .int .u8 0, .int .u8 0, .int .u8 0, .int .u8 0, .int .u8 0, .int .u8 0, .int .u8 0, .int .u8 0, .int .u8 0, .int .u8 0, .int .u8 0, .int .u8 0, .int .u8 0]⟩, ⟨34, b32 (kpF (keptB bits) (sumF bs) 0)⟩]) (by kernel_rfl) ?_
  refine J.loop (X := Nat) (fun i => ⟨[(1, .v (.int .i64 ((keptB bits : Nat) : Int))), (4, .loc 0 0), (5, .loc 1 0), (13, .v (.int .i64 ((i : Nat) : Int)))], [⟨34, [.int .u8 0, .int .u8 0, .int .u8 0, .int .u8 0, .int .u8 0, .int .u8 0, .int .u8 0, .int .u8 0, .int .u8 0, .int .u8 0, .int .u8 0, .int .u8 0, .int .u8 0, .int .u8 0, .int .u8 0, .int .u8 0, .int .u8 0, .int .u8 0, .int .u8 0, .int .u8 0, .int .u8 0, .int .u8 0, .int .u8 0, .int .u8 0, .int .u8 0, .int .u8 0, .int .u8 0, .int .u8 0, .int .u8 0, .int .u8 0, .int .u8 0, .int .u8 0]⟩, ⟨34, b32 (kpF (keptB bits) (sumF bs) i)⟩]⟩) (fun i A w => i ≤ 32) (fun i => 32 - i) [1, 4, 5, 13] 2 [b1, b2] 0 (by kernel_rfl) (by kernel_rfl) (by kernel_rfl) (fun w1 A1 m1 => Nat.zero_le _) (fun i A2 w2 hI => ?_)
  refine J.run [.n, .n, .u, .n, .n] [1, 4, 5, 13, 14] ⟨[(1, .v (.int .i64 ((keptB bits : Nat) : Int))), (4, .loc 0 0), (5, .loc 1 0), (13, .v (.int .i64 ((i : Nat) : Int))), (14, .v (.bool (decide (((i : Nat) : Int) < 32))))], [⟨34, [.int .u8 0, .int .u8 0, .int .u8 0, .int .u8 0, .int .u8 0, .int .u8 0, .int .u8 0, .int .u8 0, .int .u8 0, .int .u8 0, .int .u8 0, .int .u8 0, .int .u8 0, .int .u8 0, .int .u8 0, .int .u8 0, .int .u8 0, .int .u8 0, .int .u8 0, .int .u8 0, .int .u8 0, .int .u8 0, .int .u8 0, .int .u8 0, .int .u8 0, .int .u8 0, .int .u8 0, .int .u8 0, .int .u8 0, .int .u8 0, .int .u8 0, .int .u8 0]⟩, ⟨34, b32 (kpF (keptB bits) (sumF bs) i)⟩]⟩ [.c 11] [.c 14, .c 17] (by kernel_rfl) ?_
  refine J.cond (b := (decide (((i : Nat) : Int) < 32))) (k' := 16) (by kernel_rfl) (fun hc => ?_) (fun hc => ?_)
  · try simp only [nrm] at hc
    have hc1 := hc
    refine J.run [.n, .n, .n, .n, .n, .u, .u, .n, .n, .n, .u, .u, .u, .u, .u, .n, .n, .n, .n, .u, .u, .u, .n] [1, 4, 5, 6, 7, 13, 20] ⟨[(1, .v (.int .i64 ((keptB bits : Nat) : Int))), (4, .loc 0 0), (5, .loc 1 0), (6, .v (.int .i64 ((i : Nat) : Int))), (7, .v (.int .i64 (IntKind.i64.wrap (((keptB bits : Nat) : Int) - (IntKind.i64.wrap (8 * ((i : Nat) : Int))))))), (13, .v (.int .i64 ((i : Nat) : Int))), (20, .v (.bool (decide ((IntKind.i64.wrap (((keptB bits : Nat) : Int) - (IntKind.i64.wrap (8 * ((i : Nat) : Int))))) ≤ 0))))], [⟨34, [.int .u8 0, .int .u8 0, .int .u8 0, .int .u8 0, .int .u8 0, .int .u8 0, .int .u8 0, .int .u8 0, .int .u8 0, .int .u8 0, .int .u8 0, .int .u8 0, .int .u8 0, .int .u8 0, .int .u8 0, .int .u8 0, .int .u8 0, .int .u8 0, .int .u8 0, .int .u8 0, .int .u8 0, .int .u8 0, .int .u8 0, .int .u8 0, .int .u8 0, .int .u8 0, .int .u8 0, .int .u8 0, .int .u8 0, .int .u8 0, .int .u8 0, .int .u8 0]⟩, ⟨34, b32 (kpF (keptB bits) (sumF bs) i)⟩]⟩ [.c 15, .c 17] [.c 26, .b 2, .b 1, .c 33] (by kernel_rfl) ?_
    have hw1 : IntKind.i64.wrap (8 * ((i : Nat) : Int)) = ((8 * i : Nat) : Int) := by rw [wrap_i64 (by omega) (by omega)]; try omega
    rw [hw1]
    have hw2 : IntKind.i64.wrap (((keptB bits : Nat) : Int) - ((8 * i : Nat) : Int)) = (((keptB bits : Nat) : Int) - ((8 * i : Nat) : Int)) := by rw [wrap_i64 (by omega) (by omega)]
    rw [hw2]
    refine J.cond (b := (decide ((((keptB bits : Nat) : Int) - ((8 * i : Nat) : Int)) ≤ 0))) (k' := 28) (by kernel_rfl) (fun hc => ?_) (fun hc => ?_)
    · try simp only [nrm] at hc
      have hc2 := hc
      refine J.run [.n, .u] [1, 4, 5, 13, 23] ⟨[(1, .v (.int .i64 ((keptB bits : Nat) : Int))), (4, .loc 0 0), (5, .loc 1 0), (13, .v (.int .i64 ((i : Nat) : Int))), (23, .v (.int .i64 ((i : Nat) : Int)))], [⟨34, [.int .u8 0, .int .u8 0, .int .u8 0, .int .u8 0, .int .u8 0, .int .u8 0, .int .u8 0, .int .u8 0, .int .u8 0, .int .u8 0, .int .u8 0, .int .u8 0, .int .u8 0, .int .u8 0, .int .u8 0, .int .u8 0, .int .u8 0, .int .u8 0, .int .u8 0, .int .u8 0, .int .u8 0, .int .u8 0, .int .u8 0, .int .u8 0, .int .u8 0, .int .u8 0, .int .u8 0, .int .u8 0, .int .u8 0, .int .u8 0, .int .u8 0, .int .u8 0]⟩, ⟨34, b32 (kpF (keptB bits) (sumF bs) i)⟩]⟩ [.c 27, .b 2, .b 1, .c 33] [.o 27 1, .b 2, .b 1, .c 33] (by kernel_rfl) ?_
      refine J.idxA (b := b2) (off := 0) (len := 32) (i := ((i : Nat) : Int)) (sz := 1) (d := 24) (by kernel_rfl) (by omega) (by omega) ?_
      refine J.stx (t := 5) (b := b2) (off := 0 + i * 1) (v := .int .u8 0) 1 (by kernel_rfl) rfl rfl (by kernel_rfl) rfl rfl (by simp [b32_len]; omega) ?_
      refine J.sameM (m' := [⟨34, [.int .u8 0, .int .u8 0, .int .u8 0, .int .u8 0, .int .u8 0, .int .u8 0, .int .u8 0, .int .u8 0, .int .u8 0, .int .u8 0, .int .u8 0, .int .u8 0, .int .u8 0, .int .u8 0, .int .u8 0, .int .u8 0, .int .u8 0, .int .u8 0, .int .u8 0, .int .u8 0, .int .u8 0, .int .u8 0, .int .u8 0, .int .u8 0, .int .u8 0, .int .u8 0, .int .u8 0, .int .u8 0, .int .u8 0, .int .u8 0, .int .u8 0, .int .u8 0]⟩, ⟨34, (b32 (kpF (keptB bits) (sumF bs) i)).set (0 + i * 1) (.int .u8 0)⟩]) (by kernel_rfl) ?_
      rw [b32_set (by omega)]
      refine J.run [.n, .n, .n, .n, .u, .u, .n] [1, 4, 5, 13] ⟨[(1, .v (.int .i64 ((keptB bits : Nat) : Int))), (4, .loc 0 0), (5, .loc 1 0), (13, .v (.int .i64 (IntKind.i64.wrap (((i : Nat) : Int) + 1))))], [⟨34, [.int .u8 0, .int .u8 0, .int .u8 0, .int .u8 0, .int .u8 0, .int .u8 0, .int .u8 0, .int .u8 0, .int .u8 0, .int .u8 0, .int .u8 0, .int .u8 0, .int .u8 0, .int .u8 0, .int .u8 0, .int .u8 0, .int .u8 0, .int .u8 0, .int .u8 0, .int .u8 0, .int .u8 0, .int .u8 0, .int .u8 0, .int .u8 0, .int .u8 0, .int .u8 0, .int .u8 0, .int .u8 0, .int .u8 0, .int .u8 0, .int .u8 0, .int .u8 0]⟩, ⟨34, b32 (upd (kpF (keptB bits) (sumF bs) i) i 0)⟩]⟩ [.o 27 3, .b 2, .b 1, .c 33] [] (by kernel_rfl) ?_
      have hw3 : IntKind.i64.wrap (((i : Nat) : Int) + 1) = ((i + 1 : Nat) : Int) := by rw [wrap_i64 (by omega) (by omega)]; try omega
      rw [hw3]
      rw [← kp_a (x := (kpF (keptB bits) (sumF bs) i) i) hc2]
      exact J.again (i + 1) [1, 4, 5, 13] 2 (by omega) (by kernel_rfl) (by kernel_rfl) (fun w1 A1 m1 => (by omega))
    · try simp only [nrm] at hc
      have hc2 := hc
      refine J.run [.n, .n, .u, .u, .u, .n] [1, 4, 5, 6, 7, 13, 25] ⟨[(1, .v (.int .i64 ((keptB bits : Nat) : Int))), (4, .loc 0 0), (5, .loc 1 0), (6, .v (.int .i64 ((i : Nat) : Int))), (7, .v (.int .i64 (((keptB bits : Nat) : Int) - ((8 * i : Nat) : Int)))), (13, .v (.int .i64 ((i : Nat) : Int))), (25, .v (.bool (decide ((((keptB bits : Nat) : Int) - ((8 * i : Nat) : Int)) < 8))))], [⟨34, [.int .u8 0, .int .u8 0, .int .u8 0, .int .u8 0, .int .u8 0, .int .u8 0, .int .u8 0, .int .u8 0, .int .u8 0, .int .u8 0, .int .u8 0, .int .u8 0, .int .u8 0, .int .u8 0, .int .u8 0, .int .u8 0, .int .u8 0, .int .u8 0, .int .u8 0, .int .u8 0, .int .u8 0, .int .u8 0, .int .u8 0, .int .u8 0, .int .u8 0, .int .u8 0, .int .u8 0, .int .u8 0, .int .u8 0, .int .u8 0, .int .u8 0, .int .u8 0]⟩, ⟨34, b32 (kpF (keptB bits) (sumF bs) i)⟩]⟩ [.c 28, .b 2, .b 1, .c 33] [.c 30, .b 2, .b 1, .c 33] (by kernel_rfl) ?_
      refine J.cond (b := (decide ((((keptB bits : Nat) : Int) - ((8 * i : Nat) : Int)) < 8))) (k' := 32) (by kernel_rfl) (fun hc => ?_) (fun hc => ?_)
      · try simp only [nrm] at hc
        have hc3 := hc
        refine J.draw [1] nobody (by kernel_rfl) (by kernel_rfl) (fun _ h => h.elim) (fun w3 A3 m2 hr1 hX1 => ?_)
        refine J.take0 [(0, .u), (3, .u), (4, .u)] [1, 4, 5, 13, 28, 32] [(1, .v (.int .i64 ((keptB bits : Nat) : Int))), (4, .loc 0 0), (5, .loc 1 0), (13, .v (.int .i64 ((i : Nat) : Int))), (28, .v (.int .i64 ((i : Nat) : Int))), (32, .v (.int .i64 (IntKind.i64.wrap (8 - (((keptB bits : Nat) : Int) - ((8 * i : Nat) : Int))))))] [4, 3, 0] (calm_body _ _ _) (by intro k _ h; exact h) hr1 (by kernel_rfl) ?_
        have hw4 : IntKind.i64.wrap (8 - (((keptB bits : Nat) : Int) - ((8 * i : Nat) : Int))) = (8 - (((keptB bits : Nat) : Int) - ((8 * i : Nat) : Int))) := by rw [wrap_i64 (by omega) (by omega)]
        rw [hw4]
        refine J.idxAp (j := 1) (b := b2) (off := 0) (len := 32) (i := ((i : Nat) : Int)) (sz := 1) (d := 29) (calm_body _ _ _) (by kernel_rfl) (by kernel_rfl) (by omega) (by omega) ?_
        refine J.shp (j := 5) (b := true) (q := .u8) (d := 33) (x := 255) (y := (8 - (((keptB bits : Nat) : Int) - ((8 * i : Nat) : Int)))) (calm_body _ _ _) (by kernel_rfl) (by kernel_rfl) (by omega) ?_
        refine J.pick1 2 (by kernel_rfl) (by kernel_rfl) ?_
        refine J.ldq (T := 5) (b := b2) (off := 0 + i * 1) (d := 30) (v := .int .u8 ((kpF (keptB bits) (sumF bs) i) i)) (by kernel_rfl) (fun w1 A1 m1 l1 => l1.ldc (i := 1) rfl (by kernel_rfl) (b32_at (by omega))) ?_
        refine J.take0 [(6, .u)] [1, 4, 5, 13, 28, 34] [(1, .v (.int .i64 ((keptB bits : Nat) : Int))), (4, .loc 0 0), (5, .loc 1 0), (13, .v (.int .i64 ((i : Nat) : Int))), (28, .v (.int .i64 ((i : Nat) : Int))), (34, .v (.int .u8 (bAnd .u8 ((kpF (keptB bits) (sumF bs) i) i) (IntKind.u8.wrap (255 * 2 ^ min (8 - (((keptB bits : Nat) : Int) - ((8 * i : Nat) : Int))).toNat IntKind.u8.bits)))))] [6, 2, 5, 1, 4, 3, 0] (calm_body _ _ _) (by intro k _ h; exact h) hr1 (by kernel_rfl) ?_
        refine J.idxAp (j := 7) (b := b2) (off := 0) (len := 32) (i := ((i : Nat) : Int)) (sz := 1) (d := 35) (calm_body _ _ _) (by kernel_rfl) (by kernel_rfl) (by omega) (by omega) ?_
        refine J.pick1 8 (by kernel_rfl) (by kernel_rfl) ?_
        refine J.stxq (t := 5) (b := b2) (off := 0 + i * 1) (v := .int .u8 (bAnd .u8 ((kpF (keptB bits) (sumF bs) i) i) (IntKind.u8.wrap (255 * 2 ^ min (8 - (((keptB bits : Nat) : Int) - ((8 * i : Nat) : Int))).toNat IntKind.u8.bits)))) 1 (by kernel_rfl) rfl rfl (by kernel_rfl) rfl rfl (by simp [b32_len]; omega) (.inl (.inr ⟨1, by simp, by simp, rfl⟩)) ?_
        refine J.sameM (m' := [⟨34, [.int .u8 0, .int .u8 0, .int .u8 0, .int .u8 0, .int .u8 0, .int .u8 0, .int .u8 0, .int .u8 0, .int .u8 0, .int .u8 0, .int .u8 0, .int .u8 0, .int .u8 0, .int .u8 0, .int .u8 0, .int .u8 0, .int .u8 0, .int .u8 0, .int .u8 0, .int .u8 0, .int .u8 0, .int .u8 0, .int .u8 0, .int .u8 0, .int .u8 0, .int .u8 0, .int .u8 0, .int .u8 0, .int .u8 0, .int .u8 0, .int .u8 0, .int .u8 0]⟩, ⟨34, (b32 (kpF (keptB bits) (sumF bs) i)).set (0 + i * 1) (.int .u8 (bAnd .u8 ((kpF (keptB bits) (sumF bs) i) i) (IntKind.u8.wrap (255 * 2 ^ min (8 - (((keptB bits : Nat) : Int) - ((8 * i : Nat) : Int))).toNat IntKind.u8.bits))))⟩]) (by kernel_rfl) ?_
        rw [b32_set (by omega)]
        refine J.pdone (by kernel_rfl) ?_
        refine J.run [.n, .n, .n, .u, .u, .n] [1, 4, 5, 13] ⟨[(1, .v (.int .i64 ((keptB bits : Nat) : Int))), (4, .loc 0 0), (5, .loc 1 0), (13, .v (.int .i64 (IntKind.i64.wrap (((i : Nat) : Int) + 1))))], [⟨34, [.int .u8 0, .int .u8 0, .int .u8 0, .int .u8 0, .int .u8 0, .int .u8 0, .int .u8 0, .int .u8 0, .int .u8 0, .int .u8 0, .int .u8 0, .int .u8 0, .int .u8 0, .int .u8 0, .int .u8 0, .int .u8 0, .int .u8 0, .int .u8 0, .int .u8 0, .int .u8 0, .int .u8 0, .int .u8 0, .int .u8 0, .int .u8 0, .int .u8 0, .int .u8 0, .int .u8 0, .int .u8 0, .int .u8 0, .int .u8 0, .int .u8 0, .int .u8 0]⟩, ⟨34, b32 (upd (kpF (keptB bits) (sumF bs) i) i (bAnd .u8 ((kpF (keptB bits) (sumF bs) i) i) (IntKind.u8.wrap (255 * 2 ^ min (8 - (((keptB bits : Nat) : Int) - ((8 * i : Nat) : Int))).toNat IntKind.u8.bits))))⟩]⟩ [.b 2, .b 1, .c 33] [] (by kernel_rfl) ?_
        have hw5 : IntKind.i64.wrap (((i : Nat) : Int) + 1) = ((i + 1 : Nat) : Int) := by rw [wrap_i64 (by omega) (by omega)]; try omega
        rw [hw5]
        rw [← kp_b (x := (kpF (keptB bits) (sumF bs) i) i) (by omega) hc3]
        exact J.again (i + 1) [1, 4, 5, 13] 2 (by omega) (by kernel_rfl) (by kernel_rfl) (fun w1 A1 m1 => (by omega))
      · try simp only [nrm] at hc
        have hc3 := hc
        refine J.run [.n, .n, .n, .n, .u, .u, .n] [1, 4, 5, 13] ⟨[(1, .v (.int .i64 ((keptB bits : Nat) : Int))), (4, .loc 0 0), (5, .loc 1 0), (13, .v (.int .i64 (IntKind.i64.wrap (((i : Nat) : Int) + 1))))], [⟨34, [.int .u8 0, .int .u8 0, .int .u8 0, .int .u8 0, .int .u8 0, .int .u8 0, .int .u8 0, .int .u8 0, .int .u8 0, .int .u8 0, .int .u8 0, .int .u8 0, .int .u8 0, .int .u8 0, .int .u8 0, .int .u8 0, .int .u8 0, .int .u8 0, .int .u8 0, .int .u8 0, .int .u8 0, .int .u8 0, .int .u8 0, .int .u8 0, .int .u8 0, .int .u8 0, .int .u8 0, .int .u8 0, .int .u8 0, .int .u8 0, .int .u8 0, .int .u8 0]⟩, ⟨34, b32 (kpF (keptB bits) (sumF bs) i)⟩]⟩ [.c 32, .b 2, .b 1, .c 33] [] (by kernel_rfl) ?_
        have hw6 : IntKind.i64.wrap (((i : Nat) : Int) + 1) = ((i + 1 : Nat) : Int) := by rw [wrap_i64 (by omega) (by omega)]; try omega
        rw [hw6]
        rw [show b32 (kpF (keptB bits) (sumF bs) i) = b32 (upd (kpF (keptB bits) (sumF bs) i) i (kpStep (keptB bits) i ((kpF (keptB bits) (sumF bs) i) i))) by rw [kp_c (by omega) (by omega), upd_self]]
        exact J.again (i + 1) [1, 4, 5, 13] 2 (by omega) (by kernel_rfl) (by kernel_rfl) (fun w1 A1 m1 => (by omega))
  · try simp only [nrm] at hc
    have hc1 := hc
    have hi32 : i = 32 := by omega
    subst hi32
    rw [kept_cells]
    refine J.exit (id := 0) (by kernel_rfl) (by rfl) ?_
    refine J.rn [.n, .n, .u, .u, .n] [4] [.c 34] [.c 36] (by kernel_rfl) ?_
    refine J.ret (v := .agg (dcells (kept bs bits)).toArray) (by kernel_rfl) (by kernel_rfl) (fun w1 A1 m1 hac l1 => rfl)
end Go.Proofs.Ytkgokehkobifkaa.J

/- Package tree: half, Leaf, Node, swapped. -/
namespace Go.Proofs.Ytkgokehkobifkaa.J
open Go Go.RowKit

def dbytes (d : Dg) : List UInt8 := [d 0, d 1, d 2, d 3, d 4, d 5, d 6, d 7, d 8, d 9, d 10, d 11, d 12, d 13, d 14, d 15, d 16, d 17, d 18, d 19, d 20, d 21, d 22, d 23, d 24, d 25, d 26, d 27, d 28, d 29, d 30, d 31]
theorem dbytes_flat (d : Dg) : (dbytes d).flatMap u8 = dcells d := rfl
theorem dbytes_len (d : Dg) : (dbytes d).length = 32 := rfl

def leafF (bits : Int) (bs : List UInt8) : Dg := kept (0 :: bs) bits
def nodeF (bits : Int) (l r : Dg) : Dg := kept (1 :: (dbytes l ++ dbytes r)) bits

def half (n : Nat) : Nat := 2 ^ (Nat.log2 (n - 1))
def HalfInv (n k : Nat) : Prop := (∃ j, k = 2 ^ j) ∧ 1 ≤ k ∧ (k < n ∨ k = 1)
theorem halfInv_start {n : Nat} (_h : 1 ≤ n) : HalfInv n 1 := ⟨⟨0, rfl⟩, Nat.le_refl _, .inr rfl⟩
theorem halfInv_next {n k : Nat} (h : HalfInv n k) (hc : k < n - k) : HalfInv n (2 * k) := by
  obtain ⟨⟨j, rfl⟩, h1, h2⟩ := h
  exact ⟨⟨j + 1, by rw [Nat.pow_succ]; omega⟩, by omega, .inl (by omega)⟩
theorem half_eq {n k : Nat} (h : HalfInv n k) (hc : ¬ k < n - k) : k = half n := by
  obtain ⟨⟨j, rfl⟩, h1, h2⟩ := h
  unfold half
  congr 1
  by_cases hn : n - 1 = 0
  · rw [hn]
    rcases h2 with h2 | h2
    · omega
    · have : j = 0 := by
        rcases Nat.eq_zero_or_pos j with h | h
        · exact h
        · have := Nat.one_lt_two_pow (n := j) (by omega); omega
      subst this; rfl
  · symm
    rw [Nat.log2_eq_iff hn]
    rw [Nat.pow_succ]
    omega
theorem half_lt {n : Nat} (h : 2 ≤ n) : 0 < half n ∧ half n < n := by
  unfold half
  have h1 : n - 1 ≠ 0 := by omega
  have := Nat.log2_self_le h1
  have h2 := Nat.two_pow_pos (Nat.log2 (n - 1))
  omega

theorem half_lt2 (n : Nat) : 0 < half n ∧ (2 ≤ n → half n < n) := ⟨Nat.two_pow_pos _, fun h => (half_lt h).2⟩

theorem tree_half (n : Nat) (h1 : 1 ≤ n) (h2 : n ≤ maxLen) (Ac : Nat → Prop) (W : World) (hA : ∀ k, Ac k → k < W.heap.size) :
    Calls Pr 81 #[.int .i64 ((n : Nat) : Int)] W (Ret nobody W fun v w => v = .int .i64 ((half n : Nat) : Int)) := by
  refine J.enter (fn := Try.f81) (n := 12) Try.func81 (by kernel_rfl) (by kernel_rfl) (by kernel_rfl) hA ?_
  have hm : n ≤ 9223372036854775807 := by simpa only [maxLen] using h2
  refine J.rn [.n, .n, .u, .n, .n, .n, .u, .n, .n, .n] [0, 3] [.c 0] [.c 6, .b 0, .c 15] (by kernel_rfl) ?_
  refine J.loop (X := Nat) (fun k => ⟨[(0, .v (.int .i64 ((n : Nat) : Int))), (3, .v (.int .i64 ((k : Nat) : Int)))], []⟩) (fun k A w => HalfInv n k) (fun k => (n - k)) [0, 3] 0 [] 1 (by kernel_rfl) (by kernel_rfl) (by kernel_rfl) (fun w1 A1 m1 => (halfInv_start h1)) (fun k A1 w1 hI => ?_)
  have hk1 := hI.2.1; have hk2 := hI.2.2
  have e1 : IntKind.i64.wrap (((n : Nat) : Int) - ((k : Nat) : Int)) = ((n : Nat) : Int) - ((k : Nat) : Int) := wrap_i64 (by omega) (by omega)
  refine J.run [.n, .n, .n, .u, .u, .u, .u, .u, .n] [0, 3, 8] ⟨[(0, .v (.int .i64 ((n : Nat) : Int))), (3, .v (.int .i64 ((k : Nat) : Int))), (8, .v (.bool (decide (((k : Nat) : Int) < (IntKind.i64.wrap (((n : Nat) : Int) - ((k : Nat) : Int)))))))], []⟩ [.c 7] [.c 10, .c 13] (by kernel_rfl) ?_
  rw [e1]
  refine J.cond (b := (decide (((k : Nat) : Int) < (((n : Nat) : Int) - ((k : Nat) : Int))))) (k' := 12) (by kernel_rfl) (fun hc => ?_) (fun hc => ?_)
  · try simp only [nrm] at hc
    have hc1 := hc
    refine J.run [.n, .n, .n, .u, .u, .u, .n, .n] [0, 3] ⟨[(0, .v (.int .i64 ((n : Nat) : Int))), (3, .v (.int .i64 (IntKind.i64.wrap (((k : Nat) : Int) * 2))))], []⟩ [.c 11, .c 13] [] (by kernel_rfl) ?_
    have hw1 : IntKind.i64.wrap (((k : Nat) : Int) * 2) = ((k * 2 : Nat) : Int) := by rw [wrap_i64 (by omega) (by omega)]; try omega
    rw [hw1]
    have e2 : ((k * 2 : Nat) : Int) = ((2 * k : Nat) : Int) := by omega
    rw [e2]
    exact J.again (2 * k) [0, 3] 0 (by omega) (by kernel_rfl) (by kernel_rfl) (fun w1 A1 m1 => (halfInv_next hI (by omega)))
  · try simp only [nrm] at hc
    have hc1 := hc
    have hke := half_eq hI (by omega)
    refine J.exit (id := 0) (by kernel_rfl) (by rfl) ?_
    refine J.rn [.n, .n, .u, .u, .n] [2] [.c 15] [.c 17] (by kernel_rfl) ?_
    refine J.ret (v := .int .i64 ((k : Nat) : Int)) (by kernel_rfl) (by kernel_rfl) (fun w1 A1 m1 hac l1 => by rw [hke])
theorem clash_half (n : Nat) (h1 : 1 ≤ n) (h2 : n ≤ maxLen) (Ac : Nat → Prop) (W : World) (hA : ∀ k, Ac k → k < W.heap.size) :
    Calls Pr 45 #[.int .i64 ((n : Nat) : Int)] W (Ret nobody W fun v w => v = .int .i64 ((half n : Nat) : Int)) := by
  refine J.enter (fn := Try.f45) (n := 12) Try.func45 (by kernel_rfl) (by kernel_rfl) (by kernel_rfl) hA ?_
  have hm : n ≤ 9223372036854775807 := by simpa only [maxLen] using h2
  refine J.rn [.n, .n, .u, .n, .n, .n, .u, .n, .n, .n] [0, 3] [.c 0] [.c 6, .b 0, .c 15] (by kernel_rfl) ?_
  refine J.loop (X := Nat) (fun k => ⟨[(0, .v (.int .i64 ((n : Nat) : Int))), (3, .v (.int .i64 ((k : Nat) : Int)))], []⟩) (fun k A w => HalfInv n k) (fun k => (n - k)) [0, 3] 0 [] 1 (by kernel_rfl) (by kernel_rfl) (by kernel_rfl) (fun w1 A1 m1 => (halfInv_start h1)) (fun k A1 w1 hI => ?_)
  have hk1 := hI.2.1; have hk2 := hI.2.2
  have e1 : IntKind.i64.wrap (((n : Nat) : Int) - ((k : Nat) : Int)) = ((n : Nat) : Int) - ((k : Nat) : Int) := wrap_i64 (by omega) (by omega)
  refine J.run [.n, .n, .n, .u, .u, .u, .u, .u, .n] [0, 3, 8] ⟨[(0, .v (.int .i64 ((n : Nat) : Int))), (3, .v (.int .i64 ((k : Nat) : Int))), (8, .v (.bool (decide (((k : Nat) : Int) < (IntKind.i64.wrap (((n : Nat) : Int) - ((k : Nat) : Int)))))))], []⟩ [.c 7] [.c 10, .c 13] (by kernel_rfl) ?_
  rw [e1]
  refine J.cond (b := (decide (((k : Nat) : Int) < (((n : Nat) : Int) - ((k : Nat) : Int))))) (k' := 12) (by kernel_rfl) (fun hc => ?_) (fun hc => ?_)
  · try simp only [nrm] at hc
    have hc1 := hc
    refine J.run [.n, .n, .n, .u, .u, .u, .n, .n] [0, 3] ⟨[(0, .v (.int .i64 ((n : Nat) : Int))), (3, .v (.int .i64 (IntKind.i64.wrap (((k : Nat) : Int) * 2))))], []⟩ [.c 11, .c 13] [] (by kernel_rfl) ?_
    have hw1 : IntKind.i64.wrap (((k : Nat) : Int) * 2) = ((k * 2 : Nat) : Int) := by rw [wrap_i64 (by omega) (by omega)]; try omega
    rw [hw1]
    have e2 : ((k * 2 : Nat) : Int) = ((2 * k : Nat) : Int) := by omega
    rw [e2]
    exact J.again (2 * k) [0, 3] 0 (by omega) (by kernel_rfl) (by kernel_rfl) (fun w1 A1 m1 => (halfInv_next hI (by omega)))
  · try simp only [nrm] at hc
    have hc1 := hc
    have hke := half_eq hI (by omega)
    refine J.exit (id := 0) (by kernel_rfl) (by rfl) ?_
    refine J.rn [.n, .n, .u, .u, .n] [2] [.c 15] [.c 17] (by kernel_rfl) ?_
    refine J.ret (v := .int .i64 ((k : Nat) : Int)) (by kernel_rfl) (by kernel_rfl) (fun w1 A1 m1 hac l1 => by rw [hke])
theorem leaf_calls (bits : Int) (a : Option Addr) (n c : Nat) (bs : List UInt8) (hn : n ≤ 1000000) (Ac : Nat → Prop) (W : World) (hA : ∀ k, Ac k → k < W.heap.size) (hs : Sl 1 u8 Ac W a n c bs) :
    Calls Pr 41 #[.agg [.int .i64 bits].toArray, .slice a n c] W (Ret nobody W fun v w => v = .agg (dcells (leafF bits bs)).toArray) := by
  refine J.enter (fn := Try.f41) (n := 11) Try.func41 (by kernel_rfl) (by kernel_rfl) (by kernel_rfl) hA ?_
  refine J.rn [.n, .n] [0, 1] [.c 0] [.o 1 0, .c 2] (by kernel_rfl) ?_
  refine J.new (T := 32) (cs := [.int .i64 bits]) (d := 2) (K := .ptr) (by kernel_rfl) (fun b1 hb1 => ?_)
  refine J.new (T := 34) (cs := [.int .u8 0, .int .u8 0, .int .u8 0, .int .u8 0, .int .u8 0, .int .u8 0, .int .u8 0, .int .u8 0, .int .u8 0, .int .u8 0, .int .u8 0, .int .u8 0, .int .u8 0, .int .u8 0, .int .u8 0, .int .u8 0, .int .u8 0, .int .u8 0, .int .u8 0, .int .u8 0, .int .u8 0, .int .u8 0, .int .u8 0, .int .u8 0, .int .u8 0, .int .u8 0, .int .u8 0, .int .u8 0, .int .u8 0, .int .u8 0, .int .u8 0, .int .u8 0]) (d := 4) (K := .ptr) (by kernel_rfl) (fun b2 hb2 => ?_)
  refine J.run [.n, .n] [1, 2, 4] ⟨[(1, .v (.slice a n c)), (2, .loc 0 0), (4, .loc 1 0)], [⟨32, [.int .i64 bits]⟩, ⟨34, [.int .u8 0, .int .u8 0, .int .u8 0, .int .u8 0, .int .u8 0, .int .u8 0, .int .u8 0, .int .u8 0, .int .u8 0, .int .u8 0, .int .u8 0, .int .u8 0, .int .u8 0, .int .u8 0, .int .u8 0, .int .u8 0, .int .u8 0, .int .u8 0, .int .u8 0, .int .u8 0, .int .u8 0, .int .u8 0, .int .u8 0, .int .u8 0, .int .u8 0, .int .u8 0, .int .u8 0, .int .u8 0, .int .u8 0, .int .u8 0, .int .u8 0, .int .u8 0]⟩]⟩ [.o 1 2, .c 2] [.c 3, .c 4] (by kernel_rfl) ?_
  refine J.draw [1] nobody (by kernel_rfl) (by kernel_rfl) (fun _ h => h.elim) (fun w1 A1 m1 hr1 hX1 => ?_)
  replace hs := hs.mv m1
  refine J.take0 [(1, .u), (3, .u), (4, .u)] [4, 6, 9] [(4, .loc 1 0), (6, .v (.slice a n c)), (9, .v (.int .i64 bits))] [4, 3, 1] (calm_body _ _ _) (by intro k _ h; exact h) hr1 (by kernel_rfl) ?_
  refine J.pick1 0 (by kernel_rfl) (by kernel_rfl) ?_
  refine J.newq (T := 5) (cs := [.int .u8 0]) (d := 5) (K := (.sl 1)) (by kernel_rfl) (fun b3 hb3 => ?_)
  refine J.pick1 2 (by kernel_rfl) (by kernel_rfl) ?_
  refine J.freeze 2 rfl (by kernel_rfl) (fun h => h) (L := ⟨5, [.int .u8 0]⟩) rfl (fun w2 A2 m2 hs1 hr2 hn1 => ?_)
  replace hs := hs.mv m2
  have hz : Sl 1 u8 A2 w2 (some ⟨b3, 0, none⟩) 1 1 [0] := Sl.ofRow (enc := u8) (l := [0]) (kk := 1) (b := b3) (cs := [.int .u8 0]) hr2 hn1 rfl (fun x _ => rfl) rfl (by simp only [maxLen]; omega)
  have hlen := hs.len
  rcases Nat.eq_zero_or_pos n with hn0 | hn0
  · obtain rfl : bs = [] := List.eq_nil_of_length_eq_zero (by omega)
    subst hn0
    refine J.app0q (a := some ⟨b3, 0, none⟩) (e := 5) (bytes := 1) (sz := 1) (nn := 1) (c := 1) (T := 23) (Tx := 23) (x := .slice a 0 c) (d := 7) (by kernel_rfl) (by kernel_rfl) (fun w1 A1 m1 l1 => (hs.mv m1).src (e := 5) (fun x _ => rfl) (fun x _ => u8_one x) (by kernel_rfl)) (by decide) ?_
    refine J.pick1 5 (by kernel_rfl) (by kernel_rfl) ?_
    refine J.callq (d := some 10) (by kernel_rfl) (fun w1 A1 m1 l1 => kept_calls (some ⟨b3, 0, none⟩) 1 1 [0] bits nobody w1 noA (hz.mv m1).any) ?_
    rintro _ u1 w3 A3 rfl g1
    have m3 := g1.mv
    replace hs := hs.mv m3; replace hz := hz.mv m3
    refine J.pick1 6 (by kernel_rfl) (by kernel_rfl) ?_
    refine J.storeq (i := 1) (m' := [⟨32, [.int .i64 bits]⟩, ⟨34, dcells (kept [0] bits)⟩]) (by kernel_rfl) (by simp) rfl (by simp) ?_
    refine J.pdone (by kernel_rfl) ?_
    refine J.ret (v := .agg (dcells (kept [0] bits)).toArray) (by kernel_rfl) (by kernel_rfl) (fun w1 A1 m1 hac l1 => by simp only [leafF, List.cons_append, List.nil_append])
  · skip
    refine J.appendq (e := 5) (sz := 1) (a := (some ⟨b3, 0, none⟩)) (nn := 1) (c := 1) (T := 23) (Tx := 23) (x := .slice a n c) (bytes := 1) (d := 7) (xs := [0].flatMap u8) (news := bs.flatMap u8) (m := n) (by kernel_rfl) (by kernel_rfl) (.inr (hz.tight (fun x _ => rfl))) (.inl (by omega)) (fun w1 A1 m1 l1 => (hs.mv m1).src (e := 5) (fun x _ => rfl) (fun x _ => u8_one x) (by kernel_rfl)) (by simp only [maxLen]; omega) (by omega) (fun k hb _ => by obtain ⟨h1, x, e, e2⟩ := hb; cases e; subst e2; exact absurd h1 (hz.notA (by simp))) ?_
    intro a1 c1 w4 A4 hn2 m4
    replace hs := hs.mv m4; replace hz := hz.mv m4
    replace hn2 := hn2.re (n' := 1 + n) (ys := ([0] ++ bs).flatMap u8) rfl (by first | (simp only [List.flatMap_append, dbytes_flat, byteCells_u8]; done) | (rw [List.flatMap_append]; rfl))
    refine J.pick1 5 (by kernel_rfl) (by kernel_rfl) ?_
    refine J.callq (d := some 10) (by kernel_rfl) (fun w1 A1 m1 l1 => kept_calls a1 (1 + n) c1 ([0] ++ bs) bits nobody w1 noA ((hn2.mv m1).any (fun x _ => rfl) (by decide))) ?_
    rintro _ u2 w5 A5 rfl g2
    have m5 := g2.mv
    replace hs := hs.mv m5; replace hz := hz.mv m5; replace hn2 := hn2.mv m5
    refine J.pick1 6 (by kernel_rfl) (by kernel_rfl) ?_
    refine J.storeq (i := 1) (m' := [⟨32, [.int .i64 bits]⟩, ⟨34, dcells (kept ([0] ++ bs) bits)⟩]) (by kernel_rfl) (by simp) rfl (by simp) ?_
    refine J.pdone (by kernel_rfl) ?_
    refine J.ret (v := .agg (dcells (kept ([0] ++ bs) bits)).toArray) (by kernel_rfl) (by kernel_rfl) (fun w1 A1 m1 hac l1 => by simp only [leafF, List.cons_append, List.nil_append])
theorem node_calls (bits : Int) (l r : Dg) (Ac : Nat → Prop) (W : World) (hA : ∀ k, Ac k → k < W.heap.size) :
    Calls Pr 46 #[.agg [.int .i64 bits].toArray, .agg (dcells l).toArray, .agg (dcells r).toArray] W (Ret nobody W fun v w => v = .agg (dcells (nodeF bits l r)).toArray) := by
  refine J.enter (fn := Try.f46) (n := 21) Try.func46 (by kernel_rfl) (by kernel_rfl) (by kernel_rfl) hA ?_
  refine J.rn [.n, .n] [0, 1, 2] [.c 0] [.o 1 0, .c 2] (by kernel_rfl) ?_
  refine J.new (T := 32) (cs := [.int .i64 bits]) (d := 3) (K := .ptr) (by kernel_rfl) (fun b1 hb1 => ?_)
  refine J.new (T := 34) (cs := dcells l) (d := 4) (K := .ptr) (by kernel_rfl) (fun b2 hb2 => ?_)
  refine J.new (T := 34) (cs := dcells r) (d := 5) (K := .ptr) (by kernel_rfl) (fun b3 hb3 => ?_)
  refine J.new (T := 34) (cs := [.int .u8 0, .int .u8 0, .int .u8 0, .int .u8 0, .int .u8 0, .int .u8 0, .int .u8 0, .int .u8 0, .int .u8 0, .int .u8 0, .int .u8 0, .int .u8 0, .int .u8 0, .int .u8 0, .int .u8 0, .int .u8 0, .int .u8 0, .int .u8 0, .int .u8 0, .int .u8 0, .int .u8 0, .int .u8 0, .int .u8 0, .int .u8 0, .int .u8 0, .int .u8 0, .int .u8 0, .int .u8 0, .int .u8 0, .int .u8 0, .int .u8 0, .int .u8 0]) (d := 6) (K := .ptr) (by kernel_rfl) (fun b4 hb4 => ?_)
  refine J.rn [.n, .n, .n] [3, 4, 5, 6] [.o 1 4, .c 2] [.o 3 0, .c 4] (by kernel_rfl) ?_
  refine J.mk0 (T := 23) (c := 65) (cc := 65) (d := 8) (bytes := 1) (sz := 1) (e := 5) (by kernel_rfl) rfl (by kernel_rfl) (by omega) (by simp only [maxLen]; omega) ?_
  intro g1 w1 A1 hn1 m1
  refine J.run [.u, .n, .n, .n, .u] [3, 4, 5, 6, 9] ⟨[(3, .loc 0 0), (4, .loc 1 0), (5, .loc 2 0), (6, .loc 3 0), (9, .v (.slice (some ⟨g1, 0, none⟩) 0 65))], [⟨32, [.int .i64 bits]⟩, ⟨34, dcells l⟩, ⟨34, dcells r⟩, ⟨34, [.int .u8 0, .int .u8 0, .int .u8 0, .int .u8 0, .int .u8 0, .int .u8 0, .int .u8 0, .int .u8 0, .int .u8 0, .int .u8 0, .int .u8 0, .int .u8 0, .int .u8 0, .int .u8 0, .int .u8 0, .int .u8 0, .int .u8 0, .int .u8 0, .int .u8 0, .int .u8 0, .int .u8 0, .int .u8 0, .int .u8 0, .int .u8 0, .int .u8 0, .int .u8 0, .int .u8 0, .int .u8 0, .int .u8 0, .int .u8 0, .int .u8 0, .int .u8 0]⟩]⟩ [.o 3 1, .c 4] [.o 5 1, .c 6] (by kernel_rfl) ?_
  refine J.new (T := 5) (cs := [.int .u8 1]) (d := 10) (K := (.sl 1)) (by kernel_rfl) (fun b5 hb5 => ?_)
  replace hn1 := hn1.more hb5
  refine J.append (e := 5) (sz := 1) (a := (some ⟨g1, 0, none⟩)) (nn := 0) (c := 65) (T := 23) (Tx := 23) (x := .slice (some ⟨b5, 0, none⟩) 1 1) (bytes := 1) (d := 11) (xs := [].flatMap u8) (news := [.int .u8 1]) (m := 1) (by kernel_rfl) (by kernel_rfl) hn1.own (.inr hn1) (fun w1 A1 m1 l1 => l1.src (i := 4) rfl (e := 5) (by kernel_rfl) rfl rfl) (by simp only [maxLen]; omega) (by omega) ?_
  intro a1 c1 w2 A2 hn2 m2
  replace hn2 := hn2.re (n' := 1) (ys := ([1]).flatMap u8) rfl (by rw [List.flatMap_nil, List.nil_append]; rfl)
  refine J.run [.u, .n, .n, .n, .u] [3, 4, 5, 6, 12] ⟨[(3, .loc 0 0), (4, .loc 1 0), (5, .loc 2 0), (6, .loc 3 0), (12, .v (.slice a1 1 c1))], [⟨32, [.int .i64 bits]⟩, ⟨34, dcells l⟩, ⟨34, dcells r⟩, ⟨34, [.int .u8 0, .int .u8 0, .int .u8 0, .int .u8 0, .int .u8 0, .int .u8 0, .int .u8 0, .int .u8 0, .int .u8 0, .int .u8 0, .int .u8 0, .int .u8 0, .int .u8 0, .int .u8 0, .int .u8 0, .int .u8 0, .int .u8 0, .int .u8 0, .int .u8 0, .int .u8 0, .int .u8 0, .int .u8 0, .int .u8 0, .int .u8 0, .int .u8 0, .int .u8 0, .int .u8 0, .int .u8 0, .int .u8 0, .int .u8 0, .int .u8 0, .int .u8 0]⟩, ⟨5, [.int .u8 1]⟩]⟩ [.o 5 3, .c 6] [.o 7 1, .c 8] (by kernel_rfl) ?_
  refine J.slA (b := b2) (off := 0) (len := 32) (sz := 1) (lo := none) (hi := none) (d := 13) (by kernel_rfl) 0 32 (by simp) (by simp) (by omega) (by omega) (by omega) ?_
  refine J.append (e := 5) (sz := 1) (a := a1) (nn := 1) (c := c1) (T := 23) (Tx := 23) (x := .slice (some ⟨b2, 0, none⟩) 32 32) (bytes := 1) (d := 14) (xs := [1].flatMap u8) (news := dcells l) (m := 32) (by kernel_rfl) (by kernel_rfl) hn2.own (.inr hn2) (fun w1 A1 m1 l1 => l1.src (i := 1) rfl (e := 5) (by kernel_rfl) rfl rfl) (by simp only [maxLen]; omega) (by omega) ?_
  intro a2 c2 w3 A3 hn3 m3
  replace hn3 := hn3.re (n' := 33) (ys := ([1] ++ dbytes l).flatMap u8) rfl (by first | (simp only [List.flatMap_append, dbytes_flat, byteCells_u8]; done) | (rw [List.flatMap_append]; rfl))
  refine J.run [.u, .n, .n] [3, 5, 6, 7] ⟨[(3, .loc 0 0), (5, .loc 2 0), (6, .loc 3 0), (7, .v (.slice a2 33 c2))], [⟨32, [.int .i64 bits]⟩, ⟨34, dcells l⟩, ⟨34, dcells r⟩, ⟨34, [.int .u8 0, .int .u8 0, .int .u8 0, .int .u8 0, .int .u8 0, .int .u8 0, .int .u8 0, .int .u8 0, .int .u8 0, .int .u8 0, .int .u8 0, .int .u8 0, .int .u8 0, .int .u8 0, .int .u8 0, .int .u8 0, .int .u8 0, .int .u8 0, .int .u8 0, .int .u8 0, .int .u8 0, .int .u8 0, .int .u8 0, .int .u8 0, .int .u8 0, .int .u8 0, .int .u8 0, .int .u8 0, .int .u8 0, .int .u8 0, .int .u8 0, .int .u8 0]⟩, ⟨5, [.int .u8 1]⟩]⟩ [.o 7 3, .c 8] [.c 9, .c 10] (by kernel_rfl) ?_
  refine J.draw [3] (adr a2) (by kernel_rfl) (by kernel_rfl) hn3.adrA (fun w4 A4 m4 hr1 hX1 => ?_)
  replace hn3 := hn3.mv m4
  refine J.take0 [(0, .u), (3, .u), (4, .u)] [5, 6, 15, 19] [(5, .loc 2 0), (6, .loc 3 0), (15, .v (.slice a2 33 c2)), (19, .v (.int .i64 bits))] [4, 3, 0] (calm_body _ _ _) hn3.adrN hr1 (by kernel_rfl) ?_
  refine J.slAp (j := 1) (b := b3) (off := 0) (len := 32) (sz := 1) (lo := none) (hi := none) (d := 16) (calm_body _ _ _) (by kernel_rfl) (by kernel_rfl) 0 32 (by simp) (by simp) (by omega) (by omega) (by omega) ?_
  refine J.pick1 2 (by kernel_rfl) (by kernel_rfl) ?_
  refine J.appendq (e := 5) (sz := 1) (a := a2) (nn := 33) (c := c2) (T := 23) (Tx := 23) (x := .slice (some ⟨b3, 0, none⟩) 32 32) (bytes := 1) (d := 17) (xs := ([1] ++ dbytes l).flatMap u8) (news := dcells r) (m := 32) (by kernel_rfl) (by kernel_rfl) hn3.own (.inr hn3) (fun w1 A1 m1 l1 => l1.src (i := 2) rfl (e := 5) (by kernel_rfl) rfl rfl) (by simp only [maxLen]; omega) (by omega) (fun k hb _ => .inl hb.2) ?_
  intro a3 c3 w5 A5 hn4 m5
  replace hn4 := hn4.re (n' := 65) (ys := ([1] ++ dbytes l ++ dbytes r).flatMap u8) rfl (by first | (simp only [List.flatMap_append, dbytes_flat, byteCells_u8]; done) | (rw [List.flatMap_append]; rfl))
  refine J.pick1 5 (by kernel_rfl) (by kernel_rfl) ?_
  refine J.callq (d := some 20) (by kernel_rfl) (fun w1 A1 m1 l1 => kept_calls a3 65 c3 ([1] ++ dbytes l ++ dbytes r) bits nobody w1 noA ((hn4.mv m1).any (fun x _ => rfl) (by decide))) ?_
  rintro _ u1 w6 A6 rfl g2
  have m6 := g2.mv
  replace hn4 := hn4.mv m6
  refine J.pick1 6 (by kernel_rfl) (by kernel_rfl) ?_
  refine J.storeq (i := 3) (m' := [⟨32, [.int .i64 bits]⟩, ⟨34, dcells l⟩, ⟨34, dcells r⟩, ⟨34, dcells (kept ([1] ++ dbytes l ++ dbytes r) bits)⟩, ⟨5, [.int .u8 1]⟩]) (by kernel_rfl) (by simp) rfl (by simp) ?_
  refine J.pdone (by kernel_rfl) ?_
  refine J.ret (v := .agg (dcells (kept ([1] ++ dbytes l ++ dbytes r) bits)).toArray) (by kernel_rfl) (by kernel_rfl) (fun w1 A1 m1 hac l1 => by rw [nodeF]; simp only [List.cons_append, List.nil_append, List.append_assoc])
end Go.Proofs.Ytkgokehkobifkaa.J

/- Package tree: swapped, Root. -/
namespace Go.Proofs.Ytkgokehkobifkaa.J
open Go Go.RowKit

abbrev SlV := Option Addr × Nat × Nat
def encSl (v : SlV) : List Value := [.slice v.1 v.2.1 v.2.2]
theorem encSl_one (v : SlV) : ∀ x ∈ encSl v, x.oneCell' = true := by
  intro x hx; simp [encSl] at hx; subst hx; rfl

/-- A slice of slices of bytes, read. -/
structure Rows (A : Nat → Prop) (w : World) (a : Option Addr) (n c : Nat) (ls : List (List UInt8)) : Prop where
  rd : ∃ vs : List SlV, Sl 1 encSl A w a n c vs ∧ vs.length = ls.length ∧ ∀ (i : Nat) (v : SlV) (l : List UInt8), vs[i]? = some v → ls[i]? = some l → Sl 1 u8 A w v.1 v.2.1 v.2.2 l

theorem Rows.len {A : Nat → Prop} {w : World} {a : Option Addr} {n c : Nat} {ls : List (List UInt8)} (h : Rows A w a n c ls) : n = ls.length := by
  obtain ⟨vs, h1, h2, _⟩ := h.rd
  rw [h1.len, h2]
theorem Rows.le {A : Nat → Prop} {w : World} {a : Option Addr} {n c : Nat} {ls : List (List UInt8)} (h : Rows A w a n c ls) : n ≤ c := by
  obtain ⟨vs, h1, _⟩ := h.rd; exact h1.le
theorem Rows.cap {A : Nat → Prop} {w : World} {a : Option Addr} {n c : Nat} {ls : List (List UInt8)} (h : Rows A w a n c ls) : c ≤ maxLen := by
  obtain ⟨vs, h1, _⟩ := h.rd; exact h1.cap
theorem Rows.mv {A A1 X : Nat → Prop} {w w1 : World} {a : Option Addr} {n c : Nat} {ls : List (List UInt8)} (h : Rows A w a n c ls) (m : Mv X A A1 w w1) : Rows A1 w1 a n c ls := by
  obtain ⟨vs, h1, h2, h3⟩ := h.rd
  exact ⟨vs, h1.mv m, h2, fun i v l hv hl => (h3 i v l hv hl).mv m⟩
theorem Rows.weaken {A A1 : Nat → Prop} {w : World} {a : Option Addr} {n c : Nat} {ls : List (List UInt8)} (h : Rows A w a n c ls) (hA : ∀ k, A1 k → A k) : Rows A1 w a n c ls := by
  obtain ⟨vs, h1, h2, h3⟩ := h.rd
  exact ⟨vs, h1.weaken hA, h2, fun i v l hv hl => (h3 i v l hv hl).weaken hA⟩
theorem Rows.any {A : Nat → Prop} {w : World} {a : Option Addr} {n c : Nat} {ls : List (List UInt8)} (h : Rows A w a n c ls) : Rows nobody w a n c ls := h.weaken fun _ h => h.elim
theorem Rows.one {A : Nat → Prop} {w : World} {a : Option Addr} {n c : Nat} {ls : List (List UInt8)} (h : Rows A w a n c ls) {b : Nat} (hb : A b) : Rows (fun k => k = b) w a n c ls := h.weaken fun _ e => e ▸ hb
theorem Rows.addr {A : Nat → Prop} {w : World} {a : Option Addr} {n c : Nat} {ls : List (List UInt8)} (h : Rows A w a n c ls) (hn : 0 < n) : ∃ b off, a = some ⟨b, off, none⟩ := by
  obtain ⟨vs, h1, _⟩ := h.rd; exact h1.addr hn
theorem Rows.from {A : Nat → Prop} {w : World} {a a' : Option Addr} {n c : Nat} {ls : List (List UInt8)} (h : Rows A w a n c ls) {L : Nat} (h1 : L ≤ n) (ha : L < c → a' = a.map (·.add (L * 1))) : Rows A w a' (n - L) (c - L) (ls.drop L) := by
  obtain ⟨vs, h2, h3, h4⟩ := h.rd
  exact ⟨vs.drop L, h2.from h1 ha, by simp [h3], fun i v l hv hl => by
    rw [List.getElem?_drop] at hv hl
    exact h4 _ v l hv hl⟩
theorem Rows.upto {A : Nat → Prop} {w : World} {a : Option Addr} {n c : Nat} {ls : List (List UInt8)} (h : Rows A w a n c ls) {H X : Nat} (h1 : H ≤ n) (h2 : H ≤ X) (h3 : X ≤ c) : Rows A w a H X (ls.take H) := by
  obtain ⟨vs, h5, h6, h4⟩ := h.rd
  refine ⟨vs.take H, h5.upto h1 h2 h3, by simp [h6], fun i v l hv hl => ?_⟩
  have hi : i < H := by
    have := (List.getElem?_eq_some_iff.1 hv).1
    rw [List.length_take] at this; omega
  rw [List.getElem?_take_of_lt hi] at hv hl
  exact h4 _ v l hv hl
theorem Rows.cutAt {A : Nat → Prop} {w : World} {a a' : Option Addr} {n c : Nat} {ls : List (List UInt8)} (h : Rows A w a n c ls) {L H X : Nat} (h1 : L ≤ H) (h2 : H ≤ n) (h3 : H ≤ X) (h4 : X ≤ c) (ha : L < X → a' = a.map (·.add (L * 1))) :
    Rows A w a' (H - L) (X - L) ((ls.take H).drop L) := (h.upto h2 h3 h4).from h1 ha
theorem Rows.nil {A : Nat → Prop} {w : World} (a : Option Addr) {c : Nat} (hc : c ≤ maxLen) : Rows A w a 0 c [] := ⟨[], Sl.nil a hc, rfl, fun i v l hv _ => by simp at hv⟩
theorem Rows.row {A : Nat → Prop} {w : World} {b off n c : Nat} {ls : List (List UInt8)} (h : Rows A w (some ⟨b, off, none⟩) n c ls) {i : Nat} {l : List UInt8} (hl : ls[i]? = some l) :
    ∃ (a' : Option Addr) (n' c' : Nat), Sl 1 u8 A w a' n' c' l ∧ ∀ (X A1 : Nat → Prop) (w1 : World), Mv X A A1 w w1 → ∀ (P : Program) (T : TypeId), aggOf P T = some false → Ld P w1 T b (off + i * 1) (.slice a' n' c') := by
  obtain ⟨vs, h1, h2, h3⟩ := h.rd
  have hi : i < vs.length := by rw [h2]; exact (List.getElem?_eq_some_iff.1 hl).1
  have hv : vs[i]? = some vs[i] := List.getElem?_eq_getElem hi
  exact ⟨vs[i].1, vs[i].2.1, vs[i].2.2, h3 i _ l hv hl, fun X A1 w1 m P T hT => (h1.mv m).ld1 hT hv (j := 0) rfl⟩

def rootF (bits : Int) (ls : List (List UInt8)) : Dg :=
  if h0 : ls.length = 0 then kept [] bits
  else if h1 : ls.length = 1 then leafF bits (ls.getD 0 [])
  else nodeF bits (rootF bits (ls.take (half ls.length))) (rootF bits (ls.drop (half ls.length)))
termination_by ls.length
decreasing_by
  · have := half_lt (n := ls.length) (by omega); rw [List.length_take]; omega
  · have := half_lt (n := ls.length) (by omega); rw [List.length_drop]; omega
theorem rootF_0 {bits : Int} {ls : List (List UInt8)} (h : ls.length = 0) : rootF bits ls = kept [] bits := by rw [rootF, dif_pos h]
theorem rootF_1 {bits : Int} {ls : List (List UInt8)} (h : ls.length = 1) {l : List UInt8} (hl : ls[0]? = some l) : rootF bits ls = leafF bits l := by
  rw [rootF, dif_neg (by omega), dif_pos h]; simp [hl]
theorem rootF_2 {bits : Int} {ls : List (List UInt8)} (h : 2 ≤ ls.length) : rootF bits ls = nodeF bits (rootF bits (ls.take (half ls.length))) (rootF bits (ls.drop (half ls.length))) := by
  rw [rootF, dif_neg (by omega), dif_neg (by omega)]
/-- Leaves that are not too long. -/
def Short (ls : List (List UInt8)) : Prop := ∀ l ∈ ls, l.length ≤ 1000000
theorem Short.take {ls : List (List UInt8)} (h : Short ls) (k : Nat) : Short (ls.take k) := fun l hl => h l (List.mem_of_mem_take hl)
theorem Short.drop {ls : List (List UInt8)} (h : Short ls) (k : Nat) : Short (ls.drop k) := fun l hl => h l (List.mem_of_mem_drop hl)
theorem Short.at {ls : List (List UInt8)} (h : Short ls) {i : Nat} {l : List UInt8} (hl : ls[i]? = some l) : l.length ≤ 1000000 := h l (List.mem_of_getElem? hl)

theorem swapped_calls (bits : Int) (r l : Dg) (Ac : Nat → Prop) (W : World) (hA : ∀ k, Ac k → k < W.heap.size) :
    Calls Pr 82 #[.agg [.int .i64 bits].toArray, .agg (dcells r).toArray, .agg (dcells l).toArray] W (Ret nobody W fun v w => v = .agg (dcells (nodeF bits l r)).toArray) := by
  refine J.enter (fn := Try.f82) (n := 11) Try.func82 (by kernel_rfl) (by kernel_rfl) (by kernel_rfl) hA ?_
  refine J.rn [.n, .n] [0, 1, 2] [.c 0] [.o 1 0, .c 2] (by kernel_rfl) ?_
  refine J.new (T := 32) (cs := [.int .i64 bits]) (d := 3) (K := .ptr) (by kernel_rfl) (fun b1 hb1 => ?_)
  refine J.new (T := 34) (cs := dcells r) (d := 4) (K := .ptr) (by kernel_rfl) (fun b2 hb2 => ?_)
  refine J.new (T := 34) (cs := dcells l) (d := 5) (K := .ptr) (by kernel_rfl) (fun b3 hb3 => ?_)
  refine J.new (T := 34) (cs := [.int .u8 0, .int .u8 0, .int .u8 0, .int .u8 0, .int .u8 0, .int .u8 0, .int .u8 0, .int .u8 0, .int .u8 0, .int .u8 0, .int .u8 0, .int .u8 0, .int .u8 0, .int .u8 0, .int .u8 0, .int .u8 0, .int .u8 0, .int .u8 0, .int .u8 0, .int .u8 0, .int .u8 0, .int .u8 0, .int .u8 0, .int .u8 0, .int .u8 0, .int .u8 0, .int .u8 0, .int .u8 0, .int .u8 0, .int .u8 0, .int .u8 0, .int .u8 0]) (d := 6) (K := .ptr) (by kernel_rfl) (fun b4 hb4 => ?_)
  refine J.rn [.n, .n, .n, .u, .u, .u] [6, 7, 8, 9] [.o 1 4, .c 2] [.o 3 3, .c 4] (by kernel_rfl) ?_
  refine J.call (d := some 10) (by kernel_rfl) (fun w1 A1 m1 l1 => node_calls bits l r nobody w1 noA) ?_
  rintro _ u1 w1 A1 rfl g1
  have m1 := g1.mv
  refine J.rn [.u, .n] [6] [.o 3 4, .c 4] [.c 4] (by kernel_rfl) ?_
  refine J.ret (v := .agg (dcells (nodeF bits l r)).toArray) (by kernel_rfl) (by kernel_rfl) (fun w1 A1 m1 hac l1 => rfl)
theorem root_step (bits : Int) (a : Option Addr) (n c : Nat) (ls : List (List UInt8)) (ih : ∀ (a : Option Addr) (n c : Nat) (l2 : List (List UInt8)), l2.length < ls.length → Short l2 → l2.length ≤ 1000000 → ∀ (Ac : Nat → Prop) (W : World), (∀ k, Ac k → k < W.heap.size) → Rows Ac W a n c l2 → Calls Pr 34 #[.agg [.int .i64 bits].toArray, .slice a n c] W (Ret nobody W fun v w => v = .agg (dcells (rootF bits l2)).toArray)) (hsh : Short ls) (hn : ls.length ≤ 1000000) (Ac : Nat → Prop) (W : World) (hA : ∀ k, Ac k → k < W.heap.size) (hs : Rows Ac W a n c ls) :
    Calls Pr 34 #[.agg [.int .i64 bits].toArray, .slice a n c] W (Ret nobody W fun v w => v = .agg (dcells (rootF bits ls)).toArray) := by
  refine J.enter (fn := Try.f34) (n := 35) Try.func34 (by kernel_rfl) (by kernel_rfl) (by kernel_rfl) hA ?_
  have hlen := hs.len; have hle := hs.le; have hcap := hs.cap; simp only [maxLen] at hcap
  refine J.rn [.n, .n] [0, 1] [.c 0] [.o 1 0, .c 2] (by kernel_rfl) ?_
  refine J.new (T := 32) (cs := [.int .i64 bits]) (d := 2) (K := .ptr) (by kernel_rfl) (fun b1 hb1 => ?_)
  refine J.new (T := 34) (cs := [.int .u8 0, .int .u8 0, .int .u8 0, .int .u8 0, .int .u8 0, .int .u8 0, .int .u8 0, .int .u8 0, .int .u8 0, .int .u8 0, .int .u8 0, .int .u8 0, .int .u8 0, .int .u8 0, .int .u8 0, .int .u8 0, .int .u8 0, .int .u8 0, .int .u8 0, .int .u8 0, .int .u8 0, .int .u8 0, .int .u8 0, .int .u8 0, .int .u8 0, .int .u8 0, .int .u8 0, .int .u8 0, .int .u8 0, .int .u8 0, .int .u8 0, .int .u8 0]) (d := 4) (K := .ptr) (by kernel_rfl) (fun b2 hb2 => ?_)
  refine J.rn [.n, .n, .n, .n, .u, .u, .n, .n, .n, .n, .u, .u, .n] [1, 2, 4, 7, 8] [.o 1 2, .c 2] [.c 8, .b 0, .c 19] (by kernel_rfl) ?_
  refine J.cond (b := (((n : Nat) : Int) == 0)) (k' := 12) (by kernel_rfl) (fun hc => ?_) (fun hc => ?_)
  · try simp only [nrm] at hc
    have hc1 := hc
    refine J.rn [.n, .n, .u, .u] [4, 11] [.c 9, .b 0, .c 19] [.o 10 2, .c 11, .b 0, .c 19] (by kernel_rfl) ?_
    refine J.call (d := some 12) (by kernel_rfl) (fun w1 A1 m1 l1 => kept_calls none 0 0 [] bits nobody w1 noA (Sl.nil none (by decide))) ?_
    rintro _ u1 w1 A1 rfl g1
    have m1 := g1.mv
    replace hs := hs.mv m1
    refine J.run [.u, .n] [4] ⟨[(4, .loc 1 0)], [⟨32, [.int .i64 bits]⟩, ⟨34, dcells (kept [] bits)⟩]⟩ [.o 10 3, .c 11, .b 0, .c 19] [.c 11, .b 0, .c 19] (by kernel_rfl) ?_
    refine J.ret (v := .agg (dcells (kept [] bits)).toArray) (by kernel_rfl) (by kernel_rfl) (fun w1 A1 m1 hac l1 => by rw [rootF_0 (by omega)])
  · try simp only [nrm] at hc
    have hc1 := hc
    refine J.rn [.n, .n, .u, .u, .n] [1, 2, 4, 13] [.c 12, .b 0, .c 19] [.c 14, .b 0, .c 19] (by kernel_rfl) ?_
    refine J.cond (b := (((n : Nat) : Int) == 1)) (k' := 18) (by kernel_rfl) (fun hc => ?_) (fun hc => ?_)
    · try simp only [nrm] at hc
      have hc2 := hc
      refine J.run [.n] [1, 2, 4] ⟨[(1, .v (.slice a n c)), (2, .loc 0 0), (4, .loc 1 0)], [⟨32, [.int .i64 bits]⟩, ⟨34, [.int .u8 0, .int .u8 0, .int .u8 0, .int .u8 0, .int .u8 0, .int .u8 0, .int .u8 0, .int .u8 0, .int .u8 0, .int .u8 0, .int .u8 0, .int .u8 0, .int .u8 0, .int .u8 0, .int .u8 0, .int .u8 0, .int .u8 0, .int .u8 0, .int .u8 0, .int .u8 0, .int .u8 0, .int .u8 0, .int .u8 0, .int .u8 0, .int .u8 0, .int .u8 0, .int .u8 0, .int .u8 0, .int .u8 0, .int .u8 0, .int .u8 0, .int .u8 0]⟩]⟩ [.c 15, .b 0, .c 19] [.c 16, .c 17, .b 0, .c 19] (by kernel_rfl) ?_
      refine J.draw [1] nobody (by kernel_rfl) (by kernel_rfl) (fun _ h => h.elim) (fun w2 A2 m2 hr1 hX1 => ?_)
      replace hs := hs.mv m2
      refine J.take0 [(0, .u), (1, .u)] [4, 15, 16] [(4, .loc 1 0), (15, .v (.agg [.int .i64 bits].toArray)), (16, .v (.slice a n c))] [1, 0] (calm_body _ _ _) (by intro k _ h; exact h) hr1 (by kernel_rfl) ?_
      obtain ⟨p1, o1, rfl⟩ := hs.addr (by omega)
      refine J.idxp (j := 2) (b := p1) (off := o1) (len := n) (i := 0) (sz := 1) (d := 17) (calm_body _ _ _) (by kernel_rfl) (by kernel_rfl) (by omega) (by omega) ?_
      obtain ⟨x1, hx1⟩ : ∃ x, (ls)[0]? = some x := ⟨_, List.getElem?_eq_getElem (by omega)⟩
      obtain ⟨ra1, rn1, rc1, hrow1, hld1⟩ := hs.row hx1
      have hshhrow1 := (Short.at (by assumption) hx1 : x1.length ≤ 1000000); have hllhrow1 := hrow1.len
      refine J.ldp (i := 3) (T := 23) (b := p1) (off := o1 + 0 * 1) (d := 18) (v := .slice ra1 rn1 rc1) (calm_body _ _ _) (by kernel_rfl) (by kernel_rfl) hX1 (fun w1 m1 => hld1 _ _ _ m1 _ _ (by kernel_rfl)) ?_
      refine J.pick1 4 (by kernel_rfl) (by kernel_rfl) ?_
      refine J.callq (d := some 19) (by kernel_rfl) (fun w1 A1 m1 l1 => leaf_calls bits ra1 rn1 rc1 x1 (by omega) nobody w1 noA (hrow1.mv m1).any) ?_
      rintro _ u2 w3 A3 rfl g2
      have m3 := g2.mv
      replace hs := hs.mv m3; replace hrow1 := hrow1.mv m3
      refine J.pick1 5 (by kernel_rfl) (by kernel_rfl) ?_
      refine J.storeq (i := 1) (m' := [⟨32, [.int .i64 bits]⟩, ⟨34, dcells (leafF bits x1)⟩]) (by kernel_rfl) (by simp) rfl (by simp) ?_
      refine J.pdone (by kernel_rfl) ?_
      refine J.ret (v := .agg (dcells (leafF bits x1)).toArray) (by kernel_rfl) (by kernel_rfl) (fun w1 A1 m1 hac l1 => by rw [rootF_1 (by omega) hx1])
    · try simp only [nrm] at hc
      have hc2 := hc
      refine J.rn [.n, .n, .n, .n, .u, .u] [1, 2, 4, 21] [.c 18, .b 0, .c 19] [.o 20 2, .c 21] (by kernel_rfl) ?_
      have hhh1 := half_lt2 n
      refine J.call (d := some 22) (by kernel_rfl) (fun w1 A1 m1 l1 => tree_half n (by omega) (by simp only [maxLen]; omega) nobody w1 noA) ?_
      rintro _ u3 w4 A4 rfl g3
      have m4 := g3.mv
      replace hs := hs.mv m4
      refine J.run [.u, .n, .n] [1, 2, 4, 5] ⟨[(1, .v (.slice a n c)), (2, .loc 0 0), (4, .loc 1 0), (5, .v (.int .i64 ((half n : Nat) : Int)))], [⟨32, [.int .i64 bits]⟩, ⟨34, [.int .u8 0, .int .u8 0, .int .u8 0, .int .u8 0, .int .u8 0, .int .u8 0, .int .u8 0, .int .u8 0, .int .u8 0, .int .u8 0, .int .u8 0, .int .u8 0, .int .u8 0, .int .u8 0, .int .u8 0, .int .u8 0, .int .u8 0, .int .u8 0, .int .u8 0, .int .u8 0, .int .u8 0, .int .u8 0, .int .u8 0, .int .u8 0, .int .u8 0, .int .u8 0, .int .u8 0, .int .u8 0, .int .u8 0, .int .u8 0, .int .u8 0, .int .u8 0]⟩]⟩ [.o 20 3, .c 21] [.c 22, .c 23] (by kernel_rfl) ?_
      refine J.draw [1] nobody (by kernel_rfl) (by kernel_rfl) (fun _ h => h.elim) (fun w5 A5 m5 hr2 hX2 => ?_)
      replace hs := hs.mv m5
      refine J.take0 [(0, .u), (1, .u), (2, .u), (3, .u), (6, .u), (7, .u), (8, .u)] [4, 23, 24, 25, 26, 29, 30, 31] [(4, .loc 1 0), (23, .v (.agg [.int .i64 bits].toArray)), (24, .v (.agg [.int .i64 bits].toArray)), (25, .v (.slice a n c)), (26, .v (.int .i64 ((half n : Nat) : Int))), (29, .v (.agg [.int .i64 bits].toArray)), (30, .v (.slice a n c)), (31, .v (.int .i64 ((half n : Nat) : Int)))] [8, 7, 6, 3, 2, 1, 0] (calm_body _ _ _) (by intro k _ h; exact h) hr2 (by kernel_rfl) ?_
      refine J.slp (j := 4) (a := a) (len := n) (cap := c) (sz := 1) (lo := none) (hi := (some ((half n : Nat) : Int))) (mx := none) (d := 27) (calm_body _ _ _) (by kernel_rfl) (by kernel_rfl) 0 (half n) c (by simp) (by simp) (by simp) (by have := hs.le; omega) (by have := hs.le; omega) (by have := hs.le; omega) (by simp) ?_
      intro a1 ha1 hb1
      rw [hb1 rfl, Nat.sub_zero, Nat.sub_zero]; clear ha1 hb1 a1
      have hp1 := hs.upto (H := half n) (X := c) (by have := hs.le; omega) (by have := hs.le; omega) (by have := hs.le; omega)
      refine J.slp (j := 9) (a := a) (len := n) (cap := c) (sz := 1) (lo := (some ((half n : Nat) : Int))) (hi := none) (mx := none) (d := 32) (calm_body _ _ _) (by kernel_rfl) (by kernel_rfl) (half n) n c (by simp) (by simp) (by simp) (by have := hs.le; omega) (by have := hs.le; omega) (by have := hs.le; omega) (by simp) ?_
      intro a2 ha2 hb2
      have hp2 := hs.from (L := half n) (by have := hs.le; omega) ha2
      refine J.pick1 5 (by kernel_rfl) (by kernel_rfl) ?_
      refine J.callq (d := some 28) (by kernel_rfl) (fun w1 A1 m1 l1 => ih a (half n) c (ls.take (half n)) (by simp; omega) (hsh.take _) (by simp; omega) nobody w1 noA (hp1.mv m1).any) ?_
      rintro _ u4 w6 A6 rfl g4
      have m6 := g4.mv
      replace hs := hs.mv m6; replace hp1 := hp1.mv m6; replace hp2 := hp2.mv m6
      refine J.pick1 10 (by kernel_rfl) (by kernel_rfl) ?_
      refine J.callq (d := some 33) (by kernel_rfl) (fun w1 A1 m1 l1 => ih a2 (n - (half n)) (c - (half n)) (ls.drop (half n)) (by simp; omega) (hsh.drop _) (by simp; omega) nobody w1 noA (hp2.mv m1).any) ?_
      rintro _ u5 w7 A7 rfl g5
      have m7 := g5.mv
      replace hs := hs.mv m7; replace hp1 := hp1.mv m7; replace hp2 := hp2.mv m7
      refine J.pick1 11 (by kernel_rfl) (by kernel_rfl) ?_
      refine J.callq (d := some 34) (by kernel_rfl) (fun w1 A1 m1 l1 => node_calls bits (rootF bits (ls.take (half n))) (rootF bits (ls.drop (half n))) nobody w1 noA) ?_
      rintro _ u6 w8 A8 rfl g6
      have m8 := g6.mv
      replace hs := hs.mv m8; replace hp1 := hp1.mv m8; replace hp2 := hp2.mv m8
      refine J.pick1 12 (by kernel_rfl) (by kernel_rfl) ?_
      refine J.storeq (i := 1) (m' := [⟨32, [.int .i64 bits]⟩, ⟨34, dcells (nodeF bits (rootF bits (ls.take (half n))) (rootF bits (ls.drop (half n))))⟩]) (by kernel_rfl) (by simp) rfl (by simp) ?_
      refine J.pdone (by kernel_rfl) ?_
      refine J.ret (v := .agg (dcells (nodeF bits (rootF bits (ls.take (half n))) (rootF bits (ls.drop (half n))))).toArray) (by kernel_rfl) (by kernel_rfl) (fun w1 A1 m1 hac l1 => by rw [rootF_2 (ls := ls) (by omega), ← hlen])
theorem root_calls (bits : Int) : ∀ (N : Nat) (a : Option Addr) (n c : Nat) (ls : List (List UInt8)), ls.length < N → Short ls → ls.length ≤ 1000000 → ∀ (Ac : Nat → Prop) (W : World), (∀ k, Ac k → k < W.heap.size) → Rows Ac W a n c ls →
    Calls Pr 34 #[.agg [.int .i64 bits].toArray, .slice a n c] W (Ret nobody W fun v w => v = .agg (dcells (rootF bits ls)).toArray)
  | 0, _, _, _, _, h, _, _, _, _, _, _ => absurd h (Nat.not_lt_zero _)
  | N + 1, a, n, c, ls, h, hsh, hn, Ac, W, hA, hs => root_step bits a n c ls (fun a2 n2 c2 l2 h2 h3 h4 => root_calls bits N a2 n2 c2 l2 (by omega) h3 h4) hsh hn Ac W hA hs
end Go.Proofs.Ytkgokehkobifkaa.J

/- Package tree: Path. -/
namespace Go.Proofs.Ytkgokehkobifkaa.J
open Go Go.RowKit

theorem dcells_k (d : Dg) : (dcells d).length = 32 := rfl
theorem New.nlen {α : Type} {N : Nat} {e : TypeId} {k : Nat} {w : World} {a : Option Addr} {n c : Nat} {enc : α → List Value} {l : List α} (h : New N e k w a n c (l.flatMap enc)) (hk : ∀ x ∈ l, (enc x).length = k) (hkp : 0 < k) : n = l.length :=
  (h.sl (A := nobody) hk hkp (fun _ h => h.elim)).len

def pathF (bits : Int) (ls : List (List UInt8)) (i : Nat) : List Dg :=
  if h1 : ls.length ≤ 1 then []
  else if i < half ls.length then pathF bits (ls.take (half ls.length)) i ++ [rootF bits (ls.drop (half ls.length))]
  else pathF bits (ls.drop (half ls.length)) (i - half ls.length) ++ [rootF bits (ls.take (half ls.length))]
termination_by ls.length
decreasing_by
  · have := half_lt (n := ls.length) (by omega); rw [List.length_take]; omega
  · have := half_lt (n := ls.length) (by omega); rw [List.length_drop]; omega
theorem pathF_1 {bits : Int} {ls : List (List UInt8)} {i : Nat} (h : ls.length ≤ 1) : pathF bits ls i = [] := by rw [pathF, dif_pos h]
theorem pathF_lo {bits : Int} {ls : List (List UInt8)} {i : Nat} (h : 2 ≤ ls.length) (hi : i < half ls.length) : pathF bits ls i = pathF bits (ls.take (half ls.length)) i ++ [rootF bits (ls.drop (half ls.length))] := by
  rw [pathF, dif_neg (by omega), if_pos hi]
theorem pathF_hi {bits : Int} {ls : List (List UInt8)} {i : Nat} (h : 2 ≤ ls.length) (hi : half ls.length ≤ i) : pathF bits ls i = pathF bits (ls.drop (half ls.length)) (i - half ls.length) ++ [rootF bits (ls.take (half ls.length))] := by
  rw [pathF, dif_neg (by omega), if_neg (by omega)]
theorem pathF_len (bits : Int) : ∀ (N : Nat) (ls : List (List UInt8)) (i : Nat), ls.length < N → (pathF bits ls i).length ≤ ls.length
  | 0, _, _, h => absurd h (Nat.not_lt_zero _)
  | N + 1, ls, i, h => by
    by_cases h1 : ls.length ≤ 1
    · rw [pathF_1 h1]; simp
    · have hh := half_lt (n := ls.length) (by omega)
      by_cases hi : i < half ls.length
      · rw [pathF_lo (by omega) hi]
        have := pathF_len bits N (ls.take (half ls.length)) i (by rw [List.length_take]; omega)
        rw [List.length_take] at this
        rw [List.length_append]; simp only [List.length_cons, List.length_nil]; omega
      · rw [pathF_hi (by omega) (by omega)]
        have := pathF_len bits N (ls.drop (half ls.length)) (i - half ls.length) (by rw [List.length_drop]; omega)
        rw [List.length_drop] at this
        rw [List.length_append]; simp only [List.length_cons, List.length_nil]; omega
theorem pathF_le (bits : Int) (ls : List (List UInt8)) (i : Nat) : (pathF bits ls i).length ≤ ls.length := pathF_len bits _ ls i (Nat.lt_succ_self _)

theorem path_step (bits : Int) (a : Option Addr) (n c : Nat) (ls : List (List UInt8)) (i : Nat) (ih : ∀ (a : Option Addr) (n c : Nat) (l2 : List (List UInt8)) (i2 : Nat), l2.length < ls.length → i2 < l2.length → Short l2 → l2.length ≤ 1000000 → ∀ (Ac : Nat → Prop) (W : World), (∀ k, Ac k → k < W.heap.size) → Rows Ac W a n c l2 → Calls Pr 114 #[.agg [.int .i64 bits].toArray, .slice a n c, .int .i64 ((i2 : Nat) : Int)] W (Ret nobody W fun v w => ∃ a' n' c', v = .slice a' n' c' ∧ New W.heap.size 34 32 w a' n' c' ((pathF bits l2 i2).flatMap dcells))) (hi : i < ls.length) (hsh : Short ls) (hn : ls.length ≤ 1000000) (Ac : Nat → Prop) (W : World) (hA : ∀ k, Ac k → k < W.heap.size) (hs : Rows Ac W a n c ls) :
    Calls Pr 114 #[.agg [.int .i64 bits].toArray, .slice a n c, .int .i64 ((i : Nat) : Int)] W (Ret nobody W fun v w => ∃ a' n' c', v = .slice a' n' c' ∧ New W.heap.size 34 32 w a' n' c' ((pathF bits ls i).flatMap dcells)) := by
  refine J.enter (fn := Try.f114) (n := 45) Try.func114 (by kernel_rfl) (by kernel_rfl) (by kernel_rfl) hA ?_
  have hlen := hs.len; have hle := hs.le; have hcap := hs.cap; simp only [maxLen] at hcap
  have hik : ∀ k : Nat, k ≤ i → IntKind.i64.wrap (((i : Nat) : Int) - ((k : Nat) : Int)) = ((i - k : Nat) : Int) := fun k hk => by rw [wrap_i64 (by omega) (by omega)]; omega
  refine J.rn [.n, .n] [0, 1, 2] [.c 0] [.o 1 0, .c 2] (by kernel_rfl) ?_
  refine J.new (T := 32) (cs := [.int .i64 bits]) (d := 3) (K := .ptr) (by kernel_rfl) (fun b1 hb1 => ?_)
  refine J.rn [.u, .n, .n, .n, .n, .u, .u, .u, .n] [1, 2, 3, 10] [.o 1 1, .c 2] [.c 5, .c 10] (by kernel_rfl) ?_
  refine J.cond (b := (((n : Nat) : Int) == 1)) (k' := 9) (by kernel_rfl) (fun hc => ?_) (fun hc => ?_)
  · try simp only [nrm] at hc
    have hc1 := hc
    refine J.rn [.n, .n, .u, .n] [6] [.c 6, .c 10] [.c 8, .c 10] (by kernel_rfl) ?_
    refine J.ret (v := .slice none 0 0) (by kernel_rfl) (by kernel_rfl) (fun w1 A1 m1 hac l1 => ⟨none, 0, 0, rfl, by rw [pathF_1 (by omega)]; exact (Nw.nil W.heap.size 34 32 [] A1 w1).new⟩)
  · try simp only [nrm] at hc
    have hc1 := hc
    refine J.run [.n, .n, .n, .u, .u] [1, 2, 3, 12] ⟨[(1, .v (.slice a n c)), (2, .v (.int .i64 ((i : Nat) : Int))), (3, .loc 0 0), (12, .v (.int .i64 ((n : Nat) : Int)))], [⟨32, [.int .i64 bits]⟩]⟩ [.c 9, .c 10] [.o 11 2, .c 12] (by kernel_rfl) ?_
    have hhh1 := half_lt2 n
    refine J.call (d := some 13) (by kernel_rfl) (fun w1 A1 m1 l1 => tree_half n (by omega) (by simp only [maxLen]; omega) nobody w1 noA) ?_
    rintro _ u1 w1 A1 rfl g1
    have m1 := g1.mv
    replace hs := hs.mv m1
    refine J.rn [.u, .n, .n, .n, .n, .u, .u, .u, .n] [1, 2, 3, 7, 16] [.o 11 3, .c 12] [.c 15, .c 20] (by kernel_rfl) ?_
    refine J.cond (b := (decide (((i : Nat) : Int) < ((half n : Nat) : Int)))) (k' := 19) (by kernel_rfl) (fun hc => ?_) (fun hc => ?_)
    · try simp only [nrm] at hc
      have hc2 := hc
      refine J.run [.n] [1, 2, 3, 7] ⟨[(1, .v (.slice a n c)), (2, .v (.int .i64 ((i : Nat) : Int))), (3, .loc 0 0), (7, .v (.int .i64 ((half n : Nat) : Int)))], [⟨32, [.int .i64 bits]⟩]⟩ [.c 16, .c 20] [.c 17, .c 18, .c 20] (by kernel_rfl) ?_
      refine J.draw [] nobody (by kernel_rfl) (by kernel_rfl) (fun _ h => h.elim) (fun w2 A2 m2 hr1 hX1 => ?_)
      replace hs := hs.mv m2
      refine J.take0 [(0, .u), (1, .u), (2, .u), (4, .u), (6, .u), (7, .u), (8, .u)] [17, 18, 19, 21, 23, 24, 25] [(17, .v (.agg [.int .i64 bits].toArray)), (18, .v (.slice a n c)), (19, .v (.int .i64 ((half n : Nat) : Int))), (21, .v (.int .i64 ((i : Nat) : Int))), (23, .v (.agg [.int .i64 bits].toArray)), (24, .v (.slice a n c)), (25, .v (.int .i64 ((half n : Nat) : Int)))] [8, 7, 6, 4, 2, 1, 0] (calm_body _ _ _) (by intro k _ h; exact h) hr1 (by kernel_rfl) ?_
      refine J.slp (j := 3) (a := a) (len := n) (cap := c) (sz := 1) (lo := none) (hi := (some ((half n : Nat) : Int))) (mx := none) (d := 20) (calm_body _ _ _) (by kernel_rfl) (by kernel_rfl) 0 (half n) c (by simp) (by simp) (by simp) (by have := hs.le; omega) (by have := hs.le; omega) (by have := hs.le; omega) (by simp) ?_
      intro a1 ha1 hb1
      rw [hb1 rfl, Nat.sub_zero, Nat.sub_zero]; clear ha1 hb1 a1
      have hp1 := hs.upto (H := half n) (X := c) (by have := hs.le; omega) (by have := hs.le; omega) (by have := hs.le; omega)
      refine J.slp (j := 9) (a := a) (len := n) (cap := c) (sz := 1) (lo := (some ((half n : Nat) : Int))) (hi := none) (mx := none) (d := 26) (calm_body _ _ _) (by kernel_rfl) (by kernel_rfl) (half n) n c (by simp) (by simp) (by simp) (by have := hs.le; omega) (by have := hs.le; omega) (by have := hs.le; omega) (by simp) ?_
      intro a2 ha2 hb2
      have hp2 := hs.from (L := half n) (by have := hs.le; omega) ha2
      refine J.pick1 5 (by kernel_rfl) (by kernel_rfl) ?_
      refine J.callq (d := some 22) (by kernel_rfl) (fun w1 A1 m1 l1 => ih a (half n) c (ls.take (half n)) i (by simp; omega) (by simp; omega) (by first | assumption | exact Short.take (by assumption) _ | exact Short.drop (by assumption) _ | exact Short.drop (Short.take (by assumption) _) _) (by simp; omega) nobody w1 noA (hp1.mv m1).any) ?_
      rintro _ u2 w3 A3 ⟨a3, n1, c1, rfl, hn1⟩ g2
      have hblhn1 := hn1.blk_lt; have hglhn1 := g2.le
      refine J.grab hn1 ?_

      have m3 := g2.grab hn1
      replace hs := hs.mv m3; replace hp1 := hp1.mv m3; replace hp2 := hp2.mv m3
      replace hn1 := hn1.take g2 rfl
      have hpl := pathF_le bits (ls.take (half n)) i; have hpn := hblhn1
      have hnl := (hn1.any (fun x _ => rfl) (by decide)).len; simp at hpl
      refine J.pick1 10 (by kernel_rfl) (by kernel_rfl) ?_
      refine J.callq (d := some 27) (by kernel_rfl) (fun w1 A1 m1 l1 => root_calls bits _ a2 (n - (half n)) (c - (half n)) (ls.drop (half n)) (Nat.lt_succ_self _) (by first | assumption | exact Short.take (by assumption) _ | exact Short.drop (by assumption) _ | exact Short.drop (Short.take (by assumption) _) _) (by simp; omega) nobody w1 noA (hp2.mv m1).any) ?_
      rintro _ u3 w4 A4 rfl g3
      have m4 := g3.mv
      replace hs := hs.mv m4; replace hp1 := hp1.mv m4; replace hp2 := hp2.mv m4; replace hn1 := hn1.mv m4
      refine J.pick1 11 (by kernel_rfl) (by kernel_rfl) ?_
      refine J.newq (T := 34) (cs := dcells (rootF bits (ls.drop (half n)))) (d := 28) (K := (.sl 1)) (by kernel_rfl) (fun b2 hb2 => ?_)
      replace hn1 := hn1.more hb2
      refine J.pick1 12 (by kernel_rfl) (by kernel_rfl) ?_
      refine J.appendq (e := 34) (sz := 32) (a := a3) (nn := n1) (c := c1) (T := 24) (Tx := 24) (x := .slice (some ⟨b2, 0, none⟩) 1 1) (bytes := 32) (d := 29) (xs := (pathF bits (ls.take (half n)) i).flatMap dcells) (news := dcells (rootF bits (ls.drop (half n)))) (m := 1) (by kernel_rfl) (by kernel_rfl) hn1.own (.inr hn1) (fun w1 A1 m1 l1 => l1.src (i := 1) rfl (e := 34) (by kernel_rfl) rfl rfl) (by simp only [maxLen]; omega) (by omega) (fun k hb hlt => by obtain ⟨_, x, e, e2⟩ := hb; have := hblhn1 x e; have := hglhn1; have := m3.size; have := m4.size; subst e2; omega) ?_
      intro a4 c2 w5 A5 hn2 m5
      replace hs := hs.mv m5; replace hp1 := hp1.mv m5; replace hp2 := hp2.mv m5
      replace hn2 := hn2.re (n' := n1 + 1) (ys := (pathF bits (ls.take (half n)) i ++ [rootF bits (ls.drop (half n))]).flatMap dcells) rfl (by first | (simp only [List.flatMap_append, dbytes_flat, byteCells_u8]; done) | (rw [List.flatMap_append]; rfl))
      refine J.take1 [(13, .u)] [6] [(6, .v (.slice a4 (n1 + 1) c2))] [13, 12, 11, 10, 5, 9, 3, 8, 7, 6, 4, 2, 1, 0] (calm_body _ _ _) (by kernel_rfl) ?_
      refine J.pdone (by kernel_rfl) ?_
      refine J.ret (v := .slice a4 (n1 + 1) c2) (by kernel_rfl) (by kernel_rfl) (fun w1 A1 m1 hac l1 => ⟨_, _, _, rfl, by rw [pathF_lo (by omega) (by rw [← hlen]; omega), ← hlen]; exact (hn2.mv m1).new⟩)
    · try simp only [nrm] at hc
      have hc2 := hc
      refine J.run [.n, .n] [1, 2, 3, 7] ⟨[(1, .v (.slice a n c)), (2, .v (.int .i64 ((i : Nat) : Int))), (3, .loc 0 0), (7, .v (.int .i64 ((half n : Nat) : Int)))], [⟨32, [.int .i64 bits]⟩]⟩ [.c 19, .c 20] [.c 21, .c 22] (by kernel_rfl) ?_
      refine J.draw [] nobody (by kernel_rfl) (by kernel_rfl) (fun _ h => h.elim) (fun w6 A6 m6 hr2 hX2 => ?_)
      replace hs := hs.mv m6
      refine J.take0 [(0, .u), (1, .u), (2, .u), (4, .u), (5, .u), (6, .u), (8, .u), (9, .u), (10, .u)] [30, 31, 32, 36, 38, 39, 40] [(30, .v (.agg [.int .i64 bits].toArray)), (31, .v (.slice a n c)), (32, .v (.int .i64 ((half n : Nat) : Int))), (36, .v (.int .i64 (IntKind.i64.wrap (((i : Nat) : Int) - ((half n : Nat) : Int))))), (38, .v (.agg [.int .i64 bits].toArray)), (39, .v (.slice a n c)), (40, .v (.int .i64 ((half n : Nat) : Int)))] [10, 9, 8, 6, 5, 4, 2, 1, 0] (calm_body _ _ _) (by intro k _ h; exact h) hr2 (by kernel_rfl) ?_
      rw [hik (half n) (by omega)]
      refine J.slp (j := 3) (a := a) (len := n) (cap := c) (sz := 1) (lo := (some ((half n : Nat) : Int))) (hi := none) (mx := none) (d := 33) (calm_body _ _ _) (by kernel_rfl) (by kernel_rfl) (half n) n c (by simp) (by simp) (by simp) (by have := hs.le; omega) (by have := hs.le; omega) (by have := hs.le; omega) (by simp) ?_
      intro a5 ha3 hb3
      have hp3 := hs.from (L := half n) (by have := hs.le; omega) ha3
      refine J.slp (j := 11) (a := a) (len := n) (cap := c) (sz := 1) (lo := none) (hi := (some ((half n : Nat) : Int))) (mx := none) (d := 41) (calm_body _ _ _) (by kernel_rfl) (by kernel_rfl) 0 (half n) c (by simp) (by simp) (by simp) (by have := hs.le; omega) (by have := hs.le; omega) (by have := hs.le; omega) (by simp) ?_
      intro a6 ha4 hb4
      rw [hb4 rfl, Nat.sub_zero, Nat.sub_zero]; clear ha4 hb4 a6
      have hp4 := hs.upto (H := half n) (X := c) (by have := hs.le; omega) (by have := hs.le; omega) (by have := hs.le; omega)
      refine J.pick1 7 (by kernel_rfl) (by kernel_rfl) ?_
      refine J.callq (d := some 37) (by kernel_rfl) (fun w1 A1 m1 l1 => ih a5 (n - (half n)) (c - (half n)) (ls.drop (half n)) (i - half n) (by simp; omega) (by simp; omega) (by first | assumption | exact Short.take (by assumption) _ | exact Short.drop (by assumption) _ | exact Short.drop (Short.take (by assumption) _) _) (by simp; omega) nobody w1 noA (hp3.mv m1).any) ?_
      rintro _ u4 w7 A7 ⟨a7, n2, c3, rfl, hn3⟩ g4
      have hblhn3 := hn3.blk_lt; have hglhn3 := g4.le
      refine J.grab hn3 ?_

      have m7 := g4.grab hn3
      replace hs := hs.mv m7; replace hp3 := hp3.mv m7; replace hp4 := hp4.mv m7
      replace hn3 := hn3.take g4 rfl
      have hpl := pathF_le bits (ls.drop (half n)) (i - half n); have hpn := hblhn3
      have hnl := (hn3.any (fun x _ => rfl) (by decide)).len; simp at hpl
      refine J.pick1 12 (by kernel_rfl) (by kernel_rfl) ?_
      refine J.callq (d := some 42) (by kernel_rfl) (fun w1 A1 m1 l1 => root_calls bits _ a (half n) c (ls.take (half n)) (Nat.lt_succ_self _) (by first | assumption | exact Short.take (by assumption) _ | exact Short.drop (by assumption) _ | exact Short.drop (Short.take (by assumption) _) _) (by simp; omega) nobody w1 noA (hp4.mv m1).any) ?_
      rintro _ u5 w8 A8 rfl g5
      have m8 := g5.mv
      replace hs := hs.mv m8; replace hp3 := hp3.mv m8; replace hp4 := hp4.mv m8; replace hn3 := hn3.mv m8
      refine J.pick1 13 (by kernel_rfl) (by kernel_rfl) ?_
      refine J.newq (T := 34) (cs := dcells (rootF bits (ls.take (half n)))) (d := 43) (K := (.sl 1)) (by kernel_rfl) (fun b3 hb3 => ?_)
      replace hn3 := hn3.more hb3
      refine J.pick1 14 (by kernel_rfl) (by kernel_rfl) ?_
      refine J.appendq (e := 34) (sz := 32) (a := a7) (nn := n2) (c := c3) (T := 24) (Tx := 24) (x := .slice (some ⟨b3, 0, none⟩) 1 1) (bytes := 32) (d := 44) (xs := (pathF bits (ls.drop (half n)) (i - half n)).flatMap dcells) (news := dcells (rootF bits (ls.take (half n)))) (m := 1) (by kernel_rfl) (by kernel_rfl) hn3.own (.inr hn3) (fun w1 A1 m1 l1 => l1.src (i := 1) rfl (e := 34) (by kernel_rfl) rfl rfl) (by simp only [maxLen]; omega) (by omega) (fun k hb hlt => by obtain ⟨_, x, e, e2⟩ := hb; have := hblhn3 x e; have := hglhn3; have := m7.size; have := m8.size; subst e2; omega) ?_
      intro a8 c4 w9 A9 hn4 m9
      replace hs := hs.mv m9; replace hp3 := hp3.mv m9; replace hp4 := hp4.mv m9
      replace hn4 := hn4.re (n' := n2 + 1) (ys := (pathF bits (ls.drop (half n)) (i - half n) ++ [rootF bits (ls.take (half n))]).flatMap dcells) rfl (by first | (simp only [List.flatMap_append, dbytes_flat, byteCells_u8]; done) | (rw [List.flatMap_append]; rfl))
      refine J.take1 [(15, .u)] [6] [(6, .v (.slice a8 (n2 + 1) c4))] [15, 14, 13, 12, 7, 11, 3, 10, 9, 8, 6, 5, 4, 2, 1, 0] (calm_body _ _ _) (by kernel_rfl) ?_
      refine J.pdone (by kernel_rfl) ?_
      refine J.ret (v := .slice a8 (n2 + 1) c4) (by kernel_rfl) (by kernel_rfl) (fun w1 A1 m1 hac l1 => ⟨_, _, _, rfl, by rw [pathF_hi (by omega) (by rw [← hlen]; omega), ← hlen]; exact (hn4.mv m1).new⟩)
theorem path_calls (bits : Int) : ∀ (N : Nat) (a : Option Addr) (n c : Nat) (ls : List (List UInt8)) (i : Nat), ls.length < N → i < ls.length → Short ls → ls.length ≤ 1000000 → ∀ (Ac : Nat → Prop) (W : World), (∀ k, Ac k → k < W.heap.size) → Rows Ac W a n c ls →
    Calls Pr 114 #[.agg [.int .i64 bits].toArray, .slice a n c, .int .i64 ((i : Nat) : Int)] W (Ret nobody W fun v w => ∃ a' n' c', v = .slice a' n' c' ∧ New W.heap.size 34 32 w a' n' c' ((pathF bits ls i).flatMap dcells))
  | 0, _, _, _, _, _, h, _, _, _, _, _, _, _ => absurd h (Nat.not_lt_zero _)
  | N + 1, a, n, c, ls, i, h, hi, hsh, hn, Ac, W, hA, hs => path_step bits a n c ls i (fun a2 n2 c2 l2 i2 h2 hi2 h3 h4 => path_calls bits N a2 n2 c2 l2 i2 (by omega) hi2 h3 h4) hi hsh hn Ac W hA hs
theorem Path_calls (bits : Int) (a : Option Addr) (n c : Nat) (ls : List (List UInt8)) (i : Nat) (hi : i < ls.length) (hsh : Short ls) (hn : ls.length ≤ 1000000) (Ac : Nat → Prop) (W : World) (hA : ∀ k, Ac k → k < W.heap.size) (hs : Rows Ac W a n c ls) :
    Calls Pr 98 #[.agg [.int .i64 bits].toArray, .slice a n c, .int .i64 ((i : Nat) : Int)] W (Ret nobody W fun v w => ∃ a' n' c', v = .tuple #[.slice a' n' c', .int .i64 0] ∧ New W.heap.size 34 32 w a' n' c' ((pathF bits ls i).flatMap dcells)) := by
  refine J.enter (fn := Try.f98) (n := 20) Try.func98 (by kernel_rfl) (by kernel_rfl) (by kernel_rfl) hA ?_
  have hlen := hs.len; have hle := hs.le; have hcap := hs.cap; simp only [maxLen] at hcap
  refine J.rn [.n, .n] [0, 1, 2] [.c 0] [.o 1 0, .c 2] (by kernel_rfl) ?_
  refine J.new (T := 32) (cs := [.int .i64 bits]) (d := 3) (K := .ptr) (by kernel_rfl) (fun b1 hb1 => ?_)
  refine J.run [.u, .u, .n, .n, .n, .n, .u, .u, .u] [1, 2, 3, 10] ⟨[(1, .v (.slice a n c)), (2, .v (.int .i64 ((i : Nat) : Int))), (3, .loc 0 0), (10, .v (.bool (decide (((i : Nat) : Int) < 0))))], [⟨32, [.int .i64 bits]⟩]⟩ [.o 1 1, .c 2] [.o 4 3, .c 5, .c 10] (by kernel_rfl) ?_
  rcases Bool.eq_false_or_eq_true (decide (((i : Nat) : Int) < 0)) with hc | hc
  · rw [hc]
    try simp only [nrm] at hc
    have hc1 := hc
    refine J.rn [.x, .x, .x, .x, .u, .n] [1, 2, 3, 15] [.o 4 3, .c 5, .c 10] [.c 5, .c 10] (by kernel_rfl) ?_
    refine J.cond (b := true) (k' := 9) (by kernel_rfl) (fun _ => ?_) (fun hc => absurd hc (by decide))
    refine J.rn [.n, .n, .u, .u, .n] [6, 7] [.c 6, .c 10] [.c 8, .c 10] (by kernel_rfl) ?_
    omega
  · rw [hc]
    try simp only [nrm] at hc
    have hc1 := hc
    refine J.rn [.w, .w, .w, .w, .u, .n] [1, 2, 3, 15] [.o 4 3, .c 5, .c 10] [.c 5, .c 10] (by kernel_rfl) ?_
    refine J.cond (b := (decide (((i : Nat) : Int) ≥ ((n : Nat) : Int)))) (k' := 9) (by kernel_rfl) (fun hc => ?_) (fun hc => ?_)
    · try simp only [nrm] at hc
      have hc2 := hc
      refine J.run [.n, .n, .u, .u, .n] [6, 7] ⟨[(6, .v (.slice none 0 0)), (7, .v (.int .i64 1))], [⟨32, [.int .i64 bits]⟩]⟩ [.c 6, .c 10] [.c 8, .c 10] (by kernel_rfl) ?_
      omega
    · try simp only [nrm] at hc
      have hc2 := hc
      refine J.rn [.n, .n, .n, .u, .u, .u] [16, 17, 18] [.c 9, .c 10] [.o 11 3, .c 12] (by kernel_rfl) ?_
      refine J.call (d := some 19) (by kernel_rfl) (fun w1 A1 m1 l1 => path_calls bits _ a n c ls i (Nat.lt_succ_self _) (by omega) (by first | assumption | exact Short.take (by assumption) _ | exact Short.drop (by assumption) _ | exact Short.drop (Short.take (by assumption) _) _) (by omega) nobody w1 noA (hs.mv m1).any) ?_
      rintro _ u1 w1 A1 ⟨a1, n1, c1, rfl, hn1⟩ g1
      have hblhn1 := hn1.blk_lt; have hglhn1 := g1.le
      refine J.grab hn1 ?_
      have m1 := g1.grab hn1
      replace hs := hs.mv m1
      replace hn1 := hn1.take g1 rfl
      refine J.rn [.u, .u, .n] [6, 7] [.o 11 4, .c 12] [.c 12] (by kernel_rfl) ?_
      refine J.ret (v := .tuple #[.slice a1 n1 c1, .int .i64 0]) (by kernel_rfl) (by kernel_rfl) (fun w1 A1 m1 hac l1 => ⟨_, _, _, rfl, (hn1.mv m1).new⟩)
end Go.Proofs.Ytkgokehkobifkaa.J

/- Equality of digests and of entries, as the machine asks it. -/
namespace Go.Proofs.Ytkgokehkobifkaa.J
open Go Go.RowKit

theorem run_eqArr {P : Program} {d t el len : Nat} {k : IntKind} (ht : P.underlying t = some (.array len el)) (he : P.underlying el = some (.int k)) (hs : sizeO P el = some 1) (ha : aggOf P el = some false) (xs ys : List Int) (hx : xs.length = len) (hy : ys.length = len) (w : World) :
    (Op.equalIn (d + 2) t (.agg (xs.map (Value.int k)).toArray) (.agg (ys.map (Value.int k)).toArray)).run P w = .ok (xs == ys) w := by
  have hpart : ∀ (zs : List Int) (i : Nat) (z : Int), zs[i]? = some z → ∀ w, (part el (zs.map (Value.int k)).toArray (i * 1)).run P w = .ok (.int k z) w := by
    intro zs i z hz w
    simp [part, run_isAgg ha, hz]
  have key : ∀ (m i : Nat), i + m = len → ∀ w, (do
      let r ← forIn (m := Sem) (List.range' i m) ((none, ()) : Option Bool × Unit) fun i r =>
        (do if !(← Op.equalIn (d + 1) el (← part el (xs.map (Value.int k)).toArray (i * 1)) (← part el (ys.map (Value.int k)).toArray (i * 1))) then pure (ForInStep.done (some false, ())) else pure (ForInStep.yield (none, ())))
      match r.fst with
      | none => pure true
      | some a => pure a).run P w = .ok (xs.drop i == ys.drop i) w := by
    intro m
    induction m with
    | zero =>
      intro i hi w
      have h1 : xs.drop i = [] := List.drop_eq_nil_of_le (by omega)
      have h2 : ys.drop i = [] := List.drop_eq_nil_of_le (by omega)
      simp [h1, h2]
    | succ m ih =>
      intro i hi w
      have hxi : xs[i]? = some xs[i] := List.getElem?_eq_getElem (by omega)
      have hyi : ys[i]? = some ys[i] := List.getElem?_eq_getElem (by omega)
      have e1 : xs.drop i = xs[i] :: xs.drop (i + 1) := List.drop_eq_getElem_cons (by omega)
      have e2 : ys.drop i = ys[i] :: ys.drop (i + 1) := List.drop_eq_getElem_cons (by omega)
      have hb : (xs.drop i == ys.drop i) = (xs[i] == ys[i] && (xs.drop (i + 1) == ys.drop (i + 1))) := by rw [e1, e2]; rfl
      rw [hb]
      simp only [List.range'_succ, List.forIn_cons, Sem.run_bind, hpart xs i _ hxi, hpart ys i _ hyi, Result.andThen_ok, run_equalIn_int (w := w) d el k k _ _ he]
      cases hc : (xs[i] == ys[i]) with
      | false => simp
      | true =>
        have := ih (i + 1) (by omega) w
        simp only [Sem.run_bind] at this
        rw [Bool.true_and, ← this]
        simp
  have h0 := key len 0 (by omega) w
  simp only [List.drop_zero] at h0
  rw [← h0]
  rw [Op.equalIn]
  simp only [Sem.run_bind, run_underlying ht, Result.andThen_ok, run_sizeOf hs, Std.Legacy.Range.forIn_eq_forIn_range', Std.Legacy.Range.size, Nat.sub_zero, Nat.add_one_sub_one, Nat.div_one]
  congr 1
  funext a w'
  rcases a with ⟨_ | _, _⟩ <;> rfl

/-! ## the rule -/
section
variable {P : Program} {B : Code} {Q : Exit → Act → World → Prop} {n : Nat} {W : World} {Ac M A : Nat → Prop} {s : SS} {ρ : List Nat} {w0 : World} {r t : List It} {k j : Nat}

def eqOf (B : Code) (e : Env) (ρ : List Nat) (n k j : Nat) : Option (Bool × TypeId × List Value × List Value × Nat) :=
  match nowOp B e k j with
  | some o => match o.dst, o.op with
    | some d, .binOp .eql t x y _ => bif Nat.blt d n then (match evv e ρ none x, evv e ρ none y with
      | some (.agg xs), some (.agg ys) => some (false, t, xs.toList, ys.toList, d)
      | _, _ => none) else none
    | some d, .binOp .neq t x y _ => bif Nat.blt d n then (match evv e ρ none x, evv e ρ none y with
      | some (.agg xs), some (.agg ys) => some (true, t, xs.toList, ys.toList, d)
      | _, _ => none) else none
    | _, _ => none
  | none => none

theorem eqOf_run {neg : Bool} {T d : Nat} {xs ys : List Value} {b : Bool} (hx : eqOf B s.env ρ n k j = some (neg, T, xs, ys, d)) (hg : P.eqGuardType P.depth T = false) (he : ∀ w, (Op.equalIn 10000 T (.agg xs.toArray) (.agg ys.toArray)).run P w = .ok b w) :
    ∃ o, nowOp B s.env k j = some o ∧ o.dst = some d ∧ d < n ∧ ∀ act w, Fits n s.env ρ act → (execOp act.eval o).run P w = .ok (.value (.bool (bif neg then !b else b))) w := by
  unfold eqOf at hx
  split at hx
  · rename_i o ho
    split at hx
    · rename_i d' t' x y yt hd hop
      obtain ⟨hdn, hx⟩ := bif_some hx
      split at hx
      · rename_i xs' ys' h1 h2
        cases hx
        refine ⟨o, ho, hd, blt_iff.1 hdn, fun act w hf => ?_⟩
        have he' := he w
        simp only [Array.toArray_toList] at he'
        have e1 : execOp act.eval o = (do Pure.pure (.value (← (do eqGuard .eql T x y (act.eval x) (act.eval y); binOp .eql T (act.eval x) (act.eval y))))) := by unfold execOp; rw [hop]
        rw [e1, evv_den hf (GOk.none _) h1, evv_den hf (GOk.none _) h2]
        simp [run_eqGuard_agg w .eql T x y xs' ys' hg, run_eql_struct w T xs' ys', he']
      · cases hx
    · rename_i d' t' x y yt hd hop
      obtain ⟨hdn, hx⟩ := bif_some hx
      split at hx
      · rename_i xs' ys' h1 h2
        cases hx
        refine ⟨o, ho, hd, blt_iff.1 hdn, fun act w hf => ?_⟩
        have he' := he w
        simp only [Array.toArray_toList] at he'
        have e1 : execOp act.eval o = (do Pure.pure (.value (← (do eqGuard .neq T x y (act.eval x) (act.eval y); binOp .neq T (act.eval x) (act.eval y))))) := by unfold execOp; rw [hop]
        rw [e1, evv_den hf (GOk.none _) h1, evv_den hf (GOk.none _) h2]
        simp [run_eqGuard_agg w .neq T x y xs' ys' hg, run_neq_struct w T xs' ys', he']
      · cases hx
    · cases hx
  · cases hx

theorem J.eqA {neg : Bool} {T d : Nat} {xs ys : List Value} {b : Bool} (hx : eqOf B s.env ρ n k j = some (neg, T, xs, ys, d)) (hg : P.eqGuardType P.depth T = false) (he : ∀ w, (Op.equalIn 10000 T (.agg xs.toArray) (.agg ys.toArray)).run P w = .ok b w)
    (h : J P B Q n W Ac M (.o k (j + 1) :: r) ⟨put s.env d (.v (.bool (bif neg then !b else b))), s.mem⟩ ρ A w0) : J P B Q n W Ac M (.o k j :: r) s ρ A w0 := by
  obtain ⟨o, ho, hd, hdn, hrun⟩ := eqOf_run hx hg he
  exact J.readG .text ho hd hdn (fun a w ok => hrun a w ok.fits) h

theorem J.eqAp {S : World → Prop} {done : List Nat} {j : Nat} {neg : Bool} {T d : Nat} {xs ys : List Value} {b : Bool} (hQ : CalmQ Q) (hm : mayTake B k j done = true) (hx : eqOf B s.env ρ n k j = some (neg, T, xs, ys, d)) (hg : P.eqGuardType P.depth T = false) (he : ∀ w, (Op.equalIn 10000 T (.agg xs.toArray) (.agg ys.toArray)).run P w = .ok b w)
    (h : J P B Q n W Ac M (.p k (j :: done) S :: r) ⟨put s.env d (.v (.bool (bif neg then !b else b))), s.mem⟩ ρ A w0) : J P B Q n W Ac M (.p k done S :: r) s ρ A w0 := by
  obtain ⟨o, ho, hd, hdn, hrun⟩ := eqOf_run hx hg he
  exact J.takeV hQ hm ho hd hdn (fun a w ok _ w' _ => hrun a w' ok.fits) h
end

/-! ## digests -/
def dgEq (x y : Dg) : Bool := dbytes x == dbytes y
theorem dgEq_iff {x y : Dg} : dgEq x y = true ↔ x = y := by
  unfold dgEq
  rw [beq_iff_eq]
  constructor
  · intro h
    simp only [dbytes, List.cons.injEq, and_true] at h
    funext i
    obtain ⟨h0, h1, h2, h3, h4, h5, h6, h7, h8, h9, h10, h11, h12, h13, h14, h15, h16, h17, h18, h19, h20, h21, h22, h23, h24, h25, h26, h27, h28, h29, h30, h31⟩ := h
    match i with
    | ⟨0, _⟩ => exact h0 | ⟨1, _⟩ => exact h1 | ⟨2, _⟩ => exact h2 | ⟨3, _⟩ => exact h3 | ⟨4, _⟩ => exact h4 | ⟨5, _⟩ => exact h5 | ⟨6, _⟩ => exact h6 | ⟨7, _⟩ => exact h7
    | ⟨8, _⟩ => exact h8 | ⟨9, _⟩ => exact h9 | ⟨10, _⟩ => exact h10 | ⟨11, _⟩ => exact h11 | ⟨12, _⟩ => exact h12 | ⟨13, _⟩ => exact h13 | ⟨14, _⟩ => exact h14 | ⟨15, _⟩ => exact h15
    | ⟨16, _⟩ => exact h16 | ⟨17, _⟩ => exact h17 | ⟨18, _⟩ => exact h18 | ⟨19, _⟩ => exact h19 | ⟨20, _⟩ => exact h20 | ⟨21, _⟩ => exact h21 | ⟨22, _⟩ => exact h22 | ⟨23, _⟩ => exact h23
    | ⟨24, _⟩ => exact h24 | ⟨25, _⟩ => exact h25 | ⟨26, _⟩ => exact h26 | ⟨27, _⟩ => exact h27 | ⟨28, _⟩ => exact h28 | ⟨29, _⟩ => exact h29 | ⟨30, _⟩ => exact h30 | ⟨31, _⟩ => exact h31
    | ⟨q + 32, hq⟩ => exact absurd hq (by omega)
  · rintro rfl; rfl
theorem ints_eq : ∀ (a b : List UInt8), ((a.map fun x => ((x.toNat : Nat) : Int)) == (b.map fun x => ((x.toNat : Nat) : Int))) = (a == b)
  | [], [] => rfl
  | [], _ :: _ => rfl
  | _ :: _, [] => rfl
  | x :: a, y :: b => by
    rw [List.map_cons, List.map_cons, List.cons_beq_cons, List.cons_beq_cons, ints_eq a b]
    congr 1
    rw [Bool.eq_iff_iff, beq_iff_eq, beq_iff_eq]
    constructor
    · intro h
      refine UInt8.toNat_inj.1 ?_
      omega
    · rintro rfl; rfl

theorem dig_eq (x y : Dg) (w : World) : (Op.equalIn 10000 34 (.agg (dcells x).toArray) (.agg (dcells y).toArray)).run Pr w = .ok (dgEq x y) w := by
  have h := run_eqArr (P := Pr) (d := 9998) (t := 34) (el := 5) (len := 32) (k := .u8) (by kernel_rfl) (by kernel_rfl) (by kernel_rfl) (by kernel_rfl) ((dbytes x).map fun b => ((b.toNat : Nat) : Int)) ((dbytes y).map fun b => ((b.toNat : Nat) : Int)) (by simp [dbytes]) (by simp [dbytes]) w
  rw [ints_eq] at h
  exact h
theorem dig_guard : Program.eqGuardType Pr Pr.depth 34 = false := by kernel_rfl

/-! ## entries -/
def entEq (x y : Ent) : Bool := seq x.key y.key && (seq x.value y.value && (x.del == y.del && x.seq == y.seq))
theorem entEq_iff {x y : Ent} : entEq x y = true ↔ x = y := by
  cases x; cases y
  simp [entEq, seq_iff]
end Go.Proofs.Ytkgokehkobifkaa.J

/- Package tree: Check. -/
namespace Go.Proofs.Ytkgokehkobifkaa.J
open Go Go.RowKit

def fnOf (b : Bool) : Value := bif b then .func (.func 46) #[] #[] else .func (.func 82) #[] #[]
def encF (b : Bool) : List Value := [fnOf b]
theorem encF_one (b : Bool) : ∀ v ∈ encF b, v.oneCell' = true := by
  intro v hv; simp [encF] at hv; subst hv; cases b <;> rfl

/-- On which side the way down goes. -/
def sides (n i : Nat) : List Bool :=
  if n ≤ 1 then [] else if i < half n then true :: sides (half n) i else false :: sides (n - half n) (i - half n)
termination_by n
decreasing_by
  · have := half_lt (n := n) (by omega); omega
  · have := half_lt (n := n) (by omega); omega
theorem sides_1 {n i : Nat} (h : n ≤ 1) : sides n i = [] := by rw [sides, if_pos h]
theorem sides_lo {n i : Nat} (h : 2 ≤ n) (hi : i < half n) : sides n i = true :: sides (half n) i := by rw [sides, if_neg (by omega), if_pos hi]
theorem sides_hi {n i : Nat} (h : 2 ≤ n) (hi : half n ≤ i) : sides n i = false :: sides (n - half n) (i - half n) := by rw [sides, if_neg (by omega), if_neg (by omega)]

/-- One step up. -/
def upF (bits : Int) (d : Dg) (p : Bool × Dg) : Dg := if p.1 = true then nodeF bits d p.2 else nodeF bits p.2 d
/-- From a leaf up. -/
def climb (bits : Int) (d : Dg) (up : List Bool) (path : List Dg) : Dg := (up.reverse.zip path).foldl (upF bits) d
def checkN (bits : Int) (root : Dg) (n i : Nat) (leaf : List UInt8) (path : List Dg) : Bool :=
  decide (path.length = (sides n i).length) && dgEq (climb bits (leafF bits leaf) (sides n i) path) root
def checkF (bits : Int) (root : Dg) (n : Nat) (i : Int) (leaf : List UInt8) (path : List Dg) : Bool :=
  decide (0 ≤ i ∧ i < ((n : Nat) : Int)) && checkN bits root n i.toNat leaf path

structure ChkSt where
  n : Nat
  i : Nat
  a : Option Addr
  m : Nat
  c : Nat
  done : List Bool

theorem fold_step {bits : Int} {d : Dg} {up : List Bool} {path : List Dg} {i : Nat} (hl : path.length = up.length) {b : Bool} {x : Dg} (hb : up[up.length - 1 - i]? = some b) (hx : path[i]? = some x) :
    ((up.reverse.zip path).take (i + 1)).foldl (upF bits) d = upF bits (((up.reverse.zip path).take i).foldl (upF bits) d) (b, x) := by
  have hi : i < path.length := (List.getElem?_eq_some_iff.1 hx).1
  have h1 : (up.reverse.zip path)[i]? = some (b, x) := by
    have h2 : up.reverse[i]? = some b := by
      rw [List.getElem?_reverse (by omega)]; exact hb
    simp [List.getElem?_zip_eq_some, h2, hx]
  rw [take_snoc h1, List.foldl_append]; rfl

theorem check_calls (bits : Int) (root : Dg) (N : Nat) (i : Int) (la : Option Addr) (ln lc : Nat) (leaf : List UInt8) (pa : Option Addr) (pn pc : Nat) (path : List Dg) (hN : N ≤ 1000000) (hln : ln ≤ 1000000) (Ac : Nat → Prop) (W : World) (hA : ∀ k, Ac k → k < W.heap.size) (hs : Sl 1 u8 Ac W la ln lc leaf) (hp : Sl 32 dcells Ac W pa pn pc path) :
    Calls Pr 39 #[.agg [.int .i64 bits].toArray, .agg (dcells root).toArray, .int .i64 ((N : Nat) : Int), .int .i64 i, .slice la ln lc, .slice pa pn pc] W (Ret nobody W fun v w => v = .bool (checkF bits root N i leaf path)) := by
  refine J.enter (fn := Try.f39) (n := 76) Try.func39 (by kernel_rfl) (by kernel_rfl) (by kernel_rfl) hA ?_
  have hlen := hs.len; have hle := hs.le; have hcap := hs.cap; simp only [maxLen] at hcap
  have hplen := hp.len; have hple := hp.le; have hpcap := hp.cap; simp only [maxLen] at hpcap
  refine J.rn [.n, .n] [0, 1, 2, 3, 4, 5] [.c 0] [.o 1 0, .c 2] (by kernel_rfl) ?_
  refine J.new (T := 32) (cs := [.int .i64 bits]) (d := 6) (K := .ptr) (by kernel_rfl) (fun b1 hb1 => ?_)
  refine J.new (T := 34) (cs := dcells root) (d := 7) (K := .ptr) (by kernel_rfl) (fun b2 hb2 => ?_)
  refine J.run [.u, .n, .n, .n, .n, .u, .u, .u] [2, 3, 4, 5, 6, 7, 20] ⟨[(2, .v (.int .i64 ((N : Nat) : Int))), (3, .v (.int .i64 i)), (4, .v (.slice la ln lc)), (5, .v (.slice pa pn pc)), (6, .loc 0 0), (7, .loc 1 0), (20, .v (.bool (decide (i < 0))))], [⟨32, [.int .i64 bits]⟩, ⟨34, dcells root⟩]⟩ [.o 1 2, .c 2] [.o 4 3, .c 5, .c 10] (by kernel_rfl) ?_
  rcases Bool.eq_false_or_eq_true (decide (i < 0)) with hc | hc
  · rw [hc]
    try simp only [nrm] at hc
    have hc1 := hc
    refine J.rn [.x, .x, .x, .u, .n] [2, 3, 4, 5, 6, 7, 24] [.o 4 3, .c 5, .c 10] [.c 5, .c 10] (by kernel_rfl) ?_
    refine J.cond (b := true) (k' := 9) (by kernel_rfl) (fun _ => ?_) (fun hc => absurd hc (by decide))
    refine J.rn [.n, .n, .u, .n] [12] [.c 6, .c 10] [.c 8, .c 10] (by kernel_rfl) ?_
    refine J.ret (v := .bool false) (by kernel_rfl) (by kernel_rfl) (fun w1 A1 m1 hac l1 => by rw [checkF, decide_eq_false (by omega)]; rfl)
  · rw [hc]
    try simp only [nrm] at hc
    have hc1 := hc
    refine J.rn [.w, .w, .w, .u, .n] [2, 3, 4, 5, 6, 7, 24] [.o 4 3, .c 5, .c 10] [.c 5, .c 10] (by kernel_rfl) ?_
    refine J.cond (b := (decide (i ≥ ((N : Nat) : Int)))) (k' := 9) (by kernel_rfl) (fun hc => ?_) (fun hc => ?_)
    · try simp only [nrm] at hc
      have hc2 := hc
      refine J.run [.n, .n, .u, .n] [12] ⟨[(12, .v (.bool false))], [⟨32, [.int .i64 bits]⟩, ⟨34, dcells root⟩]⟩ [.c 6, .c 10] [.c 8, .c 10] (by kernel_rfl) ?_
      refine J.ret (v := .bool false) (by kernel_rfl) (by kernel_rfl) (fun w1 A1 m1 hac l1 => by rw [checkF, decide_eq_false (by omega)]; rfl)
    · try simp only [nrm] at hc
      have hc2 := hc
      refine J.rn [.n, .n, .n, .u, .n, .n, .n] [2, 3, 4, 5, 6, 7, 13] [.c 9, .c 10] [.c 14, .b 0, .c 29] (by kernel_rfl) ?_
      obtain ⟨i0, rfl⟩ : ∃ i0 : Nat, i = ((i0 : Nat) : Int) := ⟨i.toNat, by omega⟩
      refine J.loop (X := ChkSt) (fun x => ⟨[(2, .v (.int .i64 ((x.n : Nat) : Int))), (3, .v (.int .i64 ((x.i : Nat) : Int))), (4, .v (.slice la ln lc)), (5, .v (.slice pa pn pc)), (6, .loc 0 0), (7, .loc 1 0), (13, .v (.slice x.a x.m x.c))], [⟨32, [.int .i64 bits]⟩, ⟨34, dcells root⟩]⟩) (fun x A w => Nw W.heap.size 126 1 [b1, b2] A w x.a x.m x.c (x.done.flatMap encF) ∧ sides N i0 = x.done ++ sides x.n x.i ∧ x.i < x.n ∧ x.m + x.n ≤ N + 1 ∧ Sl 1 u8 A w la ln lc leaf ∧ Sl 32 dcells A w pa pn pc path) (fun x => x.n) [2, 3, 4, 5, 6, 7, 13] 2 [b1, b2] ⟨N, i0, none, 0, 0, []⟩ (by kernel_rfl) (by kernel_rfl) (by kernel_rfl) (fun w1 A1 m1 => ⟨Nw.nil _ _ _ _ _ _, rfl, by simp only; omega, by simp only; omega, hs.mv m1, hp.mv m1⟩) (fun x A1 w1 hI => ?_)
      obtain ⟨ho, hsd, hin, hmn, hs, hp⟩ := hI; have hml := (ho.any (fun x _ => rfl) (by decide)).len
      refine J.rn [.n, .n, .n, .u, .u, .n] [2, 3, 4, 5, 6, 7, 13, 26] [.c 15] [.c 18, .c 21] (by kernel_rfl) ?_
      refine J.cond (b := (decide (((x.n : Nat) : Int) > 1))) (k' := 20) (by kernel_rfl) (fun hc => ?_) (fun hc => ?_)
      · try simp only [nrm] at hc
        have hc3 := hc
        refine J.rn [.n, .n, .n, .n, .u] [2, 3, 4, 5, 6, 7, 13, 27] [.c 19, .c 21] [.o 23 1, .c 24, .b 1] (by kernel_rfl) ?_
        have hhh1 := half_lt2 x.n
        refine J.call (d := some 28) (by kernel_rfl) (fun w1 A1 m1 l1 => tree_half x.n (by omega) (by simp only [maxLen]; omega) nobody w1 noA) ?_
        rintro _ u1 w2 A2 rfl g1
        have m1 := g1.mv
        replace hs := hs.mv m1; replace hp := hp.mv m1; replace ho := ho.mv m1
        refine J.run [.u, .n, .n, .n, .u, .u, .u, .n] [2, 3, 4, 5, 6, 7, 13, 14, 31] ⟨[(2, .v (.int .i64 ((x.n : Nat) : Int))), (3, .v (.int .i64 ((x.i : Nat) : Int))), (4, .v (.slice la ln lc)), (5, .v (.slice pa pn pc)), (6, .loc 0 0), (7, .loc 1 0), (13, .v (.slice x.a x.m x.c)), (14, .v (.int .i64 ((half x.n : Nat) : Int))), (31, .v (.bool (decide (((x.i : Nat) : Int) < ((half x.n : Nat) : Int)))))], [⟨32, [.int .i64 bits]⟩, ⟨34, dcells root⟩]⟩ [.o 23 2, .c 24, .b 1] [.c 26, .b 1] (by kernel_rfl) ?_
        refine J.cond (b := (decide (((x.i : Nat) : Int) < ((half x.n : Nat) : Int)))) (k' := 28) (by kernel_rfl) (fun hc => ?_) (fun hc => ?_)
        · try simp only [nrm] at hc
          have hc4 := hc
          refine J.run [.n, .u] [3, 4, 5, 6, 7, 14, 32] ⟨[(3, .v (.int .i64 ((x.i : Nat) : Int))), (4, .v (.slice la ln lc)), (5, .v (.slice pa pn pc)), (6, .loc 0 0), (7, .loc 1 0), (14, .v (.int .i64 ((half x.n : Nat) : Int))), (32, .v (.slice x.a x.m x.c))], [⟨32, [.int .i64 bits]⟩, ⟨34, dcells root⟩]⟩ [.c 27, .b 1] [.o 27 1, .b 1] (by kernel_rfl) ?_
          refine J.new (T := 126) (cs := [.func (.func 46) #[] #[]]) (d := 33) (K := (.sl 1)) (by kernel_rfl) (fun b3 hb3 => ?_)
          replace ho := ho.more hb3
          refine J.append (e := 126) (sz := 1) (a := x.a) (nn := x.m) (c := x.c) (T := 125) (Tx := 125) (x := .slice (some ⟨b3, 0, none⟩) 1 1) (bytes := 8) (d := 34) (xs := x.done.flatMap encF) (news := [.func (.func 46) #[] #[]]) (m := 1) (by kernel_rfl) (by kernel_rfl) ho.own (.inr ho) (fun w1 A1 m1 l1 => l1.src (i := 2) rfl (e := 126) (by kernel_rfl) rfl rfl) (by simp only [maxLen]; omega) (by omega) ?_
          intro a1 c1 w3 A3 hn1 m2
          replace hs := hs.mv m2; replace hp := hp.mv m2
          replace hn1 := hn1.re (n' := x.m + 1) (ys := (x.done ++ [true]).flatMap encF) rfl (by first | (simp only [List.flatMap_append, dbytes_flat, byteCells_u8]; done) | (rw [List.flatMap_append]; rfl))
          have hx1 : IntKind.i64.wrap (((x.n : Nat) : Int) - ((half x.n : Nat) : Int)) = ((x.n - half x.n : Nat) : Int) := by rw [wrap_i64 (by omega) (by omega)]; omega
          refine J.rn [.u, .u, .u, .n, .n] [2, 3, 4, 5, 6, 7, 13] [.o 27 3, .b 1] [] (by kernel_rfl) ?_
          exact J.again ⟨half x.n, x.i, a1, (x.m + 1), c1, x.done ++ [true]⟩ [2, 3, 4, 5, 6, 7, 13] 2 (by simp only; omega) (by kernel_rfl) (by kernel_rfl) (fun w1 A1 m1 => ⟨(hn1.mv m1).fewer (by simp), by rw [hsd, sides_lo (by omega) (by omega)]; simp, by simp only; omega, by simp only; omega, hs.mv m1, hp.mv m1⟩)
        · try simp only [nrm] at hc
          have hc4 := hc
          refine J.run [.n, .u] [2, 3, 4, 5, 6, 7, 14, 36] ⟨[(2, .v (.int .i64 ((x.n : Nat) : Int))), (3, .v (.int .i64 ((x.i : Nat) : Int))), (4, .v (.slice la ln lc)), (5, .v (.slice pa pn pc)), (6, .loc 0 0), (7, .loc 1 0), (14, .v (.int .i64 ((half x.n : Nat) : Int))), (36, .v (.slice x.a x.m x.c))], [⟨32, [.int .i64 bits]⟩, ⟨34, dcells root⟩]⟩ [.c 28, .b 1] [.o 28 1, .b 1] (by kernel_rfl) ?_
          refine J.new (T := 126) (cs := [.func (.func 82) #[] #[]]) (d := 37) (K := (.sl 1)) (by kernel_rfl) (fun b4 hb4 => ?_)
          replace ho := ho.more hb4
          refine J.append (e := 126) (sz := 1) (a := x.a) (nn := x.m) (c := x.c) (T := 125) (Tx := 125) (x := .slice (some ⟨b4, 0, none⟩) 1 1) (bytes := 8) (d := 38) (xs := x.done.flatMap encF) (news := [.func (.func 82) #[] #[]]) (m := 1) (by kernel_rfl) (by kernel_rfl) ho.own (.inr ho) (fun w1 A1 m1 l1 => l1.src (i := 2) rfl (e := 126) (by kernel_rfl) rfl rfl) (by simp only [maxLen]; omega) (by omega) ?_
          intro a2 c2 w4 A4 hn2 m3
          replace hs := hs.mv m3; replace hp := hp.mv m3
          replace hn2 := hn2.re (n' := x.m + 1) (ys := (x.done ++ [false]).flatMap encF) rfl (by first | (simp only [List.flatMap_append, dbytes_flat, byteCells_u8]; done) | (rw [List.flatMap_append]; rfl))
          have hx1 : IntKind.i64.wrap (((x.n : Nat) : Int) - ((half x.n : Nat) : Int)) = ((x.n - half x.n : Nat) : Int) := by rw [wrap_i64 (by omega) (by omega)]; omega
          have hx2 : IntKind.i64.wrap (((x.i : Nat) : Int) - ((half x.n : Nat) : Int)) = ((x.i - half x.n : Nat) : Int) := by rw [wrap_i64 (by omega) (by omega)]; omega
          refine J.run [.u, .u, .u, .u, .u, .u, .u, .u, .u, .n, .n] [2, 3, 4, 5, 6, 7, 13] ⟨[(2, .v (.int .i64 (IntKind.i64.wrap (((x.n : Nat) : Int) - ((half x.n : Nat) : Int))))), (3, .v (.int .i64 (IntKind.i64.wrap (((x.i : Nat) : Int) - ((half x.n : Nat) : Int))))), (4, .v (.slice la ln lc)), (5, .v (.slice pa pn pc)), (6, .loc 0 0), (7, .loc 1 0), (13, .v (.slice a2 (x.m + 1) c2))], [⟨32, [.int .i64 bits]⟩, ⟨34, dcells root⟩, ⟨126, [.func (.func 82) #[] #[]]⟩]⟩ [.o 28 3, .b 1] [] (by kernel_rfl) ?_
          rw [hx1]
          rw [hx2]
          exact J.again ⟨x.n - half x.n, x.i - half x.n, a2, (x.m + 1), c2, x.done ++ [false]⟩ [2, 3, 4, 5, 6, 7, 13] 2 (by simp only; omega) (by kernel_rfl) (by kernel_rfl) (fun w1 A1 m1 => ⟨(hn2.mv m1).fewer (by simp), by rw [hsd, sides_hi (by omega) (by omega)]; simp, by simp only; omega, by simp only; omega, hs.mv m1, hp.mv m1⟩)
      · try simp only [nrm] at hc
        have hc3 := hc
        rw [sides_1 (n := x.n) (by omega), List.append_nil] at hsd
        refine J.exit (id := 0) (by kernel_rfl) (by rfl) ?_
        refine J.rn [.n, .n, .n, .u, .u, .u, .u, .u, .n] [4, 5, 6, 7, 13, 49] [.c 29] [.c 32, .c 37] (by kernel_rfl) ?_
        refine J.cond (b := (((pn : Nat) : Int) != ((x.m : Nat) : Int))) (k' := 36) (by kernel_rfl) (fun hc => ?_) (fun hc => ?_)
        · try simp only [nrm] at hc
          have hc5 := hc
          refine J.rn [.n, .n, .u, .n] [12] [.c 33, .c 37] [.c 35, .c 37] (by kernel_rfl) ?_
          refine J.ret (v := .bool false) (by kernel_rfl) (by kernel_rfl) (fun w1 A1 m1 hac l1 => by rw [checkF, Int.toNat_natCast, checkN, hsd, decide_eq_false (p := path.length = _) (by omega)]; simp)
        · try simp only [nrm] at hc
          have hc5 := hc
          refine J.rn [.n, .n, .n, .u, .u] [5, 6, 7, 13, 50, 51] [.c 36, .c 37] [.o 38 2, .c 39] (by kernel_rfl) ?_
          refine J.call (d := some 52) (by kernel_rfl) (fun w1 A1 m1 l1 => leaf_calls bits la ln lc leaf (by omega) nobody w1 noA (hs.mv m1).any) ?_
          rintro _ u2 w5 A5 rfl g2
          have m4 := g2.mv
          replace hs := hs.mv m4; replace hp := hp.mv m4; replace ho := ho.mv m4
          refine J.new (T := 34) (cs := [.int .u8 0, .int .u8 0, .int .u8 0, .int .u8 0, .int .u8 0, .int .u8 0, .int .u8 0, .int .u8 0, .int .u8 0, .int .u8 0, .int .u8 0, .int .u8 0, .int .u8 0, .int .u8 0, .int .u8 0, .int .u8 0, .int .u8 0, .int .u8 0, .int .u8 0, .int .u8 0, .int .u8 0, .int .u8 0, .int .u8 0, .int .u8 0, .int .u8 0, .int .u8 0, .int .u8 0, .int .u8 0, .int .u8 0, .int .u8 0, .int .u8 0, .int .u8 0]) (d := 15) (K := .ptr) (by kernel_rfl) (fun b5 hb5 => ?_)
          replace ho := ho.more hb5
          refine J.run [.u, .n, .n, .n, .n, .u, .u, .u, .n, .n] [6, 7, 13, 15, 53, 54, 55] ⟨[(6, .loc 0 0), (7, .loc 1 0), (13, .v (.slice x.a x.m x.c)), (15, .loc 2 0), (53, .v (.slice pa pn pc)), (54, .v (.int .i64 ((pn : Nat) : Int))), (55, .v (.int .i64 0))], [⟨32, [.int .i64 bits]⟩, ⟨34, dcells root⟩, ⟨34, dcells (leafF bits leaf)⟩]⟩ [.o 38 4, .c 39] [.c 43, .b 2, .c 56] (by kernel_rfl) ?_
          refine J.loop (X := Nat) (fun j => ⟨[(6, .loc 0 0), (7, .loc 1 0), (13, .v (.slice x.a x.m x.c)), (15, .loc 2 0), (53, .v (.slice pa pn pc)), (54, .v (.int .i64 ((pn : Nat) : Int))), (55, .v (.int .i64 ((j : Nat) : Int)))], [⟨32, [.int .i64 bits]⟩, ⟨34, dcells root⟩, ⟨34, dcells (((x.done.reverse.zip path).take j).foldl (upF bits) (leafF bits leaf))⟩]⟩) (fun j A w => j ≤ pn ∧ Nw W.heap.size 126 1 [b1, b2, b5] A w x.a x.m x.c (x.done.flatMap encF) ∧ Sl 32 dcells A w pa pn pc path) (fun j => pn - j) [6, 7, 13, 15, 53, 54, 55] 3 [b1, b2, b5] 0 (by kernel_rfl) (by kernel_rfl) (by kernel_rfl) (fun w1 A1 m1 => ⟨Nat.zero_le _, ho.mv m1, hp.mv m1⟩) (fun j A6 w6 hI => ?_)
          obtain ⟨hj, ho, hp⟩ := hI
          have hz1 : j < pn → IntKind.i64.wrap (((x.m : Nat) : Int) - 1) = ((x.m - 1 : Nat) : Int) := fun h => by rw [wrap_i64 (by omega) (by omega)]; omega
          have hz2 : j < pn → IntKind.i64.wrap (((x.m - 1 : Nat) : Int) - ((j : Nat) : Int)) = ((x.m - 1 - j : Nat) : Int) := fun h => by rw [wrap_i64 (by omega) (by omega)]; omega
          refine J.run [.n, .n, .u, .n, .n] [6, 7, 13, 15, 53, 54, 55, 56] ⟨[(6, .loc 0 0), (7, .loc 1 0), (13, .v (.slice x.a x.m x.c)), (15, .loc 2 0), (53, .v (.slice pa pn pc)), (54, .v (.int .i64 ((pn : Nat) : Int))), (55, .v (.int .i64 ((j : Nat) : Int))), (56, .v (.bool (decide (((j : Nat) : Int) < ((pn : Nat) : Int)))))], [⟨32, [.int .i64 bits]⟩, ⟨34, dcells root⟩, ⟨34, dcells (((x.done.reverse.zip path).take j).foldl (upF bits) (leafF bits leaf))⟩]⟩ [.c 44] [.c 47, .c 50] (by kernel_rfl) ?_
          refine J.cond (b := (decide (((j : Nat) : Int) < ((pn : Nat) : Int)))) (k' := 49) (by kernel_rfl) (fun hc => ?_) (fun hc => ?_)
          · try simp only [nrm] at hc
            have hc6 := hc
            refine J.rn [.n, .n, .n, .n, .n, .u] [6, 7, 13, 15, 53, 54, 55, 57] [.c 48, .c 50] [.o 53 1, .c 54, .b 3, .c 55] (by kernel_rfl) ?_
            obtain ⟨p1, o1, rfl⟩ := hp.addr (by omega)
            refine J.idx (b := p1) (off := o1) (len := pn) (i := ((j : Nat) : Int)) (sz := 32) (d := 58) (by kernel_rfl) (by omega) (by omega) ?_
            obtain ⟨x1, hx1⟩ : ∃ zq, (path)[j]? = some zq := ⟨_, List.getElem?_eq_getElem (by omega)⟩
            refine J.ld (T := 34) (b := p1) (off := o1 + j * 32) (d := 59) (v := .agg (dcells x1).toArray) (by kernel_rfl) (fun w1 A1 m1 l1 => (hp.mv m1).ld (by kernel_rfl) hx1 (by kernel_rfl)) ?_
            refine J.new (T := 34) (cs := [.int .u8 0, .int .u8 0, .int .u8 0, .int .u8 0, .int .u8 0, .int .u8 0, .int .u8 0, .int .u8 0, .int .u8 0, .int .u8 0, .int .u8 0, .int .u8 0, .int .u8 0, .int .u8 0, .int .u8 0, .int .u8 0, .int .u8 0, .int .u8 0, .int .u8 0, .int .u8 0, .int .u8 0, .int .u8 0, .int .u8 0, .int .u8 0, .int .u8 0, .int .u8 0, .int .u8 0, .int .u8 0, .int .u8 0, .int .u8 0, .int .u8 0, .int .u8 0]) (d := 17) (K := .ptr) (by kernel_rfl) (fun b6 hb6 => ?_)
            replace ho := ho.more hb6
            refine J.run [.u, .u, .n] [6, 7, 13, 15, 16, 17, 53, 54, 55] ⟨[(6, .loc 0 0), (7, .loc 1 0), (13, .v (.slice x.a x.m x.c)), (15, .loc 2 0), (16, .v (.int .i64 ((j : Nat) : Int))), (17, .loc 3 0), (53, .v (.slice (some ⟨p1, o1, none⟩) pn pc)), (54, .v (.int .i64 ((pn : Nat) : Int))), (55, .v (.int .i64 ((j : Nat) : Int)))], [⟨32, [.int .i64 bits]⟩, ⟨34, dcells root⟩, ⟨34, dcells (((x.done.reverse.zip path).take j).foldl (upF bits) (leafF bits leaf))⟩, ⟨34, dcells x1⟩]⟩ [.o 53 4, .c 54, .b 3, .c 55] [.c 54, .b 3, .c 55] (by kernel_rfl) ?_
            refine J.draw [2] nobody (by kernel_rfl) (by kernel_rfl) (fun _ h => h.elim) (fun w7 A7 m5 hr1 hX1 => ?_)
            replace hp := hp.mv m5; replace ho := ho.mv m5
            refine J.take0 [(0, .u), (1, .u), (2, .u), (3, .u), (4, .u), (5, .u), (8, .u), (10, .u)] [6, 7, 13, 15, 53, 54, 55, 60, 65, 68, 70] [(6, .loc 0 0), (7, .loc 1 0), (13, .v (.slice x.a x.m x.c)), (15, .loc 2 0), (53, .v (.slice (some ⟨p1, o1, none⟩) pn pc)), (54, .v (.int .i64 ((pn : Nat) : Int))), (55, .v (.int .i64 ((j : Nat) : Int))), (60, .v (.slice x.a x.m x.c)), (65, .v (.int .i64 (IntKind.i64.wrap ((IntKind.i64.wrap (((x.m : Nat) : Int) - 1)) - ((j : Nat) : Int))))), (68, .v (.agg [.int .i64 bits].toArray)), (70, .v (.agg (dcells x1).toArray))] [10, 8, 5, 4, 3, 2, 1, 0] (calm_body _ _ _) (by intro k _ h; exact h) hr1 (by kernel_rfl) ?_
            rw [hz1 (by omega)]
            rw [hz2 (by omega)]
            obtain ⟨p2, o2, hae1⟩ := ho.addr (by omega)
            rw [hae1] at ho
            rw [hae1]
            refine J.idxp (j := 6) (b := p2) (off := o2) (len := x.m) (i := ((x.m - 1 - j : Nat) : Int)) (sz := 1) (d := 66) (calm_body _ _ _) (by kernel_rfl) (by kernel_rfl) (by omega) (by omega) ?_
            obtain ⟨x2, hx2⟩ : ∃ zq, (x.done)[x.m - 1 - j]? = some zq := ⟨_, List.getElem?_eq_getElem (by omega)⟩
            refine J.ldp (i := 7) (T := 126) (b := p2) (off := o2 + (x.m - 1 - j) * 1) (d := 67) (v := (fnOf x2)) (calm_body _ _ _) (by kernel_rfl) (by kernel_rfl) hX1 (fun w1 m1 => ((ho.mvD m1).any (fun x _ => rfl) (by decide)).ld1 (by kernel_rfl) hx2 (j := 0) rfl) ?_
            refine J.pick1 9 (by kernel_rfl) (by kernel_rfl) ?_
            refine J.ldq (T := 34) (b := b5) (off := 0) (d := 69) (v := .agg (dcells (((x.done.reverse.zip path).take j).foldl (upF bits) (leafF bits leaf))).toArray) (by kernel_rfl) (fun w1 A1 m1 l1 => l1.lda (i := 2) rfl (by kernel_rfl) (by kernel_rfl)) ?_
            refine J.pick1 11 (by kernel_rfl) (by kernel_rfl) ?_
            rcases Bool.eq_false_or_eq_true x2 with hcb | hcb
            · subst hcb
              refine J.callq (d := some 71) (by kernel_rfl) (fun w1 A1 m1 l1 => node_calls bits (((x.done.reverse.zip path).take j).foldl (upF bits) (leafF bits leaf)) x1 nobody w1 noA) ?_
              rintro _ u3 w8 A8 rfl g3
              have m6 := g3.mv
              replace hp := hp.mv m6; replace ho := ho.mv m6
              refine J.pick1 12 (by kernel_rfl) (by kernel_rfl) ?_
              refine J.storeq (i := 2) (m' := [⟨32, [.int .i64 bits]⟩, ⟨34, dcells root⟩, ⟨34, dcells (nodeF bits (((x.done.reverse.zip path).take j).foldl (upF bits) (leafF bits leaf)) x1)⟩, ⟨34, dcells x1⟩]) (by kernel_rfl) (by simp) rfl (by simp) ?_
              refine J.pdone (by kernel_rfl) ?_
              refine J.run [.n, .n, .u, .u, .n] [6, 7, 13, 15, 53, 54, 55] ⟨[(6, .loc 0 0), (7, .loc 1 0), (13, .v (.slice (some ⟨p2, o2, none⟩) x.m x.c)), (15, .loc 2 0), (53, .v (.slice (some ⟨p1, o1, none⟩) pn pc)), (54, .v (.int .i64 ((pn : Nat) : Int))), (55, .v (.int .i64 (IntKind.i64.wrap (((j : Nat) : Int) + 1))))], [⟨32, [.int .i64 bits]⟩, ⟨34, dcells root⟩, ⟨34, dcells (nodeF bits (((x.done.reverse.zip path).take j).foldl (upF bits) (leafF bits leaf)) x1)⟩, ⟨34, dcells x1⟩]⟩ [.b 3, .c 55] [] (by kernel_rfl) ?_
              have hw1 : IntKind.i64.wrap (((j : Nat) : Int) + 1) = ((j + 1 : Nat) : Int) := by rw [wrap_i64 (by omega) (by omega)]; try omega
              rw [hw1]
              have hst : (((x.done.reverse.zip path).take (j + 1)).foldl (upF bits) (leafF bits leaf)) = upF bits (((x.done.reverse.zip path).take j).foldl (upF bits) (leafF bits leaf)) (true, x1) := fold_step (by omega) (by rw [← hml]; exact hx2) hx1
              rw [show dcells (nodeF bits (((x.done.reverse.zip path).take j).foldl (upF bits) (leafF bits leaf)) x1) = dcells (((x.done.reverse.zip path).take (j + 1)).foldl (upF bits) (leafF bits leaf)) by rw [hst]; rfl]
              exact J.again (j + 1) [6, 7, 13, 15, 53, 54, 55] 3 (by omega) (by kernel_rfl) (by kernel_rfl) (fun w1 A1 m1 => ⟨by omega, (ho.mv m1).fewer (by simp), hp.mv m1⟩)
            · subst hcb
              refine J.callq (d := some 71) (by kernel_rfl) (fun w1 A1 m1 l1 => swapped_calls bits (((x.done.reverse.zip path).take j).foldl (upF bits) (leafF bits leaf)) x1 nobody w1 noA) ?_
              rintro _ u4 w9 A9 rfl g4
              have m7 := g4.mv
              replace hp := hp.mv m7; replace ho := ho.mv m7
              refine J.pick1 12 (by kernel_rfl) (by kernel_rfl) ?_
              refine J.storeq (i := 2) (m' := [⟨32, [.int .i64 bits]⟩, ⟨34, dcells root⟩, ⟨34, dcells (nodeF bits x1 (((x.done.reverse.zip path).take j).foldl (upF bits) (leafF bits leaf)))⟩, ⟨34, dcells x1⟩]) (by kernel_rfl) (by simp) rfl (by simp) ?_
              refine J.pdone (by kernel_rfl) ?_
              refine J.run [.n, .n, .u, .u, .n] [6, 7, 13, 15, 53, 54, 55] ⟨[(6, .loc 0 0), (7, .loc 1 0), (13, .v (.slice (some ⟨p2, o2, none⟩) x.m x.c)), (15, .loc 2 0), (53, .v (.slice (some ⟨p1, o1, none⟩) pn pc)), (54, .v (.int .i64 ((pn : Nat) : Int))), (55, .v (.int .i64 (IntKind.i64.wrap (((j : Nat) : Int) + 1))))], [⟨32, [.int .i64 bits]⟩, ⟨34, dcells root⟩, ⟨34, dcells (nodeF bits x1 (((x.done.reverse.zip path).take j).foldl (upF bits) (leafF bits leaf)))⟩, ⟨34, dcells x1⟩]⟩ [.b 3, .c 55] [] (by kernel_rfl) ?_
              have hw2 : IntKind.i64.wrap (((j : Nat) : Int) + 1) = ((j + 1 : Nat) : Int) := by rw [wrap_i64 (by omega) (by omega)]; try omega
              rw [hw2]
              have hst : (((x.done.reverse.zip path).take (j + 1)).foldl (upF bits) (leafF bits leaf)) = upF bits (((x.done.reverse.zip path).take j).foldl (upF bits) (leafF bits leaf)) (false, x1) := fold_step (by omega) (by rw [← hml]; exact hx2) hx1
              rw [show dcells (nodeF bits x1 (((x.done.reverse.zip path).take j).foldl (upF bits) (leafF bits leaf))) = dcells (((x.done.reverse.zip path).take (j + 1)).foldl (upF bits) (leafF bits leaf)) by rw [hst]; rfl]
              exact J.again (j + 1) [6, 7, 13, 15, 53, 54, 55] 3 (by omega) (by kernel_rfl) (by kernel_rfl) (fun w1 A1 m1 => ⟨by omega, (ho.mv m1).fewer (by simp), hp.mv m1⟩)
          · try simp only [nrm] at hc
            have hc6 := hc
            have hje : j = pn := by omega
            subst hje
            refine J.exit (id := 2) (by kernel_rfl) (by rfl) ?_
            refine J.rn [.n, .n, .u, .u] [73, 74] [.c 56] [.o 57 2, .c 58] (by kernel_rfl) ?_
            refine J.eqA (neg := false) (T := 34) (d := 75) (b := dgEq (((x.done.reverse.zip path).take j).foldl (upF bits) (leafF bits leaf)) root) (by kernel_rfl) dig_guard (dig_eq (((x.done.reverse.zip path).take j).foldl (upF bits) (leafF bits leaf)) root) ?_
            refine J.rn [.u, .n] [12] [.o 57 3, .c 58] [.c 58] (by kernel_rfl) ?_
            refine J.ret (v := .bool (dgEq (((x.done.reverse.zip path).take j).foldl (upF bits) (leafF bits leaf)) root)) (by kernel_rfl) (by kernel_rfl) (fun w1 A1 m1 hac l1 => by rw [checkF, Int.toNat_natCast, checkN, climb, hsd, List.take_of_length_le (by simp; omega), decide_eq_true (p := 0 ≤ _ ∧ _) (by omega), decide_eq_true (p := path.length = _) (by omega)]; rfl)
end Go.Proofs.Ytkgokehkobifkaa.J

/- Package table: Fit, Leaves; slices IndexFunc, ContainsFunc. -/
namespace Go.Proofs.Ytkgokehkobifkaa.J
open Go Go.RowKit

def firstI (p : Ent → Bool) (l : List Ent) : Int := match l.findIdx? p with
  | some i => ((i : Nat) : Int)
  | none => -1
theorem firstI_some {p : Ent → Bool} {l : List Ent} {i : Nat} {x : Ent} (hx : l[i]? = some x) (hp : p x = true) (hb : ∀ j y, j < i → l[j]? = some y → p y = false) : firstI p l = ((i : Nat) : Int) := by
  have hi := (List.getElem?_eq_some_iff.1 hx)
  have : l.findIdx? p = some i := by
    rw [List.findIdx?_eq_some_iff_getElem]
    obtain ⟨h1, h2⟩ := hi
    refine ⟨h1, by rw [h2]; exact hp, fun j hj => ?_⟩
    rw [hb j _ hj (List.getElem?_eq_getElem (by omega))]; decide
  simp [firstI, this]
theorem firstI_none {p : Ent → Bool} {l : List Ent} (hb : ∀ (j : Nat) (y : Ent), l[j]? = some y → p y = false) : firstI p l = -1 := by
  have : l.findIdx? p = none := by
    rw [List.findIdx?_eq_none_iff]
    intro y hy
    obtain ⟨j, hj⟩ := List.mem_iff_getElem?.1 hy
    rw [hb j y hj]
  simp [firstI, this]
theorem firstI_any (p : Ent → Bool) (l : List Ent) : (decide (firstI p l ≥ 0)) = l.any p := by
  unfold firstI
  cases h : l.findIdx? p with
  | none =>
    rw [List.findIdx?_eq_none_iff] at h
    symm
    simp only [List.any_eq_false]
    simpa using h
  | some i =>
    obtain ⟨h1, h2, _⟩ := List.findIdx?_eq_some_iff_getElem.1 h
    have : l.any p = true := List.any_eq_true.2 ⟨_, List.getElem_mem h1, h2⟩
    rw [this]; simp

/-- What Fit asks. -/
def FitL (l : List Ent) : Prop := 0 < l.length ∧ l.length ≤ 64 ∧ SortedL l ∧ ∀ e ∈ l, e.Right
instance (l : List Ent) : Decidable (FitL l) := by unfold FitL; exact inferInstance

def wrongB (e : Ent) : Bool := !decide e.Right
theorem wrong_any {l : List Ent} : l.any wrongB = false ↔ ∀ e ∈ l, e.Right := by
  simp [wrongB]

theorem fit1_calls (e : Ent) (Ac : Nat → Prop) (W : World) (hA : ∀ k, Ac k → k < W.heap.size) :
    Calls Pr 80 #[.agg (encE e).toArray] W (Ret nobody W fun v w => v = .bool (wrongB e)) := by
  refine J.enter (fn := Try.f80) (n := 6) Try.func80 (by kernel_rfl) (by kernel_rfl) (by kernel_rfl) hA ?_
  refine J.rn [.n, .n] [0] [.c 0] [.o 1 0, .c 2] (by kernel_rfl) ?_
  refine J.new (T := 42) (cs := encE e) (d := 1) (K := .ptr) (by kernel_rfl) (fun b1 hb1 => ?_)
  refine J.rn [.u, .n, .n, .n, .u] [3] [.o 1 1, .c 2] [.o 3 1, .c 4] (by kernel_rfl) ?_
  refine J.call (d := some 4) (by kernel_rfl) (fun w1 A1 m1 l1 => right_calls e nobody w1 noA) ?_
  rintro _ u1 w1 A1 rfl g1
  have m1 := g1.mv
  refine J.rn [.u, .u, .n] [2] [.o 3 2, .c 4] [.c 4] (by kernel_rfl) ?_
  refine J.ret (v := .bool (!(decide e.Right))) (by kernel_rfl) (by kernel_rfl) (fun w1 A1 m1 hac l1 => rfl)
theorem indexFunc_Fit (a : Option Addr) (n c : Nat) (l : List Ent) (Ac : Nat → Prop) (W : World) (hA : ∀ k, Ac k → k < W.heap.size) (hs : Sl 4 encE Ac W a n c l) :
    Calls Pr 89 #[.slice a n c, (.func (.func 80) #[] #[])] W (Ret nobody W fun v w => v = .int .i64 (firstI wrongB l)) := by
  refine J.enter (fn := Try.f89) (n := 19) Try.func89 (by kernel_rfl) (by kernel_rfl) (by kernel_rfl) hA ?_
  have hlen := hs.len; have hle := hs.le; have hcap := hs.cap; simp only [maxLen] at hcap
  refine J.rn [.n, .n, .u, .n, .n, .n, .n, .u, .u, .u, .n, .n] [0, 1, 7, 8] [.c 0] [.c 6, .b 0, .c 25] (by kernel_rfl) ?_
  refine J.loop (X := Nat) (fun i => ⟨[(0, .v (.slice a n c)), (1, .v ((.func (.func 80) #[] #[]))), (7, .v (.int .i64 ((n : Nat) : Int))), (8, .v (.int .i64 ((i : Nat) : Int)))], []⟩) (fun i A w => i ≤ n ∧ Sl 4 encE A w a n c l ∧ ∀ j y, j < i → l[j]? = some y → wrongB y = false) (fun i => n - i) [0, 1, 7, 8] 0 [] 0 (by kernel_rfl) (by kernel_rfl) (by kernel_rfl) (fun w1 A1 m1 => ⟨Nat.zero_le _, hs.mv m1, fun j _ h => absurd h (Nat.not_lt_zero _)⟩) (fun i A1 w1 hI => ?_)
  obtain ⟨hi, hs, hb⟩ := hI
  refine J.rn [.n, .n, .u, .n, .n] [0, 1, 7, 8, 9] [.c 7] [.c 10, .c 13] (by kernel_rfl) ?_
  refine J.cond (b := (decide (((i : Nat) : Int) < ((n : Nat) : Int)))) (k' := 12) (by kernel_rfl) (fun hc => ?_) (fun hc => ?_)
  · try simp only [nrm] at hc
    have hc1 := hc
    refine J.rn [.n, .n, .n, .n, .n, .u, .u, .n, .n, .n, .u, .u, .u] [0, 1, 5, 7, 8, 11, 12, 13] [.c 11, .c 13] [.o 18 3, .c 19, .b 1, .c 24] (by kernel_rfl) ?_
    obtain ⟨p1, o1, rfl⟩ := hs.addr (by omega)
    refine J.idx (b := p1) (off := o1) (len := n) (i := ((i : Nat) : Int)) (sz := 4) (d := 14) (by kernel_rfl) (by omega) (by omega) ?_
    obtain ⟨x1, hx1⟩ : ∃ zq, (l)[i]? = some zq := ⟨_, List.getElem?_eq_getElem (by omega)⟩
    refine J.ld (T := 42) (b := p1) (off := o1 + i * 4) (d := 15) (v := .agg (encE x1).toArray) (by kernel_rfl) (fun w1 A1 m1 l1 => (hs.mv m1).ld (by kernel_rfl) hx1 (by kernel_rfl)) ?_
    refine J.call (d := some 16) (by kernel_rfl) (fun w1 A1 m1 l1 => fit1_calls x1 nobody w1 noA) ?_
    rintro _ u1 w2 A2 rfl g1
    have m1 := g1.mv
    replace hs := hs.mv m1
    refine J.run [.n] [0, 1, 5, 7, 8, 16] ⟨[(0, .v (.slice (some ⟨p1, o1, none⟩) n c)), (1, .v ((.func (.func 80) #[] #[]))), (5, .v (.int .i64 ((i : Nat) : Int))), (7, .v (.int .i64 ((n : Nat) : Int))), (8, .v (.int .i64 ((i : Nat) : Int))), (16, .v (.bool (wrongB x1)))], []⟩ [.o 18 6, .c 19, .b 1, .c 24] [.c 19, .b 1, .c 24] (by kernel_rfl) ?_
    refine J.cond (b := (wrongB x1)) (k' := 23) (by kernel_rfl) (fun hc => ?_) (fun hc => ?_)
    · try simp only [nrm] at hc
      have hc2 := hc
      refine J.rn [.n, .n, .u, .u, .n] [4] [.c 20, .b 1, .c 24] [.c 22, .b 1, .c 24] (by kernel_rfl) ?_
      refine J.ret (v := .int .i64 ((i : Nat) : Int)) (by kernel_rfl) (by kernel_rfl) (fun w1 A1 m1 hac l1 => by rw [firstI_some hx1 hc2 hb])
    · try simp only [nrm] at hc
      have hc2 := hc
      refine J.run [.n, .n, .n, .u, .u, .n] [0, 1, 7, 8] ⟨[(0, .v (.slice (some ⟨p1, o1, none⟩) n c)), (1, .v ((.func (.func 80) #[] #[]))), (7, .v (.int .i64 ((n : Nat) : Int))), (8, .v (.int .i64 (IntKind.i64.wrap (((i : Nat) : Int) + 1))))], []⟩ [.c 23, .b 1, .c 24] [] (by kernel_rfl) ?_
      have hw1 : IntKind.i64.wrap (((i : Nat) : Int) + 1) = ((i + 1 : Nat) : Int) := by rw [wrap_i64 (by omega) (by omega)]; try omega
      rw [hw1]
      exact J.again (i + 1) [0, 1, 7, 8] 0 (by omega) (by kernel_rfl) (by kernel_rfl) (fun w1 A1 m1 => ⟨by omega, hs.mv m1, fun j y hj hy => by rcases Nat.lt_succ_iff_lt_or_eq.1 hj with h | rfl; exact hb j y h hy; rw [hx1] at hy; cases hy; exact hc2⟩)
  · try simp only [nrm] at hc
    have hc1 := hc
    refine J.exit (id := 0) (by kernel_rfl) (by rfl) ?_
    refine J.rn [.n, .n, .u, .n] [4] [.c 25] [.c 27] (by kernel_rfl) ?_
    refine J.ret (v := .int .i64 (-1)) (by kernel_rfl) (by kernel_rfl) (fun w1 A1 m1 hac l1 => by rw [firstI_none fun j y hy => hb j y (by have := (List.getElem?_eq_some_iff.1 hy).1; omega) hy])
theorem containsFunc_Fit (a : Option Addr) (n c : Nat) (l : List Ent) (Ac : Nat → Prop) (W : World) (hA : ∀ k, Ac k → k < W.heap.size) (hs : Sl 4 encE Ac W a n c l) :
    Calls Pr 79 #[.slice a n c, (.func (.func 80) #[] #[])] W (Ret nobody W fun v w => v = .bool (l.any wrongB)) := by
  refine J.enter (fn := Try.f79) (n := 9) Try.func79 (by kernel_rfl) (by kernel_rfl) (by kernel_rfl) hA ?_
  refine J.rn [.n, .n, .u, .n, .n, .n, .u, .u] [5, 6] [.c 0] [.o 3 2, .c 4] (by kernel_rfl) ?_
  refine J.call (d := some 7) (by kernel_rfl) (fun w1 A1 m1 l1 => indexFunc_Fit a n c l nobody w1 noA (hs.mv m1).any) ?_
  rintro _ u1 w1 A1 rfl g1
  have m1 := g1.mv
  replace hs := hs.mv m1
  refine J.rn [.u, .u, .n] [4] [.o 3 3, .c 4] [.c 4] (by kernel_rfl) ?_
  refine J.ret (v := .bool (decide ((firstI wrongB l) ≥ 0))) (by kernel_rfl) (by kernel_rfl) (fun w1 A1 m1 hac l1 => by rw [← firstI_any wrongB l])
theorem fit_calls (a : Option Addr) (n c : Nat) (l : List Ent) (Ac : Nat → Prop) (W : World) (hA : ∀ k, Ac k → k < W.heap.size) (hs : Sl 4 encE Ac W a n c l) :
    Calls Pr 33 #[.slice a n c] W (Ret nobody W fun v w => v = .bool (decide (FitL l))) := by
  refine J.enter (fn := Try.f33) (n := 20) Try.func33 (by kernel_rfl) (by kernel_rfl) (by kernel_rfl) hA ?_
  have hlen := hs.len
  refine J.run [.n, .n, .u, .n, .n, .n, .u, .u, .u, .u] [0, 6] ⟨[(0, .v (.slice a n c)), (6, .v (.bool (decide (((n : Nat) : Int) > 0))))], []⟩ [.c 0] [.o 3 4, .c 4] (by kernel_rfl) ?_
  rcases Bool.eq_false_or_eq_true (decide (((n : Nat) : Int) > 0)) with hc | hc
  · rw [hc]
    try simp only [nrm] at hc
    have hc1 := hc
    refine J.run [.w, .w, .w, .u, .u] [0, 11] ⟨[(0, .v (.slice a n c)), (11, .v (.bool (decide (((n : Nat) : Int) ≤ 64))))], []⟩ [.o 3 4, .c 4] [.o 3 9, .c 4] (by kernel_rfl) ?_
    rcases Bool.eq_false_or_eq_true (decide (((n : Nat) : Int) ≤ 64)) with hc | hc
    · rw [hc]
      try simp only [nrm] at hc
      have hc2 := hc
      refine J.rn [.w] [0, 11, 12] [.o 3 9, .c 4] [.o 3 10, .c 4] (by kernel_rfl) ?_
      refine J.call (d := some 13) (by kernel_rfl) (fun w1 A1 m1 l1 => sorted_calls a n c l nobody w1 noA (hs.mv m1).any) ?_
      rintro _ u1 w1 A1 rfl g1
      have m1 := g1.mv
      replace hs := hs.mv m1
      refine J.run [.u, .u] [0, 15] ⟨[(0, .v (.slice a n c)), (15, .v (.bool (decide (SortedL l))))], []⟩ [.o 3 11, .c 4] [.o 3 13, .c 4] (by kernel_rfl) ?_
      rcases Bool.eq_false_or_eq_true (decide (SortedL l)) with hc | hc
      · rw [hc]
        try simp only [nrm] at hc
        have hc3 := hc
        refine J.rn [.w] [15, 16] [.o 3 13, .c 4] [.o 3 14, .c 4] (by kernel_rfl) ?_
        refine J.call (d := some 17) (by kernel_rfl) (fun w1 A1 m1 l1 => containsFunc_Fit a n c l nobody w1 noA (hs.mv m1).any) ?_
        rintro _ u2 w2 A2 rfl g2
        have m2 := g2.mv
        replace hs := hs.mv m2
        refine J.run [.w, .u, .u, .n] [2] ⟨[(2, .v (.bool (!(l.any wrongB))))], []⟩ [.o 3 15, .c 4] [.c 4] (by kernel_rfl) ?_
        rcases Bool.eq_false_or_eq_true (!(l.any wrongB)) with hc | hc
        · rw [hc]
          try simp only [nrm] at hc
          have hce := hc
          have hwa := wrong_any (l := l)
          refine J.ret (v := .bool true) (by kernel_rfl) (by kernel_rfl) (fun w1 A1 m1 hac l1 => congrArg Value.bool (by exact (decide_eq_true ⟨by omega, by omega, by assumption, hwa.1 (by simpa using hce)⟩).symm))
        · rw [hc]
          try simp only [nrm] at hc
          have hce := hc
          have hwa := wrong_any (l := l)
          refine J.ret (v := .bool false) (by kernel_rfl) (by kernel_rfl) (fun w1 A1 m1 hac l1 => congrArg Value.bool (by refine (decide_eq_false ?_).symm; rintro ⟨f1, f2, f3, f4⟩; first | omega | contradiction | (have := hwa.2 f4; simp_all)))
      · rw [hc]
        try simp only [nrm] at hc
        have hc3 := hc
        refine J.rn [.x, .x, .x, .u, .u, .n] [2] [.o 3 13, .c 4] [.c 4] (by kernel_rfl) ?_
        have hwa := wrong_any (l := l)
        refine J.ret (v := .bool false) (by kernel_rfl) (by kernel_rfl) (fun w1 A1 m1 hac l1 => congrArg Value.bool (by refine (decide_eq_false ?_).symm; rintro ⟨f1, f2, f3, f4⟩; first | omega | contradiction | (have := hwa.2 f4; simp_all)))
    · rw [hc]
      try simp only [nrm] at hc
      have hc2 := hc
      refine J.rn [.x, .x, .u, .u, .x, .x, .x, .u, .u, .n] [2] [.o 3 9, .c 4] [.c 4] (by kernel_rfl) ?_
      have hwa := wrong_any (l := l)
      refine J.ret (v := .bool false) (by kernel_rfl) (by kernel_rfl) (fun w1 A1 m1 hac l1 => congrArg Value.bool (by refine (decide_eq_false ?_).symm; rintro ⟨f1, f2, f3, f4⟩; first | omega | contradiction | (have := hwa.2 f4; simp_all)))
  · rw [hc]
    try simp only [nrm] at hc
    have hc1 := hc
    refine J.rn [.x, .x, .x, .u, .u, .x, .x, .u, .u, .x, .x, .x, .u, .u, .n] [2] [.o 3 4, .c 4] [.c 4] (by kernel_rfl) ?_
    have hwa := wrong_any (l := l)
    refine J.ret (v := .bool false) (by kernel_rfl) (by kernel_rfl) (fun w1 A1 m1 hac l1 => congrArg Value.bool (by refine (decide_eq_false ?_).symm; rintro ⟨f1, f2, f3, f4⟩; first | omega | contradiction | (have := hwa.2 f4; simp_all)))
end Go.Proofs.Ytkgokehkobifkaa.J

/- Package table: Leaves, Describe. -/
namespace Go.Proofs.Ytkgokehkobifkaa.J
open Go Go.RowKit

theorem Sl.mvB {α : Type} {k N : Nat} {enc : α → List Value} {A A1 X : Nat → Prop} {w w1 : World} {a : Option Addr} {n c : Nat} {l : List α} (h : Sl k enc (fun q => A q ∨ q < N) w a n c l) (m : Mv X A A1 w w1) : Sl k enc (fun q => A1 q ∨ q < N) w1 a n c l := by
  have h1 := (h.weaken (A1 := A) fun _ => .inl).mv m
  refine ⟨h1.len, h1.le, h1.cap, fun hne => ?_⟩
  obtain ⟨b, o, e1, e2, e3, e4⟩ := h.at_ hne
  obtain ⟨b', o', f1, f2, f3, f4⟩ := h1.at_ hne
  rw [e1] at f1; cases f1
  exact ⟨b, o, e1, fun q => q.elim f2 (fun e => e2 (.inr e)), f3, f4⟩

/-- Slices that are all new, read. -/
def RowsIn (N : Nat) (A : Nat → Prop) (w : World) (vs : List SlV) (ls : List (List UInt8)) : Prop :=
  vs.length = ls.length ∧ ∀ (i : Nat) (v : SlV) (l : List UInt8), vs[i]? = some v → ls[i]? = some l → Sl 1 u8 (fun k => A k ∨ k < N) w v.1 v.2.1 v.2.2 l
theorem RowsIn.nil (N : Nat) (A : Nat → Prop) (w : World) : RowsIn N A w [] [] := ⟨rfl, fun i v l h _ => by simp at h⟩
theorem RowsIn.mv {N : Nat} {A A1 X : Nat → Prop} {w w1 : World} {vs : List SlV} {ls : List (List UInt8)} (h : RowsIn N A w vs ls) (m : Mv X A A1 w w1) : RowsIn N A1 w1 vs ls :=
  ⟨h.1, fun i v l hv hl => (h.2 i v l hv hl).mvB m⟩
theorem RowsIn.snoc {N : Nat} {A : Nat → Prop} {w : World} {vs : List SlV} {ls : List (List UInt8)} (h : RowsIn N A w vs ls) {v : SlV} {l : List UInt8} (hr : Sl 1 u8 (fun k => A k ∨ k < N) w v.1 v.2.1 v.2.2 l) : RowsIn N A w (vs ++ [v]) (ls ++ [l]) := by
  refine ⟨by simp [h.1], fun i v' l' hv hl => ?_⟩
  rcases Nat.lt_or_ge i vs.length with hi | hi
  · rw [List.getElem?_append_left hi] at hv
    rw [List.getElem?_append_left (by rw [← h.1]; exact hi)] at hl
    exact h.2 i v' l' hv hl
  · rw [List.getElem?_append_right hi] at hv
    rw [List.getElem?_append_right (by rw [← h.1]; exact hi)] at hl
    have h0 : i - vs.length = 0 := by
      have := (List.getElem?_eq_some_iff.1 hv).1
      simp at this; omega
    rw [← h.1] at hl
    rw [h0] at hv hl
    simp at hv hl
    subst hv; subst hl; exact hr
/-- Made here, and read by whoever has got it. -/
def RowsNew (N : Nat) (w : World) (a : Option Addr) (n c : Nat) (ls : List (List UInt8)) : Prop := ∀ A : Nat → Prop, (∀ k, A k → k < N) → Rows A w a n c ls
theorem RowsIn.new {N : Nat} {ρ : List Nat} {A : Nat → Prop} {w : World} {vs : List SlV} {ls : List (List UInt8)} (h : RowsIn N A w vs ls) {a : Option Addr} {n c : Nat} (ho : Nw N 23 1 ρ A w a n c (vs.flatMap encSl)) : RowsNew N w a n c ls := fun A' hA' =>
  ⟨vs, ho.sl (fun x _ => rfl) (by decide) hA', h.1, fun i v l hv hl => (h.2 i v l hv hl).weaken fun k hk => .inr (hA' k hk)⟩
theorem encSl_flat (x : SlV) : [x].flatMap encSl = encSl x := by simp

theorem entB_len (e : Ent) : (entB e).length ≤ 10000 := by
  unfold entB
  split
  · rename_i h
    obtain ⟨r1, r2, r3, r4, r5, r6⟩ := h
    have h1 := putN_len e.seq.toNat (by omega)
    have h2 := putText_len e.key (by simp only [maxLen]; omega)
    have h3 := putText_len e.value (by simp only [maxLen]; omega)
    split <;> simp only [List.length_append, List.length_cons, List.length_nil] <;> omega
  · simp
theorem short_ents (l : List Ent) : Short (l.map entB) := by
  intro x hx
  obtain ⟨e, _, rfl⟩ := List.mem_map.1 hx
  have := entB_len e; omega

structure LvSt where
  i : Nat
  a : Option Addr
  c : Nat
  vs : List SlV

theorem leaves_calls (a : Option Addr) (n c : Nat) (l : List Ent) (hn : n ≤ 1000000) (Ac : Nat → Prop) (W : World) (hA : ∀ k, Ac k → k < W.heap.size) (hs : Sl 4 encE Ac W a n c l) :
    Calls Pr 14 #[.slice a n c] W (Ret nobody W fun v w => ∃ a' c', v = .slice a' n c' ∧ RowsNew W.heap.size w a' n c' (l.map entB)) := by
  refine J.enter (fn := Try.f14) (n := 19) Try.func14 (by kernel_rfl) (by kernel_rfl) (by kernel_rfl) hA ?_
  have hlen := hs.len; have hle := hs.le; have hcap := hs.cap; simp only [maxLen] at hcap
  refine J.rn [.n, .n, .u, .n, .n, .n, .u, .n, .n, .n, .n, .u, .u, .u, .n, .n] [3, 6, 7, 8] [.c 0] [.c 8, .b 0, .c 21] (by kernel_rfl) ?_
  refine J.loop (X := LvSt) (fun x => ⟨[(3, .v (.slice x.a x.i x.c)), (6, .v (.slice a n c)), (7, .v (.int .i64 ((n : Nat) : Int))), (8, .v (.int .i64 ((x.i : Nat) : Int)))], []⟩) (fun x A w => x.i ≤ n ∧ Sl 4 encE A w a n c l ∧ Nw W.heap.size 23 1 [] A w x.a x.i x.c (x.vs.flatMap encSl) ∧ RowsIn W.heap.size A w x.vs ((l.take x.i).map entB)) (fun x => n - x.i) [3, 6, 7, 8] 0 [] ⟨0, none, 0, []⟩ (by kernel_rfl) (by kernel_rfl) (by kernel_rfl) (fun w1 A1 m1 => ⟨Nat.zero_le _, hs.mv m1, Nw.nil _ _ _ _ _ _, RowsIn.nil _ _ _⟩) (fun x A1 w1 hI => ?_)
  obtain ⟨hi, hs, ho, hri⟩ := hI
  refine J.rn [.n, .n, .u, .n, .n] [3, 6, 7, 8, 9] [.c 9] [.c 12, .c 15] (by kernel_rfl) ?_
  refine J.cond (b := (decide (((x.i : Nat) : Int) < ((n : Nat) : Int)))) (k' := 14) (by kernel_rfl) (fun hc => ?_) (fun hc => ?_)
  · try simp only [nrm] at hc
    have hc1 := hc
    refine J.rn [.n, .n, .n, .n, .n] [3, 6, 7, 8] [.c 13, .c 15] [.o 18 0, .c 19, .b 1, .c 20] (by kernel_rfl) ?_
    obtain ⟨p1, o1, rfl⟩ := hs.addr (by omega)
    refine J.idx (b := p1) (off := o1) (len := n) (i := ((x.i : Nat) : Int)) (sz := 4) (d := 10) (by kernel_rfl) (by omega) (by omega) ?_
    obtain ⟨x1, hx1⟩ : ∃ zq, (l)[x.i]? = some zq := ⟨_, List.getElem?_eq_getElem (by omega)⟩
    refine J.ld (T := 42) (b := p1) (off := o1 + x.i * 4) (d := 11) (v := .agg (encE x1).toArray) (by kernel_rfl) (fun w1 A1 m1 l1 => (hs.mv m1).ld (by kernel_rfl) hx1 (by kernel_rfl)) ?_
    refine J.new (T := 42) (cs := [.string (⟨#[]⟩ : Str), .string (⟨#[]⟩ : Str), .bool false, .int .i64 0]) (d := 5) (K := .ptr) (by kernel_rfl) (fun b1 hb1 => ?_)
    replace ho := ho.more hb1
    refine J.run [.u, .n, .n, .u, .u] [6, 7, 8, 12, 13] ⟨[(6, .v (.slice (some ⟨p1, o1, none⟩) n c)), (7, .v (.int .i64 ((n : Nat) : Int))), (8, .v (.int .i64 ((x.i : Nat) : Int))), (12, .v (.slice x.a x.i x.c)), (13, .v (.agg (encE x1).toArray))], [⟨42, encE x1⟩]⟩ [.o 18 3, .c 19, .b 1, .c 20] [.o 19 2, .b 1, .c 20] (by kernel_rfl) ?_
    refine J.call (d := some 14) (by kernel_rfl) (fun w1 A1 m1 l1 => bytes_calls x1 nobody w1 noA) ?_
    rintro _ u1 w2 A2 ⟨a1, n1, c1, rfl, hnl1, hn1⟩ g1
    have m1 := g1.mv
    replace hs := hs.mv m1; replace hri := hri.mv m1; replace ho := ho.mv m1
    have hrow : Sl 1 u8 (fun k => A2 k ∨ k < W.heap.size) w2 a1 n1 c1 (entB x1) := hn1.sl (fun x _ => u8_len x) (by decide) (fun k hk => hk.elim (g1.bd k) (fun h => Nat.lt_of_lt_of_le h g1.big))
    refine J.new (T := 23) (cs := [.slice a1 n1 c1]) (d := 15) (K := (.sl 1)) (by kernel_rfl) (fun b2 hb2 => ?_)
    replace ho := ho.more hb2
    have hri2 := hri.snoc (v := (a1, n1, c1)) hrow
    refine J.append (e := 23) (sz := 1) (a := x.a) (nn := x.i) (c := x.c) (T := 47) (Tx := 47) (x := .slice (some ⟨b2, 0, none⟩) 1 1) (bytes := 24) (d := 16) (xs := x.vs.flatMap encSl) (news := [.slice a1 n1 c1]) (m := 1) (by kernel_rfl) (by kernel_rfl) ho.own (.inr ho) (fun w1 A1 m1 l1 => l1.src (i := 1) rfl (e := 23) (by kernel_rfl) rfl rfl) (by simp only [maxLen]; omega) (by omega) ?_
    intro a2 c2 w3 A3 hn2 m2
    replace hs := hs.mv m2; replace hri2 := hri2.mv m2
    replace hn2 := hn2.re (n' := x.i + 1) (ys := (x.vs ++ [(a1, n1, c1)]).flatMap encSl) rfl (by first | (simp only [List.flatMap_append, dbytes_flat, byteCells_u8]; done) | (rw [List.flatMap_append]; rfl))
    refine J.run [.u, .n, .n, .n, .u, .u, .n] [3, 6, 7, 8] ⟨[(3, .v (.slice a2 (x.i + 1) c2)), (6, .v (.slice (some ⟨p1, o1, none⟩) n c)), (7, .v (.int .i64 ((n : Nat) : Int))), (8, .v (.int .i64 (IntKind.i64.wrap (((x.i : Nat) : Int) + 1))))], [⟨42, encE x1⟩, ⟨23, [.slice a1 n1 c1]⟩]⟩ [.o 19 5, .b 1, .c 20] [] (by kernel_rfl) ?_
    have hw1 : IntKind.i64.wrap (((x.i : Nat) : Int) + 1) = ((x.i + 1 : Nat) : Int) := by rw [wrap_i64 (by omega) (by omega)]; try omega
    rw [hw1]
    have htk : (l.take x.i).map entB ++ [entB x1] = (l.take (x.i + 1)).map entB := by rw [take_snoc hx1, List.map_append]; rfl
    rw [htk] at hri2
    exact J.again ⟨x.i + 1, a2, c2, x.vs ++ [(a1, n1, c1)]⟩ [3, 6, 7, 8] 0 (by simp only; omega) (by kernel_rfl) (by kernel_rfl) (fun w1 A1 m1 => ⟨by simp only; omega, hs.mv m1, (hn2.mv m1).fewer (by simp), hri2.mv m1⟩)
  · try simp only [nrm] at hc
    have hc1 := hc
    have hin : x.i = n := by omega
    rw [hin] at ho hri; rw [hin]; rw [List.take_of_length_le (by omega)] at hri
    refine J.exit (id := 0) (by kernel_rfl) (by rfl) ?_
    refine J.rn [.n, .n, .u, .u, .n] [2] [.c 21] [.c 23] (by kernel_rfl) ?_
    refine J.ret (v := .slice x.a n x.c) (by kernel_rfl) (by kernel_rfl) (fun w1 A1 m1 hac l1 => ⟨_, _, rfl, (hri.mv m1).new (ho.mv m1)⟩)
end Go.Proofs.Ytkgokehkobifkaa.J

/- Package table: Describe. -/
namespace Go.Proofs.Ytkgokehkobifkaa.J
open Go Go.RowKit

def firstK (l : List Ent) : Str := (l.getD 0 ent0).key
def lastK (l : List Ent) : Str := (l.getD (l.length - 1) ent0).key
def descF (bits level : Int) (l : List Ent) : Tab × Int :=
  if FitL l ∧ 0 ≤ level ∧ level < 4 then (⟨level, ((l.length : Nat) : Int), rootF bits (l.map entB), firstK l, lastK l⟩, 0) else (tab0, 1)
theorem descF_yes {bits level : Int} {l : List Ent} (h1 : FitL l) (h2 : 0 ≤ level) (h3 : level < 4) : descF bits level l = (⟨level, ((l.length : Nat) : Int), rootF bits (l.map entB), firstK l, lastK l⟩, 0) := if_pos ⟨h1, h2, h3⟩
theorem descF_no {bits level : Int} {l : List Ent} (h : ¬ (FitL l ∧ 0 ≤ level ∧ level < 4)) : descF bits level l = (tab0, 1) := if_neg h
theorem firstK_eq {l : List Ent} {x : Ent} (h : l[0]? = some x) : firstK l = x.key := by simp [firstK, List.getD, h]
theorem lastK_eq {l : List Ent} {x : Ent} (h : l[l.length - 1]? = some x) : lastK l = x.key := by simp [lastK, List.getD, h]

theorem describe_calls (bits level : Int) (a : Option Addr) (n c : Nat) (l : List Ent) (Ac : Nat → Prop) (W : World) (hA : ∀ k, Ac k → k < W.heap.size) (hs : Sl 4 encE Ac W a n c l) :
    Calls Pr 10 #[.agg [.int .i64 bits].toArray, .int .i64 level, .slice a n c] W (Ret nobody W fun v w => v = .tuple #[.agg (encT (descF bits level l).1).toArray, .int .i64 (descF bits level l).2]) := by
  refine J.enter (fn := Try.f10) (n := 39) Try.func10 (by kernel_rfl) (by kernel_rfl) (by kernel_rfl) hA ?_
  have hlen := hs.len; have hle := hs.le; have hcap := hs.cap; simp only [maxLen] at hcap
  refine J.rn [.n, .n] [0, 1, 2] [.c 0] [.o 1 0, .c 2] (by kernel_rfl) ?_
  refine J.new (T := 32) (cs := [.int .i64 bits]) (d := 3) (K := .ptr) (by kernel_rfl) (fun b1 hb1 => ?_)
  refine J.new (T := 36) (cs := [.int .i64 0, .int .i64 0, .int .u8 0, .int .u8 0, .int .u8 0, .int .u8 0, .int .u8 0, .int .u8 0, .int .u8 0, .int .u8 0, .int .u8 0, .int .u8 0, .int .u8 0, .int .u8 0, .int .u8 0, .int .u8 0, .int .u8 0, .int .u8 0, .int .u8 0, .int .u8 0, .int .u8 0, .int .u8 0, .int .u8 0, .int .u8 0, .int .u8 0, .int .u8 0, .int .u8 0, .int .u8 0, .int .u8 0, .int .u8 0, .int .u8 0, .int .u8 0, .int .u8 0, .int .u8 0, .string (⟨#[]⟩ : Str), .string (⟨#[]⟩ : Str)]) (d := 6) (K := .ptr) (by kernel_rfl) (fun b2 hb2 => ?_)
  refine J.rn [.u, .n, .n, .n, .n, .u] [1, 2, 3, 6, 8] [.o 1 2, .c 2] [.o 4 1, .c 5, .c 10] (by kernel_rfl) ?_
  refine J.call (d := some 9) (by kernel_rfl) (fun w1 A1 m1 l1 => fit_calls a n c l nobody w1 noA (hs.mv m1).any) ?_
  rintro _ u1 w1 A1 rfl g1
  have m1 := g1.mv
  replace hs := hs.mv m1
  refine J.run [.u, .u] [1, 2, 3, 6, 11] ⟨[(1, .v (.int .i64 level)), (2, .v (.slice a n c)), (3, .loc 0 0), (6, .loc 1 0), (11, .v (.bool (!(decide (FitL l)))))], [⟨32, [.int .i64 bits]⟩, ⟨36, (encT tab0)⟩]⟩ [.o 4 2, .c 5, .c 10] [.o 4 4, .c 5, .c 10] (by kernel_rfl) ?_
  rcases Bool.eq_false_or_eq_true (!(decide (FitL l))) with hc | hc
  · rw [hc]
    try simp only [nrm] at hc
    have hc1 := hc
    refine J.rn [.x, .x, .u, .u, .x, .x, .u, .n] [1, 2, 3, 6, 18] [.o 4 4, .c 5, .c 10] [.c 5, .c 10] (by kernel_rfl) ?_
    refine J.cond (b := true) (k' := 9) (by kernel_rfl) (fun _ => ?_) (fun hc => absurd hc (by decide))
    refine J.rn [.n, .n, .u, .u, .u, .n] [6, 7] [.c 6, .c 10] [.c 8, .c 10] (by kernel_rfl) ?_
    refine J.ret (v := .tuple #[.agg [.int .i64 0, .int .i64 0, .int .u8 0, .int .u8 0, .int .u8 0, .int .u8 0, .int .u8 0, .int .u8 0, .int .u8 0, .int .u8 0, .int .u8 0, .int .u8 0, .int .u8 0, .int .u8 0, .int .u8 0, .int .u8 0, .int .u8 0, .int .u8 0, .int .u8 0, .int .u8 0, .int .u8 0, .int .u8 0, .int .u8 0, .int .u8 0, .int .u8 0, .int .u8 0, .int .u8 0, .int .u8 0, .int .u8 0, .int .u8 0, .int .u8 0, .int .u8 0, .int .u8 0, .int .u8 0, .string (⟨#[]⟩ : Str), .string (⟨#[]⟩ : Str)].toArray, .int .i64 1]) (by kernel_rfl) (by kernel_rfl) (fun w1 A1 m1 hac l1 => by rw [descF_no (by rintro ⟨h1, h2, h3⟩; first | omega | contradiction)]; rfl)
  · rw [hc]
    try simp only [nrm] at hc
    have hc1 := hc
    refine J.run [.w, .w, .u, .u] [1, 2, 3, 6, 15] ⟨[(1, .v (.int .i64 level)), (2, .v (.slice a n c)), (3, .loc 0 0), (6, .loc 1 0), (15, .v (.bool (decide (level < 0))))], [⟨32, [.int .i64 bits]⟩, ⟨36, (encT tab0)⟩]⟩ [.o 4 4, .c 5, .c 10] [.o 4 8, .c 5, .c 10] (by kernel_rfl) ?_
    rcases Bool.eq_false_or_eq_true (decide (level < 0)) with hc | hc
    · rw [hc]
      try simp only [nrm] at hc
      have hc2 := hc
      refine J.rn [.x, .x, .u, .n] [1, 2, 3, 6, 18] [.o 4 8, .c 5, .c 10] [.c 5, .c 10] (by kernel_rfl) ?_
      refine J.cond (b := true) (k' := 9) (by kernel_rfl) (fun _ => ?_) (fun hc => absurd hc (by decide))
      refine J.rn [.n, .n, .u, .u, .u, .n] [6, 7] [.c 6, .c 10] [.c 8, .c 10] (by kernel_rfl) ?_
      refine J.ret (v := .tuple #[.agg [.int .i64 0, .int .i64 0, .int .u8 0, .int .u8 0, .int .u8 0, .int .u8 0, .int .u8 0, .int .u8 0, .int .u8 0, .int .u8 0, .int .u8 0, .int .u8 0, .int .u8 0, .int .u8 0, .int .u8 0, .int .u8 0, .int .u8 0, .int .u8 0, .int .u8 0, .int .u8 0, .int .u8 0, .int .u8 0, .int .u8 0, .int .u8 0, .int .u8 0, .int .u8 0, .int .u8 0, .int .u8 0, .int .u8 0, .int .u8 0, .int .u8 0, .int .u8 0, .int .u8 0, .int .u8 0, .string (⟨#[]⟩ : Str), .string (⟨#[]⟩ : Str)].toArray, .int .i64 1]) (by kernel_rfl) (by kernel_rfl) (fun w1 A1 m1 hac l1 => by rw [descF_no (by rintro ⟨h1, h2, h3⟩; first | omega | contradiction)]; rfl)
    · rw [hc]
      try simp only [nrm] at hc
      have hc2 := hc
      refine J.rn [.w, .w, .u, .n] [1, 2, 3, 6, 18] [.o 4 8, .c 5, .c 10] [.c 5, .c 10] (by kernel_rfl) ?_
      refine J.cond (b := (decide (level ≥ 4))) (k' := 9) (by kernel_rfl) (fun hc => ?_) (fun hc => ?_)
      · try simp only [nrm] at hc
        have hc3 := hc
        refine J.run [.n, .n, .u, .u, .u, .n] [6, 7] ⟨[(6, .loc 1 0), (7, .v (.int .i64 1))], [⟨32, [.int .i64 bits]⟩, ⟨36, (encT tab0)⟩]⟩ [.c 6, .c 10] [.c 8, .c 10] (by kernel_rfl) ?_
        refine J.ret (v := .tuple #[.agg [.int .i64 0, .int .i64 0, .int .u8 0, .int .u8 0, .int .u8 0, .int .u8 0, .int .u8 0, .int .u8 0, .int .u8 0, .int .u8 0, .int .u8 0, .int .u8 0, .int .u8 0, .int .u8 0, .int .u8 0, .int .u8 0, .int .u8 0, .int .u8 0, .int .u8 0, .int .u8 0, .int .u8 0, .int .u8 0, .int .u8 0, .int .u8 0, .int .u8 0, .int .u8 0, .int .u8 0, .int .u8 0, .int .u8 0, .int .u8 0, .int .u8 0, .int .u8 0, .int .u8 0, .int .u8 0, .string (⟨#[]⟩ : Str), .string (⟨#[]⟩ : Str)].toArray, .int .i64 1]) (by kernel_rfl) (by kernel_rfl) (fun w1 A1 m1 hac l1 => by rw [descF_no (by rintro ⟨h1, h2, h3⟩; first | omega | contradiction)]; rfl)
      · try simp only [nrm] at hc
        have hc3 := hc
        refine J.run [.n, .n] [1, 2, 3, 6] ⟨[(1, .v (.int .i64 level)), (2, .v (.slice a n c)), (3, .loc 0 0), (6, .loc 1 0)], [⟨32, [.int .i64 bits]⟩, ⟨36, (encT tab0)⟩]⟩ [.c 9, .c 10] [.c 11, .c 12] (by kernel_rfl) ?_
        have hF : FitL l := hc1
        obtain ⟨f1, f2, f3, f4⟩ := id hF
        have hmx : IntKind.i64.wrap (((n : Nat) : Int) - 1) = ((n - 1 : Nat) : Int) := by rw [wrap_i64 (by omega) (by omega)]; omega
        refine J.draw [1] nobody (by kernel_rfl) (by kernel_rfl) (fun _ h => h.elim) (fun w2 A2 m2 hr1 hX1 => ?_)
        replace hs := hs.mv m2
        refine J.take0 [(0, .u), (1, .u), (2, .u), (3, .u), (4, .u), (7, .u), (11, .u), (12, .u), (13, .u), (14, .u)] [6, 20, 22, 23, 24, 27, 31, 34] [(6, .loc 1 0), (20, .v (.int .i64 level)), (22, .v (.int .i64 ((n : Nat) : Int))), (23, .v (.agg [.int .i64 bits].toArray)), (24, .v (.slice a n c)), (27, .v (.slice a n c)), (31, .v (.slice a n c)), (34, .v (.int .i64 (IntKind.i64.wrap (((n : Nat) : Int) - 1))))] [14, 13, 12, 11, 7, 4, 3, 2, 1, 0] (calm_body _ _ _) (by intro k _ h; exact h) hr1 (by kernel_rfl) ?_
        rw [hmx]
        obtain ⟨p1, o1, rfl⟩ := hs.addr (by omega)
        refine J.idxp (j := 8) (b := p1) (off := o1) (len := n) (i := 0) (sz := 4) (d := 28) (calm_body _ _ _) (by kernel_rfl) (by kernel_rfl) (by omega) (by omega) ?_
        refine J.take0 [(9, .u)] [6, 20, 22, 23, 24, 29, 31, 34] [(6, .loc 1 0), (20, .v (.int .i64 level)), (22, .v (.int .i64 ((n : Nat) : Int))), (23, .v (.agg [.int .i64 bits].toArray)), (24, .v (.slice (some ⟨p1, o1, none⟩) n c)), (29, .v (.pointer (some ⟨p1, o1 + 0 * 4, none⟩))), (31, .v (.slice (some ⟨p1, o1, none⟩) n c)), (34, .v (.int .i64 ((n - 1 : Nat) : Int)))] [9, 8, 14, 13, 12, 11, 7, 4, 3, 2, 1, 0] (calm_body _ _ _) (by intro k _ h; exact h) hr1 (by kernel_rfl) ?_
        obtain ⟨x1, hx1⟩ : ∃ zq, (l)[0]? = some zq := ⟨_, List.getElem?_eq_getElem (by omega)⟩
        refine J.ldp (i := 10) (T := 9) (b := p1) (off := o1 + 0 * 4) (d := 30) (v := .string x1.key) (calm_body _ _ _) (by kernel_rfl) (by kernel_rfl) hX1 (fun w1 m1 => (hs.mv m1).ld1 (by kernel_rfl) hx1 (j := 0) rfl) ?_
        refine J.idxp (j := 15) (b := p1) (off := o1) (len := n) (i := ((n - 1 : Nat) : Int)) (sz := 4) (d := 35) (calm_body _ _ _) (by kernel_rfl) (by kernel_rfl) (by omega) (by omega) ?_
        refine J.take0 [(16, .u)] [6, 20, 22, 23, 24, 30, 36] [(6, .loc 1 0), (20, .v (.int .i64 level)), (22, .v (.int .i64 ((n : Nat) : Int))), (23, .v (.agg [.int .i64 bits].toArray)), (24, .v (.slice (some ⟨p1, o1, none⟩) n c)), (30, .v (.string x1.key)), (36, .v (.pointer (some ⟨p1, o1 + (n - 1) * 4, none⟩)))] [16, 15, 10, 9, 8, 14, 13, 12, 11, 7, 4, 3, 2, 1, 0] (calm_body _ _ _) (by intro k _ h; exact h) hr1 (by kernel_rfl) ?_
        obtain ⟨x2, hx2⟩ : ∃ zq, (l)[n - 1]? = some zq := ⟨_, List.getElem?_eq_getElem (by omega)⟩
        refine J.ldp (i := 17) (T := 9) (b := p1) (off := o1 + (n - 1) * 4) (d := 37) (v := .string x2.key) (calm_body _ _ _) (by kernel_rfl) (by kernel_rfl) hX1 (fun w1 m1 => (hs.mv m1).ld1 (by kernel_rfl) hx2 (j := 0) rfl) ?_
        refine J.pick1 5 (by kernel_rfl) (by kernel_rfl) ?_
        refine J.callq (d := some 25) (by kernel_rfl) (fun w1 A1 m1 l1 => leaves_calls (some ⟨p1, o1, none⟩) n c l (by omega) nobody w1 noA (hs.mv m1).any) ?_
        rintro _ u2 w3 A3 ⟨a1, c1, rfl, hrn1⟩ g2
        have m3 := g2.mv
        replace hs := hs.mv m3
        have hr2 : Rows A3 w3 a1 n c1 (l.map entB) := hrn1 A3 g2.bd
        refine J.pick1 6 (by kernel_rfl) (by kernel_rfl) ?_
        refine J.callq (d := some 26) (by kernel_rfl) (fun w1 A1 m1 l1 => root_calls bits _ a1 n c1 (l.map entB) (Nat.lt_succ_self _) (short_ents _) (by simp; omega) nobody w1 noA (hr2.mv m1).any) ?_
        rintro _ u3 w4 A4 rfl g3
        have m4 := g3.mv
        replace hs := hs.mv m4; replace hr2 := hr2.mv m4
        refine J.take1 [(18, .u)] [6, 38] [(6, .loc 1 0), (38, .v (.agg [.int .i64 level, .int .i64 ((n : Nat) : Int), .int .u8 ((((rootF bits (l.map entB)) 0).toNat : Nat) : Int), .int .u8 ((((rootF bits (l.map entB)) 1).toNat : Nat) : Int), .int .u8 ((((rootF bits (l.map entB)) 2).toNat : Nat) : Int), .int .u8 ((((rootF bits (l.map entB)) 3).toNat : Nat) : Int), .int .u8 ((((rootF bits (l.map entB)) 4).toNat : Nat) : Int), .int .u8 ((((rootF bits (l.map entB)) 5).toNat : Nat) : Int), .int .u8 ((((rootF bits (l.map entB)) 6).toNat : Nat) : Int), .int .u8 ((((rootF bits (l.map entB)) 7).toNat : Nat) : Int), .int .u8 ((((rootF bits (l.map entB)) 8).toNat : Nat) : Int), .int .u8 ((((rootF bits (l.map entB)) 9).toNat : Nat) : Int), .int .u8 ((((rootF bits (l.map entB)) 10).toNat : Nat) : Int), .int .u8 ((((rootF bits (l.map entB)) 11).toNat : Nat) : Int), .int .u8 ((((rootF bits (l.map entB)) 12).toNat : Nat) : Int), .int .u8 ((((rootF bits (l.map entB)) 13).toNat : Nat) : Int), .int .u8 ((((rootF bits (l.map entB)) 14).toNat : Nat) : Int), .int .u8 ((((rootF bits (l.map entB)) 15).toNat : Nat) : Int), .int .u8 ((((rootF bits (l.map entB)) 16).toNat : Nat) : Int), .int .u8 ((((rootF bits (l.map entB)) 17).toNat : Nat) : Int), .int .u8 ((((rootF bits (l.map entB)) 18).toNat : Nat) : Int), .int .u8 ((((rootF bits (l.map entB)) 19).toNat : Nat) : Int), .int .u8 ((((rootF bits (l.map entB)) 20).toNat : Nat) : Int), .int .u8 ((((rootF bits (l.map entB)) 21).toNat : Nat) : Int), .int .u8 ((((rootF bits (l.map entB)) 22).toNat : Nat) : Int), .int .u8 ((((rootF bits (l.map entB)) 23).toNat : Nat) : Int), .int .u8 ((((rootF bits (l.map entB)) 24).toNat : Nat) : Int), .int .u8 ((((rootF bits (l.map entB)) 25).toNat : Nat) : Int), .int .u8 ((((rootF bits (l.map entB)) 26).toNat : Nat) : Int), .int .u8 ((((rootF bits (l.map entB)) 27).toNat : Nat) : Int), .int .u8 ((((rootF bits (l.map entB)) 28).toNat : Nat) : Int), .int .u8 ((((rootF bits (l.map entB)) 29).toNat : Nat) : Int), .int .u8 ((((rootF bits (l.map entB)) 30).toNat : Nat) : Int), .int .u8 ((((rootF bits (l.map entB)) 31).toNat : Nat) : Int), .string x1.key, .string x2.key].toArray))] [18, 6, 5, 17, 16, 15, 10, 9, 8, 14, 13, 12, 11, 7, 4, 3, 2, 1, 0] (calm_body _ _ _) (by kernel_rfl) ?_
        refine J.pick1 19 (by kernel_rfl) (by kernel_rfl) ?_
        refine J.storeq (i := 1) (m' := [⟨32, [.int .i64 bits]⟩, ⟨36, [.int .i64 level, .int .i64 ((n : Nat) : Int), .int .u8 ((((rootF bits (l.map entB)) 0).toNat : Nat) : Int), .int .u8 ((((rootF bits (l.map entB)) 1).toNat : Nat) : Int), .int .u8 ((((rootF bits (l.map entB)) 2).toNat : Nat) : Int), .int .u8 ((((rootF bits (l.map entB)) 3).toNat : Nat) : Int), .int .u8 ((((rootF bits (l.map entB)) 4).toNat : Nat) : Int), .int .u8 ((((rootF bits (l.map entB)) 5).toNat : Nat) : Int), .int .u8 ((((rootF bits (l.map entB)) 6).toNat : Nat) : Int), .int .u8 ((((rootF bits (l.map entB)) 7).toNat : Nat) : Int), .int .u8 ((((rootF bits (l.map entB)) 8).toNat : Nat) : Int), .int .u8 ((((rootF bits (l.map entB)) 9).toNat : Nat) : Int), .int .u8 ((((rootF bits (l.map entB)) 10).toNat : Nat) : Int), .int .u8 ((((rootF bits (l.map entB)) 11).toNat : Nat) : Int), .int .u8 ((((rootF bits (l.map entB)) 12).toNat : Nat) : Int), .int .u8 ((((rootF bits (l.map entB)) 13).toNat : Nat) : Int), .int .u8 ((((rootF bits (l.map entB)) 14).toNat : Nat) : Int), .int .u8 ((((rootF bits (l.map entB)) 15).toNat : Nat) : Int), .int .u8 ((((rootF bits (l.map entB)) 16).toNat : Nat) : Int), .int .u8 ((((rootF bits (l.map entB)) 17).toNat : Nat) : Int), .int .u8 ((((rootF bits (l.map entB)) 18).toNat : Nat) : Int), .int .u8 ((((rootF bits (l.map entB)) 19).toNat : Nat) : Int), .int .u8 ((((rootF bits (l.map entB)) 20).toNat : Nat) : Int), .int .u8 ((((rootF bits (l.map entB)) 21).toNat : Nat) : Int), .int .u8 ((((rootF bits (l.map entB)) 22).toNat : Nat) : Int), .int .u8 ((((rootF bits (l.map entB)) 23).toNat : Nat) : Int), .int .u8 ((((rootF bits (l.map entB)) 24).toNat : Nat) : Int), .int .u8 ((((rootF bits (l.map entB)) 25).toNat : Nat) : Int), .int .u8 ((((rootF bits (l.map entB)) 26).toNat : Nat) : Int), .int .u8 ((((rootF bits (l.map entB)) 27).toNat : Nat) : Int), .int .u8 ((((rootF bits (l.map entB)) 28).toNat : Nat) : Int), .int .u8 ((((rootF bits (l.map entB)) 29).toNat : Nat) : Int), .int .u8 ((((rootF bits (l.map entB)) 30).toNat : Nat) : Int), .int .u8 ((((rootF bits (l.map entB)) 31).toNat : Nat) : Int), .string x1.key, .string x2.key]⟩]) (by kernel_rfl) (by simp) rfl (by simp) ?_
        refine J.take1 [(20, .u)] [6, 7] [(6, .loc 1 0), (7, .v (.int .i64 0))] [20, 19, 18, 6, 5, 17, 16, 15, 10, 9, 8, 14, 13, 12, 11, 7, 4, 3, 2, 1, 0] (calm_body _ _ _) (by kernel_rfl) ?_
        refine J.pdone (by kernel_rfl) ?_
        rw [hlen] at hx2
        refine J.ret (v := .tuple #[.agg [.int .i64 level, .int .i64 ((n : Nat) : Int), .int .u8 ((((rootF bits (l.map entB)) 0).toNat : Nat) : Int), .int .u8 ((((rootF bits (l.map entB)) 1).toNat : Nat) : Int), .int .u8 ((((rootF bits (l.map entB)) 2).toNat : Nat) : Int), .int .u8 ((((rootF bits (l.map entB)) 3).toNat : Nat) : Int), .int .u8 ((((rootF bits (l.map entB)) 4).toNat : Nat) : Int), .int .u8 ((((rootF bits (l.map entB)) 5).toNat : Nat) : Int), .int .u8 ((((rootF bits (l.map entB)) 6).toNat : Nat) : Int), .int .u8 ((((rootF bits (l.map entB)) 7).toNat : Nat) : Int), .int .u8 ((((rootF bits (l.map entB)) 8).toNat : Nat) : Int), .int .u8 ((((rootF bits (l.map entB)) 9).toNat : Nat) : Int), .int .u8 ((((rootF bits (l.map entB)) 10).toNat : Nat) : Int), .int .u8 ((((rootF bits (l.map entB)) 11).toNat : Nat) : Int), .int .u8 ((((rootF bits (l.map entB)) 12).toNat : Nat) : Int), .int .u8 ((((rootF bits (l.map entB)) 13).toNat : Nat) : Int), .int .u8 ((((rootF bits (l.map entB)) 14).toNat : Nat) : Int), .int .u8 ((((rootF bits (l.map entB)) 15).toNat : Nat) : Int), .int .u8 ((((rootF bits (l.map entB)) 16).toNat : Nat) : Int), .int .u8 ((((rootF bits (l.map entB)) 17).toNat : Nat) : Int), .int .u8 ((((rootF bits (l.map entB)) 18).toNat : Nat) : Int), .int .u8 ((((rootF bits (l.map entB)) 19).toNat : Nat) : Int), .int .u8 ((((rootF bits (l.map entB)) 20).toNat : Nat) : Int), .int .u8 ((((rootF bits (l.map entB)) 21).toNat : Nat) : Int), .int .u8 ((((rootF bits (l.map entB)) 22).toNat : Nat) : Int), .int .u8 ((((rootF bits (l.map entB)) 23).toNat : Nat) : Int), .int .u8 ((((rootF bits (l.map entB)) 24).toNat : Nat) : Int), .int .u8 ((((rootF bits (l.map entB)) 25).toNat : Nat) : Int), .int .u8 ((((rootF bits (l.map entB)) 26).toNat : Nat) : Int), .int .u8 ((((rootF bits (l.map entB)) 27).toNat : Nat) : Int), .int .u8 ((((rootF bits (l.map entB)) 28).toNat : Nat) : Int), .int .u8 ((((rootF bits (l.map entB)) 29).toNat : Nat) : Int), .int .u8 ((((rootF bits (l.map entB)) 30).toNat : Nat) : Int), .int .u8 ((((rootF bits (l.map entB)) 31).toNat : Nat) : Int), .string x1.key, .string x2.key].toArray, .int .i64 0]) (by kernel_rfl) (by kernel_rfl) (fun w1 A1 m1 hac l1 => by rw [descF_yes hF (by omega) (by omega), firstK_eq hx1, lastK_eq hx2, hlen]; rfl)
end Go.Proofs.Ytkgokehkobifkaa.J

/- Package seek: Covers, below, Overlaps. -/
namespace Go.Proofs.Ytkgokehkobifkaa.J
open Go Go.RowKit

def coversF (x : Tab) (k : Str) : Bool := sle x.first k && sle k x.last
def belowF (k hi : Str) : Bool := seq hi ⟨#[]⟩ || slt k hi
def overF (x : Tab) (lo hi : Str) : Bool := belowF lo hi && (!slt x.last lo) && belowF x.first hi

theorem covers_calls (x : Tab) (k : Str) (Ac : Nat → Prop) (W : World) (hA : ∀ k, Ac k → k < W.heap.size) :
    Calls Pr 26 #[.agg (encT x).toArray, .string k] W (Ret nobody W fun v w => v = .bool (coversF x k)) := by
  refine J.enter (fn := Try.f26) (n := 15) Try.func26 (by kernel_rfl) (by kernel_rfl) (by kernel_rfl) hA ?_
  refine J.rn [.n, .n] [0, 1] [.c 0] [.o 1 0, .c 2] (by kernel_rfl) ?_
  refine J.new (T := 36) (cs := encT x) (d := 2) (K := .ptr) (by kernel_rfl) (fun b1 hb1 => ?_)
  refine J.run [.u, .n, .n, .n, .u, .u, .u, .u, .u] [1, 2, 9] ⟨[(1, .v (.string k)), (2, .loc 0 0), (9, .v (.bool (sle x.first k)))], [⟨36, encT x⟩]⟩ [.o 1 1, .c 2] [.o 3 5, .c 4] (by kernel_rfl) ?_
  rcases Bool.eq_false_or_eq_true (sle x.first k) with hc | hc
  · rw [hc]
    try simp only [nrm] at hc
    have hc1 := hc
    refine J.rn [.w, .w, .w, .w, .u, .u, .n] [4] [.o 3 5, .c 4] [.c 4] (by kernel_rfl) ?_
    refine J.ret (v := .bool (sle k x.last)) (by kernel_rfl) (by kernel_rfl) (fun w1 A1 m1 hac l1 => congrArg Value.bool (by simp_all [coversF]))
  · rw [hc]
    try simp only [nrm] at hc
    have hc1 := hc
    refine J.rn [.x, .x, .x, .x, .u, .u, .n] [4] [.o 3 5, .c 4] [.c 4] (by kernel_rfl) ?_
    refine J.ret (v := .bool false) (by kernel_rfl) (by kernel_rfl) (fun w1 A1 m1 hac l1 => congrArg Value.bool (by simp_all [coversF]))
theorem below_calls (k hi : Str) (Ac : Nat → Prop) (W : World) (hA : ∀ k, Ac k → k < W.heap.size) :
    Calls Pr 53 #[.string k, .string hi] W (Ret nobody W fun v w => v = .bool (belowF k hi)) := by
  refine J.enter (fn := Try.f53) (n := 12) Try.func53 (by kernel_rfl) (by kernel_rfl) (by kernel_rfl) hA ?_
  refine J.run [.n, .n, .u, .n, .n, .n, .u, .u, .u] [0, 1, 7] ⟨[(0, .v (.string k)), (1, .v (.string hi)), (7, .v (.bool ((seq hi (⟨#[]⟩ : Str)))))], []⟩ [.c 0] [.o 3 3, .c 4] (by kernel_rfl) ?_
  rcases Bool.eq_false_or_eq_true ((seq hi (⟨#[]⟩ : Str))) with hc | hc
  · rw [hc]
    try simp only [nrm] at hc
    have hc1 := hc
    refine J.rn [.x, .x, .x, .u, .u, .n] [4] [.o 3 3, .c 4] [.c 4] (by kernel_rfl) ?_
    refine J.ret (v := .bool true) (by kernel_rfl) (by kernel_rfl) (fun w1 A1 m1 hac l1 => congrArg Value.bool (by simp_all [belowF]))
  · rw [hc]
    try simp only [nrm] at hc
    have hc1 := hc
    refine J.rn [.w, .w, .w, .u, .u, .n] [4] [.o 3 3, .c 4] [.c 4] (by kernel_rfl) ?_
    refine J.ret (v := .bool (slt k hi)) (by kernel_rfl) (by kernel_rfl) (fun w1 A1 m1 hac l1 => congrArg Value.bool (by simp_all [belowF]))
theorem overlaps_calls (x : Tab) (lo hi : Str) (Ac : Nat → Prop) (W : World) (hA : ∀ k, Ac k → k < W.heap.size) :
    Calls Pr 27 #[.agg (encT x).toArray, .string lo, .string hi] W (Ret nobody W fun v w => v = .bool (overF x lo hi)) := by
  refine J.enter (fn := Try.f27) (n := 22) Try.func27 (by kernel_rfl) (by kernel_rfl) (by kernel_rfl) hA ?_
  refine J.rn [.n, .n] [0, 1, 2] [.c 0] [.o 1 0, .c 2] (by kernel_rfl) ?_
  refine J.new (T := 36) (cs := encT x) (d := 3) (K := .ptr) (by kernel_rfl) (fun b1 hb1 => ?_)
  refine J.rn [.u, .n, .n, .n, .u, .u] [1, 2, 3, 7, 8] [.o 1 1, .c 2] [.o 3 2, .c 4] (by kernel_rfl) ?_
  refine J.call (d := some 9) (by kernel_rfl) (fun w1 A1 m1 l1 => below_calls lo hi nobody w1 noA) ?_
  rintro _ u1 w1 A1 rfl g1
  have m1 := g1.mv
  refine J.run [.u] [1, 2, 3, 10] ⟨[(1, .v (.string lo)), (2, .v (.string hi)), (3, .loc 0 0), (10, .v (.bool (belowF lo hi)))], [⟨36, encT x⟩]⟩ [.o 3 3, .c 4] [.o 3 4, .c 4] (by kernel_rfl) ?_
  rcases Bool.eq_false_or_eq_true (belowF lo hi) with hc | hc
  · rw [hc]
    try simp only [nrm] at hc
    have hc1 := hc
    refine J.run [.w, .w, .w, .w, .u, .u] [2, 3, 16] ⟨[(2, .v (.string hi)), (3, .loc 0 0), (16, .v (.bool (!(slt x.last lo))))], [⟨36, encT x⟩]⟩ [.o 3 4, .c 4] [.o 3 10, .c 4] (by kernel_rfl) ?_
    rcases Bool.eq_false_or_eq_true (!(slt x.last lo)) with hc | hc
    · rw [hc]
      try simp only [nrm] at hc
      have hc2 := hc
      refine J.rn [.w, .w, .w] [16, 18, 19] [.o 3 10, .c 4] [.o 3 13, .c 4] (by kernel_rfl) ?_
      refine J.call (d := some 20) (by kernel_rfl) (fun w1 A1 m1 l1 => below_calls x.first hi nobody w1 noA) ?_
      rintro _ u2 w2 A2 rfl g2
      have m2 := g2.mv
      refine J.rn [.u, .u, .n] [6] [.o 3 14, .c 4] [.c 4] (by kernel_rfl) ?_
      refine J.ret (v := .bool (belowF x.first hi)) (by kernel_rfl) (by kernel_rfl) (fun w1 A1 m1 hac l1 => congrArg Value.bool (by simp_all [overF]))
    · rw [hc]
      try simp only [nrm] at hc
      have hc2 := hc
      refine J.rn [.x, .x, .x, .x, .u, .u, .n] [6] [.o 3 10, .c 4] [.c 4] (by kernel_rfl) ?_
      refine J.ret (v := .bool false) (by kernel_rfl) (by kernel_rfl) (fun w1 A1 m1 hac l1 => congrArg Value.bool (by simp_all [overF]))
  · rw [hc]
    try simp only [nrm] at hc
    have hc1 := hc
    refine J.run [.x, .x, .x, .x, .u, .u, .x, .x, .x, .x, .u, .u, .n] [6] ⟨[(6, .v (.bool false))], [⟨36, encT x⟩]⟩ [.o 3 4, .c 4] [.c 4] (by kernel_rfl) ?_
    refine J.ret (v := .bool false) (by kernel_rfl) (by kernel_rfl) (fun w1 A1 m1 hac l1 => congrArg Value.bool (by simp_all [overF]))
end Go.Proofs.Ytkgokehkobifkaa.J

/- More rules: calls of functions without a body. -/
namespace Go.Proofs.Ytkgokehkobifkaa.J
open Go Go.RowKit

section
variable {P : Program} {B : Code} {Q : Exit → Act → World → Prop} {n : Nat} {W : World} {Ac M A : Nat → Prop} {s : SS} {ρ : List Nat} {w0 : World} {r t : List It} {k j : Nat}

def exOf (B : Code) (e : Env) (ρ : List Nat) (n k j : Nat) : Option (FuncId × Value × Value × Nat) :=
  match nowOp B e k j with
  | some o => match o.dst, o.op with
    | some d, .call ⟨.value (.func F), args, _⟩ => bif Nat.blt d n then (match args.toList with
      | [x, y] => match evv e ρ none x, evv e ρ none y with
        | some u, some v => some (F, u, v, d)
        | _, _ => none
      | _ => none) else none
    | _, _ => none
  | none => none

theorem J.ext2 {F : FuncId} {x y v : Value} {d : Nat} (hx : exOf B s.env ρ n k j = some (F, x, y, d)) (hr : ∀ w, (callFunc F #[x, y]).run P w = .ok (.value v) w)
    (h : J P B Q n W Ac M (.o k (j + 1) :: r) ⟨put s.env d (.v v), s.mem⟩ ρ A w0) : J P B Q n W Ac M (.o k j :: r) s ρ A w0 := by
  unfold exOf at hx
  split at hx
  · rename_i o ho
    split at hx
    · rename_i d' F' args tys hd hop
      obtain ⟨hdn, hx⟩ := bif_some hx
      split at hx
      · rename_i x' y' ha
        split at hx
        · rename_i u v' h1 h2
          cases hx
          refine J.readG .text ho hd (blt_iff.1 hdn) (fun a w ok => ?_) h
          have e1 : args = #[x', y'] := Array.toList_inj.1 ha
          subst e1
          have ef : a.eval (.func F) = .func (.func F) #[] #[] := rfl
          unfold execOp
          simp [hop, resolve, invoke, Deferred.ofValue, ef, Sem.run_bind, Sem.run_pure, Result.andThen_ok, List.map_toArray, List.map_cons, List.map_nil, evv_den ok.fits (GOk.none _) h1, evv_den ok.fits (GOk.none _) h2, hr]
        · cases hx
      · cases hx
    · cases hx
  · cases hx
end
end Go.Proofs.Ytkgokehkobifkaa.J

/- Package strings: Compare; package seek: place. -/
namespace Go.Proofs.Ytkgokehkobifkaa.J
open Go Go.RowKit

theorem cmp_bl : ∀ (a b : List UInt8), Lib.compareBytes a b = if Op.bytesLess a b = true then -1 else if Op.bytesLess b a = true then 1 else 0
  | [], [] => rfl
  | [], _ :: _ => rfl
  | _ :: _, [] => rfl
  | x :: a, y :: b => by
    have ih := cmp_bl a b
    simp only [Lib.compareBytes, Op.bytesLess, ih, Bool.or_eq_true, decide_eq_true_eq, Bool.and_eq_true, beq_iff_eq]
    by_cases h1 : x < y
    · simp [h1]
    · by_cases h2 : y < x
      · have h3 : ¬ x = y := fun e => by subst e; exact h1 h2
        have h4 : ¬ y = x := fun e => h3 e.symm
        simp [h1, h2, h3, h4]
      · have h3 : x = y := UInt8.le_antisymm (UInt8.not_lt.1 h2) (UInt8.not_lt.1 h1)
        subst h3
        simp [h1]
theorem cmpB_eq (a b : Str) : Lib.compareBytes a.data.toList b.data.toList = cmpS a b := by
  rw [cmp_bl]
  unfold cmpS slt
  rw [ByteArray.toList_eq, ByteArray.toList_eq]
theorem cmpstring_run (a b : Str) (w : World) : (callFunc 113 #[.string a, .string b]).run Pr w = .ok (.value (.int .i64 (cmpS a b))) w := by
  rw [run_callFunc_extern (P := Pr) (fn := Try.f113) Try.func113 (by kernel_rfl) (by kernel_rfl) (by kernel_rfl) (e := Extern.BytealgCompare.compare) (by kernel_rfl), Lib.run_compareString, cmpB_eq]
  rfl

theorem compareString_calls (x y : Str) (Ac : Nat → Prop) (W : World) (hA : ∀ k, Ac k → k < W.heap.size) :
    Calls Pr 97 #[.string x, .string y] W (Ret nobody W fun v w => v = .int .i64 (cmpS x y)) := by
  refine J.enter (fn := Try.f97) (n := 8) Try.func97 (by kernel_rfl) (by kernel_rfl) (by kernel_rfl) hA ?_
  refine J.rn [.n, .n, .u, .n, .n, .n, .u, .u] [5, 6] [.c 0] [.o 3 2, .c 4] (by kernel_rfl) ?_
  refine J.ext2 (F := 113) (x := .string x) (y := .string y) (d := 7) (by kernel_rfl) (cmpstring_run x y) ?_
  refine J.rn [.u, .n] [4] [.o 3 3, .c 4] [.c 4] (by kernel_rfl) ?_
  refine J.ret (v := .int .i64 (cmpS x y)) (by kernel_rfl) (by kernel_rfl) (fun w1 A1 m1 hac l1 => rfl)
theorem sCompare_calls (x y : Str) (Ac : Nat → Prop) (W : World) (hA : ∀ k, Ac k → k < W.heap.size) :
    Calls Pr 72 #[.string x, .string y] W (Ret nobody W fun v w => v = .int .i64 (cmpS x y)) := by
  refine J.enter (fn := Try.f72) (n := 8) Try.func72 (by kernel_rfl) (by kernel_rfl) (by kernel_rfl) hA ?_
  refine J.rn [.n, .n, .u, .n, .n, .n, .u, .u] [5, 6] [.c 0] [.o 3 2, .c 4] (by kernel_rfl) ?_
  refine J.call (d := some 7) (by kernel_rfl) (fun w1 A1 m1 l1 => compareString_calls x y nobody w1 noA) ?_
  rintro _ u1 w1 A1 rfl g1
  have m1 := g1.mv
  refine J.rn [.u, .n] [4] [.o 3 3, .c 4] [.c 4] (by kernel_rfl) ?_
  refine J.ret (v := .int .i64 (cmpS x y)) (by kernel_rfl) (by kernel_rfl) (fun w1 A1 m1 hac l1 => rfl)
theorem place1_calls (e : Ent) (k : Str) (Ac : Nat → Prop) (W : World) (hA : ∀ k, Ac k → k < W.heap.size) :
    Calls Pr 85 #[.agg (encE e).toArray, .string k] W (Ret nobody W fun v w => v = .int .i64 (cmpS e.key k)) := by
  refine J.enter (fn := Try.f85) (n := 9) Try.func85 (by kernel_rfl) (by kernel_rfl) (by kernel_rfl) hA ?_
  refine J.rn [.n, .n] [0, 1] [.c 0] [.o 1 0, .c 2] (by kernel_rfl) ?_
  refine J.new (T := 42) (cs := encE e) (d := 2) (K := .ptr) (by kernel_rfl) (fun b1 hb1 => ?_)
  refine J.rn [.u, .n, .n, .n, .u, .u, .u] [6, 7] [.o 1 1, .c 2] [.o 3 3, .c 4] (by kernel_rfl) ?_
  refine J.call (d := some 8) (by kernel_rfl) (fun w1 A1 m1 l1 => sCompare_calls e.key k nobody w1 noA) ?_
  rintro _ u1 w1 A1 rfl g1
  have m1 := g1.mv
  refine J.rn [.u, .n] [4] [.o 3 4, .c 4] [.c 4] (by kernel_rfl) ?_
  refine J.ret (v := .int .i64 (cmpS e.key k)) (by kernel_rfl) (by kernel_rfl) (fun w1 A1 m1 hac l1 => rfl)
end Go.Proofs.Ytkgokehkobifkaa.J

/- Package slices: BinarySearchFunc; package seek: place. -/
namespace Go.Proofs.Ytkgokehkobifkaa.J
open Go Go.RowKit

theorem sorted_mono {l : List Ent} (h : SortedL l) : ∀ (d i : Nat) (a b : Ent), l[i]? = some a → l[i + d + 1]? = some b → slt a.key b.key = true
  | 0, i, a, b, ha, hb => (sorted_iff l).1 h i a b ha hb
  | d + 1, i, a, b, ha, hb => by
    have hlt := (List.getElem?_eq_some_iff.1 hb).1
    have hm : l[i + d + 1]? = some l[i + d + 1] := List.getElem?_eq_getElem (by omega)
    exact slt_trans (sorted_mono h d i a _ ha hm) ((sorted_iff l).1 h (i + d + 1) _ b hm hb)
theorem sorted_lt {l : List Ent} (h : SortedL l) {i j : Nat} {a b : Ent} (hij : i < j) (ha : l[i]? = some a) (hb : l[j]? = some b) : slt a.key b.key = true :=
  sorted_mono h (j - i - 1) i a b ha (by rw [show i + (j - i - 1) + 1 = j by omega]; exact hb)

theorem cntLt_at {k : Str} : ∀ {l : List Ent} {i : Nat}, i ≤ l.length → (∀ (q : Nat) (a : Ent), q < i → l[q]? = some a → slt a.key k = true) → (∀ (q : Nat) (a : Ent), i ≤ q → l[q]? = some a → slt a.key k = false) → cntLt k l = i
  | [], i, hi, _, _ => by simp at hi; subst hi; rfl
  | x :: r, 0, _, _, h2 => by
    have h0 := h2 0 x (Nat.le_refl _) rfl
    have := cntLt_at (k := k) (l := r) (i := 0) (Nat.zero_le _) (fun _ _ h => absurd h (Nat.not_lt_zero _)) (fun q a hq ha => h2 (q + 1) a (Nat.zero_le _) (by simpa using ha))
    unfold cntLt at *
    rw [List.countP_cons, this, h0]; rfl
  | x :: r, i + 1, hi, h1, h2 => by
    have h0 := h1 0 x (Nat.zero_lt_succ _) rfl
    have := cntLt_at (k := k) (l := r) (i := i) (by simpa using hi) (fun q a hq ha => h1 (q + 1) a (by omega) (by simpa using ha)) (fun q a hq ha => h2 (q + 1) a (by omega) (by simpa using ha))
    unfold cntLt at *
    rw [List.countP_cons, this, h0]; rfl
theorem hasKey_at {k : Str} {l : List Ent} (hs : SortedL l) {i : Nat} (h1 : ∀ (q : Nat) (a : Ent), q < i → l[q]? = some a → slt a.key k = true) (h2 : ∀ (q : Nat) (a : Ent), i ≤ q → l[q]? = some a → slt a.key k = false) {x : Ent} (hx : l[i]? = some x) :
    hasKey k l = seq x.key k := by
  cases h : seq x.key k with
  | true => exact List.any_eq_true.2 ⟨x, List.mem_of_getElem? hx, h⟩
  | false =>
    unfold hasKey
    rw [List.any_eq_false]
    intro a ha hc
    obtain ⟨q, hq⟩ := List.mem_iff_getElem?.1 ha
    have hk := seq_iff.1 hc
    rcases Nat.lt_trichotomy q i with hlt | rfl | hgt
    · have := h1 q a hlt hq; rw [hk, slt_irrefl] at this; cases this
    · rw [hx] at hq; cases hq; rw [hc] at h; cases h
    · have h3 := sorted_lt hs hgt hx hq
      rw [hk] at h3
      have := h2 i x (Nat.le_refl _) hx
      rw [this] at h3; cases h3
theorem hasKey_end {k : Str} {l : List Ent} (h1 : ∀ (q : Nat) (a : Ent), q < l.length → l[q]? = some a → slt a.key k = true) : hasKey k l = false := by
  unfold hasKey
  rw [List.any_eq_false]
  intro a ha hc
  obtain ⟨q, hq⟩ := List.mem_iff_getElem?.1 ha
  have := h1 q a (List.getElem?_eq_some_iff.1 hq).1 hq
  rw [seq_iff.1 hc, slt_irrefl] at this; cases this

theorem cmpS_lt {a b : Str} : cmpS a b < 0 ↔ slt a b = true := by
  have := cmpS_ge (a := a) (b := b)
  cases h : slt a b with
  | true => rw [h] at this; simp at this ⊢; omega
  | false => rw [h] at this; simp at this ⊢; omega
theorem cmpS_zero (a b : Str) : (cmpS a b == 0) = seq a b := by
  rw [Bool.eq_iff_iff, beq_iff_eq, seq_iff]
  unfold cmpS
  constructor
  · intro h
    rcases slt_tri a b with h1 | h1 | h1
    · rw [if_pos h1] at h; cases h
    · exact h1
    · rw [if_neg (by rw [slt_asymm h1]; decide), if_pos h1] at h; cases h
  · rintro rfl; rw [slt_irrefl]; rfl

theorem mid_eq {i j : Nat} (h : i + j ≤ 9223372036854775807) : IntKind.i64.wrap (Int.fdiv (IntKind.u64.wrap ((i + j : Nat) : Int)) (2 ^ 1)) = (((i + j) / 2 : Nat) : Int) := by
  rw [wrap_u64n (by omega), fdiv_nat, wrap_i64 (by omega) (by omega)]

structure BsSt where
  i : Nat
  j : Nat

theorem bsearch_place (a : Option Addr) (n c : Nat) (l : List Ent) (k : Str) (hso : SortedL l) (hn : n ≤ 1000000) (Ac : Nat → Prop) (W : World) (hA : ∀ k, Ac k → k < W.heap.size) (hs : Sl 4 encE Ac W a n c l) :
    Calls Pr 70 #[.slice a n c, .string k, (.func (.func 85) #[] #[])] W (Ret nobody W fun v w => v = .tuple #[.int .i64 ((cntLt k l : Nat) : Int), .bool (hasKey k l)]) := by
  refine J.enter (fn := Try.f70) (n := 49) Try.func70 (by kernel_rfl) (by kernel_rfl) (by kernel_rfl) hA ?_
  have hlen := hs.len; have hle := hs.le; have hcap := hs.cap; simp only [maxLen] at hcap
  refine J.rn [.n, .n, .u, .u, .n, .n, .n, .u, .u, .u, .n, .n, .n, .u, .u, .u, .n, .n, .n] [0, 1, 2, 8, 9, 10] [.c 0] [.c 8, .b 0, .c 23] (by kernel_rfl) ?_
  refine J.loop (X := BsSt) (fun x => ⟨[(0, .v (.slice a n c)), (1, .v (.string k)), (2, .v ((.func (.func 85) #[] #[]))), (8, .v (.int .i64 ((n : Nat) : Int))), (9, .v (.int .i64 ((x.i : Nat) : Int))), (10, .v (.int .i64 ((x.j : Nat) : Int)))], []⟩) (fun x A w => x.i ≤ x.j ∧ x.j ≤ n ∧ Sl 4 encE A w a n c l ∧ (∀ (q : Nat) (a : Ent), q < x.i → l[q]? = some a → slt a.key k = true) ∧ (∀ (q : Nat) (a : Ent), x.j ≤ q → l[q]? = some a → slt a.key k = false)) (fun x => x.j - x.i) [0, 1, 2, 8, 9, 10] 0 [] ⟨0, n⟩ (by kernel_rfl) (by kernel_rfl) (by kernel_rfl) (fun w1 A1 m1 => ⟨Nat.zero_le _, Nat.le_refl _, hs.mv m1, fun _ _ h => absurd h (Nat.not_lt_zero _), fun q a h hq => by have := (List.getElem?_eq_some_iff.1 hq).1; simp only at h; omega⟩) (fun x A1 w1 hI => ?_)
  obtain ⟨hij, hjn, hs, hb1, hb2⟩ := hI
  refine J.rn [.n, .n, .n, .u, .u, .u, .n] [0, 1, 2, 8, 9, 10, 17] [.c 9] [.c 12, .c 15] (by kernel_rfl) ?_
  refine J.cond (b := (decide (((x.i : Nat) : Int) < ((x.j : Nat) : Int)))) (k' := 14) (by kernel_rfl) (fun hc => ?_) (fun hc => ?_)
  · try simp only [nrm] at hc
    have hc1 := hc
    refine J.run [.n, .n, .n, .n, .u, .u, .u, .u, .u, .u, .u, .n, .n, .n, .u, .u, .u] [0, 1, 2, 8, 9, 10, 11, 24, 25, 26] ⟨[(0, .v (.slice a n c)), (1, .v (.string k)), (2, .v ((.func (.func 85) #[] #[]))), (8, .v (.int .i64 ((n : Nat) : Int))), (9, .v (.int .i64 ((x.i : Nat) : Int))), (10, .v (.int .i64 ((x.j : Nat) : Int))), (11, .v (.int .i64 (IntKind.i64.wrap (Int.fdiv (IntKind.u64.wrap (IntKind.i64.wrap (((x.i : Nat) : Int) + ((x.j : Nat) : Int)))) (2 ^ 1))))), (24, .v ((.func (.func 85) #[] #[]))), (25, .v (.slice a n c)), (26, .v (.int .i64 (IntKind.i64.wrap (Int.fdiv (IntKind.u64.wrap (IntKind.i64.wrap (((x.i : Nat) : Int) + ((x.j : Nat) : Int)))) (2 ^ 1)))))], []⟩ [.c 13, .c 15] [.o 19 3, .c 20, .b 1] (by kernel_rfl) ?_
    have hw1 : IntKind.i64.wrap (((x.i : Nat) : Int) + ((x.j : Nat) : Int)) = ((x.i + x.j : Nat) : Int) := by rw [wrap_i64 (by omega) (by omega)]; try omega
    rw [hw1]
    rw [mid_eq (i := x.i) (j := x.j) (by omega)]
    obtain ⟨p1, o1, rfl⟩ := hs.addr (by omega)
    refine J.idx (b := p1) (off := o1) (len := n) (i := (((x.i + x.j) / 2 : Nat) : Int)) (sz := 4) (d := 27) (by kernel_rfl) (by omega) (by omega) ?_
    obtain ⟨x1, hx1⟩ : ∃ zq, (l)[(x.i + x.j) / 2]? = some zq := ⟨_, List.getElem?_eq_getElem (by omega)⟩
    refine J.ld (T := 42) (b := p1) (off := o1 + ((x.i + x.j) / 2) * 4) (d := 28) (v := .agg (encE x1).toArray) (by kernel_rfl) (fun w1 A1 m1 l1 => (hs.mv m1).ld (by kernel_rfl) hx1 (by kernel_rfl)) ?_
    refine J.rn [.u] [0, 1, 2, 8, 9, 10, 11, 24, 28, 29] [.o 19 5, .c 20, .b 1] [.o 19 6, .c 20, .b 1] (by kernel_rfl) ?_
    refine J.call (d := some 30) (by kernel_rfl) (fun w1 A1 m1 l1 => place1_calls x1 k nobody w1 noA) ?_
    rintro _ u1 w2 A2 rfl g1
    have m1 := g1.mv
    replace hs := hs.mv m1
    refine J.rn [.u, .n] [0, 1, 2, 8, 9, 10, 11, 31] [.o 19 7, .c 20, .b 1] [.c 20, .b 1] (by kernel_rfl) ?_
    refine J.cond (b := (decide ((cmpS x1.key k) < 0))) (k' := 22) (by kernel_rfl) (fun hc => ?_) (fun hc => ?_)
    · try simp only [nrm] at hc
      have hc2 := hc
      refine J.run [.n, .u, .u, .u, .n, .n] [0, 1, 2, 8, 9, 10] ⟨[(0, .v (.slice (some ⟨p1, o1, none⟩) n c)), (1, .v (.string k)), (2, .v ((.func (.func 85) #[] #[]))), (8, .v (.int .i64 ((n : Nat) : Int))), (9, .v (.int .i64 (IntKind.i64.wrap ((((x.i + x.j) / 2 : Nat) : Int) + 1)))), (10, .v (.int .i64 ((x.j : Nat) : Int)))], []⟩ [.c 21, .b 1] [] (by kernel_rfl) ?_
      have hw2 : IntKind.i64.wrap ((((x.i + x.j) / 2 : Nat) : Int) + 1) = (((x.i + x.j) / 2 + 1 : Nat) : Int) := by rw [wrap_i64 (by omega) (by omega)]; try omega
      rw [hw2]
      have hlt := cmpS_lt.1 hc2
      exact J.again ⟨(x.i + x.j) / 2 + 1, x.j⟩ [0, 1, 2, 8, 9, 10] 0 (by simp only; omega) (by kernel_rfl) (by kernel_rfl) (fun w1 A1 m1 => ⟨by simp only; omega, hjn, hs.mv m1, fun q a hq ha => by rcases Nat.lt_succ_iff_lt_or_eq.1 hq with h | rfl; exact slt_trans (sorted_lt hso h ha hx1) hlt; rw [hx1] at ha; cases ha; exact hlt, hb2⟩)
    · try simp only [nrm] at hc
      have hc2 := hc
      refine J.rn [.n, .u, .u, .n, .n] [0, 1, 2, 8, 9, 10] [.c 22, .b 1] [] (by kernel_rfl) ?_
      have hge := cmpS_ge.1 (by omega : 0 ≤ cmpS x1.key k)
      exact J.again ⟨x.i, (x.i + x.j) / 2⟩ [0, 1, 2, 8, 9, 10] 0 (by simp only; omega) (by kernel_rfl) (by kernel_rfl) (fun w1 A1 m1 => ⟨by simp only; omega, by simp only; omega, hs.mv m1, hb1, fun q a hq ha => by rcases Nat.eq_or_lt_of_le hq with rfl | h; rw [hx1] at ha; cases ha; exact hge; cases hc : slt a.key k with | false => rfl | true => exact absurd (slt_trans (sorted_lt hso h hx1 ha) hc) (by rw [hge]; decide)⟩)
  · try simp only [nrm] at hc
    have hc1 := hc
    have hje : x.j = x.i := by omega
    rw [hje] at hb2
    refine J.exit (id := 0) (by kernel_rfl) (by rfl) ?_
    refine J.run [.n, .n, .u, .u, .u, .u, .u] [0, 1, 2, 9, 35, 39] ⟨[(0, .v (.slice a n c)), (1, .v (.string k)), (2, .v ((.func (.func 85) #[] #[]))), (9, .v (.int .i64 ((x.i : Nat) : Int))), (35, .v (.int .i64 ((x.i : Nat) : Int))), (39, .v (.bool (decide (((x.i : Nat) : Int) < ((n : Nat) : Int)))))], []⟩ [.c 23] [.o 24 5, .c 25] (by kernel_rfl) ?_
    rcases Bool.eq_false_or_eq_true (decide (((x.i : Nat) : Int) < ((n : Nat) : Int))) with hc | hc
    · rw [hc]
      try simp only [nrm] at hc
      have hc3 := hc
      refine J.rn [.w, .w, .w] [1, 35, 39, 40, 41, 42] [.o 24 5, .c 25] [.o 24 8, .c 25] (by kernel_rfl) ?_
      obtain ⟨p2, o2, rfl⟩ := hs.addr (by omega)
      refine J.idx (b := p2) (off := o2) (len := n) (i := ((x.i : Nat) : Int)) (sz := 4) (d := 43) (by kernel_rfl) (by omega) (by omega) ?_
      obtain ⟨x2, hx2⟩ : ∃ zq, (l)[x.i]? = some zq := ⟨_, List.getElem?_eq_getElem (by omega)⟩
      refine J.ld (T := 42) (b := p2) (off := o2 + x.i * 4) (d := 44) (v := .agg (encE x2).toArray) (by kernel_rfl) (fun w1 A1 m1 l1 => (hs.mv m1).ld (by kernel_rfl) hx2 (by kernel_rfl)) ?_
      refine J.rn [.w] [35, 39, 40, 44, 45] [.o 24 10, .c 25] [.o 24 11, .c 25] (by kernel_rfl) ?_
      refine J.call (d := some 46) (by kernel_rfl) (fun w1 A1 m1 l1 => place1_calls x2 k nobody w1 noA) ?_
      rintro _ u2 w3 A3 rfl g2
      have m2 := g2.mv
      replace hs := hs.mv m2
      refine J.rn [.w, .u, .u, .u, .n] [6, 7] [.o 24 12, .c 25] [.c 25] (by kernel_rfl) ?_
      have hcn := cntLt_at (l := l) (i := x.i) (by omega) hb1 hb2
      refine J.ret (v := .tuple #[.int .i64 ((x.i : Nat) : Int), .bool ((cmpS x2.key k) == 0)]) (by kernel_rfl) (by kernel_rfl) (fun w1 A1 m1 hac l1 => by rw [hcn, hasKey_at hso hb1 hb2 hx2, ← cmpS_zero])
    · rw [hc]
      try simp only [nrm] at hc
      have hc3 := hc
      refine J.run [.x, .x, .x, .x, .x, .x, .x, .x, .u, .u, .u, .n] [6, 7] ⟨[(6, .v (.int .i64 ((x.i : Nat) : Int))), (7, .v (.bool false))], []⟩ [.o 24 5, .c 25] [.c 25] (by kernel_rfl) ?_
      have hcn := cntLt_at (l := l) (i := x.i) (by omega) hb1 hb2
      refine J.ret (v := .tuple #[.int .i64 ((x.i : Nat) : Int), .bool false]) (by kernel_rfl) (by kernel_rfl) (fun w1 A1 m1 hac l1 => by rw [hcn, hasKey_end (fun q a hq ha => hb1 q a (by omega) ha)])
theorem place_calls (a : Option Addr) (n c : Nat) (l : List Ent) (k : Str) (hso : SortedL l) (hn : n ≤ 1000000) (Ac : Nat → Prop) (W : World) (hA : ∀ k, Ac k → k < W.heap.size) (hs : Sl 4 encE Ac W a n c l) :
    Calls Pr 54 #[.slice a n c, .string k] W (Ret nobody W fun v w => v = .tuple #[.int .i64 ((cntLt k l : Nat) : Int), .bool (hasKey k l)]) := by
  refine J.enter (fn := Try.f54) (n := 11) Try.func54 (by kernel_rfl) (by kernel_rfl) (by kernel_rfl) hA ?_
  refine J.rn [.n, .n, .u, .u, .n, .n, .n, .u, .u] [6, 7] [.c 0] [.o 3 2, .c 4] (by kernel_rfl) ?_
  refine J.call (d := some 8) (by kernel_rfl) (fun w1 A1 m1 l1 => bsearch_place a n c l k hso (by omega) nobody w1 noA (hs.mv m1).any) ?_
  rintro _ u1 w1 A1 rfl g1
  have m1 := g1.mv
  replace hs := hs.mv m1
  refine J.rn [.u, .u, .u, .u, .n] [4, 5] [.o 3 3, .c 4] [.c 4] (by kernel_rfl) ?_
  refine J.ret (v := .tuple #[.int .i64 ((cntLt k l : Nat) : Int), .bool (hasKey k l)]) (by kernel_rfl) (by kernel_rfl) (fun w1 A1 m1 hac l1 => rfl)
end Go.Proofs.Ytkgokehkobifkaa.J
