/- Part 5 of the texts that the proof of the row stands on: the calculus, contracts of the functions, plain laws; no condition of its own. -/
import Derived.Test.YtkgokehkobifkaaSN4
set_option linter.unusedVariables false
set_option linter.unusedSimpArgs false
/- Package clash: the way up, and what is to be compared on it. -/
namespace Go.Proofs.Ytkgokehkobifkaa.J
open Go Go.RowKit

/-- A variable's address, said as a value. -/
def asPtrE (m b : Nat) : Nat × SV → Nat × SV
  | (t, .loc i off) => bif Nat.beq i m then (t, .v (.pointer (some ⟨b, off, none⟩))) else (t, .loc i off)
  | x => x
section
variable {P : Program} {B : Code} {Q : Exit → Act → World → Prop} {n : Nat} {W : World} {Ac M A : Nat → Prop} {s : SS} {ρ : List Nat} {w0 : World} {r t : List It} {k j : Nat}
theorem J.asPtr (m : Nat) (h : J P B Q n W Ac M t ⟨s.env.map (asPtrE m (ρ.getD m 0)), s.mem⟩ ρ A w0) : J P B Q n W Ac M t s ρ A w0 := by
  intro a w ok
  refine h a w { ok with fits := { ok.fits with val := ?_, grd := ?_, rng := ?_ }, locs := ok.locs }
  · intro t x hx
    obtain ⟨⟨t', x'⟩, h1, h2⟩ := List.mem_map.1 hx
    have hv := ok.fits.val _ _ h1
    cases x' with
    | loc i off =>
      simp only [asPtrE] at h2
      cases hi : Nat.beq i m with
      | true =>
        rw [hi] at h2
        cases h2
        rw [hv, ← Nat.eq_of_beq_eq_true hi]; rfl
      | false => rw [hi] at h2; cases h2; exact hv
    | v y => cases h2; exact hv
    | grd t c b y => cases h2; exact hv
  · intro d t c b x hx
    obtain ⟨⟨t', x'⟩, h1, h2⟩ := List.mem_map.1 hx
    have : (t', x') = (d, .grd t c b x) := by
      cases x' with
      | loc i off =>
        simp only [asPtrE] at h2
        cases hi : Nat.beq i m <;> rw [hi] at h2 <;> cases h2
      | v y => cases h2
      | grd t c b y => exact h2
    rw [this] at h1
    exact List.mem_map.2 ⟨_, ok.fits.grd _ _ _ _ _ h1, rfl⟩
  · intro t x hx
    obtain ⟨⟨t', x'⟩, h1, h2⟩ := List.mem_map.1 hx
    have hr := ok.fits.rng _ _ h1
    cases x' with
    | loc i off =>
      simp only [asPtrE] at h2
      cases hi : Nat.beq i m with
      | true => rw [hi] at h2; cases h2; rfl
      | false => rw [hi] at h2; cases h2; exact hr
    | v y => cases h2; exact hr
    | grd t c b y => cases h2; exact hr
end

/-- The digest that a way up comes to. -/
def upD (bits : Int) (leaf : List UInt8) (n i : Nat) (path : List Dg) : Dg := climb bits (leafF bits leaf) (sides n i) path
def nodeP (a b c d : Dg) : Txts := (1 :: (dbytes a ++ dbytes b), 1 :: (dbytes c ++ dbytes d))
/-- The texts on the way up, the leaf's first. -/
def chkF (bits : Int) (leaf : List UInt8) (ls : List (List UInt8)) (i : Nat) (path : List Dg) : List Txts :=
  if h1 : ls.length ≤ 1 then [(0 :: leaf, 0 :: ls.getD 0 [])]
  else if i < half ls.length then chkF bits leaf (ls.take (half ls.length)) i (path.take (path.length - 1)) ++ [nodeP (upD bits leaf (half ls.length) i (path.take (path.length - 1))) (path.getD (path.length - 1) dg0) (rootF bits (ls.take (half ls.length))) (rootF bits (ls.drop (half ls.length)))]
  else chkF bits leaf (ls.drop (half ls.length)) (i - half ls.length) (path.take (path.length - 1)) ++ [nodeP (path.getD (path.length - 1) dg0) (upD bits leaf (ls.length - half ls.length) (i - half ls.length) (path.take (path.length - 1))) (rootF bits (ls.take (half ls.length))) (rootF bits (ls.drop (half ls.length)))]
termination_by ls.length
decreasing_by
  · have := half_lt (n := ls.length) (by omega); rw [List.length_take]; omega
  · have := half_lt (n := ls.length) (by omega); rw [List.length_drop]; omega
section
variable {bits : Int} {leaf : List UInt8} {ls : List (List UInt8)} {i : Nat} {path : List Dg}
theorem chkF_1 {x : List UInt8} (h : ls.length = 1) (hx : ls[0]? = some x) : chkF bits leaf ls i path = [(0 :: leaf, 0 :: x)] := by
  rw [chkF, dif_pos (by omega), List.getD_eq_getElem?_getD, hx]; rfl
theorem chkF_lo {x : Dg} (h : 2 ≤ ls.length) (hi : i < half ls.length) (hx : path[path.length - 1]? = some x) :
    chkF bits leaf ls i path = chkF bits leaf (ls.take (half ls.length)) i (path.take (path.length - 1)) ++ [nodeP (upD bits leaf (half ls.length) i (path.take (path.length - 1))) x (rootF bits (ls.take (half ls.length))) (rootF bits (ls.drop (half ls.length)))] := by
  rw [chkF, dif_neg (by omega), if_pos hi, List.getD_eq_getElem?_getD, hx]; rfl
theorem chkF_hi {x : Dg} (h : 2 ≤ ls.length) (hi : half ls.length ≤ i) (hx : path[path.length - 1]? = some x) :
    chkF bits leaf ls i path = chkF bits leaf (ls.drop (half ls.length)) (i - half ls.length) (path.take (path.length - 1)) ++ [nodeP x (upD bits leaf (ls.length - half ls.length) (i - half ls.length) (path.take (path.length - 1))) (rootF bits (ls.take (half ls.length))) (rootF bits (ls.drop (half ls.length)))] := by
  rw [chkF, dif_neg (by omega), if_neg (by omega), List.getD_eq_getElem?_getD, hx]; rfl
end
theorem chkF_len (bits : Int) (leaf : List UInt8) : ∀ (N : Nat) (ls : List (List UInt8)) (i : Nat) (path : List Dg), ls.length < N → (chkF bits leaf ls i path).length ≤ ls.length + 1
  | 0, _, _, _, h => absurd h (Nat.not_lt_zero _)
  | N + 1, ls, i, path, h => by
    by_cases h1 : ls.length ≤ 1
    · rw [chkF, dif_pos h1]; simp
    · have hh := half_lt (n := ls.length) (by omega)
      by_cases hi : i < half ls.length
      · rw [chkF, dif_neg h1, if_pos hi]
        have := chkF_len bits leaf N (ls.take (half ls.length)) i (path.take (path.length - 1)) (by rw [List.length_take]; omega)
        rw [List.length_take] at this
        simp only [List.length_append, List.length_singleton]; omega
      · rw [chkF, dif_neg h1, if_neg hi]
        have := chkF_len bits leaf N (ls.drop (half ls.length)) (i - half ls.length) (path.take (path.length - 1)) (by rw [List.length_drop]; omega)
        rw [List.length_drop] at this
        simp only [List.length_append, List.length_singleton]; omega
theorem chkF_le (bits : Int) (leaf : List UInt8) (ls : List (List UInt8)) (i : Nat) (path : List Dg) : (chkF bits leaf ls i path).length ≤ ls.length + 1 := chkF_len bits leaf _ ls i path (Nat.lt_succ_self _)

theorem climb_snoc (bits : Int) (d : Dg) {b : Bool} {up : List Bool} {path : List Dg} {x : Dg} (hl : path.length = up.length + 1) (hx : path[path.length - 1]? = some x) :
    climb bits d (b :: up) path = upF bits (climb bits d up (path.take (path.length - 1))) (b, x) := by
  have e : path.take (path.length - 1) ++ [x] = path := by rw [← take_snoc hx, show path.length - 1 + 1 = path.length by omega, List.take_length]
  have := climb_cons bits d b up (path.take (path.length - 1)) x (by rw [List.length_take]; omega)
  rw [e] at this
  exact this
theorem upD_1 {bits : Int} {leaf : List UInt8} {n i : Nat} {path : List Dg} (h : n ≤ 1) : upD bits leaf n i path = leafF bits leaf := by rw [upD, sides_1 h]; rfl
theorem upD_lo {bits : Int} {leaf : List UInt8} {n i : Nat} {path : List Dg} {x : Dg} (h : 2 ≤ n) (hi : i < half n) (hl : path.length = (sides n i).length) (hx : path[path.length - 1]? = some x) :
    upD bits leaf n i path = nodeF bits (upD bits leaf (half n) i (path.take (path.length - 1))) x := by
  rw [sides_lo h hi] at hl
  rw [upD, sides_lo h hi, climb_snoc bits _ (by simpa using hl) hx]; rfl
theorem upD_hi {bits : Int} {leaf : List UInt8} {n i : Nat} {path : List Dg} {x : Dg} (h : 2 ≤ n) (hi : half n ≤ i) (hl : path.length = (sides n i).length) (hx : path[path.length - 1]? = some x) :
    upD bits leaf n i path = nodeF bits x (upD bits leaf (n - half n) (i - half n) (path.take (path.length - 1))) := by
  rw [sides_hi h hi] at hl
  rw [upD, sides_hi h hi, climb_snoc bits _ (by simpa using hl) hx]; rfl
theorem sides_pos {n i : Nat} (h : 2 ≤ n) : 1 ≤ (sides n i).length := by
  by_cases hi : i < half n
  · rw [sides_lo h hi]; simp
  · rw [sides_hi h (by omega)]; simp
theorem sides_take {n i m : Nat} (h : 2 ≤ n) (hi : i < half n) (hm : m = (sides n i).length) : m - 1 = (sides (half n) i).length := by
  rw [hm, sides_lo h hi]; simp
theorem sides_drop {n i m : Nat} (h : 2 ≤ n) (hi : half n ≤ i) (hm : m = (sides n i).length) : m - 1 = (sides (n - half n) (i - half n)).length := by
  rw [hm, sides_hi h hi]; simp

structure ChkL (A : Nat → Prop) (w : World) (fs : List Value) (ps : List Txts) : Prop where
  len : ps.length = fs.length
  each : ∀ (i : Nat) (f : Value) (p : Txts), fs[i]? = some f → ps[i]? = some p → Chk A w f p
theorem ChkL.mv {X A A1 : Nat → Prop} {w w1 : World} {fs : List Value} {ps : List Txts} (h : ChkL A w fs ps) (m : Mv X A A1 w w1) : ChkL A1 w1 fs ps := ⟨h.len, fun i f p hf hp => (h.each i f p hf hp).mv m⟩
theorem Chk.weaken {A A1 : Nat → Prop} {w : World} {f : Value} {p : Txts} (h : Chk A w f p) (hA : ∀ k, A1 k → A k) (hb : ∀ k, A k → k < w.heap.size) : Chk A1 w f p :=
  let ⟨g, cb, e, eg, hc⟩ := h
  ⟨g, cb, e, eg, fun X A2 w2 m2 => hc X (fun k => A2 k ∨ (A k ∧ ¬ X k)) w2 { size := m2.size, same := m2.same, sub := fun k h hk => hA k (m2.sub k h hk), dn := fun k hk h => h.elim (fun h => hA k (m2.dn k hk h)) (fun h => h.1), up := fun k hk h hx => .inr ⟨h, hx⟩, bdd := fun k h => h.elim (m2.bdd k) (fun h => Nat.lt_of_lt_of_le (hb k h.1) m2.size) } |>.mono fun e w h => by
    cases e with
    | returned v => exact h
    | panicked c => obtain ⟨v, e1, ⟨h1, h2⟩, h3⟩ := h; exact ⟨v, e1, ⟨h1, h2.weaken fun k h => .inl h⟩, h3⟩
    | outgrown => exact h⟩
theorem ChkL.weaken {A A1 : Nat → Prop} {w : World} {fs : List Value} {ps : List Txts} (h : ChkL A w fs ps) (hA : ∀ k, A1 k → A k) (hb : ∀ k, A k → k < w.heap.size) : ChkL A1 w fs ps := ⟨h.len, fun i f p hf hp => (h.each i f p hf hp).weaken hA hb⟩
theorem ChkL.one {A : Nat → Prop} {w : World} {f : Value} {p : Txts} (h : Chk A w f p) : ChkL A w [f] [p] := ⟨rfl, fun i g q hg hq => by
  match i, hg, hq with
  | 0, hg, hq => cases hg; cases hq; exact h⟩
theorem ChkL.snoc {A : Nat → Prop} {w : World} {fs : List Value} {ps : List Txts} {f : Value} {p : Txts} (h : ChkL A w fs ps) (h1 : Chk A w f p) : ChkL A w (fs ++ [f]) (ps ++ [p]) := ⟨by simp [h.len], fun i g q hg hq => by
  rcases Nat.lt_or_ge i fs.length with hi | hi
  · rw [List.getElem?_append_left hi] at hg
    rw [List.getElem?_append_left (by rw [h.len]; exact hi)] at hq
    exact h.each i g q hg hq
  · rw [List.getElem?_append_right hi] at hg
    rw [List.getElem?_append_right (by rw [h.len]; exact hi), h.len] at hq
    match e : i - fs.length, hg, hq with
    | 0, hg, hq => cases hg; cases hq; exact h1
    | _ + 1, hg, _ => simp at hg⟩

/-- What was there before stays clear of what is new. -/
theorem Sl.grow {α : Type} {k : Nat} {enc : α → List Value} {Ac E : Nat → Prop} {W w1 : World} {a : Option Addr} {n c : Nat} {l : List α} (h0 : Sl k enc Ac W a n c l) (h1 : Sl k enc Ac w1 a n c l) (hE : ∀ k, E k → W.heap.size ≤ k) : Sl k enc (fun k => Ac k ∨ E k) w1 a n c l :=
  ⟨h1.len, h1.le, h1.cap, fun hne => by
    obtain ⟨b, o, e, hA, hb, hc⟩ := h1.at_ hne
    obtain ⟨b', o', e', _, hb', _⟩ := h0.at_ hne
    have e2 := e.symm.trans e'
    cases e2
    exact ⟨b, o, e, fun h => h.elim hA (fun h => by have := hE _ h; omega), hb, hc⟩⟩
theorem Rows.grow {Ac E : Nat → Prop} {W w1 : World} {a : Option Addr} {n c : Nat} {ls : List (List UInt8)} (hE : ∀ k, E k → W.heap.size ≤ k) (h : ∃ vs : List SlV, (Sl 1 encSl Ac W a n c vs ∧ vs.length = ls.length ∧ ∀ (i : Nat) (v : SlV) (l : List UInt8), vs[i]? = some v → ls[i]? = some l → Sl 1 u8 Ac W v.1 v.2.1 v.2.2 l) ∧
    Sl 1 encSl Ac w1 a n c vs ∧ ∀ (i : Nat) (v : SlV) (l : List UInt8), vs[i]? = some v → ls[i]? = some l → Sl 1 u8 Ac w1 v.1 v.2.1 v.2.2 l) : Rows (fun k => Ac k ∨ E k) w1 a n c ls :=
  let ⟨vs, ⟨h1, h2, h3⟩, h4, h5⟩ := h
  ⟨vs, h1.grow h4 hE, h2, fun i v l hv hl => (h3 i v l hv hl).grow (h5 i v l hv hl) hE⟩
theorem Rows.growMv {X Ac E A1 : Nat → Prop} {W w1 : World} {a : Option Addr} {n c : Nat} {ls : List (List UInt8)} (h : Rows Ac W a n c ls) (m : Mv X Ac A1 W w1) (hac : ∀ k, Ac k → A1 k) (hE : ∀ k, E k → W.heap.size ≤ k) : Rows (fun k => Ac k ∨ E k) w1 a n c ls := by
  obtain ⟨vs, h1, h2, h3⟩ := h.rd
  exact Rows.grow hE ⟨vs, ⟨h1, h2, h3⟩, (h1.mv m).weaken hac, fun i v l hv hl => ((h3 i v l hv hl).mv m).weaken hac⟩
theorem Sl.growMv {α : Type} {k : Nat} {enc : α → List Value} {X Ac E A1 : Nat → Prop} {W w1 : World} {a : Option Addr} {n c : Nat} {l : List α} (h : Sl k enc Ac W a n c l) (m : Mv X Ac A1 W w1) (hac : ∀ k, Ac k → A1 k) (hE : ∀ k, E k → W.heap.size ≤ k) : Sl k enc (fun k => Ac k ∨ E k) w1 a n c l :=
  h.grow ((h.mv m).weaken hac) hE

theorem encV_one (v : Value) (h : v.oneCell' = true) : ∀ u ∈ encV v, u.oneCell' = true := by
  intro u hu; simp [encV] at hu; subst hu; exact h
theorem Mv.refl {A : Nat → Prop} {w : World} (hA : ∀ k, A k → k < w.heap.size) : Mv nobody A A w w := ⟨Nat.le_refl _, fun _ _ _ => rfl, fun _ h => h.elim, fun _ _ h => h, fun _ _ h _ => h, hA⟩
theorem Sl.tr0 {A : Nat → Prop} {w : World} {b : Nat} {e : Int} (h : Sl 1 encV A w (some ⟨b, 0, none⟩) 1 1 [.int .i64 e]) : Ld Pr w 32 b 0 (.agg [.int .i64 e].toArray) := by
  have q := h.ld (P := Pr) (t := 32) (by kernel_rfl) (one0 _) (by kernel_rfl)
  exact q
abbrev ptr (b : Nat) : Value := .pointer (some ⟨b, 0, none⟩)
theorem Chk.leaf {A : Nat → Prop} {w : World} {b1 b2 : Nat} {la : Option Addr} {ln lc : Nat} {leaf : List UInt8} (hln : ln ≤ 1000000) {a : Option Addr} {n c : Nat} {ls : List (List UInt8)} {x : List UInt8} (h1 : Sl 1 encV A w (some ⟨b1, 0, none⟩) 1 1 [.slice la ln lc]) (hl : Sl 1 u8 A w la ln lc leaf)
    (h2 : Sl 1 encV A w (some ⟨b2, 0, none⟩) 1 1 [.slice a n c]) (hr : Rows A w a n c ls) (hx : ls[0]? = some x) (hsh : Short ls) : Chk A w (.func (.func 42) #[] #[ptr b1, ptr b2]) (0 :: leaf, 0 :: x) :=
  ⟨_, [ptr b1, ptr b2], rfl, enters_of Try.func42 (by kernel_rfl) rfl, fun X A1 w1 m => leafCheck_calls b1 b2 la ln lc leaf hln a n c ls x A1 w1 m.bdd (h1.mv m) (hl.mv m) (h2.mv m) (hr.mv m) hx hsh⟩
theorem Chk.left {A : Nat → Prop} {w : World} {b1 b2 b3 b4 : Nat} {h d l r : Dg} (h1 : Sl 32 dcells A w (some ⟨b1, 0, none⟩) 1 1 [h]) (h2 : Sl 32 dcells A w (some ⟨b2, 0, none⟩) 1 1 [d]) (h3 : Sl 32 dcells A w (some ⟨b3, 0, none⟩) 1 1 [l]) (h4 : Sl 32 dcells A w (some ⟨b4, 0, none⟩) 1 1 [r]) :
    Chk A w (.func (.func 47) #[] #[ptr b1, ptr b2, ptr b3, ptr b4]) (nodeP h d l r) :=
  ⟨_, [ptr b1, ptr b2, ptr b3, ptr b4], rfl, enters_of Try.func47 (by kernel_rfl) rfl, fun X A1 w1 m => leftCheck_calls b1 b2 b3 b4 h d l r A1 w1 m.bdd (h1.mv m) (h2.mv m) (h3.mv m) (h4.mv m)⟩
theorem Chk.right {A : Nat → Prop} {w : World} {b1 b2 b3 b4 : Nat} {h d l r : Dg} (h1 : Sl 32 dcells A w (some ⟨b1, 0, none⟩) 1 1 [d]) (h2 : Sl 32 dcells A w (some ⟨b2, 0, none⟩) 1 1 [h]) (h3 : Sl 32 dcells A w (some ⟨b3, 0, none⟩) 1 1 [l]) (h4 : Sl 32 dcells A w (some ⟨b4, 0, none⟩) 1 1 [r]) :
    Chk A w (.func (.func 49) #[] #[ptr b1, ptr b2, ptr b3, ptr b4]) (nodeP d h l r) :=
  ⟨_, [ptr b1, ptr b2, ptr b3, ptr b4], rfl, enters_of Try.func49 (by kernel_rfl) rfl, fun X A1 w1 m => rightCheck_calls b1 b2 b3 b4 h d l r A1 w1 m.bdd (h1.mv m) (h2.mv m) (h3.mv m) (h4.mv m)⟩

theorem New.ofRow {N : Nat} {e : TypeId} {w : World} {b : Nat} {v : Value} (h : w.heap[b]? = some (.cells [v].toArray e (0, 0))) (hb : N ≤ b) : New N e 1 w (some ⟨b, 0, none⟩) 1 1 ([v].flatMap encV) :=
  ⟨rfl, .inr ⟨b, _, rfl, hb, by simp, trivial, h, Nat.le_refl _, by decide, rfl, rfl⟩⟩
/-- What the way up answers. -/
def UpR (Ac : Nat → Prop) (N : Nat) (bits : Int) (leaf : List UInt8) (ls : List (List UInt8)) (i : Nat) (path : List Dg) (v : Value) (w : World) : Prop :=
  ∃ a c fs, v = .tuple #[.agg (dcells (upD bits leaf ls.length i path)).toArray, .slice a fs.length c] ∧ New N 1 1 w a fs.length c (fs.flatMap encV) ∧ ChkL (Gr Ac a) w fs (chkF bits leaf ls i path)

theorem up_k5 (bits : Int) (leaf : List UInt8) (la : Option Addr) (ln lc : Nat) (q3 q4 q5 : Nat) (hln : ln ≤ 1000000) (a : Option Addr) (n c : Nat) (ls : List (List UInt8)) (i : Nat) (pa : Option Addr) (pn pc : Nat) (path : List Dg) (ih : ∀ (a : Option Addr) (n c : Nat) (l2 : List (List UInt8)) (i2 : Nat) (pa : Option Addr) (pn pc : Nat) (p2 : List Dg), l2.length < ls.length → i2 < l2.length → p2.length = (sides l2.length i2).length → Short l2 → l2.length ≤ 1000000 → ∀ (Ac : Nat → Prop) (W : World), (∀ k, Ac k → k < W.heap.size) → Rows Ac W a n c l2 → Sl 32 dcells Ac W pa pn pc p2 → Sl 1 encV Ac W (some ⟨q3, 0, none⟩) 1 1 [(.int .i64 bits)] → Sl 1 encV Ac W (some ⟨q4, 0, none⟩) 1 1 [(.slice la ln lc)] → Sl 1 encV Ac W (some ⟨q5, 0, none⟩) 1 1 [(.func (.func 40) #[] #[ptr q3, ptr q4, ptr q5])] → Sl 1 u8 Ac W la ln lc leaf → Calls Pr 40 (([.slice a n c, .int .i64 ((i2 : Nat) : Int), .slice pa pn pc] : List Value) ++ [ptr q3, ptr q4, ptr q5]).toArray W (Ret nobody W (UpR Ac W.heap.size bits leaf l2 i2 p2))) (hi : i < ls.length) (hpl : path.length = (sides ls.length i).length) (hsh : Short ls) (hn : ls.length ≤ 1000000) (Ac : Nat → Prop) (W : World) (hA : ∀ k, Ac k → k < W.heap.size) (h2n : 2 ≤ n) (w0 : World) (A : Nat → Prop) (hWw : W.heap.size ≤ w0.heap.size) (b1 b2 : Nat) (hs : Rows A w0 a n c ls) (hp : Sl 32 dcells A w0 pa pn pc path) (h3 : Sl 1 encV A w0 (some ⟨q3, 0, none⟩) 1 1 [(.int .i64 bits)]) (h4 : Sl 1 encV A w0 (some ⟨q4, 0, none⟩) 1 1 [(.slice la ln lc)]) (h5 : Sl 1 encV A w0 (some ⟨q5, 0, none⟩) 1 1 [(.func (.func 40) #[] #[ptr q3, ptr q4, ptr q5])]) (hl : Sl 1 u8 A w0 la ln lc leaf) (x : Dg) (b12 : Nat) (h12 : Sl 32 dcells A w0 (some ⟨b12, 0, none⟩) 1 1 [x]) (hx : path[pn - 1]? = some x) (b14 b15 : Nat) (h14 : Sl 32 dcells A w0 (some ⟨b14, 0, none⟩) 1 1 [(rootF bits (ls.take (half n)))]) (h15 : Sl 32 dcells A w0 (some ⟨b15, 0, none⟩) 1 1 [(rootF bits (ls.drop (half n)))]) :
    J Pr (bodyOf Try.f40) (bodyPost Pr Try.f40 (Ret nobody W fun v w => UpR Ac W.heap.size bits leaf ls i path v w)) 93 W Ac nobody [.c 16] ⟨[(1, .v (.int .i64 ((i : Nat) : Int))), (3, .v (.pointer (some ⟨q3, 0, none⟩))), (5, .v (.pointer (some ⟨q5, 0, none⟩))), (6, .loc 0 0), (9, .loc 1 0), (11, .v (.int .i64 ((half n : Nat) : Int))), (12, .v (.pointer (some ⟨b12, 0, none⟩))), (13, .v (.slice pa (pn - 1) pc)), (14, .v (.pointer (some ⟨b14, 0, none⟩))), (15, .v (.pointer (some ⟨b15, 0, none⟩)))], [⟨47, [.slice a n c]⟩, ⟨34, dcells dg0⟩]⟩ [b1, b2] A w0 := by
  have hlen := hs.len; have hle := hs.le; have hcap := hs.cap; simp only [maxLen] at hcap; have hpn := hp.len; have hple := hp.le; have hpc := hp.cap; simp only [maxLen] at hpc; have hh := half_lt2 n
  have hsd : 2 ≤ n → 1 ≤ pn := fun h => by rw [hpn, hpl, ← hlen]; exact sides_pos h
  have hpn1 : 2 ≤ n → IntKind.i64.wrap (((pn : Nat) : Int) - 1) = ((pn - 1 : Nat) : Int) := fun h => by have := hsd h; rw [wrap_i64 (by omega) (by omega)]; omega
  have hik : ∀ k : Nat, k ≤ i → IntKind.i64.wrap (((i : Nat) : Int) - ((k : Nat) : Int)) = ((i - k : Nat) : Int) := fun k hk => by rw [wrap_i64 (by omega) (by omega)]; omega
  have hq2 : Sl 32 dcells A w0 pa (pn - 1) pc (path.take (pn - 1)) := hp.upto (by omega) (by omega) (by have := hp.le; omega)
  refine J.rn [.n, .n, .n, .u, .u, .u, .n] [1, 3, 5, 6, 9, 11, 12, 13, 14, 15, 54] [.c 16] [.c 19, .c 26] (by kernel_rfl) ?_
  refine J.cond (b := (decide (((i : Nat) : Int) < ((half n : Nat) : Int)))) (k' := 25) (by kernel_rfl) (fun hc => ?_) (fun hc => ?_)
  · try simp only [nrm] at hc
    have hc1 := hc
    refine J.run [.n] [1, 3, 5, 6, 9, 11, 12, 13, 14, 15] ⟨[(1, .v (.int .i64 ((i : Nat) : Int))), (3, .v (.pointer (some ⟨q3, 0, none⟩))), (5, .v (.pointer (some ⟨q5, 0, none⟩))), (6, .loc 0 0), (9, .loc 1 0), (11, .v (.int .i64 ((half n : Nat) : Int))), (12, .v (.pointer (some ⟨b12, 0, none⟩))), (13, .v (.slice pa (pn - 1) pc)), (14, .v (.pointer (some ⟨b14, 0, none⟩))), (15, .v (.pointer (some ⟨b15, 0, none⟩)))], [⟨47, [.slice a n c]⟩, ⟨34, dcells dg0⟩]⟩ [.c 20, .c 26] [.c 21, .c 22, .c 26] (by kernel_rfl) ?_
    refine J.draw [] nobody (by kernel_rfl) (by kernel_rfl) (fun _ h => h.elim) (fun w1 A1 m1 hr1 hX1 => ?_)
    replace hs := hs.mv m1; replace hp := hp.mv m1; replace h3 := h3.mv m1; replace h4 := h4.mv m1; replace h5 := h5.mv m1; replace hl := hl.mv m1; replace h12 := h12.mv m1; replace h14 := h14.mv m1; replace h15 := h15.mv m1; replace hq2 := hq2.mv m1
    refine J.take0 [(1, .u), (2, .u), (4, .u), (5, .u)] [3, 5, 9, 12, 14, 15, 57, 58, 60, 61] [(3, .v (.pointer (some ⟨q3, 0, none⟩))), (5, .v (.pointer (some ⟨q5, 0, none⟩))), (9, .loc 1 0), (12, .v (.pointer (some ⟨b12, 0, none⟩))), (14, .v (.pointer (some ⟨b14, 0, none⟩))), (15, .v (.pointer (some ⟨b15, 0, none⟩))), (57, .v (.slice a n c)), (58, .v (.int .i64 ((half n : Nat) : Int))), (60, .v (.int .i64 ((i : Nat) : Int))), (61, .v (.slice pa (pn - 1) pc))] [5, 4, 2, 1] (calm_body _ _ _) (by intro k _ h; exact h) hr1 (by kernel_rfl) ?_
    refine J.ldp (i := 0) (T := 84) (b := q5) (off := 0) (d := 56) (v := (.func (.func 40) #[] #[ptr q3, ptr q4, ptr q5])) (calm_body _ _ _) (by kernel_rfl) (by kernel_rfl) hX1 (fun w1 m1 => (h5.mv m1).ld1 (by kernel_rfl) (one0 _) (j := 0) rfl) ?_
    refine J.slp (j := 3) (a := a) (len := n) (cap := c) (sz := 1) (lo := none) (hi := (some ((half n : Nat) : Int))) (mx := none) (d := 59) (calm_body _ _ _) (by kernel_rfl) (by kernel_rfl) 0 (half n) c (by simp) (by simp) (by simp) (by have := hs.le; omega) (by have := hs.le; omega) (by have := hs.le; omega) (by simp) ?_
    intro a1 ha1 hb1
    rw [hb1 rfl, Nat.sub_zero, Nat.sub_zero]; clear ha1 hb1 a1
    have hp1 := hs.upto (H := half n) (X := c) (by have := hs.le; omega) (by have := hs.le; omega) (by have := hs.le; omega)
    refine J.pick [6, 10] (by kernel_rfl) (by kernel_rfl) (by simp) (fun i hi => ?_)
    simp only [List.mem_cons, List.not_mem_nil, or_false] at hi
    rcases hi with rfl | rfl
    · skip
      have hll : ((ls.take (half n))).length = half n := by simp; omega
      have hsl : ((path.take (pn - 1))).length = (sides ((ls.take (half n))).length i).length := by rw [hll, List.length_take, Nat.min_eq_left (by omega)]; exact sides_take (by omega) (by omega) (by rw [hpn, hpl, hlen])
      refine J.callVq (g := 40) (cb := [ptr q3, ptr q4, ptr q5]) (args := [.slice a (half n) c, .int .i64 ((i : Nat) : Int), .slice pa (pn - 1) pc]) (d := some 62) (by kernel_rfl) (enters_of Try.func40 (by kernel_rfl) rfl) (fun w1 A1 m1 l1 => ih a (half n) c (ls.take (half n)) i pa (pn - 1) pc (path.take (pn - 1)) (by rw [hll]; omega) (by rw [hll]; omega) hsl (by first | assumption | exact Short.take (by assumption) _ | exact Short.drop (by assumption) _ | exact Short.drop (Short.take (by assumption) _) _) (by rw [hll]; omega) A1 w1 m1.bdd (hp1.mv m1) (hq2.mv m1) (h3.mv m1) (h4.mv m1) (h5.mv m1) (hl.mv m1)) ?_
      rintro _ u1 w2 A2 ⟨a2, c1, fs1, rfl, hn1, hck1⟩ g1
      have hblhn1 := hn1.blk_lt; have hglhn1 := g1.le
      refine J.grab hn1 ?_
      have m2 := g1.grab hn1
      replace hs := hs.mv m2; replace hp := hp.mv m2; replace h3 := h3.mv m2; replace h4 := h4.mv m2; replace h5 := h5.mv m2; replace hl := hl.mv m2; replace h12 := h12.mv m2; replace h14 := h14.mv m2; replace h15 := h15.mv m2; replace hq2 := hq2.mv m2; replace hp1 := hp1.mv m2
      replace hn1 := hn1.take g1 rfl
      rw [hll]
      have hfl := hck1.len; have hcl := chkF_le bits leaf ((ls.take (half n))) i ((path.take (pn - 1))); rw [hll] at hcl
      refine J.take1 [(7, .u), (8, .u), (9, .u)] [3, 9, 12, 14, 15, 63, 64] [(3, .v (.pointer (some ⟨q3, 0, none⟩))), (9, .loc 1 0), (12, .v (.pointer (some ⟨b12, 0, none⟩))), (14, .v (.pointer (some ⟨b14, 0, none⟩))), (15, .v (.pointer (some ⟨b15, 0, none⟩))), (63, .v (.agg (dcells (upD bits leaf (half n) i (path.take (pn - 1)))).toArray)), (64, .v (.slice a2 fs1.length c1))] [9, 8, 7, 6, 3, 0, 5, 4, 2, 1] (calm_body _ _ _) (by kernel_rfl) ?_
      refine J.pick1 10 (by kernel_rfl) (by kernel_rfl) ?_
      refine J.newq (T := 34) (cs := dcells dg0) (d := 16) (K := .ptr) (by kernel_rfl) (fun b21 hb21 => ?_)
      replace hn1 := hn1.more hb21
      refine J.pick1 11 (by kernel_rfl) (by kernel_rfl) ?_
      refine J.storeqN (i := 2) (m' := [⟨47, [.slice a n c]⟩, ⟨34, dcells dg0⟩, ⟨34, dcells (upD bits leaf (half n) i (path.take (pn - 1)))⟩]) (by kernel_rfl) (show w1.heap.size ≤ b21 by have := m2.size; omega) ?_
      refine J.take1 [(12, .u)] [3, 9, 12, 14, 15, 16, 17] [(3, .v (.pointer (some ⟨q3, 0, none⟩))), (9, .loc 1 0), (12, .v (.pointer (some ⟨b12, 0, none⟩))), (14, .v (.pointer (some ⟨b14, 0, none⟩))), (15, .v (.pointer (some ⟨b15, 0, none⟩))), (16, .loc 2 0), (17, .v (.slice a2 fs1.length c1))] [12, 11, 10, 9, 8, 7, 6, 3, 0, 5, 4, 2, 1] (calm_body _ _ _) (by kernel_rfl) ?_
      refine J.pdone (by kernel_rfl) ?_
      refine J.asPtr 2 ?_
      refine J.freeze 2 rfl (by kernel_rfl) (fun h => h) (L := ⟨34, dcells (upD bits leaf (half n) i (path.take (pn - 1)))⟩) rfl (fun w3 A3 m3 hs1 hr2 hn2 => ?_)
      replace hs := hs.mv m3; replace hp := hp.mv m3; replace h3 := h3.mv m3; replace h4 := h4.mv m3; replace h5 := h5.mv m3; replace hl := hl.mv m3; replace h12 := h12.mv m3; replace h14 := h14.mv m3; replace h15 := h15.mv m3; replace hq2 := hq2.mv m3; replace hp1 := hp1.mv m3; replace hck1 := hck1.mv m3; replace hn1 := hn1.mv m3
      replace hn1 := hn1.fewer (ρ' := [b1, b2]) (by simp)
      have h16 : Sl 32 dcells A3 w3 (some ⟨b21, 0, none⟩) 1 1 [(upD bits leaf (half n) i (path.take (pn - 1)))] := Sl.ofRow (enc := dcells) (l := [(upD bits leaf (half n) i (path.take (pn - 1)))]) (kk := 32) (b := b21) (cs := dcells (upD bits leaf (half n) i (path.take (pn - 1)))) hr2 hn2 rfl (fun x _ => rfl) rfl (by simp only [maxLen]; omega)
      refine J.rn [.n, .n] [3, 9, 12, 14, 15, 16, 17] [.c 22, .c 26] [.o 23 0, .c 24, .c 26] (by kernel_rfl) ?_
      refine J.ld (T := 32) (b := q3) (off := 0) (d := 65) (v := .agg [.int .i64 bits].toArray) (by kernel_rfl) (fun w1 A1 m1 l1 => (h3.mv m1).tr0) ?_
      refine J.ld (T := 34) (b := b21) (off := 0) (d := 66) (v := .agg (dcells (upD bits leaf (half n) i (path.take (pn - 1)))).toArray) (by kernel_rfl) (fun w1 A1 m1 l1 => (h16.mv m1).dg0) ?_
      refine J.ld (T := 34) (b := b12) (off := 0) (d := 67) (v := .agg (dcells x).toArray) (by kernel_rfl) (fun w1 A1 m1 l1 => (h12.mv m1).dg0) ?_
      refine J.call (d := some 68) (by kernel_rfl) (fun w1 A1 m1 l1 => node_calls bits (upD bits leaf (half n) i (path.take (pn - 1))) x nobody w1 noA) ?_
      rintro _ u2 w4 A4 rfl g2
      have m4 := g2.mv
      replace hs := hs.mv m4; replace hp := hp.mv m4; replace h3 := h3.mv m4; replace h4 := h4.mv m4; replace h5 := h5.mv m4; replace hl := hl.mv m4; replace h12 := h12.mv m4; replace h14 := h14.mv m4; replace h15 := h15.mv m4; replace hq2 := hq2.mv m4; replace hp1 := hp1.mv m4; replace hck1 := hck1.mv m4; replace h16 := h16.mv m4; replace hn1 := hn1.mv m4
      refine J.run [.u, .u] [9, 68, 69, 70] ⟨[(9, .loc 1 0), (68, .v (.agg (dcells (nodeF bits (upD bits leaf (half n) i (path.take (pn - 1))) x)).toArray)), (69, .v (.slice a2 fs1.length c1)), (70, .v ((.func (.func 47) #[] #[.pointer (some ⟨b21, 0, none⟩), .pointer (some ⟨b12, 0, none⟩), .pointer (some ⟨b14, 0, none⟩), .pointer (some ⟨b15, 0, none⟩)])))], [⟨47, [.slice a n c]⟩, ⟨34, dcells dg0⟩]⟩ [.o 23 4, .c 24, .c 26] [.o 23 6, .c 24, .c 26] (by kernel_rfl) ?_
      refine J.new (T := 1) (cs := [(.func (.func 47) #[] #[.pointer (some ⟨b21, 0, none⟩), .pointer (some ⟨b12, 0, none⟩), .pointer (some ⟨b14, 0, none⟩), .pointer (some ⟨b15, 0, none⟩)])]) (d := 71) (K := (.sl 1)) (by kernel_rfl) (fun b22 hb22 => ?_)
      replace hn1 := hn1.more hb22
      refine J.append (e := 1) (sz := 1) (a := a2) (nn := fs1.length) (c := c1) (T := 85) (Tx := 85) (x := .slice (some ⟨b22, 0, none⟩) 1 1) (bytes := 8) (d := 72) (xs := fs1.flatMap encV) (news := [(.func (.func 47) #[] #[.pointer (some ⟨b21, 0, none⟩), .pointer (some ⟨b12, 0, none⟩), .pointer (some ⟨b14, 0, none⟩), .pointer (some ⟨b15, 0, none⟩)])]) (m := 1) (by kernel_rfl) (by kernel_rfl) hn1.own (.inr hn1) (fun w1 A1 m1 l1 => l1.src (i := 2) rfl (e := 1) (by kernel_rfl) rfl rfl) (by simp only [maxLen]; omega) (by omega) ?_
      intro a3 c2 w5 A5 hn3 m5
      replace hs := hs.mv m5; replace hp := hp.mv m5; replace h3 := h3.mv m5; replace h4 := h4.mv m5; replace h5 := h5.mv m5; replace hl := hl.mv m5; replace h12 := h12.mv m5; replace h14 := h14.mv m5; replace h15 := h15.mv m5; replace hq2 := hq2.mv m5; replace hp1 := hp1.mv m5; replace hck1 := hck1.mv m5; replace h16 := h16.mv m5
      replace hn3 := hn3.re (n' := fs1.length + 1) (ys := (fs1 ++ [Value.func (.func 47) #[] #[.pointer (some ⟨b21, 0, none⟩), .pointer (some ⟨b12, 0, none⟩), .pointer (some ⟨b14, 0, none⟩), .pointer (some ⟨b15, 0, none⟩)]]).flatMap encV) rfl (by first | (simp only [List.flatMap_append, dbytes_flat, byteCells_u8]; done) | (rw [List.flatMap_append]; rfl))
      refine J.rn [.u, .u, .n] [9, 10] [.o 23 8, .c 24, .c 26] [.c 24, .c 26] (by kernel_rfl) ?_
      have hg : ∀ w1 A1, Mv (Lb [b1, b2, b22]) A5 A1 w5 w1 → (∀ k, Ac k → A1 k) → ∀ k, Gr Ac a3 k → A1 k := fun w1 A1 m1 hac k h => h.elim (hac k) (fun h => ((hn3.mv m1).own_blk k h).2.2.1)
      refine J.ret (v := .tuple #[.agg (dcells (nodeF bits (upD bits leaf (half n) i (path.take (pn - 1))) x)).toArray, .slice a3 (fs1.length + 1) c2]) (by kernel_rfl) (by kernel_rfl) (fun w1 A1 m1 hac l1 => ⟨a3, c2, fs1 ++ [Value.func (.func 47) #[] #[.pointer (some ⟨b21, 0, none⟩), .pointer (some ⟨b12, 0, none⟩), .pointer (some ⟨b14, 0, none⟩), .pointer (some ⟨b15, 0, none⟩)]], by rw [upD_lo (n := ls.length) (by omega) (by rw [← hlen]; omega) hpl (by rw [← hpn]; exact hx), ← hlen, ← hpn, List.length_append]; rfl, by rw [List.length_append]; exact (hn3.mv m1).new, by rw [chkF_lo (by omega) (by rw [← hlen]; omega) (by rw [← hpn]; exact hx), ← hlen, ← hpn]; exact ((hck1.mv m1).weaken (hg _ _ m1 hac) m1.bdd).snoc (Chk.left ((h16.mv m1).weaken (hg _ _ m1 hac)) ((h12.mv m1).weaken (hg _ _ m1 hac)) ((h14.mv m1).weaken (hg _ _ m1 hac)) ((h15.mv m1).weaken (hg _ _ m1 hac)))⟩)
    · skip
      refine J.newq (T := 34) (cs := dcells dg0) (d := 16) (K := .ptr) (by kernel_rfl) (fun b23 hb23 => ?_)
      refine J.pick1 6 (by kernel_rfl) (by kernel_rfl) ?_
      have hll : ((ls.take (half n))).length = half n := by simp; omega
      have hsl : ((path.take (pn - 1))).length = (sides ((ls.take (half n))).length i).length := by rw [hll, List.length_take, Nat.min_eq_left (by omega)]; exact sides_take (by omega) (by omega) (by rw [hpn, hpl, hlen])
      refine J.callVq (g := 40) (cb := [ptr q3, ptr q4, ptr q5]) (args := [.slice a (half n) c, .int .i64 ((i : Nat) : Int), .slice pa (pn - 1) pc]) (d := some 62) (by kernel_rfl) (enters_of Try.func40 (by kernel_rfl) rfl) (fun w1 A1 m1 l1 => ih a (half n) c (ls.take (half n)) i pa (pn - 1) pc (path.take (pn - 1)) (by rw [hll]; omega) (by rw [hll]; omega) hsl (by first | assumption | exact Short.take (by assumption) _ | exact Short.drop (by assumption) _ | exact Short.drop (Short.take (by assumption) _) _) (by rw [hll]; omega) A1 w1 m1.bdd (hp1.mv m1) (hq2.mv m1) (h3.mv m1) (h4.mv m1) (h5.mv m1) (hl.mv m1)) ?_
      rintro _ u3 w6 A6 ⟨a4, c3, fs2, rfl, hn4, hck2⟩ g3
      have hblhn4 := hn4.blk_lt; have hglhn4 := g3.le
      refine J.grab hn4 ?_
      have m6 := g3.grab hn4
      replace hs := hs.mv m6; replace hp := hp.mv m6; replace h3 := h3.mv m6; replace h4 := h4.mv m6; replace h5 := h5.mv m6; replace hl := hl.mv m6; replace h12 := h12.mv m6; replace h14 := h14.mv m6; replace h15 := h15.mv m6; replace hq2 := hq2.mv m6; replace hp1 := hp1.mv m6
      replace hn4 := hn4.take g3 rfl
      rw [hll]
      have hfl := hck2.len; have hcl := chkF_le bits leaf ((ls.take (half n))) i ((path.take (pn - 1))); rw [hll] at hcl
      refine J.take1 [(7, .u), (8, .u), (9, .u)] [3, 9, 12, 14, 15, 16, 63, 64] [(3, .v (.pointer (some ⟨q3, 0, none⟩))), (9, .loc 1 0), (12, .v (.pointer (some ⟨b12, 0, none⟩))), (14, .v (.pointer (some ⟨b14, 0, none⟩))), (15, .v (.pointer (some ⟨b15, 0, none⟩))), (16, .loc 2 0), (63, .v (.agg (dcells (upD bits leaf (half n) i (path.take (pn - 1)))).toArray)), (64, .v (.slice a4 fs2.length c3))] [9, 8, 7, 6, 10, 3, 0, 5, 4, 2, 1] (calm_body _ _ _) (by kernel_rfl) ?_
      refine J.pick1 11 (by kernel_rfl) (by kernel_rfl) ?_
      refine J.storeqN (i := 2) (m' := [⟨47, [.slice a n c]⟩, ⟨34, dcells dg0⟩, ⟨34, dcells (upD bits leaf (half n) i (path.take (pn - 1)))⟩]) (by kernel_rfl) (show w1.heap.size ≤ b23 by have := m6.size; omega) ?_
      refine J.take1 [(12, .u)] [3, 9, 12, 14, 15, 16, 17] [(3, .v (.pointer (some ⟨q3, 0, none⟩))), (9, .loc 1 0), (12, .v (.pointer (some ⟨b12, 0, none⟩))), (14, .v (.pointer (some ⟨b14, 0, none⟩))), (15, .v (.pointer (some ⟨b15, 0, none⟩))), (16, .loc 2 0), (17, .v (.slice a4 fs2.length c3))] [12, 11, 9, 8, 7, 6, 10, 3, 0, 5, 4, 2, 1] (calm_body _ _ _) (by kernel_rfl) ?_
      refine J.pdone (by kernel_rfl) ?_
      refine J.asPtr 2 ?_
      refine J.freeze 2 rfl (by kernel_rfl) (fun h => h) (L := ⟨34, dcells (upD bits leaf (half n) i (path.take (pn - 1)))⟩) rfl (fun w7 A7 m7 hs2 hr3 hn5 => ?_)
      replace hs := hs.mv m7; replace hp := hp.mv m7; replace h3 := h3.mv m7; replace h4 := h4.mv m7; replace h5 := h5.mv m7; replace hl := hl.mv m7; replace h12 := h12.mv m7; replace h14 := h14.mv m7; replace h15 := h15.mv m7; replace hq2 := hq2.mv m7; replace hp1 := hp1.mv m7; replace hck2 := hck2.mv m7; replace hn4 := hn4.mv m7
      replace hn4 := hn4.fewer (ρ' := [b1, b2]) (by simp)
      have h16 : Sl 32 dcells A7 w7 (some ⟨b23, 0, none⟩) 1 1 [(upD bits leaf (half n) i (path.take (pn - 1)))] := Sl.ofRow (enc := dcells) (l := [(upD bits leaf (half n) i (path.take (pn - 1)))]) (kk := 32) (b := b23) (cs := dcells (upD bits leaf (half n) i (path.take (pn - 1)))) hr3 hn5 rfl (fun x _ => rfl) rfl (by simp only [maxLen]; omega)
      refine J.rn [.n, .n] [3, 9, 12, 14, 15, 16, 17] [.c 22, .c 26] [.o 23 0, .c 24, .c 26] (by kernel_rfl) ?_
      refine J.ld (T := 32) (b := q3) (off := 0) (d := 65) (v := .agg [.int .i64 bits].toArray) (by kernel_rfl) (fun w1 A1 m1 l1 => (h3.mv m1).tr0) ?_
      refine J.ld (T := 34) (b := b23) (off := 0) (d := 66) (v := .agg (dcells (upD bits leaf (half n) i (path.take (pn - 1)))).toArray) (by kernel_rfl) (fun w1 A1 m1 l1 => (h16.mv m1).dg0) ?_
      refine J.ld (T := 34) (b := b12) (off := 0) (d := 67) (v := .agg (dcells x).toArray) (by kernel_rfl) (fun w1 A1 m1 l1 => (h12.mv m1).dg0) ?_
      refine J.call (d := some 68) (by kernel_rfl) (fun w1 A1 m1 l1 => node_calls bits (upD bits leaf (half n) i (path.take (pn - 1))) x nobody w1 noA) ?_
      rintro _ u4 w8 A8 rfl g4
      have m8 := g4.mv
      replace hs := hs.mv m8; replace hp := hp.mv m8; replace h3 := h3.mv m8; replace h4 := h4.mv m8; replace h5 := h5.mv m8; replace hl := hl.mv m8; replace h12 := h12.mv m8; replace h14 := h14.mv m8; replace h15 := h15.mv m8; replace hq2 := hq2.mv m8; replace hp1 := hp1.mv m8; replace hck2 := hck2.mv m8; replace h16 := h16.mv m8; replace hn4 := hn4.mv m8
      refine J.run [.u, .u] [9, 68, 69, 70] ⟨[(9, .loc 1 0), (68, .v (.agg (dcells (nodeF bits (upD bits leaf (half n) i (path.take (pn - 1))) x)).toArray)), (69, .v (.slice a4 fs2.length c3)), (70, .v ((.func (.func 47) #[] #[.pointer (some ⟨b23, 0, none⟩), .pointer (some ⟨b12, 0, none⟩), .pointer (some ⟨b14, 0, none⟩), .pointer (some ⟨b15, 0, none⟩)])))], [⟨47, [.slice a n c]⟩, ⟨34, dcells dg0⟩]⟩ [.o 23 4, .c 24, .c 26] [.o 23 6, .c 24, .c 26] (by kernel_rfl) ?_
      refine J.new (T := 1) (cs := [(.func (.func 47) #[] #[.pointer (some ⟨b23, 0, none⟩), .pointer (some ⟨b12, 0, none⟩), .pointer (some ⟨b14, 0, none⟩), .pointer (some ⟨b15, 0, none⟩)])]) (d := 71) (K := (.sl 1)) (by kernel_rfl) (fun b24 hb24 => ?_)
      replace hn4 := hn4.more hb24
      refine J.append (e := 1) (sz := 1) (a := a4) (nn := fs2.length) (c := c3) (T := 85) (Tx := 85) (x := .slice (some ⟨b24, 0, none⟩) 1 1) (bytes := 8) (d := 72) (xs := fs2.flatMap encV) (news := [(.func (.func 47) #[] #[.pointer (some ⟨b23, 0, none⟩), .pointer (some ⟨b12, 0, none⟩), .pointer (some ⟨b14, 0, none⟩), .pointer (some ⟨b15, 0, none⟩)])]) (m := 1) (by kernel_rfl) (by kernel_rfl) hn4.own (.inr hn4) (fun w1 A1 m1 l1 => l1.src (i := 2) rfl (e := 1) (by kernel_rfl) rfl rfl) (by simp only [maxLen]; omega) (by omega) ?_
      intro a5 c4 w9 A9 hn6 m9
      replace hs := hs.mv m9; replace hp := hp.mv m9; replace h3 := h3.mv m9; replace h4 := h4.mv m9; replace h5 := h5.mv m9; replace hl := hl.mv m9; replace h12 := h12.mv m9; replace h14 := h14.mv m9; replace h15 := h15.mv m9; replace hq2 := hq2.mv m9; replace hp1 := hp1.mv m9; replace hck2 := hck2.mv m9; replace h16 := h16.mv m9
      replace hn6 := hn6.re (n' := fs2.length + 1) (ys := (fs2 ++ [Value.func (.func 47) #[] #[.pointer (some ⟨b23, 0, none⟩), .pointer (some ⟨b12, 0, none⟩), .pointer (some ⟨b14, 0, none⟩), .pointer (some ⟨b15, 0, none⟩)]]).flatMap encV) rfl (by first | (simp only [List.flatMap_append, dbytes_flat, byteCells_u8]; done) | (rw [List.flatMap_append]; rfl))
      refine J.rn [.u, .u, .n] [9, 10] [.o 23 8, .c 24, .c 26] [.c 24, .c 26] (by kernel_rfl) ?_
      have hg : ∀ w1 A1, Mv (Lb [b1, b2, b24]) A9 A1 w9 w1 → (∀ k, Ac k → A1 k) → ∀ k, Gr Ac a5 k → A1 k := fun w1 A1 m1 hac k h => h.elim (hac k) (fun h => ((hn6.mv m1).own_blk k h).2.2.1)
      refine J.ret (v := .tuple #[.agg (dcells (nodeF bits (upD bits leaf (half n) i (path.take (pn - 1))) x)).toArray, .slice a5 (fs2.length + 1) c4]) (by kernel_rfl) (by kernel_rfl) (fun w1 A1 m1 hac l1 => ⟨a5, c4, fs2 ++ [Value.func (.func 47) #[] #[.pointer (some ⟨b23, 0, none⟩), .pointer (some ⟨b12, 0, none⟩), .pointer (some ⟨b14, 0, none⟩), .pointer (some ⟨b15, 0, none⟩)]], by rw [upD_lo (n := ls.length) (by omega) (by rw [← hlen]; omega) hpl (by rw [← hpn]; exact hx), ← hlen, ← hpn, List.length_append]; rfl, by rw [List.length_append]; exact (hn6.mv m1).new, by rw [chkF_lo (by omega) (by rw [← hlen]; omega) (by rw [← hpn]; exact hx), ← hlen, ← hpn]; exact ((hck2.mv m1).weaken (hg _ _ m1 hac) m1.bdd).snoc (Chk.left ((h16.mv m1).weaken (hg _ _ m1 hac)) ((h12.mv m1).weaken (hg _ _ m1 hac)) ((h14.mv m1).weaken (hg _ _ m1 hac)) ((h15.mv m1).weaken (hg _ _ m1 hac)))⟩)
  · try simp only [nrm] at hc
    have hc1 := hc
    refine J.run [.n, .n] [1, 3, 5, 6, 9, 11, 12, 13, 14, 15] ⟨[(1, .v (.int .i64 ((i : Nat) : Int))), (3, .v (.pointer (some ⟨q3, 0, none⟩))), (5, .v (.pointer (some ⟨q5, 0, none⟩))), (6, .loc 0 0), (9, .loc 1 0), (11, .v (.int .i64 ((half n : Nat) : Int))), (12, .v (.pointer (some ⟨b12, 0, none⟩))), (13, .v (.slice pa (pn - 1) pc)), (14, .v (.pointer (some ⟨b14, 0, none⟩))), (15, .v (.pointer (some ⟨b15, 0, none⟩)))], [⟨47, [.slice a n c]⟩, ⟨34, dcells dg0⟩]⟩ [.c 25, .c 26] [.c 27, .c 28] (by kernel_rfl) ?_
    refine J.draw [] nobody (by kernel_rfl) (by kernel_rfl) (fun _ h => h.elim) (fun w10 A10 m10 hr4 hX2 => ?_)
    replace hs := hs.mv m10; replace hp := hp.mv m10; replace h3 := h3.mv m10; replace h4 := h4.mv m10; replace h5 := h5.mv m10; replace hl := hl.mv m10; replace h12 := h12.mv m10; replace h14 := h14.mv m10; replace h15 := h15.mv m10; replace hq2 := hq2.mv m10
    refine J.take0 [(1, .u), (2, .u), (4, .u), (5, .u), (6, .u), (7, .u)] [3, 5, 9, 12, 14, 15, 75, 76, 80, 81] [(3, .v (.pointer (some ⟨q3, 0, none⟩))), (5, .v (.pointer (some ⟨q5, 0, none⟩))), (9, .loc 1 0), (12, .v (.pointer (some ⟨b12, 0, none⟩))), (14, .v (.pointer (some ⟨b14, 0, none⟩))), (15, .v (.pointer (some ⟨b15, 0, none⟩))), (75, .v (.slice a n c)), (76, .v (.int .i64 ((half n : Nat) : Int))), (80, .v (.int .i64 (IntKind.i64.wrap (((i : Nat) : Int) - ((half n : Nat) : Int))))), (81, .v (.slice pa (pn - 1) pc))] [7, 6, 5, 4, 2, 1] (calm_body _ _ _) (by intro k _ h; exact h) hr4 (by kernel_rfl) ?_
    rw [hik (half n) (by omega)]
    refine J.ldp (i := 0) (T := 84) (b := q5) (off := 0) (d := 74) (v := (.func (.func 40) #[] #[ptr q3, ptr q4, ptr q5])) (calm_body _ _ _) (by kernel_rfl) (by kernel_rfl) hX2 (fun w1 m1 => (h5.mv m1).ld1 (by kernel_rfl) (one0 _) (j := 0) rfl) ?_
    refine J.slp (j := 3) (a := a) (len := n) (cap := c) (sz := 1) (lo := (some ((half n : Nat) : Int))) (hi := none) (mx := none) (d := 77) (calm_body _ _ _) (by kernel_rfl) (by kernel_rfl) (half n) n c (by simp) (by simp) (by simp) (by have := hs.le; omega) (by have := hs.le; omega) (by have := hs.le; omega) (by simp) ?_
    intro a6 ha2 hb2
    have hp2 := hs.from (L := half n) (by have := hs.le; omega) ha2
    refine J.pick [8, 12] (by kernel_rfl) (by kernel_rfl) (by simp) (fun i hi => ?_)
    simp only [List.mem_cons, List.not_mem_nil, or_false] at hi
    rcases hi with rfl | rfl
    · skip
      have hll : ((ls.drop (half n))).length = (n - half n) := by simp; omega
      have hsl : ((path.take (pn - 1))).length = (sides ((ls.drop (half n))).length (i - half n)).length := by rw [hll, List.length_take, Nat.min_eq_left (by omega)]; exact sides_drop (by omega) (by omega) (by rw [hpn, hpl, hlen])
      refine J.callVq (g := 40) (cb := [ptr q3, ptr q4, ptr q5]) (args := [.slice a6 (n - (half n)) (c - (half n)), .int .i64 ((i - half n : Nat) : Int), .slice pa (pn - 1) pc]) (d := some 82) (by kernel_rfl) (enters_of Try.func40 (by kernel_rfl) rfl) (fun w1 A1 m1 l1 => ih a6 (n - (half n)) (c - (half n)) (ls.drop (half n)) (i - half n) pa (pn - 1) pc (path.take (pn - 1)) (by rw [hll]; omega) (by rw [hll]; omega) hsl (by first | assumption | exact Short.take (by assumption) _ | exact Short.drop (by assumption) _ | exact Short.drop (Short.take (by assumption) _) _) (by rw [hll]; omega) A1 w1 m1.bdd (hp2.mv m1) (hq2.mv m1) (h3.mv m1) (h4.mv m1) (h5.mv m1) (hl.mv m1)) ?_
      rintro _ u5 w11 A11 ⟨a7, c5, fs3, rfl, hn7, hck3⟩ g5
      have hblhn7 := hn7.blk_lt; have hglhn7 := g5.le
      refine J.grab hn7 ?_
      have m11 := g5.grab hn7
      replace hs := hs.mv m11; replace hp := hp.mv m11; replace h3 := h3.mv m11; replace h4 := h4.mv m11; replace h5 := h5.mv m11; replace hl := hl.mv m11; replace h12 := h12.mv m11; replace h14 := h14.mv m11; replace h15 := h15.mv m11; replace hq2 := hq2.mv m11; replace hp2 := hp2.mv m11
      replace hn7 := hn7.take g5 rfl
      rw [hll]
      have hfl := hck3.len; have hcl := chkF_le bits leaf ((ls.drop (half n))) (i - half n) ((path.take (pn - 1))); rw [hll] at hcl
      refine J.take1 [(9, .u), (10, .u), (11, .u)] [3, 9, 12, 14, 15, 83, 84] [(3, .v (.pointer (some ⟨q3, 0, none⟩))), (9, .loc 1 0), (12, .v (.pointer (some ⟨b12, 0, none⟩))), (14, .v (.pointer (some ⟨b14, 0, none⟩))), (15, .v (.pointer (some ⟨b15, 0, none⟩))), (83, .v (.agg (dcells (upD bits leaf (n - half n) (i - half n) (path.take (pn - 1)))).toArray)), (84, .v (.slice a7 fs3.length c5))] [11, 10, 9, 8, 3, 0, 7, 6, 5, 4, 2, 1] (calm_body _ _ _) (by kernel_rfl) ?_
      refine J.pick1 12 (by kernel_rfl) (by kernel_rfl) ?_
      refine J.newq (T := 34) (cs := dcells dg0) (d := 18) (K := .ptr) (by kernel_rfl) (fun b25 hb25 => ?_)
      replace hn7 := hn7.more hb25
      refine J.pick1 13 (by kernel_rfl) (by kernel_rfl) ?_
      refine J.storeqN (i := 2) (m' := [⟨47, [.slice a n c]⟩, ⟨34, dcells dg0⟩, ⟨34, dcells (upD bits leaf (n - half n) (i - half n) (path.take (pn - 1)))⟩]) (by kernel_rfl) (show w10.heap.size ≤ b25 by have := m11.size; omega) ?_
      refine J.take1 [(14, .u)] [3, 9, 12, 14, 15, 18, 19] [(3, .v (.pointer (some ⟨q3, 0, none⟩))), (9, .loc 1 0), (12, .v (.pointer (some ⟨b12, 0, none⟩))), (14, .v (.pointer (some ⟨b14, 0, none⟩))), (15, .v (.pointer (some ⟨b15, 0, none⟩))), (18, .loc 2 0), (19, .v (.slice a7 fs3.length c5))] [14, 13, 12, 11, 10, 9, 8, 3, 0, 7, 6, 5, 4, 2, 1] (calm_body _ _ _) (by kernel_rfl) ?_
      refine J.pdone (by kernel_rfl) ?_
      refine J.asPtr 2 ?_
      refine J.freeze 2 rfl (by kernel_rfl) (fun h => h) (L := ⟨34, dcells (upD bits leaf (n - half n) (i - half n) (path.take (pn - 1)))⟩) rfl (fun w12 A12 m12 hs3 hr5 hn8 => ?_)
      replace hs := hs.mv m12; replace hp := hp.mv m12; replace h3 := h3.mv m12; replace h4 := h4.mv m12; replace h5 := h5.mv m12; replace hl := hl.mv m12; replace h12 := h12.mv m12; replace h14 := h14.mv m12; replace h15 := h15.mv m12; replace hq2 := hq2.mv m12; replace hp2 := hp2.mv m12; replace hck3 := hck3.mv m12; replace hn7 := hn7.mv m12
      replace hn7 := hn7.fewer (ρ' := [b1, b2]) (by simp)
      have h16 : Sl 32 dcells A12 w12 (some ⟨b25, 0, none⟩) 1 1 [(upD bits leaf (n - half n) (i - half n) (path.take (pn - 1)))] := Sl.ofRow (enc := dcells) (l := [(upD bits leaf (n - half n) (i - half n) (path.take (pn - 1)))]) (kk := 32) (b := b25) (cs := dcells (upD bits leaf (n - half n) (i - half n) (path.take (pn - 1)))) hr5 hn8 rfl (fun x _ => rfl) rfl (by simp only [maxLen]; omega)
      refine J.rn [.n, .n] [3, 9, 12, 14, 15, 18, 19] [.c 28] [.o 29 0, .c 30] (by kernel_rfl) ?_
      refine J.ld (T := 32) (b := q3) (off := 0) (d := 85) (v := .agg [.int .i64 bits].toArray) (by kernel_rfl) (fun w1 A1 m1 l1 => (h3.mv m1).tr0) ?_
      refine J.ld (T := 34) (b := b12) (off := 0) (d := 86) (v := .agg (dcells x).toArray) (by kernel_rfl) (fun w1 A1 m1 l1 => (h12.mv m1).dg0) ?_
      refine J.ld (T := 34) (b := b25) (off := 0) (d := 87) (v := .agg (dcells (upD bits leaf (n - half n) (i - half n) (path.take (pn - 1)))).toArray) (by kernel_rfl) (fun w1 A1 m1 l1 => (h16.mv m1).dg0) ?_
      refine J.call (d := some 88) (by kernel_rfl) (fun w1 A1 m1 l1 => node_calls bits x (upD bits leaf (n - half n) (i - half n) (path.take (pn - 1))) nobody w1 noA) ?_
      rintro _ u6 w13 A13 rfl g6
      have m13 := g6.mv
      replace hs := hs.mv m13; replace hp := hp.mv m13; replace h3 := h3.mv m13; replace h4 := h4.mv m13; replace h5 := h5.mv m13; replace hl := hl.mv m13; replace h12 := h12.mv m13; replace h14 := h14.mv m13; replace h15 := h15.mv m13; replace hq2 := hq2.mv m13; replace hp2 := hp2.mv m13; replace hck3 := hck3.mv m13; replace h16 := h16.mv m13; replace hn7 := hn7.mv m13
      refine J.run [.u, .u] [9, 88, 89, 90] ⟨[(9, .loc 1 0), (88, .v (.agg (dcells (nodeF bits x (upD bits leaf (n - half n) (i - half n) (path.take (pn - 1))))).toArray)), (89, .v (.slice a7 fs3.length c5)), (90, .v ((.func (.func 49) #[] #[.pointer (some ⟨b12, 0, none⟩), .pointer (some ⟨b25, 0, none⟩), .pointer (some ⟨b14, 0, none⟩), .pointer (some ⟨b15, 0, none⟩)])))], [⟨47, [.slice a n c]⟩, ⟨34, dcells dg0⟩]⟩ [.o 29 4, .c 30] [.o 29 6, .c 30] (by kernel_rfl) ?_
      refine J.new (T := 1) (cs := [(.func (.func 49) #[] #[.pointer (some ⟨b12, 0, none⟩), .pointer (some ⟨b25, 0, none⟩), .pointer (some ⟨b14, 0, none⟩), .pointer (some ⟨b15, 0, none⟩)])]) (d := 91) (K := (.sl 1)) (by kernel_rfl) (fun b26 hb26 => ?_)
      replace hn7 := hn7.more hb26
      refine J.append (e := 1) (sz := 1) (a := a7) (nn := fs3.length) (c := c5) (T := 85) (Tx := 85) (x := .slice (some ⟨b26, 0, none⟩) 1 1) (bytes := 8) (d := 92) (xs := fs3.flatMap encV) (news := [(.func (.func 49) #[] #[.pointer (some ⟨b12, 0, none⟩), .pointer (some ⟨b25, 0, none⟩), .pointer (some ⟨b14, 0, none⟩), .pointer (some ⟨b15, 0, none⟩)])]) (m := 1) (by kernel_rfl) (by kernel_rfl) hn7.own (.inr hn7) (fun w1 A1 m1 l1 => l1.src (i := 2) rfl (e := 1) (by kernel_rfl) rfl rfl) (by simp only [maxLen]; omega) (by omega) ?_
      intro a8 c6 w14 A14 hn9 m14
      replace hs := hs.mv m14; replace hp := hp.mv m14; replace h3 := h3.mv m14; replace h4 := h4.mv m14; replace h5 := h5.mv m14; replace hl := hl.mv m14; replace h12 := h12.mv m14; replace h14 := h14.mv m14; replace h15 := h15.mv m14; replace hq2 := hq2.mv m14; replace hp2 := hp2.mv m14; replace hck3 := hck3.mv m14; replace h16 := h16.mv m14
      replace hn9 := hn9.re (n' := fs3.length + 1) (ys := (fs3 ++ [Value.func (.func 49) #[] #[.pointer (some ⟨b12, 0, none⟩), .pointer (some ⟨b25, 0, none⟩), .pointer (some ⟨b14, 0, none⟩), .pointer (some ⟨b15, 0, none⟩)]]).flatMap encV) rfl (by first | (simp only [List.flatMap_append, dbytes_flat, byteCells_u8]; done) | (rw [List.flatMap_append]; rfl))
      refine J.rn [.u, .u, .n] [9, 10] [.o 29 8, .c 30] [.c 30] (by kernel_rfl) ?_
      have hg : ∀ w1 A1, Mv (Lb [b1, b2, b26]) A14 A1 w14 w1 → (∀ k, Ac k → A1 k) → ∀ k, Gr Ac a8 k → A1 k := fun w1 A1 m1 hac k h => h.elim (hac k) (fun h => ((hn9.mv m1).own_blk k h).2.2.1)
      refine J.ret (v := .tuple #[.agg (dcells (nodeF bits x (upD bits leaf (n - half n) (i - half n) (path.take (pn - 1))))).toArray, .slice a8 (fs3.length + 1) c6]) (by kernel_rfl) (by kernel_rfl) (fun w1 A1 m1 hac l1 => ⟨a8, c6, fs3 ++ [Value.func (.func 49) #[] #[.pointer (some ⟨b12, 0, none⟩), .pointer (some ⟨b25, 0, none⟩), .pointer (some ⟨b14, 0, none⟩), .pointer (some ⟨b15, 0, none⟩)]], by rw [upD_hi (n := ls.length) (by omega) (by rw [← hlen]; omega) hpl (by rw [← hpn]; exact hx), ← hlen, ← hpn, List.length_append]; rfl, by rw [List.length_append]; exact (hn9.mv m1).new, by rw [chkF_hi (by omega) (by rw [← hlen]; omega) (by rw [← hpn]; exact hx), ← hlen, ← hpn]; exact ((hck3.mv m1).weaken (hg _ _ m1 hac) m1.bdd).snoc (Chk.right ((h12.mv m1).weaken (hg _ _ m1 hac)) ((h16.mv m1).weaken (hg _ _ m1 hac)) ((h14.mv m1).weaken (hg _ _ m1 hac)) ((h15.mv m1).weaken (hg _ _ m1 hac)))⟩)
    · skip
      refine J.newq (T := 34) (cs := dcells dg0) (d := 18) (K := .ptr) (by kernel_rfl) (fun b27 hb27 => ?_)
      refine J.pick1 8 (by kernel_rfl) (by kernel_rfl) ?_
      have hll : ((ls.drop (half n))).length = (n - half n) := by simp; omega
      have hsl : ((path.take (pn - 1))).length = (sides ((ls.drop (half n))).length (i - half n)).length := by rw [hll, List.length_take, Nat.min_eq_left (by omega)]; exact sides_drop (by omega) (by omega) (by rw [hpn, hpl, hlen])
      refine J.callVq (g := 40) (cb := [ptr q3, ptr q4, ptr q5]) (args := [.slice a6 (n - (half n)) (c - (half n)), .int .i64 ((i - half n : Nat) : Int), .slice pa (pn - 1) pc]) (d := some 82) (by kernel_rfl) (enters_of Try.func40 (by kernel_rfl) rfl) (fun w1 A1 m1 l1 => ih a6 (n - (half n)) (c - (half n)) (ls.drop (half n)) (i - half n) pa (pn - 1) pc (path.take (pn - 1)) (by rw [hll]; omega) (by rw [hll]; omega) hsl (by first | assumption | exact Short.take (by assumption) _ | exact Short.drop (by assumption) _ | exact Short.drop (Short.take (by assumption) _) _) (by rw [hll]; omega) A1 w1 m1.bdd (hp2.mv m1) (hq2.mv m1) (h3.mv m1) (h4.mv m1) (h5.mv m1) (hl.mv m1)) ?_
      rintro _ u7 w15 A15 ⟨a9, c7, fs4, rfl, hn10, hck4⟩ g7
      have hblhn10 := hn10.blk_lt; have hglhn10 := g7.le
      refine J.grab hn10 ?_
      have m15 := g7.grab hn10
      replace hs := hs.mv m15; replace hp := hp.mv m15; replace h3 := h3.mv m15; replace h4 := h4.mv m15; replace h5 := h5.mv m15; replace hl := hl.mv m15; replace h12 := h12.mv m15; replace h14 := h14.mv m15; replace h15 := h15.mv m15; replace hq2 := hq2.mv m15; replace hp2 := hp2.mv m15
      replace hn10 := hn10.take g7 rfl
      rw [hll]
      have hfl := hck4.len; have hcl := chkF_le bits leaf ((ls.drop (half n))) (i - half n) ((path.take (pn - 1))); rw [hll] at hcl
      refine J.take1 [(9, .u), (10, .u), (11, .u)] [3, 9, 12, 14, 15, 18, 83, 84] [(3, .v (.pointer (some ⟨q3, 0, none⟩))), (9, .loc 1 0), (12, .v (.pointer (some ⟨b12, 0, none⟩))), (14, .v (.pointer (some ⟨b14, 0, none⟩))), (15, .v (.pointer (some ⟨b15, 0, none⟩))), (18, .loc 2 0), (83, .v (.agg (dcells (upD bits leaf (n - half n) (i - half n) (path.take (pn - 1)))).toArray)), (84, .v (.slice a9 fs4.length c7))] [11, 10, 9, 8, 12, 3, 0, 7, 6, 5, 4, 2, 1] (calm_body _ _ _) (by kernel_rfl) ?_
      refine J.pick1 13 (by kernel_rfl) (by kernel_rfl) ?_
      refine J.storeqN (i := 2) (m' := [⟨47, [.slice a n c]⟩, ⟨34, dcells dg0⟩, ⟨34, dcells (upD bits leaf (n - half n) (i - half n) (path.take (pn - 1)))⟩]) (by kernel_rfl) (show w10.heap.size ≤ b27 by have := m15.size; omega) ?_
      refine J.take1 [(14, .u)] [3, 9, 12, 14, 15, 18, 19] [(3, .v (.pointer (some ⟨q3, 0, none⟩))), (9, .loc 1 0), (12, .v (.pointer (some ⟨b12, 0, none⟩))), (14, .v (.pointer (some ⟨b14, 0, none⟩))), (15, .v (.pointer (some ⟨b15, 0, none⟩))), (18, .loc 2 0), (19, .v (.slice a9 fs4.length c7))] [14, 13, 11, 10, 9, 8, 12, 3, 0, 7, 6, 5, 4, 2, 1] (calm_body _ _ _) (by kernel_rfl) ?_
      refine J.pdone (by kernel_rfl) ?_
      refine J.asPtr 2 ?_
      refine J.freeze 2 rfl (by kernel_rfl) (fun h => h) (L := ⟨34, dcells (upD bits leaf (n - half n) (i - half n) (path.take (pn - 1)))⟩) rfl (fun w16 A16 m16 hs4 hr6 hn11 => ?_)
      replace hs := hs.mv m16; replace hp := hp.mv m16; replace h3 := h3.mv m16; replace h4 := h4.mv m16; replace h5 := h5.mv m16; replace hl := hl.mv m16; replace h12 := h12.mv m16; replace h14 := h14.mv m16; replace h15 := h15.mv m16; replace hq2 := hq2.mv m16; replace hp2 := hp2.mv m16; replace hck4 := hck4.mv m16; replace hn10 := hn10.mv m16
      replace hn10 := hn10.fewer (ρ' := [b1, b2]) (by simp)
      have h16 : Sl 32 dcells A16 w16 (some ⟨b27, 0, none⟩) 1 1 [(upD bits leaf (n - half n) (i - half n) (path.take (pn - 1)))] := Sl.ofRow (enc := dcells) (l := [(upD bits leaf (n - half n) (i - half n) (path.take (pn - 1)))]) (kk := 32) (b := b27) (cs := dcells (upD bits leaf (n - half n) (i - half n) (path.take (pn - 1)))) hr6 hn11 rfl (fun x _ => rfl) rfl (by simp only [maxLen]; omega)
      refine J.rn [.n, .n] [3, 9, 12, 14, 15, 18, 19] [.c 28] [.o 29 0, .c 30] (by kernel_rfl) ?_
      refine J.ld (T := 32) (b := q3) (off := 0) (d := 85) (v := .agg [.int .i64 bits].toArray) (by kernel_rfl) (fun w1 A1 m1 l1 => (h3.mv m1).tr0) ?_
      refine J.ld (T := 34) (b := b12) (off := 0) (d := 86) (v := .agg (dcells x).toArray) (by kernel_rfl) (fun w1 A1 m1 l1 => (h12.mv m1).dg0) ?_
      refine J.ld (T := 34) (b := b27) (off := 0) (d := 87) (v := .agg (dcells (upD bits leaf (n - half n) (i - half n) (path.take (pn - 1)))).toArray) (by kernel_rfl) (fun w1 A1 m1 l1 => (h16.mv m1).dg0) ?_
      refine J.call (d := some 88) (by kernel_rfl) (fun w1 A1 m1 l1 => node_calls bits x (upD bits leaf (n - half n) (i - half n) (path.take (pn - 1))) nobody w1 noA) ?_
      rintro _ u9 w17 A17 rfl g8
      have m17 := g8.mv
      replace hs := hs.mv m17; replace hp := hp.mv m17; replace h3 := h3.mv m17; replace h4 := h4.mv m17; replace h5 := h5.mv m17; replace hl := hl.mv m17; replace h12 := h12.mv m17; replace h14 := h14.mv m17; replace h15 := h15.mv m17; replace hq2 := hq2.mv m17; replace hp2 := hp2.mv m17; replace hck4 := hck4.mv m17; replace h16 := h16.mv m17; replace hn10 := hn10.mv m17
      refine J.run [.u, .u] [9, 88, 89, 90] ⟨[(9, .loc 1 0), (88, .v (.agg (dcells (nodeF bits x (upD bits leaf (n - half n) (i - half n) (path.take (pn - 1))))).toArray)), (89, .v (.slice a9 fs4.length c7)), (90, .v ((.func (.func 49) #[] #[.pointer (some ⟨b12, 0, none⟩), .pointer (some ⟨b27, 0, none⟩), .pointer (some ⟨b14, 0, none⟩), .pointer (some ⟨b15, 0, none⟩)])))], [⟨47, [.slice a n c]⟩, ⟨34, dcells dg0⟩]⟩ [.o 29 4, .c 30] [.o 29 6, .c 30] (by kernel_rfl) ?_
      refine J.new (T := 1) (cs := [(.func (.func 49) #[] #[.pointer (some ⟨b12, 0, none⟩), .pointer (some ⟨b27, 0, none⟩), .pointer (some ⟨b14, 0, none⟩), .pointer (some ⟨b15, 0, none⟩)])]) (d := 91) (K := (.sl 1)) (by kernel_rfl) (fun b28 hb28 => ?_)
      replace hn10 := hn10.more hb28
      refine J.append (e := 1) (sz := 1) (a := a9) (nn := fs4.length) (c := c7) (T := 85) (Tx := 85) (x := .slice (some ⟨b28, 0, none⟩) 1 1) (bytes := 8) (d := 92) (xs := fs4.flatMap encV) (news := [(.func (.func 49) #[] #[.pointer (some ⟨b12, 0, none⟩), .pointer (some ⟨b27, 0, none⟩), .pointer (some ⟨b14, 0, none⟩), .pointer (some ⟨b15, 0, none⟩)])]) (m := 1) (by kernel_rfl) (by kernel_rfl) hn10.own (.inr hn10) (fun w1 A1 m1 l1 => l1.src (i := 2) rfl (e := 1) (by kernel_rfl) rfl rfl) (by simp only [maxLen]; omega) (by omega) ?_
      intro a10 c8 w18 A18 hn12 m18
      replace hs := hs.mv m18; replace hp := hp.mv m18; replace h3 := h3.mv m18; replace h4 := h4.mv m18; replace h5 := h5.mv m18; replace hl := hl.mv m18; replace h12 := h12.mv m18; replace h14 := h14.mv m18; replace h15 := h15.mv m18; replace hq2 := hq2.mv m18; replace hp2 := hp2.mv m18; replace hck4 := hck4.mv m18; replace h16 := h16.mv m18
      replace hn12 := hn12.re (n' := fs4.length + 1) (ys := (fs4 ++ [Value.func (.func 49) #[] #[.pointer (some ⟨b12, 0, none⟩), .pointer (some ⟨b27, 0, none⟩), .pointer (some ⟨b14, 0, none⟩), .pointer (some ⟨b15, 0, none⟩)]]).flatMap encV) rfl (by first | (simp only [List.flatMap_append, dbytes_flat, byteCells_u8]; done) | (rw [List.flatMap_append]; rfl))
      refine J.rn [.u, .u, .n] [9, 10] [.o 29 8, .c 30] [.c 30] (by kernel_rfl) ?_
      have hg : ∀ w1 A1, Mv (Lb [b1, b2, b28]) A18 A1 w18 w1 → (∀ k, Ac k → A1 k) → ∀ k, Gr Ac a10 k → A1 k := fun w1 A1 m1 hac k h => h.elim (hac k) (fun h => ((hn12.mv m1).own_blk k h).2.2.1)
      refine J.ret (v := .tuple #[.agg (dcells (nodeF bits x (upD bits leaf (n - half n) (i - half n) (path.take (pn - 1))))).toArray, .slice a10 (fs4.length + 1) c8]) (by kernel_rfl) (by kernel_rfl) (fun w1 A1 m1 hac l1 => ⟨a10, c8, fs4 ++ [Value.func (.func 49) #[] #[.pointer (some ⟨b12, 0, none⟩), .pointer (some ⟨b27, 0, none⟩), .pointer (some ⟨b14, 0, none⟩), .pointer (some ⟨b15, 0, none⟩)]], by rw [upD_hi (n := ls.length) (by omega) (by rw [← hlen]; omega) hpl (by rw [← hpn]; exact hx), ← hlen, ← hpn, List.length_append]; rfl, by rw [List.length_append]; exact (hn12.mv m1).new, by rw [chkF_hi (by omega) (by rw [← hlen]; omega) (by rw [← hpn]; exact hx), ← hlen, ← hpn]; exact ((hck4.mv m1).weaken (hg _ _ m1 hac) m1.bdd).snoc (Chk.right ((h12.mv m1).weaken (hg _ _ m1 hac)) ((h16.mv m1).weaken (hg _ _ m1 hac)) ((h14.mv m1).weaken (hg _ _ m1 hac)) ((h15.mv m1).weaken (hg _ _ m1 hac)))⟩)
theorem up_k3 (bits : Int) (leaf : List UInt8) (la : Option Addr) (ln lc : Nat) (q3 q4 q5 : Nat) (hln : ln ≤ 1000000) (a : Option Addr) (n c : Nat) (ls : List (List UInt8)) (i : Nat) (pa : Option Addr) (pn pc : Nat) (path : List Dg) (ih : ∀ (a : Option Addr) (n c : Nat) (l2 : List (List UInt8)) (i2 : Nat) (pa : Option Addr) (pn pc : Nat) (p2 : List Dg), l2.length < ls.length → i2 < l2.length → p2.length = (sides l2.length i2).length → Short l2 → l2.length ≤ 1000000 → ∀ (Ac : Nat → Prop) (W : World), (∀ k, Ac k → k < W.heap.size) → Rows Ac W a n c l2 → Sl 32 dcells Ac W pa pn pc p2 → Sl 1 encV Ac W (some ⟨q3, 0, none⟩) 1 1 [(.int .i64 bits)] → Sl 1 encV Ac W (some ⟨q4, 0, none⟩) 1 1 [(.slice la ln lc)] → Sl 1 encV Ac W (some ⟨q5, 0, none⟩) 1 1 [(.func (.func 40) #[] #[ptr q3, ptr q4, ptr q5])] → Sl 1 u8 Ac W la ln lc leaf → Calls Pr 40 (([.slice a n c, .int .i64 ((i2 : Nat) : Int), .slice pa pn pc] : List Value) ++ [ptr q3, ptr q4, ptr q5]).toArray W (Ret nobody W (UpR Ac W.heap.size bits leaf l2 i2 p2))) (hi : i < ls.length) (hpl : path.length = (sides ls.length i).length) (hsh : Short ls) (hn : ls.length ≤ 1000000) (Ac : Nat → Prop) (W : World) (hA : ∀ k, Ac k → k < W.heap.size) (h2n : 2 ≤ n) (w0 : World) (A : Nat → Prop) (hWw : W.heap.size ≤ w0.heap.size) (b1 b2 : Nat) (hs : Rows A w0 a n c ls) (hp : Sl 32 dcells A w0 pa pn pc path) (h3 : Sl 1 encV A w0 (some ⟨q3, 0, none⟩) 1 1 [(.int .i64 bits)]) (h4 : Sl 1 encV A w0 (some ⟨q4, 0, none⟩) 1 1 [(.slice la ln lc)]) (h5 : Sl 1 encV A w0 (some ⟨q5, 0, none⟩) 1 1 [(.func (.func 40) #[] #[ptr q3, ptr q4, ptr q5])]) (hl : Sl 1 u8 A w0 la ln lc leaf) (x : Dg) (b12 : Nat) (h12 : Sl 32 dcells A w0 (some ⟨b12, 0, none⟩) 1 1 [x]) (hx : path[pn - 1]? = some x) :
    J Pr (bodyOf Try.f40) (bodyPost Pr Try.f40 (Ret nobody W fun v w => UpR Ac W.heap.size bits leaf ls i path v w)) 93 W Ac nobody [.c 12] ⟨[(1, .v (.int .i64 ((i : Nat) : Int))), (2, .v (.slice pa pn pc)), (3, .v (.pointer (some ⟨q3, 0, none⟩))), (5, .v (.pointer (some ⟨q5, 0, none⟩))), (6, .loc 0 0), (9, .loc 1 0), (11, .v (.int .i64 ((half n : Nat) : Int))), (12, .v (.pointer (some ⟨b12, 0, none⟩)))], [⟨47, [.slice a n c]⟩, ⟨34, dcells dg0⟩]⟩ [b1, b2] A w0 := by
  have hlen := hs.len; have hle := hs.le; have hcap := hs.cap; simp only [maxLen] at hcap; have hpn := hp.len; have hple := hp.le; have hpc := hp.cap; simp only [maxLen] at hpc; have hh := half_lt2 n
  have hsd : 2 ≤ n → 1 ≤ pn := fun h => by rw [hpn, hpl, ← hlen]; exact sides_pos h
  have hpn1 : 2 ≤ n → IntKind.i64.wrap (((pn : Nat) : Int) - 1) = ((pn - 1 : Nat) : Int) := fun h => by have := hsd h; rw [wrap_i64 (by omega) (by omega)]; omega
  have hik : ∀ k : Nat, k ≤ i → IntKind.i64.wrap (((i : Nat) : Int) - ((k : Nat) : Int)) = ((i - k : Nat) : Int) := fun k hk => by rw [wrap_i64 (by omega) (by omega)]; omega
  refine J.run [.n, .n, .u, .u, .u, .u] [1, 3, 5, 6, 9, 11, 12, 37, 40] ⟨[(1, .v (.int .i64 ((i : Nat) : Int))), (3, .v (.pointer (some ⟨q3, 0, none⟩))), (5, .v (.pointer (some ⟨q5, 0, none⟩))), (6, .loc 0 0), (9, .loc 1 0), (11, .v (.int .i64 ((half n : Nat) : Int))), (12, .v (.pointer (some ⟨b12, 0, none⟩))), (37, .v (.slice pa pn pc)), (40, .v (.int .i64 (IntKind.i64.wrap (((pn : Nat) : Int) - 1))))], [⟨47, [.slice a n c]⟩, ⟨34, dcells dg0⟩]⟩ [.c 12] [.o 13 4, .c 14] (by kernel_rfl) ?_
  rw [hpn1 (by omega)]
  refine J.sl (a := pa) (len := pn) (cap := pc) (sz := 32) (lo := none) (hi := (some ((pn - 1 : Nat) : Int))) (mx := none) (d := 41) (by kernel_rfl) 0 (pn - 1) pc (by simp) (by simp) (by simp) (by have := hp.le; omega) (by have := hp.le; omega) (by have := hp.le; omega) (by simp) ?_
  intro a1 ha1 hb1
  rw [hb1 rfl, Nat.sub_zero, Nat.sub_zero]; clear ha1 hb1 a1
  have hp1 := hp.upto (H := pn - 1) (X := pc) (by have := hp.le; omega) (by have := hp.le; omega) (by have := hp.le; omega)
  refine J.run [.u, .n, .n] [1, 3, 5, 6, 9, 11, 12, 13] ⟨[(1, .v (.int .i64 ((i : Nat) : Int))), (3, .v (.pointer (some ⟨q3, 0, none⟩))), (5, .v (.pointer (some ⟨q5, 0, none⟩))), (6, .loc 0 0), (9, .loc 1 0), (11, .v (.int .i64 ((half n : Nat) : Int))), (12, .v (.pointer (some ⟨b12, 0, none⟩))), (13, .v (.slice pa (pn - 1) pc))], [⟨47, [.slice a n c]⟩, ⟨34, dcells dg0⟩]⟩ [.o 13 5, .c 14] [.c 15, .c 16] (by kernel_rfl) ?_
  refine J.draw [] nobody (by kernel_rfl) (by kernel_rfl) (fun _ h => h.elim) (fun w1 A1 m1 hr1 hX1 => ?_)
  replace hs := hs.mv m1; replace hp := hp.mv m1; replace h3 := h3.mv m1; replace h4 := h4.mv m1; replace h5 := h5.mv m1; replace hl := hl.mv m1; replace h12 := h12.mv m1; replace hp1 := hp1.mv m1
  refine J.take0 [(1, .u), (2, .u), (6, .u), (7, .u)] [1, 3, 5, 6, 9, 11, 12, 13, 43, 44, 48, 49] [(1, .v (.int .i64 ((i : Nat) : Int))), (3, .v (.pointer (some ⟨q3, 0, none⟩))), (5, .v (.pointer (some ⟨q5, 0, none⟩))), (6, .loc 0 0), (9, .loc 1 0), (11, .v (.int .i64 ((half n : Nat) : Int))), (12, .v (.pointer (some ⟨b12, 0, none⟩))), (13, .v (.slice pa (pn - 1) pc)), (43, .v (.slice a n c)), (44, .v (.int .i64 ((half n : Nat) : Int))), (48, .v (.slice a n c)), (49, .v (.int .i64 ((half n : Nat) : Int)))] [7, 6, 2, 1] (calm_body _ _ _) (by intro k _ h; exact h) hr1 (by kernel_rfl) ?_
  refine J.ldp (i := 0) (T := 32) (b := q3) (off := 0) (d := 42) (v := .agg [.int .i64 bits].toArray) (calm_body _ _ _) (by kernel_rfl) (by kernel_rfl) hX1 (fun w1 m1 => (h3.mv m1).tr0) ?_
  refine J.slp (j := 3) (a := a) (len := n) (cap := c) (sz := 1) (lo := none) (hi := (some ((half n : Nat) : Int))) (mx := none) (d := 45) (calm_body _ _ _) (by kernel_rfl) (by kernel_rfl) 0 (half n) c (by simp) (by simp) (by simp) (by have := hs.le; omega) (by have := hs.le; omega) (by have := hs.le; omega) (by simp) ?_
  intro a2 ha2 hb2
  rw [hb2 rfl, Nat.sub_zero, Nat.sub_zero]; clear ha2 hb2 a2
  have hp2 := hs.upto (H := half n) (X := c) (by have := hs.le; omega) (by have := hs.le; omega) (by have := hs.le; omega)
  refine J.ldp (i := 5) (T := 32) (b := q3) (off := 0) (d := 47) (v := .agg [.int .i64 bits].toArray) (calm_body _ _ _) (by kernel_rfl) (by kernel_rfl) hX1 (fun w1 m1 => (h3.mv m1).tr0) ?_
  refine J.slp (j := 8) (a := a) (len := n) (cap := c) (sz := 1) (lo := (some ((half n : Nat) : Int))) (hi := none) (mx := none) (d := 50) (calm_body _ _ _) (by kernel_rfl) (by kernel_rfl) (half n) n c (by simp) (by simp) (by simp) (by have := hs.le; omega) (by have := hs.le; omega) (by have := hs.le; omega) (by simp) ?_
  intro a3 ha3 hb3
  have hp3 := hs.from (L := half n) (by have := hs.le; omega) ha3
  refine J.pick [4, 10, 11] (by kernel_rfl) (by kernel_rfl) (by simp) (fun i hi => ?_)
  simp only [List.mem_cons, List.not_mem_nil, or_false] at hi
  rcases hi with rfl | rfl | rfl
  · skip
    refine J.callq (d := some 46) (by kernel_rfl) (fun w1 A1 m1 l1 => root_calls bits _ a (half n) c (ls.take (half n)) (Nat.lt_succ_self _) (by first | assumption | exact Short.take (by assumption) _ | exact Short.drop (by assumption) _ | exact Short.drop (Short.take (by assumption) _) _) (by first | omega | (simp; omega)) nobody w1 noA (hp2.mv m1).any) ?_
    rintro _ u1 w2 A2 rfl g1
    have m2 := g1.mv
    replace hs := hs.mv m2; replace hp := hp.mv m2; replace h3 := h3.mv m2; replace h4 := h4.mv m2; replace h5 := h5.mv m2; replace hl := hl.mv m2; replace h12 := h12.mv m2; replace hp1 := hp1.mv m2; replace hp2 := hp2.mv m2; replace hp3 := hp3.mv m2
    refine J.pick [9, 10, 11] (by kernel_rfl) (by kernel_rfl) (by simp) (fun i hi => ?_)
    simp only [List.mem_cons, List.not_mem_nil, or_false] at hi
    rcases hi with rfl | rfl | rfl
    · skip
      refine J.callq (d := some 51) (by kernel_rfl) (fun w1 A1 m1 l1 => root_calls bits _ a3 (n - (half n)) (c - (half n)) (ls.drop (half n)) (Nat.lt_succ_self _) (by first | assumption | exact Short.take (by assumption) _ | exact Short.drop (by assumption) _ | exact Short.drop (Short.take (by assumption) _) _) (by first | omega | (simp; omega)) nobody w1 noA (hp3.mv m1).any) ?_
      rintro _ u2 w3 A3 rfl g2
      have m3 := g2.mv
      replace hs := hs.mv m3; replace hp := hp.mv m3; replace h3 := h3.mv m3; replace h4 := h4.mv m3; replace h5 := h5.mv m3; replace hl := hl.mv m3; replace h12 := h12.mv m3; replace hp1 := hp1.mv m3; replace hp2 := hp2.mv m3; replace hp3 := hp3.mv m3
      refine J.pick [10, 11] (by kernel_rfl) (by kernel_rfl) (by simp) (fun i hi => ?_)
      simp only [List.mem_cons, List.not_mem_nil, or_false] at hi
      rcases hi with rfl | rfl
      · skip
        refine J.newq (T := 34) (cs := dcells dg0) (d := 14) (K := .ptr) (by kernel_rfl) (fun b21 hb21 => ?_)
        refine J.pick1 11 (by kernel_rfl) (by kernel_rfl) ?_
        refine J.newq (T := 34) (cs := dcells dg0) (d := 15) (K := .ptr) (by kernel_rfl) (fun b22 hb22 => ?_)
        refine J.pick1 12 (by kernel_rfl) (by kernel_rfl) ?_
        refine J.storeqN (i := 2) (m' := [⟨47, [.slice a n c]⟩, ⟨34, dcells dg0⟩, ⟨34, dcells (rootF bits (ls.take (half n)))⟩, ⟨34, dcells dg0⟩]) (by kernel_rfl) (show w1.heap.size ≤ b21 by have := m2.size; have := m3.size; omega) ?_
        refine J.pick1 13 (by kernel_rfl) (by kernel_rfl) ?_
        refine J.storeqN (i := 3) (m' := [⟨47, [.slice a n c]⟩, ⟨34, dcells dg0⟩, ⟨34, dcells (rootF bits (ls.take (half n)))⟩, ⟨34, dcells (rootF bits (ls.drop (half n)))⟩]) (by kernel_rfl) (show w1.heap.size ≤ b22 by have := m2.size; have := m3.size; omega) ?_
        refine J.pdone (by kernel_rfl) ?_
        refine J.asPtr 3 ?_
        refine J.freeze 3 rfl (by kernel_rfl) (fun h => h) (L := ⟨34, dcells (rootF bits (ls.drop (half n)))⟩) rfl (fun w4 A4 m4 hs1 hr2 hn1 => ?_)
        replace hs := hs.mv m4; replace hp := hp.mv m4; replace h3 := h3.mv m4; replace h4 := h4.mv m4; replace h5 := h5.mv m4; replace hl := hl.mv m4; replace h12 := h12.mv m4; replace hp1 := hp1.mv m4; replace hp2 := hp2.mv m4; replace hp3 := hp3.mv m4
        have h15 : Sl 32 dcells A4 w4 (some ⟨b22, 0, none⟩) 1 1 [(rootF bits (ls.drop (half n)))] := Sl.ofRow (enc := dcells) (l := [(rootF bits (ls.drop (half n)))]) (kk := 32) (b := b22) (cs := dcells (rootF bits (ls.drop (half n)))) hr2 hn1 rfl (fun x _ => rfl) rfl (by simp only [maxLen]; omega)
        refine J.asPtr 2 ?_
        refine J.freeze 2 rfl (by kernel_rfl) (fun h => h) (L := ⟨34, dcells (rootF bits (ls.take (half n)))⟩) rfl (fun w5 A5 m5 hs2 hr3 hn2 => ?_)
        replace hs := hs.mv m5; replace hp := hp.mv m5; replace h3 := h3.mv m5; replace h4 := h4.mv m5; replace h5 := h5.mv m5; replace hl := hl.mv m5; replace h12 := h12.mv m5; replace hp1 := hp1.mv m5; replace hp2 := hp2.mv m5; replace hp3 := hp3.mv m5; replace h15 := h15.mv m5
        have h14 : Sl 32 dcells A5 w5 (some ⟨b21, 0, none⟩) 1 1 [(rootF bits (ls.take (half n)))] := Sl.ofRow (enc := dcells) (l := [(rootF bits (ls.take (half n)))]) (kk := 32) (b := b21) (cs := dcells (rootF bits (ls.take (half n)))) hr3 hn2 rfl (fun x _ => rfl) rfl (by simp only [maxLen]; omega)
        refine J.run [] [1, 3, 5, 6, 9, 11, 12, 13, 14, 15] ⟨[(1, .v (.int .i64 ((i : Nat) : Int))), (3, .v (.pointer (some ⟨q3, 0, none⟩))), (5, .v (.pointer (some ⟨q5, 0, none⟩))), (6, .loc 0 0), (9, .loc 1 0), (11, .v (.int .i64 ((half n : Nat) : Int))), (12, .v (.pointer (some ⟨b12, 0, none⟩))), (13, .v (.slice pa (pn - 1) pc)), (14, .v (.pointer (some ⟨b21, 0, none⟩))), (15, .v (.pointer (some ⟨b22, 0, none⟩)))], [⟨47, [.slice a n c]⟩, ⟨34, dcells dg0⟩]⟩ [] [] (by kernel_rfl) ?_
        exact up_k5 bits leaf la ln lc q3 q4 q5 hln _ n c ls i _ pn pc path ih hi hpl hsh hn Ac W hA (by omega) _ _ (by have := m1.size; have := m2.size; have := m3.size; have := m4.size; have := m5.size;  omega) b1 b2 hs hp h3 h4 h5 hl x b12 h12 hx b21 b22 h14 h15 
      · skip
        refine J.newq (T := 34) (cs := dcells dg0) (d := 15) (K := .ptr) (by kernel_rfl) (fun b23 hb23 => ?_)
        refine J.pick1 10 (by kernel_rfl) (by kernel_rfl) ?_
        refine J.newq (T := 34) (cs := dcells dg0) (d := 14) (K := .ptr) (by kernel_rfl) (fun b24 hb24 => ?_)
        refine J.pick1 12 (by kernel_rfl) (by kernel_rfl) ?_
        refine J.storeqN (i := 3) (m' := [⟨47, [.slice a n c]⟩, ⟨34, dcells dg0⟩, ⟨34, dcells dg0⟩, ⟨34, dcells (rootF bits (ls.take (half n)))⟩]) (by kernel_rfl) (show w1.heap.size ≤ b24 by have := m2.size; have := m3.size; omega) ?_
        refine J.pick1 13 (by kernel_rfl) (by kernel_rfl) ?_
        refine J.storeqN (i := 2) (m' := [⟨47, [.slice a n c]⟩, ⟨34, dcells dg0⟩, ⟨34, dcells (rootF bits (ls.drop (half n)))⟩, ⟨34, dcells (rootF bits (ls.take (half n)))⟩]) (by kernel_rfl) (show w1.heap.size ≤ b23 by have := m2.size; have := m3.size; omega) ?_
        refine J.pdone (by kernel_rfl) ?_
        refine J.asPtr 3 ?_
        refine J.freeze 3 rfl (by kernel_rfl) (fun h => h) (L := ⟨34, dcells (rootF bits (ls.take (half n)))⟩) rfl (fun w6 A6 m6 hs3 hr4 hn3 => ?_)
        replace hs := hs.mv m6; replace hp := hp.mv m6; replace h3 := h3.mv m6; replace h4 := h4.mv m6; replace h5 := h5.mv m6; replace hl := hl.mv m6; replace h12 := h12.mv m6; replace hp1 := hp1.mv m6; replace hp2 := hp2.mv m6; replace hp3 := hp3.mv m6
        have h14 : Sl 32 dcells A6 w6 (some ⟨b24, 0, none⟩) 1 1 [(rootF bits (ls.take (half n)))] := Sl.ofRow (enc := dcells) (l := [(rootF bits (ls.take (half n)))]) (kk := 32) (b := b24) (cs := dcells (rootF bits (ls.take (half n)))) hr4 hn3 rfl (fun x _ => rfl) rfl (by simp only [maxLen]; omega)
        refine J.asPtr 2 ?_
        refine J.freeze 2 rfl (by kernel_rfl) (fun h => h) (L := ⟨34, dcells (rootF bits (ls.drop (half n)))⟩) rfl (fun w7 A7 m7 hs4 hr5 hn4 => ?_)
        replace hs := hs.mv m7; replace hp := hp.mv m7; replace h3 := h3.mv m7; replace h4 := h4.mv m7; replace h5 := h5.mv m7; replace hl := hl.mv m7; replace h12 := h12.mv m7; replace hp1 := hp1.mv m7; replace hp2 := hp2.mv m7; replace hp3 := hp3.mv m7; replace h14 := h14.mv m7
        have h15 : Sl 32 dcells A7 w7 (some ⟨b23, 0, none⟩) 1 1 [(rootF bits (ls.drop (half n)))] := Sl.ofRow (enc := dcells) (l := [(rootF bits (ls.drop (half n)))]) (kk := 32) (b := b23) (cs := dcells (rootF bits (ls.drop (half n)))) hr5 hn4 rfl (fun x _ => rfl) rfl (by simp only [maxLen]; omega)
        refine J.run [] [1, 3, 5, 6, 9, 11, 12, 13, 14, 15] ⟨[(1, .v (.int .i64 ((i : Nat) : Int))), (3, .v (.pointer (some ⟨q3, 0, none⟩))), (5, .v (.pointer (some ⟨q5, 0, none⟩))), (6, .loc 0 0), (9, .loc 1 0), (11, .v (.int .i64 ((half n : Nat) : Int))), (12, .v (.pointer (some ⟨b12, 0, none⟩))), (13, .v (.slice pa (pn - 1) pc)), (14, .v (.pointer (some ⟨b24, 0, none⟩))), (15, .v (.pointer (some ⟨b23, 0, none⟩)))], [⟨47, [.slice a n c]⟩, ⟨34, dcells dg0⟩]⟩ [] [] (by kernel_rfl) ?_
        exact up_k5 bits leaf la ln lc q3 q4 q5 hln _ n c ls i _ pn pc path ih hi hpl hsh hn Ac W hA (by omega) _ _ (by have := m1.size; have := m2.size; have := m3.size; have := m6.size; have := m7.size;  omega) b1 b2 hs hp h3 h4 h5 hl x b12 h12 hx b24 b23 h14 h15 
    · skip
      refine J.newq (T := 34) (cs := dcells dg0) (d := 14) (K := .ptr) (by kernel_rfl) (fun b25 hb25 => ?_)
      refine J.pick [9, 11] (by kernel_rfl) (by kernel_rfl) (by simp) (fun i hi => ?_)
      simp only [List.mem_cons, List.not_mem_nil, or_false] at hi
      rcases hi with rfl | rfl
      · skip
        refine J.callq (d := some 51) (by kernel_rfl) (fun w1 A1 m1 l1 => root_calls bits _ a3 (n - (half n)) (c - (half n)) (ls.drop (half n)) (Nat.lt_succ_self _) (by first | assumption | exact Short.take (by assumption) _ | exact Short.drop (by assumption) _ | exact Short.drop (Short.take (by assumption) _) _) (by first | omega | (simp; omega)) nobody w1 noA (hp3.mv m1).any) ?_
        rintro _ u3 w8 A8 rfl g3
        have m8 := g3.mv
        replace hs := hs.mv m8; replace hp := hp.mv m8; replace h3 := h3.mv m8; replace h4 := h4.mv m8; replace h5 := h5.mv m8; replace hl := hl.mv m8; replace h12 := h12.mv m8; replace hp1 := hp1.mv m8; replace hp2 := hp2.mv m8; replace hp3 := hp3.mv m8
        refine J.pick1 11 (by kernel_rfl) (by kernel_rfl) ?_
        refine J.newq (T := 34) (cs := dcells dg0) (d := 15) (K := .ptr) (by kernel_rfl) (fun b26 hb26 => ?_)
        refine J.pick1 12 (by kernel_rfl) (by kernel_rfl) ?_
        refine J.storeqN (i := 2) (m' := [⟨47, [.slice a n c]⟩, ⟨34, dcells dg0⟩, ⟨34, dcells (rootF bits (ls.take (half n)))⟩, ⟨34, dcells dg0⟩]) (by kernel_rfl) (show w1.heap.size ≤ b25 by have := m2.size; have := m8.size; omega) ?_
        refine J.pick1 13 (by kernel_rfl) (by kernel_rfl) ?_
        refine J.storeqN (i := 3) (m' := [⟨47, [.slice a n c]⟩, ⟨34, dcells dg0⟩, ⟨34, dcells (rootF bits (ls.take (half n)))⟩, ⟨34, dcells (rootF bits (ls.drop (half n)))⟩]) (by kernel_rfl) (show w1.heap.size ≤ b26 by have := m2.size; have := m8.size; omega) ?_
        refine J.pdone (by kernel_rfl) ?_
        refine J.asPtr 3 ?_
        refine J.freeze 3 rfl (by kernel_rfl) (fun h => h) (L := ⟨34, dcells (rootF bits (ls.drop (half n)))⟩) rfl (fun w9 A9 m9 hs5 hr6 hn5 => ?_)
        replace hs := hs.mv m9; replace hp := hp.mv m9; replace h3 := h3.mv m9; replace h4 := h4.mv m9; replace h5 := h5.mv m9; replace hl := hl.mv m9; replace h12 := h12.mv m9; replace hp1 := hp1.mv m9; replace hp2 := hp2.mv m9; replace hp3 := hp3.mv m9
        have h15 : Sl 32 dcells A9 w9 (some ⟨b26, 0, none⟩) 1 1 [(rootF bits (ls.drop (half n)))] := Sl.ofRow (enc := dcells) (l := [(rootF bits (ls.drop (half n)))]) (kk := 32) (b := b26) (cs := dcells (rootF bits (ls.drop (half n)))) hr6 hn5 rfl (fun x _ => rfl) rfl (by simp only [maxLen]; omega)
        refine J.asPtr 2 ?_
        refine J.freeze 2 rfl (by kernel_rfl) (fun h => h) (L := ⟨34, dcells (rootF bits (ls.take (half n)))⟩) rfl (fun w10 A10 m10 hs6 hr7 hn6 => ?_)
        replace hs := hs.mv m10; replace hp := hp.mv m10; replace h3 := h3.mv m10; replace h4 := h4.mv m10; replace h5 := h5.mv m10; replace hl := hl.mv m10; replace h12 := h12.mv m10; replace hp1 := hp1.mv m10; replace hp2 := hp2.mv m10; replace hp3 := hp3.mv m10; replace h15 := h15.mv m10
        have h14 : Sl 32 dcells A10 w10 (some ⟨b25, 0, none⟩) 1 1 [(rootF bits (ls.take (half n)))] := Sl.ofRow (enc := dcells) (l := [(rootF bits (ls.take (half n)))]) (kk := 32) (b := b25) (cs := dcells (rootF bits (ls.take (half n)))) hr7 hn6 rfl (fun x _ => rfl) rfl (by simp only [maxLen]; omega)
        refine J.run [] [1, 3, 5, 6, 9, 11, 12, 13, 14, 15] ⟨[(1, .v (.int .i64 ((i : Nat) : Int))), (3, .v (.pointer (some ⟨q3, 0, none⟩))), (5, .v (.pointer (some ⟨q5, 0, none⟩))), (6, .loc 0 0), (9, .loc 1 0), (11, .v (.int .i64 ((half n : Nat) : Int))), (12, .v (.pointer (some ⟨b12, 0, none⟩))), (13, .v (.slice pa (pn - 1) pc)), (14, .v (.pointer (some ⟨b25, 0, none⟩))), (15, .v (.pointer (some ⟨b26, 0, none⟩)))], [⟨47, [.slice a n c]⟩, ⟨34, dcells dg0⟩]⟩ [] [] (by kernel_rfl) ?_
        exact up_k5 bits leaf la ln lc q3 q4 q5 hln _ n c ls i _ pn pc path ih hi hpl hsh hn Ac W hA (by omega) _ _ (by have := m1.size; have := m2.size; have := m8.size; have := m9.size; have := m10.size;  omega) b1 b2 hs hp h3 h4 h5 hl x b12 h12 hx b25 b26 h14 h15 
      · skip
        refine J.newq (T := 34) (cs := dcells dg0) (d := 15) (K := .ptr) (by kernel_rfl) (fun b27 hb27 => ?_)
        refine J.pick1 9 (by kernel_rfl) (by kernel_rfl) ?_
        refine J.callq (d := some 51) (by kernel_rfl) (fun w1 A1 m1 l1 => root_calls bits _ a3 (n - (half n)) (c - (half n)) (ls.drop (half n)) (Nat.lt_succ_self _) (by first | assumption | exact Short.take (by assumption) _ | exact Short.drop (by assumption) _ | exact Short.drop (Short.take (by assumption) _) _) (by first | omega | (simp; omega)) nobody w1 noA (hp3.mv m1).any) ?_
        rintro _ u4 w11 A11 rfl g4
        have m11 := g4.mv
        replace hs := hs.mv m11; replace hp := hp.mv m11; replace h3 := h3.mv m11; replace h4 := h4.mv m11; replace h5 := h5.mv m11; replace hl := hl.mv m11; replace h12 := h12.mv m11; replace hp1 := hp1.mv m11; replace hp2 := hp2.mv m11; replace hp3 := hp3.mv m11
        refine J.pick1 12 (by kernel_rfl) (by kernel_rfl) ?_
        refine J.storeqN (i := 2) (m' := [⟨47, [.slice a n c]⟩, ⟨34, dcells dg0⟩, ⟨34, dcells (rootF bits (ls.take (half n)))⟩, ⟨34, dcells dg0⟩]) (by kernel_rfl) (show w1.heap.size ≤ b25 by have := m2.size; have := m11.size; omega) ?_
        refine J.pick1 13 (by kernel_rfl) (by kernel_rfl) ?_
        refine J.storeqN (i := 3) (m' := [⟨47, [.slice a n c]⟩, ⟨34, dcells dg0⟩, ⟨34, dcells (rootF bits (ls.take (half n)))⟩, ⟨34, dcells (rootF bits (ls.drop (half n)))⟩]) (by kernel_rfl) (show w1.heap.size ≤ b27 by have := m2.size; have := m11.size; omega) ?_
        refine J.pdone (by kernel_rfl) ?_
        refine J.asPtr 3 ?_
        refine J.freeze 3 rfl (by kernel_rfl) (fun h => h) (L := ⟨34, dcells (rootF bits (ls.drop (half n)))⟩) rfl (fun w12 A12 m12 hs7 hr8 hn7 => ?_)
        replace hs := hs.mv m12; replace hp := hp.mv m12; replace h3 := h3.mv m12; replace h4 := h4.mv m12; replace h5 := h5.mv m12; replace hl := hl.mv m12; replace h12 := h12.mv m12; replace hp1 := hp1.mv m12; replace hp2 := hp2.mv m12; replace hp3 := hp3.mv m12
        have h15 : Sl 32 dcells A12 w12 (some ⟨b27, 0, none⟩) 1 1 [(rootF bits (ls.drop (half n)))] := Sl.ofRow (enc := dcells) (l := [(rootF bits (ls.drop (half n)))]) (kk := 32) (b := b27) (cs := dcells (rootF bits (ls.drop (half n)))) hr8 hn7 rfl (fun x _ => rfl) rfl (by simp only [maxLen]; omega)
        refine J.asPtr 2 ?_
        refine J.freeze 2 rfl (by kernel_rfl) (fun h => h) (L := ⟨34, dcells (rootF bits (ls.take (half n)))⟩) rfl (fun w13 A13 m13 hs8 hr9 hn8 => ?_)
        replace hs := hs.mv m13; replace hp := hp.mv m13; replace h3 := h3.mv m13; replace h4 := h4.mv m13; replace h5 := h5.mv m13; replace hl := hl.mv m13; replace h12 := h12.mv m13; replace hp1 := hp1.mv m13; replace hp2 := hp2.mv m13; replace hp3 := hp3.mv m13; replace h15 := h15.mv m13
        have h14 : Sl 32 dcells A13 w13 (some ⟨b25, 0, none⟩) 1 1 [(rootF bits (ls.take (half n)))] := Sl.ofRow (enc := dcells) (l := [(rootF bits (ls.take (half n)))]) (kk := 32) (b := b25) (cs := dcells (rootF bits (ls.take (half n)))) hr9 hn8 rfl (fun x _ => rfl) rfl (by simp only [maxLen]; omega)
        refine J.run [] [1, 3, 5, 6, 9, 11, 12, 13, 14, 15] ⟨[(1, .v (.int .i64 ((i : Nat) : Int))), (3, .v (.pointer (some ⟨q3, 0, none⟩))), (5, .v (.pointer (some ⟨q5, 0, none⟩))), (6, .loc 0 0), (9, .loc 1 0), (11, .v (.int .i64 ((half n : Nat) : Int))), (12, .v (.pointer (some ⟨b12, 0, none⟩))), (13, .v (.slice pa (pn - 1) pc)), (14, .v (.pointer (some ⟨b25, 0, none⟩))), (15, .v (.pointer (some ⟨b27, 0, none⟩)))], [⟨47, [.slice a n c]⟩, ⟨34, dcells dg0⟩]⟩ [] [] (by kernel_rfl) ?_
        exact up_k5 bits leaf la ln lc q3 q4 q5 hln _ n c ls i _ pn pc path ih hi hpl hsh hn Ac W hA (by omega) _ _ (by have := m1.size; have := m2.size; have := m11.size; have := m12.size; have := m13.size;  omega) b1 b2 hs hp h3 h4 h5 hl x b12 h12 hx b25 b27 h14 h15 
    · skip
      refine J.newq (T := 34) (cs := dcells dg0) (d := 15) (K := .ptr) (by kernel_rfl) (fun b28 hb28 => ?_)
      refine J.pick [9, 10] (by kernel_rfl) (by kernel_rfl) (by simp) (fun i hi => ?_)
      simp only [List.mem_cons, List.not_mem_nil, or_false] at hi
      rcases hi with rfl | rfl
      · skip
        refine J.callq (d := some 51) (by kernel_rfl) (fun w1 A1 m1 l1 => root_calls bits _ a3 (n - (half n)) (c - (half n)) (ls.drop (half n)) (Nat.lt_succ_self _) (by first | assumption | exact Short.take (by assumption) _ | exact Short.drop (by assumption) _ | exact Short.drop (Short.take (by assumption) _) _) (by first | omega | (simp; omega)) nobody w1 noA (hp3.mv m1).any) ?_
        rintro _ u5 w14 A14 rfl g5
        have m14 := g5.mv
        replace hs := hs.mv m14; replace hp := hp.mv m14; replace h3 := h3.mv m14; replace h4 := h4.mv m14; replace h5 := h5.mv m14; replace hl := hl.mv m14; replace h12 := h12.mv m14; replace hp1 := hp1.mv m14; replace hp2 := hp2.mv m14; replace hp3 := hp3.mv m14
        refine J.pick1 10 (by kernel_rfl) (by kernel_rfl) ?_
        refine J.newq (T := 34) (cs := dcells dg0) (d := 14) (K := .ptr) (by kernel_rfl) (fun b29 hb29 => ?_)
        refine J.pick1 12 (by kernel_rfl) (by kernel_rfl) ?_
        refine J.storeqN (i := 3) (m' := [⟨47, [.slice a n c]⟩, ⟨34, dcells dg0⟩, ⟨34, dcells dg0⟩, ⟨34, dcells (rootF bits (ls.take (half n)))⟩]) (by kernel_rfl) (show w1.heap.size ≤ b29 by have := m2.size; have := m14.size; omega) ?_
        refine J.pick1 13 (by kernel_rfl) (by kernel_rfl) ?_
        refine J.storeqN (i := 2) (m' := [⟨47, [.slice a n c]⟩, ⟨34, dcells dg0⟩, ⟨34, dcells (rootF bits (ls.drop (half n)))⟩, ⟨34, dcells (rootF bits (ls.take (half n)))⟩]) (by kernel_rfl) (show w1.heap.size ≤ b28 by have := m2.size; have := m14.size; omega) ?_
        refine J.pdone (by kernel_rfl) ?_
        refine J.asPtr 3 ?_
        refine J.freeze 3 rfl (by kernel_rfl) (fun h => h) (L := ⟨34, dcells (rootF bits (ls.take (half n)))⟩) rfl (fun w15 A15 m15 hs9 hr10 hn9 => ?_)
        replace hs := hs.mv m15; replace hp := hp.mv m15; replace h3 := h3.mv m15; replace h4 := h4.mv m15; replace h5 := h5.mv m15; replace hl := hl.mv m15; replace h12 := h12.mv m15; replace hp1 := hp1.mv m15; replace hp2 := hp2.mv m15; replace hp3 := hp3.mv m15
        have h14 : Sl 32 dcells A15 w15 (some ⟨b29, 0, none⟩) 1 1 [(rootF bits (ls.take (half n)))] := Sl.ofRow (enc := dcells) (l := [(rootF bits (ls.take (half n)))]) (kk := 32) (b := b29) (cs := dcells (rootF bits (ls.take (half n)))) hr10 hn9 rfl (fun x _ => rfl) rfl (by simp only [maxLen]; omega)
        refine J.asPtr 2 ?_
        refine J.freeze 2 rfl (by kernel_rfl) (fun h => h) (L := ⟨34, dcells (rootF bits (ls.drop (half n)))⟩) rfl (fun w16 A16 m16 hs10 hr11 hn10 => ?_)
        replace hs := hs.mv m16; replace hp := hp.mv m16; replace h3 := h3.mv m16; replace h4 := h4.mv m16; replace h5 := h5.mv m16; replace hl := hl.mv m16; replace h12 := h12.mv m16; replace hp1 := hp1.mv m16; replace hp2 := hp2.mv m16; replace hp3 := hp3.mv m16; replace h14 := h14.mv m16
        have h15 : Sl 32 dcells A16 w16 (some ⟨b28, 0, none⟩) 1 1 [(rootF bits (ls.drop (half n)))] := Sl.ofRow (enc := dcells) (l := [(rootF bits (ls.drop (half n)))]) (kk := 32) (b := b28) (cs := dcells (rootF bits (ls.drop (half n)))) hr11 hn10 rfl (fun x _ => rfl) rfl (by simp only [maxLen]; omega)
        refine J.run [] [1, 3, 5, 6, 9, 11, 12, 13, 14, 15] ⟨[(1, .v (.int .i64 ((i : Nat) : Int))), (3, .v (.pointer (some ⟨q3, 0, none⟩))), (5, .v (.pointer (some ⟨q5, 0, none⟩))), (6, .loc 0 0), (9, .loc 1 0), (11, .v (.int .i64 ((half n : Nat) : Int))), (12, .v (.pointer (some ⟨b12, 0, none⟩))), (13, .v (.slice pa (pn - 1) pc)), (14, .v (.pointer (some ⟨b29, 0, none⟩))), (15, .v (.pointer (some ⟨b28, 0, none⟩)))], [⟨47, [.slice a n c]⟩, ⟨34, dcells dg0⟩]⟩ [] [] (by kernel_rfl) ?_
        exact up_k5 bits leaf la ln lc q3 q4 q5 hln _ n c ls i _ pn pc path ih hi hpl hsh hn Ac W hA (by omega) _ _ (by have := m1.size; have := m2.size; have := m14.size; have := m15.size; have := m16.size;  omega) b1 b2 hs hp h3 h4 h5 hl x b12 h12 hx b29 b28 h14 h15 
      · skip
        refine J.newq (T := 34) (cs := dcells dg0) (d := 14) (K := .ptr) (by kernel_rfl) (fun b30 hb30 => ?_)
        refine J.pick1 9 (by kernel_rfl) (by kernel_rfl) ?_
        refine J.callq (d := some 51) (by kernel_rfl) (fun w1 A1 m1 l1 => root_calls bits _ a3 (n - (half n)) (c - (half n)) (ls.drop (half n)) (Nat.lt_succ_self _) (by first | assumption | exact Short.take (by assumption) _ | exact Short.drop (by assumption) _ | exact Short.drop (Short.take (by assumption) _) _) (by first | omega | (simp; omega)) nobody w1 noA (hp3.mv m1).any) ?_
        rintro _ u6 w17 A17 rfl g6
        have m17 := g6.mv
        replace hs := hs.mv m17; replace hp := hp.mv m17; replace h3 := h3.mv m17; replace h4 := h4.mv m17; replace h5 := h5.mv m17; replace hl := hl.mv m17; replace h12 := h12.mv m17; replace hp1 := hp1.mv m17; replace hp2 := hp2.mv m17; replace hp3 := hp3.mv m17
        refine J.pick1 12 (by kernel_rfl) (by kernel_rfl) ?_
        refine J.storeqN (i := 3) (m' := [⟨47, [.slice a n c]⟩, ⟨34, dcells dg0⟩, ⟨34, dcells dg0⟩, ⟨34, dcells (rootF bits (ls.take (half n)))⟩]) (by kernel_rfl) (show w1.heap.size ≤ b30 by have := m2.size; have := m17.size; omega) ?_
        refine J.pick1 13 (by kernel_rfl) (by kernel_rfl) ?_
        refine J.storeqN (i := 2) (m' := [⟨47, [.slice a n c]⟩, ⟨34, dcells dg0⟩, ⟨34, dcells (rootF bits (ls.drop (half n)))⟩, ⟨34, dcells (rootF bits (ls.take (half n)))⟩]) (by kernel_rfl) (show w1.heap.size ≤ b28 by have := m2.size; have := m17.size; omega) ?_
        refine J.pdone (by kernel_rfl) ?_
        refine J.asPtr 3 ?_
        refine J.freeze 3 rfl (by kernel_rfl) (fun h => h) (L := ⟨34, dcells (rootF bits (ls.take (half n)))⟩) rfl (fun w18 A18 m18 hs11 hr12 hn11 => ?_)
        replace hs := hs.mv m18; replace hp := hp.mv m18; replace h3 := h3.mv m18; replace h4 := h4.mv m18; replace h5 := h5.mv m18; replace hl := hl.mv m18; replace h12 := h12.mv m18; replace hp1 := hp1.mv m18; replace hp2 := hp2.mv m18; replace hp3 := hp3.mv m18
        have h14 : Sl 32 dcells A18 w18 (some ⟨b30, 0, none⟩) 1 1 [(rootF bits (ls.take (half n)))] := Sl.ofRow (enc := dcells) (l := [(rootF bits (ls.take (half n)))]) (kk := 32) (b := b30) (cs := dcells (rootF bits (ls.take (half n)))) hr12 hn11 rfl (fun x _ => rfl) rfl (by simp only [maxLen]; omega)
        refine J.asPtr 2 ?_
        refine J.freeze 2 rfl (by kernel_rfl) (fun h => h) (L := ⟨34, dcells (rootF bits (ls.drop (half n)))⟩) rfl (fun w19 A19 m19 hs12 hr13 hn12 => ?_)
        replace hs := hs.mv m19; replace hp := hp.mv m19; replace h3 := h3.mv m19; replace h4 := h4.mv m19; replace h5 := h5.mv m19; replace hl := hl.mv m19; replace h12 := h12.mv m19; replace hp1 := hp1.mv m19; replace hp2 := hp2.mv m19; replace hp3 := hp3.mv m19; replace h14 := h14.mv m19
        have h15 : Sl 32 dcells A19 w19 (some ⟨b28, 0, none⟩) 1 1 [(rootF bits (ls.drop (half n)))] := Sl.ofRow (enc := dcells) (l := [(rootF bits (ls.drop (half n)))]) (kk := 32) (b := b28) (cs := dcells (rootF bits (ls.drop (half n)))) hr13 hn12 rfl (fun x _ => rfl) rfl (by simp only [maxLen]; omega)
        refine J.run [] [1, 3, 5, 6, 9, 11, 12, 13, 14, 15] ⟨[(1, .v (.int .i64 ((i : Nat) : Int))), (3, .v (.pointer (some ⟨q3, 0, none⟩))), (5, .v (.pointer (some ⟨q5, 0, none⟩))), (6, .loc 0 0), (9, .loc 1 0), (11, .v (.int .i64 ((half n : Nat) : Int))), (12, .v (.pointer (some ⟨b12, 0, none⟩))), (13, .v (.slice pa (pn - 1) pc)), (14, .v (.pointer (some ⟨b30, 0, none⟩))), (15, .v (.pointer (some ⟨b28, 0, none⟩)))], [⟨47, [.slice a n c]⟩, ⟨34, dcells dg0⟩]⟩ [] [] (by kernel_rfl) ?_
        exact up_k5 bits leaf la ln lc q3 q4 q5 hln _ n c ls i _ pn pc path ih hi hpl hsh hn Ac W hA (by omega) _ _ (by have := m1.size; have := m2.size; have := m17.size; have := m18.size; have := m19.size;  omega) b1 b2 hs hp h3 h4 h5 hl x b12 h12 hx b30 b28 h14 h15 
  · skip
    refine J.newq (T := 34) (cs := dcells dg0) (d := 14) (K := .ptr) (by kernel_rfl) (fun b31 hb31 => ?_)
    refine J.pick [4, 11] (by kernel_rfl) (by kernel_rfl) (by simp) (fun i hi => ?_)
    simp only [List.mem_cons, List.not_mem_nil, or_false] at hi
    rcases hi with rfl | rfl
    · skip
      refine J.callq (d := some 46) (by kernel_rfl) (fun w1 A1 m1 l1 => root_calls bits _ a (half n) c (ls.take (half n)) (Nat.lt_succ_self _) (by first | assumption | exact Short.take (by assumption) _ | exact Short.drop (by assumption) _ | exact Short.drop (Short.take (by assumption) _) _) (by first | omega | (simp; omega)) nobody w1 noA (hp2.mv m1).any) ?_
      rintro _ u7 w20 A20 rfl g7
      have m20 := g7.mv
      replace hs := hs.mv m20; replace hp := hp.mv m20; replace h3 := h3.mv m20; replace h4 := h4.mv m20; replace h5 := h5.mv m20; replace hl := hl.mv m20; replace h12 := h12.mv m20; replace hp1 := hp1.mv m20; replace hp2 := hp2.mv m20; replace hp3 := hp3.mv m20
      refine J.pick [9, 11] (by kernel_rfl) (by kernel_rfl) (by simp) (fun i hi => ?_)
      simp only [List.mem_cons, List.not_mem_nil, or_false] at hi
      rcases hi with rfl | rfl
      · skip
        refine J.callq (d := some 51) (by kernel_rfl) (fun w1 A1 m1 l1 => root_calls bits _ a3 (n - (half n)) (c - (half n)) (ls.drop (half n)) (Nat.lt_succ_self _) (by first | assumption | exact Short.take (by assumption) _ | exact Short.drop (by assumption) _ | exact Short.drop (Short.take (by assumption) _) _) (by first | omega | (simp; omega)) nobody w1 noA (hp3.mv m1).any) ?_
        rintro _ u9 w21 A21 rfl g8
        have m21 := g8.mv
        replace hs := hs.mv m21; replace hp := hp.mv m21; replace h3 := h3.mv m21; replace h4 := h4.mv m21; replace h5 := h5.mv m21; replace hl := hl.mv m21; replace h12 := h12.mv m21; replace hp1 := hp1.mv m21; replace hp2 := hp2.mv m21; replace hp3 := hp3.mv m21
        refine J.pick1 11 (by kernel_rfl) (by kernel_rfl) ?_
        refine J.newq (T := 34) (cs := dcells dg0) (d := 15) (K := .ptr) (by kernel_rfl) (fun b32 hb32 => ?_)
        refine J.pick1 12 (by kernel_rfl) (by kernel_rfl) ?_
        refine J.storeqN (i := 2) (m' := [⟨47, [.slice a n c]⟩, ⟨34, dcells dg0⟩, ⟨34, dcells (rootF bits (ls.take (half n)))⟩, ⟨34, dcells dg0⟩]) (by kernel_rfl) (show w1.heap.size ≤ b31 by have := m20.size; have := m21.size; omega) ?_
        refine J.pick1 13 (by kernel_rfl) (by kernel_rfl) ?_
        refine J.storeqN (i := 3) (m' := [⟨47, [.slice a n c]⟩, ⟨34, dcells dg0⟩, ⟨34, dcells (rootF bits (ls.take (half n)))⟩, ⟨34, dcells (rootF bits (ls.drop (half n)))⟩]) (by kernel_rfl) (show w1.heap.size ≤ b32 by have := m20.size; have := m21.size; omega) ?_
        refine J.pdone (by kernel_rfl) ?_
        refine J.asPtr 3 ?_
        refine J.freeze 3 rfl (by kernel_rfl) (fun h => h) (L := ⟨34, dcells (rootF bits (ls.drop (half n)))⟩) rfl (fun w22 A22 m22 hs13 hr14 hn13 => ?_)
        replace hs := hs.mv m22; replace hp := hp.mv m22; replace h3 := h3.mv m22; replace h4 := h4.mv m22; replace h5 := h5.mv m22; replace hl := hl.mv m22; replace h12 := h12.mv m22; replace hp1 := hp1.mv m22; replace hp2 := hp2.mv m22; replace hp3 := hp3.mv m22
        have h15 : Sl 32 dcells A22 w22 (some ⟨b32, 0, none⟩) 1 1 [(rootF bits (ls.drop (half n)))] := Sl.ofRow (enc := dcells) (l := [(rootF bits (ls.drop (half n)))]) (kk := 32) (b := b32) (cs := dcells (rootF bits (ls.drop (half n)))) hr14 hn13 rfl (fun x _ => rfl) rfl (by simp only [maxLen]; omega)
        refine J.asPtr 2 ?_
        refine J.freeze 2 rfl (by kernel_rfl) (fun h => h) (L := ⟨34, dcells (rootF bits (ls.take (half n)))⟩) rfl (fun w23 A23 m23 hs14 hr15 hn14 => ?_)
        replace hs := hs.mv m23; replace hp := hp.mv m23; replace h3 := h3.mv m23; replace h4 := h4.mv m23; replace h5 := h5.mv m23; replace hl := hl.mv m23; replace h12 := h12.mv m23; replace hp1 := hp1.mv m23; replace hp2 := hp2.mv m23; replace hp3 := hp3.mv m23; replace h15 := h15.mv m23
        have h14 : Sl 32 dcells A23 w23 (some ⟨b31, 0, none⟩) 1 1 [(rootF bits (ls.take (half n)))] := Sl.ofRow (enc := dcells) (l := [(rootF bits (ls.take (half n)))]) (kk := 32) (b := b31) (cs := dcells (rootF bits (ls.take (half n)))) hr15 hn14 rfl (fun x _ => rfl) rfl (by simp only [maxLen]; omega)
        refine J.run [] [1, 3, 5, 6, 9, 11, 12, 13, 14, 15] ⟨[(1, .v (.int .i64 ((i : Nat) : Int))), (3, .v (.pointer (some ⟨q3, 0, none⟩))), (5, .v (.pointer (some ⟨q5, 0, none⟩))), (6, .loc 0 0), (9, .loc 1 0), (11, .v (.int .i64 ((half n : Nat) : Int))), (12, .v (.pointer (some ⟨b12, 0, none⟩))), (13, .v (.slice pa (pn - 1) pc)), (14, .v (.pointer (some ⟨b31, 0, none⟩))), (15, .v (.pointer (some ⟨b32, 0, none⟩)))], [⟨47, [.slice a n c]⟩, ⟨34, dcells dg0⟩]⟩ [] [] (by kernel_rfl) ?_
        exact up_k5 bits leaf la ln lc q3 q4 q5 hln _ n c ls i _ pn pc path ih hi hpl hsh hn Ac W hA (by omega) _ _ (by have := m1.size; have := m20.size; have := m21.size; have := m22.size; have := m23.size;  omega) b1 b2 hs hp h3 h4 h5 hl x b12 h12 hx b31 b32 h14 h15 
      · skip
        refine J.newq (T := 34) (cs := dcells dg0) (d := 15) (K := .ptr) (by kernel_rfl) (fun b33 hb33 => ?_)
        refine J.pick1 9 (by kernel_rfl) (by kernel_rfl) ?_
        refine J.callq (d := some 51) (by kernel_rfl) (fun w1 A1 m1 l1 => root_calls bits _ a3 (n - (half n)) (c - (half n)) (ls.drop (half n)) (Nat.lt_succ_self _) (by first | assumption | exact Short.take (by assumption) _ | exact Short.drop (by assumption) _ | exact Short.drop (Short.take (by assumption) _) _) (by first | omega | (simp; omega)) nobody w1 noA (hp3.mv m1).any) ?_
        rintro _ u10 w24 A24 rfl g9
        have m24 := g9.mv
        replace hs := hs.mv m24; replace hp := hp.mv m24; replace h3 := h3.mv m24; replace h4 := h4.mv m24; replace h5 := h5.mv m24; replace hl := hl.mv m24; replace h12 := h12.mv m24; replace hp1 := hp1.mv m24; replace hp2 := hp2.mv m24; replace hp3 := hp3.mv m24
        refine J.pick1 12 (by kernel_rfl) (by kernel_rfl) ?_
        refine J.storeqN (i := 2) (m' := [⟨47, [.slice a n c]⟩, ⟨34, dcells dg0⟩, ⟨34, dcells (rootF bits (ls.take (half n)))⟩, ⟨34, dcells dg0⟩]) (by kernel_rfl) (show w1.heap.size ≤ b31 by have := m20.size; have := m24.size; omega) ?_
        refine J.pick1 13 (by kernel_rfl) (by kernel_rfl) ?_
        refine J.storeqN (i := 3) (m' := [⟨47, [.slice a n c]⟩, ⟨34, dcells dg0⟩, ⟨34, dcells (rootF bits (ls.take (half n)))⟩, ⟨34, dcells (rootF bits (ls.drop (half n)))⟩]) (by kernel_rfl) (show w1.heap.size ≤ b33 by have := m20.size; have := m24.size; omega) ?_
        refine J.pdone (by kernel_rfl) ?_
        refine J.asPtr 3 ?_
        refine J.freeze 3 rfl (by kernel_rfl) (fun h => h) (L := ⟨34, dcells (rootF bits (ls.drop (half n)))⟩) rfl (fun w25 A25 m25 hs15 hr16 hn15 => ?_)
        replace hs := hs.mv m25; replace hp := hp.mv m25; replace h3 := h3.mv m25; replace h4 := h4.mv m25; replace h5 := h5.mv m25; replace hl := hl.mv m25; replace h12 := h12.mv m25; replace hp1 := hp1.mv m25; replace hp2 := hp2.mv m25; replace hp3 := hp3.mv m25
        have h15 : Sl 32 dcells A25 w25 (some ⟨b33, 0, none⟩) 1 1 [(rootF bits (ls.drop (half n)))] := Sl.ofRow (enc := dcells) (l := [(rootF bits (ls.drop (half n)))]) (kk := 32) (b := b33) (cs := dcells (rootF bits (ls.drop (half n)))) hr16 hn15 rfl (fun x _ => rfl) rfl (by simp only [maxLen]; omega)
        refine J.asPtr 2 ?_
        refine J.freeze 2 rfl (by kernel_rfl) (fun h => h) (L := ⟨34, dcells (rootF bits (ls.take (half n)))⟩) rfl (fun w26 A26 m26 hs16 hr17 hn16 => ?_)
        replace hs := hs.mv m26; replace hp := hp.mv m26; replace h3 := h3.mv m26; replace h4 := h4.mv m26; replace h5 := h5.mv m26; replace hl := hl.mv m26; replace h12 := h12.mv m26; replace hp1 := hp1.mv m26; replace hp2 := hp2.mv m26; replace hp3 := hp3.mv m26; replace h15 := h15.mv m26
        have h14 : Sl 32 dcells A26 w26 (some ⟨b31, 0, none⟩) 1 1 [(rootF bits (ls.take (half n)))] := Sl.ofRow (enc := dcells) (l := [(rootF bits (ls.take (half n)))]) (kk := 32) (b := b31) (cs := dcells (rootF bits (ls.take (half n)))) hr17 hn16 rfl (fun x _ => rfl) rfl (by simp only [maxLen]; omega)
        refine J.run [] [1, 3, 5, 6, 9, 11, 12, 13, 14, 15] ⟨[(1, .v (.int .i64 ((i : Nat) : Int))), (3, .v (.pointer (some ⟨q3, 0, none⟩))), (5, .v (.pointer (some ⟨q5, 0, none⟩))), (6, .loc 0 0), (9, .loc 1 0), (11, .v (.int .i64 ((half n : Nat) : Int))), (12, .v (.pointer (some ⟨b12, 0, none⟩))), (13, .v (.slice pa (pn - 1) pc)), (14, .v (.pointer (some ⟨b31, 0, none⟩))), (15, .v (.pointer (some ⟨b33, 0, none⟩)))], [⟨47, [.slice a n c]⟩, ⟨34, dcells dg0⟩]⟩ [] [] (by kernel_rfl) ?_
        exact up_k5 bits leaf la ln lc q3 q4 q5 hln _ n c ls i _ pn pc path ih hi hpl hsh hn Ac W hA (by omega) _ _ (by have := m1.size; have := m20.size; have := m24.size; have := m25.size; have := m26.size;  omega) b1 b2 hs hp h3 h4 h5 hl x b12 h12 hx b31 b33 h14 h15 
    · skip
      refine J.newq (T := 34) (cs := dcells dg0) (d := 15) (K := .ptr) (by kernel_rfl) (fun b34 hb34 => ?_)
      refine J.pick1 4 (by kernel_rfl) (by kernel_rfl) ?_
      refine J.callq (d := some 46) (by kernel_rfl) (fun w1 A1 m1 l1 => root_calls bits _ a (half n) c (ls.take (half n)) (Nat.lt_succ_self _) (by first | assumption | exact Short.take (by assumption) _ | exact Short.drop (by assumption) _ | exact Short.drop (Short.take (by assumption) _) _) (by first | omega | (simp; omega)) nobody w1 noA (hp2.mv m1).any) ?_
      rintro _ u11 w27 A27 rfl g10
      have m27 := g10.mv
      replace hs := hs.mv m27; replace hp := hp.mv m27; replace h3 := h3.mv m27; replace h4 := h4.mv m27; replace h5 := h5.mv m27; replace hl := hl.mv m27; replace h12 := h12.mv m27; replace hp1 := hp1.mv m27; replace hp2 := hp2.mv m27; replace hp3 := hp3.mv m27
      refine J.pick1 9 (by kernel_rfl) (by kernel_rfl) ?_
      refine J.callq (d := some 51) (by kernel_rfl) (fun w1 A1 m1 l1 => root_calls bits _ a3 (n - (half n)) (c - (half n)) (ls.drop (half n)) (Nat.lt_succ_self _) (by first | assumption | exact Short.take (by assumption) _ | exact Short.drop (by assumption) _ | exact Short.drop (Short.take (by assumption) _) _) (by first | omega | (simp; omega)) nobody w1 noA (hp3.mv m1).any) ?_
      rintro _ u12 w28 A28 rfl g11
      have m28 := g11.mv
      replace hs := hs.mv m28; replace hp := hp.mv m28; replace h3 := h3.mv m28; replace h4 := h4.mv m28; replace h5 := h5.mv m28; replace hl := hl.mv m28; replace h12 := h12.mv m28; replace hp1 := hp1.mv m28; replace hp2 := hp2.mv m28; replace hp3 := hp3.mv m28
      refine J.pick1 12 (by kernel_rfl) (by kernel_rfl) ?_
      refine J.storeqN (i := 2) (m' := [⟨47, [.slice a n c]⟩, ⟨34, dcells dg0⟩, ⟨34, dcells (rootF bits (ls.take (half n)))⟩, ⟨34, dcells dg0⟩]) (by kernel_rfl) (show w1.heap.size ≤ b31 by have := m27.size; have := m28.size; omega) ?_
      refine J.pick1 13 (by kernel_rfl) (by kernel_rfl) ?_
      refine J.storeqN (i := 3) (m' := [⟨47, [.slice a n c]⟩, ⟨34, dcells dg0⟩, ⟨34, dcells (rootF bits (ls.take (half n)))⟩, ⟨34, dcells (rootF bits (ls.drop (half n)))⟩]) (by kernel_rfl) (show w1.heap.size ≤ b34 by have := m27.size; have := m28.size; omega) ?_
      refine J.pdone (by kernel_rfl) ?_
      refine J.asPtr 3 ?_
      refine J.freeze 3 rfl (by kernel_rfl) (fun h => h) (L := ⟨34, dcells (rootF bits (ls.drop (half n)))⟩) rfl (fun w29 A29 m29 hs17 hr18 hn17 => ?_)
      replace hs := hs.mv m29; replace hp := hp.mv m29; replace h3 := h3.mv m29; replace h4 := h4.mv m29; replace h5 := h5.mv m29; replace hl := hl.mv m29; replace h12 := h12.mv m29; replace hp1 := hp1.mv m29; replace hp2 := hp2.mv m29; replace hp3 := hp3.mv m29
      have h15 : Sl 32 dcells A29 w29 (some ⟨b34, 0, none⟩) 1 1 [(rootF bits (ls.drop (half n)))] := Sl.ofRow (enc := dcells) (l := [(rootF bits (ls.drop (half n)))]) (kk := 32) (b := b34) (cs := dcells (rootF bits (ls.drop (half n)))) hr18 hn17 rfl (fun x _ => rfl) rfl (by simp only [maxLen]; omega)
      refine J.asPtr 2 ?_
      refine J.freeze 2 rfl (by kernel_rfl) (fun h => h) (L := ⟨34, dcells (rootF bits (ls.take (half n)))⟩) rfl (fun w30 A30 m30 hs18 hr19 hn18 => ?_)
      replace hs := hs.mv m30; replace hp := hp.mv m30; replace h3 := h3.mv m30; replace h4 := h4.mv m30; replace h5 := h5.mv m30; replace hl := hl.mv m30; replace h12 := h12.mv m30; replace hp1 := hp1.mv m30; replace hp2 := hp2.mv m30; replace hp3 := hp3.mv m30; replace h15 := h15.mv m30
      have h14 : Sl 32 dcells A30 w30 (some ⟨b31, 0, none⟩) 1 1 [(rootF bits (ls.take (half n)))] := Sl.ofRow (enc := dcells) (l := [(rootF bits (ls.take (half n)))]) (kk := 32) (b := b31) (cs := dcells (rootF bits (ls.take (half n)))) hr19 hn18 rfl (fun x _ => rfl) rfl (by simp only [maxLen]; omega)
      refine J.run [] [1, 3, 5, 6, 9, 11, 12, 13, 14, 15] ⟨[(1, .v (.int .i64 ((i : Nat) : Int))), (3, .v (.pointer (some ⟨q3, 0, none⟩))), (5, .v (.pointer (some ⟨q5, 0, none⟩))), (6, .loc 0 0), (9, .loc 1 0), (11, .v (.int .i64 ((half n : Nat) : Int))), (12, .v (.pointer (some ⟨b12, 0, none⟩))), (13, .v (.slice pa (pn - 1) pc)), (14, .v (.pointer (some ⟨b31, 0, none⟩))), (15, .v (.pointer (some ⟨b34, 0, none⟩)))], [⟨47, [.slice a n c]⟩, ⟨34, dcells dg0⟩]⟩ [] [] (by kernel_rfl) ?_
      exact up_k5 bits leaf la ln lc q3 q4 q5 hln _ n c ls i _ pn pc path ih hi hpl hsh hn Ac W hA (by omega) _ _ (by have := m1.size; have := m27.size; have := m28.size; have := m29.size; have := m30.size;  omega) b1 b2 hs hp h3 h4 h5 hl x b12 h12 hx b31 b34 h14 h15 
  · skip
    refine J.newq (T := 34) (cs := dcells dg0) (d := 15) (K := .ptr) (by kernel_rfl) (fun b35 hb35 => ?_)
    refine J.pick [4, 10] (by kernel_rfl) (by kernel_rfl) (by simp) (fun i hi => ?_)
    simp only [List.mem_cons, List.not_mem_nil, or_false] at hi
    rcases hi with rfl | rfl
    · skip
      refine J.callq (d := some 46) (by kernel_rfl) (fun w1 A1 m1 l1 => root_calls bits _ a (half n) c (ls.take (half n)) (Nat.lt_succ_self _) (by first | assumption | exact Short.take (by assumption) _ | exact Short.drop (by assumption) _ | exact Short.drop (Short.take (by assumption) _) _) (by first | omega | (simp; omega)) nobody w1 noA (hp2.mv m1).any) ?_
      rintro _ u13 w31 A31 rfl g12
      have m31 := g12.mv
      replace hs := hs.mv m31; replace hp := hp.mv m31; replace h3 := h3.mv m31; replace h4 := h4.mv m31; replace h5 := h5.mv m31; replace hl := hl.mv m31; replace h12 := h12.mv m31; replace hp1 := hp1.mv m31; replace hp2 := hp2.mv m31; replace hp3 := hp3.mv m31
      refine J.pick [9, 10] (by kernel_rfl) (by kernel_rfl) (by simp) (fun i hi => ?_)
      simp only [List.mem_cons, List.not_mem_nil, or_false] at hi
      rcases hi with rfl | rfl
      · skip
        refine J.callq (d := some 51) (by kernel_rfl) (fun w1 A1 m1 l1 => root_calls bits _ a3 (n - (half n)) (c - (half n)) (ls.drop (half n)) (Nat.lt_succ_self _) (by first | assumption | exact Short.take (by assumption) _ | exact Short.drop (by assumption) _ | exact Short.drop (Short.take (by assumption) _) _) (by first | omega | (simp; omega)) nobody w1 noA (hp3.mv m1).any) ?_
        rintro _ u14 w32 A32 rfl g13
        have m32 := g13.mv
        replace hs := hs.mv m32; replace hp := hp.mv m32; replace h3 := h3.mv m32; replace h4 := h4.mv m32; replace h5 := h5.mv m32; replace hl := hl.mv m32; replace h12 := h12.mv m32; replace hp1 := hp1.mv m32; replace hp2 := hp2.mv m32; replace hp3 := hp3.mv m32
        refine J.pick1 10 (by kernel_rfl) (by kernel_rfl) ?_
        refine J.newq (T := 34) (cs := dcells dg0) (d := 14) (K := .ptr) (by kernel_rfl) (fun b36 hb36 => ?_)
        refine J.pick1 12 (by kernel_rfl) (by kernel_rfl) ?_
        refine J.storeqN (i := 3) (m' := [⟨47, [.slice a n c]⟩, ⟨34, dcells dg0⟩, ⟨34, dcells dg0⟩, ⟨34, dcells (rootF bits (ls.take (half n)))⟩]) (by kernel_rfl) (show w1.heap.size ≤ b36 by have := m31.size; have := m32.size; omega) ?_
        refine J.pick1 13 (by kernel_rfl) (by kernel_rfl) ?_
        refine J.storeqN (i := 2) (m' := [⟨47, [.slice a n c]⟩, ⟨34, dcells dg0⟩, ⟨34, dcells (rootF bits (ls.drop (half n)))⟩, ⟨34, dcells (rootF bits (ls.take (half n)))⟩]) (by kernel_rfl) (show w1.heap.size ≤ b35 by have := m31.size; have := m32.size; omega) ?_
        refine J.pdone (by kernel_rfl) ?_
        refine J.asPtr 3 ?_
        refine J.freeze 3 rfl (by kernel_rfl) (fun h => h) (L := ⟨34, dcells (rootF bits (ls.take (half n)))⟩) rfl (fun w33 A33 m33 hs19 hr20 hn19 => ?_)
        replace hs := hs.mv m33; replace hp := hp.mv m33; replace h3 := h3.mv m33; replace h4 := h4.mv m33; replace h5 := h5.mv m33; replace hl := hl.mv m33; replace h12 := h12.mv m33; replace hp1 := hp1.mv m33; replace hp2 := hp2.mv m33; replace hp3 := hp3.mv m33
        have h14 : Sl 32 dcells A33 w33 (some ⟨b36, 0, none⟩) 1 1 [(rootF bits (ls.take (half n)))] := Sl.ofRow (enc := dcells) (l := [(rootF bits (ls.take (half n)))]) (kk := 32) (b := b36) (cs := dcells (rootF bits (ls.take (half n)))) hr20 hn19 rfl (fun x _ => rfl) rfl (by simp only [maxLen]; omega)
        refine J.asPtr 2 ?_
        refine J.freeze 2 rfl (by kernel_rfl) (fun h => h) (L := ⟨34, dcells (rootF bits (ls.drop (half n)))⟩) rfl (fun w34 A34 m34 hs20 hr21 hn20 => ?_)
        replace hs := hs.mv m34; replace hp := hp.mv m34; replace h3 := h3.mv m34; replace h4 := h4.mv m34; replace h5 := h5.mv m34; replace hl := hl.mv m34; replace h12 := h12.mv m34; replace hp1 := hp1.mv m34; replace hp2 := hp2.mv m34; replace hp3 := hp3.mv m34; replace h14 := h14.mv m34
        have h15 : Sl 32 dcells A34 w34 (some ⟨b35, 0, none⟩) 1 1 [(rootF bits (ls.drop (half n)))] := Sl.ofRow (enc := dcells) (l := [(rootF bits (ls.drop (half n)))]) (kk := 32) (b := b35) (cs := dcells (rootF bits (ls.drop (half n)))) hr21 hn20 rfl (fun x _ => rfl) rfl (by simp only [maxLen]; omega)
        refine J.run [] [1, 3, 5, 6, 9, 11, 12, 13, 14, 15] ⟨[(1, .v (.int .i64 ((i : Nat) : Int))), (3, .v (.pointer (some ⟨q3, 0, none⟩))), (5, .v (.pointer (some ⟨q5, 0, none⟩))), (6, .loc 0 0), (9, .loc 1 0), (11, .v (.int .i64 ((half n : Nat) : Int))), (12, .v (.pointer (some ⟨b12, 0, none⟩))), (13, .v (.slice pa (pn - 1) pc)), (14, .v (.pointer (some ⟨b36, 0, none⟩))), (15, .v (.pointer (some ⟨b35, 0, none⟩)))], [⟨47, [.slice a n c]⟩, ⟨34, dcells dg0⟩]⟩ [] [] (by kernel_rfl) ?_
        exact up_k5 bits leaf la ln lc q3 q4 q5 hln _ n c ls i _ pn pc path ih hi hpl hsh hn Ac W hA (by omega) _ _ (by have := m1.size; have := m31.size; have := m32.size; have := m33.size; have := m34.size;  omega) b1 b2 hs hp h3 h4 h5 hl x b12 h12 hx b36 b35 h14 h15 
      · skip
        refine J.newq (T := 34) (cs := dcells dg0) (d := 14) (K := .ptr) (by kernel_rfl) (fun b37 hb37 => ?_)
        refine J.pick1 9 (by kernel_rfl) (by kernel_rfl) ?_
        refine J.callq (d := some 51) (by kernel_rfl) (fun w1 A1 m1 l1 => root_calls bits _ a3 (n - (half n)) (c - (half n)) (ls.drop (half n)) (Nat.lt_succ_self _) (by first | assumption | exact Short.take (by assumption) _ | exact Short.drop (by assumption) _ | exact Short.drop (Short.take (by assumption) _) _) (by first | omega | (simp; omega)) nobody w1 noA (hp3.mv m1).any) ?_
        rintro _ u15 w35 A35 rfl g14
        have m35 := g14.mv
        replace hs := hs.mv m35; replace hp := hp.mv m35; replace h3 := h3.mv m35; replace h4 := h4.mv m35; replace h5 := h5.mv m35; replace hl := hl.mv m35; replace h12 := h12.mv m35; replace hp1 := hp1.mv m35; replace hp2 := hp2.mv m35; replace hp3 := hp3.mv m35
        refine J.pick1 12 (by kernel_rfl) (by kernel_rfl) ?_
        refine J.storeqN (i := 3) (m' := [⟨47, [.slice a n c]⟩, ⟨34, dcells dg0⟩, ⟨34, dcells dg0⟩, ⟨34, dcells (rootF bits (ls.take (half n)))⟩]) (by kernel_rfl) (show w1.heap.size ≤ b37 by have := m31.size; have := m35.size; omega) ?_
        refine J.pick1 13 (by kernel_rfl) (by kernel_rfl) ?_
        refine J.storeqN (i := 2) (m' := [⟨47, [.slice a n c]⟩, ⟨34, dcells dg0⟩, ⟨34, dcells (rootF bits (ls.drop (half n)))⟩, ⟨34, dcells (rootF bits (ls.take (half n)))⟩]) (by kernel_rfl) (show w1.heap.size ≤ b35 by have := m31.size; have := m35.size; omega) ?_
        refine J.pdone (by kernel_rfl) ?_
        refine J.asPtr 3 ?_
        refine J.freeze 3 rfl (by kernel_rfl) (fun h => h) (L := ⟨34, dcells (rootF bits (ls.take (half n)))⟩) rfl (fun w36 A36 m36 hs21 hr22 hn21 => ?_)
        replace hs := hs.mv m36; replace hp := hp.mv m36; replace h3 := h3.mv m36; replace h4 := h4.mv m36; replace h5 := h5.mv m36; replace hl := hl.mv m36; replace h12 := h12.mv m36; replace hp1 := hp1.mv m36; replace hp2 := hp2.mv m36; replace hp3 := hp3.mv m36
        have h14 : Sl 32 dcells A36 w36 (some ⟨b37, 0, none⟩) 1 1 [(rootF bits (ls.take (half n)))] := Sl.ofRow (enc := dcells) (l := [(rootF bits (ls.take (half n)))]) (kk := 32) (b := b37) (cs := dcells (rootF bits (ls.take (half n)))) hr22 hn21 rfl (fun x _ => rfl) rfl (by simp only [maxLen]; omega)
        refine J.asPtr 2 ?_
        refine J.freeze 2 rfl (by kernel_rfl) (fun h => h) (L := ⟨34, dcells (rootF bits (ls.drop (half n)))⟩) rfl (fun w37 A37 m37 hs22 hr23 hn22 => ?_)
        replace hs := hs.mv m37; replace hp := hp.mv m37; replace h3 := h3.mv m37; replace h4 := h4.mv m37; replace h5 := h5.mv m37; replace hl := hl.mv m37; replace h12 := h12.mv m37; replace hp1 := hp1.mv m37; replace hp2 := hp2.mv m37; replace hp3 := hp3.mv m37; replace h14 := h14.mv m37
        have h15 : Sl 32 dcells A37 w37 (some ⟨b35, 0, none⟩) 1 1 [(rootF bits (ls.drop (half n)))] := Sl.ofRow (enc := dcells) (l := [(rootF bits (ls.drop (half n)))]) (kk := 32) (b := b35) (cs := dcells (rootF bits (ls.drop (half n)))) hr23 hn22 rfl (fun x _ => rfl) rfl (by simp only [maxLen]; omega)
        refine J.run [] [1, 3, 5, 6, 9, 11, 12, 13, 14, 15] ⟨[(1, .v (.int .i64 ((i : Nat) : Int))), (3, .v (.pointer (some ⟨q3, 0, none⟩))), (5, .v (.pointer (some ⟨q5, 0, none⟩))), (6, .loc 0 0), (9, .loc 1 0), (11, .v (.int .i64 ((half n : Nat) : Int))), (12, .v (.pointer (some ⟨b12, 0, none⟩))), (13, .v (.slice pa (pn - 1) pc)), (14, .v (.pointer (some ⟨b37, 0, none⟩))), (15, .v (.pointer (some ⟨b35, 0, none⟩)))], [⟨47, [.slice a n c]⟩, ⟨34, dcells dg0⟩]⟩ [] [] (by kernel_rfl) ?_
        exact up_k5 bits leaf la ln lc q3 q4 q5 hln _ n c ls i _ pn pc path ih hi hpl hsh hn Ac W hA (by omega) _ _ (by have := m1.size; have := m31.size; have := m35.size; have := m36.size; have := m37.size;  omega) b1 b2 hs hp h3 h4 h5 hl x b12 h12 hx b37 b35 h14 h15 
    · skip
      refine J.newq (T := 34) (cs := dcells dg0) (d := 14) (K := .ptr) (by kernel_rfl) (fun b38 hb38 => ?_)
      refine J.pick1 4 (by kernel_rfl) (by kernel_rfl) ?_
      refine J.callq (d := some 46) (by kernel_rfl) (fun w1 A1 m1 l1 => root_calls bits _ a (half n) c (ls.take (half n)) (Nat.lt_succ_self _) (by first | assumption | exact Short.take (by assumption) _ | exact Short.drop (by assumption) _ | exact Short.drop (Short.take (by assumption) _) _) (by first | omega | (simp; omega)) nobody w1 noA (hp2.mv m1).any) ?_
      rintro _ u16 w38 A38 rfl g15
      have m38 := g15.mv
      replace hs := hs.mv m38; replace hp := hp.mv m38; replace h3 := h3.mv m38; replace h4 := h4.mv m38; replace h5 := h5.mv m38; replace hl := hl.mv m38; replace h12 := h12.mv m38; replace hp1 := hp1.mv m38; replace hp2 := hp2.mv m38; replace hp3 := hp3.mv m38
      refine J.pick1 9 (by kernel_rfl) (by kernel_rfl) ?_
      refine J.callq (d := some 51) (by kernel_rfl) (fun w1 A1 m1 l1 => root_calls bits _ a3 (n - (half n)) (c - (half n)) (ls.drop (half n)) (Nat.lt_succ_self _) (by first | assumption | exact Short.take (by assumption) _ | exact Short.drop (by assumption) _ | exact Short.drop (Short.take (by assumption) _) _) (by first | omega | (simp; omega)) nobody w1 noA (hp3.mv m1).any) ?_
      rintro _ u17 w39 A39 rfl g16
      have m39 := g16.mv
      replace hs := hs.mv m39; replace hp := hp.mv m39; replace h3 := h3.mv m39; replace h4 := h4.mv m39; replace h5 := h5.mv m39; replace hl := hl.mv m39; replace h12 := h12.mv m39; replace hp1 := hp1.mv m39; replace hp2 := hp2.mv m39; replace hp3 := hp3.mv m39
      refine J.pick1 12 (by kernel_rfl) (by kernel_rfl) ?_
      refine J.storeqN (i := 3) (m' := [⟨47, [.slice a n c]⟩, ⟨34, dcells dg0⟩, ⟨34, dcells dg0⟩, ⟨34, dcells (rootF bits (ls.take (half n)))⟩]) (by kernel_rfl) (show w1.heap.size ≤ b38 by have := m38.size; have := m39.size; omega) ?_
      refine J.pick1 13 (by kernel_rfl) (by kernel_rfl) ?_
      refine J.storeqN (i := 2) (m' := [⟨47, [.slice a n c]⟩, ⟨34, dcells dg0⟩, ⟨34, dcells (rootF bits (ls.drop (half n)))⟩, ⟨34, dcells (rootF bits (ls.take (half n)))⟩]) (by kernel_rfl) (show w1.heap.size ≤ b35 by have := m38.size; have := m39.size; omega) ?_
      refine J.pdone (by kernel_rfl) ?_
      refine J.asPtr 3 ?_
      refine J.freeze 3 rfl (by kernel_rfl) (fun h => h) (L := ⟨34, dcells (rootF bits (ls.take (half n)))⟩) rfl (fun w40 A40 m40 hs23 hr24 hn23 => ?_)
      replace hs := hs.mv m40; replace hp := hp.mv m40; replace h3 := h3.mv m40; replace h4 := h4.mv m40; replace h5 := h5.mv m40; replace hl := hl.mv m40; replace h12 := h12.mv m40; replace hp1 := hp1.mv m40; replace hp2 := hp2.mv m40; replace hp3 := hp3.mv m40
      have h14 : Sl 32 dcells A40 w40 (some ⟨b38, 0, none⟩) 1 1 [(rootF bits (ls.take (half n)))] := Sl.ofRow (enc := dcells) (l := [(rootF bits (ls.take (half n)))]) (kk := 32) (b := b38) (cs := dcells (rootF bits (ls.take (half n)))) hr24 hn23 rfl (fun x _ => rfl) rfl (by simp only [maxLen]; omega)
      refine J.asPtr 2 ?_
      refine J.freeze 2 rfl (by kernel_rfl) (fun h => h) (L := ⟨34, dcells (rootF bits (ls.drop (half n)))⟩) rfl (fun w41 A41 m41 hs24 hr25 hn24 => ?_)
      replace hs := hs.mv m41; replace hp := hp.mv m41; replace h3 := h3.mv m41; replace h4 := h4.mv m41; replace h5 := h5.mv m41; replace hl := hl.mv m41; replace h12 := h12.mv m41; replace hp1 := hp1.mv m41; replace hp2 := hp2.mv m41; replace hp3 := hp3.mv m41; replace h14 := h14.mv m41
      have h15 : Sl 32 dcells A41 w41 (some ⟨b35, 0, none⟩) 1 1 [(rootF bits (ls.drop (half n)))] := Sl.ofRow (enc := dcells) (l := [(rootF bits (ls.drop (half n)))]) (kk := 32) (b := b35) (cs := dcells (rootF bits (ls.drop (half n)))) hr25 hn24 rfl (fun x _ => rfl) rfl (by simp only [maxLen]; omega)
      refine J.run [] [1, 3, 5, 6, 9, 11, 12, 13, 14, 15] ⟨[(1, .v (.int .i64 ((i : Nat) : Int))), (3, .v (.pointer (some ⟨q3, 0, none⟩))), (5, .v (.pointer (some ⟨q5, 0, none⟩))), (6, .loc 0 0), (9, .loc 1 0), (11, .v (.int .i64 ((half n : Nat) : Int))), (12, .v (.pointer (some ⟨b12, 0, none⟩))), (13, .v (.slice pa (pn - 1) pc)), (14, .v (.pointer (some ⟨b38, 0, none⟩))), (15, .v (.pointer (some ⟨b35, 0, none⟩)))], [⟨47, [.slice a n c]⟩, ⟨34, dcells dg0⟩]⟩ [] [] (by kernel_rfl) ?_
      exact up_k5 bits leaf la ln lc q3 q4 q5 hln _ n c ls i _ pn pc path ih hi hpl hsh hn Ac W hA (by omega) _ _ (by have := m1.size; have := m38.size; have := m39.size; have := m40.size; have := m41.size;  omega) b1 b2 hs hp h3 h4 h5 hl x b12 h12 hx b38 b35 h14 h15 
theorem up_step (bits : Int) (leaf : List UInt8) (la : Option Addr) (ln lc : Nat) (q3 q4 q5 : Nat) (hln : ln ≤ 1000000) (a : Option Addr) (n c : Nat) (ls : List (List UInt8)) (i : Nat) (pa : Option Addr) (pn pc : Nat) (path : List Dg) (ih : ∀ (a : Option Addr) (n c : Nat) (l2 : List (List UInt8)) (i2 : Nat) (pa : Option Addr) (pn pc : Nat) (p2 : List Dg), l2.length < ls.length → i2 < l2.length → p2.length = (sides l2.length i2).length → Short l2 → l2.length ≤ 1000000 → ∀ (Ac : Nat → Prop) (W : World), (∀ k, Ac k → k < W.heap.size) → Rows Ac W a n c l2 → Sl 32 dcells Ac W pa pn pc p2 → Sl 1 encV Ac W (some ⟨q3, 0, none⟩) 1 1 [(.int .i64 bits)] → Sl 1 encV Ac W (some ⟨q4, 0, none⟩) 1 1 [(.slice la ln lc)] → Sl 1 encV Ac W (some ⟨q5, 0, none⟩) 1 1 [(.func (.func 40) #[] #[ptr q3, ptr q4, ptr q5])] → Sl 1 u8 Ac W la ln lc leaf → Calls Pr 40 (([.slice a n c, .int .i64 ((i2 : Nat) : Int), .slice pa pn pc] : List Value) ++ [ptr q3, ptr q4, ptr q5]).toArray W (Ret nobody W (UpR Ac W.heap.size bits leaf l2 i2 p2))) (hi : i < ls.length) (hpl : path.length = (sides ls.length i).length) (hsh : Short ls) (hn : ls.length ≤ 1000000) (Ac : Nat → Prop) (W : World) (hA : ∀ k, Ac k → k < W.heap.size) (hs : Rows Ac W a n c ls) (hp : Sl 32 dcells Ac W pa pn pc path) (h3 : Sl 1 encV Ac W (some ⟨q3, 0, none⟩) 1 1 [(.int .i64 bits)]) (h4 : Sl 1 encV Ac W (some ⟨q4, 0, none⟩) 1 1 [(.slice la ln lc)]) (h5 : Sl 1 encV Ac W (some ⟨q5, 0, none⟩) 1 1 [(.func (.func 40) #[] #[ptr q3, ptr q4, ptr q5])]) (hl : Sl 1 u8 Ac W la ln lc leaf) :
    Calls Pr 40 #[.slice a n c, .int .i64 ((i : Nat) : Int), .slice pa pn pc, .pointer (some ⟨q3, 0, none⟩), .pointer (some ⟨q4, 0, none⟩), .pointer (some ⟨q5, 0, none⟩)] W (Ret nobody W fun v w => UpR Ac W.heap.size bits leaf ls i path v w) := by
  refine J.enter (fn := Try.f40) (n := 93) Try.func40 (by kernel_rfl) (by kernel_rfl) (by kernel_rfl) hA ?_
  have h40 := h4; have hl0 := hl; have hs0 := hs
  have hlen := hs.len; have hle := hs.le; have hcap := hs.cap; simp only [maxLen] at hcap; have hpn := hp.len; have hple := hp.le; have hpc := hp.cap; simp only [maxLen] at hpc; have hh := half_lt2 n
  have hsd : 2 ≤ n → 1 ≤ pn := fun h => by rw [hpn, hpl, ← hlen]; exact sides_pos h
  have hpn1 : 2 ≤ n → IntKind.i64.wrap (((pn : Nat) : Int) - 1) = ((pn - 1 : Nat) : Int) := fun h => by have := hsd h; rw [wrap_i64 (by omega) (by omega)]; omega
  have hik : ∀ k : Nat, k ≤ i → IntKind.i64.wrap (((i : Nat) : Int) - ((k : Nat) : Int)) = ((i - k : Nat) : Int) := fun k hk => by rw [wrap_i64 (by omega) (by omega)]; omega
  refine J.rn [.n, .n] [0, 1, 2, 3, 4, 5] [.c 0] [.o 1 0, .c 2] (by kernel_rfl) ?_
  refine J.new (T := 47) (cs := [.slice a n c]) (d := 6) (K := .ptr) (by kernel_rfl) (fun b1 hb1 => ?_)
  refine J.new (T := 34) (cs := dcells dg0) (d := 9) (K := .ptr) (by kernel_rfl) (fun b2 hb2 => ?_)
  refine J.rn [.u, .n, .n, .n, .n, .u, .u, .u, .n] [1, 2, 3, 4, 5, 6, 9, 22] [.o 1 2, .c 2] [.c 5, .c 10] (by kernel_rfl) ?_
  refine J.cond (b := (((n : Nat) : Int) == 1)) (k' := 9) (by kernel_rfl) (fun hc => ?_) (fun hc => ?_)
  · try simp only [nrm] at hc
    have hc1 := hc
    refine J.rn [.n, .n] [3, 4, 6, 9] [.c 6, .c 10] [.o 7 0, .c 8, .c 10] (by kernel_rfl) ?_
    refine J.ld (T := 32) (b := q3) (off := 0) (d := 23) (v := .agg [.int .i64 bits].toArray) (by kernel_rfl) (fun w1 A1 m1 l1 => (h3.mv m1).tr0) ?_
    refine J.ld (T := 23) (b := q4) (off := 0) (d := 24) (v := .slice la ln lc) (by kernel_rfl) (fun w1 A1 m1 l1 => (h4.mv m1).ld1 (by kernel_rfl) (one0 _) (j := 0) rfl) ?_
    refine J.call (d := some 25) (by kernel_rfl) (fun w1 A1 m1 l1 => leaf_calls bits la ln lc leaf (by omega) nobody w1 noA (hl.mv m1).any) ?_
    rintro _ u1 w1 A1 rfl g1
    have m1 := g1.mv
    replace hs := hs.mv m1; replace hp := hp.mv m1; replace h3 := h3.mv m1; replace h4 := h4.mv m1; replace h5 := h5.mv m1; replace hl := hl.mv m1
    refine J.run [.u] [9, 25, 26] ⟨[(9, .loc 1 0), (25, .v (.agg (dcells (leafF bits leaf)).toArray)), (26, .v ((.func (.func 42) #[] #[.pointer (some ⟨q4, 0, none⟩), .pointer (some ⟨b1, 0, none⟩)])))], [⟨47, [.slice a n c]⟩, ⟨34, dcells dg0⟩]⟩ [.o 7 3, .c 8, .c 10] [.o 7 4, .c 8, .c 10] (by kernel_rfl) ?_
    refine J.new (T := 1) (cs := [(.func (.func 42) #[] #[.pointer (some ⟨q4, 0, none⟩), .pointer (some ⟨b1, 0, none⟩)])]) (d := 27) (K := (.sl 1)) (by kernel_rfl) (fun b3 hb3 => ?_)
    refine J.run [.u, .u, .n] [9, 10] ⟨[(9, .loc 1 0), (10, .v (.slice (some ⟨b3, 0, none⟩) 1 1))], [⟨47, [.slice a n c]⟩, ⟨34, dcells (leafF bits leaf)⟩, ⟨1, [(.func (.func 42) #[] #[.pointer (some ⟨q4, 0, none⟩), .pointer (some ⟨b1, 0, none⟩)])]⟩]⟩ [.o 7 5, .c 8, .c 10] [.c 8, .c 10] (by kernel_rfl) ?_
    have mch := ((Mv.refl hA).trans' m1)
    obtain ⟨x0, hx0⟩ : ∃ zq, ls[0]? = some zq := ⟨_, List.getElem?_eq_getElem (by omega)⟩
    have hbS : ∀ k, Eb (some ⟨b3, 0, none⟩) k → W.heap.size ≤ k := fun k hk => by obtain ⟨x, e, rfl⟩ := hk; cases e; have := m1.size;  show W.heap.size ≤ b3; omega
    refine J.ret (v := .tuple #[.agg (dcells (leafF bits leaf)).toArray, .slice (some ⟨b3, 0, none⟩) 1 1]) (by kernel_rfl) (by kernel_rfl) (fun w1 A1 m1 hac l1 => by
          have r0 : w1.heap[b1]? = some (.cells [.slice a n c].toArray 47 (0, 0)) := l1.row (i := 0) rfl
          have hnA : ¬ Gr Ac (some ⟨b3, 0, none⟩) b1 := fun h => h.elim (fun h => by have := hA _ h; have := m1.size;  omega) (fun ⟨x, e, e2⟩ => by cases e; have q := l1.nodup; simp_all)
          have hb : Sl 1 encV (Gr Ac (some ⟨b3, 0, none⟩)) w1 (some ⟨b1, 0, none⟩) 1 1 [.slice a n c] := Sl.ofRow (enc := encV) (l := [.slice a n c]) (kk := 1) (b := b1) (cs := [.slice a n c]) r0 hnA rfl (fun x _ => rfl) rfl (by simp only [maxLen]; omega)
          have mm := (mch.trans' m1)
          exact ⟨some ⟨b3, 0, none⟩, 1, [Value.func (.func 42) #[] #[.pointer (some ⟨q4, 0, none⟩), .pointer (some ⟨b1, 0, none⟩)]], by rw [upD_1 (by omega)]; rfl, New.ofRow (l1.row (i := 2) rfl) (hbS _ ⟨_, rfl, rfl⟩), by rw [chkF_1 (by omega) hx0]; exact ChkL.one (Chk.leaf hln (h40.growMv mm hac hbS) (hl0.growMv mm hac hbS) hb (hs0.growMv mm hac hbS) hx0 hsh)⟩)
  · try simp only [nrm] at hc
    have hc1 := hc
    refine J.run [.n, .n] [1, 2, 3, 5, 6, 9] ⟨[(1, .v (.int .i64 ((i : Nat) : Int))), (2, .v (.slice pa pn pc)), (3, .v (.pointer (some ⟨q3, 0, none⟩))), (5, .v (.pointer (some ⟨q5, 0, none⟩))), (6, .loc 0 0), (9, .loc 1 0)], [⟨47, [.slice a n c]⟩, ⟨34, dcells dg0⟩]⟩ [.c 9, .c 10] [.c 11, .c 12] (by kernel_rfl) ?_
    refine J.draw [] nobody (by kernel_rfl) (by kernel_rfl) (fun _ h => h.elim) (fun w2 A2 m2 hr1 hX1 => ?_)
    replace hs := hs.mv m2; replace hp := hp.mv m2; replace h3 := h3.mv m2; replace h4 := h4.mv m2; replace h5 := h5.mv m2; replace hl := hl.mv m2
    refine J.take0 [(0, .u), (1, .u), (3, .u), (4, .u), (5, .u), (6, .u)] [1, 2, 3, 5, 6, 9, 29, 31, 34] [(1, .v (.int .i64 ((i : Nat) : Int))), (2, .v (.slice pa pn pc)), (3, .v (.pointer (some ⟨q3, 0, none⟩))), (5, .v (.pointer (some ⟨q5, 0, none⟩))), (6, .loc 0 0), (9, .loc 1 0), (29, .v (.int .i64 ((n : Nat) : Int))), (31, .v (.slice pa pn pc)), (34, .v (.int .i64 (IntKind.i64.wrap (((pn : Nat) : Int) - 1))))] [6, 5, 4, 3, 1, 0] (calm_body _ _ _) (by intro k _ h; exact h) hr1 (by kernel_rfl) ?_
    rw [hpn1 (by omega)]
    obtain ⟨p1, o1, rfl⟩ := hp.addr (by omega)
    refine J.idxp (j := 7) (b := p1) (off := o1) (len := pn) (i := ((pn - 1 : Nat) : Int)) (sz := 32) (d := 35) (calm_body _ _ _) (by kernel_rfl) (by kernel_rfl) (by omega) (by omega) ?_
    obtain ⟨x1, hx1⟩ : ∃ zq, (path)[pn - 1]? = some zq := ⟨_, List.getElem?_eq_getElem (by omega)⟩
    refine J.ldp (i := 8) (T := 34) (b := p1) (off := o1 + (pn - 1) * 32) (d := 36) (v := .agg (dcells x1).toArray) (calm_body _ _ _) (by kernel_rfl) (by kernel_rfl) hX1 (fun w1 m1 => (hp.mv m1).ld (by kernel_rfl) hx1 (by kernel_rfl)) ?_
    refine J.pick [2, 9] (by kernel_rfl) (by kernel_rfl) (by simp) (fun i hi => ?_)
    simp only [List.mem_cons, List.not_mem_nil, or_false] at hi
    rcases hi with rfl | rfl
    · skip
      have hhh1 := half_lt2 n
      refine J.callq (d := some 30) (by kernel_rfl) (fun w1 A1 m1 l1 => clash_half n (by omega) (by simp only [maxLen]; omega) nobody w1 noA) ?_
      rintro _ u2 w3 A3 rfl g2
      have m3 := g2.mv
      replace hs := hs.mv m3; replace hp := hp.mv m3; replace h3 := h3.mv m3; replace h4 := h4.mv m3; replace h5 := h5.mv m3; replace hl := hl.mv m3
      refine J.pick1 9 (by kernel_rfl) (by kernel_rfl) ?_
      refine J.newq (T := 34) (cs := dcells dg0) (d := 12) (K := .ptr) (by kernel_rfl) (fun b4 hb4 => ?_)
      refine J.take1 [(10, .u)] [1, 2, 3, 5, 6, 9, 11, 12, 36] [(1, .v (.int .i64 ((i : Nat) : Int))), (2, .v (.slice (some ⟨p1, o1, none⟩) pn pc)), (3, .v (.pointer (some ⟨q3, 0, none⟩))), (5, .v (.pointer (some ⟨q5, 0, none⟩))), (6, .loc 0 0), (9, .loc 1 0), (11, .v (.int .i64 ((half n : Nat) : Int))), (12, .loc 2 0), (36, .v (.agg (dcells x1).toArray))] [10, 9, 2, 8, 7, 6, 5, 4, 3, 1, 0] (calm_body _ _ _) (by kernel_rfl) ?_
      refine J.pick1 11 (by kernel_rfl) (by kernel_rfl) ?_
      refine J.storeqN (i := 2) (m' := [⟨47, [.slice a n c]⟩, ⟨34, dcells dg0⟩, ⟨34, dcells x1⟩]) (by kernel_rfl) (show w2.heap.size ≤ b4 by have := m3.size; omega) ?_
      refine J.pdone (by kernel_rfl) ?_
      refine J.asPtr 2 ?_
      refine J.freeze 2 rfl (by kernel_rfl) (fun h => h) (L := ⟨34, dcells x1⟩) rfl (fun w4 A4 m4 hs1 hr2 hn1 => ?_)
      replace hs := hs.mv m4; replace hp := hp.mv m4; replace h3 := h3.mv m4; replace h4 := h4.mv m4; replace h5 := h5.mv m4; replace hl := hl.mv m4
      have h12 : Sl 32 dcells A4 w4 (some ⟨b4, 0, none⟩) 1 1 [x1] := Sl.ofRow (enc := dcells) (l := [x1]) (kk := 32) (b := b4) (cs := dcells x1) hr2 hn1 rfl (fun x _ => rfl) rfl (by simp only [maxLen]; omega)
      refine J.run [] [1, 2, 3, 5, 6, 9, 11, 12] ⟨[(1, .v (.int .i64 ((i : Nat) : Int))), (2, .v (.slice (some ⟨p1, o1, none⟩) pn pc)), (3, .v (.pointer (some ⟨q3, 0, none⟩))), (5, .v (.pointer (some ⟨q5, 0, none⟩))), (6, .loc 0 0), (9, .loc 1 0), (11, .v (.int .i64 ((half n : Nat) : Int))), (12, .v (.pointer (some ⟨b4, 0, none⟩)))], [⟨47, [.slice a n c]⟩, ⟨34, dcells dg0⟩]⟩ [] [] (by kernel_rfl) ?_
      exact up_k3 bits leaf la ln lc q3 q4 q5 hln _ n c ls i _ pn pc path ih hi hpl hsh hn Ac W hA (by omega) _ _ (by have := m2.size; have := m3.size; have := m4.size;  omega) b1 b2 hs hp h3 h4 h5 hl x1 b4 h12 hx1 
    · skip
      refine J.newq (T := 34) (cs := dcells dg0) (d := 12) (K := .ptr) (by kernel_rfl) (fun b5 hb5 => ?_)
      refine J.pick1 2 (by kernel_rfl) (by kernel_rfl) ?_
      have hhh2 := half_lt2 n
      refine J.callq (d := some 30) (by kernel_rfl) (fun w1 A1 m1 l1 => clash_half n (by omega) (by simp only [maxLen]; omega) nobody w1 noA) ?_
      rintro _ u3 w5 A5 rfl g3
      have m5 := g3.mv
      replace hs := hs.mv m5; replace hp := hp.mv m5; replace h3 := h3.mv m5; replace h4 := h4.mv m5; replace h5 := h5.mv m5; replace hl := hl.mv m5
      refine J.take1 [(10, .u)] [1, 2, 3, 5, 6, 9, 11, 12, 36] [(1, .v (.int .i64 ((i : Nat) : Int))), (2, .v (.slice (some ⟨p1, o1, none⟩) pn pc)), (3, .v (.pointer (some ⟨q3, 0, none⟩))), (5, .v (.pointer (some ⟨q5, 0, none⟩))), (6, .loc 0 0), (9, .loc 1 0), (11, .v (.int .i64 ((half n : Nat) : Int))), (12, .loc 2 0), (36, .v (.agg (dcells x1).toArray))] [10, 2, 9, 8, 7, 6, 5, 4, 3, 1, 0] (calm_body _ _ _) (by kernel_rfl) ?_
      refine J.pick1 11 (by kernel_rfl) (by kernel_rfl) ?_
      refine J.storeqN (i := 2) (m' := [⟨47, [.slice a n c]⟩, ⟨34, dcells dg0⟩, ⟨34, dcells x1⟩]) (by kernel_rfl) (show w2.heap.size ≤ b5 by have := m5.size; omega) ?_
      refine J.pdone (by kernel_rfl) ?_
      refine J.asPtr 2 ?_
      refine J.freeze 2 rfl (by kernel_rfl) (fun h => h) (L := ⟨34, dcells x1⟩) rfl (fun w6 A6 m6 hs2 hr3 hn2 => ?_)
      replace hs := hs.mv m6; replace hp := hp.mv m6; replace h3 := h3.mv m6; replace h4 := h4.mv m6; replace h5 := h5.mv m6; replace hl := hl.mv m6
      have h12 : Sl 32 dcells A6 w6 (some ⟨b5, 0, none⟩) 1 1 [x1] := Sl.ofRow (enc := dcells) (l := [x1]) (kk := 32) (b := b5) (cs := dcells x1) hr3 hn2 rfl (fun x _ => rfl) rfl (by simp only [maxLen]; omega)
      refine J.run [] [1, 2, 3, 5, 6, 9, 11, 12] ⟨[(1, .v (.int .i64 ((i : Nat) : Int))), (2, .v (.slice (some ⟨p1, o1, none⟩) pn pc)), (3, .v (.pointer (some ⟨q3, 0, none⟩))), (5, .v (.pointer (some ⟨q5, 0, none⟩))), (6, .loc 0 0), (9, .loc 1 0), (11, .v (.int .i64 ((half n : Nat) : Int))), (12, .v (.pointer (some ⟨b5, 0, none⟩)))], [⟨47, [.slice a n c]⟩, ⟨34, dcells dg0⟩]⟩ [] [] (by kernel_rfl) ?_
      exact up_k3 bits leaf la ln lc q3 q4 q5 hln _ n c ls i _ pn pc path ih hi hpl hsh hn Ac W hA (by omega) _ _ (by have := m2.size; have := m5.size; have := m6.size;  omega) b1 b2 hs hp h3 h4 h5 hl x1 b5 h12 hx1 
end Go.Proofs.Ytkgokehkobifkaa.J

/- Package clash: Of. -/
namespace Go.Proofs.Ytkgokehkobifkaa.J
open Go Go.RowKit

theorem up_calls (bits : Int) (leaf : List UInt8) (la : Option Addr) (ln lc : Nat) (q3 q4 q5 : Nat) (hln : ln ≤ 1000000) : ∀ (N : Nat) (a : Option Addr) (n c : Nat) (ls : List (List UInt8)) (i : Nat) (pa : Option Addr) (pn pc : Nat) (path : List Dg), ls.length < N → i < ls.length → path.length = (sides ls.length i).length → Short ls → ls.length ≤ 1000000 → ∀ (Ac : Nat → Prop) (W : World), (∀ k, Ac k → k < W.heap.size) → Rows Ac W a n c ls → Sl 32 dcells Ac W pa pn pc path →
    Sl 1 encV Ac W (some ⟨q3, 0, none⟩) 1 1 [.int .i64 bits] → Sl 1 encV Ac W (some ⟨q4, 0, none⟩) 1 1 [.slice la ln lc] → Sl 1 encV Ac W (some ⟨q5, 0, none⟩) 1 1 [(.func (.func 40) #[] #[ptr q3, ptr q4, ptr q5])] → Sl 1 u8 Ac W la ln lc leaf →
    Calls Pr 40 (([.slice a n c, .int .i64 ((i : Nat) : Int), .slice pa pn pc] : List Value) ++ [ptr q3, ptr q4, ptr q5]).toArray W (Ret nobody W (UpR Ac W.heap.size bits leaf ls i path))
  | 0, _, _, _, _, _, _, _, _, _, h, _, _, _, _, _, _, _, _, _, _, _, _, _ => absurd h (Nat.not_lt_zero _)
  | N + 1, a, n, c, ls, i, pa, pn, pc, path, h, hi, hp, hsh, hn, Ac, W, hA, h1, h2, h3, h4, h5, h6 =>
    up_step bits leaf la ln lc q3 q4 q5 hln a n c ls i pa pn pc path (fun a2 n2 c2 l2 i2 pa2 pn2 pc2 p2 g1 g2 g3 g4 g5 => up_calls bits leaf la ln lc q3 q4 q5 hln N a2 n2 c2 l2 i2 pa2 pn2 pc2 p2 (by omega) g2 g3 g4 g5) hi hp hsh hn Ac W hA h1 h2 h3 h4 h5 h6

/-- What Of answers. -/
def OfR (Ac : Nat → Prop) (bits : Int) (ls : List (List UInt8)) (i : Int) (leaf : List UInt8) (path : List Dg) (v : Value) (w : World) : Prop :=
  (v = .tuple #[.slice none 0 0, .slice none 0 0, .bool false] ∧ (checkF bits (rootF bits ls) ls.length i leaf path = false ∨ alikeFrom (chkF bits leaf ls i.toNat path) 0)) ∨
  ∃ p a n c b m d, checkF bits (rootF bits ls) ls.length i leaf path = true ∧ lastUn (chkF bits leaf ls i.toNat path) p ∧ v = .tuple #[.slice a n c, .slice b m d, .bool true] ∧ Sl 1 u8 Ac w a n c p.1 ∧ Sl 1 u8 Ac w b m d p.2
theorem checkF_nat {bits : Int} {root : Dg} {n : Nat} {i : Int} {leaf : List UInt8} {path : List Dg} (h : checkF bits root n i leaf path = true) : 0 ≤ i := by
  unfold checkF at h
  simp only [Bool.and_eq_true, decide_eq_true_eq] at h
  exact h.1.1
theorem checkF_spec {bits : Int} {root : Dg} {n i : Nat} {leaf : List UInt8} {path : List Dg} (h : checkF bits root n ((i : Nat) : Int) leaf path = true) : i < n ∧ path.length = (sides n i).length ∧ upD bits leaf n i path = root := by
  unfold checkF checkN at h
  simp only [Bool.and_eq_true, decide_eq_true_eq, Int.toNat_natCast] at h
  exact ⟨by omega, h.2.1, dgEq_iff.1 h.2.2⟩

theorem clashOf_calls (bits : Int) (a : Option Addr) (n c : Nat) (ls : List (List UInt8)) (i : Int) (la : Option Addr) (ln lc : Nat) (leaf : List UInt8) (pa : Option Addr) (pn pc : Nat) (path : List Dg) (hsh : Short ls) (hn : ls.length ≤ 1000000) (hln : ln ≤ 1000000) (Ac : Nat → Prop) (W : World) (hA : ∀ k, Ac k → k < W.heap.size) (hs : Rows Ac W a n c ls) (hl : Sl 1 u8 Ac W la ln lc leaf) (hp : Sl 32 dcells Ac W pa pn pc path) :
    Calls Pr 15 #[.agg [.int .i64 bits].toArray, .slice a n c, .int .i64 i, .slice la ln lc, .slice pa pn pc] W (Ret nobody W fun v w => OfR Ac bits ls i leaf path v w) := by
  refine J.enter (fn := Try.f15) (n := 41) Try.func15 (by kernel_rfl) (by kernel_rfl) (by kernel_rfl) hA ?_
  have hlen := hs.len; have hle := hs.le; have hcap := hs.cap; simp only [maxLen] at hcap
  refine J.rn [.n, .n] [0, 1, 2, 3, 4] [.c 0] [.o 1 0, .c 2] (by kernel_rfl) ?_
  refine J.new (T := 32) (cs := [.int .i64 bits]) (d := 5) (K := .ptr) (by kernel_rfl) (fun b1 hb1 => ?_)
  refine J.new (T := 23) (cs := [.slice la ln lc]) (d := 8) (K := .ptr) (by kernel_rfl) (fun b2 hb2 => ?_)
  refine J.run [.u, .u, .u, .n, .n, .n] [1, 2, 4, 5, 8] ⟨[(1, .v (.slice a n c)), (2, .v (.int .i64 i)), (4, .v (.slice pa pn pc)), (5, .loc 0 0), (8, .loc 1 0)], [⟨32, [.int .i64 bits]⟩, ⟨23, [.slice la ln lc]⟩]⟩ [.o 1 2, .c 2] [.c 4, .c 5, .c 10] (by kernel_rfl) ?_
  refine J.draw [] nobody (by kernel_rfl) (by kernel_rfl) (fun _ h => h.elim) (fun w1 A1 m1 hr1 hX1 => ?_)
  replace hs := hs.mv m1; replace hl := hl.mv m1; replace hp := hp.mv m1
  refine J.take0 [(0, .u), (1, .u), (2, .u), (4, .u), (5, .u), (6, .u), (7, .u), (8, .u)] [1, 2, 4, 5, 8, 16, 17, 18, 21, 22, 23, 24] [(1, .v (.slice a n c)), (2, .v (.int .i64 i)), (4, .v (.slice pa pn pc)), (5, .loc 0 0), (8, .loc 1 0), (16, .v (.agg [.int .i64 bits].toArray)), (17, .v (.agg [.int .i64 bits].toArray)), (18, .v (.slice a n c)), (21, .v (.int .i64 ((n : Nat) : Int))), (22, .v (.int .i64 i)), (23, .v (.slice la ln lc)), (24, .v (.slice pa pn pc))] [8, 7, 6, 5, 4, 2, 1, 0] (calm_body _ _ _) (by intro k _ h; exact h) hr1 (by kernel_rfl) ?_
  refine J.pick1 3 (by kernel_rfl) (by kernel_rfl) ?_
  refine J.callq (d := some 19) (by kernel_rfl) (fun w1 A1 m1 l1 => root_calls bits _ a n c ls (Nat.lt_succ_self _) (by first | assumption | exact Short.take (by assumption) _ | exact Short.drop (by assumption) _ | exact Short.drop (Short.take (by assumption) _) _) (by first | omega | (simp; omega)) nobody w1 noA (hs.mv m1).any) ?_
  rintro _ u1 w2 A2 rfl g1
  have m2 := g1.mv
  replace hs := hs.mv m2; replace hl := hl.mv m2; replace hp := hp.mv m2
  refine J.pick1 9 (by kernel_rfl) (by kernel_rfl) ?_
  refine J.callq (d := some 25) (by kernel_rfl) (fun w1 A1 m1 l1 => check_calls bits (rootF bits ls) n i la ln lc leaf pa pn pc path (by omega) (by omega) nobody w1 noA (hl.mv m1).any (hp.mv m1).any) ?_
  rintro _ u2 w3 A3 rfl g2
  have m3 := g2.mv
  replace hs := hs.mv m3; replace hl := hl.mv m3; replace hp := hp.mv m3
  refine J.take1 [(10, .u)] [1, 2, 4, 5, 8, 26] [(1, .v (.slice a n c)), (2, .v (.int .i64 i)), (4, .v (.slice pa pn pc)), (5, .loc 0 0), (8, .loc 1 0), (26, .v (.bool (!(checkF bits (rootF bits ls) n i leaf path))))] [10, 9, 3, 8, 7, 6, 5, 4, 2, 1, 0] (calm_body _ _ _) (by kernel_rfl) ?_
  refine J.pdone (by kernel_rfl) ?_
  refine J.cond (b := (!(checkF bits (rootF bits ls) n i leaf path))) (k' := 9) (by kernel_rfl) (fun hc => ?_) (fun hc => ?_)
  · try simp only [nrm] at hc
    have hc1 := hc
    refine J.rn [.n, .n, .u, .u, .u, .n] [10, 11, 12] [.c 6, .c 10] [.c 8, .c 10] (by kernel_rfl) ?_
    refine J.ret (v := .tuple #[.slice none 0 0, .slice none 0 0, .bool false]) (by kernel_rfl) (by kernel_rfl) (fun w1 A1 m1 hac l1 => .inl ⟨rfl, .inl (by rw [← hlen]; exact hc1)⟩)
  · try simp only [nrm] at hc
    have hc1 := hc
    refine J.rn [.n, .n, .n] [1, 2, 4, 5, 8] [.c 9, .c 10] [.o 11 0, .c 12] (by kernel_rfl) ?_
    have hck0 := checkF_nat hc1; obtain ⟨k, rfl⟩ : ∃ k : Nat, i = ((k : Nat) : Int) := ⟨i.toNat, by omega⟩
    rw [hlen] at hc1
    have hck := checkF_spec hc1
    refine J.new (T := 84) (cs := [.nilFunc]) (d := 13) (K := .ptr) (by kernel_rfl) (fun b3 hb3 => ?_)
    refine J.run [.n, .n, .n, .u, .u, .n, .n, .n, .u, .u, .u, .u] [29, 30, 31, 32] ⟨[(29, .v ((.func (.func 40) #[] #[.pointer (some ⟨b1, 0, none⟩), .pointer (some ⟨b2, 0, none⟩), .pointer (some ⟨b3, 0, none⟩)]))), (30, .v (.slice a n c)), (31, .v (.int .i64 ((k : Nat) : Int))), (32, .v (.slice pa pn pc))], [⟨32, [.int .i64 bits]⟩, ⟨23, [.slice la ln lc]⟩, ⟨84, [(.func (.func 40) #[] #[.pointer (some ⟨b1, 0, none⟩), .pointer (some ⟨b2, 0, none⟩), .pointer (some ⟨b3, 0, none⟩)])]⟩]⟩ [.o 11 1, .c 12] [.o 15 4, .c 16] (by kernel_rfl) ?_
    refine J.asPtr 2 ?_
    refine J.freeze 2 rfl (by kernel_rfl) (fun h => h) (L := ⟨84, [(.func (.func 40) #[] #[.pointer (some ⟨b1, 0, none⟩), .pointer (some ⟨b2, 0, none⟩), .pointer (some ⟨b3, 0, none⟩)])]⟩) rfl (fun w4 A4 m4 hs1 hr2 hn1 => ?_)
    replace hs := hs.mv m4; replace hl := hl.mv m4; replace hp := hp.mv m4
    have h5 : Sl 1 encV A4 w4 (some ⟨b3, 0, none⟩) 1 1 [(.func (.func 40) #[] #[.pointer (some ⟨b1, 0, none⟩), .pointer (some ⟨b2, 0, none⟩), .pointer (some ⟨b3, 0, none⟩)])] := Sl.ofRow (enc := encV) (l := [(.func (.func 40) #[] #[.pointer (some ⟨b1, 0, none⟩), .pointer (some ⟨b2, 0, none⟩), .pointer (some ⟨b3, 0, none⟩)])]) (kk := 1) (b := b3) (cs := [(.func (.func 40) #[] #[.pointer (some ⟨b1, 0, none⟩), .pointer (some ⟨b2, 0, none⟩), .pointer (some ⟨b3, 0, none⟩)])]) hr2 hn1 rfl (fun x _ => rfl) rfl (by simp only [maxLen]; omega)
    refine J.asPtr 1 ?_
    refine J.freeze 1 rfl (by kernel_rfl) (fun h => h) (L := ⟨23, [.slice la ln lc]⟩) rfl (fun w5 A5 m5 hs2 hr3 hn2 => ?_)
    replace hs := hs.mv m5; replace hl := hl.mv m5; replace hp := hp.mv m5; replace h5 := h5.mv m5
    have h4 : Sl 1 encV A5 w5 (some ⟨b2, 0, none⟩) 1 1 [(.slice la ln lc)] := Sl.ofRow (enc := encV) (l := [(.slice la ln lc)]) (kk := 1) (b := b2) (cs := [.slice la ln lc]) hr3 hn2 rfl (fun x _ => rfl) rfl (by simp only [maxLen]; omega)
    refine J.asPtr 0 ?_
    refine J.freeze 0 rfl (by kernel_rfl) (fun h => h) (L := ⟨32, [.int .i64 bits]⟩) rfl (fun w6 A6 m6 hs3 hr4 hn3 => ?_)
    replace hs := hs.mv m6; replace hl := hl.mv m6; replace hp := hp.mv m6; replace h5 := h5.mv m6; replace h4 := h4.mv m6
    have h3 : Sl 1 encV A6 w6 (some ⟨b1, 0, none⟩) 1 1 [(.int .i64 bits)] := Sl.ofRow (enc := encV) (l := [(.int .i64 bits)]) (kk := 1) (b := b1) (cs := [.int .i64 bits]) hr4 hn3 rfl (fun x _ => rfl) rfl (by simp only [maxLen]; omega)
    refine J.callV (g := 40) (cb := [ptr b1, ptr b2, ptr b3]) (args := [.slice a n c, .int .i64 ((k : Nat) : Int), .slice pa pn pc]) (d := some 33) (by kernel_rfl) (enters_of Try.func40 (by kernel_rfl) rfl) (fun w1 A1 m1 l1 => up_calls bits leaf la ln lc b1 b2 b3 hln _ a n c ls k pa pn pc path (Nat.lt_succ_self _) hck.1 hck.2.1 hsh hn A1 w1 m1.bdd (hs.mv m1) (hp.mv m1) (h3.mv m1) (h4.mv m1) (h5.mv m1) (hl.mv m1)) ?_
    rintro _ u3 w7 A7 ⟨fa, fc, fs, rfl, hnf, hkf⟩ g3
    have m7 := g3.mv
    replace hs := hs.mv m7; replace hl := hl.mv m7; replace hp := hp.mv m7; replace h5 := h5.mv m7; replace h4 := h4.mv m7; replace h3 := h3.mv m7
    have hfs : Chks A7 w7 fa fs.length fc fs (chkF bits leaf ls k path) := ⟨hnf.sl (fun x _ => rfl) (by decide) g3.bd, hkf.len, (hkf.weaken (fun k h => .inl h) (fun k h => h.elim (m7.bdd k) (fun ⟨x, e, e2⟩ => e2 ▸ (hnf.blk_lt x e).2))).each⟩
    have hfl := hkf.len; have hcl := chkF_le bits leaf ls k path
    refine J.rn [.u, .u, .u] [34, 35] [.o 15 5, .c 16] [.o 15 8, .c 16] (by kernel_rfl) ?_
    refine J.new (T := 34) (cs := [.int .u8 0, .int .u8 0, .int .u8 0, .int .u8 0, .int .u8 0, .int .u8 0, .int .u8 0, .int .u8 0, .int .u8 0, .int .u8 0, .int .u8 0, .int .u8 0, .int .u8 0, .int .u8 0, .int .u8 0, .int .u8 0, .int .u8 0, .int .u8 0, .int .u8 0, .int .u8 0, .int .u8 0, .int .u8 0, .int .u8 0, .int .u8 0, .int .u8 0, .int .u8 0, .int .u8 0, .int .u8 0, .int .u8 0, .int .u8 0, .int .u8 0, .int .u8 0]) (d := 14) (K := .ptr) (by kernel_rfl) (fun b4 hb4 => ?_)
    refine J.new (T := 85) (cs := [.slice none 0 0]) (d := 15) (K := .ptr) (by kernel_rfl) (fun b5 hb5 => ?_)
    refine J.run [.u, .u, .n, .n, .n, .u] [36] ⟨[(36, .v ((.func (.func 51) #[] #[.pointer (some ⟨b5, 0, none⟩)])))], [⟨34, dcells (upD bits leaf ls.length k path)⟩, ⟨85, [.slice fa fs.length fc]⟩]⟩ [.o 15 10, .c 16] [.o 17 1, .c 18] (by kernel_rfl) ?_
    refine J.asPtr 1 ?_
    refine J.freeze 1 rfl (by kernel_rfl) (fun h => h) (L := ⟨85, [.slice fa fs.length fc]⟩) rfl (fun w8 A8 m8 hs4 hr5 hn4 => ?_)
    replace hs := hs.mv m8; replace hl := hl.mv m8; replace hp := hp.mv m8; replace h5 := h5.mv m8; replace h4 := h4.mv m8; replace h3 := h3.mv m8; replace hfs := hfs.mv m8
    have h15 : Sl 1 encV A8 w8 (some ⟨b5, 0, none⟩) 1 1 [(.slice fa fs.length fc)] := Sl.ofRow (enc := encV) (l := [(.slice fa fs.length fc)]) (kk := 1) (b := b5) (cs := [.slice fa fs.length fc]) hr5 hn4 rfl (fun x _ => rfl) rfl (by simp only [maxLen]; omega)
    refine J.call (d := some 37) (by kernel_rfl) (fun w1 A1 m1 l1 => seek_calls 51 [ptr b5] (enters_of Try.func51 (by kernel_rfl) rfl) (alikeFrom (chkF bits leaf ls k path) 0) (lastUn (chkF bits leaf ls k path)) A1 w1 m1.bdd (fun X A2 w2 m2 => runBack_calls b5 fa fs.length fc fs (chkF bits leaf ls k path) (by omega) A2 w2 m2.bdd ((h15.mv m1).mv m2) ((hfs.mv m1).mv m2))) ?_
    rintro _ u4 w9 A9 (⟨hE, rfl⟩ | ⟨tp, xa, xn, xc, ya, yn, yc, hU, rfl, s1, s2⟩) g4
    · have m9 := g4.mv
      replace hs := hs.mv m9; replace hl := hl.mv m9; replace hp := hp.mv m9; replace h5 := h5.mv m9; replace h4 := h4.mv m9; replace h3 := h3.mv m9; replace hfs := hfs.mv m9; replace h15 := h15.mv m9
      refine J.rn [.u, .u, .u, .u, .u, .u, .n] [10, 11, 12] [.o 17 2, .c 18] [.c 18] (by kernel_rfl) ?_
      refine J.ret (v := .tuple #[.slice none 0 0, .slice none 0 0, .bool false]) (by kernel_rfl) (by kernel_rfl) (fun w1 A1 m1 hac l1 => .inl ⟨rfl, .inr (by rw [Int.toNat_natCast]; exact hE)⟩)
    · have m9 := g4.mv
      replace hs := hs.mv m9; replace hl := hl.mv m9; replace hp := hp.mv m9; replace h5 := h5.mv m9; replace h4 := h4.mv m9; replace h3 := h3.mv m9; replace hfs := hfs.mv m9; replace h15 := h15.mv m9
      refine J.rn [.u, .u, .u, .u, .u, .u, .n] [10, 11, 12] [.o 17 2, .c 18] [.c 18] (by kernel_rfl) ?_
      refine J.ret (v := .tuple #[.slice xa xn xc, .slice ya yn yc, .bool true]) (by kernel_rfl) (by kernel_rfl) (fun w1 A1 m1 hac l1 => .inr ⟨tp, xa, xn, xc, ya, yn, yc, hc1, by rw [Int.toNat_natCast]; exact hU, rfl, (s1.mv m1).weaken hac, (s2.mv m1).weaken hac⟩)
end Go.Proofs.Ytkgokehkobifkaa.J

/- Package seek: ProveSpan. -/
namespace Go.Proofs.Ytkgokehkobifkaa.J
open Go Go.RowKit

structure Spn where
  t : Int
  leaves : List (List UInt8)
  path : List Dg
def spn0 : Spn := ⟨0, [], []⟩
/-- A span's value, and what its parts read as. -/
def SpAt (A : Nat → Prop) (w : World) (v : Value) (s : Spn) : Prop :=
  ∃ la ln lc pa pn pc, v = .agg [.int .i64 s.t, .slice la ln lc, .slice pa pn pc].toArray ∧ Rows A w la ln lc s.leaves ∧ Sl 32 dcells A w pa pn pc s.path
theorem SpAt.zero (A : Nat → Prop) (w : World) : SpAt A w (.agg [.int .i64 0, .slice none 0 0, .slice none 0 0].toArray) spn0 :=
  ⟨none, 0, 0, none, 0, 0, rfl, Rows.nil none (by decide), Sl.nil none (by decide)⟩
def spFrom (l : List Ent) (lo : Str) : Nat := cntLt lo l - 1
def spTo0 (l : List Ent) (hi : Str) : Nat := if seq hi ⟨#[]⟩ = true then l.length else cntLt hi l
def spTo (l : List Ent) (hi : Str) : Nat := min (spTo0 l hi + 1) l.length
def outF (l : List Ent) (lo hi : Str) : Bool := slt (lastK l) lo || !belowF (firstK l) hi || !belowF lo hi
def spanF (bits : Int) (l : List Ent) (lo hi : Str) : Spn × Int :=
  if FitL l then (if outF l lo hi = true then (spn0, 5)
    else (⟨((spFrom l lo : Nat) : Int), ((l.map entB).take (spTo l hi)).drop (spFrom l lo), besideF bits (l.map entB) ((spFrom l lo : Nat) : Int) ((spTo l hi : Nat) : Int)⟩, 0))
  else (spn0, 1)
theorem cntLt_mono {a b : Str} (h : slt a b = true) (l : List Ent) : cntLt a l ≤ cntLt b l :=
  List.countP_mono_left fun e _ he => slt_trans he h
theorem cntLt_last {l : List Ent} {lo : Str} (hf : FitL l) (h : slt (lastK l) lo = false) : cntLt lo l < l.length := by
  obtain ⟨f1, f2, f3, f4⟩ := hf
  unfold cntLt
  rcases Nat.lt_or_ge (l.countP fun e => slt e.key lo) l.length with h1 | h1
  · exact h1
  · have hl : l[l.length - 1]? = some l[l.length - 1] := List.getElem?_eq_getElem (by omega)
    have h2 := List.countP_eq_length.1 (Nat.le_antisymm List.countP_le_length h1) l[l.length - 1] (List.getElem_mem _)
    rw [lastK_eq hl] at h
    rw [h] at h2; cases h2
theorem sp_lt {l : List Ent} {lo hi : Str} (hf : FitL l) (h : outF l lo hi = false) : spFrom l lo < spTo l hi ∧ spTo l hi ≤ l.length := by
  unfold outF at h
  simp only [Bool.or_eq_false_iff, Bool.not_eq_false'] at h
  obtain ⟨⟨h1, h2⟩, h3⟩ := h
  have h4 := cntLt_last hf h1
  have h5 : cntLt lo l ≤ spTo0 l hi := by
    unfold spTo0
    split
    · exact cntLt_le lo l
    · rename_i hn
      unfold belowF at h3
      rw [Bool.or_eq_true] at h3
      exact cntLt_mono (h3.resolve_left hn) l
  unfold spTo spFrom
  omega

theorem proveSpan_calls (bits : Int) (a : Option Addr) (n c : Nat) (l : List Ent) (lo hi : Str) (Ac : Nat → Prop) (W : World) (hA : ∀ k, Ac k → k < W.heap.size) (hs : Sl 4 encE Ac W a n c l) :
    Calls Pr 17 #[.agg [.int .i64 bits].toArray, .slice a n c, .string lo, .string hi] W (Ret nobody W fun v w => ∃ pv, v = .tuple #[pv, .int .i64 (spanF bits l lo hi).2] ∧ SpAt Ac w pv (spanF bits l lo hi).1) := by
  refine J.enter (fn := Try.f17) (n := 86) Try.func17 (by kernel_rfl) (by kernel_rfl) (by kernel_rfl) hA ?_
  have hlen := hs.len; have hle := hs.le; have hcap := hs.cap; simp only [maxLen] at hcap; have hcl := cntLt_le lo l; have hch := cntLt_le hi l
  refine J.rn [.n, .n] [0, 1, 2, 3] [.c 0] [.o 1 0, .c 2] (by kernel_rfl) ?_
  refine J.new (T := 32) (cs := [.int .i64 bits]) (d := 4) (K := .ptr) (by kernel_rfl) (fun b1 hb1 => ?_)
  refine J.new (T := 54) (cs := [.int .i64 0, .slice none 0 0, .slice none 0 0]) (d := 8) (K := .ptr) (by kernel_rfl) (fun b2 hb2 => ?_)
  refine J.rn [.u, .n, .n, .n, .n, .u] [1, 2, 3, 4, 8, 16] [.o 1 2, .c 2] [.o 4 1, .c 5, .c 10] (by kernel_rfl) ?_
  refine J.call (d := some 17) (by kernel_rfl) (fun w1 A1 m1 l1 => fit_calls a n c l nobody w1 noA (hs.mv m1).any) ?_
  rintro _ u1 w1 A1 rfl g1
  have m1 := g1.mv
  replace hs := hs.mv m1
  refine J.rn [.u, .n] [1, 2, 3, 4, 8, 18] [.o 4 2, .c 5, .c 10] [.c 5, .c 10] (by kernel_rfl) ?_
  refine J.cond (b := (!(decide (FitL l)))) (k' := 9) (by kernel_rfl) (fun hc => ?_) (fun hc => ?_)
  · try simp only [nrm] at hc
    have hc1 := hc
    refine J.run [.n, .n, .u, .u, .u, .n] [8, 9] ⟨[(8, .loc 1 0), (9, .v (.int .i64 1))], [⟨32, [.int .i64 bits]⟩, ⟨54, [.int .i64 0, .slice none 0 0, .slice none 0 0]⟩]⟩ [.c 6, .c 10] [.c 8, .c 10] (by kernel_rfl) ?_
    refine J.ret (v := .tuple #[.agg [.int .i64 0, .slice none 0 0, .slice none 0 0].toArray, .int .i64 1]) (by kernel_rfl) (by kernel_rfl) (fun w1 A1 m1 hac l1 => by rw [spanF, if_neg hc1]; exact ⟨_, rfl, SpAt.zero _ _⟩)
  · try simp only [nrm] at hc
    have hc1 := hc
    refine J.run [.n, .n, .n, .n, .u, .u, .u, .u] [1, 2, 3, 4, 8, 20, 23] ⟨[(1, .v (.slice a n c)), (2, .v (.string lo)), (3, .v (.string hi)), (4, .loc 0 0), (8, .loc 1 0), (20, .v (.slice a n c)), (23, .v (.int .i64 (IntKind.i64.wrap (((n : Nat) : Int) - 1))))], [⟨32, [.int .i64 bits]⟩, ⟨54, [.int .i64 0, .slice none 0 0, .slice none 0 0]⟩]⟩ [.c 9, .c 10] [.o 12 4, .c 13, .c 18] (by kernel_rfl) ?_
    have hw1 : IntKind.i64.wrap (((n : Nat) : Int) - 1) = (((n : Nat) : Int) - 1) := by rw [wrap_i64 (by omega) (by omega)]
    rw [hw1]
    have hF : FitL l := hc1; obtain ⟨f1, f2, hso, f4⟩ := id hF; rw [← hlen] at f1 f2
    rw [(show ((n : Nat) : Int) - 1 = ((n - 1 : Nat) : Int) by omega)]
    obtain ⟨p1, o1, rfl⟩ := hs.addr (by omega)
    refine J.idx (b := p1) (off := o1) (len := n) (i := ((n - 1 : Nat) : Int)) (sz := 4) (d := 24) (by kernel_rfl) (by omega) (by omega) ?_
    refine J.rn [.u] [1, 2, 3, 4, 8, 25] [.o 12 5, .c 13, .c 18] [.o 12 6, .c 13, .c 18] (by kernel_rfl) ?_
    obtain ⟨x1, hx1⟩ : ∃ zq, (l)[n - 1]? = some zq := ⟨_, List.getElem?_eq_getElem (by omega)⟩
    refine J.ld (T := 9) (b := p1) (off := o1 + (n - 1) * 4) (d := 26) (v := .string x1.key) (by kernel_rfl) (fun w1 A1 m1 l1 => (hs.mv m1).ld1 (by kernel_rfl) hx1 (j := 0) rfl) ?_
    refine J.run [.u, .u, .u] [1, 2, 3, 4, 8, 29] ⟨[(1, .v (.slice (some ⟨p1, o1, none⟩) n c)), (2, .v (.string lo)), (3, .v (.string hi)), (4, .loc 0 0), (8, .loc 1 0), (29, .v (.bool (slt x1.key lo)))], [⟨32, [.int .i64 bits]⟩, ⟨54, [.int .i64 0, .slice none 0 0, .slice none 0 0]⟩]⟩ [.o 12 7, .c 13, .c 18] [.o 12 10, .c 13, .c 18] (by kernel_rfl) ?_
    rcases Bool.eq_false_or_eq_true (slt x1.key lo) with hc | hc
    · rw [hc]
      try simp only [nrm] at hc
      have hc2 := hc
      refine J.rn [.x, .x, .x, .x, .x, .x, .x, .u, .u, .x, .x, .x, .x, .u, .n] [1, 2, 3, 4, 8, 43] [.o 12 10, .c 13, .c 18] [.c 13, .c 18] (by kernel_rfl) ?_
      refine J.cond (b := true) (k' := 17) (by kernel_rfl) (fun _ => ?_) (fun hc => absurd hc (by decide))
      refine J.rn [.n, .n, .u, .u, .u, .n] [8, 9] [.c 14, .c 18] [.c 16, .c 18] (by kernel_rfl) ?_
      refine J.ret (v := .tuple #[.agg [.int .i64 0, .slice none 0 0, .slice none 0 0].toArray, .int .i64 5]) (by kernel_rfl) (by kernel_rfl) (fun w1 A1 m1 hac l1 => by rw [spanF, if_pos hc1, if_pos (by unfold outF; rw [lastK_eq (by rw [← hlen]; exact hx1)]; simp [hc2])]; exact ⟨_, rfl, SpAt.zero _ _⟩)
    · rw [hc]
      try simp only [nrm] at hc
      have hc2 := hc
      refine J.rn [.w] [1, 2, 3, 4, 8, 29, 30] [.o 12 10, .c 13, .c 18] [.o 12 11, .c 13, .c 18] (by kernel_rfl) ?_
      refine J.idx (b := p1) (off := o1) (len := n) (i := 0) (sz := 4) (d := 31) (by kernel_rfl) (by omega) (by omega) ?_
      refine J.run [.w] [1, 2, 3, 4, 8, 29, 32] ⟨[(1, .v (.slice (some ⟨p1, o1, none⟩) n c)), (2, .v (.string lo)), (3, .v (.string hi)), (4, .loc 0 0), (8, .loc 1 0), (29, .v (.bool false)), (32, .v (.pointer (some ⟨p1, o1 + 0 * 4, none⟩)))], [⟨32, [.int .i64 bits]⟩, ⟨54, [.int .i64 0, .slice none 0 0, .slice none 0 0]⟩]⟩ [.o 12 12, .c 13, .c 18] [.o 12 13, .c 13, .c 18] (by kernel_rfl) ?_
      obtain ⟨x2, hx2⟩ : ∃ zq, (l)[0]? = some zq := ⟨_, List.getElem?_eq_getElem (by omega)⟩
      refine J.ld (T := 9) (b := p1) (off := o1 + 0 * 4) (d := 33) (v := .string x2.key) (by kernel_rfl) (fun w1 A1 m1 l1 => (hs.mv m1).ld1 (by kernel_rfl) hx2 (j := 0) rfl) ?_
      refine J.rn [.w] [1, 2, 3, 4, 8, 29, 33, 34] [.o 12 14, .c 13, .c 18] [.o 12 15, .c 13, .c 18] (by kernel_rfl) ?_
      refine J.call (d := some 35) (by kernel_rfl) (fun w1 A1 m1 l1 => below_calls x2.key hi nobody w1 noA) ?_
      rintro _ u2 w2 A2 rfl g2
      have m2 := g2.mv
      replace hs := hs.mv m2
      refine J.run [.w, .u, .u] [1, 2, 3, 4, 8, 38] ⟨[(1, .v (.slice (some ⟨p1, o1, none⟩) n c)), (2, .v (.string lo)), (3, .v (.string hi)), (4, .loc 0 0), (8, .loc 1 0), (38, .v (.bool (!(belowF x2.key hi))))], [⟨32, [.int .i64 bits]⟩, ⟨54, [.int .i64 0, .slice none 0 0, .slice none 0 0]⟩]⟩ [.o 12 16, .c 13, .c 18] [.o 12 19, .c 13, .c 18] (by kernel_rfl) ?_
      rcases Bool.eq_false_or_eq_true (!(belowF x2.key hi)) with hc | hc
      · rw [hc]
        try simp only [nrm] at hc
        have hc3 := hc
        refine J.rn [.x, .x, .x, .x, .u, .n] [1, 2, 3, 4, 8, 43] [.o 12 19, .c 13, .c 18] [.c 13, .c 18] (by kernel_rfl) ?_
        refine J.cond (b := true) (k' := 17) (by kernel_rfl) (fun _ => ?_) (fun hc => absurd hc (by decide))
        refine J.rn [.n, .n, .u, .u, .u, .n] [8, 9] [.c 14, .c 18] [.c 16, .c 18] (by kernel_rfl) ?_
        refine J.ret (v := .tuple #[.agg [.int .i64 0, .slice none 0 0, .slice none 0 0].toArray, .int .i64 5]) (by kernel_rfl) (by kernel_rfl) (fun w1 A1 m1 hac l1 => by rw [spanF, if_pos hc1, if_pos (by unfold outF; rw [firstK_eq hx2, lastK_eq (by rw [← hlen]; exact hx1)]; simp [hc2, hc3])]; exact ⟨_, rfl, SpAt.zero _ _⟩)
      · rw [hc]
        try simp only [nrm] at hc
        have hc3 := hc
        refine J.rn [.w, .w] [1, 2, 3, 4, 8, 38, 39, 40] [.o 12 19, .c 13, .c 18] [.o 12 21, .c 13, .c 18] (by kernel_rfl) ?_
        refine J.call (d := some 41) (by kernel_rfl) (fun w1 A1 m1 l1 => below_calls lo hi nobody w1 noA) ?_
        rintro _ u3 w3 A3 rfl g3
        have m3 := g3.mv
        replace hs := hs.mv m3
        refine J.run [.w, .u, .n] [1, 2, 3, 4, 8, 43] ⟨[(1, .v (.slice (some ⟨p1, o1, none⟩) n c)), (2, .v (.string lo)), (3, .v (.string hi)), (4, .loc 0 0), (8, .loc 1 0), (43, .v (.bool (!(belowF lo hi))))], [⟨32, [.int .i64 bits]⟩, ⟨54, [.int .i64 0, .slice none 0 0, .slice none 0 0]⟩]⟩ [.o 12 22, .c 13, .c 18] [.c 13, .c 18] (by kernel_rfl) ?_
        refine J.cond (b := (!(belowF lo hi))) (k' := 17) (by kernel_rfl) (fun hc => ?_) (fun hc => ?_)
        · try simp only [nrm] at hc
          have hc4 := hc
          refine J.rn [.n, .n, .u, .u, .u, .n] [8, 9] [.c 14, .c 18] [.c 16, .c 18] (by kernel_rfl) ?_
          refine J.ret (v := .tuple #[.agg [.int .i64 0, .slice none 0 0, .slice none 0 0].toArray, .int .i64 5]) (by kernel_rfl) (by kernel_rfl) (fun w1 A1 m1 hac l1 => by rw [spanF, if_pos hc1, if_pos (by unfold outF; rw [firstK_eq hx2, lastK_eq (by rw [← hlen]; exact hx1)]; simp [hc2, hc3, hc4])]; exact ⟨_, rfl, SpAt.zero _ _⟩)
        · try simp only [nrm] at hc
          have hc4 := hc
          refine J.rn [.n, .n, .n, .u, .u] [1, 3, 4, 8, 46, 47] [.c 17, .c 18] [.o 19 2, .c 20] (by kernel_rfl) ?_
          have hout : outF l lo hi = false := by unfold outF; rw [firstK_eq hx2, lastK_eq (by rw [← hlen]; exact hx1)]; simp [hc2, hc3, hc4]
          have hsp := sp_lt hF hout
          refine J.call (d := some 48) (by kernel_rfl) (fun w1 A1 m1 l1 => place_calls (some ⟨p1, o1, none⟩) n c l lo hso (by omega) nobody w1 noA (hs.mv m1).any) ?_
          rintro _ u4 w4 A4 rfl g4
          have m4 := g4.mv
          replace hs := hs.mv m4
          refine J.rn [.u, .u, .u, .u, .u, .n, .n, .n, .u, .u, .u, .n, .n, .n, .n, .u, .u, .n] [1, 3, 4, 8, 10, 12, 54] [.o 19 3, .c 20] [.c 25, .c 28] (by kernel_rfl) ?_
          refine J.cond (b := (!(seq hi (⟨#[]⟩ : Str)))) (k' := 27) (by kernel_rfl) (fun hc => ?_) (fun hc => ?_)
          · try simp only [nrm] at hc
            have hc5 := hc
            refine J.run [.n, .u, .u] [1, 4, 8, 10, 56, 57] ⟨[(1, .v (.slice (some ⟨p1, o1, none⟩) n c)), (4, .loc 0 0), (8, .loc 1 0), (10, .v (.int .i64 ((cntLt lo l : Nat) : Int))), (56, .v (.slice (some ⟨p1, o1, none⟩) n c)), (57, .v (.string hi))], [⟨32, [.int .i64 bits]⟩, ⟨54, [.int .i64 0, .slice none 0 0, .slice none 0 0]⟩]⟩ [.c 26, .c 28] [.o 26 2, .c 28] (by kernel_rfl) ?_
            refine J.call (d := some 58) (by kernel_rfl) (fun w1 A1 m1 l1 => place_calls (some ⟨p1, o1, none⟩) n c l hi hso (by omega) nobody w1 noA (hs.mv m1).any) ?_
            rintro _ u5 w5 A5 rfl g5
            have m5 := g5.mv
            replace hs := hs.mv m5
            refine J.run [.u, .u, .u, .u, .n, .n, .n, .u, .u, .u, .u, .u, .u, .u, .u, .u, .u, .n, .n, .n, .u] [4, 8, 10, 12, 69] ⟨[(4, .loc 0 0), (8, .loc 1 0), (10, .v (.int .i64 (if (IntKind.i64.wrap (((cntLt lo l : Nat) : Int) - 1)) < 0 then 0 else (IntKind.i64.wrap (((cntLt lo l : Nat) : Int) - 1))))), (12, .v (.int .i64 (if ((n : Nat) : Int) < (IntKind.i64.wrap (((cntLt hi l : Nat) : Int) + 1)) then ((n : Nat) : Int) else (IntKind.i64.wrap (((cntLt hi l : Nat) : Int) + 1))))), (69, .v (.slice (some ⟨p1, o1, none⟩) n c))], [⟨32, [.int .i64 bits]⟩, ⟨54, [.int .i64 0, .slice none 0 0, .slice none 0 0]⟩]⟩ [.o 26 3, .c 28] [.o 31 1, .c 32] (by kernel_rfl) ?_
            have hw2 : IntKind.i64.wrap (((cntLt lo l : Nat) : Int) - 1) = (((cntLt lo l : Nat) : Int) - 1) := by rw [wrap_i64 (by omega) (by omega)]
            rw [hw2]
            rw [(show (if (((cntLt lo l : Nat) : Int) - 1) < 0 then 0 else (((cntLt lo l : Nat) : Int) - 1)) = ((spFrom l lo : Nat) : Int) by unfold spFrom; split <;> omega)]
            have hw3 : IntKind.i64.wrap (((cntLt hi l : Nat) : Int) + 1) = ((cntLt hi l + 1 : Nat) : Int) := by rw [wrap_i64 (by omega) (by omega)]; try omega
            rw [hw3]
            rw [(show (if ((n : Nat) : Int) < ((cntLt hi l + 1 : Nat) : Int) then ((n : Nat) : Int) else ((cntLt hi l + 1 : Nat) : Int)) = ((spTo l hi : Nat) : Int) by have h9 : spTo0 l hi = cntLt hi l := (by unfold spTo0; rw [if_neg (by simp [*])]); unfold spTo; rw [h9, ← hlen]; split <;> omega)]
            refine J.call (d := some 70) (by kernel_rfl) (fun w1 A1 m1 l1 => leaves_calls (some ⟨p1, o1, none⟩) n c l (by omega) nobody w1 noA (hs.mv m1).any) ?_
            rintro _ u6 w6 A6 ⟨a1, c1, rfl, hrn1⟩ g6
            have m6 := g6.mv
            replace hs := hs.mv m6
            have hr1 : Rows A6 w6 a1 n c1 (l.map entB) := hrn1 A6 g6.bd
            refine J.rn [.u, .n, .n, .n, .u, .u, .u, .u] [8, 10, 12, 13, 72, 73, 74, 75] [.o 31 2, .c 32] [.o 33 4, .c 34] (by kernel_rfl) ?_
            refine J.call (d := some 76) (by kernel_rfl) (fun w1 A1 m1 l1 => Range_calls bits a1 n c1 (l.map entB) (spFrom l lo) (spTo l hi) (by omega) (by simp; omega) (short_ents _) (by simp; omega) nobody w1 noA (hr1.mv m1).any) ?_
            rintro _ u7 w7 A7 ⟨a2, n1, c2, rfl, hn1⟩ g7
            have hblhn1 := hn1.blk_lt; have hglhn1 := g7.le
            refine J.grab hn1 ?_
            have m7 := g7.grab hn1
            replace hs := hs.mv m7; replace hr1 := hr1.mv m7
            replace hn1 := hn1.take g7 rfl
            refine J.rn [.u, .u, .u, .u, .u, .n, .n, .n, .u, .u, .u, .u] [8, 14, 79, 80, 81, 82] [.o 33 5, .c 34] [.o 35 4, .c 36] (by kernel_rfl) ?_
            refine J.sl (a := a1) (len := n) (cap := c1) (sz := 1) (lo := (some ((spFrom l lo : Nat) : Int))) (hi := (some ((spTo l hi : Nat) : Int))) (mx := none) (d := 83) (by kernel_rfl) (spFrom l lo) (spTo l hi) c1 (by simp) (by simp) (by simp) (by have := hr1.le; omega) (by have := hr1.le; omega) (by have := hr1.le; omega) (by simp) ?_
            intro a3 ha1 hb1
            have hp1 := hr1.cutAt (L := spFrom l lo) (H := spTo l hi) (X := c1) (by have := hr1.le; omega) (by have := hr1.le; omega) (by have := hr1.le; omega) (by have := hr1.le; omega) ha1
            refine J.rn [.u, .u, .u, .u, .n] [8, 9] [.o 35 5, .c 36] [.c 36] (by kernel_rfl) ?_
            refine J.ret (v := .tuple #[.agg [.int .i64 ((spFrom l lo : Nat) : Int), .slice a3 (spTo l hi - (spFrom l lo)) (c1 - (spFrom l lo)), .slice a2 n1 c2].toArray, .int .i64 0]) (by kernel_rfl) (by kernel_rfl) (fun w1 A1 m1 hac l1 => by rw [spanF, if_pos hF, if_neg (by rw [hout]; decide)]; exact ⟨_, rfl, _, _, _, _, _, _, rfl, (hp1.mv m1).weaken hac, (hn1.mv m1).sl (fun x _ => rfl) (by decide) hA⟩)
          · try simp only [nrm] at hc
            have hc5 := hc
            refine J.run [.n, .n, .n, .u, .u, .u, .u, .u, .u, .u, .u, .u, .u, .n, .n, .n, .u] [4, 8, 10, 12, 69] ⟨[(4, .loc 0 0), (8, .loc 1 0), (10, .v (.int .i64 (if (IntKind.i64.wrap (((cntLt lo l : Nat) : Int) - 1)) < 0 then 0 else (IntKind.i64.wrap (((cntLt lo l : Nat) : Int) - 1))))), (12, .v (.int .i64 (if ((n : Nat) : Int) < (IntKind.i64.wrap (((n : Nat) : Int) + 1)) then ((n : Nat) : Int) else (IntKind.i64.wrap (((n : Nat) : Int) + 1))))), (69, .v (.slice (some ⟨p1, o1, none⟩) n c))], [⟨32, [.int .i64 bits]⟩, ⟨54, [.int .i64 0, .slice none 0 0, .slice none 0 0]⟩]⟩ [.c 27, .c 28] [.o 31 1, .c 32] (by kernel_rfl) ?_
            have hw4 : IntKind.i64.wrap (((cntLt lo l : Nat) : Int) - 1) = (((cntLt lo l : Nat) : Int) - 1) := by rw [wrap_i64 (by omega) (by omega)]
            rw [hw4]
            rw [(show (if (((cntLt lo l : Nat) : Int) - 1) < 0 then 0 else (((cntLt lo l : Nat) : Int) - 1)) = ((spFrom l lo : Nat) : Int) by unfold spFrom; split <;> omega)]
            have hw5 : IntKind.i64.wrap (((n : Nat) : Int) + 1) = ((n + 1 : Nat) : Int) := by rw [wrap_i64 (by omega) (by omega)]; try omega
            rw [hw5]
            rw [(show (if ((n : Nat) : Int) < ((n + 1 : Nat) : Int) then ((n : Nat) : Int) else ((n + 1 : Nat) : Int)) = ((spTo l hi : Nat) : Int) by have h9 : spTo0 l hi = l.length := (by unfold spTo0; rw [if_pos (by simp [*])]); unfold spTo; rw [h9, ← hlen]; split <;> omega)]
            refine J.call (d := some 70) (by kernel_rfl) (fun w1 A1 m1 l1 => leaves_calls (some ⟨p1, o1, none⟩) n c l (by omega) nobody w1 noA (hs.mv m1).any) ?_
            rintro _ u8 w8 A8 ⟨a4, c3, rfl, hrn2⟩ g8
            have m8 := g8.mv
            replace hs := hs.mv m8
            have hr2 : Rows A8 w8 a4 n c3 (l.map entB) := hrn2 A8 g8.bd
            refine J.rn [.u, .n, .n, .n, .u, .u, .u, .u] [8, 10, 12, 13, 72, 73, 74, 75] [.o 31 2, .c 32] [.o 33 4, .c 34] (by kernel_rfl) ?_
            refine J.call (d := some 76) (by kernel_rfl) (fun w1 A1 m1 l1 => Range_calls bits a4 n c3 (l.map entB) (spFrom l lo) (spTo l hi) (by omega) (by simp; omega) (short_ents _) (by simp; omega) nobody w1 noA (hr2.mv m1).any) ?_
            rintro _ u9 w9 A9 ⟨a5, n2, c4, rfl, hn2⟩ g9
            have hblhn2 := hn2.blk_lt; have hglhn2 := g9.le
            refine J.grab hn2 ?_
            have m9 := g9.grab hn2
            replace hs := hs.mv m9; replace hr2 := hr2.mv m9
            replace hn2 := hn2.take g9 rfl
            refine J.rn [.u, .u, .u, .u, .u, .n, .n, .n, .u, .u, .u, .u] [8, 14, 79, 80, 81, 82] [.o 33 5, .c 34] [.o 35 4, .c 36] (by kernel_rfl) ?_
            refine J.sl (a := a4) (len := n) (cap := c3) (sz := 1) (lo := (some ((spFrom l lo : Nat) : Int))) (hi := (some ((spTo l hi : Nat) : Int))) (mx := none) (d := 83) (by kernel_rfl) (spFrom l lo) (spTo l hi) c3 (by simp) (by simp) (by simp) (by have := hr2.le; omega) (by have := hr2.le; omega) (by have := hr2.le; omega) (by simp) ?_
            intro a6 ha2 hb2
            have hp2 := hr2.cutAt (L := spFrom l lo) (H := spTo l hi) (X := c3) (by have := hr2.le; omega) (by have := hr2.le; omega) (by have := hr2.le; omega) (by have := hr2.le; omega) ha2
            refine J.rn [.u, .u, .u, .u, .n] [8, 9] [.o 35 5, .c 36] [.c 36] (by kernel_rfl) ?_
            refine J.ret (v := .tuple #[.agg [.int .i64 ((spFrom l lo : Nat) : Int), .slice a6 (spTo l hi - (spFrom l lo)) (c3 - (spFrom l lo)), .slice a5 n2 c4].toArray, .int .i64 0]) (by kernel_rfl) (by kernel_rfl) (fun w1 A1 m1 hac l1 => by rw [spanF, if_pos hF, if_neg (by rw [hout]; decide)]; exact ⟨_, rfl, _, _, _, _, _, _, rfl, (hp2.mv m1).weaken hac, (hn2.mv m1).sl (fun x _ => rfl) (by decide) hA⟩)
end Go.Proofs.Ytkgokehkobifkaa.J

/- Package seek: CheckSpan. -/
namespace Go.Proofs.Ytkgokehkobifkaa.J
open Go Go.RowKit

def strE (s : Str) : List Value := [.string s]
def delB (lo hi : Str) (e : Ent) : Bool := slt e.key lo || !belowF e.key hi
def parsL (ls : List (List UInt8)) : List Ent := ls.map fun b => (pars b).1
theorem parsL_len (ls : List (List UInt8)) : (parsL ls).length = ls.length := List.length_map _
theorem parsL_next {ls : List (List UInt8)} {i : Nat} {b : List UInt8} (h : ls[i]? = some b) : parsL (ls.take (i + 1)) = parsL (ls.take i) ++ [(pars b).1] := by unfold parsL; rw [take_snoc h, List.map_append]; rfl
def lateF (l : List Ent) (lo : Str) (t : Int) : Bool := (!(slt (firstK l) lo)) && decide (t > 0)
def earlyF (l : List Ent) (hi : Str) (t : Int) (n : Nat) : Bool := belowF (lastK l) hi && decide (t + ((l.length : Nat) : Int) < ((n : Nat) : Int))
def spanC (bits : Int) (x : Tab) (n : Nat) (lo hi : Str) (s : Spn) : List Ent × Int :=
  if overF x lo hi = true ∧ 0 < s.leaves.length ∧ s.leaves.length ≤ n ∧ 0 ≤ s.t ∧ s.t ≤ ((n : Nat) : Int) then
    (if s.leaves.all wholeF = true then
      (if (lateF (parsL s.leaves) lo s.t || earlyF (parsL s.leaves) hi s.t n || !decide (SortedL (parsL s.leaves)) || !checkR bits x.root n s.t s.leaves s.path) = true then ([], 8)
        else ((parsL s.leaves).filter (keepB (delB lo hi)), 0))
      else ([], 8))
  else ([], 8)
theorem spanC_arg {bits : Int} {x : Tab} {n : Nat} {lo hi : Str} {s : Spn} (h : ¬ (overF x lo hi = true ∧ 0 < s.leaves.length ∧ s.leaves.length ≤ n ∧ 0 ≤ s.t ∧ s.t ≤ ((n : Nat) : Int))) : spanC bits x n lo hi s = ([], 8) := if_neg h
theorem spanC_go {bits : Int} {x : Tab} {n : Nat} {lo hi : Str} {s : Spn} (h : overF x lo hi = true ∧ 0 < s.leaves.length ∧ s.leaves.length ≤ n ∧ 0 ≤ s.t ∧ s.t ≤ ((n : Nat) : Int)) (ha : s.leaves.all wholeF = true) : spanC bits x n lo hi s =
    if (lateF (parsL s.leaves) lo s.t || earlyF (parsL s.leaves) hi s.t n || !decide (SortedL (parsL s.leaves)) || !checkR bits x.root n s.t s.leaves s.path) = true then ([], 8) else ((parsL s.leaves).filter (keepB (delB lo hi)), 0) := by
  unfold spanC
  rw [if_pos h, if_pos ha]
theorem spanC_leaf {bits : Int} {x : Tab} {n : Nat} {lo hi : Str} {s : Spn} {i : Nat} {b : List UInt8} (hb : s.leaves[i]? = some b) (h : wholeF b = false) : spanC bits x n lo hi s = ([], 8) := by
  unfold spanC
  rw [if_neg (c := s.leaves.all wholeF = true)]
  · split <;> rfl
  · intro ha
    rw [List.all_eq_true] at ha
    rw [ha b (List.mem_of_getElem? hb)] at h; cases h
theorem all_step {ls : List (List UInt8)} {i : Nat} {b : List UInt8} (h : (ls.take i).all wholeF = true) (hb : ls[i]? = some b) (hw : wholeF b = true) : (ls.take (i + 1)).all wholeF = true := by
  rw [take_snoc hb, List.all_append, h]; simp [hw]
theorem Nw.retake {N N0 : Nat} {e : TypeId} {k : Nat} {ρ ρ0 : List Nat} {A A0 : Nat → Prop} {w : World} {g n c : Nat} {xs : List Value} (h : Nw N0 e k ρ0 A0 w (some ⟨g, 0, none⟩) n c xs) (hN : N ≤ g) (hρ : g ∉ ρ) (hA : A g) : Nw N e k ρ A w (some ⟨g, 0, none⟩) n c xs := by
  obtain ⟨h1, ⟨h2, _⟩ | ⟨g', cur, h2, h3, h4, h5, h6⟩⟩ := h
  · cases h2
  · cases h2; exact ⟨h1, .inr ⟨g, cur, rfl, hN, hρ, hA, h6⟩⟩
theorem Locs.str {mem : List Loc} {ρ : List Nat} {w : World} (l : Locs mem ρ w) (i : Nat) {T : TypeId} {s : Str} (hi : mem[i]? = some ⟨T, [.string s]⟩) {A : Nat → Prop} (hA : ¬ A (ρ.getD i 0)) : Sl 1 strE A w (some ⟨ρ.getD i 0, 0, none⟩) 1 1 [s] :=
  Sl.ofRow (enc := strE) (l := [s]) (kk := 1) (l.row hi) hA rfl (fun _ _ => rfl) rfl (by simp only [maxLen]; omega)

theorem ret_mono {P : Program} {f : FuncId} {args : Array Value} {W : World} {M : Nat → Prop} {R R' : Value → World → Prop} (h : Calls P f args W (Ret M W R)) (hr : ∀ v w, R v w → R' v w) : Calls P f args W (Ret M W R') := h.mono (Ret.mono hr)
structure CsSt where
  i : Nat
  a : Option Addr
  c : Nat

theorem checkSpan1_calls (lo hi : Str) (b7 b8 : Nat) (e : Ent) (Ac : Nat → Prop) (W : World) (hA : ∀ k, Ac k → k < W.heap.size) (h7 : Sl 1 strE Ac W (some ⟨b7, 0, none⟩) 1 1 [lo]) (h8 : Sl 1 strE Ac W (some ⟨b8, 0, none⟩) 1 1 [hi]) :
    Calls Pr 60 #[.agg (encE e).toArray, .pointer (some ⟨b7, 0, none⟩), .pointer (some ⟨b8, 0, none⟩)] W (Ret nobody W fun v w => v = .bool (delB lo hi e)) := by
  refine J.enter (fn := Try.f60) (n := 16) Try.func60 (by kernel_rfl) (by kernel_rfl) (by kernel_rfl) hA ?_
  refine J.rn [.n, .n] [0, 1, 2] [.c 0] [.o 1 0, .c 2] (by kernel_rfl) ?_
  refine J.new (T := 42) (cs := encE e) (d := 3) (K := .ptr) (by kernel_rfl) (fun b1 hb1 => ?_)
  refine J.rn [.u, .n, .n, .n, .u, .u] [1, 2, 3, 6] [.o 1 1, .c 2] [.o 3 2, .c 4] (by kernel_rfl) ?_
  refine J.ld (T := 9) (b := b7) (off := 0) (d := 7) (v := .string lo) (by kernel_rfl) (fun w1 A1 m1 l1 => (h7.mv m1).ld1 (by kernel_rfl) (rfl : ([lo] : List Str)[0]? = some lo) (j := 0) rfl) ?_
  refine J.run [.u, .u] [2, 3, 9] ⟨[(2, .v (.pointer (some ⟨b8, 0, none⟩))), (3, .loc 0 0), (9, .v (.bool (slt e.key lo)))], [⟨42, encE e⟩]⟩ [.o 3 3, .c 4] [.o 3 5, .c 4] (by kernel_rfl) ?_
  rcases Bool.eq_false_or_eq_true (slt e.key lo) with hc | hc
  · rw [hc]
    try simp only [nrm] at hc
    have hc1 := hc
    refine J.rn [.x, .x, .x, .x, .x, .u, .u, .n] [4] [.o 3 5, .c 4] [.c 4] (by kernel_rfl) ?_
    refine J.ret (v := .bool true) (by kernel_rfl) (by kernel_rfl) (fun w1 A1 m1 hac l1 => by simp [delB, hc1])
  · rw [hc]
    try simp only [nrm] at hc
    have hc1 := hc
    refine J.rn [.w, .w] [2, 9, 11] [.o 3 5, .c 4] [.o 3 7, .c 4] (by kernel_rfl) ?_
    refine J.ld (T := 9) (b := b8) (off := 0) (d := 12) (v := .string hi) (by kernel_rfl) (fun w1 A1 m1 l1 => (h8.mv m1).ld1 (by kernel_rfl) (rfl : ([hi] : List Str)[0]? = some hi) (j := 0) rfl) ?_
    refine J.call (d := some 13) (by kernel_rfl) (fun w1 A1 m1 l1 => below_calls e.key hi nobody w1 noA) ?_
    rintro _ u1 w1 A1 rfl g1
    have m1 := g1.mv
    replace h7 := h7.mv m1; replace h8 := h8.mv m1
    refine J.rn [.w, .u, .u, .n] [4] [.o 3 9, .c 4] [.c 4] (by kernel_rfl) ?_
    refine J.ret (v := .bool (!(belowF e.key hi))) (by kernel_rfl) (by kernel_rfl) (fun w1 A1 m1 hac l1 => by simp [delB, hc1])
def spanPhi (b7 b8 : Nat) (lo hi : Str) (A : Nat → Prop) (w : World) : Prop := Sl 1 strE A w (some ⟨b7, 0, none⟩) 1 1 [lo] ∧ Sl 1 strE A w (some ⟨b8, 0, none⟩) 1 1 [hi]
theorem spanPhi_at {b7 b8 : Nat} {lo hi : Str} {A : Nat → Prop} {w : World} (h7 : Sl 1 strE A w (some ⟨b7, 0, none⟩) 1 1 [lo]) (h8 : Sl 1 strE A w (some ⟨b8, 0, none⟩) 1 1 [hi]) : Phi (spanPhi b7 b8 lo hi) A w :=
  ⟨fun _ _ _ _ _ m h => ⟨h.1.mv m, h.2.mv m⟩, fun _ _ _ hA h => ⟨h.1.weaken hA, h.2.weaken hA⟩, h7, h8⟩
theorem checkSpan1_func (b7 b8 : Nat) (lo hi : Str) : FunC 60 [.pointer (some ⟨b7, 0, none⟩), .pointer (some ⟨b8, 0, none⟩)] (spanPhi b7 b8 lo hi) (delB lo hi) where
  eg := enters_of Try.func60 (by kernel_rfl) rfl
  call x A w hA h := checkSpan1_calls lo hi b7 b8 x A w hA h.val.1 h.val.2
theorem checkSpan_calls (bits : Int) (x : Tab) (N : Nat) (hx : x.count = ((N : Nat) : Int)) (hN : N ≤ 1000000) (lo hi : Str) (sp : Spn) (hsh : Short sp.leaves) (la : Option Addr) (ln lc : Nat) (pa : Option Addr) (pn pc : Nat) (Ac : Nat → Prop) (W : World) (hA : ∀ k, Ac k → k < W.heap.size) (hs : Rows Ac W la ln lc sp.leaves) (hp : Sl 32 dcells Ac W pa pn pc sp.path) :
    Calls Pr 18 #[.agg [.int .i64 bits].toArray, .agg (encT x).toArray, .string lo, .string hi, .agg [.int .i64 sp.t, .slice la ln lc, .slice pa pn pc].toArray] W (Ret nobody W fun v w => ∃ a' c', v = .tuple #[.slice a' (spanC bits x N lo hi sp).1.length c', .int .i64 (spanC bits x N lo hi sp).2] ∧ New W.heap.size 42 4 w a' (spanC bits x N lo hi sp).1.length c' ((spanC bits x N lo hi sp).1.flatMap encE)) := by
  refine J.enter (fn := Try.f18) (n := 124) Try.func18 (by kernel_rfl) (by kernel_rfl) (by kernel_rfl) hA ?_
  have hlen := hs.len; have hle := hs.le; have hcap := hs.cap; simp only [maxLen] at hcap
  refine J.rn [.n, .n] [0, 1, 2, 3, 4] [.c 0] [.o 1 0, .c 2] (by kernel_rfl) ?_
  refine J.new (T := 32) (cs := [.int .i64 bits]) (d := 5) (K := .ptr) (by kernel_rfl) (fun b1 hb1 => ?_)
  refine J.new (T := 36) (cs := encT x) (d := 6) (K := .ptr) (by kernel_rfl) (fun b2 hb2 => ?_)
  refine J.new (T := 9) (cs := [.string lo]) (d := 7) (K := .ptr) (by kernel_rfl) (fun b3 hb3 => ?_)
  refine J.new (T := 9) (cs := [.string hi]) (d := 8) (K := .ptr) (by kernel_rfl) (fun b4 hb4 => ?_)
  refine J.new (T := 54) (cs := [.int .i64 sp.t, .slice la ln lc, .slice pa pn pc]) (d := 9) (K := .ptr) (by kernel_rfl) (fun b5 hb5 => ?_)
  refine J.rn [.u, .u, .n, .n, .n, .u, .u, .u, .u, .n, .n, .n, .n, .u, .u, .u] [5, 6, 7, 8, 9, 12, 23, 24, 25] [.o 1 5, .c 2] [.o 6 3, .c 7, .c 12] (by kernel_rfl) ?_
  refine J.call (d := some 26) (by kernel_rfl) (fun w1 A1 m1 l1 => overlaps_calls x lo hi nobody w1 noA) ?_
  rintro _ u1 w1 A1 rfl g1
  have m1 := g1.mv
  replace hs := hs.mv m1; replace hp := hp.mv m1
  refine J.run [.u, .u] [5, 6, 7, 8, 9, 12, 28] ⟨[(5, .loc 0 0), (6, .loc 1 0), (7, .loc 2 0), (8, .loc 3 0), (9, .loc 4 0), (12, .v (.int .i64 ((ln : Nat) : Int))), (28, .v (.bool (!(overF x lo hi))))], [⟨32, [.int .i64 bits]⟩, ⟨36, encT x⟩, ⟨9, [.string lo]⟩, ⟨9, [.string hi]⟩, ⟨54, [.int .i64 sp.t, .slice la ln lc, .slice pa pn pc]⟩]⟩ [.o 6 4, .c 7, .c 12] [.o 6 6, .c 7, .c 12] (by kernel_rfl) ?_
  rcases Bool.eq_false_or_eq_true (!(overF x lo hi)) with hc | hc
  · rw [hc]
    try simp only [nrm] at hc
    have hc1 := hc
    refine J.rn [.x, .x, .u, .u, .x, .x, .x, .x, .u, .u, .x, .x, .x, .u, .u, .x, .x, .x, .x, .x, .u, .n] [5, 6, 7, 8, 9, 12, 49] [.o 6 6, .c 7, .c 12] [.c 7, .c 12] (by kernel_rfl) ?_
    refine J.cond (b := true) (k' := 11) (by kernel_rfl) (fun _ => ?_) (fun hc => absurd hc (by decide))
    refine J.rn [.n, .n, .u, .u, .n] [10, 11] [.c 8, .c 12] [.c 10, .c 12] (by kernel_rfl) ?_
    refine J.ret (v := .tuple #[.slice none 0 0, .int .i64 8]) (by kernel_rfl) (by kernel_rfl) (fun w1 A1 m1 hac l1 => by rw [spanC_arg (by rintro ⟨q1, q2, q3, q4, q5⟩; first | omega | simp_all)]; exact ⟨none, 0, rfl, Nw.new (Nw.nil W.heap.size 42 4 [] A1 w1)⟩)
  · rw [hc]
    try simp only [nrm] at hc
    have hc1 := hc
    refine J.run [.w, .w, .u, .u] [5, 6, 7, 8, 9, 12, 32] ⟨[(5, .loc 0 0), (6, .loc 1 0), (7, .loc 2 0), (8, .loc 3 0), (9, .loc 4 0), (12, .v (.int .i64 ((ln : Nat) : Int))), (32, .v (.bool (((ln : Nat) : Int) == 0)))], [⟨32, [.int .i64 bits]⟩, ⟨36, encT x⟩, ⟨9, [.string lo]⟩, ⟨9, [.string hi]⟩, ⟨54, [.int .i64 sp.t, .slice la ln lc, .slice pa pn pc]⟩]⟩ [.o 6 6, .c 7, .c 12] [.o 6 10, .c 7, .c 12] (by kernel_rfl) ?_
    rcases Bool.eq_false_or_eq_true (((ln : Nat) : Int) == 0) with hc | hc
    · rw [hc]
      try simp only [nrm] at hc
      have hc2 := hc
      refine J.rn [.x, .x, .x, .x, .u, .u, .x, .x, .x, .u, .u, .x, .x, .x, .x, .x, .u, .n] [5, 6, 7, 8, 9, 12, 49] [.o 6 10, .c 7, .c 12] [.c 7, .c 12] (by kernel_rfl) ?_
      refine J.cond (b := true) (k' := 11) (by kernel_rfl) (fun _ => ?_) (fun hc => absurd hc (by decide))
      refine J.rn [.n, .n, .u, .u, .n] [10, 11] [.c 8, .c 12] [.c 10, .c 12] (by kernel_rfl) ?_
      refine J.ret (v := .tuple #[.slice none 0 0, .int .i64 8]) (by kernel_rfl) (by kernel_rfl) (fun w1 A1 m1 hac l1 => by rw [spanC_arg (by rintro ⟨q1, q2, q3, q4, q5⟩; first | omega | simp_all)]; exact ⟨none, 0, rfl, Nw.new (Nw.nil W.heap.size 42 4 [] A1 w1)⟩)
    · rw [hc]
      try simp only [nrm] at hc
      have hc2 := hc
      refine J.run [.w, .w, .w, .w, .u, .u] [5, 6, 7, 8, 9, 12, 38] ⟨[(5, .loc 0 0), (6, .loc 1 0), (7, .loc 2 0), (8, .loc 3 0), (9, .loc 4 0), (12, .v (.int .i64 ((ln : Nat) : Int))), (38, .v (.bool (decide (((ln : Nat) : Int) > x.count))))], [⟨32, [.int .i64 bits]⟩, ⟨36, encT x⟩, ⟨9, [.string lo]⟩, ⟨9, [.string hi]⟩, ⟨54, [.int .i64 sp.t, .slice la ln lc, .slice pa pn pc]⟩]⟩ [.o 6 10, .c 7, .c 12] [.o 6 16, .c 7, .c 12] (by kernel_rfl) ?_
      rw [hx]
      rcases Bool.eq_false_or_eq_true (decide (((ln : Nat) : Int) > ((N : Nat) : Int))) with hc | hc
      · rw [hc]
        try simp only [nrm] at hc
        have hc3 := hc
        refine J.rn [.x, .x, .x, .u, .u, .x, .x, .x, .x, .x, .u, .n] [5, 6, 7, 8, 9, 12, 49] [.o 6 16, .c 7, .c 12] [.c 7, .c 12] (by kernel_rfl) ?_
        refine J.cond (b := true) (k' := 11) (by kernel_rfl) (fun _ => ?_) (fun hc => absurd hc (by decide))
        refine J.rn [.n, .n, .u, .u, .n] [10, 11] [.c 8, .c 12] [.c 10, .c 12] (by kernel_rfl) ?_
        refine J.ret (v := .tuple #[.slice none 0 0, .int .i64 8]) (by kernel_rfl) (by kernel_rfl) (fun w1 A1 m1 hac l1 => by rw [spanC_arg (by rintro ⟨q1, q2, q3, q4, q5⟩; first | omega | simp_all)]; exact ⟨none, 0, rfl, Nw.new (Nw.nil W.heap.size 42 4 [] A1 w1)⟩)
      · rw [hc]
        try simp only [nrm] at hc
        have hc3 := hc
        refine J.run [.w, .w, .w, .u, .u] [5, 6, 7, 8, 9, 12, 43] ⟨[(5, .loc 0 0), (6, .loc 1 0), (7, .loc 2 0), (8, .loc 3 0), (9, .loc 4 0), (12, .v (.int .i64 ((ln : Nat) : Int))), (43, .v (.bool (decide (sp.t < 0))))], [⟨32, [.int .i64 bits]⟩, ⟨36, encT x⟩, ⟨9, [.string lo]⟩, ⟨9, [.string hi]⟩, ⟨54, [.int .i64 sp.t, .slice la ln lc, .slice pa pn pc]⟩]⟩ [.o 6 16, .c 7, .c 12] [.o 6 21, .c 7, .c 12] (by kernel_rfl) ?_
        rcases Bool.eq_false_or_eq_true (decide (sp.t < 0)) with hc | hc
        · rw [hc]
          try simp only [nrm] at hc
          have hc4 := hc
          refine J.rn [.x, .x, .x, .x, .x, .u, .n] [5, 6, 7, 8, 9, 12, 49] [.o 6 21, .c 7, .c 12] [.c 7, .c 12] (by kernel_rfl) ?_
          refine J.cond (b := true) (k' := 11) (by kernel_rfl) (fun _ => ?_) (fun hc => absurd hc (by decide))
          refine J.rn [.n, .n, .u, .u, .n] [10, 11] [.c 8, .c 12] [.c 10, .c 12] (by kernel_rfl) ?_
          refine J.ret (v := .tuple #[.slice none 0 0, .int .i64 8]) (by kernel_rfl) (by kernel_rfl) (fun w1 A1 m1 hac l1 => by rw [spanC_arg (by rintro ⟨q1, q2, q3, q4, q5⟩; first | omega | simp_all)]; exact ⟨none, 0, rfl, Nw.new (Nw.nil W.heap.size 42 4 [] A1 w1)⟩)
        · rw [hc]
          try simp only [nrm] at hc
          have hc4 := hc
          refine J.run [.w, .w, .w, .w, .w, .u, .n] [5, 6, 7, 8, 9, 12, 49] ⟨[(5, .loc 0 0), (6, .loc 1 0), (7, .loc 2 0), (8, .loc 3 0), (9, .loc 4 0), (12, .v (.int .i64 ((ln : Nat) : Int))), (49, .v (.bool (decide (sp.t > x.count))))], [⟨32, [.int .i64 bits]⟩, ⟨36, encT x⟩, ⟨9, [.string lo]⟩, ⟨9, [.string hi]⟩, ⟨54, [.int .i64 sp.t, .slice la ln lc, .slice pa pn pc]⟩]⟩ [.o 6 21, .c 7, .c 12] [.c 7, .c 12] (by kernel_rfl) ?_
          rw [hx]
          refine J.cond (b := (decide (sp.t > ((N : Nat) : Int)))) (k' := 11) (by kernel_rfl) (fun hc => ?_) (fun hc => ?_)
          · try simp only [nrm] at hc
            have hc5 := hc
            refine J.rn [.n, .n, .u, .u, .n] [10, 11] [.c 8, .c 12] [.c 10, .c 12] (by kernel_rfl) ?_
            refine J.ret (v := .tuple #[.slice none 0 0, .int .i64 8]) (by kernel_rfl) (by kernel_rfl) (fun w1 A1 m1 hac l1 => by rw [spanC_arg (by rintro ⟨q1, q2, q3, q4, q5⟩; first | omega | simp_all)]; exact ⟨none, 0, rfl, Nw.new (Nw.nil W.heap.size 42 4 [] A1 w1)⟩)
          · try simp only [nrm] at hc
            have hc5 := hc
            refine J.rn [.n, .n, .n, .u, .n, .n, .n, .n, .u, .u, .u, .u, .n, .n] [5, 6, 7, 8, 9, 12, 13, 51, 52, 53] [.c 11, .c 12] [.c 18, .b 0, .c 41] (by kernel_rfl) ?_
            have hl0 : 0 < ln := by omega
            refine J.loop (X := CsSt) (fun y => ⟨[(5, .loc 0 0), (6, .loc 1 0), (7, .loc 2 0), (8, .loc 3 0), (9, .loc 4 0), (12, .v (.int .i64 ((ln : Nat) : Int))), (13, .v (.slice y.a y.i y.c)), (51, .v (.slice la ln lc)), (52, .v (.int .i64 ((ln : Nat) : Int))), (53, .v (.int .i64 ((y.i : Nat) : Int)))], [⟨32, [.int .i64 bits]⟩, ⟨36, encT x⟩, ⟨9, [.string lo]⟩, ⟨9, [.string hi]⟩, ⟨54, [.int .i64 sp.t, .slice la ln lc, .slice pa pn pc]⟩]⟩) (fun y A w => y.i ≤ ln ∧ Rows A w la ln lc sp.leaves ∧ Sl 32 dcells A w pa pn pc sp.path ∧ Nw W.heap.size 42 4 [b1, b2, b3, b4, b5] A w y.a y.i y.c ((parsL (sp.leaves.take y.i)).flatMap encE) ∧ (sp.leaves.take y.i).all wholeF = true) (fun y => ln - y.i) [5, 6, 7, 8, 9, 12, 13, 51, 52, 53] 5 [b1, b2, b3, b4, b5] ⟨0, none, 0⟩ (by kernel_rfl) (by kernel_rfl) (by kernel_rfl) (fun w1 A1 m1 => ⟨Nat.zero_le _, hs.mv m1, hp.mv m1, Nw.nil _ _ _ _ _ _, rfl⟩) (fun y A2 w2 hI => ?_)
            obtain ⟨hi_, hs, hp, ho, hall⟩ := hI
            refine J.run [.n, .n, .u, .n, .n] [5, 6, 7, 8, 9, 12, 13, 51, 52, 53, 54] ⟨[(5, .loc 0 0), (6, .loc 1 0), (7, .loc 2 0), (8, .loc 3 0), (9, .loc 4 0), (12, .v (.int .i64 ((ln : Nat) : Int))), (13, .v (.slice y.a y.i y.c)), (51, .v (.slice la ln lc)), (52, .v (.int .i64 ((ln : Nat) : Int))), (53, .v (.int .i64 ((y.i : Nat) : Int))), (54, .v (.bool (decide (((y.i : Nat) : Int) < ((ln : Nat) : Int)))))], [⟨32, [.int .i64 bits]⟩, ⟨36, encT x⟩, ⟨9, [.string lo]⟩, ⟨9, [.string hi]⟩, ⟨54, [.int .i64 sp.t, .slice la ln lc, .slice pa pn pc]⟩]⟩ [.c 19] [.c 22, .c 25] (by kernel_rfl) ?_
            refine J.cond (b := (decide (((y.i : Nat) : Int) < ((ln : Nat) : Int)))) (k' := 24) (by kernel_rfl) (fun hc => ?_) (fun hc => ?_)
            · try simp only [nrm] at hc
              have hc6 := hc
              refine J.rn [.n, .n, .n, .n, .n] [5, 6, 7, 8, 9, 12, 13, 51, 52, 53] [.c 23, .c 25] [.o 28 0, .c 29, .b 1, .c 40] (by kernel_rfl) ?_
              obtain ⟨p1, o1, rfl⟩ := hs.addr (by omega)
              refine J.idx (b := p1) (off := o1) (len := ln) (i := ((y.i : Nat) : Int)) (sz := 1) (d := 55) (by kernel_rfl) (by omega) (by omega) ?_
              obtain ⟨x1, hx1⟩ : ∃ zq, (sp.leaves)[y.i]? = some zq := ⟨_, List.getElem?_eq_getElem (by omega)⟩
              obtain ⟨ra1, rn1, rc1, hrow1, hld1⟩ := hs.row hx1
              have hshhrow1 := (Short.at (by assumption) hx1 : x1.length ≤ 1000000); have hllhrow1 := hrow1.len
              refine J.ld (T := 23) (b := p1) (off := o1 + y.i * 1) (d := 56) (v := .slice ra1 rn1 rc1) (by kernel_rfl) (fun w1 A1 m1 l1 => hld1 _ _ _ m1 _ _ (by kernel_rfl)) ?_
              refine J.rn [.u, .n, .n, .n, .u] [5, 6, 7, 8, 9, 12, 13, 51, 52, 53, 58] [.o 28 2, .c 29, .b 1, .c 40] [.o 30 1, .c 31, .b 1, .c 40] (by kernel_rfl) ?_
              refine J.call (d := some 59) (by kernel_rfl) (fun w1 A1 m1 l1 => whole_calls ra1 rn1 rc1 x1 nobody w1 noA (hrow1.mv m1).any) ?_
              rintro _ u2 w3 A3 rfl g2
              have m2 := g2.mv
              replace hs := hs.mv m2; replace hp := hp.mv m2; replace hrow1 := hrow1.mv m2; replace ho := ho.mv m2
              refine J.rn [.u, .u, .u] [5, 6, 7, 8, 9, 12, 13, 51, 52, 53, 60, 61] [.o 30 2, .c 31, .b 1, .c 40] [.o 30 5, .c 31, .b 1, .c 40] (by kernel_rfl) ?_
              refine J.new (T := 42) (cs := [.string (⟨#[]⟩ : Str), .string (⟨#[]⟩ : Str), .bool false, .int .i64 0]) (d := 16) (K := .ptr) (by kernel_rfl) (fun b6 hb6 => ?_)
              replace ho := ho.more hb6
              refine J.run [.u, .u, .n, .n, .n, .n, .u, .u, .n] [5, 6, 7, 8, 9, 12, 13, 16, 51, 52, 53, 63] ⟨[(5, .loc 0 0), (6, .loc 1 0), (7, .loc 2 0), (8, .loc 3 0), (9, .loc 4 0), (12, .v (.int .i64 ((ln : Nat) : Int))), (13, .v (.slice y.a y.i y.c)), (16, .loc 5 0), (51, .v (.slice (some ⟨p1, o1, none⟩) ln lc)), (52, .v (.int .i64 ((ln : Nat) : Int))), (53, .v (.int .i64 ((y.i : Nat) : Int))), (63, .v (.bool (!(wholeF x1))))], [⟨32, [.int .i64 bits]⟩, ⟨36, encT x⟩, ⟨9, [.string lo]⟩, ⟨9, [.string hi]⟩, ⟨54, [.int .i64 sp.t, .slice (some ⟨p1, o1, none⟩) ln lc, .slice pa pn pc]⟩, ⟨42, encE (pars x1).1⟩]⟩ [.o 30 6, .c 31, .b 1, .c 40] [.c 34, .c 39, .b 1, .c 40] (by kernel_rfl) ?_
              refine J.cond (b := (!(wholeF x1))) (k' := 38) (by kernel_rfl) (fun hc => ?_) (fun hc => ?_)
              · try simp only [nrm] at hc
                have hc7 := hc
                refine J.rn [.n, .n, .u, .u, .n] [10, 11] [.c 35, .c 39, .b 1, .c 40] [.c 37, .c 39, .b 1, .c 40] (by kernel_rfl) ?_
                refine J.ret (v := .tuple #[.slice none 0 0, .int .i64 8]) (by kernel_rfl) (by kernel_rfl) (fun w1 A1 m1 hac l1 => by rw [spanC_leaf hx1 (by simpa using hc7)]; exact ⟨none, 0, rfl, Nw.new (Nw.nil W.heap.size 42 4 [] A1 w1)⟩)
              · try simp only [nrm] at hc
                have hc7 := hc
                refine J.run [.n, .n, .u, .u] [5, 6, 7, 8, 9, 12, 51, 52, 53, 64, 65] ⟨[(5, .loc 0 0), (6, .loc 1 0), (7, .loc 2 0), (8, .loc 3 0), (9, .loc 4 0), (12, .v (.int .i64 ((ln : Nat) : Int))), (51, .v (.slice (some ⟨p1, o1, none⟩) ln lc)), (52, .v (.int .i64 ((ln : Nat) : Int))), (53, .v (.int .i64 ((y.i : Nat) : Int))), (64, .v (.slice y.a y.i y.c)), (65, .v (.agg (encE (pars x1).1).toArray))], [⟨32, [.int .i64 bits]⟩, ⟨36, encT x⟩, ⟨9, [.string lo]⟩, ⟨9, [.string hi]⟩, ⟨54, [.int .i64 sp.t, .slice (some ⟨p1, o1, none⟩) ln lc, .slice pa pn pc]⟩, ⟨42, encE (pars x1).1⟩]⟩ [.c 38, .c 39, .b 1, .c 40] [.o 39 2, .b 1, .c 40] (by kernel_rfl) ?_
                refine J.new (T := 42) (cs := encE (pars x1).1) (d := 66) (K := (.sl 1)) (by kernel_rfl) (fun b7 hb7 => ?_)
                replace ho := ho.more hb7
                refine J.append (e := 42) (sz := 4) (a := y.a) (nn := y.i) (c := y.c) (T := 22) (Tx := 22) (x := .slice (some ⟨b7, 0, none⟩) 1 1) (bytes := 48) (d := 67) (xs := (parsL (sp.leaves.take y.i)).flatMap encE) (news := encE (pars x1).1) (m := 1) (by kernel_rfl) (by kernel_rfl) ho.own (.inr ho) (fun w1 A1 m1 l1 => l1.src (i := 6) rfl (e := 42) (by kernel_rfl) rfl rfl) (by simp only [maxLen]; omega) (by omega) ?_
                intro a1 c1 w4 A4 hn1 m3
                replace hs := hs.mv m3; replace hp := hp.mv m3; replace hrow1 := hrow1.mv m3
                replace hn1 := hn1.re (n' := y.i + 1) (ys := (parsL (sp.leaves.take y.i) ++ [(pars x1).1]).flatMap encE) rfl (by first | (simp only [List.flatMap_append, dbytes_flat, byteCells_u8]; done) | (rw [List.flatMap_append]; rfl))
                refine J.run [.u, .n, .n, .n, .u, .u, .n] [5, 6, 7, 8, 9, 12, 13, 51, 52, 53] ⟨[(5, .loc 0 0), (6, .loc 1 0), (7, .loc 2 0), (8, .loc 3 0), (9, .loc 4 0), (12, .v (.int .i64 ((ln : Nat) : Int))), (13, .v (.slice a1 (y.i + 1) c1)), (51, .v (.slice (some ⟨p1, o1, none⟩) ln lc)), (52, .v (.int .i64 ((ln : Nat) : Int))), (53, .v (.int .i64 (IntKind.i64.wrap (((y.i : Nat) : Int) + 1))))], [⟨32, [.int .i64 bits]⟩, ⟨36, encT x⟩, ⟨9, [.string lo]⟩, ⟨9, [.string hi]⟩, ⟨54, [.int .i64 sp.t, .slice (some ⟨p1, o1, none⟩) ln lc, .slice pa pn pc]⟩, ⟨42, encE (pars x1).1⟩, ⟨42, encE (pars x1).1⟩]⟩ [.o 39 4, .b 1, .c 40] [] (by kernel_rfl) ?_
                have hw1 : IntKind.i64.wrap (((y.i : Nat) : Int) + 1) = ((y.i + 1 : Nat) : Int) := by rw [wrap_i64 (by omega) (by omega)]; try omega
                rw [hw1]
                rw [← parsL_next hx1] at hn1
                exact J.again ⟨y.i + 1, a1, c1⟩ [5, 6, 7, 8, 9, 12, 13, 51, 52, 53] 5 (by simp only; omega) (by kernel_rfl) (by kernel_rfl) (fun w1 A1 m1 => ⟨by simp only; omega, hs.mv m1, hp.mv m1, (hn1.mv m1).fewer (by simp), all_step hall hx1 (by simpa using hc7)⟩)
            · try simp only [nrm] at hc
              have hc6 := hc
              refine J.exit (id := 0) (by kernel_rfl) (by rfl) ?_
              have hyi : y.i = ln := by omega
              have htk : sp.leaves.take y.i = sp.leaves := List.take_of_length_le (by omega)
              rw [htk] at ho hall; obtain ⟨gq, oq, hag⟩ := ho.addr (by omega); rw [hag] at ho ⊢
              have hoq : oq = 0 := by rcases id ho with ⟨_, ⟨h2, _⟩ | ⟨_, _, h2, _⟩⟩ <;> cases h2 <;> rfl
              subst hoq; rw [hyi] at ho ⊢
              have hpl := parsL_len sp.leaves; obtain ⟨e0, he0⟩ : ∃ e0, (parsL sp.leaves)[0]? = some e0 := ⟨_, List.getElem?_eq_getElem (by omega)⟩; obtain ⟨e1, he1⟩ : ∃ e1, (parsL sp.leaves)[ln - 1]? = some e1 := ⟨_, List.getElem?_eq_getElem (by omega)⟩
              have hk0 := firstK_eq he0; have hk1 : lastK (parsL sp.leaves) = e1.key := lastK_eq (by rw [hpl, ← hlen]; exact he1)
              refine J.run [.n] [5, 6, 7, 8, 9, 12, 13] ⟨[(5, .loc 0 0), (6, .loc 1 0), (7, .loc 2 0), (8, .loc 3 0), (9, .loc 4 0), (12, .v (.int .i64 ((ln : Nat) : Int))), (13, .v (.slice (some ⟨gq, 0, none⟩) ln y.c))], [⟨32, [.int .i64 bits]⟩, ⟨36, encT x⟩, ⟨9, [.string lo]⟩, ⟨9, [.string hi]⟩, ⟨54, [.int .i64 sp.t, .slice la ln lc, .slice pa pn pc]⟩]⟩ [.c 41] [.c 42, .c 43] (by kernel_rfl) ?_
              refine J.draw [] nobody (by kernel_rfl) (by kernel_rfl) (fun _ h => h.elim) (fun w5 A5 m4 hr1 hX1 => ?_)
              replace hs := hs.mv m4; replace hp := hp.mv m4; replace ho := ho.mv m4
              refine J.take0 [(0, .u), (4, .u)] [5, 6, 7, 8, 9, 12, 13, 69, 73] [(5, .loc 0 0), (6, .loc 1 0), (7, .loc 2 0), (8, .loc 3 0), (9, .loc 4 0), (12, .v (.int .i64 ((ln : Nat) : Int))), (13, .v (.slice (some ⟨gq, 0, none⟩) ln y.c)), (69, .v (.slice (some ⟨gq, 0, none⟩) ln y.c)), (73, .v (.string lo))] [4, 0] (calm_body _ _ _) (by intro k _ h; exact h) hr1 (by kernel_rfl) ?_
              refine J.idxp (j := 1) (b := gq) (off := 0) (len := ln) (i := 0) (sz := 4) (d := 70) (calm_body _ _ _) (by kernel_rfl) (by kernel_rfl) (by omega) (by omega) ?_
              refine J.take0 [(2, .u)] [5, 6, 7, 8, 9, 12, 13, 71, 73] [(5, .loc 0 0), (6, .loc 1 0), (7, .loc 2 0), (8, .loc 3 0), (9, .loc 4 0), (12, .v (.int .i64 ((ln : Nat) : Int))), (13, .v (.slice (some ⟨gq, 0, none⟩) ln y.c)), (71, .v (.pointer (some ⟨gq, 0 + 0 * 4, none⟩))), (73, .v (.string lo))] [2, 1, 4, 0] (calm_body _ _ _) (by intro k _ h; exact h) hr1 (by kernel_rfl) ?_
              refine J.ldp (i := 3) (T := 9) (b := gq) (off := 0 + 0 * 4) (d := 72) (v := .string e0.key) (calm_body _ _ _) (by kernel_rfl) (by kernel_rfl) hX1 (fun w1 m1 => ((ho.mvD m1).any (fun x _ => rfl) (by decide)).ld1 (by kernel_rfl) he0 (j := 0) rfl) ?_
              refine J.take0 [(5, .u), (6, .u), (7, .g), (8, .g), (9, .g), (10, .u), (11, .u)] [5, 6, 7, 8, 9, 12, 13, 18] [(5, .loc 0 0), (6, .loc 1 0), (7, .loc 2 0), (8, .loc 3 0), (9, .loc 4 0), (12, .v (.int .i64 ((ln : Nat) : Int))), (13, .v (.slice (some ⟨gq, 0, none⟩) ln y.c)), (18, .v (.bool ((!(slt e0.key lo)) && (decide (sp.t > 0)))))] [11, 10, 9, 8, 7, 6, 5, 3, 2, 1, 4, 0] (calm_body _ _ _) (by intro k _ h; exact h) hr1 (by kernel_rfl) ?_
              refine J.pdone (by kernel_rfl) ?_
              refine J.run [.n] [5, 6, 7, 8, 9, 12, 13, 18] ⟨[(5, .loc 0 0), (6, .loc 1 0), (7, .loc 2 0), (8, .loc 3 0), (9, .loc 4 0), (12, .v (.int .i64 ((ln : Nat) : Int))), (13, .v (.slice (some ⟨gq, 0, none⟩) ln y.c)), (18, .v (.bool ((!(slt e0.key lo)) && (decide (sp.t > 0)))))], [⟨32, [.int .i64 bits]⟩, ⟨36, encT x⟩, ⟨9, [.string lo]⟩, ⟨9, [.string hi]⟩, ⟨54, [.int .i64 sp.t, .slice la ln lc, .slice pa pn pc]⟩]⟩ [.c 43] [.c 44, .c 45] (by kernel_rfl) ?_
              refine J.draw [] nobody (by kernel_rfl) (by kernel_rfl) (fun _ h => h.elim) (fun w6 A6 m5 hr2 hX2 => ?_)
              replace hs := hs.mv m5; replace hp := hp.mv m5; replace ho := ho.mv m5
              refine J.take0 [(0, .u), (1, .u), (2, .u), (6, .u)] [5, 6, 7, 8, 9, 12, 13, 18, 80, 82, 86] [(5, .loc 0 0), (6, .loc 1 0), (7, .loc 2 0), (8, .loc 3 0), (9, .loc 4 0), (12, .v (.int .i64 ((ln : Nat) : Int))), (13, .v (.slice (some ⟨gq, 0, none⟩) ln y.c)), (18, .v (.bool ((!(slt e0.key lo)) && (decide (sp.t > 0))))), (80, .v (.slice (some ⟨gq, 0, none⟩) ln y.c)), (82, .v (.int .i64 (IntKind.i64.wrap (((ln : Nat) : Int) - 1)))), (86, .v (.string hi))] [6, 2, 1, 0] (calm_body _ _ _) (by intro k _ h; exact h) hr2 (by kernel_rfl) ?_
              rw [(show ((ln : Nat) : Int) - 1 = ((ln - 1 : Nat) : Int) by omega)]
              have hw2 : IntKind.i64.wrap ((ln - 1 : Nat) : Int) = ((ln - 1 : Nat) : Int) := by rw [wrap_i64 (by omega) (by omega)]
              rw [hw2]
              refine J.idxp (j := 3) (b := gq) (off := 0) (len := ln) (i := ((ln - 1 : Nat) : Int)) (sz := 4) (d := 83) (calm_body _ _ _) (by kernel_rfl) (by kernel_rfl) (by omega) (by omega) ?_
              refine J.take0 [(4, .u)] [5, 6, 7, 8, 9, 12, 13, 18, 84, 86] [(5, .loc 0 0), (6, .loc 1 0), (7, .loc 2 0), (8, .loc 3 0), (9, .loc 4 0), (12, .v (.int .i64 ((ln : Nat) : Int))), (13, .v (.slice (some ⟨gq, 0, none⟩) ln y.c)), (18, .v (.bool ((!(slt e0.key lo)) && (decide (sp.t > 0))))), (84, .v (.pointer (some ⟨gq, 0 + (ln - 1) * 4, none⟩))), (86, .v (.string hi))] [4, 3, 6, 2, 1, 0] (calm_body _ _ _) (by intro k _ h; exact h) hr2 (by kernel_rfl) ?_
              refine J.ldp (i := 5) (T := 9) (b := gq) (off := 0 + (ln - 1) * 4) (d := 85) (v := .string e1.key) (calm_body _ _ _) (by kernel_rfl) (by kernel_rfl) hX2 (fun w1 m1 => ((ho.mvD m1).any (fun x _ => rfl) (by decide)).ld1 (by kernel_rfl) he1 (j := 0) rfl) ?_
              refine J.pick1 7 (by kernel_rfl) (by kernel_rfl) ?_
              refine J.callq (d := some 87) (by kernel_rfl) (fun w1 A1 m1 l1 => below_calls e1.key hi nobody w1 noA) ?_
              rintro _ u3 w7 A7 rfl g3
              have m6 := g3.mv
              replace hs := hs.mv m6; replace hp := hp.mv m6; replace ho := ho.mv m6
              refine J.take1 [(8, .u)] [5, 6, 7, 8, 9, 12, 13, 18, 88] [(5, .loc 0 0), (6, .loc 1 0), (7, .loc 2 0), (8, .loc 3 0), (9, .loc 4 0), (12, .v (.int .i64 ((ln : Nat) : Int))), (13, .v (.slice (some ⟨gq, 0, none⟩) ln y.c)), (18, .v (.bool ((!(slt e0.key lo)) && (decide (sp.t > 0))))), (88, .v (.bool (belowF e1.key hi)))] [8, 7, 5, 4, 3, 6, 2, 1, 0] (calm_body _ _ _) (by kernel_rfl) ?_
              rcases Bool.eq_false_or_eq_true (belowF e1.key hi) with hc | hc
              · rw [hc]
                try simp only [nrm] at hc
                have hc8 := hc
                refine J.take1 [(9, .w), (11, .w), (13, .w)] [5, 6, 7, 8, 9, 13, 18, 88, 89, 91, 93] [(5, .loc 0 0), (6, .loc 1 0), (7, .loc 2 0), (8, .loc 3 0), (9, .loc 4 0), (13, .v (.slice (some ⟨gq, 0, none⟩) ln y.c)), (18, .v (.bool ((!(slt e0.key lo)) && (decide (sp.t > 0))))), (88, .v (.bool true)), (89, .loc 4 0), (91, .v (.int .i64 ((ln : Nat) : Int))), (93, .loc 1 1)] [13, 11, 9, 8, 7, 5, 4, 3, 6, 2, 1, 0] (calm_body _ _ _) (by kernel_rfl) ?_
                refine J.pick [10, 14] (by kernel_rfl) (by kernel_rfl) (by simp) (fun i hi => ?_)
                simp only [List.mem_cons, List.not_mem_nil, or_false] at hi
                rcases hi with rfl | rfl
                · skip
                  refine J.ldq (T := 3) (b := b5) (off := 0) (d := 90) (v := .int .i64 sp.t) (by kernel_rfl) (fun w1 A1 m1 l1 => l1.ldc (i := 4) rfl (by kernel_rfl) (by kernel_rfl)) ?_
                  refine J.take1 [(12, .w)] [5, 6, 7, 8, 9, 13, 18, 88, 92, 93] [(5, .loc 0 0), (6, .loc 1 0), (7, .loc 2 0), (8, .loc 3 0), (9, .loc 4 0), (13, .v (.slice (some ⟨gq, 0, none⟩) ln y.c)), (18, .v (.bool ((!(slt e0.key lo)) && (decide (sp.t > 0))))), (88, .v (.bool true)), (92, .v (.int .i64 (IntKind.i64.wrap (sp.t + ((ln : Nat) : Int))))), (93, .loc 1 1)] [12, 10, 13, 11, 9, 8, 7, 5, 4, 3, 6, 2, 1, 0] (calm_body _ _ _) (by kernel_rfl) ?_
                  have hw3 : IntKind.i64.wrap (sp.t + ((ln : Nat) : Int)) = (sp.t + ((ln : Nat) : Int)) := by rw [wrap_i64 (by omega) (by omega)]
                  rw [hw3]
                  refine J.pick1 14 (by kernel_rfl) (by kernel_rfl) ?_
                  refine J.ldq (T := 3) (b := b2) (off := 1) (d := 94) (v := .int .i64 x.count) (by kernel_rfl) (fun w1 A1 m1 l1 => l1.ldc (i := 1) rfl (by kernel_rfl) (by kernel_rfl)) ?_
                  refine J.take1 [(15, .w), (16, .u), (17, .u)] [5, 6, 7, 8, 9, 13, 18, 19] [(5, .loc 0 0), (6, .loc 1 0), (7, .loc 2 0), (8, .loc 3 0), (9, .loc 4 0), (13, .v (.slice (some ⟨gq, 0, none⟩) ln y.c)), (18, .v (.bool ((!(slt e0.key lo)) && (decide (sp.t > 0))))), (19, .v (.bool (decide ((sp.t + ((ln : Nat) : Int)) < x.count))))] [17, 16, 15, 14, 12, 10, 13, 11, 9, 8, 7, 5, 4, 3, 6, 2, 1, 0] (calm_body _ _ _) (by kernel_rfl) ?_
                  rw [hx]
                  refine J.pdone (by kernel_rfl) ?_
                  refine J.run [.n, .n, .n, .u, .u] [5, 6, 7, 8, 9, 13, 19, 98] ⟨[(5, .loc 0 0), (6, .loc 1 0), (7, .loc 2 0), (8, .loc 3 0), (9, .loc 4 0), (13, .v (.slice (some ⟨gq, 0, none⟩) ln y.c)), (19, .v (.bool (decide ((sp.t + ((ln : Nat) : Int)) < ((N : Nat) : Int))))), (98, .v (.bool ((!(slt e0.key lo)) && (decide (sp.t > 0)))))], [⟨32, [.int .i64 bits]⟩, ⟨36, encT x⟩, ⟨9, [.string lo]⟩, ⟨9, [.string hi]⟩, ⟨54, [.int .i64 sp.t, .slice la ln lc, .slice pa pn pc]⟩]⟩ [.c 45] [.o 47 2, .c 48, .c 53] (by kernel_rfl) ?_
                  rcases Bool.eq_false_or_eq_true ((!(slt e0.key lo)) && (decide (sp.t > 0))) with hc | hc
                  · rw [hc]
                    try simp only [nrm] at hc
                    have hc9 := hc
                    refine J.rn [.x, .u, .u, .x, .x, .x, .u, .u, .x, .x, .x, .x, .x, .x, .x, .x, .x, .x, .x, .x, .x, .u, .n] [7, 8, 13, 120] [.o 47 2, .c 48, .c 53] [.c 48, .c 53] (by kernel_rfl) ?_
                    refine J.cond (b := true) (k' := 52) (by kernel_rfl) (fun _ => ?_) (fun hc => absurd hc (by decide))
                    refine J.run [.n, .n, .u, .u, .n] [10, 11] ⟨[(10, .v (.slice none 0 0)), (11, .v (.int .i64 8))], [⟨32, [.int .i64 bits]⟩, ⟨36, encT x⟩, ⟨9, [.string lo]⟩, ⟨9, [.string hi]⟩, ⟨54, [.int .i64 sp.t, .slice la ln lc, .slice pa pn pc]⟩]⟩ [.c 49, .c 53] [.c 51, .c 53] (by kernel_rfl) ?_
                    have hno : spanC bits x N lo hi sp = ([], 8) := by
                      rw [spanC_go ⟨by first | assumption | simp_all, by omega, by omega, by omega, by omega⟩ hall, if_pos]
                      unfold lateF earlyF; rw [hk0, hk1, hpl, ← hlen]; simp [hc3, hc4, hc5, hc6, hc8, hc9]
                    refine J.ret (v := .tuple #[.slice none 0 0, .int .i64 8]) (by kernel_rfl) (by kernel_rfl) (fun w1 A1 m1 hac l1 => by rw [hno]; exact ⟨none, 0, rfl, Nw.new (Nw.nil W.heap.size 42 4 [] A1 w1)⟩)
                  · rw [hc]
                    try simp only [nrm] at hc
                    have hc9 := hc
                    refine J.run [.w, .u, .u] [5, 6, 7, 8, 9, 13, 101] ⟨[(5, .loc 0 0), (6, .loc 1 0), (7, .loc 2 0), (8, .loc 3 0), (9, .loc 4 0), (13, .v (.slice (some ⟨gq, 0, none⟩) ln y.c)), (101, .v (.bool (decide ((sp.t + ((ln : Nat) : Int)) < ((N : Nat) : Int)))))], [⟨32, [.int .i64 bits]⟩, ⟨36, encT x⟩, ⟨9, [.string lo]⟩, ⟨9, [.string hi]⟩, ⟨54, [.int .i64 sp.t, .slice la ln lc, .slice pa pn pc]⟩]⟩ [.o 47 2, .c 48, .c 53] [.o 47 5, .c 48, .c 53] (by kernel_rfl) ?_
                    rcases Bool.eq_false_or_eq_true (decide ((sp.t + ((ln : Nat) : Int)) < ((N : Nat) : Int))) with hc | hc
                    · rw [hc]
                      try simp only [nrm] at hc
                      have hc10 := hc
                      refine J.rn [.x, .x, .x, .u, .u, .x, .x, .x, .x, .x, .x, .x, .x, .x, .x, .x, .x, .x, .u, .n] [7, 8, 13, 120] [.o 47 5, .c 48, .c 53] [.c 48, .c 53] (by kernel_rfl) ?_
                      refine J.cond (b := true) (k' := 52) (by kernel_rfl) (fun _ => ?_) (fun hc => absurd hc (by decide))
                      refine J.run [.n, .n, .u, .u, .n] [10, 11] ⟨[(10, .v (.slice none 0 0)), (11, .v (.int .i64 8))], [⟨32, [.int .i64 bits]⟩, ⟨36, encT x⟩, ⟨9, [.string lo]⟩, ⟨9, [.string hi]⟩, ⟨54, [.int .i64 sp.t, .slice la ln lc, .slice pa pn pc]⟩]⟩ [.c 49, .c 53] [.c 51, .c 53] (by kernel_rfl) ?_
                      have hno : spanC bits x N lo hi sp = ([], 8) := by
                        rw [spanC_go ⟨by first | assumption | simp_all, by omega, by omega, by omega, by omega⟩ hall, if_pos]
                        unfold lateF earlyF; rw [hk0, hk1, hpl, ← hlen]; simp [hc3, hc4, hc5, hc6, hc8, hc9, hc10]
                      refine J.ret (v := .tuple #[.slice none 0 0, .int .i64 8]) (by kernel_rfl) (by kernel_rfl) (fun w1 A1 m1 hac l1 => by rw [hno]; exact ⟨none, 0, rfl, Nw.new (Nw.nil W.heap.size 42 4 [] A1 w1)⟩)
                    · rw [hc]
                      try simp only [nrm] at hc
                      have hc10 := hc
                      refine J.rn [.w] [5, 6, 7, 8, 9, 13, 101, 102] [.o 47 5, .c 48, .c 53] [.o 47 6, .c 48, .c 53] (by kernel_rfl) ?_
                      refine J.call (d := some 103) (by kernel_rfl) (fun w1 A1 m1 l1 => sorted_calls (some ⟨gq, 0, none⟩) ln y.c (parsL sp.leaves) nobody w1 noA ((ho.mv m1).any (fun x _ => rfl) (by decide))) ?_
                      rintro _ u4 w8 A8 rfl g4
                      have m7 := g4.mv
                      replace hs := hs.mv m7; replace hp := hp.mv m7; replace ho := ho.mv m7
                      refine J.run [.w, .u, .u] [5, 6, 7, 8, 9, 13, 106] ⟨[(5, .loc 0 0), (6, .loc 1 0), (7, .loc 2 0), (8, .loc 3 0), (9, .loc 4 0), (13, .v (.slice (some ⟨gq, 0, none⟩) ln y.c)), (106, .v (.bool (!(decide (SortedL (parsL sp.leaves))))))], [⟨32, [.int .i64 bits]⟩, ⟨36, encT x⟩, ⟨9, [.string lo]⟩, ⟨9, [.string hi]⟩, ⟨54, [.int .i64 sp.t, .slice la ln lc, .slice pa pn pc]⟩]⟩ [.o 47 7, .c 48, .c 53] [.o 47 10, .c 48, .c 53] (by kernel_rfl) ?_
                      rcases Bool.eq_false_or_eq_true (!(decide (SortedL (parsL sp.leaves)))) with hc | hc
                      · rw [hc]
                        try simp only [nrm] at hc
                        have hc11 := hc
                        refine J.rn [.x, .x, .x, .x, .x, .x, .x, .x, .x, .x, .x, .x, .x, .u, .n] [7, 8, 13, 120] [.o 47 10, .c 48, .c 53] [.c 48, .c 53] (by kernel_rfl) ?_
                        refine J.cond (b := true) (k' := 52) (by kernel_rfl) (fun _ => ?_) (fun hc => absurd hc (by decide))
                        refine J.run [.n, .n, .u, .u, .n] [10, 11] ⟨[(10, .v (.slice none 0 0)), (11, .v (.int .i64 8))], [⟨32, [.int .i64 bits]⟩, ⟨36, encT x⟩, ⟨9, [.string lo]⟩, ⟨9, [.string hi]⟩, ⟨54, [.int .i64 sp.t, .slice la ln lc, .slice pa pn pc]⟩]⟩ [.c 49, .c 53] [.c 51, .c 53] (by kernel_rfl) ?_
                        have hno : spanC bits x N lo hi sp = ([], 8) := by
                          rw [spanC_go ⟨by first | assumption | simp_all, by omega, by omega, by omega, by omega⟩ hall, if_pos]
                          unfold lateF earlyF; rw [hk0, hk1, hpl, ← hlen]; simp [hc3, hc4, hc5, hc6, hc8, hc9, hc10, hc11]
                        refine J.ret (v := .tuple #[.slice none 0 0, .int .i64 8]) (by kernel_rfl) (by kernel_rfl) (fun w1 A1 m1 hac l1 => by rw [hno]; exact ⟨none, 0, rfl, Nw.new (Nw.nil W.heap.size 42 4 [] A1 w1)⟩)
                      · rw [hc]
                        try simp only [nrm] at hc
                        have hc11 := hc
                        refine J.run [.w, .w, .w, .w, .w, .w, .w, .w, .w, .w, .w] [7, 8, 13, 106, 107, 109, 111, 113, 115, 117] ⟨[(7, .loc 2 0), (8, .loc 3 0), (13, .v (.slice (some ⟨gq, 0, none⟩) ln y.c)), (106, .v (.bool false)), (107, .v (.agg [.int .i64 bits].toArray)), (109, .v (.agg [.int .u8 (((x.root 0).toNat : Nat) : Int), .int .u8 (((x.root 1).toNat : Nat) : Int), .int .u8 (((x.root 2).toNat : Nat) : Int), .int .u8 (((x.root 3).toNat : Nat) : Int), .int .u8 (((x.root 4).toNat : Nat) : Int), .int .u8 (((x.root 5).toNat : Nat) : Int), .int .u8 (((x.root 6).toNat : Nat) : Int), .int .u8 (((x.root 7).toNat : Nat) : Int), .int .u8 (((x.root 8).toNat : Nat) : Int), .int .u8 (((x.root 9).toNat : Nat) : Int), .int .u8 (((x.root 10).toNat : Nat) : Int), .int .u8 (((x.root 11).toNat : Nat) : Int), .int .u8 (((x.root 12).toNat : Nat) : Int), .int .u8 (((x.root 13).toNat : Nat) : Int), .int .u8 (((x.root 14).toNat : Nat) : Int), .int .u8 (((x.root 15).toNat : Nat) : Int), .int .u8 (((x.root 16).toNat : Nat) : Int), .int .u8 (((x.root 17).toNat : Nat) : Int), .int .u8 (((x.root 18).toNat : Nat) : Int), .int .u8 (((x.root 19).toNat : Nat) : Int), .int .u8 (((x.root 20).toNat : Nat) : Int), .int .u8 (((x.root 21).toNat : Nat) : Int), .int .u8 (((x.root 22).toNat : Nat) : Int), .int .u8 (((x.root 23).toNat : Nat) : Int), .int .u8 (((x.root 24).toNat : Nat) : Int), .int .u8 (((x.root 25).toNat : Nat) : Int), .int .u8 (((x.root 26).toNat : Nat) : Int), .int .u8 (((x.root 27).toNat : Nat) : Int), .int .u8 (((x.root 28).toNat : Nat) : Int), .int .u8 (((x.root 29).toNat : Nat) : Int), .int .u8 (((x.root 30).toNat : Nat) : Int), .int .u8 (((x.root 31).toNat : Nat) : Int)].toArray)), (111, .v (.int .i64 x.count)), (113, .v (.int .i64 sp.t)), (115, .v (.slice la ln lc)), (117, .v (.slice pa pn pc))], [⟨32, [.int .i64 bits]⟩, ⟨36, encT x⟩, ⟨9, [.string lo]⟩, ⟨9, [.string hi]⟩, ⟨54, [.int .i64 sp.t, .slice la ln lc, .slice pa pn pc]⟩]⟩ [.o 47 10, .c 48, .c 53] [.o 47 21, .c 48, .c 53] (by kernel_rfl) ?_
                        rw [hx]
                        refine J.call (d := some 118) (by kernel_rfl) (fun w1 A1 m1 l1 => checkR_calls bits x.root N sp.t la ln lc sp.leaves pa pn pc sp.path (by first | assumption | exact Short.take (by assumption) _ | exact Short.drop (by assumption) _ | exact Short.drop (Short.take (by assumption) _) _) (by omega) (by omega) nobody w1 noA (hs.mv m1).any (hp.mv m1).any) ?_
                        rintro _ u5 w9 A9 rfl g5
                        have m8 := g5.mv
                        replace hs := hs.mv m8; replace hp := hp.mv m8; replace ho := ho.mv m8
                        refine J.rn [.w, .u, .n] [7, 8, 13, 120] [.o 47 22, .c 48, .c 53] [.c 48, .c 53] (by kernel_rfl) ?_
                        refine J.cond (b := (!(checkR bits x.root N sp.t sp.leaves sp.path))) (k' := 52) (by kernel_rfl) (fun hc => ?_) (fun hc => ?_)
                        · try simp only [nrm] at hc
                          have hc12 := hc
                          refine J.run [.n, .n, .u, .u, .n] [10, 11] ⟨[(10, .v (.slice none 0 0)), (11, .v (.int .i64 8))], [⟨32, [.int .i64 bits]⟩, ⟨36, encT x⟩, ⟨9, [.string lo]⟩, ⟨9, [.string hi]⟩, ⟨54, [.int .i64 sp.t, .slice la ln lc, .slice pa pn pc]⟩]⟩ [.c 49, .c 53] [.c 51, .c 53] (by kernel_rfl) ?_
                          have hno : spanC bits x N lo hi sp = ([], 8) := by
                            rw [spanC_go ⟨by first | assumption | simp_all, by omega, by omega, by omega, by omega⟩ hall, if_pos]
                            unfold lateF earlyF; rw [hk0, hk1, hpl, ← hlen]; simp [hc3, hc4, hc5, hc6, hc8, hc9, hc10, hc11, hc12]
                          refine J.ret (v := .tuple #[.slice none 0 0, .int .i64 8]) (by kernel_rfl) (by kernel_rfl) (fun w1 A1 m1 hac l1 => by rw [hno]; exact ⟨none, 0, rfl, Nw.new (Nw.nil W.heap.size 42 4 [] A1 w1)⟩)
                        · try simp only [nrm] at hc
                          have hc12 := hc
                          refine J.run [.n, .n, .n, .u, .u] [121, 122] ⟨[(121, .v (.slice (some ⟨gq, 0, none⟩) ln y.c)), (122, .v ((.func (.func 60) #[] #[.pointer (some ⟨b3, 0, none⟩), .pointer (some ⟨b4, 0, none⟩)])))], [⟨32, [.int .i64 bits]⟩, ⟨36, encT x⟩, ⟨9, [.string lo]⟩, ⟨9, [.string hi]⟩, ⟨54, [.int .i64 sp.t, .slice la ln lc, .slice pa pn pc]⟩]⟩ [.c 52, .c 53] [.o 54 2, .c 55] (by kernel_rfl) ?_
                          obtain ⟨k1, k2, k3, k4⟩ := ho.own_blk gq ⟨_, rfl, rfl⟩
                          have hn7 : ¬ (b3 = gq) := fun h => k2 (by rw [← h]; simp); have hn8 : ¬ (b4 = gq) := fun h => k2 (by rw [← h]; simp)
                          refine J.callX (X := Eb (some ⟨gq, 0, none⟩)) (d := some 123) (fun k hk _ => let q := ho.own_blk k hk; ⟨.inl q.1, q.2.1, q.2.2.1⟩) (fun k hk => (ho.own_blk k hk).2.2.2) (by kernel_rfl) (fun w1 A1 m1 l1 => ret_mono (deleteFunc_calls _ [.pointer (some ⟨b3, 0, none⟩), .pointer (some ⟨b4, 0, none⟩)] _ (delB lo hi) (checkSpan1_func b3 b4 lo hi) gq ln y.c (parsL sp.leaves) (by omega) (fun k => k = gq) w1 (oneA (Nat.lt_of_lt_of_le k4 m1.size)) ((ho.mv m1).retake (Nat.zero_le _) (by simp) rfl) (spanPhi_at (l1.str 2 (T := 9) rfl hn7) (l1.str 3 (T := 9) rfl hn8))) (fun v w h => And.intro h.1 (h.2.retake (N := W.heap.size) (ρ := [b1, b2, b3, b4, b5]) (A := A1) k1 k2 (m1.up gq k4 k3 k2)))) ?_
                          rintro _ w1 w2 A2 ⟨rfl, hd⟩ g2
                          refine J.run [.u, .u, .n] [10, 11] ⟨[(10, .v (.slice (some ⟨gq, 0, none⟩) (((parsL sp.leaves).filter (keepB (delB lo hi))).length) y.c)), (11, .v (.int .i64 0))], [⟨32, [.int .i64 bits]⟩, ⟨36, encT x⟩, ⟨9, [.string lo]⟩, ⟨9, [.string hi]⟩, ⟨54, [.int .i64 sp.t, .slice la ln lc, .slice pa pn pc]⟩]⟩ [.o 54 3, .c 55] [.c 55] (by kernel_rfl) ?_
                          have hyes : spanC bits x N lo hi sp = ((parsL sp.leaves).filter (keepB (delB lo hi)), 0) := by
                            rw [spanC_go ⟨by first | assumption | simp_all, by omega, by omega, by omega, by omega⟩ hall, if_neg]
                            unfold lateF earlyF; rw [hk0, hk1, hpl, ← hlen]; simp [hc3, hc4, hc5, hc6, hc8, hc9, hc10, hc11, hc12]
                            intro h0; have h9 := hc9; rw [h0] at h9; simpa using h9
                          refine J.ret (v := .tuple #[.slice (some ⟨gq, 0, none⟩) (((parsL sp.leaves).filter (keepB (delB lo hi))).length) y.c, .int .i64 0]) (by kernel_rfl) (by kernel_rfl) (fun w1 A1 m1 hac l1 => by rw [hyes]; exact ⟨_, _, rfl, (hd.mv m1).new⟩)
                · skip
                  refine J.ldq (T := 3) (b := b2) (off := 1) (d := 94) (v := .int .i64 x.count) (by kernel_rfl) (fun w1 A1 m1 l1 => l1.ldc (i := 1) rfl (by kernel_rfl) (by kernel_rfl)) ?_
                  rw [hx]
                  refine J.pick1 10 (by kernel_rfl) (by kernel_rfl) ?_
                  refine J.ldq (T := 3) (b := b5) (off := 0) (d := 90) (v := .int .i64 sp.t) (by kernel_rfl) (fun w1 A1 m1 l1 => l1.ldc (i := 4) rfl (by kernel_rfl) (by kernel_rfl)) ?_
                  refine J.take1 [(12, .w), (15, .w), (16, .u), (17, .u)] [5, 6, 7, 8, 9, 13, 18, 19] [(5, .loc 0 0), (6, .loc 1 0), (7, .loc 2 0), (8, .loc 3 0), (9, .loc 4 0), (13, .v (.slice (some ⟨gq, 0, none⟩) ln y.c)), (18, .v (.bool ((!(slt e0.key lo)) && (decide (sp.t > 0))))), (19, .v (.bool (decide ((IntKind.i64.wrap (sp.t + ((ln : Nat) : Int))) < ((N : Nat) : Int)))))] [17, 16, 15, 12, 10, 14, 13, 11, 9, 8, 7, 5, 4, 3, 6, 2, 1, 0] (calm_body _ _ _) (by kernel_rfl) ?_
                  have hw4 : IntKind.i64.wrap (sp.t + ((ln : Nat) : Int)) = (sp.t + ((ln : Nat) : Int)) := by rw [wrap_i64 (by omega) (by omega)]
                  rw [hw4]
                  refine J.pdone (by kernel_rfl) ?_
                  refine J.run [.n, .n, .n, .u, .u] [5, 6, 7, 8, 9, 13, 19, 98] ⟨[(5, .loc 0 0), (6, .loc 1 0), (7, .loc 2 0), (8, .loc 3 0), (9, .loc 4 0), (13, .v (.slice (some ⟨gq, 0, none⟩) ln y.c)), (19, .v (.bool (decide ((sp.t + ((ln : Nat) : Int)) < ((N : Nat) : Int))))), (98, .v (.bool ((!(slt e0.key lo)) && (decide (sp.t > 0)))))], [⟨32, [.int .i64 bits]⟩, ⟨36, encT x⟩, ⟨9, [.string lo]⟩, ⟨9, [.string hi]⟩, ⟨54, [.int .i64 sp.t, .slice la ln lc, .slice pa pn pc]⟩]⟩ [.c 45] [.o 47 2, .c 48, .c 53] (by kernel_rfl) ?_
                  rcases Bool.eq_false_or_eq_true ((!(slt e0.key lo)) && (decide (sp.t > 0))) with hc | hc
                  · rw [hc]
                    try simp only [nrm] at hc
                    have hc13 := hc
                    refine J.rn [.x, .u, .u, .x, .x, .x, .u, .u, .x, .x, .x, .x, .x, .x, .x, .x, .x, .x, .x, .x, .x, .u, .n] [7, 8, 13, 120] [.o 47 2, .c 48, .c 53] [.c 48, .c 53] (by kernel_rfl) ?_
                    refine J.cond (b := true) (k' := 52) (by kernel_rfl) (fun _ => ?_) (fun hc => absurd hc (by decide))
                    refine J.run [.n, .n, .u, .u, .n] [10, 11] ⟨[(10, .v (.slice none 0 0)), (11, .v (.int .i64 8))], [⟨32, [.int .i64 bits]⟩, ⟨36, encT x⟩, ⟨9, [.string lo]⟩, ⟨9, [.string hi]⟩, ⟨54, [.int .i64 sp.t, .slice la ln lc, .slice pa pn pc]⟩]⟩ [.c 49, .c 53] [.c 51, .c 53] (by kernel_rfl) ?_
                    have hno : spanC bits x N lo hi sp = ([], 8) := by
                      rw [spanC_go ⟨by first | assumption | simp_all, by omega, by omega, by omega, by omega⟩ hall, if_pos]
                      unfold lateF earlyF; rw [hk0, hk1, hpl, ← hlen]; simp [hc3, hc4, hc5, hc6, hc8, hc13]
                    refine J.ret (v := .tuple #[.slice none 0 0, .int .i64 8]) (by kernel_rfl) (by kernel_rfl) (fun w1 A1 m1 hac l1 => by rw [hno]; exact ⟨none, 0, rfl, Nw.new (Nw.nil W.heap.size 42 4 [] A1 w1)⟩)
                  · rw [hc]
                    try simp only [nrm] at hc
                    have hc13 := hc
                    refine J.run [.w, .u, .u] [5, 6, 7, 8, 9, 13, 101] ⟨[(5, .loc 0 0), (6, .loc 1 0), (7, .loc 2 0), (8, .loc 3 0), (9, .loc 4 0), (13, .v (.slice (some ⟨gq, 0, none⟩) ln y.c)), (101, .v (.bool (decide ((sp.t + ((ln : Nat) : Int)) < ((N : Nat) : Int)))))], [⟨32, [.int .i64 bits]⟩, ⟨36, encT x⟩, ⟨9, [.string lo]⟩, ⟨9, [.string hi]⟩, ⟨54, [.int .i64 sp.t, .slice la ln lc, .slice pa pn pc]⟩]⟩ [.o 47 2, .c 48, .c 53] [.o 47 5, .c 48, .c 53] (by kernel_rfl) ?_
                    rcases Bool.eq_false_or_eq_true (decide ((sp.t + ((ln : Nat) : Int)) < ((N : Nat) : Int))) with hc | hc
                    · rw [hc]
                      try simp only [nrm] at hc
                      have hc14 := hc
                      refine J.rn [.x, .x, .x, .u, .u, .x, .x, .x, .x, .x, .x, .x, .x, .x, .x, .x, .x, .x, .u, .n] [7, 8, 13, 120] [.o 47 5, .c 48, .c 53] [.c 48, .c 53] (by kernel_rfl) ?_
                      refine J.cond (b := true) (k' := 52) (by kernel_rfl) (fun _ => ?_) (fun hc => absurd hc (by decide))
                      refine J.run [.n, .n, .u, .u, .n] [10, 11] ⟨[(10, .v (.slice none 0 0)), (11, .v (.int .i64 8))], [⟨32, [.int .i64 bits]⟩, ⟨36, encT x⟩, ⟨9, [.string lo]⟩, ⟨9, [.string hi]⟩, ⟨54, [.int .i64 sp.t, .slice la ln lc, .slice pa pn pc]⟩]⟩ [.c 49, .c 53] [.c 51, .c 53] (by kernel_rfl) ?_
                      have hno : spanC bits x N lo hi sp = ([], 8) := by
                        rw [spanC_go ⟨by first | assumption | simp_all, by omega, by omega, by omega, by omega⟩ hall, if_pos]
                        unfold lateF earlyF; rw [hk0, hk1, hpl, ← hlen]; simp [hc3, hc4, hc5, hc6, hc8, hc13, hc14]
                      refine J.ret (v := .tuple #[.slice none 0 0, .int .i64 8]) (by kernel_rfl) (by kernel_rfl) (fun w1 A1 m1 hac l1 => by rw [hno]; exact ⟨none, 0, rfl, Nw.new (Nw.nil W.heap.size 42 4 [] A1 w1)⟩)
                    · rw [hc]
                      try simp only [nrm] at hc
                      have hc14 := hc
                      refine J.rn [.w] [5, 6, 7, 8, 9, 13, 101, 102] [.o 47 5, .c 48, .c 53] [.o 47 6, .c 48, .c 53] (by kernel_rfl) ?_
                      refine J.call (d := some 103) (by kernel_rfl) (fun w1 A1 m1 l1 => sorted_calls (some ⟨gq, 0, none⟩) ln y.c (parsL sp.leaves) nobody w1 noA ((ho.mv m1).any (fun x _ => rfl) (by decide))) ?_
                      rintro _ u6 w10 A10 rfl g6
                      have m9 := g6.mv
                      replace hs := hs.mv m9; replace hp := hp.mv m9; replace ho := ho.mv m9
                      refine J.run [.w, .u, .u] [5, 6, 7, 8, 9, 13, 106] ⟨[(5, .loc 0 0), (6, .loc 1 0), (7, .loc 2 0), (8, .loc 3 0), (9, .loc 4 0), (13, .v (.slice (some ⟨gq, 0, none⟩) ln y.c)), (106, .v (.bool (!(decide (SortedL (parsL sp.leaves))))))], [⟨32, [.int .i64 bits]⟩, ⟨36, encT x⟩, ⟨9, [.string lo]⟩, ⟨9, [.string hi]⟩, ⟨54, [.int .i64 sp.t, .slice la ln lc, .slice pa pn pc]⟩]⟩ [.o 47 7, .c 48, .c 53] [.o 47 10, .c 48, .c 53] (by kernel_rfl) ?_
                      rcases Bool.eq_false_or_eq_true (!(decide (SortedL (parsL sp.leaves)))) with hc | hc
                      · rw [hc]
                        try simp only [nrm] at hc
                        have hc15 := hc
                        refine J.rn [.x, .x, .x, .x, .x, .x, .x, .x, .x, .x, .x, .x, .x, .u, .n] [7, 8, 13, 120] [.o 47 10, .c 48, .c 53] [.c 48, .c 53] (by kernel_rfl) ?_
                        refine J.cond (b := true) (k' := 52) (by kernel_rfl) (fun _ => ?_) (fun hc => absurd hc (by decide))
                        refine J.run [.n, .n, .u, .u, .n] [10, 11] ⟨[(10, .v (.slice none 0 0)), (11, .v (.int .i64 8))], [⟨32, [.int .i64 bits]⟩, ⟨36, encT x⟩, ⟨9, [.string lo]⟩, ⟨9, [.string hi]⟩, ⟨54, [.int .i64 sp.t, .slice la ln lc, .slice pa pn pc]⟩]⟩ [.c 49, .c 53] [.c 51, .c 53] (by kernel_rfl) ?_
                        have hno : spanC bits x N lo hi sp = ([], 8) := by
                          rw [spanC_go ⟨by first | assumption | simp_all, by omega, by omega, by omega, by omega⟩ hall, if_pos]
                          unfold lateF earlyF; rw [hk0, hk1, hpl, ← hlen]; simp [hc3, hc4, hc5, hc6, hc8, hc13, hc14, hc15]
                        refine J.ret (v := .tuple #[.slice none 0 0, .int .i64 8]) (by kernel_rfl) (by kernel_rfl) (fun w1 A1 m1 hac l1 => by rw [hno]; exact ⟨none, 0, rfl, Nw.new (Nw.nil W.heap.size 42 4 [] A1 w1)⟩)
                      · rw [hc]
                        try simp only [nrm] at hc
                        have hc15 := hc
                        refine J.run [.w, .w, .w, .w, .w, .w, .w, .w, .w, .w, .w] [7, 8, 13, 106, 107, 109, 111, 113, 115, 117] ⟨[(7, .loc 2 0), (8, .loc 3 0), (13, .v (.slice (some ⟨gq, 0, none⟩) ln y.c)), (106, .v (.bool false)), (107, .v (.agg [.int .i64 bits].toArray)), (109, .v (.agg [.int .u8 (((x.root 0).toNat : Nat) : Int), .int .u8 (((x.root 1).toNat : Nat) : Int), .int .u8 (((x.root 2).toNat : Nat) : Int), .int .u8 (((x.root 3).toNat : Nat) : Int), .int .u8 (((x.root 4).toNat : Nat) : Int), .int .u8 (((x.root 5).toNat : Nat) : Int), .int .u8 (((x.root 6).toNat : Nat) : Int), .int .u8 (((x.root 7).toNat : Nat) : Int), .int .u8 (((x.root 8).toNat : Nat) : Int), .int .u8 (((x.root 9).toNat : Nat) : Int), .int .u8 (((x.root 10).toNat : Nat) : Int), .int .u8 (((x.root 11).toNat : Nat) : Int), .int .u8 (((x.root 12).toNat : Nat) : Int), .int .u8 (((x.root 13).toNat : Nat) : Int), .int .u8 (((x.root 14).toNat : Nat) : Int), .int .u8 (((x.root 15).toNat : Nat) : Int), .int .u8 (((x.root 16).toNat : Nat) : Int), .int .u8 (((x.root 17).toNat : Nat) : Int), .int .u8 (((x.root 18).toNat : Nat) : Int), .int .u8 (((x.root 19).toNat : Nat) : Int), .int .u8 (((x.root 20).toNat : Nat) : Int), .int .u8 (((x.root 21).toNat : Nat) : Int), .int .u8 (((x.root 22).toNat : Nat) : Int), .int .u8 (((x.root 23).toNat : Nat) : Int), .int .u8 (((x.root 24).toNat : Nat) : Int), .int .u8 (((x.root 25).toNat : Nat) : Int), .int .u8 (((x.root 26).toNat : Nat) : Int), .int .u8 (((x.root 27).toNat : Nat) : Int), .int .u8 (((x.root 28).toNat : Nat) : Int), .int .u8 (((x.root 29).toNat : Nat) : Int), .int .u8 (((x.root 30).toNat : Nat) : Int), .int .u8 (((x.root 31).toNat : Nat) : Int)].toArray)), (111, .v (.int .i64 x.count)), (113, .v (.int .i64 sp.t)), (115, .v (.slice la ln lc)), (117, .v (.slice pa pn pc))], [⟨32, [.int .i64 bits]⟩, ⟨36, encT x⟩, ⟨9, [.string lo]⟩, ⟨9, [.string hi]⟩, ⟨54, [.int .i64 sp.t, .slice la ln lc, .slice pa pn pc]⟩]⟩ [.o 47 10, .c 48, .c 53] [.o 47 21, .c 48, .c 53] (by kernel_rfl) ?_
                        rw [hx]
                        refine J.call (d := some 118) (by kernel_rfl) (fun w1 A1 m1 l1 => checkR_calls bits x.root N sp.t la ln lc sp.leaves pa pn pc sp.path (by first | assumption | exact Short.take (by assumption) _ | exact Short.drop (by assumption) _ | exact Short.drop (Short.take (by assumption) _) _) (by omega) (by omega) nobody w1 noA (hs.mv m1).any (hp.mv m1).any) ?_
                        rintro _ u7 w11 A11 rfl g7
                        have m10 := g7.mv
                        replace hs := hs.mv m10; replace hp := hp.mv m10; replace ho := ho.mv m10
                        refine J.rn [.w, .u, .n] [7, 8, 13, 120] [.o 47 22, .c 48, .c 53] [.c 48, .c 53] (by kernel_rfl) ?_
                        refine J.cond (b := (!(checkR bits x.root N sp.t sp.leaves sp.path))) (k' := 52) (by kernel_rfl) (fun hc => ?_) (fun hc => ?_)
                        · try simp only [nrm] at hc
                          have hc16 := hc
                          refine J.run [.n, .n, .u, .u, .n] [10, 11] ⟨[(10, .v (.slice none 0 0)), (11, .v (.int .i64 8))], [⟨32, [.int .i64 bits]⟩, ⟨36, encT x⟩, ⟨9, [.string lo]⟩, ⟨9, [.string hi]⟩, ⟨54, [.int .i64 sp.t, .slice la ln lc, .slice pa pn pc]⟩]⟩ [.c 49, .c 53] [.c 51, .c 53] (by kernel_rfl) ?_
                          have hno : spanC bits x N lo hi sp = ([], 8) := by
                            rw [spanC_go ⟨by first | assumption | simp_all, by omega, by omega, by omega, by omega⟩ hall, if_pos]
                            unfold lateF earlyF; rw [hk0, hk1, hpl, ← hlen]; simp [hc3, hc4, hc5, hc6, hc8, hc13, hc14, hc15, hc16]
                          refine J.ret (v := .tuple #[.slice none 0 0, .int .i64 8]) (by kernel_rfl) (by kernel_rfl) (fun w1 A1 m1 hac l1 => by rw [hno]; exact ⟨none, 0, rfl, Nw.new (Nw.nil W.heap.size 42 4 [] A1 w1)⟩)
                        · try simp only [nrm] at hc
                          have hc16 := hc
                          refine J.run [.n, .n, .n, .u, .u] [121, 122] ⟨[(121, .v (.slice (some ⟨gq, 0, none⟩) ln y.c)), (122, .v ((.func (.func 60) #[] #[.pointer (some ⟨b3, 0, none⟩), .pointer (some ⟨b4, 0, none⟩)])))], [⟨32, [.int .i64 bits]⟩, ⟨36, encT x⟩, ⟨9, [.string lo]⟩, ⟨9, [.string hi]⟩, ⟨54, [.int .i64 sp.t, .slice la ln lc, .slice pa pn pc]⟩]⟩ [.c 52, .c 53] [.o 54 2, .c 55] (by kernel_rfl) ?_
                          obtain ⟨k1, k2, k3, k4⟩ := ho.own_blk gq ⟨_, rfl, rfl⟩
                          have hn7 : ¬ (b3 = gq) := fun h => k2 (by rw [← h]; simp); have hn8 : ¬ (b4 = gq) := fun h => k2 (by rw [← h]; simp)
                          refine J.callX (X := Eb (some ⟨gq, 0, none⟩)) (d := some 123) (fun k hk _ => let q := ho.own_blk k hk; ⟨.inl q.1, q.2.1, q.2.2.1⟩) (fun k hk => (ho.own_blk k hk).2.2.2) (by kernel_rfl) (fun w1 A1 m1 l1 => ret_mono (deleteFunc_calls _ [.pointer (some ⟨b3, 0, none⟩), .pointer (some ⟨b4, 0, none⟩)] _ (delB lo hi) (checkSpan1_func b3 b4 lo hi) gq ln y.c (parsL sp.leaves) (by omega) (fun k => k = gq) w1 (oneA (Nat.lt_of_lt_of_le k4 m1.size)) ((ho.mv m1).retake (Nat.zero_le _) (by simp) rfl) (spanPhi_at (l1.str 2 (T := 9) rfl hn7) (l1.str 3 (T := 9) rfl hn8))) (fun v w h => And.intro h.1 (h.2.retake (N := W.heap.size) (ρ := [b1, b2, b3, b4, b5]) (A := A1) k1 k2 (m1.up gq k4 k3 k2)))) ?_
                          rintro _ w1 w2 A2 ⟨rfl, hd⟩ g2
                          refine J.run [.u, .u, .n] [10, 11] ⟨[(10, .v (.slice (some ⟨gq, 0, none⟩) (((parsL sp.leaves).filter (keepB (delB lo hi))).length) y.c)), (11, .v (.int .i64 0))], [⟨32, [.int .i64 bits]⟩, ⟨36, encT x⟩, ⟨9, [.string lo]⟩, ⟨9, [.string hi]⟩, ⟨54, [.int .i64 sp.t, .slice la ln lc, .slice pa pn pc]⟩]⟩ [.o 54 3, .c 55] [.c 55] (by kernel_rfl) ?_
                          have hyes : spanC bits x N lo hi sp = ((parsL sp.leaves).filter (keepB (delB lo hi)), 0) := by
                            rw [spanC_go ⟨by first | assumption | simp_all, by omega, by omega, by omega, by omega⟩ hall, if_neg]
                            unfold lateF earlyF; rw [hk0, hk1, hpl, ← hlen]; simp [hc3, hc4, hc5, hc6, hc8, hc13, hc14, hc15, hc16]
                            intro h0; have h9 := hc13; rw [h0] at h9; simpa using h9
                          refine J.ret (v := .tuple #[.slice (some ⟨gq, 0, none⟩) (((parsL sp.leaves).filter (keepB (delB lo hi))).length) y.c, .int .i64 0]) (by kernel_rfl) (by kernel_rfl) (fun w1 A1 m1 hac l1 => by rw [hyes]; exact ⟨_, _, rfl, (hd.mv m1).new⟩)
              · rw [hc]
                try simp only [nrm] at hc
                have hc8 := hc
                refine J.take1 [(9, .x), (10, .x), (11, .x), (12, .x), (13, .x), (14, .x), (15, .x), (16, .u), (17, .u)] [5, 6, 7, 8, 9, 13, 18, 19] [(5, .loc 0 0), (6, .loc 1 0), (7, .loc 2 0), (8, .loc 3 0), (9, .loc 4 0), (13, .v (.slice (some ⟨gq, 0, none⟩) ln y.c)), (18, .v (.bool ((!(slt e0.key lo)) && (decide (sp.t > 0))))), (19, .v (.bool false))] [17, 16, 15, 14, 13, 12, 11, 10, 9, 8, 7, 5, 4, 3, 6, 2, 1, 0] (calm_body _ _ _) (by kernel_rfl) ?_
                refine J.pdone (by kernel_rfl) ?_
                refine J.run [.n, .n, .n, .u, .u] [5, 6, 7, 8, 9, 13, 19, 98] ⟨[(5, .loc 0 0), (6, .loc 1 0), (7, .loc 2 0), (8, .loc 3 0), (9, .loc 4 0), (13, .v (.slice (some ⟨gq, 0, none⟩) ln y.c)), (19, .v (.bool false)), (98, .v (.bool ((!(slt e0.key lo)) && (decide (sp.t > 0)))))], [⟨32, [.int .i64 bits]⟩, ⟨36, encT x⟩, ⟨9, [.string lo]⟩, ⟨9, [.string hi]⟩, ⟨54, [.int .i64 sp.t, .slice la ln lc, .slice pa pn pc]⟩]⟩ [.c 45] [.o 47 2, .c 48, .c 53] (by kernel_rfl) ?_
                rcases Bool.eq_false_or_eq_true ((!(slt e0.key lo)) && (decide (sp.t > 0))) with hc | hc
                · rw [hc]
                  try simp only [nrm] at hc
                  have hc17 := hc
                  refine J.rn [.x, .u, .u, .x, .x, .x, .u, .u, .x, .x, .x, .x, .x, .x, .x, .x, .x, .x, .x, .x, .x, .u, .n] [7, 8, 13, 120] [.o 47 2, .c 48, .c 53] [.c 48, .c 53] (by kernel_rfl) ?_
                  refine J.cond (b := true) (k' := 52) (by kernel_rfl) (fun _ => ?_) (fun hc => absurd hc (by decide))
                  refine J.run [.n, .n, .u, .u, .n] [10, 11] ⟨[(10, .v (.slice none 0 0)), (11, .v (.int .i64 8))], [⟨32, [.int .i64 bits]⟩, ⟨36, encT x⟩, ⟨9, [.string lo]⟩, ⟨9, [.string hi]⟩, ⟨54, [.int .i64 sp.t, .slice la ln lc, .slice pa pn pc]⟩]⟩ [.c 49, .c 53] [.c 51, .c 53] (by kernel_rfl) ?_
                  have hno : spanC bits x N lo hi sp = ([], 8) := by
                    rw [spanC_go ⟨by first | assumption | simp_all, by omega, by omega, by omega, by omega⟩ hall, if_pos]
                    unfold lateF earlyF; rw [hk0, hk1, hpl, ← hlen]; simp [hc3, hc4, hc5, hc6, hc8, hc17]
                  refine J.ret (v := .tuple #[.slice none 0 0, .int .i64 8]) (by kernel_rfl) (by kernel_rfl) (fun w1 A1 m1 hac l1 => by rw [hno]; exact ⟨none, 0, rfl, Nw.new (Nw.nil W.heap.size 42 4 [] A1 w1)⟩)
                · rw [hc]
                  try simp only [nrm] at hc
                  have hc17 := hc
                  refine J.rn [.w, .u, .u, .w] [5, 6, 7, 8, 9, 13, 101, 102] [.o 47 2, .c 48, .c 53] [.o 47 6, .c 48, .c 53] (by kernel_rfl) ?_
                  refine J.call (d := some 103) (by kernel_rfl) (fun w1 A1 m1 l1 => sorted_calls (some ⟨gq, 0, none⟩) ln y.c (parsL sp.leaves) nobody w1 noA ((ho.mv m1).any (fun x _ => rfl) (by decide))) ?_
                  rintro _ u8 w12 A12 rfl g8
                  have m11 := g8.mv
                  replace hs := hs.mv m11; replace hp := hp.mv m11; replace ho := ho.mv m11
                  refine J.run [.w, .u, .u] [5, 6, 7, 8, 9, 13, 106] ⟨[(5, .loc 0 0), (6, .loc 1 0), (7, .loc 2 0), (8, .loc 3 0), (9, .loc 4 0), (13, .v (.slice (some ⟨gq, 0, none⟩) ln y.c)), (106, .v (.bool (!(decide (SortedL (parsL sp.leaves))))))], [⟨32, [.int .i64 bits]⟩, ⟨36, encT x⟩, ⟨9, [.string lo]⟩, ⟨9, [.string hi]⟩, ⟨54, [.int .i64 sp.t, .slice la ln lc, .slice pa pn pc]⟩]⟩ [.o 47 7, .c 48, .c 53] [.o 47 10, .c 48, .c 53] (by kernel_rfl) ?_
                  rcases Bool.eq_false_or_eq_true (!(decide (SortedL (parsL sp.leaves)))) with hc | hc
                  · rw [hc]
                    try simp only [nrm] at hc
                    have hc18 := hc
                    refine J.rn [.x, .x, .x, .x, .x, .x, .x, .x, .x, .x, .x, .x, .x, .u, .n] [7, 8, 13, 120] [.o 47 10, .c 48, .c 53] [.c 48, .c 53] (by kernel_rfl) ?_
                    refine J.cond (b := true) (k' := 52) (by kernel_rfl) (fun _ => ?_) (fun hc => absurd hc (by decide))
                    refine J.run [.n, .n, .u, .u, .n] [10, 11] ⟨[(10, .v (.slice none 0 0)), (11, .v (.int .i64 8))], [⟨32, [.int .i64 bits]⟩, ⟨36, encT x⟩, ⟨9, [.string lo]⟩, ⟨9, [.string hi]⟩, ⟨54, [.int .i64 sp.t, .slice la ln lc, .slice pa pn pc]⟩]⟩ [.c 49, .c 53] [.c 51, .c 53] (by kernel_rfl) ?_
                    have hno : spanC bits x N lo hi sp = ([], 8) := by
                      rw [spanC_go ⟨by first | assumption | simp_all, by omega, by omega, by omega, by omega⟩ hall, if_pos]
                      unfold lateF earlyF; rw [hk0, hk1, hpl, ← hlen]; simp [hc3, hc4, hc5, hc6, hc8, hc17, hc18]
                    refine J.ret (v := .tuple #[.slice none 0 0, .int .i64 8]) (by kernel_rfl) (by kernel_rfl) (fun w1 A1 m1 hac l1 => by rw [hno]; exact ⟨none, 0, rfl, Nw.new (Nw.nil W.heap.size 42 4 [] A1 w1)⟩)
                  · rw [hc]
                    try simp only [nrm] at hc
                    have hc18 := hc
                    refine J.run [.w, .w, .w, .w, .w, .w, .w, .w, .w, .w, .w] [7, 8, 13, 106, 107, 109, 111, 113, 115, 117] ⟨[(7, .loc 2 0), (8, .loc 3 0), (13, .v (.slice (some ⟨gq, 0, none⟩) ln y.c)), (106, .v (.bool false)), (107, .v (.agg [.int .i64 bits].toArray)), (109, .v (.agg [.int .u8 (((x.root 0).toNat : Nat) : Int), .int .u8 (((x.root 1).toNat : Nat) : Int), .int .u8 (((x.root 2).toNat : Nat) : Int), .int .u8 (((x.root 3).toNat : Nat) : Int), .int .u8 (((x.root 4).toNat : Nat) : Int), .int .u8 (((x.root 5).toNat : Nat) : Int), .int .u8 (((x.root 6).toNat : Nat) : Int), .int .u8 (((x.root 7).toNat : Nat) : Int), .int .u8 (((x.root 8).toNat : Nat) : Int), .int .u8 (((x.root 9).toNat : Nat) : Int), .int .u8 (((x.root 10).toNat : Nat) : Int), .int .u8 (((x.root 11).toNat : Nat) : Int), .int .u8 (((x.root 12).toNat : Nat) : Int), .int .u8 (((x.root 13).toNat : Nat) : Int), .int .u8 (((x.root 14).toNat : Nat) : Int), .int .u8 (((x.root 15).toNat : Nat) : Int), .int .u8 (((x.root 16).toNat : Nat) : Int), .int .u8 (((x.root 17).toNat : Nat) : Int), .int .u8 (((x.root 18).toNat : Nat) : Int), .int .u8 (((x.root 19).toNat : Nat) : Int), .int .u8 (((x.root 20).toNat : Nat) : Int), .int .u8 (((x.root 21).toNat : Nat) : Int), .int .u8 (((x.root 22).toNat : Nat) : Int), .int .u8 (((x.root 23).toNat : Nat) : Int), .int .u8 (((x.root 24).toNat : Nat) : Int), .int .u8 (((x.root 25).toNat : Nat) : Int), .int .u8 (((x.root 26).toNat : Nat) : Int), .int .u8 (((x.root 27).toNat : Nat) : Int), .int .u8 (((x.root 28).toNat : Nat) : Int), .int .u8 (((x.root 29).toNat : Nat) : Int), .int .u8 (((x.root 30).toNat : Nat) : Int), .int .u8 (((x.root 31).toNat : Nat) : Int)].toArray)), (111, .v (.int .i64 x.count)), (113, .v (.int .i64 sp.t)), (115, .v (.slice la ln lc)), (117, .v (.slice pa pn pc))], [⟨32, [.int .i64 bits]⟩, ⟨36, encT x⟩, ⟨9, [.string lo]⟩, ⟨9, [.string hi]⟩, ⟨54, [.int .i64 sp.t, .slice la ln lc, .slice pa pn pc]⟩]⟩ [.o 47 10, .c 48, .c 53] [.o 47 21, .c 48, .c 53] (by kernel_rfl) ?_
                    rw [hx]
                    refine J.call (d := some 118) (by kernel_rfl) (fun w1 A1 m1 l1 => checkR_calls bits x.root N sp.t la ln lc sp.leaves pa pn pc sp.path (by first | assumption | exact Short.take (by assumption) _ | exact Short.drop (by assumption) _ | exact Short.drop (Short.take (by assumption) _) _) (by omega) (by omega) nobody w1 noA (hs.mv m1).any (hp.mv m1).any) ?_
                    rintro _ u9 w13 A13 rfl g9
                    have m12 := g9.mv
                    replace hs := hs.mv m12; replace hp := hp.mv m12; replace ho := ho.mv m12
                    refine J.rn [.w, .u, .n] [7, 8, 13, 120] [.o 47 22, .c 48, .c 53] [.c 48, .c 53] (by kernel_rfl) ?_
                    refine J.cond (b := (!(checkR bits x.root N sp.t sp.leaves sp.path))) (k' := 52) (by kernel_rfl) (fun hc => ?_) (fun hc => ?_)
                    · try simp only [nrm] at hc
                      have hc19 := hc
                      refine J.run [.n, .n, .u, .u, .n] [10, 11] ⟨[(10, .v (.slice none 0 0)), (11, .v (.int .i64 8))], [⟨32, [.int .i64 bits]⟩, ⟨36, encT x⟩, ⟨9, [.string lo]⟩, ⟨9, [.string hi]⟩, ⟨54, [.int .i64 sp.t, .slice la ln lc, .slice pa pn pc]⟩]⟩ [.c 49, .c 53] [.c 51, .c 53] (by kernel_rfl) ?_
                      have hno : spanC bits x N lo hi sp = ([], 8) := by
                        rw [spanC_go ⟨by first | assumption | simp_all, by omega, by omega, by omega, by omega⟩ hall, if_pos]
                        unfold lateF earlyF; rw [hk0, hk1, hpl, ← hlen]; simp [hc3, hc4, hc5, hc6, hc8, hc17, hc18, hc19]
                      refine J.ret (v := .tuple #[.slice none 0 0, .int .i64 8]) (by kernel_rfl) (by kernel_rfl) (fun w1 A1 m1 hac l1 => by rw [hno]; exact ⟨none, 0, rfl, Nw.new (Nw.nil W.heap.size 42 4 [] A1 w1)⟩)
                    · try simp only [nrm] at hc
                      have hc19 := hc
                      refine J.run [.n, .n, .n, .u, .u] [121, 122] ⟨[(121, .v (.slice (some ⟨gq, 0, none⟩) ln y.c)), (122, .v ((.func (.func 60) #[] #[.pointer (some ⟨b3, 0, none⟩), .pointer (some ⟨b4, 0, none⟩)])))], [⟨32, [.int .i64 bits]⟩, ⟨36, encT x⟩, ⟨9, [.string lo]⟩, ⟨9, [.string hi]⟩, ⟨54, [.int .i64 sp.t, .slice la ln lc, .slice pa pn pc]⟩]⟩ [.c 52, .c 53] [.o 54 2, .c 55] (by kernel_rfl) ?_
                      obtain ⟨k1, k2, k3, k4⟩ := ho.own_blk gq ⟨_, rfl, rfl⟩
                      have hn7 : ¬ (b3 = gq) := fun h => k2 (by rw [← h]; simp); have hn8 : ¬ (b4 = gq) := fun h => k2 (by rw [← h]; simp)
                      refine J.callX (X := Eb (some ⟨gq, 0, none⟩)) (d := some 123) (fun k hk _ => let q := ho.own_blk k hk; ⟨.inl q.1, q.2.1, q.2.2.1⟩) (fun k hk => (ho.own_blk k hk).2.2.2) (by kernel_rfl) (fun w1 A1 m1 l1 => ret_mono (deleteFunc_calls _ [.pointer (some ⟨b3, 0, none⟩), .pointer (some ⟨b4, 0, none⟩)] _ (delB lo hi) (checkSpan1_func b3 b4 lo hi) gq ln y.c (parsL sp.leaves) (by omega) (fun k => k = gq) w1 (oneA (Nat.lt_of_lt_of_le k4 m1.size)) ((ho.mv m1).retake (Nat.zero_le _) (by simp) rfl) (spanPhi_at (l1.str 2 (T := 9) rfl hn7) (l1.str 3 (T := 9) rfl hn8))) (fun v w h => And.intro h.1 (h.2.retake (N := W.heap.size) (ρ := [b1, b2, b3, b4, b5]) (A := A1) k1 k2 (m1.up gq k4 k3 k2)))) ?_
                      rintro _ w1 w2 A2 ⟨rfl, hd⟩ g2
                      refine J.run [.u, .u, .n] [10, 11] ⟨[(10, .v (.slice (some ⟨gq, 0, none⟩) (((parsL sp.leaves).filter (keepB (delB lo hi))).length) y.c)), (11, .v (.int .i64 0))], [⟨32, [.int .i64 bits]⟩, ⟨36, encT x⟩, ⟨9, [.string lo]⟩, ⟨9, [.string hi]⟩, ⟨54, [.int .i64 sp.t, .slice la ln lc, .slice pa pn pc]⟩]⟩ [.o 54 3, .c 55] [.c 55] (by kernel_rfl) ?_
                      have hyes : spanC bits x N lo hi sp = ((parsL sp.leaves).filter (keepB (delB lo hi)), 0) := by
                        rw [spanC_go ⟨by first | assumption | simp_all, by omega, by omega, by omega, by omega⟩ hall, if_neg]
                        unfold lateF earlyF; rw [hk0, hk1, hpl, ← hlen]; simp [hc3, hc4, hc5, hc6, hc8, hc17, hc18, hc19]
                        intro h0; have h9 := hc17; rw [h0] at h9; simpa using h9
                      refine J.ret (v := .tuple #[.slice (some ⟨gq, 0, none⟩) (((parsL sp.leaves).filter (keepB (delB lo hi))).length) y.c, .int .i64 0]) (by kernel_rfl) (by kernel_rfl) (fun w1 A1 m1 hac l1 => by rw [hyes]; exact ⟨_, _, rfl, (hd.mv m1).new⟩)
end Go.Proofs.Ytkgokehkobifkaa.J

/- Plain laws: spans. -/
namespace Go.Proofs.Ytkgokehkobifkaa.J
open Go Go.RowKit

/-- A part's own digests are taken, and come to the root. -/
theorem rootO_own (bits : Int) (part : List (List UInt8)) (rest : List Dg) : ∀ (N : Nat) (sub : List (List UInt8)) (i : Int), sub.length < N → 1 ≤ sub.length →
    (∀ k m : Nat, k < part.length → ((m : Nat) : Int) = i + ((k : Nat) : Int) → m < sub.length → sub[m]? = part[k]?) → ∀ rest : List Dg,
    rootO bits part sub.length i (besideF bits sub i (i + ((part.length : Nat) : Int)) ++ rest) = (rootF bits sub, rest, false)
  | 0, _, _, h, _, _, _ => absurd h (Nat.not_lt_zero _)
  | N + 1, sub, i, h, hp, hm, rest => by
    by_cases ho : i + ((part.length : Nat) : Int) ≤ 0 ∨ ((sub.length : Nat) : Int) ≤ i
    · rw [besideF_out ho, List.singleton_append, rootO_out ho]
    · by_cases h1 : sub.length ≤ 1
      · rw [besideF_one ho h1, List.nil_append, rootO_one ho h1]
        have h2 := hm (-i).toNat 0 (by omega) (by omega) (by omega)
        have h3 : (-i).toNat < part.length := by omega
        rw [List.getElem?_eq_getElem h3] at h2
        rw [rootF_1 (by omega) h2]
        simp [h3]
      · have hh := half_lt (n := sub.length) (by omega)
        have ht : (sub.take (half sub.length)).length = half sub.length := by rw [List.length_take]; omega
        have hd : (sub.drop (half sub.length)).length = sub.length - half sub.length := List.length_drop
        rw [besideF_two ho (by omega), List.append_assoc, rootO_two ho (by omega)]
        have e1 := rootO_own bits part rest N (sub.take (half sub.length)) i (by omega) (by omega) (fun k m hk hmk hml => by
          rw [List.getElem?_take, if_pos (by omega)]; exact hm k m hk hmk (by omega)) (besideF bits (sub.drop (half sub.length)) (i - ((half sub.length : Nat) : Int)) (i + ((part.length : Nat) : Int) - ((half sub.length : Nat) : Int)) ++ rest)
        have e2 := rootO_own bits part rest N (sub.drop (half sub.length)) (i - ((half sub.length : Nat) : Int)) (by omega) (by omega) (fun k m hk hmk hml => by
          rw [List.getElem?_drop]; exact hm k (half sub.length + m) hk (by omega) (by omega)) rest
        rw [ht] at e1
        rw [hd, show i - ((half sub.length : Nat) : Int) + ((part.length : Nat) : Int) = i + ((part.length : Nat) : Int) - ((half sub.length : Nat) : Int) by omega] at e2
        rw [e1]
        simp only
        rw [e2, rootF_2 (ls := sub) (by omega)]
        rfl

/-- A part of the leaves, with what stands beside it, is taken. -/
theorem checkR_own (bits : Int) (ls : List (List UInt8)) (i j : Nat) (hij : i < j) (hj : j ≤ ls.length) : checkR bits (rootF bits ls) ls.length ((i : Nat) : Int) ((ls.take j).drop i) (besideF bits ls ((i : Nat) : Int) ((j : Nat) : Int)) = true := by
  have hl : ((ls.take j).drop i).length = j - i := by rw [List.length_drop, List.length_take]; omega
  have h := rootO_own bits ((ls.take j).drop i) [] _ ls ((i : Nat) : Int) (Nat.lt_succ_self _) (by omega) (fun k m hk hmk hml => by
    have : m = i + k := by omega
    subst this
    rw [List.getElem?_drop, List.getElem?_take, if_pos (by omega)]) []
  rw [List.append_nil, hl, show ((i : Nat) : Int) + ((j - i : Nat) : Int) = ((j : Nat) : Int) by omega] at h
  unfold checkR
  rw [h, hl]
  simp only [Bool.and_eq_true, decide_eq_true_eq, Bool.not_false, List.length_nil]
  refine ⟨⟨by omega, by omega, by omega, by omega⟩, ?_⟩
  simp [dgEq_iff]

theorem besideF_all (bits : Int) : ∀ (N : Nat) (ls : List (List UInt8)) (i j : Int), ls.length < N → 1 ≤ ls.length → i ≤ 0 → ((ls.length : Nat) : Int) ≤ j → besideF bits ls i j = []
  | 0, _, _, _, h, _, _, _ => absurd h (Nat.not_lt_zero _)
  | N + 1, ls, i, j, h, hp, hi, hj => by
    have ho : ¬ (j ≤ 0 ∨ ((ls.length : Nat) : Int) ≤ i) := by omega
    by_cases h1 : ls.length ≤ 1
    · exact besideF_one ho h1
    · have hh := half_lt (n := ls.length) (by omega)
      have ht : (ls.take (half ls.length)).length = half ls.length := by rw [List.length_take]; omega
      have hd : (ls.drop (half ls.length)).length = ls.length - half ls.length := List.length_drop
      rw [besideF_two ho (by omega), besideF_all bits N _ i j (by omega) (by omega) hi (by omega), besideF_all bits N _ _ _ (by omega) (by omega) (by omega) (by omega)]
      rfl

theorem parsL_own {l : List Ent} (h : ∀ e ∈ l, e.Right) : parsL (l.map entB) = l := by
  unfold parsL
  rw [List.map_map]
  have : ∀ e ∈ l, ((fun b => (pars b).1) ∘ entB) e = id e := fun e he => by simp [pars_own (h e he)]
  rw [List.map_congr_left this, List.map_id]
theorem whole_own {l : List Ent} (h : ∀ e ∈ l, e.Right) : (l.map entB).all wholeF = true := by
  rw [List.all_eq_true]
  intro b hb
  obtain ⟨e, he, rfl⟩ := List.mem_map.1 hb
  exact wholeF_own (h e he)

theorem slt_empty (a : Str) : slt a ⟨#[]⟩ = false := slt_nil a
theorem cntLt_empty (l : List Ent) : cntLt ⟨#[]⟩ l = 0 := by
  unfold cntLt
  rw [List.countP_eq_zero]
  intro e _
  rw [slt_nil]; decide
theorem belowF_empty (a : Str) : belowF a ⟨#[]⟩ = true := by unfold belowF; rw [seq_refl]; rfl

/-- All of a list, as a span. -/
theorem span_all {bits : Int} {l : List Ent} (h : FitL l) : spanF bits l ⟨#[]⟩ ⟨#[]⟩ = (⟨0, l.map entB, []⟩, 0) := by
  have h1 : outF l ⟨#[]⟩ ⟨#[]⟩ = false := by unfold outF; rw [slt_nil, belowF_empty, belowF_empty]; rfl
  have h2 : spFrom l ⟨#[]⟩ = 0 := by unfold spFrom; rw [cntLt_empty]
  have h3 : spTo l ⟨#[]⟩ = l.length := by unfold spTo spTo0; rw [if_pos (seq_refl _)]; omega
  unfold spanF
  have h0 := h.1
  rw [if_pos h, if_neg (by rw [h1]; decide), h2, h3]
  have h4 : (l.map entB).take l.length = l.map entB := List.take_of_length_le (by rw [List.length_map]; omega)
  rw [h4, List.drop_zero, besideF_all bits _ (l.map entB) _ _ (Nat.lt_succ_self _) (by rw [List.length_map]; omega) (by omega) (by rw [List.length_map]; omega)]
  rfl
theorem chk_all {bits level : Int} {l : List Ent} (h : FitL l) (h2 : 0 ≤ level) (h3 : level < 4) : spanC bits (descF bits level l).1 l.length ⟨#[]⟩ ⟨#[]⟩ ⟨0, l.map entB, []⟩ = (l, 0) := by
  obtain ⟨f1, f2, f3, f4⟩ := id h
  rw [descF_yes h h2 h3]
  have hp := parsL_own f4
  have hc := checkR_own bits (l.map entB) 0 l.length (by omega) (by rw [List.length_map]; omega)
  have h4 : (l.map entB).take l.length = l.map entB := List.take_of_length_le (by rw [List.length_map]; omega)
  rw [h4, List.drop_zero, besideF_all bits _ (l.map entB) _ _ (Nat.lt_succ_self _) (by rw [List.length_map]; omega) (by omega) (by rw [List.length_map]; omega), List.length_map] at hc
  have ho : overF ⟨level, ((l.length : Nat) : Int), rootF bits (l.map entB), firstK l, lastK l⟩ ⟨#[]⟩ ⟨#[]⟩ = true := by
    unfold overF; rw [belowF_empty, belowF_empty, slt_nil]; rfl
  rw [spanC_go ⟨ho, by simpa using f1, by simp, Int.le_refl _, by show (0 : Int) ≤ _; omega⟩ (whole_own f4)]
  simp only [hp]
  have hl : lateF l ⟨#[]⟩ 0 = false := by unfold lateF; simp
  have he : earlyF l ⟨#[]⟩ 0 l.length = false := by unfold earlyF; simp
  have hc' : checkR bits (rootF bits (l.map entB)) l.length 0 (l.map entB) [] = true := hc
  rw [hl, he, hc', decide_eq_true f3, if_neg (by decide)]
  have : l.filter (keepB (delB ⟨#[]⟩ ⟨#[]⟩)) = l := by
    rw [List.filter_eq_self]
    intro e _
    unfold keepB delB; rw [slt_nil, belowF_empty]; rfl
  rw [this]
end Go.Proofs.Ytkgokehkobifkaa.J

/- Equality of entries (and of other structs), as the machine asks it. -/
namespace Go.Proofs.Ytkgokehkobifkaa.J
open Go Go.RowKit

/-- One field's comparison. -/
def FldEq (P : Program) (d : Nat) (xs ys : Array Value) (s : Bool × TypeId × Nat) (r : Bool) : Prop :=
  s.1 = false ∧ ∃ a b, (∀ w, (part s.2.1 xs s.2.2).run P w = .ok a w) ∧ (∀ w, (part s.2.1 ys s.2.2).run P w = .ok b w) ∧ ∀ w, (Op.equalIn d s.2.1 a b).run P w = .ok r w

def fldS (f : Field) : Bool × TypeId × Nat := (f.name == "_", f.type, f.offset)

inductive All2 {α β : Type} (R : α → β → Prop) : List α → List β → Prop where
  | nil : All2 R [] []
  | cons {a : α} {b : β} {l : List α} {m : List β} : R a b → All2 R l m → All2 R (a :: l) (b :: m)

theorem run_eqFieldsL {P : Program} {d : Nat} {xs ys : Array Value} : ∀ (fs : List Field) (sp : List (Bool × TypeId × Nat)) (rs : List Bool), fs.map fldS = sp → All2 (FldEq P d xs ys) sp rs →
    ∀ w, (Op.eqFields d xs ys fs).run P w = .ok (rs.all id) w
  | [], _, _, h, hf, w => by
    subst h
    cases hf
    simp [Op.eqFields]
  | f :: fs, sp, rs, h, hf, w => by
    subst h
    rw [List.map_cons] at hf
    cases hf with
    | cons h1 h2 =>
      rename_i r rs'
      obtain ⟨hn, a, b, ha, hb, he⟩ := h1
      have hne : f.name ≠ "_" := by
        have : (f.name == "_") = false := hn
        simpa using this
      have ih := run_eqFieldsL fs _ rs' rfl h2 w
      have ha' := ha w; have hb' := hb w; have he' := he w
      simp only [fldS] at ha' hb' he'
      simp only [Op.eqFields, hne, ne_eq, not_false_eq_true, if_true, Sem.run_bind, ha', Result.andThen_ok, hb', he', Sem.run_ite]
      cases r with
      | true => simp [ih]
      | false => simp

theorem part_one {P : Program} {t : TypeId} (ha : aggOf P t = some false) (hs : sizeO P t = some 1) {xs : List Value} {off : Nat} {v : Value} (hv : xs[off]? = some v) (w : World) : (part t xs.toArray off).run P w = .ok v w := by
  simp [part, run_isAgg ha, hv]

theorem ent_eq (x y : Ent) (w : World) : (Op.equalIn 10000 42 (.agg (encE x).toArray) (.agg (encE y).toArray)).run Pr w = .ok (entEq x y) w := by
  rw [run_equalIn_struct w 9999 42 _ _ (by kernel_rfl) (by kernel_rfl)]
  have h := run_eqFieldsL (P := Pr) (d := 9998 + 1) (xs := (encE x).toArray) (ys := (encE y).toArray) (Pr.fieldsOf 42).toList [(false, 9, 0), (false, 9, 1), (false, 4, 2), (false, 3, 3)] [seq x.key y.key, seq x.value y.value, x.del == y.del, x.seq == y.seq] (by kernel_rfl)
    (.cons ⟨rfl, _, _, part_one (by kernel_rfl) (by kernel_rfl) rfl, part_one (by kernel_rfl) (by kernel_rfl) rfl, fun w => run_equalIn_string w 9998 9 _ _ (by kernel_rfl)⟩
    (.cons ⟨rfl, _, _, part_one (by kernel_rfl) (by kernel_rfl) rfl, part_one (by kernel_rfl) (by kernel_rfl) rfl, fun w => run_equalIn_string w 9998 9 _ _ (by kernel_rfl)⟩
    (.cons ⟨rfl, _, _, part_one (by kernel_rfl) (by kernel_rfl) rfl, part_one (by kernel_rfl) (by kernel_rfl) rfl, fun w => run_equalIn_bool w 9998 4 _ _ (by kernel_rfl)⟩
    (.cons ⟨rfl, _, _, part_one (by kernel_rfl) (by kernel_rfl) rfl, part_one (by kernel_rfl) (by kernel_rfl) rfl, fun w => run_equalIn_int w 9998 3 .i64 .i64 _ _ (by kernel_rfl)⟩ .nil)))) w
  rw [h]
  simp [entEq]
theorem ent_guard : Program.eqGuardType Pr Pr.depth 42 = false := by kernel_rfl
theorem entEq_refl (x : Ent) : entEq x x = true := entEq_iff.2 rfl
end Go.Proofs.Ytkgokehkobifkaa.J
