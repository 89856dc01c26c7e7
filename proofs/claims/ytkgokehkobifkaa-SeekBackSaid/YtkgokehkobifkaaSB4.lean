/- Part 4 of the texts that the proof of the row stands on: the calculus, contracts of the functions, plain laws; no condition of its own. -/
import Derived.Test.YtkgokehkobifkaaSB3
import Derived.Shelf.SlSortCmp.WholeK
set_option linter.unusedVariables false
set_option linter.unusedSimpArgs false
/- Calls that write into blocks of the walk's own; the length of a map. -/
namespace Go.Proofs.Ytkgokehkobifkaa.J
open Go Go.RowKit

theorem Sn.weaken {M M' : Nat → Prop} {W w : World} (h : Sn M W w) (hM : ∀ k, M k → M' k) : Sn M' W w := { h with same := fun k hk hn => h.same k hk (fun hh => hn (hM k hh)) }

/-- What is known behind a call that may have written into the walk's own blocks X. -/
structure CgX (X : Nat → Prop) (W : World) (ρ : List Nat) (A A1 : Nat → Prop) (w0 w1 w2 : World) : Prop where
  mv : Mv (fun k => Lb ρ k ∨ X k) A A1 w0 w2
  bd : ∀ k, A1 k → k < w1.heap.size
  le : w0.heap.size ≤ w1.heap.size
  big : W.heap.size ≤ w1.heap.size
  rho : ∀ k, k ∈ ρ → k < w1.heap.size

section
variable {P : Program} {B : Code} {Q : Exit → Act → World → Prop} {n : Nat} {W : World} {Ac M A : Nat → Prop} {s : SS} {ρ : List Nat} {w0 : World} {r t : List It} {k j : Nat}

/-- The invariant behind a call that has written into our own blocks X alone. -/
theorem Ok.afterX {X : Nat → Prop} {a : Act} {w w2 : World} (ok : Ok n W Ac M s ρ A w0 a w) (hX : ∀ k, X k → k < w0.heap.size → (W.heap.size ≤ k ∨ M k) ∧ k ∉ ρ ∧ A k) (hXw : ∀ k, X k → k < w0.heap.size) (h : Sn X w w2) :
    Ok n W Ac M s ρ (Av A ρ) w2 a w2 ∧ Mv (fun k => Lb ρ k ∨ X k) A (Av A ρ) w0 w2 := by
  constructor
  · exact {
      fits := ok.fits
      locs := ⟨ok.locs.len, ok.locs.nodup, fun i L hi => by
        have hm : ρ.getD i 0 ∈ ρ := by
          have : i < ρ.length := by rw [ok.locs.len]; exact (List.getElem?_eq_some_iff.1 hi).1
          simp [List.getD, List.getElem?_eq_getElem this]
        rw [h.same _ (ok.locs.lt hm) (fun hx => (hX _ hx (hXw _ hx)).2.1 hm)]
        exact ok.locs.row hi⟩
      sn := { os := h.os.trans ok.sn.os, tape := h.tape.trans ok.sn.tape, output := h.output.trans ok.sn.output, drawn := Nat.le_trans ok.sn.drawn h.drawn, size := Nat.le_trans ok.sn.size h.size
              same := fun k hk hM => by rw [h.same k (Nat.lt_of_lt_of_le hk ok.sn.size) (fun hx => (hX k hx (hXw k hx)).1.elim (fun h => by omega) hM)]; exact ok.sn.same k hk hM }
      size := Nat.le_refl _
      same := fun _ _ _ => rfl
      loc := fun _ hk _ => .inr hk
      bdd := fun k hk => Nat.lt_of_lt_of_le (hk.elim (fun x => Nat.lt_of_lt_of_le (ok.bdd k x) ok.size) ok.locs.lt) h.size
      fresh := ok.fresh
      sub := fun k hk => .inl (ok.sub k hk)
      big := Nat.le_trans ok.sn.size h.size
      acb := ok.acb }
  · exact {
      size := Nat.le_trans ok.size h.size
      same := fun k hk hn => by
        rw [h.same k (Nat.lt_of_lt_of_le hk ok.size) (fun hx => hn (.inr hx))]
        exact ok.same k hk (fun hl => hn (.inl hl))
      sub := fun k hk hl => hk.elim (fun hh => ok.loc k hh hl) (fun hx => (hX k hx hl).2.2)
      dn := ok.mv.dn
      up := fun k hk hh hn => ok.mv.up k hk hh (fun hl => hn (.inl hl))
      bdd := fun k hk => Nat.lt_of_lt_of_le (ok.mv.bdd k hk) h.size }

theorem J.callXG {X : Nat → Prop} {S : World → Prop} {it it' : It} (hcur : IsCur k j S it it') (hX : ∀ k, X k → k < w0.heap.size → (W.heap.size ≤ k ∨ M k) ∧ k ∉ ρ ∧ A k) (hXw : ∀ k, X k → k < w0.heap.size) (hcl : ∀ w w', S w → Sn X w w' → S w')
    {g : FuncId} {args : List Value} {d : Option Nat} {R : World → (Nat → Prop) → Value → World → Prop} (hc : callOf P B s.env ρ n k j = some (g, args, d))
    (h : ∀ w1 A1, Mv (Lb ρ) A A1 w0 w1 → Locs s.mem ρ w1 → Calls P g args.toArray w1 (Ret X w1 (R w1 A1)))
    (hk : ∀ v w1 w2 A1, R w1 A1 v w2 → CgX X W ρ A A1 w0 w1 w2 → J P B Q n W Ac M (it' :: r) ⟨putO s.env d (.v v), s.mem⟩ ρ A1 w2) :
    J P B Q n W Ac M (it :: r) s ρ A w0 := by
  obtain ⟨o, ho, hd, hdn, hrun⟩ := callOf_spec hc
  refine J.act hcur ho fun a w ok hS => ?_
  unfold Oper.wp
  rw [hrun a w ok.fits]
  simp only [Oper.upon]
  refine (h w _ ok.mv ok.locs).mono ?_
  rintro e w2 ⟨v, rfl, hR, hs⟩
  simp only
  obtain ⟨hok, hmv⟩ := ok.afterX hX hXw hs
  refine ⟨hcl _ _ hS hs, hk v w w2 _ hR ⟨hmv, ok.mv.bdd, ok.size, ok.sn.size, fun k hk => ok.locs.lt hk⟩ _ _ ?_⟩
  rw [hd]
  cases d with
  | none => exact hok
  | some d => exact hok.put (x := .v v) (hdn d rfl) (plain_grd rfl) rfl

theorem J.callX {X : Nat → Prop} (hX : ∀ k, X k → k < w0.heap.size → (W.heap.size ≤ k ∨ M k) ∧ k ∉ ρ ∧ A k) (hXw : ∀ k, X k → k < w0.heap.size)
    {g : FuncId} {args : List Value} {d : Option Nat} {R : World → (Nat → Prop) → Value → World → Prop} (hc : callOf P B s.env ρ n k j = some (g, args, d))
    (h : ∀ w1 A1, Mv (Lb ρ) A A1 w0 w1 → Locs s.mem ρ w1 → Calls P g args.toArray w1 (Ret X w1 (R w1 A1)))
    (hk : ∀ v w1 w2 A1, R w1 A1 v w2 → CgX X W ρ A A1 w0 w1 w2 → J P B Q n W Ac M (.o k (j + 1) :: r) ⟨putO s.env d (.v v), s.mem⟩ ρ A1 w2) :
    J P B Q n W Ac M (.o k j :: r) s ρ A w0 := J.callXG .text hX hXw (fun _ _ _ _ => trivial) hc h hk

theorem J.callXq {X Y : Nat → Prop} {done : List Nat} {ws : World} (hX : ∀ k, X k → k < w0.heap.size → (W.heap.size ≤ k ∨ M k) ∧ k ∉ ρ ∧ A k) (hXw : ∀ k, X k → k < w0.heap.size) (hXY : ∀ k, X k → k < ws.heap.size → Y k)
    {g : FuncId} {args : List Value} {d : Option Nat} {R : World → (Nat → Prop) → Value → World → Prop} (hc : callOf P B s.env ρ n k j = some (g, args, d))
    (h : ∀ w1 A1, Mv (Lb ρ) A A1 w0 w1 → Locs s.mem ρ w1 → Calls P g args.toArray w1 (Ret X w1 (R w1 A1)))
    (hk : ∀ v w1 w2 A1, R w1 A1 v w2 → CgX X W ρ A A1 w0 w1 w2 → J P B Q n W Ac M (.p k (j :: done) (Snap ws Y) :: r) ⟨putO s.env d (.v v), s.mem⟩ ρ A1 w2) :
    J P B Q n W Ac M (.q k done j (Snap ws Y) :: r) s ρ A w0 :=
  J.callXG (.drawn done _) hX hXw (fun w w' hs h => ⟨Nat.le_trans hs.size h.size, fun k hk hn => by
    rw [h.same k (Nat.lt_of_lt_of_le hk hs.size) (fun hx => hn (hXY k hx hk))]
    exact hs.same k hk hn⟩) hc h hk

/-- The walk's own slice: its block. -/
theorem Nw.own_blk {N : Nat} {e : TypeId} {kk : Nat} {ρ : List Nat} {A : Nat → Prop} {w : World} {a : Option Addr} {n c : Nat} {xs : List Value} (h : Nw N e kk ρ A w a n c xs) : ∀ k, Eb a k → N ≤ k ∧ k ∉ ρ ∧ A k ∧ k < w.heap.size := by
  obtain ⟨_, ⟨rfl, _⟩ | ⟨g, cur, rfl, h1, h2, h3, h4, _⟩⟩ := h
  · rintro k ⟨x, hx, _⟩; cases hx
  · rintro k ⟨x, hx, he⟩
    cases hx; subst he
    exact ⟨h1, h2, h3, (Array.getElem?_eq_some_iff.1 h4).1⟩

/-- How many entries a map has. -/
def lmOf (B : Code) (e : Env) (ρ : List Nat) (n k j : Nat) : Option (TypeId × Nat × Nat) :=
  match nowOp B e k j with
  | some o => match o.dst, o.op with
    | some d, .call ⟨.builtin .len, args, tys⟩ => bif Nat.blt d n then (match args.toList, tys.toList with
      | [x], [T] => match evv e ρ none x with
        | some (.map (some b)) => some (T, b, d)
        | _ => none
      | _, _ => none) else none
    | _, _ => none
  | none => none

theorem J.lenM {T kt et : TypeId} {b d : Nat} {ms : List Ent} (hx : lmOf B s.env ρ n k j = some (T, b, d)) (ht : P.underlying T = some (.map kt et)) (hm : MapAt W.heap.size ρ A w0 b ms)
    (h : J P B Q n W Ac M (.o k (j + 1) :: r) ⟨put s.env d (.v (.int .i64 ((ms.length : Nat) : Int))), s.mem⟩ ρ A w0) : J P B Q n W Ac M (.o k j :: r) s ρ A w0 := by
  unfold lmOf at hx
  split at hx
  · rename_i o ho
    split at hx
    · rename_i d' args tys hd hop
      obtain ⟨hdn, hx⟩ := bif_some hx
      split at hx
      · rename_i y T' ha hty
        split at hx
        · rename_i b' h1
          cases hx
          have e1 : args = #[y] := Array.toList_inj.1 ha
          have e2 : tys = #[T] := Array.toList_inj.1 hty
          subst e1; subst e2
          refine J.readG .text ho hd (blt_iff.1 hdn) (fun a w ok => ?_) h
          have hg := MapKept.run_getObj_map (P := P) (hm.mv ok.mv).2.2.2
          unfold execOp
          simp [hop, resolve, invoke, builtin, Builtin.len_, Sem.run_bind, Sem.run_pure, Result.andThen_ok, evv_den ok.fits (GOk.none _) h1, run_underlying ht, hg, mList_len, goInt]
        · cases hx
      · cases hx
    · cases hx
  · cases hx
end
end Go.Proofs.Ytkgokehkobifkaa.J

/- slices.SortFunc at entries: out of the library's contract. -/
namespace Go.Proofs.Ytkgokehkobifkaa.J
open Go Go.RowKit

instance : Inhabited Ent := ⟨ent0⟩

theorem flatK_at (l : List Ent) (j : Nat) (hj : j < l.length * 4) : (l.flatMap encE)[j]? = some (Sort.flatK encE 4 l.toArray)[j]! := by
  have hi : j / 4 < l.length := by omega
  have h := flat_at (k := 4) (enc := encE) (l := l) (fun x _ => rfl) (j / 4) l[j / 4] (List.getElem?_eq_getElem hi) (j % 4) ((encE l[j / 4])[j % 4]'(by show j % 4 < 4; omega)) (List.getElem?_eq_getElem _)
  rw [show j / 4 * 4 + j % 4 = j by omega] at h
  rw [h, Sort.get_flatK _ _ _ _ (by simpa using hj)]
  congr 1
  rw [getElem!_pos l.toArray (j / 4) (by simpa using hi)]
  simp only [List.getElem_toArray]
  rw [getElem!_pos _ _ (by show j % 4 < 4; omega)]

theorem flatK_list (l : List Ent) : (Sort.flatK encE 4 l.toArray).toList = l.flatMap encE := by
  apply List.ext_getElem?
  intro j
  by_cases hj : j < l.length * 4
  · rw [flatK_at l j hj]
    have hs : j < (Sort.flatK encE 4 l.toArray).size := by simpa using hj
    rw [Array.getElem?_toList, Array.getElem?_eq_getElem hs, getElem!_pos _ j hs]
  · rw [List.getElem?_eq_none (by simp; omega), List.getElem?_eq_none (by rw [flat_len (k := 4) (fun _ _ => rfl)]; omega)]

theorem holds_of_row {W : World} {g : Nat} {cur : Array Value} {e : TypeId} {l : List Ent} (h : W.heap[g]? = some (.cells cur e (0, 0))) (ht : cur.toList.take (l.length * 4) = l.flatMap encE) :
    Sort.HoldsK encE 4 W g 0 l.toArray := by
  intro j hj
  have hj' : j < l.length * 4 := by simpa using hj
  have h1 := flatK_at l j hj'
  rw [← ht, List.getElem?_take, if_pos hj'] at h1
  constructor
  · show W.cell? _ = _
    simp only [World.cell?, h, Nat.zero_add, id]
    simpa using h1
  · simp [World.frozen?, h]

/-- What the sort's world holds. -/
theorem sortW {W : World} {g : Nat} {cur : Array Value} {e : TypeId} {l : List Ent} {c : Nat} (h : W.heap[g]? = some (.cells cur e (0, 0))) (hc : cur.size = c * 4) (hl : l.length ≤ c) (m : Nat) (os : Array Obj) :
    Sn (fun k => k = g) W (sortWorldK encE 4 W g 0 m l.toArray os) ∧ ∃ cur', (sortWorldK encE 4 W g 0 m l.toArray os).heap[g]? = some (.cells cur' e (0, 0)) ∧ cur'.size = c * 4 ∧ cur'.toList.take (l.length * 4) = l.flatMap encE := by
  have hlt : g < W.heap.size := (Array.getElem?_eq_some_iff.1 h).1
  have hh : ∀ k, k < W.heap.size → (sortWorldK encE 4 W g 0 m l.toArray os).heap[k]? = (W.heap.modify g (Sort.onCells (Sort.putCells id 0 (Sort.flatK encE 4 l.toArray))))[k]? := fun k hk => by
    show ((W.heap.modify g (Sort.onCells (Sort.putCells id 0 (Sort.flatK encE 4 l.toArray)))) ++ os)[k]? = _
    rw [Array.getElem?_append_left (by simpa using hk)]
  refine ⟨{ os := rfl, tape := rfl, output := rfl, drawn := Nat.le_add_right _ _, size := ?_, same := fun k hk hn => ?_ }, Sort.putCells id 0 (Sort.flatK encE 4 l.toArray) cur, ?_, ?_, ?_⟩
  · show _ ≤ ((W.heap.modify g _) ++ os).size
    simp
  · rw [hh k hk, Array.getElem?_modify, if_neg (fun e => hn e.symm)]
  · rw [hh g hlt, Array.getElem?_modify, if_pos rfl, h]
    rfl
  · simp [Sort.putCells, hc]
  · rw [← flatK_list]
    apply List.ext_getElem?
    intro j
    rw [List.getElem?_take]
    by_cases hj : j < l.length * 4
    · have hs : j < (Sort.flatK encE 4 l.toArray).size := by simpa using hj
      have hcj : j < cur.size := by rw [hc]; omega
      rw [if_pos hj, Array.getElem?_toList, Array.getElem?_toList, Sort.putCells, Array.getElem?_mapIdx, Array.getElem?_eq_getElem hcj, Option.map_some, if_pos ⟨Nat.zero_le _, by omega⟩, Array.getElem?_eq_getElem hs, Nat.sub_zero, getElem!_pos _ j hs]
      rfl
    · rw [if_neg hj, List.getElem?_eq_none (by simp; omega)]

theorem lt_ent (x y : Ent) : Go.Proofs.ltOf (fun x y : Ent => cmpS x.key y.key) x y = slt x.key y.key := by
  unfold Go.Proofs.ltOf
  rw [Bool.eq_iff_iff, decide_eq_true_iff, cmpS_lt]

theorem swo_ent : Sort.SWO (Go.Proofs.ltOf (fun x y : Ent => cmpS x.key y.key)) where
  irrefl x := by rw [lt_ent, slt_irrefl]
  trans x y z h1 h2 := by rw [lt_ent] at *; exact slt_trans h1 h2
  ntrans x y z h1 h2 := by
    rw [lt_ent] at *
    cases h : slt x.key z.key with
    | false => rfl
    | true =>
      rcases slt_tri x.key y.key with h3 | h3 | h3
      · rw [h3] at h1; cases h1
      · rw [h3] at h; rw [h] at h2; cases h2
      · rw [slt_trans h3 h] at h2; cases h2

/-- Not falling keys. -/
def UpL (l : List Ent) : Prop := ∀ (i j : Nat) (x y : Ent), i < j → l[i]? = some x → l[j]? = some y → slt y.key x.key = false

theorem perm_of_in {d d' : Array Ent} (h : Sort.PermIn 0 d.size d d') : d'.toList.Perm d.toList := by
  obtain ⟨h1, _, h2⟩ := h
  rw [Array.extract_eq_self_of_le (by omega), Array.extract_eq_self_of_le (by omega)] at h2
  exact h2

theorem up_of_in {d : Array Ent} (h : Sort.SortedIn (Go.Proofs.ltOf (fun x y : Ent => cmpS x.key y.key)) 0 d.size d) : UpL d.toList := by
  intro i j x y hij hx hy
  rw [Array.getElem?_toList] at hx hy
  obtain ⟨hi, rfl⟩ := Array.getElem?_eq_some_iff.1 hx
  obtain ⟨hj, rfl⟩ := Array.getElem?_eq_some_iff.1 hy
  have := h i j (Nat.zero_le _) hij hj
  rw [lt_ent, getElem!_pos d j hj, getElem!_pos d i hi] at this
  exact this

/-- Behind a call that has only made new blocks: the world has grown, the tape has been asked. -/
theorem Sn.grown {W w : World} (h : Sn nobody W w) : ∃ q os, w = Sort.grow (W.drewN q) os := by
  refine ⟨w.drawn - W.drawn, w.heap.extract W.heap.size w.heap.size, ?_⟩
  have h1 := h.os; have h2 := h.tape; have h3 := h.output; have h4 := h.drawn; have h5 := h.size; have h6 := h.same
  obtain ⟨hp, tp, dr, os, out⟩ := w
  obtain ⟨hp', tp', dr', os', out'⟩ := W
  simp only at h1 h2 h3 h4 h5 h6
  subst h1; subst h2; subst h3
  simp only [Sort.grow, World.drewN, World.mk.injEq, and_true, true_and]
  refine ⟨?_, by omega⟩
  apply Array.ext_getElem?
  intro i
  by_cases hi : i < hp'.size
  · rw [Array.getElem?_append_left hi]; exact h6 i hi (fun h => h)
  · rw [Array.getElem?_append_right (by omega), Array.getElem?_extract]
    by_cases h7 : i < hp.size
    · rw [if_pos (by omega)]
      congr 1; omega
    · rw [if_neg (by omega), Array.getElem?_eq_none (by omega)]

theorem cmp_lays (blk off size : Nat) (w : World) : CmpLays Pr 78 #[] encE 4 (fun x y : Ent => cmpS x.key y.key) blk off size w := by
  intro m os dk _ x y
  refine (byKey_calls x y nobody _ noA).mono ?_
  rintro e w' ⟨v, rfl, rfl, hs⟩
  exact ⟨rfl, hs.grown⟩

/-- What of ours turns when a slice is sorted in place. -/
theorem Nw.sorted {N N' : Nat} {e : TypeId} {kk : Nat} {ρ ρ' : List Nat} {A A' : Nat → Prop} {w w' : World} {g n c : Nat} {xs ys : List Value} {cur' : Array Value} (h : Nw N e kk ρ A w (some ⟨g, 0, none⟩) n c xs) (hrow : w'.heap[g]? = some (.cells cur' e (0, 0))) (hs : cur'.size = c * kk) (ht : cur'.toList.take (n * kk) = ys) (hl : ys.length = n * kk)
    (hN : N' ≤ g) (hρ : g ∉ ρ') (hA : A' g) : Nw N' e kk ρ' A' w' (some ⟨g, 0, none⟩) n c ys := by
  obtain ⟨h1, ⟨h2, _⟩ | ⟨g', cur, h2, h3, h4, h5, h6, h7, h8, h9, h10⟩⟩ := h
  · cases h2
  · cases h2
    exact ⟨hl, .inr ⟨g, cur', rfl, hN, hρ, hA, hrow, h7, h8, hs, ht⟩⟩
end Go.Proofs.Ytkgokehkobifkaa.J

/- Where slices.SortFunc at entries lies in this program: written by a program (laysort.py). -/
namespace Go.Proofs.Ytkgokehkobifkaa.J
open Go Go.RowKit Go.Shelf
def sortEnt_ren : Go.Shelf.Ren := ⟨fun | 6 => 77 | 15 => 100 | 14 => 99 | 28 => 123 | 29 => 124 | 20 => 115 | 21 => 116 | 22 => 117 | 23 => 118 | 24 => 119 | 25 => 120 | 26 => 121 | 27 => 122 | 46 => 129 | 47 => 130 | 48 => 131 | 49 => 132 | 50 => 133 | 57 => 135 | n => n, fun | 22 => 22 | 24 => 42 | 25 => 123 | 3 => 3 | 39 => 137 | 0 => 0 | 53 => 108 | 55 => 106 | 4 => 4 | 46 => 165 | 45 => 164 | 50 => 45 | 5 => 5 | 9 => 9 | 66 => 179 | 70 => 182 | 76 => 185 | 77 => 186 | n => n, fun | n => n⟩
theorem sortEnt : Go.Proofs.SlLaysF0.n6 Try.prog sortEnt_ren := {
  mixed := by kernel_rfl
  f6 := ⟨Try.f77.name, by decide, Try.func77.trans (congrArg some (by kernel_rfl))⟩
  f14 := ⟨Try.f99.name, by decide, Try.func99.trans (congrArg some (by kernel_rfl))⟩
  f15 := Try.func100.trans (congrArg some (by kernel_rfl))
  f20 := ⟨Try.f115.name, by decide, Try.func115.trans (congrArg some (by kernel_rfl))⟩
  f21 := ⟨Try.f116.name, by decide, Try.func116.trans (congrArg some (by kernel_rfl))⟩
  f22 := ⟨Try.f117.name, by decide, Try.func117.trans (congrArg some (by kernel_rfl))⟩
  f23 := ⟨Try.f118.name, by decide, Try.func118.trans (congrArg some (by kernel_rfl))⟩
  f24 := ⟨Try.f119.name, by decide, Try.func119.trans (congrArg some (by kernel_rfl))⟩
  f25 := ⟨Try.f120.name, by decide, Try.func120.trans (congrArg some (by kernel_rfl))⟩
  f26 := ⟨Try.f121.name, by decide, Try.func121.trans (congrArg some (by kernel_rfl))⟩
  f27 := ⟨Try.f122.name, by decide, Try.func122.trans (congrArg some (by kernel_rfl))⟩
  f28 := Try.func123.trans (congrArg some (by kernel_rfl))
  f29 := Try.func124.trans (congrArg some (by kernel_rfl))
  f46 := ⟨Try.f129.name, by decide, Try.func129.trans (congrArg some (by kernel_rfl))⟩
  f47 := Try.func130.trans (congrArg some (by kernel_rfl))
  f48 := Try.func131.trans (congrArg some (by kernel_rfl))
  f49 := ⟨Try.f132.name, by decide, Try.func132.trans (congrArg some (by kernel_rfl))⟩
  f50 := ⟨Try.f133.name, by decide, Try.func133.trans (congrArg some (by kernel_rfl))⟩
  f57 := ⟨Try.f135.name, by decide, Try.func135.trans (congrArg some (by kernel_rfl))⟩
  t0 := Try.underlying0
  a0 := Try.isAgg0
  z0 := Try.sizeOf0
  v0 := Try.zeroValue0
  t3 := Try.underlying3
  a3 := Try.isAgg3
  z3 := Try.sizeOf3
  v3 := Try.zeroValue3
  t4 := Try.underlying4
  a4 := Try.isAgg4
  z4 := Try.sizeOf4
  v4 := Try.zeroValue4
  t5 := Try.underlying5
  a5 := Try.isAgg5
  z5 := Try.sizeOf5
  v5 := Try.zeroValue5
  t9 := Try.underlying9
  a9 := Try.isAgg9
  z9 := Try.sizeOf9
  v9 := Try.zeroValue9
  t22 := Try.underlying22
  a22 := Try.isAgg22
  z22 := Try.sizeOf22
  v22 := Try.zeroValue22
  t25 := Try.underlying123
  a25 := Try.isAgg123
  z25 := Try.sizeOf123
  v25 := Try.zeroValue123
  t39 := Try.underlying137
  a39 := Try.isAgg137
  z39 := Try.sizeOf137
  v39 := Try.zeroValue137
  t45 := Try.underlying164
  a45 := Try.isAgg164
  z45 := Try.sizeOf164
  v45 := Try.zeroValue164
  t46 := Try.underlying165
  a46 := Try.isAgg165
  z46 := Try.sizeOf165
  v46 := Try.zeroValue165
  t50 := Try.underlying45
  a50 := Try.isAgg45
  z50 := Try.sizeOf45
  v50 := Try.zeroValue45
  t53 := Try.underlying108
  a53 := Try.isAgg108
  z53 := Try.sizeOf108
  v53 := Try.zeroValue108
  t55 := Try.underlying106
  a55 := Try.isAgg106
  z55 := Try.sizeOf106
  v55 := Try.zeroValue106
  t66 := Try.underlying179
  a66 := Try.isAgg179
  z66 := Try.sizeOf179
  v66 := Try.zeroValue179
  t70 := Try.underlying182
  a70 := Try.isAgg182
  z70 := Try.sizeOf182
  v70 := Try.zeroValue182
  t76 := Try.underlying185
  a76 := Try.isAgg185
  z76 := Try.sizeOf185
  v76 := Try.zeroValue185
  t77 := Try.underlying186
  a77 := Try.isAgg186
  z77 := Try.sizeOf186
  v77 := Try.zeroValue186 }
end Go.Proofs.Ytkgokehkobifkaa.J

/- slices.SortFunc over entries, by byKey. -/
namespace Go.Proofs.Ytkgokehkobifkaa.J
open Go Go.RowKit

theorem byKey_enters : ∀ args w, (callFunc 78 args).run Pr w = .ok (.enter 78 args) w :=
  enters_of Try.func78 (by kernel_rfl) rfl

theorem sort_calls (g n c : Nat) (l : List Ent) (hm : n ≤ 1000000) (N : Nat) (ρ : List Nat) (A : Nat → Prop) (W : World) (h : Nw N 42 4 ρ A W (some ⟨g, 0, none⟩) n c (l.flatMap encE)) :
    Calls Pr 77 #[.slice (some ⟨g, 0, none⟩) n c, .func (.func 78) #[] #[]] W
      (Ret (Eb (some ⟨g, 0, none⟩)) W fun v w => v = .tuple #[] ∧ ∃ l', l'.Perm l ∧ UpL l' ∧ Nw N 42 4 ρ A w (some ⟨g, 0, none⟩) n c (l'.flatMap encE)) := by
  have hN := h
  obtain ⟨h1, ⟨h2, _⟩ | ⟨g', cur, h2, h3, h4, h5, h6, h7, h8, h9, h10⟩⟩ := h
  · cases h2
  · cases h2
    have hn : n = l.length := flat_n h1 (fun _ _ => rfl) (by decide)
    subst hn
    have hlt : g < W.heap.size := (Array.getElem?_eq_some_iff.1 h6).1
    have hcon := AnyQ.slices_SortFunc (P := Pr) sortEnt 4 Try.isAgg42 Try.sizeOf42 encE (fun _ => rfl) (fun x v hv => encE_one x v hv) (fun x y : Ent => cmpS x.key y.key) swo_ent 78 #[] g 0 c l.toArray W byKey_enters (cmp_lays g 0 l.toArray.size W) (holds_of_row h6 h10) hlt (by simp only [List.size_toArray]; omega)
    refine Calls.mono hcon ?_
    rintro e w ⟨rfl, d', m, os, hp, hs, rfl⟩
    have hp' := perm_of_in hp
    have hsz : d'.size = l.length := by rw [hp.1]; simp
    have hs' := up_of_in (d := d') (by rw [show l.toArray.size = d'.size by rw [hsz]; simp] at hs; exact hs)
    obtain ⟨hsn, cur', hr, hc, ht⟩ := sortW (l := d'.toList) h6 h9 (by rw [Array.length_toList, hsz]; exact h7) m os
    rw [Array.length_toList, hsz] at ht
    simp only [Array.toArray_toList] at hsn hr
    refine ⟨_, rfl, ⟨rfl, d'.toList, by simpa using hp', hs', ?_⟩, hsn.weaken (fun k e => ⟨_, rfl, e.symm⟩)⟩
    exact Nw.sorted hN hr hc ht (by rw [flat_len (k := 4) (fun _ _ => rfl), Array.length_toList, hsz]) h3 h4 h5
end Go.Proofs.Ytkgokehkobifkaa.J

/- Package entry: Fold. -/
namespace Go.Proofs.Ytkgokehkobifkaa.J
open Go Go.RowKit

theorem posOf_some {q : Str} {ms : List Ent} {j : Nat} (h : posOf q ms = some j) : ∃ y, ms[j]? = some y ∧ y.key = q := by
  obtain ⟨h1, h2, _⟩ := List.findIdx?_eq_some_iff_getElem.1 h
  exact ⟨ms[j], List.getElem?_eq_getElem h1, seq_iff.1 h2⟩
theorem posOf_none {q : Str} {ms : List Ent} (h : posOf q ms = none) : ∀ y ∈ ms, y.key ≠ q := by
  intro y hy e
  unfold posOf at h
  rw [List.findIdx?_eq_none_iff] at h
  have := h y hy
  rw [e, seq_refl] at this; cases this

/-- What Fold's first loop makes of the entries so far and one more. -/
def newer (ms : List Ent) (e : Ent) : List Ent := match posOf e.key ms with
  | none => putM ms e
  | some j => match ms[j]? with
    | some y => if y.seq ≤ e.seq then putM ms e else ms
    | none => ms
def newF (l : List Ent) : List Ent := l.foldl newer []
theorem newF_snoc (l : List Ent) (e : Ent) : newF (l ++ [e]) = newer (newF l) e := by simp [newF]
theorem newF_next {l : List Ent} {i : Nat} {x : Ent} (h : l[i]? = some x) : newF (l.take (i + 1)) = newer (newF (l.take i)) x := by
  rw [take_snoc h, newF_snoc]
theorem newer_none {ms : List Ent} {e : Ent} (h : posOf e.key ms = none) : newer ms e = putM ms e := by simp [newer, h]
theorem newer_yes {ms : List Ent} {e y : Ent} {j : Nat} (h : posOf e.key ms = some j) (hy : ms[j]? = some y) (hs : y.seq ≤ e.seq) : newer ms e = putM ms e := by simp [newer, h, hy, hs]
theorem newer_no {ms : List Ent} {e y : Ent} {j : Nat} (h : posOf e.key ms = some j) (hy : ms[j]? = some y) (hs : ¬ y.seq ≤ e.seq) : newer ms e = ms := by simp [newer, h, hy, hs]
theorem putM_len (ms : List Ent) (e : Ent) : (putM ms e).length ≤ ms.length + 1 := by
  unfold putM
  split <;> simp
theorem newer_len (ms : List Ent) (e : Ent) : (newer ms e).length ≤ ms.length + 1 := by
  unfold newer
  have := putM_len ms e
  split
  · exact this
  · split
    · split
      · exact this
      · omega
    · omega
theorem foldl_newer_len : ∀ (l ms : List Ent), (l.foldl newer ms).length ≤ ms.length + l.length
  | [], ms => Nat.le_refl _
  | e :: r, ms => by
    have h1 := foldl_newer_len r (newer ms e)
    have h2 := newer_len ms e
    simp only [List.foldl_cons, List.length_cons]; omega
theorem newF_len (l : List Ent) : (newF l).length ≤ l.length := by simpa [newF] using foldl_newer_len l []

/-! ## the sorted list -/
def insE (e : Ent) : List Ent → List Ent
  | [] => [e]
  | x :: r => if slt x.key e.key = true then x :: insE e r else e :: x :: r
def sortE : List Ent → List Ent
  | [] => []
  | e :: r => insE e (sortE r)
theorem insE_perm (e : Ent) : ∀ l : List Ent, (insE e l).Perm (e :: l)
  | [] => List.Perm.refl _
  | x :: r => by
    unfold insE
    split
    · exact (List.Perm.cons x (insE_perm e r)).trans (List.Perm.swap e x r)
    · exact List.Perm.refl _
theorem sortE_perm : ∀ l : List Ent, (sortE l).Perm l
  | [] => List.Perm.refl _
  | e :: r => (insE_perm e (sortE r)).trans (List.Perm.cons e (sortE_perm r))

/-- Each key once. -/
def Keys1 (l : List Ent) : Prop := (l.map (·.key)).Nodup
theorem SortedL.rel : ∀ {l : List Ent}, SortedL l → l.Pairwise fun a b => slt a.key b.key = true
  | [], _ => List.Pairwise.nil
  | [x], _ => List.pairwise_singleton _ _
  | x :: y :: r, h => by
    have ih := SortedL.rel h.2
    refine List.Pairwise.cons ?_ ih
    intro z hz
    rcases List.mem_cons.1 hz with rfl | hz
    · exact h.1
    · exact slt_trans h.1 ((List.pairwise_cons.1 ih).1 z hz)
theorem SortedL.of_rel : ∀ {l : List Ent}, (l.Pairwise fun a b => slt a.key b.key = true) → SortedL l
  | [], _ => trivial
  | [_], _ => trivial
  | x :: y :: r, h => ⟨(List.pairwise_cons.1 h).1 y List.mem_cons_self, SortedL.of_rel (List.pairwise_cons.1 h).2⟩
theorem SortedL.tail {x : Ent} {l : List Ent} (h : SortedL (x :: l)) : SortedL l := SortedL.of_rel (List.pairwise_cons.1 h.rel).2
theorem sorted_perm : ∀ {a b : List Ent}, SortedL a → SortedL b → a.Perm b → a = b
  | [], b, _, _, h => h.symm.eq_nil.symm
  | x :: r, [], _, _, h => by have := h.length_eq; simp at this
  | x :: r, y :: t, ha, hb, h => by
    have pa := List.pairwise_cons.1 ha.rel
    have pb := List.pairwise_cons.1 hb.rel
    have hxy : x = y := by
      have hx : x ∈ y :: t := h.mem_iff.1 List.mem_cons_self
      have hy : y ∈ x :: r := h.mem_iff.2 List.mem_cons_self
      rcases List.mem_cons.1 hx with e | hx
      · exact e
      · rcases List.mem_cons.1 hy with e | hy
        · exact e.symm
        · have h1 := pa.1 y hy
          have h2 := pb.1 x hx
          rw [slt_asymm h1] at h2; cases h2
    subst hxy
    rw [sorted_perm (a := r) (b := t) ha.tail hb.tail (h.cons_inv)]

theorem up_sorted {l : List Ent} (hk : Keys1 l) (hu : UpL l) : SortedL l := by
  rw [sorted_iff]
  intro i a b ha hb
  have h1 := hu i (i + 1) a b (by omega) ha hb
  rcases slt_tri a.key b.key with h | h | h
  · exact h
  · have hl := (List.getElem?_eq_some_iff.1 hb).1
    have := (List.pairwise_iff_getElem.1 (List.nodup_iff_pairwise_ne.1 hk)) i (i + 1) (by simp; omega) (by simpa using hl) (by omega)
    rw [List.getElem_map, List.getElem_map] at this
    obtain ⟨_, rfl⟩ := List.getElem?_eq_some_iff.1 ha
    obtain ⟨_, rfl⟩ := List.getElem?_eq_some_iff.1 hb
    exact absurd h this
  · rw [h] at h1; cases h1
theorem insE_sorted (e : Ent) : ∀ {l : List Ent}, SortedL l → (∀ x ∈ l, x.key ≠ e.key) → SortedL (insE e l)
  | [], _, _ => trivial
  | x :: r, h, hk => by
    unfold insE
    split
    · rename_i hx
      have ih := insE_sorted e h.tail (fun y hy => hk y (List.mem_cons_of_mem _ hy))
      refine SortedL.of_rel (List.Pairwise.cons ?_ ih.rel)
      intro z hz
      rcases List.mem_cons.1 ((insE_perm e r).mem_iff.1 hz) with rfl | hz
      · exact hx
      · exact (List.pairwise_cons.1 h.rel).1 z hz
    · rename_i hx
      refine ⟨?_, h⟩
      rcases slt_tri x.key e.key with h1 | h1 | h1
      · exact absurd h1 hx
      · exact absurd h1 (hk x List.mem_cons_self)
      · exact h1
theorem sortE_sorted : ∀ {l : List Ent}, Keys1 l → SortedL (sortE l)
  | [], _ => trivial
  | e :: r, h => by
    have h' := List.nodup_cons.1 (show (e.key :: r.map (·.key)).Nodup from h)
    refine insE_sorted e (sortE_sorted h'.2) fun x hx he => ?_
    exact h'.1 (he ▸ List.mem_map.2 ⟨x, (sortE_perm r).mem_iff.1 hx, rfl⟩)

theorem putM_keys {ms : List Ent} {e : Ent} (h : Keys1 ms) : Keys1 (putM ms e) := by
  unfold putM
  split
  · rename_i j hj
    obtain ⟨y, hy, hk⟩ := posOf_some hj
    have : (ms.set j e).map (·.key) = ms.map (·.key) := by
      rw [List.map_set]
      apply List.ext_getElem?
      intro i
      by_cases hi : j = i
      · subst hi
        have hl := (List.getElem?_eq_some_iff.1 hy).1
        rw [List.getElem?_set_self (by simpa using hl), List.getElem?_map, hy]
        simp [hk]
      · rw [List.getElem?_set_ne hi]
    unfold Keys1
    rw [this]; exact h
  · rename_i hn
    have := posOf_none hn
    unfold Keys1
    rw [List.map_append, List.nodup_append]
    refine ⟨h, by simp, ?_⟩
    intro a ha b hb e'
    simp at hb
    obtain ⟨y, hy, rfl⟩ := List.mem_map.1 ha
    exact this y hy (e'.trans hb)
theorem newer_keys {ms : List Ent} {e : Ent} (h : Keys1 ms) : Keys1 (newer ms e) := by
  unfold newer
  split
  · exact putM_keys h
  · split
    · split
      · exact putM_keys h
      · exact h
    · exact h
theorem foldl_newer_keys : ∀ (l ms : List Ent), Keys1 ms → Keys1 (l.foldl newer ms)
  | [], _, h => h
  | _ :: r, _, h => foldl_newer_keys r _ (newer_keys h)
theorem newF_keys (l : List Ent) : Keys1 (newF l) := foldl_newer_keys l [] List.nodup_nil

/-- What Fold answers. -/
def foldF (l : List Ent) : List Ent := sortE (newF l)
theorem foldF_sorted (l : List Ent) : SortedL (foldF l) := sortE_sorted (newF_keys l)
theorem foldF_perm (l : List Ent) : (foldF l).Perm (newF l) := sortE_perm _
theorem foldF_len (l : List Ent) : (foldF l).length ≤ l.length := by
  rw [(foldF_perm l).length_eq]; exact newF_len l
theorem foldF_eq {l o s : List Ent} (h1 : o.Perm (newF l)) (h2 : s.Perm o) (h3 : UpL s) : s = foldF l := by
  have hp := h2.trans h1
  have hk : Keys1 s := by
    have := newF_keys l
    unfold Keys1 at *
    exact (hp.map (·.key)).nodup_iff.2 this
  exact sorted_perm (up_sorted hk h3) (foldF_sorted l) (hp.trans (foldF_perm l).symm)

/-! ## what the iterator has not handed out -/
def unseen (n : Nat) (seen : List Nat) : List Nat := (List.range n).filter fun j => !seen.contains j
theorem filter_one : ∀ {r seen : List Nat} {j : Nat}, r.Nodup → j ∈ r → j ∉ seen → (r.filter fun i => !seen.contains i).Perm (j :: r.filter fun i => !(seen ++ [j]).contains i)
  | x :: r, seen, j, hn, hj, hs => by
    have hn' := List.nodup_cons.1 hn
    by_cases hx : x = j
    · subst hx
      have e1 : (!seen.contains x) = true := by simp [hs]
      have e2 : (!(seen ++ [x]).contains x) = false := by simp
      rw [List.filter_cons, if_pos e1, List.filter_cons, if_neg (by rw [e2]; decide)]
      refine List.Perm.cons x ?_
      have : (r.filter fun i => !seen.contains i) = r.filter fun i => !(seen ++ [x]).contains i := by
        apply List.filter_congr
        intro y hy
        have hne : y ≠ x := fun e => hn'.1 (e ▸ hy)
        simp [hne]
      rw [this]
    · have hj' : j ∈ r := (List.mem_cons.1 hj).resolve_left (fun e => hx e.symm)
      have ih := filter_one hn'.2 hj' hs
      have e3 : (!(seen ++ [j]).contains x) = !seen.contains x := by simp [hx]
      rw [List.filter_cons, List.filter_cons, e3]
      split
      · exact (List.Perm.cons x ih).trans (List.Perm.swap j x _)
      · exact ih
theorem unseen_step {n : Nat} {seen : List Nat} {j : Nat} (hj : j < n) (hs : j ∉ seen) : (unseen n seen).Perm (j :: unseen n (seen ++ [j])) :=
  filter_one List.nodup_range (List.mem_range.2 hj) hs
theorem unseen_nil {n : Nat} {seen : List Nat} (h : ∀ j, j < n → j ∈ seen) : unseen n seen = [] := by
  unfold unseen
  rw [List.filter_eq_nil_iff]
  intro j hj
  have := h j (List.mem_range.1 hj)
  simp [this]
def restM (ms : List Ent) (seen : List Nat) : List Ent := (unseen ms.length seen).map fun j => ms.getD j ent0
theorem rest_start (ms : List Ent) : restM ms [] = ms := by
  unfold restM unseen
  apply List.ext_getElem?
  intro i
  rw [List.filter_eq_self.2 (by simp), List.getElem?_map]
  by_cases hi : i < ms.length
  · rw [List.getElem?_range hi]; simp [hi]
  · rw [List.getElem?_eq_none (by simpa using hi), List.getElem?_eq_none (by simpa using hi)]; rfl
theorem rest_step {ms outs : List Ent} {seen : List Nat} {j : Nat} {e : Ent} (hp : (outs ++ restM ms seen).Perm ms) (hj : ms[j]? = some e) (hs : j ∉ seen) : ((outs ++ [e]) ++ restM ms (seen ++ [j])).Perm ms := by
  refine List.Perm.trans ?_ hp
  have h1 := (unseen_step (List.getElem?_eq_some_iff.1 hj).1 hs).map fun j => ms.getD j ent0
  have h2 : ms.getD j ent0 = e := by simp [List.getD, hj]
  rw [List.map_cons, h2] at h1
  rw [List.append_assoc]
  exact List.Perm.append_left outs h1.symm
theorem rest_less {ms : List Ent} {seen : List Nat} {j : Nat} {e : Ent} (hj : ms[j]? = some e) (hs : j ∉ seen) : (restM ms (seen ++ [j])).length < (restM ms seen).length := by
  have h1 := (unseen_step (List.getElem?_eq_some_iff.1 hj).1 hs).length_eq
  simp only [restM, List.length_map]
  simp at h1; omega
theorem rest_end {ms outs : List Ent} {seen : List Nat} (hp : (outs ++ restM ms seen).Perm ms) (h : ∀ j, j < ms.length → j ∈ seen) : outs.Perm ms := by
  unfold restM at hp
  rw [unseen_nil h] at hp
  simpa using hp

/-! ## moves -/
theorem OwnO.mvNw {N : Nat} {e : TypeId} {kk : Nat} {ρ : List Nat} {A A1 : Nat → Prop} {w w1 : World} {b : Nat} {ob : Obj} {a : Option Addr} {nn c : Nat} {xs : List Value} (h : OwnO N ρ A w b ob) (hc : ∀ cs T f, ob ≠ .cells cs T f) (ho : Nw N e kk ρ A w a nn c xs)
    (m : Mv (fun k => Lb ρ k ∨ blk A a k) A A1 w w1) : OwnO N ρ A1 w1 b ob := by
  refine h.mvX m fun hh => hh.elim h.2.1 fun ⟨_, x, hx, he⟩ => ?_
  obtain ⟨_, ⟨h2, _⟩ | ⟨g, cur, h2, _, _, _, h6, _⟩⟩ := ho
  · rw [h2] at hx; cases hx
  · rw [h2] at hx; cases hx
    subst he
    have := h.2.2.2.symm.trans h6
    cases this
    exact hc _ _ _ rfl
theorem Nw.mvO {N : Nat} {e : TypeId} {kk : Nat} {ρ : List Nat} {A A1 : Nat → Prop} {w w1 : World} {b : Nat} {ob : Obj} {a : Option Addr} {nn c : Nat} {xs : List Value} (ho : Nw N e kk ρ A w a nn c xs) (h : OwnO N ρ A w b ob) (hc : ∀ cs T f, ob ≠ .cells cs T f)
    (m : Mv (fun k => Lb ρ k ∨ k = b) A A1 w w1) : Nw N e kk ρ A1 w1 a nn c xs := by
  obtain ⟨h1, h2 | ⟨g, cur, rfl, h3, h4, h5, h6, h7⟩⟩ := ho
  · exact ⟨h1, .inl h2⟩
  · refine Nw.mvX ⟨h1, .inr ⟨g, cur, rfl, h3, h4, h5, h6, h7⟩⟩ m fun g' hg _ hρ _ hX => ?_
    cases hg
    rcases hX with hX | rfl
    · exact hρ hX
    · have := h.2.2.2.symm.trans h6
      cases this
      exact hc _ _ _ rfl

section
variable {P : Program} {B : Code} {Q : Exit → Act → World → Prop} {n : Nat} {W : World} {Ac M A : Nat → Prop} {s : SS} {ρ : List Nat} {w0 : World} {r t : List It} {k j : Nat}
theorem J.lookupN {T kt et : TypeId} {b d : Nat} {q : Str} {z : Value} {ms : List Ent} (hx : lkOf B s.env ρ n k j = some (T, b, q, d)) (ht : P.underlying T = some (.map kt et)) (hk : P.underlying kt = some .string) (hz : ∀ w, (zeroValue et).run P w = .ok z w) (hm : MapAt W.heap.size ρ A w0 b ms) (hp : posOf q ms = none)
    (h : J P B Q n W Ac M (.o k (j + 1) :: r) ⟨put s.env d (.v (.tuple #[z, .bool false])), s.mem⟩ ρ A w0) : J P B Q n W Ac M (.o k j :: r) s ρ A w0 :=
  J.lookup hx ht hk hz hm (by rw [hp]; exact h)
theorem J.lookupS {T kt et : TypeId} {b d i : Nat} {q : Str} {z : Value} {ms : List Ent} {e : Ent} (hx : lkOf B s.env ρ n k j = some (T, b, q, d)) (ht : P.underlying T = some (.map kt et)) (hk : P.underlying kt = some .string) (hz : ∀ w, (zeroValue et).run P w = .ok z w) (hm : MapAt W.heap.size ρ A w0 b ms) (hp : posOf q ms = some i) (he : ms[i]? = some e)
    (h : J P B Q n W Ac M (.o k (j + 1) :: r) ⟨put s.env d (.v (.tuple #[.agg (encE e).toArray, .bool true])), s.mem⟩ ρ A w0) : J P B Q n W Ac M (.o k j :: r) s ρ A w0 :=
  J.lookup hx ht hk hz hm (by rw [hp]; simp only [he]; exact h)
end

structure FoldSt where
  k : Nat
  seen : List Nat
  outs : List Ent
  g : Nat
  c : Nat

theorem fold_calls (a : Option Addr) (n c : Nat) (l : List Ent) (hn : n ≤ 1000000) (Ac : Nat → Prop) (W : World) (hA : ∀ k, Ac k → k < W.heap.size) (hs : Sl 4 encE Ac W a n c l) :
    Calls Pr 30 #[.slice a n c] W (Ret nobody W fun v w => ∃ a' c', v = .slice a' (foldF l).length c' ∧ New W.heap.size 42 4 w a' (foldF l).length c' ((foldF l).flatMap encE)) := by
  refine J.enter (fn := Try.f30) (n := 55) Try.func30 (by kernel_rfl) (by kernel_rfl) (by kernel_rfl) hA ?_
  have hlen := hs.len; have hle := hs.le; have hcap := hs.cap; simp only [maxLen] at hcap
  refine J.run [.n, .n, .u, .n, .n, .n] [0] ⟨[(0, .v (.slice a n c))], []⟩ [.c 0] [.o 3 0, .c 4] (by kernel_rfl) ?_
  refine J.makeMap (T := 121) (d := 11) (by kernel_rfl) ?_
  intro mb1 w1 A1 hm1 hle1 m1
  replace hs := hs.mv m1
  refine J.run [.u, .n, .n, .n, .n, .u, .u, .u, .n, .n] [3, 12, 13, 14] ⟨[(3, .v ((.map (some mb1)))), (12, .v (.slice a n c)), (13, .v (.int .i64 ((n : Nat) : Int))), (14, .v (.int .i64 0))], []⟩ [.o 3 1, .c 4] [.c 8, .b 0, .c 27] (by kernel_rfl) ?_
  refine J.loop (X := Nat) (fun i => ⟨[(3, .v ((.map (some mb1)))), (12, .v (.slice a n c)), (13, .v (.int .i64 ((n : Nat) : Int))), (14, .v (.int .i64 ((i : Nat) : Int)))], []⟩) (fun i A w => i ≤ n ∧ Sl 4 encE A w a n c l ∧ MapAt W.heap.size [] A w mb1 (newF (l.take i))) (fun i => n - i) [3, 12, 13, 14] 0 [] 0 (by kernel_rfl) (by kernel_rfl) (by kernel_rfl) (fun w1 A1 m1 => ⟨Nat.zero_le _, hs.mv m1, (hm1.mv m1)⟩) (fun i A2 w2 hI => ?_)
  obtain ⟨hi, hs, hmp⟩ := hI
  refine J.run [.n, .n, .u, .n, .n] [3, 12, 13, 14, 15] ⟨[(3, .v ((.map (some mb1)))), (12, .v (.slice a n c)), (13, .v (.int .i64 ((n : Nat) : Int))), (14, .v (.int .i64 ((i : Nat) : Int))), (15, .v (.bool (decide (((i : Nat) : Int) < ((n : Nat) : Int)))))], []⟩ [.c 9] [.c 12, .c 15] (by kernel_rfl) ?_
  refine J.cond (b := (decide (((i : Nat) : Int) < ((n : Nat) : Int)))) (k' := 14) (by kernel_rfl) (fun hc => ?_) (fun hc => ?_)
  · try simp only [nrm] at hc
    have hc1 := hc
    refine J.run [.n, .n, .n, .n, .n] [3, 12, 13, 14] ⟨[(3, .v ((.map (some mb1)))), (12, .v (.slice a n c)), (13, .v (.int .i64 ((n : Nat) : Int))), (14, .v (.int .i64 ((i : Nat) : Int)))], []⟩ [.c 13, .c 15] [.o 18 0, .c 19, .b 1, .c 26] (by kernel_rfl) ?_
    obtain ⟨p1, o1, rfl⟩ := hs.addr (by omega)
    refine J.idx (b := p1) (off := o1) (len := n) (i := ((i : Nat) : Int)) (sz := 4) (d := 16) (by kernel_rfl) (by omega) (by omega) ?_
    obtain ⟨x1, hx1⟩ : ∃ zq, (l)[i]? = some zq := ⟨_, List.getElem?_eq_getElem (by omega)⟩
    refine J.ld (T := 42) (b := p1) (off := o1 + i * 4) (d := 17) (v := .agg (encE x1).toArray) (by kernel_rfl) (fun w1 A1 m1 l1 => (hs.mv m1).ld (by kernel_rfl) hx1 (by kernel_rfl)) ?_
    refine J.new (T := 42) (cs := [.string (⟨#[]⟩ : Str), .string (⟨#[]⟩ : Str), .bool false, .int .i64 0]) (d := 5) (K := .ptr) (by kernel_rfl) (fun b1 hb1 => ?_)
    replace hmp := hmp.more hb1
    refine J.run [.u, .n, .n, .n, .u, .u, .u] [3, 5, 12, 13, 14, 19, 21] ⟨[(3, .v ((.map (some mb1)))), (5, .loc 0 0), (12, .v (.slice (some ⟨p1, o1, none⟩) n c)), (13, .v (.int .i64 ((n : Nat) : Int))), (14, .v (.int .i64 ((i : Nat) : Int))), (19, .v ((.map (some mb1)))), (21, .v (.string x1.key))], [⟨42, encE x1⟩]⟩ [.o 18 3, .c 19, .b 1, .c 26] [.o 20 3, .c 21, .b 1, .c 26] (by kernel_rfl) ?_
    rcases hp1 : posOf x1.key (newF (l.take i)) with _ | j1
    · skip
      refine J.lookupN (T := 121) (kt := 9) (et := 42) (b := mb1) (d := 22) (q := x1.key) (z := .agg (encE ent0).toArray) (by kernel_rfl) Try.underlying121 Try.underlying9 Try.zeroValue42 hmp hp1 ?_
      refine J.run [.u, .u, .u] [3, 5, 12, 13, 14, 23, 24] ⟨[(3, .v ((.map (some mb1)))), (5, .loc 0 0), (12, .v (.slice (some ⟨p1, o1, none⟩) n c)), (13, .v (.int .i64 ((n : Nat) : Int))), (14, .v (.int .i64 ((i : Nat) : Int))), (23, .v (.agg (encE ent0).toArray)), (24, .v (.bool false))], [⟨42, encE x1⟩]⟩ [.o 20 4, .c 21, .b 1, .c 26] [.o 20 7, .c 21, .b 1, .c 26] (by kernel_rfl) ?_
      refine J.new (T := 42) (cs := [.string (⟨#[]⟩ : Str), .string (⟨#[]⟩ : Str), .bool false, .int .i64 0]) (d := 6) (K := .ptr) (by kernel_rfl) (fun b2 hb2 => ?_)
      replace hmp := hmp.more hb2
      refine J.run [.u, .u, .n, .n, .n, .u, .u, .u, .x, .x, .x, .x, .x, .u, .n] [3, 5, 12, 13, 14, 33] ⟨[(3, .v ((.map (some mb1)))), (5, .loc 0 0), (12, .v (.slice (some ⟨p1, o1, none⟩) n c)), (13, .v (.int .i64 ((n : Nat) : Int))), (14, .v (.int .i64 ((i : Nat) : Int))), (33, .v (.bool true))], [⟨42, encE x1⟩, ⟨42, encE ent0⟩]⟩ [.o 20 8, .c 21, .b 1, .c 26] [.c 23, .b 1, .c 26] (by kernel_rfl) ?_
      refine J.cond (b := true) (k' := 25) (by kernel_rfl) (fun _ => ?_) (fun hc => absurd hc (by decide))
      refine J.run [.n, .u, .u, .u, .u] [3, 12, 13, 14, 34, 36, 37] ⟨[(3, .v ((.map (some mb1)))), (12, .v (.slice (some ⟨p1, o1, none⟩) n c)), (13, .v (.int .i64 ((n : Nat) : Int))), (14, .v (.int .i64 ((i : Nat) : Int))), (34, .v ((.map (some mb1)))), (36, .v (.string x1.key)), (37, .v (.agg (encE x1).toArray))], [⟨42, encE x1⟩, ⟨42, encE ent0⟩]⟩ [.c 24, .b 1, .c 26] [.o 24 4, .b 1, .c 26] (by kernel_rfl) ?_
      refine J.update (T := 121) (kt := 9) (et := 42) (b := mb1) (e := x1) (by kernel_rfl) Try.underlying121 Try.underlying9 hmp ?_
      intro w3 A3 hm2 m2
      replace hs := hs.mv m2
      refine J.run [.n, .n, .n, .u, .u, .n] [3, 12, 13, 14] ⟨[(3, .v ((.map (some mb1)))), (12, .v (.slice (some ⟨p1, o1, none⟩) n c)), (13, .v (.int .i64 ((n : Nat) : Int))), (14, .v (.int .i64 (IntKind.i64.wrap (((i : Nat) : Int) + 1))))], [⟨42, encE x1⟩, ⟨42, encE ent0⟩]⟩ [.o 24 5, .b 1, .c 26] [] (by kernel_rfl) ?_
      have hw1 : IntKind.i64.wrap (((i : Nat) : Int) + 1) = ((i + 1 : Nat) : Int) := by rw [wrap_i64 (by omega) (by omega)]; try omega
      rw [hw1]
      rw [← newer_none hp1, ← newF_next hx1] at hm2
      exact J.again (i + 1) [3, 12, 13, 14] 0 (by omega) (by kernel_rfl) (by kernel_rfl) (fun w1 A1 m1 => ⟨by omega, hs.mv m1, (hm2.mv m1).fewer (by simp)⟩)
    · skip
      obtain ⟨y1, hy1, hk1⟩ := posOf_some hp1
      refine J.lookupS (T := 121) (kt := 9) (et := 42) (b := mb1) (d := 22) (q := x1.key) (z := .agg (encE ent0).toArray) (e := y1) (by kernel_rfl) Try.underlying121 Try.underlying9 Try.zeroValue42 hmp hp1 hy1 ?_
      refine J.run [.u, .u, .u] [3, 5, 12, 13, 14, 23, 24] ⟨[(3, .v ((.map (some mb1)))), (5, .loc 0 0), (12, .v (.slice (some ⟨p1, o1, none⟩) n c)), (13, .v (.int .i64 ((n : Nat) : Int))), (14, .v (.int .i64 ((i : Nat) : Int))), (23, .v (.agg (encE y1).toArray)), (24, .v (.bool true))], [⟨42, encE x1⟩]⟩ [.o 20 4, .c 21, .b 1, .c 26] [.o 20 7, .c 21, .b 1, .c 26] (by kernel_rfl) ?_
      refine J.new (T := 42) (cs := [.string (⟨#[]⟩ : Str), .string (⟨#[]⟩ : Str), .bool false, .int .i64 0]) (d := 6) (K := .ptr) (by kernel_rfl) (fun b3 hb3 => ?_)
      replace hmp := hmp.more hb3
      refine J.run [.u, .u, .n, .n, .n, .u, .u, .u, .w, .w, .w, .w, .w, .u, .n] [3, 5, 12, 13, 14, 33] ⟨[(3, .v ((.map (some mb1)))), (5, .loc 0 0), (12, .v (.slice (some ⟨p1, o1, none⟩) n c)), (13, .v (.int .i64 ((n : Nat) : Int))), (14, .v (.int .i64 ((i : Nat) : Int))), (33, .v (.bool (decide (x1.seq ≥ y1.seq))))], [⟨42, encE x1⟩, ⟨42, encE y1⟩]⟩ [.o 20 8, .c 21, .b 1, .c 26] [.c 23, .b 1, .c 26] (by kernel_rfl) ?_
      refine J.cond (b := (decide (x1.seq ≥ y1.seq))) (k' := 25) (by kernel_rfl) (fun hc => ?_) (fun hc => ?_)
      · try simp only [nrm] at hc
        have hc2 := hc
        refine J.run [.n, .u, .u, .u, .u] [3, 12, 13, 14, 34, 36, 37] ⟨[(3, .v ((.map (some mb1)))), (12, .v (.slice (some ⟨p1, o1, none⟩) n c)), (13, .v (.int .i64 ((n : Nat) : Int))), (14, .v (.int .i64 ((i : Nat) : Int))), (34, .v ((.map (some mb1)))), (36, .v (.string x1.key)), (37, .v (.agg (encE x1).toArray))], [⟨42, encE x1⟩, ⟨42, encE y1⟩]⟩ [.c 24, .b 1, .c 26] [.o 24 4, .b 1, .c 26] (by kernel_rfl) ?_
        refine J.update (T := 121) (kt := 9) (et := 42) (b := mb1) (e := x1) (by kernel_rfl) Try.underlying121 Try.underlying9 hmp ?_
        intro w4 A4 hm3 m3
        replace hs := hs.mv m3
        refine J.run [.n, .n, .n, .u, .u, .n] [3, 12, 13, 14] ⟨[(3, .v ((.map (some mb1)))), (12, .v (.slice (some ⟨p1, o1, none⟩) n c)), (13, .v (.int .i64 ((n : Nat) : Int))), (14, .v (.int .i64 (IntKind.i64.wrap (((i : Nat) : Int) + 1))))], [⟨42, encE x1⟩, ⟨42, encE y1⟩]⟩ [.o 24 5, .b 1, .c 26] [] (by kernel_rfl) ?_
        have hw2 : IntKind.i64.wrap (((i : Nat) : Int) + 1) = ((i + 1 : Nat) : Int) := by rw [wrap_i64 (by omega) (by omega)]; try omega
        rw [hw2]
        rw [← newer_yes hp1 hy1 (by omega), ← newF_next hx1] at hm3
        exact J.again (i + 1) [3, 12, 13, 14] 0 (by omega) (by kernel_rfl) (by kernel_rfl) (fun w1 A1 m1 => ⟨by omega, hs.mv m1, (hm3.mv m1).fewer (by simp)⟩)
      · try simp only [nrm] at hc
        have hc2 := hc
        refine J.run [.n, .n, .n, .u, .u, .n] [3, 12, 13, 14] ⟨[(3, .v ((.map (some mb1)))), (12, .v (.slice (some ⟨p1, o1, none⟩) n c)), (13, .v (.int .i64 ((n : Nat) : Int))), (14, .v (.int .i64 (IntKind.i64.wrap (((i : Nat) : Int) + 1))))], [⟨42, encE x1⟩, ⟨42, encE y1⟩]⟩ [.c 25, .b 1, .c 26] [] (by kernel_rfl) ?_
        have hw3 : IntKind.i64.wrap (((i : Nat) : Int) + 1) = ((i + 1 : Nat) : Int) := by rw [wrap_i64 (by omega) (by omega)]; try omega
        rw [hw3]
        have hnx := newF_next hx1; rw [newer_no hp1 hy1 (by omega)] at hnx; rw [← hnx] at hmp
        exact J.again (i + 1) [3, 12, 13, 14] 0 (by omega) (by kernel_rfl) (by kernel_rfl) (fun w1 A1 m1 => ⟨by omega, hs.mv m1, (hmp.mv m1).fewer (by simp)⟩)
  · try simp only [nrm] at hc
    have hc1 := hc
    refine J.exit (id := 0) (by kernel_rfl) (by rfl) ?_
    refine J.run [.n, .n, .u] [3, 39] ⟨[(3, .v ((.map (some mb1)))), (39, .v ((.map (some mb1))))], []⟩ [.c 27] [.o 28 1, .c 29] (by kernel_rfl) ?_
    refine J.lenM (T := 121) (kt := 9) (et := 42) (b := mb1) (d := 40) (by kernel_rfl) Try.underlying121 hmp ?_
    have hml := newF_len (l.take i); rw [List.length_take] at hml
    refine J.mk0 (T := 22) (c := (newF (l.take i)).length) (cc := (((newF (l.take i)).length : Nat) : Int)) (d := 41) (bytes := 48) (sz := 4) (e := 42) (by kernel_rfl) rfl (by kernel_rfl) (by omega) (by simp only [maxLen]; omega) ?_
    intro g1 w5 A5 hn1 m4
    replace hs := hs.mv m4; replace hmp := hmp.mv m4
    refine J.run [.u, .n, .n, .n, .n, .u] [8, 42] ⟨[(8, .v (.slice (some ⟨g1, 0, none⟩) 0 ((newF (l.take i)).length))), (42, .v ((.map (some mb1))))], []⟩ [.o 28 3, .c 29] [.o 31 1, .c 32, .c 44] (by kernel_rfl) ?_
    refine J.range (T := 121) (kt := 9) (et := 42) (b := mb1) (d := 43) (by kernel_rfl) Try.underlying121 hmp ?_
    intro it1 w6 A6 hi1 hle2 m5
    replace hs := hs.mv m5; replace hn1 := hn1.mv m5; replace hmp := hmp.mv m5
    refine J.run [.n, .n] [8, 43] ⟨[(8, .v (.slice (some ⟨g1, 0, none⟩) 0 ((newF (l.take i)).length))), (43, .v (.pointer (some ⟨it1, 0, none⟩)))], []⟩ [.o 31 2, .c 32, .c 44] [.c 33, .b 2, .c 44] (by kernel_rfl) ?_
    refine J.loop (X := FoldSt) (fun x => ⟨[(8, .v (.slice (some ⟨x.g, 0, none⟩) x.k x.c)), (43, .v (.pointer (some ⟨it1, 0, none⟩)))], []⟩) (fun x A w => OwnO W.heap.size [] A w it1 (itOf mb1 (newF (l.take i)).length x.seen) ∧ MapAt W.heap.size [] A w mb1 (newF (l.take i)) ∧ Nw W.heap.size 42 4 [] A w (some ⟨x.g, 0, none⟩) x.k x.c (x.outs.flatMap encE) ∧ x.k = x.outs.length ∧ (x.outs ++ restM (newF (l.take i)) x.seen).Perm (newF (l.take i))) (fun x => (restM (newF (l.take i)) x.seen).length) [8, 43] 0 [] ⟨0, [], [], g1, (newF (l.take i)).length⟩ (by kernel_rfl) (by kernel_rfl) (by kernel_rfl) (fun w1 A1 m1 => ⟨hi1.mv m1, hmp.mv m1, hn1.mv m1, rfl, by rw [rest_start]; exact List.Perm.refl _⟩) (fun x A7 w7 hI => ?_)
    obtain ⟨hit, hmp, ho, hxk, hpm⟩ := hI
    have hpl := hpm.length_eq; rw [List.length_append] at hpl
    refine J.run [.n, .n] [8, 43] ⟨[(8, .v (.slice (some ⟨x.g, 0, none⟩) x.k x.c)), (43, .v (.pointer (some ⟨it1, 0, none⟩)))], []⟩ [.c 34] [.o 35 0, .c 36] (by kernel_rfl) ?_
    refine J.next (b := mb1) (i := it1) (d := 44) (by kernel_rfl) hmp hit ?_
    intro v1 ob1 w8 A8 hN1 hi2 hm4 m6
    replace ho := Nw.mvO ho hit (by intro _ _ _ h; cases h) m6
    rcases hN1 with ⟨hall1, rfl, rfl⟩ | ⟨j2, e1, hj1, hns1, rfl, rfl⟩
    · skip
      refine J.run [.u, .n, .n] [8, 43, 45] ⟨[(8, .v (.slice (some ⟨x.g, 0, none⟩) x.k x.c)), (43, .v (.pointer (some ⟨it1, 0, none⟩))), (45, .v (.bool false))], []⟩ [.o 35 1, .c 36] [.c 37, .c 40] (by kernel_rfl) ?_
      refine J.cond (b := false) (k' := 39) (by kernel_rfl) (fun hc => absurd hc (by decide)) (fun _ => ?_)
      refine J.exit (id := 2) (by kernel_rfl) (by rfl) ?_
      refine J.run [.n, .n, .u] [8, 52] ⟨[(8, .v (.slice (some ⟨x.g, 0, none⟩) x.k x.c)), (52, .v (.slice (some ⟨x.g, 0, none⟩) x.k x.c))], []⟩ [.c 44] [.o 45 1, .c 46] (by kernel_rfl) ?_
      have hop := rest_end hpm hall1
      refine J.callX (X := Eb (some ⟨x.g, 0, none⟩)) (d := some 53) (fun k hk _ => let q := ho.own_blk k hk; ⟨.inl q.1, q.2.1, q.2.2.1⟩) (fun k hk => (ho.own_blk k hk).2.2.2) (by kernel_rfl) (fun w1 A1 m1 l1 => sort_calls x.g x.k x.c x.outs (by omega) _ _ _ w1 (ho.mv m1)) ?_
      rintro _ w1 w2 A2 ⟨rfl, l', hp', hu', ho⟩ g2
      have hle2 := hp'.length_eq; have hff := foldF_eq (l := l.take i) hop hp' hu'
      rw [List.take_of_length_le (by omega)] at hff; subst hff; rw [hxk, ← hle2]
      refine J.run [.n, .n, .n, .u, .u, .n] [2] ⟨[(2, .v (.slice (some ⟨x.g, 0, none⟩) ((foldF l).length) x.c))], []⟩ [.o 45 2, .c 46] [.c 48] (by kernel_rfl) ?_
      refine J.ret (v := .slice (some ⟨x.g, 0, none⟩) ((foldF l).length) x.c) (by kernel_rfl) (by kernel_rfl) (fun w1 A1 m1 hac l1 => ⟨_, _, rfl, ((ho.re (hxk.trans hle2.symm) rfl).mv m1).new⟩)
    · skip
      refine J.run [.u, .n, .n] [8, 43, 45] ⟨[(8, .v (.slice (some ⟨x.g, 0, none⟩) x.k x.c)), (43, .v (.pointer (some ⟨it1, 0, none⟩))), (45, .v (.bool true))], []⟩ [.o 35 1, .c 36] [.c 37, .c 40] (by kernel_rfl) ?_
      refine J.cond (b := true) (k' := 39) (by kernel_rfl) (fun _ => ?_) (fun hc => absurd hc (by decide))
      refine J.run [.n, .n, .n, .n] [8, 43] ⟨[(8, .v (.slice (some ⟨x.g, 0, none⟩) x.k x.c)), (43, .v (.pointer (some ⟨it1, 0, none⟩)))], []⟩ [.c 38, .c 40] [.o 42 0, .c 43, .b 3] (by kernel_rfl) ?_
      refine J.entry (i := it1) (d := 46) (by kernel_rfl) hm4 hi2 hj1 ?_
      refine J.run [.u] [8, 43, 47] ⟨[(8, .v (.slice (some ⟨x.g, 0, none⟩) x.k x.c)), (43, .v (.pointer (some ⟨it1, 0, none⟩))), (47, .v (.agg (encE e1).toArray))], []⟩ [.o 42 1, .c 43, .b 3] [.o 42 2, .c 43, .b 3] (by kernel_rfl) ?_
      refine J.new (T := 42) (cs := [.string (⟨#[]⟩ : Str), .string (⟨#[]⟩ : Str), .bool false, .int .i64 0]) (d := 10) (K := .ptr) (by kernel_rfl) (fun b4 hb4 => ?_)
      replace ho := ho.more hb4
      replace hi2 := hi2.more hb4
      replace hm4 := hm4.more hb4
      refine J.run [.u, .n, .n, .u, .u] [43, 48, 49] ⟨[(43, .v (.pointer (some ⟨it1, 0, none⟩))), (48, .v (.slice (some ⟨x.g, 0, none⟩) x.k x.c)), (49, .v (.agg (encE e1).toArray))], [⟨42, encE e1⟩]⟩ [.o 42 3, .c 43, .b 3] [.o 43 2, .b 3] (by kernel_rfl) ?_
      refine J.new (T := 42) (cs := encE e1) (d := 50) (K := (.sl 1)) (by kernel_rfl) (fun b5 hb5 => ?_)
      replace ho := ho.more hb5
      replace hi2 := hi2.more hb5
      replace hm4 := hm4.more hb5
      refine J.append (e := 42) (sz := 4) (a := (some ⟨x.g, 0, none⟩)) (nn := x.k) (c := x.c) (T := 22) (Tx := 22) (x := .slice (some ⟨b5, 0, none⟩) 1 1) (bytes := 48) (d := 51) (xs := x.outs.flatMap encE) (news := encE e1) (m := 1) (by kernel_rfl) (by kernel_rfl) ho.own (.inr ho) (fun w1 A1 m1 l1 => l1.src (i := 1) rfl (e := 42) (by kernel_rfl) rfl rfl) (by simp only [maxLen]; omega) (by omega) ?_
      intro a1 c1 w9 A9 hn2 m7
      replace hi2 := OwnO.mvNw hi2 (by intro _ _ _ h; cases h) ho m7; replace hm4 := OwnO.mvNw hm4 (by intro _ _ _ h; cases h) ho m7
      replace hn2 := hn2.re (n' := x.k + 1) (ys := (x.outs ++ [e1]).flatMap encE) rfl (by first | (simp only [List.flatMap_append, dbytes_flat, byteCells_u8]; done) | (rw [List.flatMap_append]; rfl))
      refine J.run [.u, .n, .n] [8, 43] ⟨[(8, .v (.slice a1 (x.k + 1) c1)), (43, .v (.pointer (some ⟨it1, 0, none⟩)))], [⟨42, encE e1⟩, ⟨42, encE e1⟩]⟩ [.o 43 4, .b 3] [] (by kernel_rfl) ?_
      obtain ⟨g9, o9, rfl⟩ := hn2.addr (by omega)
      have ho9 : o9 = 0 := by rcases id hn2 with ⟨_, ⟨h2, _⟩ | ⟨_, _, h2, _⟩⟩ <;> cases h2 <;> rfl
      subst ho9
      exact J.again ⟨x.k + 1, x.seen ++ [j2], x.outs ++ [e1], g9, c1⟩ [8, 43] 0 (rest_less hj1 hns1) (by kernel_rfl) (by kernel_rfl) (fun w1 A1 m1 => ⟨(hi2.mv m1).fewer (by simp), (hm4.mv m1).fewer (by simp), (hn2.mv m1).fewer (by simp), by simp [hxk], rest_step hpm hj1 hns1⟩)
end Go.Proofs.Ytkgokehkobifkaa.J

/- Plain laws: what is written is read; a path climbs to its root. -/
namespace Go.Proofs.Ytkgokehkobifkaa.J
open Go Go.RowKit

theorem getGo_put : ∀ (v i acc : Nat) (rest : List UInt8), i ≤ 9 → v * 128 ^ i < 18446744073709551616 → (i = 0 ∨ 0 < v) →
    getGo ((putN v ++ rest).take (10 - i)) i acc = (acc + v * 128 ^ i, i + (putN v).length, true) := by
  intro v
  induction v using Nat.strongRecOn with
  | _ v ih =>
    intro i acc rest hi hv h0
    obtain ⟨m, hm⟩ : ∃ m, 10 - i = m + 1 := ⟨9 - i, by omega⟩
    have h9 : (128 : Nat) ^ 9 = 9223372036854775808 := by decide
    by_cases hlt : v < 128
    · rw [putN_lt hlt, hm, List.cons_append, List.take_succ_cons, getGo]
      have hb : (UInt8.ofNat v).toNat = v := by rw [u8_nat]; omega
      rw [hb, if_neg, if_pos hlt]
      · rfl
      · rintro (⟨h1, h2⟩ | ⟨h1, h2⟩)
        · rw [h1, h9] at hv; omega
        · omega
    · have hi8 : i ≤ 8 := by
        rcases Nat.lt_or_ge i 9 with h | h
        · omega
        · have : i = 9 := by omega
          rw [this, h9] at hv; omega
      rw [putN_ge (by omega), hm, List.cons_append, List.take_succ_cons, getGo]
      have hb : (UInt8.ofNat (v % 128 + 128)).toNat = v % 128 + 128 := by rw [u8_nat]; omega
      rw [hb, if_neg (by omega), if_neg (by omega)]
      have hp : v / 128 * 128 ^ (i + 1) ≤ v * 128 ^ i := by
        rw [Nat.pow_succ, Nat.mul_comm (128 ^ i) 128, ← Nat.mul_assoc]
        exact Nat.mul_le_mul_right _ (by omega)
      have e := ih (v / 128) (by omega) (i + 1) (acc + (v % 128 + 128) % 128 * 128 ^ i) rest (by omega) (by omega) (.inr (by omega))
      rw [show 10 - (i + 1) = m by omega] at e
      rw [e]
      simp only [Prod.mk.injEq, and_true]
      constructor
      · rw [Nat.pow_succ, Nat.mul_comm (128 ^ i) 128, ← Nat.mul_assoc, Nat.add_assoc, ← Nat.add_mul]
        congr 2; omega
      · simp; omega

theorem getN_put {v : Nat} (hv : v < 18446744073709551616) (rest : List UInt8) : getN (putN v ++ rest) = (v, (putN v).length, true) := by
  have := getGo_put v 0 0 rest (by omega) (by simpa using hv) (.inl rfl)
  simpa [getN] using this

theorem strOf_data (t : Str) : strOf t.data.toList = t := by cases t; simp [strOf]

theorem getT_put {t : Str} (ht : t.size < 18446744073709551616) (rest : List UInt8) : getT (putText t ++ rest) = (t, (putText t).length, true) := by
  have e : putText t ++ rest = putN t.size ++ (t.data.toList ++ rest) := by simp [putText]
  have h := getN_put ht (t.data.toList ++ rest)
  have hs := size_data t
  rw [e]
  rw [getT_yes (by rw [h]) (by rw [h]; simp [← hs])]
  rw [h]
  simp only [List.drop_left, Prod.mk.injEq, and_true]
  constructor
  · rw [hs, List.take_left]; exact strOf_data t
  · simp [putText, ← hs]

/-- What Bytes has written is read, whatever stands behind it. -/
theorem pars_entB {e : Ent} (h : e.Right) (rest : List UInt8) : pars (entB e ++ rest) = (e, (entB e).length, 0) := by
  have hR := h
  obtain ⟨r1, r2, r3, r4, r5, r6⟩ := h
  have hb : entB e = (if e.del = true then [1] else [0]) ++ putN e.seq.toNat ++ putText e.key ++ (if e.del = true then [] else putText e.value) := if_pos hR
  have hq : ((min e.seq.toNat 1099511627777 : Nat) : Int) = e.seq := by omega
  cases hd : e.del with
  | true =>
    rw [hd] at hb
    simp only [if_true, List.append_nil] at hb
    have e1 : entB e ++ rest = 1 :: (putN e.seq.toNat ++ (putText e.key ++ rest)) := by rw [hb]; simp
    have g1 := getN_put (v := e.seq.toNat) (by omega) (putText e.key ++ rest)
    have g2 := getT_put (t := e.key) (by omega) rest
    have hG : parsG (1 :: (putN e.seq.toNat ++ (putText e.key ++ rest))) = (e.seq.toNat, (putN e.seq.toNat).length, true) := by unfold parsG; simpa using g1
    have hT : parsT (1 :: (putN e.seq.toNat ++ (putText e.key ++ rest))) = (e.key, (putText e.key).length, true) := by
      unfold parsT; rw [hG]
      simp only [Nat.add_comm 1, List.drop_succ_cons, List.drop_left]; exact g2
    have hv : e.value = ⟨#[]⟩ := size_zero.1 (r4 hd)
    have hE : parsE (1 :: (putN e.seq.toNat ++ (putText e.key ++ rest))) = e := by
      unfold parsE; rw [hG, hT]
      simp only [List.getElem?_cons_zero, if_true, hq]
      cases e; simp only at hd hv; subst hd; subst hv; rfl
    have hN : parsN (1 :: (putN e.seq.toNat ++ (putText e.key ++ rest))) = (entB e).length := by
      unfold parsN; rw [hG, hT, hb]; simp; omega
    rw [e1]
    unfold pars
    rw [if_pos ⟨.inr rfl, by rw [hG], by rw [hT], .inl rfl, by rw [hE]; exact hR⟩, hE, hN]
  | false =>
    rw [hd] at hb
    simp only [Bool.false_eq_true, if_false] at hb
    have e1 : entB e ++ rest = 0 :: (putN e.seq.toNat ++ (putText e.key ++ (putText e.value ++ rest))) := by rw [hb]; simp
    have g1 := getN_put (v := e.seq.toNat) (by omega) (putText e.key ++ (putText e.value ++ rest))
    have g2 := getT_put (t := e.key) (by omega) (putText e.value ++ rest)
    have g3 := getT_put (t := e.value) (by omega) rest
    have hG : parsG (0 :: (putN e.seq.toNat ++ (putText e.key ++ (putText e.value ++ rest)))) = (e.seq.toNat, (putN e.seq.toNat).length, true) := by unfold parsG; simpa using g1
    have hT : parsT (0 :: (putN e.seq.toNat ++ (putText e.key ++ (putText e.value ++ rest)))) = (e.key, (putText e.key).length, true) := by
      unfold parsT; rw [hG]
      simp only [Nat.add_comm 1, List.drop_succ_cons, List.drop_left]; exact g2
    have hU : parsU (0 :: (putN e.seq.toNat ++ (putText e.key ++ (putText e.value ++ rest)))) = (e.value, (putText e.value).length, true) := by
      unfold parsU; rw [hG, hT]
      simp only [Nat.add_comm 1, Nat.add_right_comm _ 1, List.drop_succ_cons]
      rw [← List.drop_drop, List.drop_left, List.drop_left]; exact g3
    have hE : parsE (0 :: (putN e.seq.toNat ++ (putText e.key ++ (putText e.value ++ rest)))) = e := by
      unfold parsE; rw [hG, hT, hU]
      simp only [List.getElem?_cons_zero, hq]
      rw [if_neg (by decide)]
      cases e; simp only at hd; subst hd; rfl
    have hN : parsN (0 :: (putN e.seq.toNat ++ (putText e.key ++ (putText e.value ++ rest)))) = (entB e).length := by
      unfold parsN; rw [hG, hT, hU, hb]; simp; omega
    rw [e1]
    unfold pars
    rw [if_pos ⟨.inl rfl, by rw [hG], by rw [hT], .inr (by rw [hU]), by rw [hE]; exact hR⟩, hE, hN]

theorem pars_own {e : Ent} (h : e.Right) : pars (entB e) = (e, (entB e).length, 0) := by
  have := pars_entB h []
  rwa [List.append_nil] at this
theorem wholeF_own {e : Ent} (h : e.Right) : wholeF (entB e) = true := by
  unfold wholeF; rw [pars_own h]; simp

/-! ## paths -/
theorem climb_cons (bits : Int) (d : Dg) (b : Bool) (up : List Bool) (low : List Dg) (last : Dg) (hl : low.length = up.length) : climb bits d (b :: up) (low ++ [last]) = upF bits (climb bits d up low) (b, last) := by
  unfold climb
  rw [List.reverse_cons, List.zip_append (by rw [List.length_reverse]; exact hl.symm), List.foldl_append]
  rfl

theorem path_sides (bits : Int) : ∀ (N : Nat) (ls : List (List UInt8)) (i : Nat), ls.length < N → i < ls.length → (pathF bits ls i).length = (sides ls.length i).length
  | 0, _, _, h, _ => absurd h (Nat.not_lt_zero _)
  | N + 1, ls, i, h, hi => by
    by_cases h1 : ls.length ≤ 1
    · rw [pathF_1 h1, sides_1 h1]; rfl
    · have hh := half_lt (n := ls.length) (by omega)
      by_cases hk : i < half ls.length
      · have ht : (ls.take (half ls.length)).length = half ls.length := by rw [List.length_take]; omega
        rw [pathF_lo (by omega) hk, sides_lo (by omega) hk, List.length_append, path_sides bits N _ _ (by omega) (by omega), ht]; rfl
      · have hd : (ls.drop (half ls.length)).length = ls.length - half ls.length := List.length_drop
        rw [pathF_hi (by omega) (by omega), sides_hi (by omega) (by omega), List.length_append, path_sides bits N _ _ (by omega) (by omega), hd]; rfl

theorem climb_root (bits : Int) : ∀ (N : Nat) (ls : List (List UInt8)) (i : Nat) (leaf : List UInt8), ls.length < N → ls[i]? = some leaf → climb bits (leafF bits leaf) (sides ls.length i) (pathF bits ls i) = rootF bits ls
  | 0, _, _, _, h, _ => absurd h (Nat.not_lt_zero _)
  | N + 1, ls, i, leaf, h, hi => by
    have hil := (List.getElem?_eq_some_iff.1 hi).1
    by_cases h1 : ls.length ≤ 1
    · have h0 : i = 0 := by omega
      subst h0
      rw [pathF_1 h1, sides_1 h1, rootF_1 (by omega) hi]; rfl
    · have hh := half_lt (n := ls.length) (by omega)
      rw [rootF_2 (by omega)]
      by_cases hk : i < half ls.length
      · have ht : (ls.take (half ls.length)).length = half ls.length := by rw [List.length_take]; omega
        have hi' : (ls.take (half ls.length))[i]? = some leaf := by rw [List.getElem?_take, if_pos hk]; exact hi
        have hp := path_sides bits N (ls.take (half ls.length)) i (by omega) (by omega)
        have ih := climb_root bits N (ls.take (half ls.length)) i leaf (by omega) hi'
        rw [ht] at hp ih
        rw [pathF_lo (by omega) hk, sides_lo (by omega) hk, climb_cons _ _ _ _ _ _ hp, ih]
        rfl
      · have hd : (ls.drop (half ls.length)).length = ls.length - half ls.length := List.length_drop
        have hi' : (ls.drop (half ls.length))[i - half ls.length]? = some leaf := by rw [List.getElem?_drop, show half ls.length + (i - half ls.length) = i by omega]; exact hi
        have hp := path_sides bits N (ls.drop (half ls.length)) (i - half ls.length) (by omega) (by omega)
        have ih := climb_root bits N (ls.drop (half ls.length)) (i - half ls.length) leaf (by omega) hi'
        rw [hd] at hp ih
        rw [pathF_hi (by omega) (by omega), sides_hi (by omega) (by omega), climb_cons _ _ _ _ _ _ hp, ih]
        rfl

/-- A leaf's own path is taken. -/
theorem check_own (bits : Int) (ls : List (List UInt8)) (i : Nat) (leaf : List UInt8) (h : ls[i]? = some leaf) : checkF bits (rootF bits ls) ls.length ((i : Nat) : Int) leaf (pathF bits ls i) = true := by
  have hil := (List.getElem?_eq_some_iff.1 h).1
  unfold checkF checkN
  rw [Int.toNat_natCast, climb_root bits _ ls i leaf (Nat.lt_succ_self _) h, path_sides bits _ ls i (Nat.lt_succ_self _) hil]
  simp only [Bool.and_eq_true, decide_eq_true_eq]
  exact ⟨⟨by omega, by omega⟩, trivial, dgEq_iff.2 rfl⟩
end Go.Proofs.Ytkgokehkobifkaa.J

/- The law's helper: fit. -/
namespace Go.Proofs.Ytkgokehkobifkaa.J
open Go Go.RowKit

def okE (e : Ent) : Bool := decide e.Right
def pick64 (l : List Ent) : List Ent := (l.filter okE).take 64
theorem pick_yes {l : List Ent} {i : Nat} {x : Ent} (hx : l[i]? = some x) (hr : x.Right) (h : (pick64 (l.take i)).length < 64) : pick64 (l.take (i + 1)) = pick64 (l.take i) ++ [x] := by
  unfold pick64 at *
  rw [take_snoc hx, List.filter_append]
  have e1 : [x].filter okE = [x] := by simp [okE, hr]
  rw [List.length_take] at h
  rw [e1, List.take_append, List.take_of_length_le (l := [x]) (by simp only [List.length_cons, List.length_nil]; omega)]
theorem pick_no {l : List Ent} {i : Nat} {x : Ent} (hx : l[i]? = some x) (hr : ¬ x.Right) : pick64 (l.take (i + 1)) = pick64 (l.take i) := by
  unfold pick64
  rw [take_snoc hx, List.filter_append]
  have e1 : [x].filter okE = [] := by simp [okE, hr]
  rw [e1, List.append_nil]
theorem pick_full {l : List Ent} {i : Nat} (h : 64 ≤ (pick64 (l.take i)).length) : pick64 (l.take i) = pick64 l := by
  unfold pick64 at *
  rw [List.length_take] at h
  have e : l.filter okE = (l.take i).filter okE ++ (l.drop i).filter okE := by rw [← List.filter_append, List.take_append_drop]
  rw [e, List.take_append, show 64 - ((l.take i).filter okE).length = 0 by omega, List.take_zero, List.append_nil]
theorem pick_end {l : List Ent} {i : Nat} (h : l.length ≤ i) : pick64 (l.take i) = pick64 l := by rw [List.take_of_length_le h]

/-- What the laws make of any entries. -/
def fitF (l : List Ent) : List Ent := pick64 (foldF (fewF l 70))
theorem SortedL.sub {a b : List Ent} (h : SortedL b) (hs : a.Sublist b) : SortedL a := SortedL.of_rel (h.rel.sublist hs)
theorem fitF_fit (l : List Ent) : fitF l = [] ∨ FitL (fitF l) := by
  by_cases h : fitF l = []
  · exact .inl h
  · refine .inr ⟨List.length_pos_iff.2 h, ?_, ?_, ?_⟩
    · unfold fitF pick64; rw [List.length_take]; omega
    · exact (foldF_sorted (fewF l 70)).sub ((List.take_sublist 64 _).trans List.filter_sublist)
    · intro e he
      have := List.mem_of_mem_take he
      have := (List.mem_filter.1 this).2
      simpa [okE] using this
theorem fewF_len (l : List Ent) (m : Nat) : (fewF l m).length ≤ m := by unfold fewF; rw [List.length_map, List.length_take]; omega

structure FitSt where
  i : Nat
  k : Nat
  a : Option Addr
  c : Nat

theorem fit_law_calls (a : Option Addr) (n c : Nat) (l : List Ent) (Ac : Nat → Prop) (W : World) (hA : ∀ k, Ac k → k < W.heap.size) (hs : Sl 4 encE Ac W a n c l) :
    Calls Pr 9 #[.slice a n c] W (Ret nobody W fun v w => ∃ a' c', v = .slice a' (fitF l).length c' ∧ New W.heap.size 42 4 w a' (fitF l).length c' ((fitF l).flatMap encE)) := by
  refine J.enter (fn := Try.f9) (n := 33) Try.func9 (by kernel_rfl) (by kernel_rfl) (by kernel_rfl) hA ?_
  have hlen := hs.len; have hle := hs.le; have hcap := hs.cap; simp only [maxLen] at hcap
  refine J.run [.n, .n, .u, .n, .n, .n, .u, .n, .n, .n, .u] [3, 6] ⟨[(3, .v (.slice none 0 0)), (6, .v (.slice a n c))], []⟩ [.c 0] [.o 5 1, .c 6] (by kernel_rfl) ?_
  refine J.call (d := some 7) (by kernel_rfl) (fun w1 A1 m1 l1 => few_calls a n c l 70 (by omega) nobody w1 noA (hs.mv m1).any) ?_
  rintro _ u1 w1 A1 ⟨a1, c1, rfl, hn1⟩ g1
  have hblhn1 := hn1.blk_lt; have hglhn1 := g1.le
  refine J.grab hn1 ?_
  have m1 := g1.grab hn1
  replace hs := hs.mv m1
  replace hn1 := hn1.take g1 rfl
  refine J.call (d := some 8) (by kernel_rfl) (fun w1 A1 m1 l1 => fold_calls a1 (min n 70) c1 (fewF l 70) (by omega) nobody w1 noA ((hn1.mv m1).any (fun x _ => rfl) (by decide))) ?_
  rintro _ u2 w2 A2 ⟨a2, c2, rfl, hfq⟩ g2
  have m2 := g2.mv
  replace hs := hs.mv m2; replace hn1 := hn1.mv m2
  have hfr : Sl 4 encE A2 w2 a2 (foldF (fewF l 70)).length c2 (foldF (fewF l 70)) := hfq.sl (fun x _ => rfl) (by decide) g2.bd
  refine J.run [.u, .n, .n, .n, .n, .u, .n, .n] [3, 4, 5] ⟨[(3, .v (.slice none 0 0)), (4, .v (.slice a2 ((foldF (fewF l 70)).length) c2)), (5, .v (.int .i64 0))], []⟩ [.o 5 3, .c 6] [.c 10, .b 0, .c 25] (by kernel_rfl) ?_
  have hfn := foldF_len (fewF l 70); have hf7 := fewF_len l 70
  refine J.loop (X := FitSt) (fun x => ⟨[(3, .v (.slice x.a x.k x.c)), (4, .v (.slice a2 ((foldF (fewF l 70)).length) c2)), (5, .v (.int .i64 ((x.i : Nat) : Int)))], []⟩) (fun x A w => x.i ≤ (foldF (fewF l 70)).length ∧ x.k = (pick64 ((foldF (fewF l 70)).take x.i)).length ∧ Sl 4 encE A w a2 (foldF (fewF l 70)).length c2 (foldF (fewF l 70)) ∧ Nw W.heap.size 42 4 [] A w x.a x.k x.c ((pick64 ((foldF (fewF l 70)).take x.i)).flatMap encE)) (fun x => (foldF (fewF l 70)).length - x.i) [3, 4, 5] 0 [] ⟨0, 0, none, 0⟩ (by kernel_rfl) (by kernel_rfl) (by kernel_rfl) (fun w1 A1 m1 => ⟨Nat.zero_le _, by simp [pick64], hfr.mv m1, by rw [List.take_zero]; exact Nw.nil _ _ _ _ _ _⟩) (fun x A3 w3 hI => ?_)
  obtain ⟨hi, hk, hfr, ho⟩ := hI; have hk6 : x.k ≤ 64 := by rw [hk]; unfold pick64; rw [List.length_take]; omega
  refine J.run [.n, .n, .n, .u, .u, .u, .u, .u] [3, 4, 5, 13] ⟨[(3, .v (.slice x.a x.k x.c)), (4, .v (.slice a2 ((foldF (fewF l 70)).length) c2)), (5, .v (.int .i64 ((x.i : Nat) : Int))), (13, .v (.bool (decide (((x.i : Nat) : Int) < (((foldF (fewF l 70)).length : Nat) : Int)))))], []⟩ [.c 11] [.o 13 5, .c 14, .c 17] (by kernel_rfl) ?_
  rcases Bool.eq_false_or_eq_true (decide (((x.i : Nat) : Int) < (((foldF (fewF l 70)).length : Nat) : Int))) with hc | hc
  · rw [hc]
    try simp only [nrm] at hc
    have hc1 := hc
    refine J.run [.w, .w, .w, .u, .n] [3, 4, 5, 17] ⟨[(3, .v (.slice x.a x.k x.c)), (4, .v (.slice a2 ((foldF (fewF l 70)).length) c2)), (5, .v (.int .i64 ((x.i : Nat) : Int))), (17, .v (.bool (decide (((x.k : Nat) : Int) < 64))))], []⟩ [.o 13 5, .c 14, .c 17] [.c 14, .c 17] (by kernel_rfl) ?_
    refine J.cond (b := (decide (((x.k : Nat) : Int) < 64))) (k' := 16) (by kernel_rfl) (fun hc => ?_) (fun hc => ?_)
    · try simp only [nrm] at hc
      have hc2 := hc
      refine J.run [.n, .n, .n, .n, .n, .u, .u] [3, 4, 5, 20, 21] ⟨[(3, .v (.slice x.a x.k x.c)), (4, .v (.slice a2 ((foldF (fewF l 70)).length) c2)), (5, .v (.int .i64 ((x.i : Nat) : Int))), (20, .v (.slice a2 ((foldF (fewF l 70)).length) c2)), (21, .v (.int .i64 ((x.i : Nat) : Int)))], []⟩ [.c 15, .c 17] [.o 20 2, .c 21, .b 1, .c 24] (by kernel_rfl) ?_
      obtain ⟨p1, o1, rfl⟩ := hfr.addr (by omega)
      refine J.idx (b := p1) (off := o1) (len := (foldF (fewF l 70)).length) (i := ((x.i : Nat) : Int)) (sz := 4) (d := 22) (by kernel_rfl) (by omega) (by omega) ?_
      obtain ⟨x1, hx1⟩ : ∃ zq, (foldF (fewF l 70))[x.i]? = some zq := ⟨_, List.getElem?_eq_getElem (by omega)⟩
      refine J.ld (T := 42) (b := p1) (off := o1 + x.i * 4) (d := 23) (v := .agg (encE x1).toArray) (by kernel_rfl) (fun w1 A1 m1 l1 => (hfr.mv m1).ld (by kernel_rfl) hx1 (by kernel_rfl)) ?_
      refine J.call (d := some 24) (by kernel_rfl) (fun w1 A1 m1 l1 => right_calls x1 nobody w1 noA) ?_
      rintro _ u3 w4 A4 rfl g3
      have m3 := g3.mv
      replace hfr := hfr.mv m3; replace ho := ho.mv m3
      refine J.run [.n] [3, 4, 5, 24] ⟨[(3, .v (.slice x.a x.k x.c)), (4, .v (.slice (some ⟨p1, o1, none⟩) ((foldF (fewF l 70)).length) c2)), (5, .v (.int .i64 ((x.i : Nat) : Int))), (24, .v (.bool (decide x1.Right)))], []⟩ [.o 20 5, .c 21, .b 1, .c 24] [.c 21, .b 1, .c 24] (by kernel_rfl) ?_
      refine J.cond (b := (decide x1.Right)) (k' := 23) (by kernel_rfl) (fun hc => ?_) (fun hc => ?_)
      · try simp only [nrm] at hc
        have hc3 := hc
        refine J.run [.n, .u, .u, .u] [4, 5, 25, 26, 27] ⟨[(4, .v (.slice (some ⟨p1, o1, none⟩) ((foldF (fewF l 70)).length) c2)), (5, .v (.int .i64 ((x.i : Nat) : Int))), (25, .v (.slice x.a x.k x.c)), (26, .v (.slice (some ⟨p1, o1, none⟩) ((foldF (fewF l 70)).length) c2)), (27, .v (.int .i64 ((x.i : Nat) : Int)))], []⟩ [.c 22, .b 1, .c 24] [.o 22 3, .b 1, .c 24] (by kernel_rfl) ?_
        refine J.idx (b := p1) (off := o1) (len := (foldF (fewF l 70)).length) (i := ((x.i : Nat) : Int)) (sz := 4) (d := 28) (by kernel_rfl) (by omega) (by omega) ?_
        refine J.ld (T := 42) (b := p1) (off := o1 + x.i * 4) (d := 29) (v := .agg (encE x1).toArray) (by kernel_rfl) (fun w1 A1 m1 l1 => (hfr.mv m1).ld (by kernel_rfl) hx1 (by kernel_rfl)) ?_
        refine J.new (T := 42) (cs := encE x1) (d := 30) (K := (.sl 1)) (by kernel_rfl) (fun b1 hb1 => ?_)
        replace ho := ho.more hb1
        refine J.append (e := 42) (sz := 4) (a := x.a) (nn := x.k) (c := x.c) (T := 22) (Tx := 22) (x := .slice (some ⟨b1, 0, none⟩) 1 1) (bytes := 48) (d := 31) (xs := (pick64 ((foldF (fewF l 70)).take x.i)).flatMap encE) (news := encE x1) (m := 1) (by kernel_rfl) (by kernel_rfl) ho.own (.inr ho) (fun w1 A1 m1 l1 => l1.src (i := 0) rfl (e := 42) (by kernel_rfl) rfl rfl) (by simp only [maxLen]; omega) (by omega) ?_
        intro a3 c3 w5 A5 hn2 m4
        replace hfr := hfr.mv m4
        replace hn2 := hn2.re (n' := x.k + 1) (ys := (pick64 ((foldF (fewF l 70)).take x.i) ++ [x1]).flatMap encE) rfl (by first | (simp only [List.flatMap_append, dbytes_flat, byteCells_u8]; done) | (rw [List.flatMap_append]; rfl))
        refine J.run [.u, .n, .n, .n, .u, .u, .u, .n] [3, 4, 5] ⟨[(3, .v (.slice a3 (x.k + 1) c3)), (4, .v (.slice (some ⟨p1, o1, none⟩) ((foldF (fewF l 70)).length) c2)), (5, .v (.int .i64 (IntKind.i64.wrap (((x.i : Nat) : Int) + 1))))], [⟨42, encE x1⟩]⟩ [.o 22 7, .b 1, .c 24] [] (by kernel_rfl) ?_
        have hw1 : IntKind.i64.wrap (((x.i : Nat) : Int) + 1) = ((x.i + 1 : Nat) : Int) := by rw [wrap_i64 (by omega) (by omega)]; try omega
        rw [hw1]
        have hpk := pick_yes hx1 hc3 (by omega); rw [← hpk] at hn2
        have hkk : x.k + 1 = (pick64 ((foldF (fewF l 70)).take (x.i + 1))).length := by rw [hpk, List.length_append, ← hk]; rfl
        exact J.again ⟨x.i + 1, x.k + 1, a3, c3⟩ [3, 4, 5] 0 (by simp only; omega) (by kernel_rfl) (by kernel_rfl) (fun w1 A1 m1 => ⟨by simp only; omega, hkk, hfr.mv m1, (hn2.mv m1).fewer (by simp)⟩)
      · try simp only [nrm] at hc
        have hc3 := hc
        refine J.run [.n, .n, .n, .u, .u, .u, .n] [3, 4, 5] ⟨[(3, .v (.slice x.a x.k x.c)), (4, .v (.slice (some ⟨p1, o1, none⟩) ((foldF (fewF l 70)).length) c2)), (5, .v (.int .i64 (IntKind.i64.wrap (((x.i : Nat) : Int) + 1))))], []⟩ [.c 23, .b 1, .c 24] [] (by kernel_rfl) ?_
        have hw2 : IntKind.i64.wrap (((x.i : Nat) : Int) + 1) = ((x.i + 1 : Nat) : Int) := by rw [wrap_i64 (by omega) (by omega)]; try omega
        rw [hw2]
        have hpk := pick_no hx1 hc3; rw [← hpk] at hk ho
        exact J.again ⟨x.i + 1, x.k, x.a, x.c⟩ [3, 4, 5] 0 (by simp only; omega) (by kernel_rfl) (by kernel_rfl) (fun w1 A1 m1 => ⟨by simp only; omega, hk, hfr.mv m1, (ho.mv m1).fewer (by simp)⟩)
    · try simp only [nrm] at hc
      have hc2 := hc
      refine J.exit (id := 0) (by kernel_rfl) (by rfl) ?_
      refine J.run [.n, .n, .u, .u, .n] [2] ⟨[(2, .v (.slice x.a x.k x.c))], []⟩ [.c 25] [.c 27] (by kernel_rfl) ?_
      have hend : pick64 ((foldF (fewF l 70)).take x.i) = fitF l := by
        rcases Nat.lt_or_ge x.i (foldF (fewF l 70)).length with h | h
        · exact pick_full (by omega)
        · exact pick_end h
      rw [hend] at hk ho; rw [hk]
      refine J.ret (v := .slice x.a ((fitF l).length) x.c) (by kernel_rfl) (by kernel_rfl) (fun w1 A1 m1 hac l1 => ⟨_, _, rfl, ((ho.re hk rfl).mv m1).new⟩)
  · rw [hc]
    try simp only [nrm] at hc
    have hc1 := hc
    refine J.run [.x, .x, .x, .u, .n] [3, 4, 5, 17] ⟨[(3, .v (.slice x.a x.k x.c)), (4, .v (.slice a2 ((foldF (fewF l 70)).length) c2)), (5, .v (.int .i64 ((x.i : Nat) : Int))), (17, .v (.bool false))], []⟩ [.o 13 5, .c 14, .c 17] [.c 14, .c 17] (by kernel_rfl) ?_
    refine J.cond (b := false) (k' := 16) (by kernel_rfl) (fun hc => absurd hc (by decide)) (fun _ => ?_)
    refine J.exit (id := 0) (by kernel_rfl) (by rfl) ?_
    refine J.run [.n, .n, .u, .u, .n] [2] ⟨[(2, .v (.slice x.a x.k x.c))], []⟩ [.c 25] [.c 27] (by kernel_rfl) ?_
    have hend : pick64 ((foldF (fewF l 70)).take x.i) = fitF l := by
      rcases Nat.lt_or_ge x.i (foldF (fewF l 70)).length with h | h
      · exact pick_full (by omega)
      · exact pick_end h
    rw [hend] at hk ho; rw [hk]
    refine J.ret (v := .slice x.a ((fitF l).length) x.c) (by kernel_rfl) (by kernel_rfl) (fun w1 A1 m1 hac l1 => ⟨_, _, rfl, ((ho.re hk rfl).mv m1).new⟩)
end Go.Proofs.Ytkgokehkobifkaa.J

/- The law's helper: shown. -/
namespace Go.Proofs.Ytkgokehkobifkaa.J
open Go Go.RowKit

theorem slt_lit (a b : Array UInt8) : slt ⟨a⟩ ⟨b⟩ = Op.bytesLess a.toList b.toList := by unfold slt; rw [ByteArray.toList_eq, ByteArray.toList_eq]
theorem seq_lit (a b : Array UInt8) : seq ⟨a⟩ ⟨b⟩ = (a.toList == b.toList) := by unfold seq; rw [ByteArray.toList_eq, ByteArray.toList_eq]

def shA : Ent := ⟨⟨#[97]⟩, ⟨#[]⟩, false, 1⟩
def shC : Ent := ⟨⟨#[99]⟩, ⟨#[]⟩, false, 2⟩
def shL : List Ent := [shA, shC]
theorem shA_right : shA.Right := by unfold Ent.Right shA; decide
theorem shC_right : shC.Right := by unfold Ent.Right shC; decide
theorem shL_fit : FitL shL := by
  refine ⟨by decide, by decide, ⟨?_, trivial⟩, fun e he => ?_⟩
  · show slt ⟨#[97]⟩ ⟨#[99]⟩ = true
    rw [slt_lit]; decide
  · simp [shL] at he
    rcases he with rfl | rfl
    · exact shA_right
    · exact shC_right
theorem sh_b : proveF 256 shL ⟨#[98]⟩ = ((true, openF 256 (shL.map entB) 0, openF 256 (shL.map entB) 1), 0) := by
  have h1 : hasKey ⟨#[98]⟩ shL = false := by simp [hasKey, shL, shA, shC, seq_lit]
  have h2 : cntLt ⟨#[98]⟩ shL = 1 := by simp [cntLt, shL, shA, shC, slt_lit, Op.bytesLess]
  unfold proveF
  rw [if_pos shL_fit, h1, h2, if_neg (by decide), if_neg (by decide)]
theorem sh_c : proveF 256 shL ⟨#[99]⟩ = ((false, openF 256 (shL.map entB) 1, opn0), 0) := by
  have h1 : hasKey ⟨#[99]⟩ shL = true := by simp [hasKey, shL, shA, shC, seq_lit]
  have h2 : cntLt ⟨#[99]⟩ shL = 1 := by simp [cntLt, shL, shA, shC, slt_lit, Op.bytesLess]
  unfold proveF
  rw [if_pos shL_fit, h1, h2, if_pos rfl]
theorem sh_d : proveF 256 shL ⟨#[100]⟩ = ((false, opn0, opn0), 5) := by
  have h1 : hasKey ⟨#[100]⟩ shL = false := by simp [hasKey, shL, shA, shC, seq_lit]
  have h2 : cntLt ⟨#[100]⟩ shL = 2 := by simp [cntLt, shL, shA, shC, slt_lit, Op.bytesLess]
  unfold proveF
  rw [if_pos shL_fit, h1, h2, if_neg (by decide), if_pos (by decide)]
def shT : Tab := ⟨0, 2, rootF 256 (shL.map entB), ⟨#[97]⟩, ⟨#[99]⟩⟩
theorem sh_x : descF 256 0 shL = (shT, 0) := by rw [descF_yes shL_fit (by decide) (by decide)]; rfl
theorem openF_leaf (bits : Int) (l : List Ent) (i : Nat) {e : Ent} (h : l[i]? = some e) : (openF bits (l.map entB) i).leaf = entB e := by simp [openF, h]
theorem open_holds {bits : Int} {l : List Ent} {i : Nat} {e : Ent} (h : l[i]? = some e) (hr : e.Right) (x : Tab) (hx : x.root = rootF bits (l.map entB)) : (openF bits (l.map entB) i).holds bits x l.length = true := by
  unfold Opn.holds holdsF
  rw [openF_leaf bits l i h, wholeF_own hr, hx]
  have := check_own bits (l.map entB) i (entB e) (by simp [h])
  rw [List.length_map] at this
  simpa [openF] using this
theorem sh_chk : seekC 256 shT 2 ⟨#[99]⟩ false (openF 256 (shL.map entB) 1) opn0 = (shC, true, 0) := by
  have h1 : (openF 256 (shL.map entB) 1).holds 256 shT 2 = true := open_holds (l := shL) (e := shC) rfl shC_right shT rfl
  have h2 : coversF shT ⟨#[99]⟩ = true := by
    unfold coversF
    rw [sle_not, sle_not]
    simp [shT, slt_lit, Op.bytesLess]
  have h3 : (pars (openF 256 (shL.map entB) 1).leaf).1 = shC := by rw [openF_leaf 256 shL 1 (e := shC) rfl, pars_own shC_right]
  unfold seekC
  rw [h1, h2, h3]
  simp [shC, seq_refl, opn0, Opn.none]
theorem openF_short (bits : Int) (l : List Ent) (i : Nat) : (openF bits (l.map entB) i).leaf.length ≤ 10000 := by
  cases h : l[i]? with
  | none => simp [openF, h]
  | some e => rw [openF_leaf bits l i h]; exact entB_len e

theorem sh_b_calls (a : Option Addr) (n c : Nat) (Ac : Nat → Prop) (W : World) (hA : ∀ k, Ac k → k < W.heap.size) (hs : Sl 4 encE Ac W a n c shL) :
    Calls Pr 25 #[.agg [.int .i64 256].toArray, .slice a n c, .string ⟨#[98]⟩] W (Ret nobody W fun v w => ∃ pv, v = .tuple #[pv, .int .i64 0] ∧ PtAt Ac w pv (true, openF 256 (shL.map entB) 0, openF 256 (shL.map entB) 1)) := by
  have := prove_calls 256 a n c shL ⟨#[98]⟩ Ac W hA hs
  rw [sh_b] at this
  exact this
theorem sh_c_calls (a : Option Addr) (n c : Nat) (Ac : Nat → Prop) (W : World) (hA : ∀ k, Ac k → k < W.heap.size) (hs : Sl 4 encE Ac W a n c shL) :
    Calls Pr 25 #[.agg [.int .i64 256].toArray, .slice a n c, .string ⟨#[99]⟩] W (Ret nobody W fun v w => ∃ pv, v = .tuple #[pv, .int .i64 0] ∧ PtAt Ac w pv (false, openF 256 (shL.map entB) 1, opn0)) := by
  have := prove_calls 256 a n c shL ⟨#[99]⟩ Ac W hA hs
  rw [sh_c] at this
  exact this
theorem sh_d_calls (a : Option Addr) (n c : Nat) (Ac : Nat → Prop) (W : World) (hA : ∀ k, Ac k → k < W.heap.size) (hs : Sl 4 encE Ac W a n c shL) :
    Calls Pr 25 #[.agg [.int .i64 256].toArray, .slice a n c, .string ⟨#[100]⟩] W (Ret nobody W fun v w => ∃ pv, v = .tuple #[pv, .int .i64 5] ∧ PtAt Ac w pv (false, opn0, opn0)) := by
  have := prove_calls 256 a n c shL ⟨#[100]⟩ Ac W hA hs
  rw [sh_d] at this
  exact this
theorem sh_x_calls (a : Option Addr) (n c : Nat) (Ac : Nat → Prop) (W : World) (hA : ∀ k, Ac k → k < W.heap.size) (hs : Sl 4 encE Ac W a n c shL) :
    Calls Pr 10 #[.agg [.int .i64 256].toArray, .int .i64 0, .slice a n c] W (Ret nobody W fun v w => v = .tuple #[.agg (encT shT).toArray, .int .i64 0]) := by
  have := describe_calls 256 0 a n c shL Ac W hA hs
  rw [sh_x] at this
  exact this
theorem shown_calls (Ac : Nat → Prop) (W : World) (hA : ∀ k, Ac k → k < W.heap.size) :
    Calls Pr 8 #[] W (Ret nobody W fun v w => v = .bool true) := by
  refine J.enter (fn := Try.f8) (n := 99) Try.func8 (by kernel_rfl) (by kernel_rfl) (by kernel_rfl) hA ?_
  refine J.run [.n, .n, .u, .n, .n, .n, .u] [14] ⟨[(14, .v (.agg [.int .i64 256].toArray))], []⟩ [.c 0] [.o 3 1, .c 4] (by kernel_rfl) ?_
  refine J.new (T := 32) (cs := [.int .i64 0]) (d := 1) (K := .ptr) (by kernel_rfl) (fun b1 hb1 => ?_)
  refine J.run [.u, .n, .n, .n, .u, .u] [1, 15, 16] ⟨[(1, .loc 0 0), (15, .v (.agg [.string (⟨#[97]⟩ : Str), .string (⟨#[]⟩ : Str), .bool false, .int .i64 1].toArray)), (16, .v (.agg [.string (⟨#[99]⟩ : Str), .string (⟨#[]⟩ : Str), .bool false, .int .i64 2].toArray))], [⟨32, [.int .i64 256]⟩]⟩ [.o 3 2, .c 4] [.o 5 2, .c 6] (by kernel_rfl) ?_
  refine J.new (T := 42) (cs := [.string (⟨#[97]⟩ : Str), .string (⟨#[]⟩ : Str), .bool false, .int .i64 1, .string (⟨#[99]⟩ : Str), .string (⟨#[]⟩ : Str), .bool false, .int .i64 2]) (d := 17) (K := (.sl 2)) (by kernel_rfl) (fun b2 hb2 => ?_)
  refine J.freeze 1 rfl (by kernel_rfl) (fun h => h) (L := ⟨42, [.string (⟨#[97]⟩ : Str), .string (⟨#[]⟩ : Str), .bool false, .int .i64 1, .string (⟨#[99]⟩ : Str), .string (⟨#[]⟩ : Str), .bool false, .int .i64 2]⟩) rfl (fun w1 A1 m1 hs1 hr1 hn1 => ?_)
  have hz : Sl 4 encE A1 w1 (some ⟨b2, 0, none⟩) 2 2 shL := Sl.ofRow (enc := encE) (l := shL) (kk := 4) (b := b2) (cs := [.string (⟨#[97]⟩ : Str), .string (⟨#[]⟩ : Str), .bool false, .int .i64 1, .string (⟨#[99]⟩ : Str), .string (⟨#[]⟩ : Str), .bool false, .int .i64 2]) hr1 hn1 rfl (fun x _ => rfl) rfl (by simp only [maxLen]; omega)
  refine J.run [.u, .n, .n, .n, .u, .u] [1, 2, 19, 20] ⟨[(1, .loc 0 0), (2, .v (.slice (some ⟨b2, 0, none⟩) 2 2)), (19, .v (.agg [.int .i64 256].toArray)), (20, .v (.slice (some ⟨b2, 0, none⟩) 2 2))], [⟨32, [.int .i64 256]⟩]⟩ [.o 5 3, .c 6] [.o 7 2, .c 8] (by kernel_rfl) ?_
  refine J.call (d := some 21) (by kernel_rfl) (fun w1 A1 m1 l1 => sh_b_calls (some ⟨b2, 0, none⟩) 2 2 A1 w1 m1.bdd (hz.mv m1)) ?_
  rintro _ u1 w2 A2 ⟨_, rfl, la1, ln1, lc1, pa1, pn1, pc1, la2, ln2, lc2, pa2, pn2, pc2, rfl, hal1, hap1, hbl1, hbp1⟩ g1
  have m2 := g1.mv
  replace hz := hz.mv m2
  refine J.run [.u, .u, .u] [1, 2, 22, 23] ⟨[(1, .loc 0 0), (2, .v (.slice (some ⟨b2, 0, none⟩) 2 2)), (22, .v (.agg [.bool true, .int .i64 0, .slice la1 ln1 lc1, .slice pa1 pn1 pc1, .int .i64 1, .slice la2 ln2 lc2, .slice pa2 pn2 pc2].toArray)), (23, .v (.int .i64 0))], [⟨32, [.int .i64 256]⟩]⟩ [.o 7 3, .c 8] [.o 7 6, .c 8] (by kernel_rfl) ?_
  refine J.new (T := 28) (cs := [.bool false, .int .i64 0, .slice none 0 0, .slice none 0 0, .int .i64 0, .slice none 0 0, .slice none 0 0]) (d := 3) (K := .ptr) (by kernel_rfl) (fun b3 hb3 => ?_)
  refine J.run [.u, .u, .n, .n, .n, .u, .u] [1, 2, 3, 4, 25, 26] ⟨[(1, .loc 0 0), (2, .v (.slice (some ⟨b2, 0, none⟩) 2 2)), (3, .loc 1 0), (4, .v (.int .i64 0)), (25, .v (.agg [.int .i64 256].toArray)), (26, .v (.slice (some ⟨b2, 0, none⟩) 2 2))], [⟨32, [.int .i64 256]⟩, ⟨28, [.bool true, .int .i64 0, .slice la1 ln1 lc1, .slice pa1 pn1 pc1, .int .i64 1, .slice la2 ln2 lc2, .slice pa2 pn2 pc2]⟩]⟩ [.o 7 7, .c 8] [.o 9 2, .c 10] (by kernel_rfl) ?_
  refine J.call (d := some 27) (by kernel_rfl) (fun w1 A1 m1 l1 => sh_c_calls (some ⟨b2, 0, none⟩) 2 2 A1 w1 m1.bdd (hz.mv m1)) ?_
  rintro _ u2 w3 A3 ⟨_, rfl, la3, ln3, lc3, pa3, pn3, pc3, la4, ln4, lc4, pa4, pn4, pc4, rfl, hal2, hap2, hbl2, hbp2⟩ g2
  have m3 := g2.mv
  replace hz := hz.mv m3; replace hal1 := hal1.mv m3; replace hap1 := hap1.mv m3; replace hbl1 := hbl1.mv m3; replace hbp1 := hbp1.mv m3
  refine J.run [.u, .u, .u] [1, 2, 3, 4, 28, 29] ⟨[(1, .loc 0 0), (2, .v (.slice (some ⟨b2, 0, none⟩) 2 2)), (3, .loc 1 0), (4, .v (.int .i64 0)), (28, .v (.agg [.bool false, .int .i64 1, .slice la3 ln3 lc3, .slice pa3 pn3 pc3, .int .i64 0, .slice la4 ln4 lc4, .slice pa4 pn4 pc4].toArray)), (29, .v (.int .i64 0))], [⟨32, [.int .i64 256]⟩, ⟨28, [.bool true, .int .i64 0, .slice la1 ln1 lc1, .slice pa1 pn1 pc1, .int .i64 1, .slice la2 ln2 lc2, .slice pa2 pn2 pc2]⟩]⟩ [.o 9 3, .c 10] [.o 9 6, .c 10] (by kernel_rfl) ?_
  refine J.new (T := 28) (cs := [.bool false, .int .i64 0, .slice none 0 0, .slice none 0 0, .int .i64 0, .slice none 0 0, .slice none 0 0]) (d := 5) (K := .ptr) (by kernel_rfl) (fun b4 hb4 => ?_)
  refine J.run [.u, .u, .n, .n, .n, .u, .u] [1, 2, 3, 4, 5, 6, 31, 32] ⟨[(1, .loc 0 0), (2, .v (.slice (some ⟨b2, 0, none⟩) 2 2)), (3, .loc 1 0), (4, .v (.int .i64 0)), (5, .loc 2 0), (6, .v (.int .i64 0)), (31, .v (.agg [.int .i64 256].toArray)), (32, .v (.slice (some ⟨b2, 0, none⟩) 2 2))], [⟨32, [.int .i64 256]⟩, ⟨28, [.bool true, .int .i64 0, .slice la1 ln1 lc1, .slice pa1 pn1 pc1, .int .i64 1, .slice la2 ln2 lc2, .slice pa2 pn2 pc2]⟩, ⟨28, [.bool false, .int .i64 1, .slice la3 ln3 lc3, .slice pa3 pn3 pc3, .int .i64 0, .slice la4 ln4 lc4, .slice pa4 pn4 pc4]⟩]⟩ [.o 9 7, .c 10] [.o 11 2, .c 12] (by kernel_rfl) ?_
  refine J.call (d := some 33) (by kernel_rfl) (fun w1 A1 m1 l1 => sh_d_calls (some ⟨b2, 0, none⟩) 2 2 A1 w1 m1.bdd (hz.mv m1)) ?_
  rintro _ u3 w4 A4 ⟨_, rfl, la5, ln5, lc5, pa5, pn5, pc5, la6, ln6, lc6, pa6, pn6, pc6, rfl, hal3, hap3, hbl3, hbp3⟩ g3
  have m4 := g3.mv
  replace hz := hz.mv m4; replace hal1 := hal1.mv m4; replace hap1 := hap1.mv m4; replace hbl1 := hbl1.mv m4; replace hbp1 := hbp1.mv m4; replace hal2 := hal2.mv m4; replace hap2 := hap2.mv m4; replace hbl2 := hbl2.mv m4; replace hbp2 := hbp2.mv m4
  refine J.run [.u, .u, .u] [1, 2, 3, 4, 5, 6, 34, 35] ⟨[(1, .loc 0 0), (2, .v (.slice (some ⟨b2, 0, none⟩) 2 2)), (3, .loc 1 0), (4, .v (.int .i64 0)), (5, .loc 2 0), (6, .v (.int .i64 0)), (34, .v (.agg [.bool false, .int .i64 0, .slice la5 ln5 lc5, .slice pa5 pn5 pc5, .int .i64 0, .slice la6 ln6 lc6, .slice pa6 pn6 pc6].toArray)), (35, .v (.int .i64 5))], [⟨32, [.int .i64 256]⟩, ⟨28, [.bool true, .int .i64 0, .slice la1 ln1 lc1, .slice pa1 pn1 pc1, .int .i64 1, .slice la2 ln2 lc2, .slice pa2 pn2 pc2]⟩, ⟨28, [.bool false, .int .i64 1, .slice la3 ln3 lc3, .slice pa3 pn3 pc3, .int .i64 0, .slice la4 ln4 lc4, .slice pa4 pn4 pc4]⟩]⟩ [.o 11 3, .c 12] [.o 11 6, .c 12] (by kernel_rfl) ?_
  refine J.new (T := 28) (cs := [.bool false, .int .i64 0, .slice none 0 0, .slice none 0 0, .int .i64 0, .slice none 0 0, .slice none 0 0]) (d := 7) (K := .ptr) (by kernel_rfl) (fun b5 hb5 => ?_)
  refine J.run [.u, .u, .n, .n, .n, .u, .u] [1, 3, 4, 5, 6, 8, 37, 38] ⟨[(1, .loc 0 0), (3, .loc 1 0), (4, .v (.int .i64 0)), (5, .loc 2 0), (6, .v (.int .i64 0)), (8, .v (.int .i64 5)), (37, .v (.agg [.int .i64 256].toArray)), (38, .v (.slice (some ⟨b2, 0, none⟩) 2 2))], [⟨32, [.int .i64 256]⟩, ⟨28, [.bool true, .int .i64 0, .slice la1 ln1 lc1, .slice pa1 pn1 pc1, .int .i64 1, .slice la2 ln2 lc2, .slice pa2 pn2 pc2]⟩, ⟨28, [.bool false, .int .i64 1, .slice la3 ln3 lc3, .slice pa3 pn3 pc3, .int .i64 0, .slice la4 ln4 lc4, .slice pa4 pn4 pc4]⟩, ⟨28, [.bool false, .int .i64 0, .slice la5 ln5 lc5, .slice pa5 pn5 pc5, .int .i64 0, .slice la6 ln6 lc6, .slice pa6 pn6 pc6]⟩]⟩ [.o 11 7, .c 12] [.o 13 2, .c 14] (by kernel_rfl) ?_
  refine J.call (d := some 39) (by kernel_rfl) (fun w1 A1 m1 l1 => sh_x_calls (some ⟨b2, 0, none⟩) 2 2 A1 w1 m1.bdd (hz.mv m1)) ?_
  rintro _ u4 w5 A5 rfl g4
  have m5 := g4.mv
  replace hz := hz.mv m5; replace hal1 := hal1.mv m5; replace hap1 := hap1.mv m5; replace hbl1 := hbl1.mv m5; replace hbp1 := hbp1.mv m5; replace hal2 := hal2.mv m5; replace hap2 := hap2.mv m5; replace hbl2 := hbl2.mv m5; replace hbp2 := hbp2.mv m5; replace hal3 := hal3.mv m5; replace hap3 := hap3.mv m5; replace hbl3 := hbl3.mv m5; replace hbp3 := hbp3.mv m5
  refine J.run [.u, .u, .u] [1, 3, 4, 5, 6, 8, 40, 41] ⟨[(1, .loc 0 0), (3, .loc 1 0), (4, .v (.int .i64 0)), (5, .loc 2 0), (6, .v (.int .i64 0)), (8, .v (.int .i64 5)), (40, .v (.agg (encT shT).toArray)), (41, .v (.int .i64 0))], [⟨32, [.int .i64 256]⟩, ⟨28, [.bool true, .int .i64 0, .slice la1 ln1 lc1, .slice pa1 pn1 pc1, .int .i64 1, .slice la2 ln2 lc2, .slice pa2 pn2 pc2]⟩, ⟨28, [.bool false, .int .i64 1, .slice la3 ln3 lc3, .slice pa3 pn3 pc3, .int .i64 0, .slice la4 ln4 lc4, .slice pa4 pn4 pc4]⟩, ⟨28, [.bool false, .int .i64 0, .slice la5 ln5 lc5, .slice pa5 pn5 pc5, .int .i64 0, .slice la6 ln6 lc6, .slice pa6 pn6 pc6]⟩]⟩ [.o 13 3, .c 14] [.o 13 6, .c 14] (by kernel_rfl) ?_
  refine J.new (T := 36) (cs := [.int .i64 0, .int .i64 0, .int .u8 0, .int .u8 0, .int .u8 0, .int .u8 0, .int .u8 0, .int .u8 0, .int .u8 0, .int .u8 0, .int .u8 0, .int .u8 0, .int .u8 0, .int .u8 0, .int .u8 0, .int .u8 0, .int .u8 0, .int .u8 0, .int .u8 0, .int .u8 0, .int .u8 0, .int .u8 0, .int .u8 0, .int .u8 0, .int .u8 0, .int .u8 0, .int .u8 0, .int .u8 0, .int .u8 0, .int .u8 0, .int .u8 0, .int .u8 0, .int .u8 0, .int .u8 0, .string (⟨#[]⟩ : Str), .string (⟨#[]⟩ : Str)]) (d := 9) (K := .ptr) (by kernel_rfl) (fun b6 hb6 => ?_)
  refine J.run [.u, .u, .n, .n, .n, .u, .u, .u] [3, 4, 5, 6, 8, 43, 44, 45] ⟨[(3, .loc 1 0), (4, .v (.int .i64 0)), (5, .loc 2 0), (6, .v (.int .i64 0)), (8, .v (.int .i64 5)), (43, .v (.agg [.int .i64 256].toArray)), (44, .v (.agg (encT shT).toArray)), (45, .v (.agg [.bool false, .int .i64 1, .slice la3 ln3 lc3, .slice pa3 pn3 pc3, .int .i64 0, .slice la4 ln4 lc4, .slice pa4 pn4 pc4].toArray))], [⟨32, [.int .i64 256]⟩, ⟨28, [.bool true, .int .i64 0, .slice la1 ln1 lc1, .slice pa1 pn1 pc1, .int .i64 1, .slice la2 ln2 lc2, .slice pa2 pn2 pc2]⟩, ⟨28, [.bool false, .int .i64 1, .slice la3 ln3 lc3, .slice pa3 pn3 pc3, .int .i64 0, .slice la4 ln4 lc4, .slice pa4 pn4 pc4]⟩, ⟨28, [.bool false, .int .i64 0, .slice la5 ln5 lc5, .slice pa5 pn5 pc5, .int .i64 0, .slice la6 ln6 lc6, .slice pa6 pn6 pc6]⟩, ⟨36, encT shT⟩]⟩ [.o 13 7, .c 14] [.o 15 3, .c 16] (by kernel_rfl) ?_
  have hla : ln3 = (openF 256 (shL.map entB) 1).leaf.length := hal2.len; have hlo := openF_short 256 shL 1
  have hlb : ln4 = opn0.leaf.length := hbl2.len; have hlz : opn0.leaf.length = 0 := rfl
  refine J.call (d := some 46) (by kernel_rfl) (fun w1 A1 m1 l1 => (by have q := seekCheck_calls 256 shT 2 rfl (by decide) ⟨#[99]⟩ false (openF 256 (shL.map entB) 1) opn0 la3 ln3 lc3 pa3 pn3 pc3 la4 ln4 lc4 pa4 pn4 pc4 (by omega) (by omega) A1 w1 m1.bdd (hal2.mv m1) (hap2.mv m1) (hbl2.mv m1) (hbp2.mv m1); rw [sh_chk] at q; exact q)) ?_
  rintro _ u5 w6 A6 rfl g5
  have m6 := g5.mv
  replace hz := hz.mv m6; replace hal1 := hal1.mv m6; replace hap1 := hap1.mv m6; replace hbl1 := hbl1.mv m6; replace hbp1 := hbp1.mv m6; replace hal2 := hal2.mv m6; replace hap2 := hap2.mv m6; replace hbl2 := hbl2.mv m6; replace hbp2 := hbp2.mv m6; replace hal3 := hal3.mv m6; replace hap3 := hap3.mv m6; replace hbl3 := hbl3.mv m6; replace hbp3 := hbp3.mv m6
  refine J.run [.u, .u, .u, .u] [3, 4, 5, 6, 8, 47, 48, 49] ⟨[(3, .loc 1 0), (4, .v (.int .i64 0)), (5, .loc 2 0), (6, .v (.int .i64 0)), (8, .v (.int .i64 5)), (47, .v (.agg (encE shC).toArray)), (48, .v (.bool true)), (49, .v (.int .i64 0))], [⟨32, [.int .i64 256]⟩, ⟨28, [.bool true, .int .i64 0, .slice la1 ln1 lc1, .slice pa1 pn1 pc1, .int .i64 1, .slice la2 ln2 lc2, .slice pa2 pn2 pc2]⟩, ⟨28, [.bool false, .int .i64 1, .slice la3 ln3 lc3, .slice pa3 pn3 pc3, .int .i64 0, .slice la4 ln4 lc4, .slice pa4 pn4 pc4]⟩, ⟨28, [.bool false, .int .i64 0, .slice la5 ln5 lc5, .slice pa5 pn5 pc5, .int .i64 0, .slice la6 ln6 lc6, .slice pa6 pn6 pc6]⟩, ⟨36, encT shT⟩]⟩ [.o 15 4, .c 16] [.o 15 8, .c 16] (by kernel_rfl) ?_
  refine J.new (T := 42) (cs := [.string (⟨#[]⟩ : Str), .string (⟨#[]⟩ : Str), .bool false, .int .i64 0]) (d := 11) (K := .ptr) (by kernel_rfl) (fun b7 hb7 => ?_)
  refine J.run [.u, .u, .u, .n, .n, .n, .u, .u, .u, .w, .w, .w, .w, .u, .u, .w, .w, .w, .w, .u, .u, .w, .w, .u, .u, .w, .w, .w, .u, .u, .w, .w, .w, .w, .u, .u, .w, .w, .u, .u, .w, .w, .u, .u, .w, .u, .u, .w, .w, .w, .u, .u] [13, 95] ⟨[(13, .v (.int .i64 0)), (95, .v (.bool (shC.seq == 2)))], [⟨32, [.int .i64 256]⟩, ⟨28, [.bool true, .int .i64 0, .slice la1 ln1 lc1, .slice pa1 pn1 pc1, .int .i64 1, .slice la2 ln2 lc2, .slice pa2 pn2 pc2]⟩, ⟨28, [.bool false, .int .i64 1, .slice la3 ln3 lc3, .slice pa3 pn3 pc3, .int .i64 0, .slice la4 ln4 lc4, .slice pa4 pn4 pc4]⟩, ⟨28, [.bool false, .int .i64 0, .slice la5 ln5 lc5, .slice pa5 pn5 pc5, .int .i64 0, .slice la6 ln6 lc6, .slice pa6 pn6 pc6]⟩, ⟨36, encT shT⟩, ⟨42, encE shC⟩]⟩ [.o 15 9, .c 16] [.o 17 46, .c 18] (by kernel_rfl) ?_
  rcases Bool.eq_false_or_eq_true (shC.seq == 2) with hc | hc
  · rw [hc]
    try simp only [nrm] at hc
    have hc1 := hc
    refine J.run [.w, .w, .u, .u, .n] [0] ⟨[(0, .v (.bool true))], [⟨32, [.int .i64 256]⟩, ⟨28, [.bool true, .int .i64 0, .slice la1 ln1 lc1, .slice pa1 pn1 pc1, .int .i64 1, .slice la2 ln2 lc2, .slice pa2 pn2 pc2]⟩, ⟨28, [.bool false, .int .i64 1, .slice la3 ln3 lc3, .slice pa3 pn3 pc3, .int .i64 0, .slice la4 ln4 lc4, .slice pa4 pn4 pc4]⟩, ⟨28, [.bool false, .int .i64 0, .slice la5 ln5 lc5, .slice pa5 pn5 pc5, .int .i64 0, .slice la6 ln6 lc6, .slice pa6 pn6 pc6]⟩, ⟨36, encT shT⟩, ⟨42, encE shC⟩]⟩ [.o 17 46, .c 18] [.c 18] (by kernel_rfl) ?_
    refine J.ret (v := .bool true) (by kernel_rfl) (by kernel_rfl) (fun w1 A1 m1 hac l1 => rfl)
  · rw [hc]
    try simp only [nrm] at hc
    have hc1 := hc
    refine J.run [.x, .x, .u, .u, .n] [0] ⟨[(0, .v (.bool false))], [⟨32, [.int .i64 256]⟩, ⟨28, [.bool true, .int .i64 0, .slice la1 ln1 lc1, .slice pa1 pn1 pc1, .int .i64 1, .slice la2 ln2 lc2, .slice pa2 pn2 pc2]⟩, ⟨28, [.bool false, .int .i64 1, .slice la3 ln3 lc3, .slice pa3 pn3 pc3, .int .i64 0, .slice la4 ln4 lc4, .slice pa4 pn4 pc4]⟩, ⟨28, [.bool false, .int .i64 0, .slice la5 ln5 lc5, .slice pa5 pn5 pc5, .int .i64 0, .slice la6 ln6 lc6, .slice pa6 pn6 pc6]⟩, ⟨36, encT shT⟩, ⟨42, encE shC⟩]⟩ [.o 17 46, .c 18] [.c 18] (by kernel_rfl) ?_
    refine J.ret (v := .bool false) (by kernel_rfl) (by kernel_rfl) (fun w1 A1 m1 hac l1 => absurd rfl hc1)
end Go.Proofs.Ytkgokehkobifkaa.J

/- Slices that are handed in and appended to. -/
namespace Go.Proofs.Ytkgokehkobifkaa.J
open Go Go.RowKit

/-- What a call hands back that has appended to the slice oa: the same block or a new one. -/
def Grown (e : TypeId) (k : Nat) (W w : World) (oa a : Option Addr) (n c : Nat) (xs : List Value) : Prop := Nw 0 e k [] (fun _ => True) w a n c xs ∧ ∀ x, Eb a x → Eb oa x ∨ W.heap.size ≤ x

theorem Nw.lt_blk {N : Nat} {e : TypeId} {k : Nat} {ρ : List Nat} {A : Nat → Prop} {w : World} {a : Option Addr} {n c : Nat} {xs : List Value} (h : Nw N e k ρ A w a n c xs) : ∀ x, Eb a x → x < w.heap.size := fun x hx => (h.own_blk x hx).2.2.2

/-- It is taken over. -/
theorem Grown.take {N : Nat} {e : TypeId} {k : Nat} {ρ : List Nat} {A A1 : Nat → Prop} {w0 w1 w2 : World} {oa a : Option Addr} {on oc n c : Nat} {xs0 xs : List Value} (h : Grown e k w1 w2 oa a n c xs) (ho : Nw N e k ρ A w0 oa on oc xs0) (hN : N ≤ w1.heap.size) (hρ : ∀ k, k ∈ ρ → k < w1.heap.size) : Nw N e k ρ (Gr A1 a) w2 a n c xs := by
  obtain ⟨⟨h1, h2 | ⟨g, cur, rfl, h3, h4, h5, h6⟩⟩, hb⟩ := h
  · exact ⟨h1, .inl h2⟩
  · have hg := hb g ⟨_, rfl, rfl⟩
    refine ⟨h1, .inr ⟨g, cur, rfl, ?_, ?_, .inr ⟨_, rfl, rfl⟩, h6⟩⟩
    · rcases hg with hg | hg
      · exact (ho.own_blk g hg).1
      · omega
    · intro hm
      rcases hg with hg | hg
      · exact (ho.own_blk g hg).2.1 hm
      · have := hρ g hm; omega

theorem CgX.grabN {N : Nat} {e : TypeId} {k : Nat} {W : World} {ρ : List Nat} {A A1 : Nat → Prop} {w0 w1 w2 : World} {oa a : Option Addr} {on oc n c : Nat} {xs0 xs : List Value} (g : CgX (Eb oa) W ρ A A1 w0 w1 w2) (ho : Nw N e k ρ A w0 oa on oc xs0) (h : Grown e k w1 w2 oa a n c xs) : Mv (fun k => Lb ρ k ∨ Eb oa k) A (Gr A1 a) w0 w2 where
  size := g.mv.size
  same := g.mv.same
  sub := g.mv.sub
  dn := fun k hk hh => hh.elim (g.mv.dn k hk) (fun hx => by
    rcases h.2 k hx with h' | h'
    · exact (ho.own_blk k h').2.2.1
    · have := g.le; omega)
  up := fun k hk hh hn => .inl (g.mv.up k hk hh hn)
  bdd := fun k hk => hk.elim (g.mv.bdd k) (fun hx => h.1.lt_blk k hx)

section
variable {P : Program} {B : Code} {Q : Exit → Act → World → Prop} {n : Nat} {W : World} {Ac M A : Nat → Prop} {s : SS} {ρ : List Nat} {w0 : World} {r t : List It} {k j : Nat}

theorem J.grabN {e : TypeId} {kk : Nat} {w1 : World} {oa a : Option Addr} {nn c : Nat} {xs : List Value} (hn : Grown e kk w1 w0 oa a nn c xs) (h : J P B Q n W Ac M t s ρ (Gr A a) w0) : J P B Q n W Ac M t s ρ A w0 :=
  J.grabE (Eb a) (fun x hx => hn.1.lt_blk x hx) h

/-- An append to a slice that was handed in: its block may lie below the call's start, if the call may write into it. -/
theorem J.appendN {N : Nat} {T Tx e : TypeId} {a : Option Addr} {nn c d sz bytes m : Nat} {x : Value} {xs news : List Value} (hx : appOf B s.env ρ n k j = some (T, Tx, a, nn, c, x, d)) (hT : elemI P T = some (e, sz, bytes))
    (hN : N ≤ W.heap.size) (hM : ∀ k, Eb a k → k < W.heap.size → M k)
    (ho : Nw N e sz ρ A w0 a nn c xs) (hs : ∀ w1 A1, Mv (Lb ρ) A A1 w0 w1 → Locs s.mem ρ w1 → Src P sz Tx x m news w1) (hm : nn + m ≤ maxLen) (hb : (nn + m) * bytes ≤ 140737488355328)
    (h : ∀ a' c' w' A', Nw N e sz ρ A' w' a' (nn + m) c' (xs ++ news) → (∀ k, Eb a' k → Eb a k ∨ w0.heap.size ≤ k) → Mv (fun k => Lb ρ k ∨ blk A a k) A A' w0 w' → J P B Q n W Ac M (.o k (j + 1) :: r) ⟨put s.env d (.v (.slice a' (nn + m) c')), s.mem⟩ ρ A' w') :
    J P B Q n W Ac M (.o k j :: r) s ρ A w0 := by
  obtain ⟨o, hno, hd, hdn, hrun⟩ := appOf_spec hx
  refine J.op hno fun act w ok => ?_
  obtain ⟨a', c', w', A', hr, hown, hmv, hAA, h1, h2, h3, hdr, hbk, hsame⟩ := run_append (ty := o.type) hT (.inl (ho.mv ok.mv)) (.inr (ho.mv ok.mv)) (hs w _ ok.mv ok.locs) hm hb (Nat.le_trans hN ok.sn.size) ok.mv.bdd (fun k hk => ok.locs.lt hk)
  unfold Oper.wp
  rw [hrun P act w ok.fits, hr]
  simp only [Result.andThen_ok, Oper.upon, hd]
  have hblk : ∀ k, k < w0.heap.size → (blk (Av A ρ) a k → blk A a k) := fun k hk hb => ⟨ok.mv.dn k hk hb.1, hb.2⟩
  have hMv : Mv (fun k => Lb ρ k ∨ blk A a k) A A' w0 w' := {
    size := Nat.le_trans ok.size hmv.size
    same := fun k hk hn => by
      rw [hmv.same k (Nat.lt_of_lt_of_le hk ok.size) (fun hb => hn (.inr (hblk k hk hb)))]
      exact ok.same k hk (fun hm => hn (.inl hm))
    sub := fun k hk hl => hk.elim (fun h => ok.loc k h hl) (fun h => h.1)
    dn := fun k hk h => ok.mv.dn k hk (hmv.dn k (Nat.lt_of_lt_of_le hk ok.size) h)
    up := fun k hk h hn => hmv.up k (Nat.lt_of_lt_of_le hk ok.size) (.inl h) (fun hb => hn (.inr (hblk k hk hb)))
    bdd := hmv.bdd }
  have hnew : ∀ k, Eb a' k → Eb a k ∨ w0.heap.size ≤ k := fun k hk => by
    obtain ⟨x', hx', he⟩ := hk
    rcases hbk x' hx' with ⟨x2, h4, h5⟩ | h4
    · exact .inl ⟨x2, h4, h5.trans he⟩
    · exact .inr (by have := ok.size; omega)
  have hρ' : ∀ k, k ∈ ρ → w'.heap[k]? = w.heap[k]? := fun k hk => hsame k (ok.locs.lt hk) (fun hh => hh.2.2 hk)
  refine h a' c' w' A' hown hnew hMv _ _ (Ok.put (s := s) (x := .v (.slice a' (nn + m) c')) ?_ hdn (plain_grd rfl) rfl)
  exact {
    fits := ok.fits
    locs := ⟨ok.locs.len, ok.locs.nodup, fun i L hi => by
      have hm : ρ.getD i 0 ∈ ρ := by
        have : i < ρ.length := by rw [ok.locs.len]; exact (List.getElem?_eq_some_iff.1 hi).1
        simp [List.getD, List.getElem?_eq_getElem this]
      rw [hρ' _ hm]
      exact ok.locs.row hi⟩
    sn := { os := h1.trans ok.sn.os, tape := h2.trans ok.sn.tape, output := h3.trans ok.sn.output, drawn := Nat.le_trans ok.sn.drawn hdr, size := Nat.le_trans ok.sn.size hmv.size
            same := fun k hk hM' => by
              rw [hsame k (Nat.lt_of_lt_of_le hk ok.sn.size) (fun hh => hM' (hM k hh.1.2 hk))]
              exact ok.sn.same k hk hM' }
    size := Nat.le_refl _
    same := fun _ _ _ => rfl
    loc := fun k hk _ => hAA k (.inr hk)
    bdd := hmv.bdd
    fresh := ok.fresh
    sub := fun k hk => hAA k (.inl (ok.sub k hk))
    big := Nat.le_trans ok.sn.size hmv.size
    acb := ok.acb }
end
end Go.Proofs.Ytkgokehkobifkaa.J

/- Package tree: beside, Range. -/
namespace Go.Proofs.Ytkgokehkobifkaa.J
open Go Go.RowKit

/-- The roots of the parts without the leaves i to j - 1. -/
def besideF (bits : Int) (ls : List (List UInt8)) (i j : Int) : List Dg :=
  if j ≤ 0 ∨ ((ls.length : Nat) : Int) ≤ i then [rootF bits ls]
  else if h1 : ls.length ≤ 1 then []
  else besideF bits (ls.take (half ls.length)) i j ++ besideF bits (ls.drop (half ls.length)) (i - ((half ls.length : Nat) : Int)) (j - ((half ls.length : Nat) : Int))
termination_by ls.length
decreasing_by
  · have := half_lt (n := ls.length) (by omega); rw [List.length_take]; omega
  · have := half_lt (n := ls.length) (by omega); rw [List.length_drop]; omega
theorem besideF_out {bits : Int} {ls : List (List UInt8)} {i j : Int} (h : j ≤ 0 ∨ ((ls.length : Nat) : Int) ≤ i) : besideF bits ls i j = [rootF bits ls] := by rw [besideF, if_pos h]
theorem besideF_one {bits : Int} {ls : List (List UInt8)} {i j : Int} (h : ¬ (j ≤ 0 ∨ ((ls.length : Nat) : Int) ≤ i)) (h1 : ls.length ≤ 1) : besideF bits ls i j = [] := by rw [besideF, if_neg h, dif_pos h1]
theorem besideF_two {bits : Int} {ls : List (List UInt8)} {i j : Int} (h : ¬ (j ≤ 0 ∨ ((ls.length : Nat) : Int) ≤ i)) (h1 : 2 ≤ ls.length) : besideF bits ls i j = besideF bits (ls.take (half ls.length)) i j ++ besideF bits (ls.drop (half ls.length)) (i - ((half ls.length : Nat) : Int)) (j - ((half ls.length : Nat) : Int)) := by rw [besideF, if_neg h, dif_neg (by omega)]
theorem besideF_len (bits : Int) : ∀ (N : Nat) (ls : List (List UInt8)) (i j : Int), ls.length < N → 1 ≤ ls.length → (besideF bits ls i j).length ≤ ls.length
  | 0, _, _, _, h, _ => absurd h (Nat.not_lt_zero _)
  | N + 1, ls, i, j, h, hp => by
    by_cases h1 : j ≤ 0 ∨ ((ls.length : Nat) : Int) ≤ i
    · rw [besideF_out h1]; simpa using hp
    · by_cases h2 : ls.length ≤ 1
      · rw [besideF_one h1 h2]; simp
      · have hh := half_lt (n := ls.length) (by omega)
        have e1 : (ls.take (half ls.length)).length = half ls.length := by rw [List.length_take]; omega
        have e2 : (ls.drop (half ls.length)).length = ls.length - half ls.length := List.length_drop
        rw [besideF_two h1 (by omega), List.length_append]
        have i1 := besideF_len bits N (ls.take (half ls.length)) i j (by omega) (by omega)
        have i2 := besideF_len bits N (ls.drop (half ls.length)) (i - ((half ls.length : Nat) : Int)) (j - ((half ls.length : Nat) : Int)) (by omega) (by omega)
        omega
theorem besideF_le (bits : Int) (ls : List (List UInt8)) (i j : Int) (h : 1 ≤ ls.length) : (besideF bits ls i j).length ≤ ls.length := besideF_len bits _ ls i j (Nat.lt_succ_self _) h
theorem Nw.lower {N N' : Nat} {e : TypeId} {k : Nat} {ρ ρ' : List Nat} {A A' : Nat → Prop} {w : World} {a : Option Addr} {n c : Nat} {xs : List Value} (h : Nw N e k ρ A w a n c xs) (hN : N' ≤ N) (hρ : ∀ x, x ∈ ρ' → x ∈ ρ) (hA : ∀ x, Eb a x → A' x) : Nw N' e k ρ' A' w a n c xs := by
  obtain ⟨h1, h2 | ⟨g, cur, rfl, h3, h4, h5, h6⟩⟩ := h
  · exact ⟨h1, .inl h2⟩
  · exact ⟨h1, .inr ⟨g, cur, rfl, by omega, fun h => h4 (hρ _ h), hA g ⟨_, rfl, rfl⟩, h6⟩⟩
theorem Nw.grown {N : Nat} {e : TypeId} {k : Nat} {ρ : List Nat} {A : Nat → Prop} {W w : World} {oa a : Option Addr} {n c : Nat} {xs : List Value} (h : Nw N e k ρ A w a n c xs) (hb : ∀ x, Eb a x → Eb oa x ∨ W.heap.size ≤ x) : Grown e k W w oa a n c xs :=
  ⟨h.lower (Nat.zero_le _) (fun _ h => nomatch h) (fun _ _ => trivial), hb⟩
theorem Nw.len {α : Type} {N : Nat} {e : TypeId} {k : Nat} {ρ : List Nat} {A : Nat → Prop} {w : World} {a : Option Addr} {n c : Nat} {enc : α → List Value} {l : List α} (h : Nw N e k ρ A w a n c (l.flatMap enc)) (hk : ∀ x ∈ l, (enc x).length = k) (hkp : 0 < k) : n = l.length := (h.any hk hkp).len

theorem beside_step (bits : Int) (oa : Option Addr) (on oc : Nat) (xs : List Dg) (a : Option Addr) (n c : Nat) (ls : List (List UInt8)) (i j : Int) (ih : ∀ (oa : Option Addr) (on oc : Nat) (xs : List Dg) (a : Option Addr) (n c : Nat) (l2 : List (List UInt8)) (i2 j2 : Int), l2.length < ls.length → 1 ≤ l2.length → Short l2 → l2.length ≤ 1000000 → on + l2.length ≤ 2000000 → ((l2.length : Nat) : Int) - 1000000000 ≤ i2 → i2 ≤ 1000000000 → ((l2.length : Nat) : Int) - 1000000000 ≤ j2 → j2 ≤ 1000000000 → ∀ (Ac : Nat → Prop) (W : World), (∀ k, Ac k → k < W.heap.size) → Nw 0 34 32 [] Ac W oa on oc (xs.flatMap dcells) → Rows Ac W a n c l2 → Calls Pr 86 #[.agg [.int .i64 bits].toArray, .slice oa on oc, .slice a n c, .int .i64 i2, .int .i64 j2] W (Ret (Eb oa) W fun v w => ∃ a' n' c', v = .slice a' n' c' ∧ Grown 34 32 W w oa a' n' c' ((xs ++ besideF bits l2 i2 j2).flatMap dcells))) (hp : 1 ≤ ls.length) (hsh : Short ls) (hn : ls.length ≤ 1000000) (hon : on + ls.length ≤ 2000000) (hi1 : ((ls.length : Nat) : Int) - 1000000000 ≤ i) (hi2 : i ≤ 1000000000) (hj1 : ((ls.length : Nat) : Int) - 1000000000 ≤ j) (hj2 : j ≤ 1000000000) (Ac : Nat → Prop) (W : World) (hA : ∀ k, Ac k → k < W.heap.size) (ho : Nw 0 34 32 [] Ac W oa on oc (xs.flatMap dcells)) (hs : Rows Ac W a n c ls) :
    Calls Pr 86 #[.agg [.int .i64 bits].toArray, .slice oa on oc, .slice a n c, .int .i64 i, .int .i64 j] W (Ret (Eb oa) W fun v w => ∃ a' n' c', v = .slice a' n' c' ∧ Grown 34 32 W w oa a' n' c' ((xs ++ besideF bits ls i j).flatMap dcells)) := by
  refine J.enter (fn := Try.f86) (n := 55) Try.func86 (by kernel_rfl) (by kernel_rfl) (by kernel_rfl) hA ?_
  have hlen := hs.len; have hle := hs.le; have hcap := hs.cap; simp only [maxLen] at hcap; have hxl := ho.len (fun x _ => rfl) (by decide)
  have hg0 : ∀ x, Eb oa x → Eb oa x ∨ W.heap.size ≤ x := fun _ h => .inl h
  have hik : ∀ (z : Int) (k : Nat), k < ls.length → ((ls.length : Nat) : Int) - 1000000000 ≤ z → z ≤ 1000000000 → IntKind.i64.wrap (z - ((k : Nat) : Int)) = z - ((k : Nat) : Int) := fun z k hk h1 h2 => wrap_i64 (by omega) (by omega)
  refine J.run [.n, .n] [0, 1, 2, 3, 4] ⟨[(0, .v (.agg [.int .i64 bits].toArray)), (1, .v (.slice oa on oc)), (2, .v (.slice a n c)), (3, .v (.int .i64 i)), (4, .v (.int .i64 j))], []⟩ [.c 0] [.o 1 0, .c 2] (by kernel_rfl) ?_
  refine J.new (T := 32) (cs := [.int .i64 bits]) (d := 5) (K := .ptr) (by kernel_rfl) (fun b1 hb1 => ?_)
  replace ho := ho.more hb1
  refine J.run [.u, .n, .n, .n, .n, .n, .u, .u, .u] [1, 2, 3, 4, 5, 15] ⟨[(1, .v (.slice oa on oc)), (2, .v (.slice a n c)), (3, .v (.int .i64 i)), (4, .v (.int .i64 j)), (5, .loc 0 0), (15, .v (.bool (decide (j ≤ 0))))], [⟨32, [.int .i64 bits]⟩]⟩ [.o 1 1, .c 2] [.o 5 3, .c 6, .b 0, .c 17] (by kernel_rfl) ?_
  rcases Bool.eq_false_or_eq_true (decide (j ≤ 0)) with hc | hc
  · rw [hc]
    try simp only [nrm] at hc
    have hc1 := hc
    refine J.run [.x, .x, .x, .x, .u, .u, .n] [1, 2, 3, 4, 5, 12] ⟨[(1, .v (.slice oa on oc)), (2, .v (.slice a n c)), (3, .v (.int .i64 i)), (4, .v (.int .i64 j)), (5, .loc 0 0), (12, .v (.bool true))], [⟨32, [.int .i64 bits]⟩]⟩ [.o 5 3, .c 6, .b 0, .c 17] [.c 6, .b 0, .c 17] (by kernel_rfl) ?_
    refine J.cond (b := true) (k' := 10) (by kernel_rfl) (fun _ => ?_) (fun hc => absurd hc (by decide))
    refine J.run [.n, .n, .u, .u, .u] [21, 22, 23] ⟨[(21, .v (.slice oa on oc)), (22, .v (.agg [.int .i64 bits].toArray)), (23, .v (.slice a n c))], [⟨32, [.int .i64 bits]⟩]⟩ [.c 7, .b 0, .c 17] [.o 8 3, .c 9, .b 0, .c 17] (by kernel_rfl) ?_
    refine J.call (d := some 24) (by kernel_rfl) (fun w1 A1 m1 l1 => root_calls bits _ a n c ls (Nat.lt_succ_self _) (by first | assumption | exact Short.take (by assumption) _ | exact Short.drop (by assumption) _ | exact Short.drop (Short.take (by assumption) _) _) (by first | omega | (simp; omega)) nobody w1 noA (hs.mv m1).any) ?_
    rintro _ u1 w1 A1 rfl g1
    have m1 := g1.mv
    replace hs := hs.mv m1; replace ho := ho.mv m1
    refine J.new (T := 34) (cs := dcells (rootF bits ls)) (d := 25) (K := (.sl 1)) (by kernel_rfl) (fun b2 hb2 => ?_)
    replace ho := ho.more hb2
    refine J.appendN (N := 0) (e := 34) (sz := 32) (a := oa) (nn := on) (c := oc) (T := 24) (Tx := 24) (x := .slice (some ⟨b2, 0, none⟩) 1 1) (bytes := 32) (d := 26) (xs := xs.flatMap dcells) (news := dcells (rootF bits ls)) (m := 1) (by kernel_rfl) (by kernel_rfl) (Nat.zero_le _) (fun k hk _ => hk) ho (fun w1 A1 m1 l1 => l1.src (i := 1) rfl (e := 34) (by kernel_rfl) rfl rfl) (by simp only [maxLen]; omega) (by omega) ?_
    intro a3 c3 w3 A3 h3 hb3 m3
    replace h3 := h3.re (n' := on + 1) (ys := (xs ++ [rootF bits ls]).flatMap dcells) rfl (by rw [List.flatMap_append]; rfl)
    have hb4 : ∀ x, Eb a3 x → Eb oa x ∨ W.heap.size ≤ x := fun x hx => (hb3 x hx).imp id (fun h => by have := m1.size; omega)
    refine J.run [.u, .n] [10] ⟨[(10, .v (.slice a3 (on + 1) c3))], [⟨32, [.int .i64 bits]⟩, ⟨34, dcells (rootF bits ls)⟩]⟩ [.o 8 6, .c 9, .b 0, .c 17] [.c 9, .b 0, .c 17] (by kernel_rfl) ?_
    refine J.ret (v := .slice a3 (on + 1) c3) (by kernel_rfl) (by kernel_rfl) (fun w1 A1 m1 hac l1 => ⟨_, _, _, rfl, by rw [besideF_out (by omega)]; exact (h3.mv m1).grown hb4⟩)
  · rw [hc]
    try simp only [nrm] at hc
    have hc1 := hc
    refine J.run [.w, .w, .w, .w, .u, .u, .n] [1, 2, 3, 4, 5, 12] ⟨[(1, .v (.slice oa on oc)), (2, .v (.slice a n c)), (3, .v (.int .i64 i)), (4, .v (.int .i64 j)), (5, .loc 0 0), (12, .v (.bool (decide (i ≥ ((n : Nat) : Int)))))], [⟨32, [.int .i64 bits]⟩]⟩ [.o 5 3, .c 6, .b 0, .c 17] [.c 6, .b 0, .c 17] (by kernel_rfl) ?_
    refine J.cond (b := (decide (i ≥ ((n : Nat) : Int)))) (k' := 10) (by kernel_rfl) (fun hc => ?_) (fun hc => ?_)
    · try simp only [nrm] at hc
      have hc2 := hc
      refine J.run [.n, .n, .u, .u, .u] [21, 22, 23] ⟨[(21, .v (.slice oa on oc)), (22, .v (.agg [.int .i64 bits].toArray)), (23, .v (.slice a n c))], [⟨32, [.int .i64 bits]⟩]⟩ [.c 7, .b 0, .c 17] [.o 8 3, .c 9, .b 0, .c 17] (by kernel_rfl) ?_
      refine J.call (d := some 24) (by kernel_rfl) (fun w1 A1 m1 l1 => root_calls bits _ a n c ls (Nat.lt_succ_self _) (by first | assumption | exact Short.take (by assumption) _ | exact Short.drop (by assumption) _ | exact Short.drop (Short.take (by assumption) _) _) (by first | omega | (simp; omega)) nobody w1 noA (hs.mv m1).any) ?_
      rintro _ u2 w2 A2 rfl g2
      have m2 := g2.mv
      replace hs := hs.mv m2; replace ho := ho.mv m2
      refine J.new (T := 34) (cs := dcells (rootF bits ls)) (d := 25) (K := (.sl 1)) (by kernel_rfl) (fun b3 hb3 => ?_)
      replace ho := ho.more hb3
      refine J.appendN (N := 0) (e := 34) (sz := 32) (a := oa) (nn := on) (c := oc) (T := 24) (Tx := 24) (x := .slice (some ⟨b3, 0, none⟩) 1 1) (bytes := 32) (d := 26) (xs := xs.flatMap dcells) (news := dcells (rootF bits ls)) (m := 1) (by kernel_rfl) (by kernel_rfl) (Nat.zero_le _) (fun k hk _ => hk) ho (fun w1 A1 m1 l1 => l1.src (i := 1) rfl (e := 34) (by kernel_rfl) rfl rfl) (by simp only [maxLen]; omega) (by omega) ?_
      intro a3 c3 w3 A3 h3 hb3 m3
      replace h3 := h3.re (n' := on + 1) (ys := (xs ++ [rootF bits ls]).flatMap dcells) rfl (by rw [List.flatMap_append]; rfl)
      have hb4 : ∀ x, Eb a3 x → Eb oa x ∨ W.heap.size ≤ x := fun x hx => (hb3 x hx).imp id (fun h => by have := m2.size; omega)
      refine J.run [.u, .n] [10] ⟨[(10, .v (.slice a3 (on + 1) c3))], [⟨32, [.int .i64 bits]⟩, ⟨34, dcells (rootF bits ls)⟩]⟩ [.o 8 6, .c 9, .b 0, .c 17] [.c 9, .b 0, .c 17] (by kernel_rfl) ?_
      refine J.ret (v := .slice a3 (on + 1) c3) (by kernel_rfl) (by kernel_rfl) (fun w1 A1 m1 hac l1 => ⟨_, _, _, rfl, by rw [besideF_out (by omega)]; exact (h3.mv m1).grown hb4⟩)
    · try simp only [nrm] at hc
      have hc2 := hc
      refine J.run [.n, .n, .u, .u, .u, .u, .n] [1, 2, 3, 4, 5, 27] ⟨[(1, .v (.slice oa on oc)), (2, .v (.slice a n c)), (3, .v (.int .i64 i)), (4, .v (.int .i64 j)), (5, .loc 0 0), (27, .v (.bool (((n : Nat) : Int) == 1)))], [⟨32, [.int .i64 bits]⟩]⟩ [.c 10, .b 0, .c 17] [.c 12, .b 0, .c 17] (by kernel_rfl) ?_
      refine J.cond (b := (((n : Nat) : Int) == 1)) (k' := 16) (by kernel_rfl) (fun hc => ?_) (fun hc => ?_)
      · try simp only [nrm] at hc
        have hc3 := hc
        refine J.run [.n, .n, .u, .u, .n] [10] ⟨[(10, .v (.slice oa on oc))], [⟨32, [.int .i64 bits]⟩]⟩ [.c 13, .b 0, .c 17] [.c 15, .b 0, .c 17] (by kernel_rfl) ?_
        refine J.ret (v := .slice oa on oc) (by kernel_rfl) (by kernel_rfl) (fun w1 A1 m1 hac l1 => ⟨_, _, _, rfl, by rw [besideF_one (by omega) (by omega), List.append_nil]; exact (ho.mv m1).grown hg0⟩)
      · try simp only [nrm] at hc
        have hc3 := hc
        refine J.run [.n, .n, .n, .n, .u, .u] [1, 2, 3, 4, 5, 33] ⟨[(1, .v (.slice oa on oc)), (2, .v (.slice a n c)), (3, .v (.int .i64 i)), (4, .v (.int .i64 j)), (5, .loc 0 0), (33, .v (.int .i64 ((n : Nat) : Int)))], [⟨32, [.int .i64 bits]⟩]⟩ [.c 16, .b 0, .c 17] [.o 18 2, .c 19] (by kernel_rfl) ?_
        have hhh1 := half_lt2 n
        refine J.call (d := some 34) (by kernel_rfl) (fun w1 A1 m1 l1 => tree_half n (by omega) (by simp only [maxLen]; omega) nobody w1 noA) ?_
        rintro _ u3 w3 A3 rfl g3
        have m3 := g3.mv
        replace hs := hs.mv m3; replace ho := ho.mv m3
        refine J.run [.u, .n, .n] [1, 2, 3, 4, 5, 11] ⟨[(1, .v (.slice oa on oc)), (2, .v (.slice a n c)), (3, .v (.int .i64 i)), (4, .v (.int .i64 j)), (5, .loc 0 0), (11, .v (.int .i64 ((half n : Nat) : Int)))], [⟨32, [.int .i64 bits]⟩]⟩ [.o 18 3, .c 19] [.c 20, .c 21] (by kernel_rfl) ?_
        refine J.draw [] (adr oa) (by kernel_rfl) (by kernel_rfl) ho.adrA (fun w4 A4 m4 hr1 hX1 => ?_)
        replace hs := hs.mv m4; replace ho := ho.mv m4
        refine J.take0 [(0, .u), (1, .u), (2, .u), (3, .u), (5, .u), (6, .u)] [2, 3, 4, 5, 11, 35, 36, 37, 38, 40, 41] [(2, .v (.slice a n c)), (3, .v (.int .i64 i)), (4, .v (.int .i64 j)), (5, .loc 0 0), (11, .v (.int .i64 ((half n : Nat) : Int))), (35, .v (.agg [.int .i64 bits].toArray)), (36, .v (.slice oa on oc)), (37, .v (.slice a n c)), (38, .v (.int .i64 ((half n : Nat) : Int))), (40, .v (.int .i64 i)), (41, .v (.int .i64 j))] [6, 5, 3, 2, 1, 0] (calm_body _ _ _) ho.adrN hr1 (by kernel_rfl) ?_
        refine J.slp (j := 4) (a := a) (len := n) (cap := c) (sz := 1) (lo := none) (hi := (some ((half n : Nat) : Int))) (mx := none) (d := 39) (calm_body _ _ _) (by kernel_rfl) (by kernel_rfl) 0 (half n) c (by simp) (by simp) (by simp) (by have := hs.le; omega) (by have := hs.le; omega) (by have := hs.le; omega) (by simp) ?_
        intro a1 ha1 hb1
        rw [hb1 rfl, Nat.sub_zero, Nat.sub_zero]; clear ha1 hb1 a1
        have hp1 := hs.upto (H := half n) (X := c) (by have := hs.le; omega) (by have := hs.le; omega) (by have := hs.le; omega)
        refine J.pick1 7 (by kernel_rfl) (by kernel_rfl) ?_
        refine J.callXq (X := Eb oa) (d := some 42) (fun k hk _ => ⟨(hg0 k hk).symm, (ho.own_blk k hk).2.1, (ho.own_blk k hk).2.2.1⟩) (fun k hk => (ho.own_blk k hk).2.2.2) (fun k hk _ => .inl hk) (by kernel_rfl) (fun w1 A1 m1 l1 => ih oa on oc xs a (half n) c (ls.take (half n)) i j  (by simp; omega) (by simp; omega) (by first | assumption | exact Short.take (by assumption) _ | exact Short.drop (by assumption) _ | exact Short.drop (Short.take (by assumption) _) _) (by simp; omega) (by simp; omega) (by simp; omega) (by omega) (by simp; omega) (by omega) A1 w1 m1.bdd ((ho.mv m1).lower (Nat.le_refl _) (fun _ h => nomatch h) (fun x hx => ((ho.mv m1).own_blk x hx).2.2.1)) (hp1.mv m1)) ?_
        rintro _ u4 w5 A5 ⟨oa1, on1, oc1, rfl, hn1⟩ g4
        have hg1 : ∀ x, Eb oa1 x → Eb oa x ∨ W.heap.size ≤ x := fun x hx => (hn1.2 x hx).elim (hg0 x) (fun h => .inr (Nat.le_trans g4.big h))
        refine J.grabN hn1 ?_
        have m5 := g4.grabN ho hn1
        replace hn1 := hn1.take (A1 := A5) ho (Nat.zero_le _) g4.rho
        replace hs := hs.mv m5; replace hp1 := hp1.mv m5
        have hplhn1 := besideF_le bits (ls.take (half n)) i j (by simp; omega); simp at hplhn1
        have hnlhn1 := hn1.len (fun x _ => rfl) (by decide); simp at hnlhn1
        refine J.take1 [(8, .u)] [1, 2, 3, 4, 5, 11] [(1, .v (.slice oa1 on1 oc1)), (2, .v (.slice a n c)), (3, .v (.int .i64 i)), (4, .v (.int .i64 j)), (5, .loc 0 0), (11, .v (.int .i64 ((half n : Nat) : Int)))] [8, 7, 4, 6, 5, 3, 2, 1, 0] (calm_body _ _ _) (by kernel_rfl) ?_
        refine J.pdone (by kernel_rfl) ?_
        refine J.run [.n] [1, 2, 3, 4, 5, 11] ⟨[(1, .v (.slice oa1 on1 oc1)), (2, .v (.slice a n c)), (3, .v (.int .i64 i)), (4, .v (.int .i64 j)), (5, .loc 0 0), (11, .v (.int .i64 ((half n : Nat) : Int)))], [⟨32, [.int .i64 bits]⟩]⟩ [.c 21] [.c 22, .c 23] (by kernel_rfl) ?_
        refine J.draw [] (adr oa1) (by kernel_rfl) (by kernel_rfl) hn1.adrA (fun w6 A6 m6 hr2 hX2 => ?_)
        replace hs := hs.mv m6; replace hp1 := hp1.mv m6; replace hn1 := hn1.mv m6
        refine J.take0 [(0, .u), (1, .u), (2, .u), (3, .u), (5, .u), (6, .u), (7, .u), (8, .u), (9, .u), (10, .u)] [43, 44, 45, 46, 50, 53] [(43, .v (.agg [.int .i64 bits].toArray)), (44, .v (.slice oa1 on1 oc1)), (45, .v (.slice a n c)), (46, .v (.int .i64 ((half n : Nat) : Int))), (50, .v (.int .i64 (IntKind.i64.wrap (i - ((half n : Nat) : Int))))), (53, .v (.int .i64 (IntKind.i64.wrap (j - ((half n : Nat) : Int)))))] [10, 9, 8, 7, 6, 5, 3, 2, 1, 0] (calm_body _ _ _) hn1.adrN hr2 (by kernel_rfl) ?_
        rw [hik i (half n) (by omega) hi1 hi2]
        rw [hik j (half n) (by omega) hj1 hj2]
        refine J.slp (j := 4) (a := a) (len := n) (cap := c) (sz := 1) (lo := (some ((half n : Nat) : Int))) (hi := none) (mx := none) (d := 47) (calm_body _ _ _) (by kernel_rfl) (by kernel_rfl) (half n) n c (by simp) (by simp) (by simp) (by have := hs.le; omega) (by have := hs.le; omega) (by have := hs.le; omega) (by simp) ?_
        intro a2 ha2 hb2
        have hp2 := hs.from (L := half n) (by have := hs.le; omega) ha2
        refine J.pick1 11 (by kernel_rfl) (by kernel_rfl) ?_
        refine J.callXq (X := Eb oa1) (d := some 54) (fun k hk _ => ⟨(hg1 k hk).symm, (hn1.own_blk k hk).2.1, (hn1.own_blk k hk).2.2.1⟩) (fun k hk => (hn1.own_blk k hk).2.2.2) (fun k hk _ => .inl hk) (by kernel_rfl) (fun w1 A1 m1 l1 => ih oa1 on1 oc1 (xs ++ besideF bits (ls.take (half n)) i j) a2 (n - (half n)) (c - (half n)) (ls.drop (half n)) (i - ((half n : Nat) : Int)) (j - ((half n : Nat) : Int))  (by simp; omega) (by simp; omega) (by first | assumption | exact Short.take (by assumption) _ | exact Short.drop (by assumption) _ | exact Short.drop (Short.take (by assumption) _) _) (by simp; omega) (by simp; omega) (by simp; omega) (by omega) (by simp; omega) (by omega) A1 w1 m1.bdd ((hn1.mv m1).lower (Nat.le_refl _) (fun _ h => nomatch h) (fun x hx => ((hn1.mv m1).own_blk x hx).2.2.1)) (hp2.mv m1)) ?_
        rintro _ u5 w7 A7 ⟨oa2, on2, oc2, rfl, hn2⟩ g5
        have hg2 : ∀ x, Eb oa2 x → Eb oa x ∨ W.heap.size ≤ x := fun x hx => (hn2.2 x hx).elim (hg1 x) (fun h => .inr (Nat.le_trans g5.big h))
        refine J.grabN hn2 ?_
        have m7 := g5.grabN hn1 hn2
        replace hn2 := hn2.take (A1 := A7) hn1 (Nat.zero_le _) g5.rho
        replace hs := hs.mv m7; replace hp1 := hp1.mv m7; replace hp2 := hp2.mv m7
        have hplhn2 := besideF_le bits (ls.drop (half n)) (i - ((half n : Nat) : Int)) (j - ((half n : Nat) : Int)) (by simp; omega); simp at hplhn2
        have hnlhn2 := hn2.len (fun x _ => rfl) (by decide); simp at hnlhn2
        refine J.take1 [(12, .u)] [10] [(10, .v (.slice oa2 on2 oc2))] [12, 11, 4, 10, 9, 8, 7, 6, 5, 3, 2, 1, 0] (calm_body _ _ _) (by kernel_rfl) ?_
        refine J.pdone (by kernel_rfl) ?_
        refine J.ret (v := .slice oa2 on2 oc2) (by kernel_rfl) (by kernel_rfl) (fun w1 A1 m1 hac l1 => ⟨_, _, _, rfl, by rw [besideF_two (by omega) (by omega), ← hlen, ← List.append_assoc]; exact (hn2.mv m1).grown hg2⟩)
theorem beside_calls (bits : Int) : ∀ (N : Nat) (oa : Option Addr) (on oc : Nat) (xs : List Dg) (a : Option Addr) (n c : Nat) (ls : List (List UInt8)) (i j : Int), ls.length < N → 1 ≤ ls.length → Short ls → ls.length ≤ 1000000 → on + ls.length ≤ 2000000 → ((ls.length : Nat) : Int) - 1000000000 ≤ i → i ≤ 1000000000 → ((ls.length : Nat) : Int) - 1000000000 ≤ j → j ≤ 1000000000 → ∀ (Ac : Nat → Prop) (W : World), (∀ k, Ac k → k < W.heap.size) → Nw 0 34 32 [] Ac W oa on oc (xs.flatMap dcells) → Rows Ac W a n c ls → Calls Pr 86 #[.agg [.int .i64 bits].toArray, .slice oa on oc, .slice a n c, .int .i64 i, .int .i64 j] W (Ret (Eb oa) W fun v w => ∃ a' n' c', v = .slice a' n' c' ∧ Grown 34 32 W w oa a' n' c' ((xs ++ besideF bits ls i j).flatMap dcells))
  | 0, _, _, _, _, _, _, _, _, _, _, h, _, _, _, _, _, _, _, _, _, _, _, _, _ => absurd h (Nat.not_lt_zero _)
  | N + 1, oa, on, oc, xs, a, n, c, ls, i, j, h, h1, h2, h3, h4, h5, h6, h7, h8, Ac, W, hA, ho, hs => beside_step bits oa on oc xs a n c ls i j (fun oa on oc xs a n c l2 i2 j2 hl => beside_calls bits N oa on oc xs a n c l2 i2 j2 (by omega)) h1 h2 h3 h4 h5 h6 h7 h8 Ac W hA ho hs
end Go.Proofs.Ytkgokehkobifkaa.J

/- Package tree: opening.root, CheckRange. -/
namespace Go.Proofs.Ytkgokehkobifkaa.J
open Go Go.RowKit

theorem Locs.ldp {P : Program} {mem : List Loc} {ρ : List Nat} {w : World} (l : Locs mem ρ w) {i : Nat} {L : Loc} (hi : mem[i]? = some L) {t : TypeId} {off k : Nat} {cs : List Value} (ha : aggOf P t = some true) (hs : sizeO P t = some k) (hk : Nat.ble (off + k) L.cells.length = true) (hc : (L.cells.drop off).take k = cs) :
    Ld P w t (ρ.getD i 0) off (.agg cs.toArray) := by
  have hk := Nat.le_of_ble_eq_true hk
  subst hc
  refine Ld.agg ha (by rw [hs, List.length_take, List.length_drop]; congr 1; omega) fun j v hv => ?_
  rw [l.cell hi]
  rw [List.getElem?_take] at hv
  split at hv
  · rw [List.getElem?_drop] at hv; exact hv
  · cases hv

/-- The root of count leaves, of which the part begins at i: the sum, the path that is left, whether it was too short. -/
def rootO (bits : Int) (part : List (List UInt8)) (count : Nat) (i : Int) (p : List Dg) : Dg × List Dg × Bool :=
  if i + ((part.length : Nat) : Int) ≤ 0 ∨ ((count : Nat) : Int) ≤ i then (match p with
    | [] => (dg0, [], true)
    | d :: r => (d, r, false))
  else if h1 : count ≤ 1 then (leafF bits (part.getD (-i).toNat []), p, false)
  else
    let x := rootO bits part (half count) i p
    let y := rootO bits part (count - half count) (i - ((half count : Nat) : Int)) x.2.1
    (nodeF bits x.1 y.1, y.2.1, x.2.2 || y.2.2)
termination_by count
decreasing_by
  · have := half_lt (n := count) (by omega); omega
  · have := half_lt (n := count) (by omega); omega
theorem rootO_out {bits : Int} {part : List (List UInt8)} {count : Nat} {i : Int} {d : Dg} {r : List Dg} (h : i + ((part.length : Nat) : Int) ≤ 0 ∨ ((count : Nat) : Int) ≤ i) : rootO bits part count i (d :: r) = (d, r, false) := by rw [rootO.eq_def, if_pos h]
theorem rootO_bad {bits : Int} {part : List (List UInt8)} {count : Nat} {i : Int} (h : i + ((part.length : Nat) : Int) ≤ 0 ∨ ((count : Nat) : Int) ≤ i) : rootO bits part count i [] = (dg0, [], true) := by rw [rootO.eq_def, if_pos h]
theorem rootO_one {bits : Int} {part : List (List UInt8)} {count : Nat} {i : Int} {p : List Dg} (h : ¬ (i + ((part.length : Nat) : Int) ≤ 0 ∨ ((count : Nat) : Int) ≤ i)) (h1 : count ≤ 1) : rootO bits part count i p = (leafF bits (part.getD (-i).toNat []), p, false) := by rw [rootO.eq_def, if_neg h, dif_pos h1]
theorem rootO_two {bits : Int} {part : List (List UInt8)} {count : Nat} {i : Int} {p : List Dg} (h : ¬ (i + ((part.length : Nat) : Int) ≤ 0 ∨ ((count : Nat) : Int) ≤ i)) (h1 : 2 ≤ count) : rootO bits part count i p =
    (nodeF bits (rootO bits part (half count) i p).1 (rootO bits part (count - half count) (i - ((half count : Nat) : Int)) (rootO bits part (half count) i p).2.1).1,
      (rootO bits part (count - half count) (i - ((half count : Nat) : Int)) (rootO bits part (half count) i p).2.1).2.1,
      (rootO bits part (half count) i p).2.2 || (rootO bits part (count - half count) (i - ((half count : Nat) : Int)) (rootO bits part (half count) i p).2.1).2.2) := by
  rw [rootO.eq_def, if_neg h, dif_neg (by omega)]
theorem rootO_take {bits : Int} {part : List (List UInt8)} {count : Nat} {i : Int} {p : List Dg} {d : Dg} (h : i + ((part.length : Nat) : Int) ≤ 0 ∨ ((count : Nat) : Int) ≤ i) (hd : p[0]? = some d) : rootO bits part count i p = (d, p.drop 1, false) := by
  cases p with
  | nil => cases hd
  | cons x r => cases hd; rw [rootO_out h]; rfl
def checkR (bits : Int) (root : Dg) (count : Nat) (i : Int) (part : List (List UInt8)) (p : List Dg) : Bool :=
  decide (0 < part.length ∧ 0 ≤ i ∧ part.length ≤ count ∧ i ≤ ((count - part.length : Nat) : Int)) && (!(rootO bits part count i p).2.2 && (decide ((rootO bits part count i p).2.1.length = 0) && dgEq (rootO bits part count i p).1 root))

theorem beside_new (bits : Int) (a : Option Addr) (n c : Nat) (ls : List (List UInt8)) (i j : Nat) (hij : i < j) (hj : j ≤ ls.length) (hsh : Short ls) (hn : ls.length ≤ 1000000) (Ac : Nat → Prop) (W : World) (hA : ∀ k, Ac k → k < W.heap.size) (hs : Rows Ac W a n c ls) :
    Calls Pr 86 #[.agg [.int .i64 bits].toArray, .slice none 0 0, .slice a n c, .int .i64 ((i : Nat) : Int), .int .i64 ((j : Nat) : Int)] W (Ret nobody W fun v w => ∃ a' n' c', v = .slice a' n' c' ∧ New W.heap.size 34 32 w a' n' c' ((besideF bits ls ((i : Nat) : Int) ((j : Nat) : Int)).flatMap dcells)) := by
  have h := beside_calls bits _ none 0 0 [] a n c ls ((i : Nat) : Int) ((j : Nat) : Int) (Nat.lt_succ_self _) (by omega) hsh hn (by omega) (by omega) (by omega) (by omega) (by omega) Ac W hA (Nw.nil _ _ _ _ _ _) hs
  refine h.mono ?_
  rintro e w ⟨v, rfl, ⟨a', n', c', rfl, hg⟩, hsn⟩
  have hb : ∀ x, Eb a' x → W.heap.size ≤ x := fun x hx => (hg.2 x hx).elim (fun ⟨_, h, _⟩ => nomatch h) id
  refine ⟨_, rfl, ⟨a', n', c', rfl, ?_⟩, hsn.weaken fun k ⟨_, h, _⟩ => nomatch h⟩
  obtain ⟨⟨h1, h2 | ⟨g, cur, rfl, h3, h4, h5, h6⟩⟩, _⟩ := hg
  · exact ⟨h1, .inl h2⟩
  · exact ⟨h1, .inr ⟨g, cur, rfl, hb g ⟨_, rfl, rfl⟩, h4, h5, h6⟩⟩
theorem Range_calls (bits : Int) (a : Option Addr) (n c : Nat) (ls : List (List UInt8)) (i j : Nat) (hij : i < j) (hj : j ≤ ls.length) (hsh : Short ls) (hn : ls.length ≤ 1000000) (Ac : Nat → Prop) (W : World) (hA : ∀ k, Ac k → k < W.heap.size) (hs : Rows Ac W a n c ls) :
    Calls Pr 55 #[.agg [.int .i64 bits].toArray, .slice a n c, .int .i64 ((i : Nat) : Int), .int .i64 ((j : Nat) : Int)] W (Ret nobody W fun v w => ∃ a' n' c', v = .tuple #[.slice a' n' c', .int .i64 0] ∧ New W.heap.size 34 32 w a' n' c' ((besideF bits ls ((i : Nat) : Int) ((j : Nat) : Int)).flatMap dcells)) := by
  refine J.enter (fn := Try.f55) (n := 28) Try.func55 (by kernel_rfl) (by kernel_rfl) (by kernel_rfl) hA ?_
  have hlen := hs.len; have hle := hs.le; have hcap := hs.cap; simp only [maxLen] at hcap
  refine J.run [.n, .n] [0, 1, 2, 3] ⟨[(0, .v (.agg [.int .i64 bits].toArray)), (1, .v (.slice a n c)), (2, .v (.int .i64 ((i : Nat) : Int))), (3, .v (.int .i64 ((j : Nat) : Int)))], []⟩ [.c 0] [.o 1 0, .c 2] (by kernel_rfl) ?_
  refine J.new (T := 32) (cs := [.int .i64 bits]) (d := 4) (K := .ptr) (by kernel_rfl) (fun b1 hb1 => ?_)
  refine J.run [.u, .u, .n, .n, .n, .n, .u, .u, .u] [1, 2, 3, 4, 12] ⟨[(1, .v (.slice a n c)), (2, .v (.int .i64 ((i : Nat) : Int))), (3, .v (.int .i64 ((j : Nat) : Int))), (4, .loc 0 0), (12, .v (.bool (decide (((i : Nat) : Int) < 0))))], [⟨32, [.int .i64 bits]⟩]⟩ [.o 1 1, .c 2] [.o 4 3, .c 5, .c 10] (by kernel_rfl) ?_
  rcases Bool.eq_false_or_eq_true (decide (((i : Nat) : Int) < 0)) with hc | hc
  · rw [hc]
    try simp only [nrm] at hc
    have hc1 := hc
    refine J.run [.x, .x, .x, .u, .u, .x, .x, .x, .x, .u, .n] [1, 2, 3, 4, 22] ⟨[(1, .v (.slice a n c)), (2, .v (.int .i64 ((i : Nat) : Int))), (3, .v (.int .i64 ((j : Nat) : Int))), (4, .loc 0 0), (22, .v (.bool true))], [⟨32, [.int .i64 bits]⟩]⟩ [.o 4 3, .c 5, .c 10] [.c 5, .c 10] (by kernel_rfl) ?_
    refine J.cond (b := true) (k' := 9) (by kernel_rfl) (fun _ => ?_) (fun hc => absurd hc (by decide))
    refine J.run [.n, .n, .u, .u, .n] [8, 9] ⟨[(8, .v (.slice none 0 0)), (9, .v (.int .i64 1))], [⟨32, [.int .i64 bits]⟩]⟩ [.c 6, .c 10] [.c 8, .c 10] (by kernel_rfl) ?_
    omega
  · rw [hc]
    try simp only [nrm] at hc
    have hc1 := hc
    refine J.run [.w, .w, .w, .u, .u] [1, 2, 3, 4, 17] ⟨[(1, .v (.slice a n c)), (2, .v (.int .i64 ((i : Nat) : Int))), (3, .v (.int .i64 ((j : Nat) : Int))), (4, .loc 0 0), (17, .v (.bool (decide (((i : Nat) : Int) ≥ ((j : Nat) : Int)))))], [⟨32, [.int .i64 bits]⟩]⟩ [.o 4 3, .c 5, .c 10] [.o 4 8, .c 5, .c 10] (by kernel_rfl) ?_
    rcases Bool.eq_false_or_eq_true (decide (((i : Nat) : Int) ≥ ((j : Nat) : Int))) with hc | hc
    · rw [hc]
      try simp only [nrm] at hc
      have hc2 := hc
      refine J.run [.x, .x, .x, .x, .u, .n] [1, 2, 3, 4, 22] ⟨[(1, .v (.slice a n c)), (2, .v (.int .i64 ((i : Nat) : Int))), (3, .v (.int .i64 ((j : Nat) : Int))), (4, .loc 0 0), (22, .v (.bool true))], [⟨32, [.int .i64 bits]⟩]⟩ [.o 4 8, .c 5, .c 10] [.c 5, .c 10] (by kernel_rfl) ?_
      refine J.cond (b := true) (k' := 9) (by kernel_rfl) (fun _ => ?_) (fun hc => absurd hc (by decide))
      refine J.run [.n, .n, .u, .u, .n] [8, 9] ⟨[(8, .v (.slice none 0 0)), (9, .v (.int .i64 1))], [⟨32, [.int .i64 bits]⟩]⟩ [.c 6, .c 10] [.c 8, .c 10] (by kernel_rfl) ?_
      omega
    · rw [hc]
      try simp only [nrm] at hc
      have hc2 := hc
      refine J.run [.w, .w, .w, .w, .u, .n] [1, 2, 3, 4, 22] ⟨[(1, .v (.slice a n c)), (2, .v (.int .i64 ((i : Nat) : Int))), (3, .v (.int .i64 ((j : Nat) : Int))), (4, .loc 0 0), (22, .v (.bool (decide (((j : Nat) : Int) > ((n : Nat) : Int)))))], [⟨32, [.int .i64 bits]⟩]⟩ [.o 4 8, .c 5, .c 10] [.c 5, .c 10] (by kernel_rfl) ?_
      refine J.cond (b := (decide (((j : Nat) : Int) > ((n : Nat) : Int)))) (k' := 9) (by kernel_rfl) (fun hc => ?_) (fun hc => ?_)
      · try simp only [nrm] at hc
        have hc3 := hc
        refine J.run [.n, .n, .u, .u, .n] [8, 9] ⟨[(8, .v (.slice none 0 0)), (9, .v (.int .i64 1))], [⟨32, [.int .i64 bits]⟩]⟩ [.c 6, .c 10] [.c 8, .c 10] (by kernel_rfl) ?_
        omega
      · try simp only [nrm] at hc
        have hc3 := hc
        refine J.run [.n, .n, .n, .u, .u, .u, .u] [23, 24, 25, 26] ⟨[(23, .v (.agg [.int .i64 bits].toArray)), (24, .v (.slice a n c)), (25, .v (.int .i64 ((i : Nat) : Int))), (26, .v (.int .i64 ((j : Nat) : Int)))], [⟨32, [.int .i64 bits]⟩]⟩ [.c 9, .c 10] [.o 11 4, .c 12] (by kernel_rfl) ?_
        refine J.call (d := some 27) (by kernel_rfl) (fun w1 A1 m1 l1 => beside_new bits a n c ls i j (by omega) (by omega) (by first | assumption | exact Short.take (by assumption) _ | exact Short.drop (by assumption) _ | exact Short.drop (Short.take (by assumption) _) _) (by omega) nobody w1 noA (hs.mv m1).any) ?_
        rintro _ u1 w1 A1 ⟨a1, n1, c1, rfl, hn1⟩ g1
        have hblhn1 := hn1.blk_lt; have hglhn1 := g1.le
        refine J.grab hn1 ?_
        have m1 := g1.grab hn1
        replace hs := hs.mv m1
        replace hn1 := hn1.take g1 rfl
        refine J.run [.u, .u, .n] [8, 9] ⟨[(8, .v (.slice a1 n1 c1)), (9, .v (.int .i64 0))], [⟨32, [.int .i64 bits]⟩]⟩ [.o 11 5, .c 12] [.c 12] (by kernel_rfl) ?_
        refine J.ret (v := .tuple #[.slice a1 n1 c1, .int .i64 0]) (by kernel_rfl) (by kernel_rfl) (fun w1 A1 m1 hac l1 => ⟨_, _, _, rfl, (hn1.mv m1).new⟩)
theorem rootO_step (bits : Int) (ga : Option Addr) (gn gc : Nat) (part : List (List UInt8)) (hsh : Short part) (hgn : part.length ≤ 1000000) (pa : Option Addr) (pn pc : Nat) (p : List Dg) (bad : Bool) (count : Nat) (i : Int) (ih : ∀ (pa : Option Addr) (pn pc : Nat) (p2 : List Dg) (bad : Bool) (k2 : Nat) (i2 : Int), k2 < count → 1 ≤ k2 → k2 ≤ 1000000 → ((k2 : Nat) : Int) - 1000000000 ≤ i2 → i2 ≤ 1000000000 → ∀ (b : Nat) (Ac : Nat → Prop) (W : World), (∀ k, Ac k → k < W.heap.size) → W.heap[b]? = some (.cells [.int .i64 bits, .slice ga gn gc, .slice pa pn pc, .bool bad].toArray 134 (0, 0)) → Ac b → Rows Ac W ga gn gc part → Sl 32 dcells Ac W pa pn pc p2 → Calls Pr 88 #[.pointer (some ⟨b, 0, none⟩), .int .i64 ((k2 : Nat) : Int), .int .i64 i2] W (RB b 134 W fun v cs w => v = .agg (dcells (rootO bits part k2 i2 p2).1).toArray ∧ ∃ a2 n2 c2, cs = [.int .i64 bits, .slice ga gn gc, .slice a2 n2 c2, .bool (bad || (rootO bits part k2 i2 p2).2.2)] ∧ ∀ (A : Nat → Prop) (w : World), Sl 32 dcells A w pa pn pc p2 → Sl 32 dcells A w a2 n2 c2 (rootO bits part k2 i2 p2).2.1)) (h1 : 1 ≤ count) (h2 : count ≤ 1000000) (h3 : ((count : Nat) : Int) - 1000000000 ≤ i) (h4 : i ≤ 1000000000) (b : Nat) (Ac : Nat → Prop) (W : World) (hA : ∀ k, Ac k → k < W.heap.size) (hrow : W.heap[b]? = some (.cells [.int .i64 bits, .slice ga gn gc, .slice pa pn pc, .bool bad].toArray 134 (0, 0))) (hAb : Ac b) (hs : Rows Ac W ga gn gc part) (hp : Sl 32 dcells Ac W pa pn pc p) :
    Calls Pr 88 #[.pointer (some ⟨b, 0, none⟩), .int .i64 ((count : Nat) : Int), .int .i64 i] W (RB b 134 W fun v cs w => v = .agg (dcells (rootO bits part count i p).1).toArray ∧ ∃ a2 n2 c2, cs = [.int .i64 bits, .slice ga gn gc, .slice a2 n2 c2, .bool (bad || (rootO bits part count i p).2.2)] ∧ ∀ (A : Nat → Prop) (w : World), Sl 32 dcells A w pa pn pc p → Sl 32 dcells A w a2 n2 c2 (rootO bits part count i p).2.1) := by
  refine J.enterM (fn := Try.f88) (n := 85) (b := b) (T := 134) (cs := [.int .i64 bits, .slice ga gn gc, .slice pa pn pc, .bool bad]) (args := [.int .i64 ((count : Nat) : Int), .int .i64 i]) Try.func88 (by kernel_rfl) (by kernel_rfl) (by kernel_rfl) hA hrow hAb ?_
  have hlen := hs.len; have hle := hs.le; have hcap := hs.cap; have hpl := hp.len; have hpe := hp.le; have hpc := hp.cap; simp only [maxLen] at hcap hpc
  have hcb : ((count : Nat) : Int) - ((half count : Nat) : Int) = ((count - half count : Nat) : Int) ∨ ((half count : Nat) : Int) > ((count : Nat) : Int) := by omega
  have hik : ∀ k : Nat, k ≤ 1000000 → k ≤ count → IntKind.i64.wrap (i - ((k : Nat) : Int)) = i - ((k : Nat) : Int) := fun k hk h => wrap_i64 (by omega) (by omega)
  have hck : ∀ k : Nat, k ≤ count → IntKind.i64.wrap (((count : Nat) : Int) - ((k : Nat) : Int)) = ((count - k : Nat) : Int) := fun k hk => by rw [wrap_i64 (by omega) (by omega)]; omega
  have hneg : i ≤ 0 → IntKind.i64.wrap (0 - i) = (((-i).toNat : Nat) : Int) := fun h => by rw [wrap_i64 (by omega) (by omega)]; omega
  refine J.run [.n, .n] [0, 1, 2] ⟨[(0, .loc 0 0), (1, .v (.int .i64 ((count : Nat) : Int))), (2, .v (.int .i64 i))], [⟨134, [.int .i64 bits, .slice ga gn gc, .slice pa pn pc, .bool bad]⟩]⟩ [.c 0] [.o 1 0, .c 2] (by kernel_rfl) ?_
  refine J.new (T := 34) (cs := [.int .u8 0, .int .u8 0, .int .u8 0, .int .u8 0, .int .u8 0, .int .u8 0, .int .u8 0, .int .u8 0, .int .u8 0, .int .u8 0, .int .u8 0, .int .u8 0, .int .u8 0, .int .u8 0, .int .u8 0, .int .u8 0, .int .u8 0, .int .u8 0, .int .u8 0, .int .u8 0, .int .u8 0, .int .u8 0, .int .u8 0, .int .u8 0, .int .u8 0, .int .u8 0, .int .u8 0, .int .u8 0, .int .u8 0, .int .u8 0, .int .u8 0, .int .u8 0]) (d := 6) (K := .ptr) (by kernel_rfl) (fun b1 hb1 => ?_)
  refine J.run [.n, .n, .n, .n, .n, .u, .u, .u, .u, .u, .u, .u, .u, .u] [0, 1, 2, 6, 19] ⟨[(0, .loc 0 0), (1, .v (.int .i64 ((count : Nat) : Int))), (2, .v (.int .i64 i)), (6, .loc 1 0), (19, .v (.bool (decide ((IntKind.i64.wrap (i + ((gn : Nat) : Int))) ≤ 0))))], [⟨134, [.int .i64 bits, .slice ga gn gc, .slice pa pn pc, .bool bad]⟩, ⟨34, [.int .u8 0, .int .u8 0, .int .u8 0, .int .u8 0, .int .u8 0, .int .u8 0, .int .u8 0, .int .u8 0, .int .u8 0, .int .u8 0, .int .u8 0, .int .u8 0, .int .u8 0, .int .u8 0, .int .u8 0, .int .u8 0, .int .u8 0, .int .u8 0, .int .u8 0, .int .u8 0, .int .u8 0, .int .u8 0, .int .u8 0, .int .u8 0, .int .u8 0, .int .u8 0, .int .u8 0, .int .u8 0, .int .u8 0, .int .u8 0, .int .u8 0, .int .u8 0]⟩]⟩ [.o 1 1, .c 2] [.o 5 9, .c 6, .b 0, .c 31] (by kernel_rfl) ?_
  have hw1 : IntKind.i64.wrap (i + ((gn : Nat) : Int)) = (i + ((gn : Nat) : Int)) := by rw [wrap_i64 (by omega) (by omega)]
  rw [hw1]
  rcases Bool.eq_false_or_eq_true (decide ((i + ((gn : Nat) : Int)) ≤ 0)) with hc | hc
  · rw [hc]
    try simp only [nrm] at hc
    have hc1 := hc
    refine J.run [.x, .x, .x, .u, .u, .n] [0, 1, 2, 6, 10] ⟨[(0, .loc 0 0), (1, .v (.int .i64 ((count : Nat) : Int))), (2, .v (.int .i64 i)), (6, .loc 1 0), (10, .v (.bool true))], [⟨134, [.int .i64 bits, .slice ga gn gc, .slice pa pn pc, .bool bad]⟩, ⟨34, [.int .u8 0, .int .u8 0, .int .u8 0, .int .u8 0, .int .u8 0, .int .u8 0, .int .u8 0, .int .u8 0, .int .u8 0, .int .u8 0, .int .u8 0, .int .u8 0, .int .u8 0, .int .u8 0, .int .u8 0, .int .u8 0, .int .u8 0, .int .u8 0, .int .u8 0, .int .u8 0, .int .u8 0, .int .u8 0, .int .u8 0, .int .u8 0, .int .u8 0, .int .u8 0, .int .u8 0, .int .u8 0, .int .u8 0, .int .u8 0, .int .u8 0, .int .u8 0]⟩]⟩ [.o 5 9, .c 6, .b 0, .c 31] [.c 6, .b 0, .c 31] (by kernel_rfl) ?_
    refine J.cond (b := true) (k' := 24) (by kernel_rfl) (fun _ => ?_) (fun hc => absurd hc (by decide))
    refine J.run [.n, .n, .n, .u, .u, .u, .u, .u, .u, .n] [0, 6, 29] ⟨[(0, .loc 0 0), (6, .loc 1 0), (29, .v (.bool (((pn : Nat) : Int) == 0)))], [⟨134, [.int .i64 bits, .slice ga gn gc, .slice pa pn pc, .bool bad]⟩, ⟨34, [.int .u8 0, .int .u8 0, .int .u8 0, .int .u8 0, .int .u8 0, .int .u8 0, .int .u8 0, .int .u8 0, .int .u8 0, .int .u8 0, .int .u8 0, .int .u8 0, .int .u8 0, .int .u8 0, .int .u8 0, .int .u8 0, .int .u8 0, .int .u8 0, .int .u8 0, .int .u8 0, .int .u8 0, .int .u8 0, .int .u8 0, .int .u8 0, .int .u8 0, .int .u8 0, .int .u8 0, .int .u8 0, .int .u8 0, .int .u8 0, .int .u8 0, .int .u8 0]⟩]⟩ [.c 7, .b 0, .c 31] [.c 10, .c 17, .b 0, .c 31] (by kernel_rfl) ?_
    refine J.cond (b := (((pn : Nat) : Int) == 0)) (k' := 16) (by kernel_rfl) (fun hc => ?_) (fun hc => ?_)
    · try simp only [nrm] at hc
      have hc2 := hc
      refine J.run [.n, .n, .u, .u, .u, .u, .n, .n, .n, .u, .u, .n] [6] ⟨[(6, .loc 1 0)], [⟨134, [.int .i64 bits, .slice ga gn gc, .slice pa pn pc, .bool true]⟩, ⟨34, [.int .u8 0, .int .u8 0, .int .u8 0, .int .u8 0, .int .u8 0, .int .u8 0, .int .u8 0, .int .u8 0, .int .u8 0, .int .u8 0, .int .u8 0, .int .u8 0, .int .u8 0, .int .u8 0, .int .u8 0, .int .u8 0, .int .u8 0, .int .u8 0, .int .u8 0, .int .u8 0, .int .u8 0, .int .u8 0, .int .u8 0, .int .u8 0, .int .u8 0, .int .u8 0, .int .u8 0, .int .u8 0, .int .u8 0, .int .u8 0, .int .u8 0, .int .u8 0]⟩]⟩ [.c 11, .c 17, .b 0, .c 31] [.c 15, .c 17, .b 0, .c 31] (by kernel_rfl) ?_
      have hpn : p = [] := List.eq_nil_of_length_eq_zero (by omega)
      subst hpn
      refine J.ret (v := .agg [.int .u8 0, .int .u8 0, .int .u8 0, .int .u8 0, .int .u8 0, .int .u8 0, .int .u8 0, .int .u8 0, .int .u8 0, .int .u8 0, .int .u8 0, .int .u8 0, .int .u8 0, .int .u8 0, .int .u8 0, .int .u8 0, .int .u8 0, .int .u8 0, .int .u8 0, .int .u8 0, .int .u8 0, .int .u8 0, .int .u8 0, .int .u8 0, .int .u8 0, .int .u8 0, .int .u8 0, .int .u8 0, .int .u8 0, .int .u8 0, .int .u8 0, .int .u8 0].toArray) (by kernel_rfl) (by kernel_rfl) (fun w1 A1 m1 hac l1 => ⟨_, l1.row (i := 0) rfl, by rw [rootO_bad (by omega)]; exact ⟨rfl, _, _, _, by rw [Bool.or_true], fun A w h => h⟩⟩)
    · try simp only [nrm] at hc
      have hc2 := hc
      refine J.run [.n, .n, .n, .u, .u, .u, .u] [0, 6, 37] ⟨[(0, .loc 0 0), (6, .loc 1 0), (37, .v (.slice pa pn pc))], [⟨134, [.int .i64 bits, .slice ga gn gc, .slice pa pn pc, .bool bad]⟩, ⟨34, [.int .u8 0, .int .u8 0, .int .u8 0, .int .u8 0, .int .u8 0, .int .u8 0, .int .u8 0, .int .u8 0, .int .u8 0, .int .u8 0, .int .u8 0, .int .u8 0, .int .u8 0, .int .u8 0, .int .u8 0, .int .u8 0, .int .u8 0, .int .u8 0, .int .u8 0, .int .u8 0, .int .u8 0, .int .u8 0, .int .u8 0, .int .u8 0, .int .u8 0, .int .u8 0, .int .u8 0, .int .u8 0, .int .u8 0, .int .u8 0, .int .u8 0, .int .u8 0]⟩]⟩ [.c 16, .c 17, .b 0, .c 31] [.o 18 4, .c 19, .b 0, .c 31] (by kernel_rfl) ?_
      obtain ⟨p1, o1, rfl⟩ := hp.addr (by omega)
      refine J.idx (b := p1) (off := o1) (len := pn) (i := 0) (sz := 32) (d := 38) (by kernel_rfl) (by omega) (by omega) ?_
      obtain ⟨x1, hx1⟩ : ∃ zq, (p)[0]? = some zq := ⟨_, List.getElem?_eq_getElem (by omega)⟩
      refine J.ld (T := 34) (b := p1) (off := o1 + 0 * 32) (d := 39) (v := .agg (dcells x1).toArray) (by kernel_rfl) (fun w1 A1 m1 l1 => (hp.mv m1).ld (by kernel_rfl) hx1 (by kernel_rfl)) ?_
      refine J.new (T := 34) (cs := [.int .u8 0, .int .u8 0, .int .u8 0, .int .u8 0, .int .u8 0, .int .u8 0, .int .u8 0, .int .u8 0, .int .u8 0, .int .u8 0, .int .u8 0, .int .u8 0, .int .u8 0, .int .u8 0, .int .u8 0, .int .u8 0, .int .u8 0, .int .u8 0, .int .u8 0, .int .u8 0, .int .u8 0, .int .u8 0, .int .u8 0, .int .u8 0, .int .u8 0, .int .u8 0, .int .u8 0, .int .u8 0, .int .u8 0, .int .u8 0, .int .u8 0, .int .u8 0]) (d := 7) (K := .ptr) (by kernel_rfl) (fun b2 hb2 => ?_)
      refine J.run [.u, .n, .n, .n, .u, .u, .u, .u, .u] [6, 7, 40, 44] ⟨[(6, .loc 1 0), (7, .loc 2 0), (40, .loc 0 0), (44, .v (.slice (some ⟨p1, o1, none⟩) pn pc))], [⟨134, [.int .i64 bits, .slice ga gn gc, .slice (some ⟨p1, o1, none⟩) pn pc, .bool bad]⟩, ⟨34, [.int .u8 0, .int .u8 0, .int .u8 0, .int .u8 0, .int .u8 0, .int .u8 0, .int .u8 0, .int .u8 0, .int .u8 0, .int .u8 0, .int .u8 0, .int .u8 0, .int .u8 0, .int .u8 0, .int .u8 0, .int .u8 0, .int .u8 0, .int .u8 0, .int .u8 0, .int .u8 0, .int .u8 0, .int .u8 0, .int .u8 0, .int .u8 0, .int .u8 0, .int .u8 0, .int .u8 0, .int .u8 0, .int .u8 0, .int .u8 0, .int .u8 0, .int .u8 0]⟩, ⟨34, dcells x1⟩]⟩ [.o 18 7, .c 19, .b 0, .c 31] [.o 20 5, .c 21, .b 0, .c 31] (by kernel_rfl) ?_
      refine J.sl (a := (some ⟨p1, o1, none⟩)) (len := pn) (cap := pc) (sz := 32) (lo := (some 1)) (hi := none) (mx := none) (d := 45) (by kernel_rfl) 1 pn pc (by simp) (by simp) (by simp) (by have := hp.le; omega) (by have := hp.le; omega) (by have := hp.le; omega) (by simp) ?_
      intro a1 ha1 hb1
      have hp1 := hp.from (L := 1) (by have := hp.le; omega) ha1
      refine J.run [.u, .u, .u, .n, .n, .n, .u, .u, .n] [6] ⟨[(6, .loc 1 0)], [⟨134, [.int .i64 bits, .slice ga gn gc, .slice a1 (pn - 1) (pc - 1), .bool bad]⟩, ⟨34, dcells x1⟩, ⟨34, dcells x1⟩]⟩ [.o 20 6, .c 21, .b 0, .c 31] [.c 23, .b 0, .c 31] (by kernel_rfl) ?_
      refine J.ret (v := .agg (dcells x1).toArray) (by kernel_rfl) (by kernel_rfl) (fun w1 A1 m1 hac l1 => ⟨_, l1.row (i := 0) rfl, by rw [rootO_take (by omega) hx1]; exact ⟨rfl, _, _, _, by rw [Bool.or_false], fun A w h => h.from (L := 1) (by omega) ha1⟩⟩)
  · rw [hc]
    try simp only [nrm] at hc
    have hc1 := hc
    refine J.run [.w, .w, .w, .u, .u, .n] [0, 1, 2, 6, 10] ⟨[(0, .loc 0 0), (1, .v (.int .i64 ((count : Nat) : Int))), (2, .v (.int .i64 i)), (6, .loc 1 0), (10, .v (.bool (decide (i ≥ ((count : Nat) : Int)))))], [⟨134, [.int .i64 bits, .slice ga gn gc, .slice pa pn pc, .bool bad]⟩, ⟨34, [.int .u8 0, .int .u8 0, .int .u8 0, .int .u8 0, .int .u8 0, .int .u8 0, .int .u8 0, .int .u8 0, .int .u8 0, .int .u8 0, .int .u8 0, .int .u8 0, .int .u8 0, .int .u8 0, .int .u8 0, .int .u8 0, .int .u8 0, .int .u8 0, .int .u8 0, .int .u8 0, .int .u8 0, .int .u8 0, .int .u8 0, .int .u8 0, .int .u8 0, .int .u8 0, .int .u8 0, .int .u8 0, .int .u8 0, .int .u8 0, .int .u8 0, .int .u8 0]⟩]⟩ [.o 5 9, .c 6, .b 0, .c 31] [.c 6, .b 0, .c 31] (by kernel_rfl) ?_
    refine J.cond (b := (decide (i ≥ ((count : Nat) : Int)))) (k' := 24) (by kernel_rfl) (fun hc => ?_) (fun hc => ?_)
    · try simp only [nrm] at hc
      have hc3 := hc
      refine J.run [.n, .n, .n, .u, .u, .u, .u, .u, .u, .n] [0, 6, 29] ⟨[(0, .loc 0 0), (6, .loc 1 0), (29, .v (.bool (((pn : Nat) : Int) == 0)))], [⟨134, [.int .i64 bits, .slice ga gn gc, .slice pa pn pc, .bool bad]⟩, ⟨34, [.int .u8 0, .int .u8 0, .int .u8 0, .int .u8 0, .int .u8 0, .int .u8 0, .int .u8 0, .int .u8 0, .int .u8 0, .int .u8 0, .int .u8 0, .int .u8 0, .int .u8 0, .int .u8 0, .int .u8 0, .int .u8 0, .int .u8 0, .int .u8 0, .int .u8 0, .int .u8 0, .int .u8 0, .int .u8 0, .int .u8 0, .int .u8 0, .int .u8 0, .int .u8 0, .int .u8 0, .int .u8 0, .int .u8 0, .int .u8 0, .int .u8 0, .int .u8 0]⟩]⟩ [.c 7, .b 0, .c 31] [.c 10, .c 17, .b 0, .c 31] (by kernel_rfl) ?_
      refine J.cond (b := (((pn : Nat) : Int) == 0)) (k' := 16) (by kernel_rfl) (fun hc => ?_) (fun hc => ?_)
      · try simp only [nrm] at hc
        have hc4 := hc
        refine J.run [.n, .n, .u, .u, .u, .u, .n, .n, .n, .u, .u, .n] [6] ⟨[(6, .loc 1 0)], [⟨134, [.int .i64 bits, .slice ga gn gc, .slice pa pn pc, .bool true]⟩, ⟨34, [.int .u8 0, .int .u8 0, .int .u8 0, .int .u8 0, .int .u8 0, .int .u8 0, .int .u8 0, .int .u8 0, .int .u8 0, .int .u8 0, .int .u8 0, .int .u8 0, .int .u8 0, .int .u8 0, .int .u8 0, .int .u8 0, .int .u8 0, .int .u8 0, .int .u8 0, .int .u8 0, .int .u8 0, .int .u8 0, .int .u8 0, .int .u8 0, .int .u8 0, .int .u8 0, .int .u8 0, .int .u8 0, .int .u8 0, .int .u8 0, .int .u8 0, .int .u8 0]⟩]⟩ [.c 11, .c 17, .b 0, .c 31] [.c 15, .c 17, .b 0, .c 31] (by kernel_rfl) ?_
        have hpn : p = [] := List.eq_nil_of_length_eq_zero (by omega)
        subst hpn
        refine J.ret (v := .agg [.int .u8 0, .int .u8 0, .int .u8 0, .int .u8 0, .int .u8 0, .int .u8 0, .int .u8 0, .int .u8 0, .int .u8 0, .int .u8 0, .int .u8 0, .int .u8 0, .int .u8 0, .int .u8 0, .int .u8 0, .int .u8 0, .int .u8 0, .int .u8 0, .int .u8 0, .int .u8 0, .int .u8 0, .int .u8 0, .int .u8 0, .int .u8 0, .int .u8 0, .int .u8 0, .int .u8 0, .int .u8 0, .int .u8 0, .int .u8 0, .int .u8 0, .int .u8 0].toArray) (by kernel_rfl) (by kernel_rfl) (fun w1 A1 m1 hac l1 => ⟨_, l1.row (i := 0) rfl, by rw [rootO_bad (by omega)]; exact ⟨rfl, _, _, _, by rw [Bool.or_true], fun A w h => h⟩⟩)
      · try simp only [nrm] at hc
        have hc4 := hc
        refine J.run [.n, .n, .n, .u, .u, .u, .u] [0, 6, 37] ⟨[(0, .loc 0 0), (6, .loc 1 0), (37, .v (.slice pa pn pc))], [⟨134, [.int .i64 bits, .slice ga gn gc, .slice pa pn pc, .bool bad]⟩, ⟨34, [.int .u8 0, .int .u8 0, .int .u8 0, .int .u8 0, .int .u8 0, .int .u8 0, .int .u8 0, .int .u8 0, .int .u8 0, .int .u8 0, .int .u8 0, .int .u8 0, .int .u8 0, .int .u8 0, .int .u8 0, .int .u8 0, .int .u8 0, .int .u8 0, .int .u8 0, .int .u8 0, .int .u8 0, .int .u8 0, .int .u8 0, .int .u8 0, .int .u8 0, .int .u8 0, .int .u8 0, .int .u8 0, .int .u8 0, .int .u8 0, .int .u8 0, .int .u8 0]⟩]⟩ [.c 16, .c 17, .b 0, .c 31] [.o 18 4, .c 19, .b 0, .c 31] (by kernel_rfl) ?_
        obtain ⟨p2, o2, rfl⟩ := hp.addr (by omega)
        refine J.idx (b := p2) (off := o2) (len := pn) (i := 0) (sz := 32) (d := 38) (by kernel_rfl) (by omega) (by omega) ?_
        obtain ⟨x2, hx2⟩ : ∃ zq, (p)[0]? = some zq := ⟨_, List.getElem?_eq_getElem (by omega)⟩
        refine J.ld (T := 34) (b := p2) (off := o2 + 0 * 32) (d := 39) (v := .agg (dcells x2).toArray) (by kernel_rfl) (fun w1 A1 m1 l1 => (hp.mv m1).ld (by kernel_rfl) hx2 (by kernel_rfl)) ?_
        refine J.new (T := 34) (cs := [.int .u8 0, .int .u8 0, .int .u8 0, .int .u8 0, .int .u8 0, .int .u8 0, .int .u8 0, .int .u8 0, .int .u8 0, .int .u8 0, .int .u8 0, .int .u8 0, .int .u8 0, .int .u8 0, .int .u8 0, .int .u8 0, .int .u8 0, .int .u8 0, .int .u8 0, .int .u8 0, .int .u8 0, .int .u8 0, .int .u8 0, .int .u8 0, .int .u8 0, .int .u8 0, .int .u8 0, .int .u8 0, .int .u8 0, .int .u8 0, .int .u8 0, .int .u8 0]) (d := 7) (K := .ptr) (by kernel_rfl) (fun b3 hb3 => ?_)
        refine J.run [.u, .n, .n, .n, .u, .u, .u, .u, .u] [6, 7, 40, 44] ⟨[(6, .loc 1 0), (7, .loc 2 0), (40, .loc 0 0), (44, .v (.slice (some ⟨p2, o2, none⟩) pn pc))], [⟨134, [.int .i64 bits, .slice ga gn gc, .slice (some ⟨p2, o2, none⟩) pn pc, .bool bad]⟩, ⟨34, [.int .u8 0, .int .u8 0, .int .u8 0, .int .u8 0, .int .u8 0, .int .u8 0, .int .u8 0, .int .u8 0, .int .u8 0, .int .u8 0, .int .u8 0, .int .u8 0, .int .u8 0, .int .u8 0, .int .u8 0, .int .u8 0, .int .u8 0, .int .u8 0, .int .u8 0, .int .u8 0, .int .u8 0, .int .u8 0, .int .u8 0, .int .u8 0, .int .u8 0, .int .u8 0, .int .u8 0, .int .u8 0, .int .u8 0, .int .u8 0, .int .u8 0, .int .u8 0]⟩, ⟨34, dcells x2⟩]⟩ [.o 18 7, .c 19, .b 0, .c 31] [.o 20 5, .c 21, .b 0, .c 31] (by kernel_rfl) ?_
        refine J.sl (a := (some ⟨p2, o2, none⟩)) (len := pn) (cap := pc) (sz := 32) (lo := (some 1)) (hi := none) (mx := none) (d := 45) (by kernel_rfl) 1 pn pc (by simp) (by simp) (by simp) (by have := hp.le; omega) (by have := hp.le; omega) (by have := hp.le; omega) (by simp) ?_
        intro a2 ha2 hb2
        have hp2 := hp.from (L := 1) (by have := hp.le; omega) ha2
        refine J.run [.u, .u, .u, .n, .n, .n, .u, .u, .n] [6] ⟨[(6, .loc 1 0)], [⟨134, [.int .i64 bits, .slice ga gn gc, .slice a2 (pn - 1) (pc - 1), .bool bad]⟩, ⟨34, dcells x2⟩, ⟨34, dcells x2⟩]⟩ [.o 20 6, .c 21, .b 0, .c 31] [.c 23, .b 0, .c 31] (by kernel_rfl) ?_
        refine J.ret (v := .agg (dcells x2).toArray) (by kernel_rfl) (by kernel_rfl) (fun w1 A1 m1 hac l1 => ⟨_, l1.row (i := 0) rfl, by rw [rootO_take (by omega) hx2]; exact ⟨rfl, _, _, _, by rw [Bool.or_false], fun A w h => h.from (L := 1) (by omega) ha2⟩⟩)
    · try simp only [nrm] at hc
      have hc3 := hc
      refine J.run [.n, .n, .u, .u, .u, .n] [0, 1, 2, 6, 49] ⟨[(0, .loc 0 0), (1, .v (.int .i64 ((count : Nat) : Int))), (2, .v (.int .i64 i)), (6, .loc 1 0), (49, .v (.bool (((count : Nat) : Int) == 1)))], [⟨134, [.int .i64 bits, .slice ga gn gc, .slice pa pn pc, .bool bad]⟩, ⟨34, [.int .u8 0, .int .u8 0, .int .u8 0, .int .u8 0, .int .u8 0, .int .u8 0, .int .u8 0, .int .u8 0, .int .u8 0, .int .u8 0, .int .u8 0, .int .u8 0, .int .u8 0, .int .u8 0, .int .u8 0, .int .u8 0, .int .u8 0, .int .u8 0, .int .u8 0, .int .u8 0, .int .u8 0, .int .u8 0, .int .u8 0, .int .u8 0, .int .u8 0, .int .u8 0, .int .u8 0, .int .u8 0, .int .u8 0, .int .u8 0, .int .u8 0, .int .u8 0]⟩]⟩ [.c 24, .b 0, .c 31] [.c 26, .b 0, .c 31] (by kernel_rfl) ?_
      refine J.cond (b := (((count : Nat) : Int) == 1)) (k' := 30) (by kernel_rfl) (fun hc => ?_) (fun hc => ?_)
      · try simp only [nrm] at hc
        have hc5 := hc
        refine J.run [.n] [0, 2, 6] ⟨[(0, .loc 0 0), (2, .v (.int .i64 i)), (6, .loc 1 0)], [⟨134, [.int .i64 bits, .slice ga gn gc, .slice pa pn pc, .bool bad]⟩, ⟨34, [.int .u8 0, .int .u8 0, .int .u8 0, .int .u8 0, .int .u8 0, .int .u8 0, .int .u8 0, .int .u8 0, .int .u8 0, .int .u8 0, .int .u8 0, .int .u8 0, .int .u8 0, .int .u8 0, .int .u8 0, .int .u8 0, .int .u8 0, .int .u8 0, .int .u8 0, .int .u8 0, .int .u8 0, .int .u8 0, .int .u8 0, .int .u8 0, .int .u8 0, .int .u8 0, .int .u8 0, .int .u8 0, .int .u8 0, .int .u8 0, .int .u8 0, .int .u8 0]⟩]⟩ [.c 27, .b 0, .c 31] [.c 28, .c 29, .b 0, .c 31] (by kernel_rfl) ?_
        refine J.draw [1] nobody (by kernel_rfl) (by kernel_rfl) (fun _ h => h.elim) (fun w1 A1 m1 hr1 hX1 => ?_)
        replace hs := hs.mv m1; replace hp := hp.mv m1
        refine J.take0 [(0, .u), (1, .u), (2, .u), (3, .u), (4, .u), (5, .u), (6, .u), (7, .u), (8, .u), (9, .u)] [6, 55, 59, 61] [(6, .loc 1 0), (55, .v (.agg [.int .i64 bits].toArray)), (59, .v (.slice ga gn gc)), (61, .v (.int .i64 (IntKind.i64.wrap (0 - i))))] [9, 8, 7, 6, 5, 4, 3, 2, 1, 0] (calm_body _ _ _) (by intro k _ h; exact h) hr1 (by kernel_rfl) ?_
        rw [hneg (by omega)]
        obtain ⟨p3, o3, rfl⟩ := hs.addr (by omega)
        refine J.idxp (j := 10) (b := p3) (off := o3) (len := gn) (i := (((-i).toNat : Nat) : Int)) (sz := 1) (d := 62) (calm_body _ _ _) (by kernel_rfl) (by kernel_rfl) (by omega) (by omega) ?_
        obtain ⟨x3, hx3⟩ : ∃ zq, (part)[(-i).toNat]? = some zq := ⟨_, List.getElem?_eq_getElem (by omega)⟩
        obtain ⟨ra1, rn1, rc1, hrow1, hld1⟩ := hs.row hx3
        have hshhrow1 := (Short.at (by assumption) hx3 : x3.length ≤ 1000000); have hllhrow1 := hrow1.len
        refine J.ldp (i := 11) (T := 23) (b := p3) (off := o3 + ((-i).toNat) * 1) (d := 63) (v := .slice ra1 rn1 rc1) (calm_body _ _ _) (by kernel_rfl) (by kernel_rfl) hX1 (fun w1 m1 => hld1 _ _ _ m1 _ _ (by kernel_rfl)) ?_
        refine J.pick1 12 (by kernel_rfl) (by kernel_rfl) ?_
        refine J.callq (d := some 64) (by kernel_rfl) (fun w1 A1 m1 l1 => leaf_calls bits ra1 rn1 rc1 x3 (by omega) nobody w1 noA (hrow1.mv m1).any) ?_
        rintro _ u1 w2 A2 rfl g1
        have m2 := g1.mv
        replace hs := hs.mv m2; replace hp := hp.mv m2; replace hrow1 := hrow1.mv m2
        refine J.pick1 13 (by kernel_rfl) (by kernel_rfl) ?_
        refine J.storeq (i := 1) (m' := [⟨134, [.int .i64 bits, .slice (some ⟨p3, o3, none⟩) gn gc, .slice pa pn pc, .bool bad]⟩, ⟨34, dcells (leafF bits x3)⟩]) (by kernel_rfl) (by simp) rfl (by simp) ?_
        refine J.pdone (by kernel_rfl) ?_
        refine J.ret (v := .agg (dcells (leafF bits x3)).toArray) (by kernel_rfl) (by kernel_rfl) (fun w1 A1 m1 hac l1 => ⟨_, l1.row (i := 0) rfl, by rw [rootO_one (by omega) (by omega)]; exact ⟨by simp [List.getD, hx3], _, _, _, by rw [Bool.or_false], fun A w h => h⟩⟩)
      · try simp only [nrm] at hc
        have hc5 := hc
        refine J.run [.n, .n, .n, .n, .u] [0, 1, 2, 6, 65] ⟨[(0, .loc 0 0), (1, .v (.int .i64 ((count : Nat) : Int))), (2, .v (.int .i64 i)), (6, .loc 1 0), (65, .v (.int .i64 ((count : Nat) : Int)))], [⟨134, [.int .i64 bits, .slice ga gn gc, .slice pa pn pc, .bool bad]⟩, ⟨34, [.int .u8 0, .int .u8 0, .int .u8 0, .int .u8 0, .int .u8 0, .int .u8 0, .int .u8 0, .int .u8 0, .int .u8 0, .int .u8 0, .int .u8 0, .int .u8 0, .int .u8 0, .int .u8 0, .int .u8 0, .int .u8 0, .int .u8 0, .int .u8 0, .int .u8 0, .int .u8 0, .int .u8 0, .int .u8 0, .int .u8 0, .int .u8 0, .int .u8 0, .int .u8 0, .int .u8 0, .int .u8 0, .int .u8 0, .int .u8 0, .int .u8 0, .int .u8 0]⟩]⟩ [.c 30, .b 0, .c 31] [.o 32 1, .c 33] (by kernel_rfl) ?_
        have hhh1 := half_lt2 count
        refine J.call (d := some 66) (by kernel_rfl) (fun w1 A1 m1 l1 => tree_half count (by omega) (by simp only [maxLen]; omega) nobody w1 noA) ?_
        rintro _ u2 w3 A3 rfl g2
        have m3 := g2.mv
        replace hs := hs.mv m3; replace hp := hp.mv m3
        refine J.run [.u, .n, .n, .n, .u, .u, .u] [0, 1, 2, 6, 8, 67, 68, 69] ⟨[(0, .loc 0 0), (1, .v (.int .i64 ((count : Nat) : Int))), (2, .v (.int .i64 i)), (6, .loc 1 0), (8, .v (.int .i64 ((half count : Nat) : Int))), (67, .loc 0 0), (68, .v (.int .i64 ((half count : Nat) : Int))), (69, .v (.int .i64 i))], [⟨134, [.int .i64 bits, .slice ga gn gc, .slice pa pn pc, .bool bad]⟩, ⟨34, [.int .u8 0, .int .u8 0, .int .u8 0, .int .u8 0, .int .u8 0, .int .u8 0, .int .u8 0, .int .u8 0, .int .u8 0, .int .u8 0, .int .u8 0, .int .u8 0, .int .u8 0, .int .u8 0, .int .u8 0, .int .u8 0, .int .u8 0, .int .u8 0, .int .u8 0, .int .u8 0, .int .u8 0, .int .u8 0, .int .u8 0, .int .u8 0, .int .u8 0, .int .u8 0, .int .u8 0, .int .u8 0, .int .u8 0, .int .u8 0, .int .u8 0, .int .u8 0]⟩]⟩ [.o 32 2, .c 33] [.o 34 3, .c 35] (by kernel_rfl) ?_
        refine J.callM (d := some 70) 0 rfl rfl (by kernel_rfl) (fun w1 A1 m1 l1 a1 => ih pa pn pc p bad (half count) i (by omega) (by omega) (by omega) (by omega) (by omega) b (fun k => k = b) w1 (oneA (m1.bdd _ a1)) (l1.row (i := 0) rfl) rfl ((hs.mv m1).one a1) ((hp.mv m1).one a1)) ?_
        rintro _ _ u3 w4 A4 ⟨rfl, pa1, pn1, pc1, rfl, hsl1⟩ g3
        have m4 := g3.mv
        replace hs := hs.mv m4; replace hp := hp.mv m4
        have hp3 := hsl1 _ _ hp
        refine J.new (T := 34) (cs := [.int .u8 0, .int .u8 0, .int .u8 0, .int .u8 0, .int .u8 0, .int .u8 0, .int .u8 0, .int .u8 0, .int .u8 0, .int .u8 0, .int .u8 0, .int .u8 0, .int .u8 0, .int .u8 0, .int .u8 0, .int .u8 0, .int .u8 0, .int .u8 0, .int .u8 0, .int .u8 0, .int .u8 0, .int .u8 0, .int .u8 0, .int .u8 0, .int .u8 0, .int .u8 0, .int .u8 0, .int .u8 0, .int .u8 0, .int .u8 0, .int .u8 0, .int .u8 0]) (d := 9) (K := .ptr) (by kernel_rfl) (fun b4 hb4 => ?_)
        refine J.run [.u, .n, .n] [0, 1, 2, 6, 8, 9] ⟨[(0, .loc 0 0), (1, .v (.int .i64 ((count : Nat) : Int))), (2, .v (.int .i64 i)), (6, .loc 1 0), (8, .v (.int .i64 ((half count : Nat) : Int))), (9, .loc 2 0)], [⟨134, [.int .i64 bits, .slice ga gn gc, .slice pa1 pn1 pc1, .bool (bad || (rootO bits part (half count) i p).2.2)]⟩, ⟨34, [.int .u8 0, .int .u8 0, .int .u8 0, .int .u8 0, .int .u8 0, .int .u8 0, .int .u8 0, .int .u8 0, .int .u8 0, .int .u8 0, .int .u8 0, .int .u8 0, .int .u8 0, .int .u8 0, .int .u8 0, .int .u8 0, .int .u8 0, .int .u8 0, .int .u8 0, .int .u8 0, .int .u8 0, .int .u8 0, .int .u8 0, .int .u8 0, .int .u8 0, .int .u8 0, .int .u8 0, .int .u8 0, .int .u8 0, .int .u8 0, .int .u8 0, .int .u8 0]⟩, ⟨34, dcells (rootO bits part (half count) i p).1⟩]⟩ [.o 34 5, .c 35] [.c 36, .c 37] (by kernel_rfl) ?_
        refine J.draw [0, 1] nobody (by kernel_rfl) (by kernel_rfl) (fun _ h => h.elim) (fun w5 A5 m5 hr2 hX2 => ?_)
        replace hs := hs.mv m5; replace hp := hp.mv m5; replace hp3 := hp3.mv m5
        refine J.take0 [(0, .u), (1, .u), (2, .u), (4, .u), (5, .u), (6, .u), (7, .u), (8, .u), (9, .u), (10, .u), (11, .u)] [6, 73, 75, 76, 79, 82] [(6, .loc 1 0), (73, .loc 0 0), (75, .v (.agg (dcells (rootO bits part (half count) i p).1).toArray)), (76, .loc 0 0), (79, .v (.int .i64 (IntKind.i64.wrap (((count : Nat) : Int) - ((half count : Nat) : Int))))), (82, .v (.int .i64 (IntKind.i64.wrap (i - ((half count : Nat) : Int)))))] [11, 10, 9, 8, 7, 6, 5, 4, 2, 1, 0] (calm_body _ _ _) (by intro k _ h; exact h) hr2 (by kernel_rfl) ?_
        rw [hik (half count) (by omega) (by omega)]
        rw [hck (half count) (by omega)]
        refine J.pick [3, 12] (by kernel_rfl) (by kernel_rfl) (by simp) (fun i hi => ?_)
        simp only [List.mem_cons, List.not_mem_nil, or_false] at hi
        rcases hi with rfl | rfl
        · skip
          refine J.ldq (T := 32) (b := b) (off := 0) (d := 74) (v := .agg [.int .i64 bits].toArray) (by kernel_rfl) (fun w1 A1 m1 l1 => l1.ldp (i := 0) (off := 0) (k := 1) rfl (by kernel_rfl) (by kernel_rfl) (by kernel_rfl) rfl) ?_
          refine J.pick1 12 (by kernel_rfl) (by kernel_rfl) ?_
          refine J.callMq (d := some 83) 0 rfl rfl (by kernel_rfl) (.inl (.inr ⟨0, by simp, by simp, rfl⟩)) (fun w1 A1 m1 l1 a1 => ih pa1 pn1 pc1 ((rootO bits part (half count) i p).2.1) (bad || (rootO bits part (half count) i p).2.2) (count - half count) (i - ((half count : Nat) : Int)) (by omega) (by omega) (by omega) (by omega) (by omega) b (fun k => k = b) w1 (oneA (m1.bdd _ a1)) (l1.row (i := 0) rfl) rfl ((hs.mv m1).one a1) ((hp3.mv m1).one a1)) ?_
          rintro _ _ u4 w6 A6 ⟨rfl, pa2, pn2, pc2, rfl, hsl2⟩ g4
          have m6 := g4.mv
          replace hs := hs.mv m6; replace hp := hp.mv m6; replace hp3 := hp3.mv m6
          have hp4 := hsl2 _ _ hp3
          refine J.pick1 13 (by kernel_rfl) (by kernel_rfl) ?_
          refine J.callq (d := some 84) (by kernel_rfl) (fun w1 A1 m1 l1 => node_calls bits ((rootO bits part (half count) i p).1) ((rootO bits part (count - half count) (i - ((half count : Nat) : Int)) ((rootO bits part (half count) i p).2.1)).1) nobody w1 noA) ?_
          rintro _ u5 w7 A7 rfl g5
          have m7 := g5.mv
          replace hs := hs.mv m7; replace hp := hp.mv m7; replace hp3 := hp3.mv m7; replace hp4 := hp4.mv m7
          refine J.pick1 14 (by kernel_rfl) (by kernel_rfl) ?_
          refine J.storeq (i := 1) (m' := [⟨134, [.int .i64 bits, .slice ga gn gc, .slice pa2 pn2 pc2, .bool ((bad || (rootO bits part (half count) i p).2.2) || (rootO bits part (count - half count) (i - ((half count : Nat) : Int)) ((rootO bits part (half count) i p).2.1)).2.2)]⟩, ⟨34, dcells (nodeF bits ((rootO bits part (half count) i p).1) ((rootO bits part (count - half count) (i - ((half count : Nat) : Int)) ((rootO bits part (half count) i p).2.1)).1))⟩, ⟨34, dcells (rootO bits part (half count) i p).1⟩]) (by kernel_rfl) (by simp) rfl (by simp) ?_
          refine J.pdone (by kernel_rfl) ?_
          refine J.ret (v := .agg (dcells (nodeF bits ((rootO bits part (half count) i p).1) ((rootO bits part (count - half count) (i - ((half count : Nat) : Int)) ((rootO bits part (half count) i p).2.1)).1))).toArray) (by kernel_rfl) (by kernel_rfl) (fun w1 A1 m1 hac l1 => ⟨_, l1.row (i := 0) rfl, by rw [rootO_two (by omega) (by omega)]; exact ⟨rfl, _, _, _, by rw [← Bool.or_assoc], fun A w h => hsl2 _ _ (hsl1 _ _ h)⟩⟩)
        · skip
          refine J.callMq (d := some 83) 0 rfl rfl (by kernel_rfl) (.inl (.inr ⟨0, by simp, by simp, rfl⟩)) (fun w1 A1 m1 l1 a1 => ih pa1 pn1 pc1 ((rootO bits part (half count) i p).2.1) (bad || (rootO bits part (half count) i p).2.2) (count - half count) (i - ((half count : Nat) : Int)) (by omega) (by omega) (by omega) (by omega) (by omega) b (fun k => k = b) w1 (oneA (m1.bdd _ a1)) (l1.row (i := 0) rfl) rfl ((hs.mv m1).one a1) ((hp3.mv m1).one a1)) ?_
          rintro _ _ u6 w8 A8 ⟨rfl, pa3, pn3, pc3, rfl, hsl3⟩ g6
          have m8 := g6.mv
          replace hs := hs.mv m8; replace hp := hp.mv m8; replace hp3 := hp3.mv m8
          have hp5 := hsl3 _ _ hp3
          refine J.pick1 3 (by kernel_rfl) (by kernel_rfl) ?_
          refine J.ldq (T := 32) (b := b) (off := 0) (d := 74) (v := .agg [.int .i64 bits].toArray) (by kernel_rfl) (fun w1 A1 m1 l1 => l1.ldp (i := 0) (off := 0) (k := 1) rfl (by kernel_rfl) (by kernel_rfl) (by kernel_rfl) rfl) ?_
          refine J.pick1 13 (by kernel_rfl) (by kernel_rfl) ?_
          refine J.callq (d := some 84) (by kernel_rfl) (fun w1 A1 m1 l1 => node_calls bits ((rootO bits part (half count) i p).1) ((rootO bits part (count - half count) (i - ((half count : Nat) : Int)) ((rootO bits part (half count) i p).2.1)).1) nobody w1 noA) ?_
          rintro _ u7 w9 A9 rfl g7
          have m9 := g7.mv
          replace hs := hs.mv m9; replace hp := hp.mv m9; replace hp3 := hp3.mv m9; replace hp5 := hp5.mv m9
          refine J.pick1 14 (by kernel_rfl) (by kernel_rfl) ?_
          refine J.storeq (i := 1) (m' := [⟨134, [.int .i64 bits, .slice ga gn gc, .slice pa3 pn3 pc3, .bool ((bad || (rootO bits part (half count) i p).2.2) || (rootO bits part (count - half count) (i - ((half count : Nat) : Int)) ((rootO bits part (half count) i p).2.1)).2.2)]⟩, ⟨34, dcells (nodeF bits ((rootO bits part (half count) i p).1) ((rootO bits part (count - half count) (i - ((half count : Nat) : Int)) ((rootO bits part (half count) i p).2.1)).1))⟩, ⟨34, dcells (rootO bits part (half count) i p).1⟩]) (by kernel_rfl) (by simp) rfl (by simp) ?_
          refine J.pdone (by kernel_rfl) ?_
          refine J.ret (v := .agg (dcells (nodeF bits ((rootO bits part (half count) i p).1) ((rootO bits part (count - half count) (i - ((half count : Nat) : Int)) ((rootO bits part (half count) i p).2.1)).1))).toArray) (by kernel_rfl) (by kernel_rfl) (fun w1 A1 m1 hac l1 => ⟨_, l1.row (i := 0) rfl, by rw [rootO_two (by omega) (by omega)]; exact ⟨rfl, _, _, _, by rw [← Bool.or_assoc], fun A w h => hsl3 _ _ (hsl1 _ _ h)⟩⟩)
theorem rootO_calls (bits : Int) (ga : Option Addr) (gn gc : Nat) (part : List (List UInt8)) (hsh : Short part) (hgn : part.length ≤ 1000000) : ∀ (N : Nat), ∀ (pa : Option Addr) (pn pc : Nat) (p2 : List Dg) (bad : Bool) (k2 : Nat) (i2 : Int), k2 < N → 1 ≤ k2 → k2 ≤ 1000000 → ((k2 : Nat) : Int) - 1000000000 ≤ i2 → i2 ≤ 1000000000 → ∀ (b : Nat) (Ac : Nat → Prop) (W : World), (∀ k, Ac k → k < W.heap.size) → W.heap[b]? = some (.cells [.int .i64 bits, .slice ga gn gc, .slice pa pn pc, .bool bad].toArray 134 (0, 0)) → Ac b → Rows Ac W ga gn gc part → Sl 32 dcells Ac W pa pn pc p2 → Calls Pr 88 #[.pointer (some ⟨b, 0, none⟩), .int .i64 ((k2 : Nat) : Int), .int .i64 i2] W (RB b 134 W fun v cs w => v = .agg (dcells (rootO bits part k2 i2 p2).1).toArray ∧ ∃ a2 n2 c2, cs = [.int .i64 bits, .slice ga gn gc, .slice a2 n2 c2, .bool (bad || (rootO bits part k2 i2 p2).2.2)] ∧ ∀ (A : Nat → Prop) (w : World), Sl 32 dcells A w pa pn pc p2 → Sl 32 dcells A w a2 n2 c2 (rootO bits part k2 i2 p2).2.1)
  | 0, _, _, _, _, _, _, _, h, _, _, _, _, _, _, _, _, _, _, _, _ => absurd h (Nat.not_lt_zero _)
  | N + 1, pa, pn, pc, p, bad, k, i, h, h1, h2, h3, h4, b, Ac, W, hA, hrow, hAb, hs, hp => rootO_step bits ga gn gc part hsh hgn pa pn pc p bad k i (fun pa pn pc p bad k2 i2 hl => rootO_calls bits ga gn gc part hsh hgn N pa pn pc p bad k2 i2 (by omega)) h1 h2 h3 h4 b Ac W hA hrow hAb hs hp
theorem checkR_calls (bits : Int) (root : Dg) (count : Nat) (i : Int) (ga : Option Addr) (gn gc : Nat) (part : List (List UInt8)) (pa : Option Addr) (pn pc : Nat) (p : List Dg) (hsh : Short part) (hgn : part.length ≤ 1000000) (hc : count ≤ 1000000) (Ac : Nat → Prop) (W : World) (hA : ∀ k, Ac k → k < W.heap.size) (hs : Rows Ac W ga gn gc part) (hp : Sl 32 dcells Ac W pa pn pc p) :
    Calls Pr 58 #[.agg [.int .i64 bits].toArray, .agg (dcells root).toArray, .int .i64 ((count : Nat) : Int), .int .i64 i, .slice ga gn gc, .slice pa pn pc] W (Ret nobody W fun v w => v = .bool (checkR bits root count i part p)) := by
  refine J.enter (fn := Try.f58) (n := 63) Try.func58 (by kernel_rfl) (by kernel_rfl) (by kernel_rfl) hA ?_
  have hlen := hs.len; have hle := hs.le; have hcap := hs.cap; have hpl := hp.len; have hpe := hp.le; have hpc := hp.cap; simp only [maxLen] at hcap hpc
  refine J.run [.n, .n] [0, 1, 2, 3, 4, 5] ⟨[(0, .v (.agg [.int .i64 bits].toArray)), (1, .v (.agg (dcells root).toArray)), (2, .v (.int .i64 ((count : Nat) : Int))), (3, .v (.int .i64 i)), (4, .v (.slice ga gn gc)), (5, .v (.slice pa pn pc))], []⟩ [.c 0] [.o 1 0, .c 2] (by kernel_rfl) ?_
  refine J.new (T := 32) (cs := [.int .i64 bits]) (d := 6) (K := .ptr) (by kernel_rfl) (fun b1 hb1 => ?_)
  refine J.new (T := 34) (cs := dcells root) (d := 7) (K := .ptr) (by kernel_rfl) (fun b2 hb2 => ?_)
  refine J.run [.u, .n, .n, .n, .n, .u, .u, .u, .u] [2, 3, 4, 5, 6, 7, 18] ⟨[(2, .v (.int .i64 ((count : Nat) : Int))), (3, .v (.int .i64 i)), (4, .v (.slice ga gn gc)), (5, .v (.slice pa pn pc)), (6, .loc 0 0), (7, .loc 1 0), (18, .v (.bool (((gn : Nat) : Int) == 0)))], [⟨32, [.int .i64 bits]⟩, ⟨34, dcells root⟩]⟩ [.o 1 2, .c 2] [.o 4 4, .c 5, .c 10] (by kernel_rfl) ?_
  rcases Bool.eq_false_or_eq_true (((gn : Nat) : Int) == 0) with hc | hc
  · rw [hc]
    try simp only [nrm] at hc
    have hc1 := hc
    refine J.run [.x, .x, .u, .u, .x, .x, .x, .x, .u, .u, .x, .x, .x, .x, .x, .x, .u, .n] [2, 3, 4, 5, 6, 7, 35] ⟨[(2, .v (.int .i64 ((count : Nat) : Int))), (3, .v (.int .i64 i)), (4, .v (.slice ga gn gc)), (5, .v (.slice pa pn pc)), (6, .loc 0 0), (7, .loc 1 0), (35, .v (.bool true))], [⟨32, [.int .i64 bits]⟩, ⟨34, dcells root⟩]⟩ [.o 4 4, .c 5, .c 10] [.c 5, .c 10] (by kernel_rfl) ?_
    refine J.cond (b := true) (k' := 9) (by kernel_rfl) (fun _ => ?_) (fun hc => absurd hc (by decide))
    refine J.run [.n, .n, .u, .n] [12] ⟨[(12, .v (.bool false))], [⟨32, [.int .i64 bits]⟩, ⟨34, dcells root⟩]⟩ [.c 6, .c 10] [.c 8, .c 10] (by kernel_rfl) ?_
    have hcs : count - gn = count - part.length := by rw [hlen]
    refine J.ret (v := .bool false) (by kernel_rfl) (by kernel_rfl) (fun w1 A1 m1 hac l1 => by unfold checkR; rw [decide_eq_false (p := 0 < part.length ∧ 0 ≤ i ∧ part.length ≤ count ∧ i ≤ ((count - part.length : Nat) : Int)) (by rintro ⟨q1, q2, q3, q4⟩; omega)]; simp_all)
  · rw [hc]
    try simp only [nrm] at hc
    have hc1 := hc
    refine J.run [.w, .w, .u, .u] [2, 3, 4, 5, 6, 7, 22] ⟨[(2, .v (.int .i64 ((count : Nat) : Int))), (3, .v (.int .i64 i)), (4, .v (.slice ga gn gc)), (5, .v (.slice pa pn pc)), (6, .loc 0 0), (7, .loc 1 0), (22, .v (.bool (decide (i < 0))))], [⟨32, [.int .i64 bits]⟩, ⟨34, dcells root⟩]⟩ [.o 4 4, .c 5, .c 10] [.o 4 8, .c 5, .c 10] (by kernel_rfl) ?_
    rcases Bool.eq_false_or_eq_true (decide (i < 0)) with hc | hc
    · rw [hc]
      try simp only [nrm] at hc
      have hc2 := hc
      refine J.run [.x, .x, .x, .x, .u, .u, .x, .x, .x, .x, .x, .x, .u, .n] [2, 3, 4, 5, 6, 7, 35] ⟨[(2, .v (.int .i64 ((count : Nat) : Int))), (3, .v (.int .i64 i)), (4, .v (.slice ga gn gc)), (5, .v (.slice pa pn pc)), (6, .loc 0 0), (7, .loc 1 0), (35, .v (.bool true))], [⟨32, [.int .i64 bits]⟩, ⟨34, dcells root⟩]⟩ [.o 4 8, .c 5, .c 10] [.c 5, .c 10] (by kernel_rfl) ?_
      refine J.cond (b := true) (k' := 9) (by kernel_rfl) (fun _ => ?_) (fun hc => absurd hc (by decide))
      refine J.run [.n, .n, .u, .n] [12] ⟨[(12, .v (.bool false))], [⟨32, [.int .i64 bits]⟩, ⟨34, dcells root⟩]⟩ [.c 6, .c 10] [.c 8, .c 10] (by kernel_rfl) ?_
      have hcs : count - gn = count - part.length := by rw [hlen]
      refine J.ret (v := .bool false) (by kernel_rfl) (by kernel_rfl) (fun w1 A1 m1 hac l1 => by unfold checkR; rw [decide_eq_false (p := 0 < part.length ∧ 0 ≤ i ∧ part.length ≤ count ∧ i ≤ ((count - part.length : Nat) : Int)) (by rintro ⟨q1, q2, q3, q4⟩; omega)]; simp_all)
    · rw [hc]
      try simp only [nrm] at hc
      have hc2 := hc
      refine J.run [.w, .w, .w, .w, .u, .u] [2, 3, 4, 5, 6, 7, 28] ⟨[(2, .v (.int .i64 ((count : Nat) : Int))), (3, .v (.int .i64 i)), (4, .v (.slice ga gn gc)), (5, .v (.slice pa pn pc)), (6, .loc 0 0), (7, .loc 1 0), (28, .v (.bool (decide (((count : Nat) : Int) < ((gn : Nat) : Int)))))], [⟨32, [.int .i64 bits]⟩, ⟨34, dcells root⟩]⟩ [.o 4 8, .c 5, .c 10] [.o 4 14, .c 5, .c 10] (by kernel_rfl) ?_
      rcases Bool.eq_false_or_eq_true (decide (((count : Nat) : Int) < ((gn : Nat) : Int))) with hc | hc
      · rw [hc]
        try simp only [nrm] at hc
        have hc3 := hc
        refine J.run [.x, .x, .x, .x, .x, .x, .u, .n] [2, 3, 4, 5, 6, 7, 35] ⟨[(2, .v (.int .i64 ((count : Nat) : Int))), (3, .v (.int .i64 i)), (4, .v (.slice ga gn gc)), (5, .v (.slice pa pn pc)), (6, .loc 0 0), (7, .loc 1 0), (35, .v (.bool true))], [⟨32, [.int .i64 bits]⟩, ⟨34, dcells root⟩]⟩ [.o 4 14, .c 5, .c 10] [.c 5, .c 10] (by kernel_rfl) ?_
        refine J.cond (b := true) (k' := 9) (by kernel_rfl) (fun _ => ?_) (fun hc => absurd hc (by decide))
        refine J.run [.n, .n, .u, .n] [12] ⟨[(12, .v (.bool false))], [⟨32, [.int .i64 bits]⟩, ⟨34, dcells root⟩]⟩ [.c 6, .c 10] [.c 8, .c 10] (by kernel_rfl) ?_
        have hcs : count - gn = count - part.length := by rw [hlen]
        refine J.ret (v := .bool false) (by kernel_rfl) (by kernel_rfl) (fun w1 A1 m1 hac l1 => by unfold checkR; rw [decide_eq_false (p := 0 < part.length ∧ 0 ≤ i ∧ part.length ≤ count ∧ i ≤ ((count - part.length : Nat) : Int)) (by rintro ⟨q1, q2, q3, q4⟩; omega)]; simp_all)
      · rw [hc]
        try simp only [nrm] at hc
        have hc3 := hc
        refine J.run [.w, .w, .w, .w, .w, .w, .u, .n] [2, 3, 4, 5, 6, 7, 35] ⟨[(2, .v (.int .i64 ((count : Nat) : Int))), (3, .v (.int .i64 i)), (4, .v (.slice ga gn gc)), (5, .v (.slice pa pn pc)), (6, .loc 0 0), (7, .loc 1 0), (35, .v (.bool (decide (i > (IntKind.i64.wrap (((count : Nat) : Int) - ((gn : Nat) : Int)))))))], [⟨32, [.int .i64 bits]⟩, ⟨34, dcells root⟩]⟩ [.o 4 14, .c 5, .c 10] [.c 5, .c 10] (by kernel_rfl) ?_
        rw [(show IntKind.i64.wrap (((count : Nat) : Int) - ((gn : Nat) : Int)) = ((count - gn : Nat) : Int) by rw [wrap_i64 (by omega) (by omega)]; omega)]
        refine J.cond (b := (decide (i > ((count - gn : Nat) : Int)))) (k' := 9) (by kernel_rfl) (fun hc => ?_) (fun hc => ?_)
        · try simp only [nrm] at hc
          have hc4 := hc
          refine J.run [.n, .n, .u, .n] [12] ⟨[(12, .v (.bool false))], [⟨32, [.int .i64 bits]⟩, ⟨34, dcells root⟩]⟩ [.c 6, .c 10] [.c 8, .c 10] (by kernel_rfl) ?_
          have hcs : count - gn = count - part.length := by rw [hlen]
          refine J.ret (v := .bool false) (by kernel_rfl) (by kernel_rfl) (fun w1 A1 m1 hac l1 => by unfold checkR; rw [decide_eq_false (p := 0 < part.length ∧ 0 ≤ i ∧ part.length ≤ count ∧ i ≤ ((count - part.length : Nat) : Int)) (by rintro ⟨q1, q2, q3, q4⟩; omega)]; simp_all)
        · try simp only [nrm] at hc
          have hc4 := hc
          refine J.run [.n, .n, .n, .u, .u, .u, .u] [2, 3, 7, 39] ⟨[(2, .v (.int .i64 ((count : Nat) : Int))), (3, .v (.int .i64 i)), (7, .loc 1 0), (39, .v (.agg [.int .i64 bits, .slice ga gn gc, .slice pa pn pc, .bool false].toArray))], [⟨32, [.int .i64 bits]⟩, ⟨34, dcells root⟩]⟩ [.c 9, .c 10] [.o 11 4, .c 12] (by kernel_rfl) ?_
          refine J.new (T := 134) (cs := [.int .i64 bits, .slice ga gn gc, .slice pa pn pc, .bool false]) (d := 40) (K := .ptr) (by kernel_rfl) (fun b3 hb3 => ?_)
          refine J.run [.u, .n, .n, .n, .u, .u, .u] [7, 13, 41, 42, 43] ⟨[(7, .loc 1 0), (13, .loc 2 0), (41, .loc 2 0), (42, .v (.int .i64 ((count : Nat) : Int))), (43, .v (.int .i64 i))], [⟨32, [.int .i64 bits]⟩, ⟨34, dcells root⟩, ⟨134, [.int .i64 bits, .slice ga gn gc, .slice pa pn pc, .bool false]⟩]⟩ [.o 11 5, .c 12] [.o 13 3, .c 14] (by kernel_rfl) ?_
          refine J.callM (d := some 44) 2 rfl rfl (by kernel_rfl) (fun w1 A1 m1 l1 a1 => rootO_calls bits ga gn gc part hsh hgn _ pa pn pc p false count i (Nat.lt_succ_self _) (by omega) (by omega) (by omega) (by omega) b3 (fun k => k = b3) w1 (oneA (m1.bdd _ a1)) (l1.row (i := 2) rfl) rfl ((hs.mv m1).one a1) ((hp.mv m1).one a1)) ?_
          rintro _ _ u1 w1 A1 ⟨rfl, pa1, pn1, pc1, rfl, hsl1⟩ g1
          have m1 := g1.mv
          replace hs := hs.mv m1; replace hp := hp.mv m1
          have hp1 := hsl1 _ _ hp; have hlhp1 := hp1.len
          refine J.new (T := 34) (cs := [.int .u8 0, .int .u8 0, .int .u8 0, .int .u8 0, .int .u8 0, .int .u8 0, .int .u8 0, .int .u8 0, .int .u8 0, .int .u8 0, .int .u8 0, .int .u8 0, .int .u8 0, .int .u8 0, .int .u8 0, .int .u8 0, .int .u8 0, .int .u8 0, .int .u8 0, .int .u8 0, .int .u8 0, .int .u8 0, .int .u8 0, .int .u8 0, .int .u8 0, .int .u8 0, .int .u8 0, .int .u8 0, .int .u8 0, .int .u8 0, .int .u8 0, .int .u8 0]) (d := 14) (K := .ptr) (by kernel_rfl) (fun b4 hb4 => ?_)
          refine J.run [.u, .n, .n, .n, .u, .u, .u, .u, .u, .u] [7, 13, 14, 50] ⟨[(7, .loc 1 0), (13, .loc 2 0), (14, .loc 3 0), (50, .v (.bool (!(false || (rootO bits part count i p).2.2))))], [⟨32, [.int .i64 bits]⟩, ⟨34, dcells root⟩, ⟨134, [.int .i64 bits, .slice ga gn gc, .slice pa1 pn1 pc1, .bool (false || (rootO bits part count i p).2.2)]⟩, ⟨34, dcells (rootO bits part count i p).1⟩]⟩ [.o 13 5, .c 14] [.o 15 6, .c 16] (by kernel_rfl) ?_
          rcases Bool.eq_false_or_eq_true (!(false || (rootO bits part count i p).2.2)) with hc | hc
          · rw [hc]
            try simp only [nrm] at hc
            have hc5 := hc
            refine J.run [.w, .w, .w, .w, .w, .w, .u, .u] [7, 14, 58] ⟨[(7, .loc 1 0), (14, .loc 3 0), (58, .v (.bool (((pn1 : Nat) : Int) == 0)))], [⟨32, [.int .i64 bits]⟩, ⟨34, dcells root⟩, ⟨134, [.int .i64 bits, .slice ga gn gc, .slice pa1 pn1 pc1, .bool (false || (rootO bits part count i p).2.2)]⟩, ⟨34, dcells (rootO bits part count i p).1⟩]⟩ [.o 15 6, .c 16] [.o 15 14, .c 16] (by kernel_rfl) ?_
            rcases Bool.eq_false_or_eq_true (((pn1 : Nat) : Int) == 0) with hc | hc
            · rw [hc]
              try simp only [nrm] at hc
              have hc6 := hc
              refine J.run [.w, .w] [58, 59, 60] ⟨[(58, .v (.bool true)), (59, .v (.agg (dcells (rootO bits part count i p).1).toArray)), (60, .v (.agg (dcells root).toArray))], [⟨32, [.int .i64 bits]⟩, ⟨34, dcells root⟩, ⟨134, [.int .i64 bits, .slice ga gn gc, .slice pa1 pn1 pc1, .bool (false || (rootO bits part count i p).2.2)]⟩, ⟨34, dcells (rootO bits part count i p).1⟩]⟩ [.o 15 14, .c 16] [.o 15 16, .c 16] (by kernel_rfl) ?_
              refine J.eqA (neg := false) (T := 34) (d := 61) (b := dgEq ((rootO bits part count i p).1) root) (by kernel_rfl) dig_guard (dig_eq ((rootO bits part count i p).1) root) ?_
              refine J.run [.u, .u, .n] [12] ⟨[(12, .v (.bool (dgEq ((rootO bits part count i p).1) root)))], [⟨32, [.int .i64 bits]⟩, ⟨34, dcells root⟩, ⟨134, [.int .i64 bits, .slice ga gn gc, .slice pa1 pn1 pc1, .bool (false || (rootO bits part count i p).2.2)]⟩, ⟨34, dcells (rootO bits part count i p).1⟩]⟩ [.o 15 17, .c 16] [.c 16] (by kernel_rfl) ?_
              have hcs : count - gn = count - part.length := by rw [hlen]
              refine J.ret (v := .bool (dgEq ((rootO bits part count i p).1) root)) (by kernel_rfl) (by kernel_rfl) (fun w1 A1 m1 hac l1 => by unfold checkR; rw [decide_eq_true (p := 0 < part.length ∧ 0 ≤ i ∧ part.length ≤ count ∧ i ≤ ((count - part.length : Nat) : Int)) ⟨by omega, by omega, by omega, by omega⟩]; simp_all)
            · rw [hc]
              try simp only [nrm] at hc
              have hc6 := hc
              refine J.run [.x, .x, .x, .u, .u, .n] [12] ⟨[(12, .v (.bool false))], [⟨32, [.int .i64 bits]⟩, ⟨34, dcells root⟩, ⟨134, [.int .i64 bits, .slice ga gn gc, .slice pa1 pn1 pc1, .bool (false || (rootO bits part count i p).2.2)]⟩, ⟨34, dcells (rootO bits part count i p).1⟩]⟩ [.o 15 14, .c 16] [.c 16] (by kernel_rfl) ?_
              have hcs : count - gn = count - part.length := by rw [hlen]
              refine J.ret (v := .bool false) (by kernel_rfl) (by kernel_rfl) (fun w1 A1 m1 hac l1 => by unfold checkR; rw [decide_eq_true (p := 0 < part.length ∧ 0 ≤ i ∧ part.length ≤ count ∧ i ≤ ((count - part.length : Nat) : Int)) ⟨by omega, by omega, by omega, by omega⟩]; simp_all)
          · rw [hc]
            try simp only [nrm] at hc
            have hc5 := hc
            refine J.run [.x, .x, .x, .x, .x, .x, .u, .u, .x, .x, .x, .u, .u, .n] [12] ⟨[(12, .v (.bool false))], [⟨32, [.int .i64 bits]⟩, ⟨34, dcells root⟩, ⟨134, [.int .i64 bits, .slice ga gn gc, .slice pa1 pn1 pc1, .bool (false || (rootO bits part count i p).2.2)]⟩, ⟨34, dcells (rootO bits part count i p).1⟩]⟩ [.o 15 6, .c 16] [.c 16] (by kernel_rfl) ?_
            have hcs : count - gn = count - part.length := by rw [hlen]
            refine J.ret (v := .bool false) (by kernel_rfl) (by kernel_rfl) (fun w1 A1 m1 hac l1 => by unfold checkR; rw [decide_eq_true (p := 0 < part.length ∧ 0 ≤ i ∧ part.length ≤ count ∧ i ≤ ((count - part.length : Nat) : Int)) ⟨by omega, by omega, by omega, by omega⟩]; simp_all)
end Go.Proofs.Ytkgokehkobifkaa.J

/- Calls of a function that is a variable; stores into slices of the walk's own; clear. -/
namespace Go.Proofs.Ytkgokehkobifkaa.J
open Go Go.RowKit

section
variable {P : Program} {B : Code} {Q : Exit → Act → World → Prop} {n : Nat} {W : World} {Ac M A : Nat → Prop} {s : SS} {ρ : List Nat} {w0 : World} {r t : List It} {k j : Nat}

def evvs (e : Env) (ρ : List Nat) : List Operand → Option (List Value)
  | [] => some []
  | x :: r => match evv e ρ none x, evvs e ρ r with
    | some v, some l => some (v :: l)
    | _, _ => none
theorem evvs_den {e : Env} {a : Act} (hf : Fits n e ρ a) : ∀ {l : List Operand} {vs : List Value}, evvs e ρ l = some vs → l.map a.eval = vs
  | [], vs, h => by cases h; rfl
  | x :: r, vs, h => by
    unfold evvs at h
    split at h
    · rename_i v l h1 h2
      cases h
      rw [List.map_cons, evv_den hf (GOk.none _) h1, evvs_den hf h2]
    · cases h

def callVOf (B : Code) (e : Env) (ρ : List Nat) (n k j : Nat) : Option (FuncId × List Value × List Value × Option Nat) :=
  match nowOp B e k j with
  | some o => match o.op with
    | .call ⟨.value x, args, _⟩ => bif (match o.dst with | some d => Nat.blt d n | none => true) then (match evv e ρ none x, evvs e ρ args.toList with
      | some (.func (.func F) ⟨[]⟩ ⟨cb⟩), some vs => some (F, vs, cb, o.dst)
      | _, _ => none) else none
    | _ => none
  | none => none

theorem callVOf_spec {g : FuncId} {args cb : List Value} {d : Option Nat} (h : callVOf B s.env ρ n k j = some (g, args, cb, d)) (heg : ∀ args w, (callFunc g args).run P w = .ok (.enter g args) w) :
    ∃ o, nowOp B s.env k j = some o ∧ o.dst = d ∧ (∀ d', d = some d' → d' < n) ∧ ∀ a w, Fits n s.env ρ a → (execOp a.eval o).run P w = .ok (.enter g (args ++ cb).toArray) w := by
  unfold callVOf at h
  split at h
  · rename_i o ho
    split at h
    · rename_i x ars tys hop
      obtain ⟨h1, h⟩ := bif_some h
      split at h
      · rename_i F cb' vs e1 e2
        cases h
        refine ⟨o, ho, rfl, fun d' hd' => ?_, fun a w hf => ?_⟩
        · rw [hd'] at h1; exact blt_iff.1 h1
        · have ex := evv_den hf (GOk.none _) e1
          have ea : ars.map a.eval = args.toArray := by
            rw [← evvs_den hf e2, ← List.map_toArray]
          unfold execOp
          simp [hop, resolve, invoke, Deferred.ofValue, ex, ea, Sem.run_bind, Sem.run_pure, Result.andThen_ok, heg]
      · cases h
    · cases h
  · cases h

theorem J.callV {g : FuncId} {args cb : List Value} {d : Option Nat} {R : World → (Nat → Prop) → Value → World → Prop} (hc : callVOf B s.env ρ n k j = some (g, args, cb, d)) (heg : ∀ args w, (callFunc g args).run P w = .ok (.enter g args) w)
    (h : ∀ w1 A1, Mv (Lb ρ) A A1 w0 w1 → Locs s.mem ρ w1 → Calls P g (args ++ cb).toArray w1 (Ret nobody w1 (R w1 A1)))
    (hk : ∀ v w1 w2 A1, R w1 A1 v w2 → Cg W ρ A A1 w0 w1 w2 → J P B Q n W Ac M (.o k (j + 1) :: r) ⟨putO s.env d (.v v), s.mem⟩ ρ A1 w2) :
    J P B Q n W Ac M (.o k j :: r) s ρ A w0 := by
  obtain ⟨o, ho, hd, hdn, hrun⟩ := callVOf_spec hc heg
  refine J.op ho fun a w ok => ?_
  unfold Oper.wp
  rw [hrun a w ok.fits]
  simp only [Oper.upon]
  refine (h w _ ok.mv ok.locs).mono ?_
  rintro e w2 ⟨v, rfl, hR, hs⟩
  simp only
  have hok := ok.after hs
  refine hk v w w2 _ hR ⟨ok.mv.after hs, ok.mv.bdd, ok.size, ok.sn.size, fun k hk => ok.locs.lt hk⟩ _ _ ?_
  rw [hd]
  cases d with
  | none => exact hok
  | some d => exact hok.put (x := .v v) (hdn d rfl) (plain_grd rfl) rfl

/-- One block of the walk's own (or one that the call may write into) turned. -/
theorem Ok.setB {a : Act} {w : World} (ok : Ok n W Ac M s ρ A w0 a w) {b : Nat} (hb : b < w0.heap.size) (hW : W.heap.size ≤ b ∨ M b) (hρ : b ∉ ρ) (hA : A b) (cs : Array Value) :
    Mv (fun k => Lb ρ k ∨ k = b) A (Av A ρ) w0 (w.setRow b cs) ∧ Ok n W Ac M s ρ (Av A ρ) (w.setRow b cs) a (w.setRow b cs) := by
  have hsn : Sn (fun k => k = b) w (w.setRow b cs) := { os := rfl, tape := rfl, output := rfl, drawn := Nat.le_refl _, size := by simp [World.setRow], same := fun k hk hn => setRow_other w _ _ _ hn }
  have h := ok.afterX (X := fun k => k = b) (fun k hk _ => by subst hk; exact ⟨hW, hρ, hA⟩) (fun k hk => by subst hk; exact hb) hsn
  exact ⟨h.2, h.1⟩

/-- Cells stored into a slice of the walk's own. -/
theorem Nw.put {N : Nat} {e : TypeId} {kk : Nat} {A1 : Nat → Prop} {w : World} {g nn c off : Nat} {xs cs : List Value} (ho : Nw N e kk ρ A w (some ⟨g, 0, none⟩) nn c xs) (hfit : off + cs.length ≤ nn * kk) (h1 : ∀ u ∈ cs, u.oneCell' = true) (hA : A1 g) :
    ∃ cur', (storeCells ⟨g, off, none⟩ cs 0).run P w = .ok () (w.setRow g cur') ∧ Nw N e kk ρ A1 (w.setRow g cur') (some ⟨g, 0, none⟩) nn c (xs.take off ++ cs ++ xs.drop (off + cs.length)) := by
  obtain ⟨hl, ⟨h2, _⟩ | ⟨g', cur, h2, h3, h4, h5, h6, h7, h8, h9, h10⟩⟩ := ho
  · cases h2
  · cases h2
    have hcur : nn * kk ≤ cur.size := by rw [h9]; exact Nat.mul_le_mul_right _ h7
    have hst := run_storeCells_at P g off e cs 0 cur w h6 (by simpa using Nat.le_trans hfit hcur) h1
    simp only [Nat.add_zero] at hst
    refine ⟨_, hst, ?_, .inr ⟨g, _, rfl, h3, h4, hA, setRow_heap w g cur _ e _ h6, h7, h8, ?_, ?_⟩⟩
    · simp only [List.length_append, List.length_take, List.length_drop]; omega
    · simp only [List.size_toArray, List.length_append, List.length_take, List.length_drop, Array.length_toList]; omega
    · subst h10
      apply List.ext_getElem?
      intro i
      have hcl : cur.toList.length = cur.size := Array.length_toList
      rw [List.getElem?_take]
      by_cases hi : i < nn * kk
      · rw [if_pos hi]
        rcases Nat.lt_or_ge i off with h | h
        · rw [List.getElem?_append_left (by simp only [List.length_append, List.length_take, Array.length_toList]; omega), List.getElem?_append_left (by simp only [List.length_take, Array.length_toList]; omega), List.getElem?_take, if_pos h]
          rw [List.getElem?_append_left (by simp only [List.length_append, List.length_take, Array.length_toList]; omega), List.getElem?_append_left (by simp only [List.length_take, Array.length_toList]; omega), List.getElem?_take, if_pos h, List.getElem?_take, if_pos hi]
        · rcases Nat.lt_or_ge i (off + cs.length) with h' | h'
          · rw [List.getElem?_append_left (by simp only [List.length_append, List.length_take, Array.length_toList]; omega), List.getElem?_append_right (by simp only [List.length_take, Array.length_toList]; omega)]
            rw [List.getElem?_append_left (by simp only [List.length_append, List.length_take, Array.length_toList]; omega), List.getElem?_append_right (by simp only [List.length_take, Array.length_toList]; omega)]
            congr 1
            simp only [List.length_take, Array.length_toList]; omega
          · rw [List.getElem?_append_right (by simp only [List.length_append, List.length_take, Array.length_toList]; omega)]
            rw [List.getElem?_append_right (by simp only [List.length_append, List.length_take, Array.length_toList]; omega)]
            rw [List.getElem?_drop, List.getElem?_drop, List.getElem?_take]
            rw [if_pos (by simp only [List.length_append, List.length_take, Array.length_toList]; omega)]
            congr 1
            simp only [List.length_append, List.length_take, Array.length_toList]; omega
      · rw [if_neg hi, List.getElem?_eq_none]
        simp only [List.length_append, List.length_take, List.length_drop, Array.length_toList]; omega

theorem J.stOwn {N : Nat} {T e : TypeId} {kk g off nn c : Nat} {v : Value} {xs cs : List Value} (hx : stOf B s.env ρ k j = some (T, g, off, v)) (hM : g < W.heap.size → M g) (ho : Nw N e kk ρ A w0 (some ⟨g, 0, none⟩) nn c xs)
    (hs : sizeO P T = some cs.length) (hv : v.cells = cs.toArray) (h1 : ∀ u ∈ cs, u.oneCell' = true) (hfit : off + cs.length ≤ nn * kk)
    (h : ∀ w' A', Nw N e kk ρ A' w' (some ⟨g, 0, none⟩) nn c (xs.take off ++ cs ++ xs.drop (off + cs.length)) → Mv (fun k => Lb ρ k ∨ k = g) A A' w0 w' → J P B Q n W Ac M (.o k (j + 1) :: r) s ρ A' w') : J P B Q n W Ac M (.o k j :: r) s ρ A w0 := by
  unfold stOf at hx
  split at hx
  · rename_i o hno
    split at hx
    · rename_i t' x y hop hdst
      split at hx
      · rename_i bb oo v' h2 h3
        cases hx
        refine J.op hno fun a w ok => ?_
        obtain ⟨q1, q2, q3, q4⟩ := ho.own_blk g ⟨_, rfl, rfl⟩
        obtain ⟨cur', hst, hnew⟩ := (ho.mv ok.mv).put (P := P) (A1 := Av A ρ) hfit h1 (.inl q3)
        have hsto : (Instr.storeAt T (.pointer (some ⟨g, off, none⟩)) v).run P w = .ok () (w.setRow g cur') := by
          unfold Instr.storeAt Instr.sureAddr storeVar
          have h1' : v.cells.size = cs.length := by rw [hv]; simp
          simp only [Sem.run_bind, Sem.run_pure, Result.andThen_ok, run_sizeOf hs w, h1', ne_eq, not_true_eq_false, if_false]
          rw [hv]; exact hst
        unfold Oper.wp
        rw [exec_store hop, evv_den ok.fits (GOk.none _) h2, evv_den ok.fits (GOk.none _) h3]
        simp only [Sem.run_bind, hsto, Result.andThen_ok, Sem.run_pure, Oper.upon, hdst, Act.put]
        obtain ⟨hmv, hok⟩ := ok.setB q4 (by rcases Nat.lt_or_ge g W.heap.size with h | h; exact .inr (hM h); exact .inl h) q2 q3 cur'
        exact h _ _ hnew hmv _ _ hok
      · cases hx
    · cases hx
  · cases hx

def clOf (B : Code) (e : Env) (ρ : List Nat) (k j : Nat) : Option (TypeId × Option Addr × Nat × Nat) :=
  match nowOp B e k j with
  | some o => match o.op, o.dst with
    | .call ⟨.builtin .clear, args, tys⟩, none => match args.toList, tys.toList with
      | [x], [T] => match evv e ρ none x with
        | some (.slice a n c) => some (T, a, n, c)
        | _ => none
      | _, _ => none
    | _, _ => none
  | none => none

theorem J.clearOwn {N : Nat} {T e el : TypeId} {kk g off m cc nn c : Nat} {z : Value} {xs : List Value} (hx : clOf B s.env ρ k j = some (T, some ⟨g, off, none⟩, m, cc)) (hT : P.underlying T = some (.slice el)) (hz : ∀ w, (zeroValue el).run P w = .ok z w) (hzc : z.cells.size = kk) (hz1 : ∀ u ∈ z.cells.toList, u.oneCell' = true) (hm : 0 < m)
    (hM : g < W.heap.size → M g) (ho : Nw N e kk ρ A w0 (some ⟨g, 0, none⟩) nn c xs) (hfit : off + m * kk ≤ nn * kk)
    (h : ∀ w' A', Nw N e kk ρ A' w' (some ⟨g, 0, none⟩) nn c (xs.take off ++ (Builtin.zeroCells z.cells m).toList ++ xs.drop (off + m * kk)) → Mv (fun k => Lb ρ k ∨ k = g) A A' w0 w' → J P B Q n W Ac M (.o k (j + 1) :: r) s ρ A' w') : J P B Q n W Ac M (.o k j :: r) s ρ A w0 := by
  unfold clOf at hx
  split at hx
  · rename_i o hno
    split at hx
    · rename_i args tys hop hdst
      split at hx
      · rename_i x T' ha ht
        split at hx
        · rename_i a' n' c' h2
          cases hx
          refine J.op hno fun a w ok => ?_
          obtain ⟨q1, q2, q3, q4⟩ := ho.own_blk g ⟨_, rfl, rfl⟩
          have hlen : (Builtin.zeroCells z.cells m).toList.length = m * kk := by rw [Array.length_toList, size_zeroCells, hzc]
          have h1 : ∀ u ∈ (Builtin.zeroCells z.cells m).toList, u.oneCell' = true := by
            intro u hu
            refine hz1 u ?_
            simp [Builtin.zeroCells] at hu
            obtain ⟨i, hi, rfl⟩ := hu
            have hp : 0 < z.cells.size := by
              rcases Nat.eq_zero_or_pos z.cells.size with h0 | h0
              · rw [h0, Nat.mul_zero] at hi; omega
              · exact h0
            rw [getElem!_pos z.cells (i % z.cells.size) (Nat.mod_lt _ hp)]
            exact Array.mem_toList_iff.2 (Array.getElem_mem _)
          obtain ⟨cur', hst, hnew⟩ := (ho.mv ok.mv).put (P := P) (off := off) (cs := (Builtin.zeroCells z.cells m).toList) (A1 := Av A ρ) (by rw [hlen]; exact hfit) h1 (.inl q3)
          rw [hlen] at hnew
          have e1 : args = #[x] := Array.toList_inj.1 ha
          have e2 : tys = #[T] := Array.toList_inj.1 ht
          subst e1; subst e2
          obtain ⟨m', rfl⟩ : ∃ m', m = m' + 1 := ⟨m - 1, by omega⟩
          unfold Oper.wp
          unfold execOp
          simp only [hop, resolve, invoke, builtin, Builtin.clear_, Sem.run_bind, Sem.run_pure, Result.andThen_ok, List.map_toArray, List.map_cons, List.map_nil, evv_den ok.fits (GOk.none _) h2]
          have hcl : Sem.run P (Builtin.clear_ #[T] o.type #[.slice (some ⟨g, off, none⟩) (m' + 1) cc]) w = .ok (.tuple #[]) (w.setRow g cur') := by
            simp [Builtin.clear_, run_underlying hT, Sem.run_bind, hz, hst]
          unfold Builtin.clear_ at hcl
          simp only [Sem.run_bind] at hcl
          rw [hcl]
          simp only [Result.andThen_ok, Oper.upon, hdst, Act.put]
          obtain ⟨hmv, hok⟩ := ok.setB q4 (by rcases Nat.lt_or_ge g W.heap.size with h | h; exact .inr (hM h); exact .inl h) q2 q3 cur'
          exact h _ _ hnew hmv _ _ hok
        · cases hx
      · cases hx
    · cases hx
  · cases hx
end
end Go.Proofs.Ytkgokehkobifkaa.J

/- slices.IndexFunc and DeleteFunc over entries, whatever function is handed in. -/
namespace Go.Proofs.Ytkgokehkobifkaa.J
open Go Go.RowKit

/-- What a function that is handed in leans on: it stays. -/
structure Phi (Φ : (Nat → Prop) → World → Prop) (A : Nat → Prop) (w : World) : Prop where
  st : ∀ (X A A1 : Nat → Prop) (w w1 : World), Mv X A A1 w w1 → Φ A w → Φ A1 w1
  wk : ∀ (A A1 : Nat → Prop) (w : World), (∀ k, A1 k → A k) → Φ A w → Φ A1 w
  val : Φ A w
theorem Phi.mv {Φ : (Nat → Prop) → World → Prop} {X A A1 : Nat → Prop} {w w1 : World} (h : Phi Φ A w) (m : Mv X A A1 w w1) : Phi Φ A1 w1 := ⟨h.st, h.wk, h.st X A A1 w w1 m h.val⟩
theorem Phi.any {Φ : (Nat → Prop) → World → Prop} {A : Nat → Prop} {w : World} (h : Phi Φ A w) : Phi Φ nobody w := ⟨h.st, h.wk, h.wk A nobody w (fun _ h => h.elim) h.val⟩
theorem Phi.triv (A : Nat → Prop) (w : World) : Phi (fun _ _ => True) A w := ⟨fun _ _ _ _ _ _ _ => trivial, fun _ _ _ _ _ => trivial, trivial⟩
/-- A function of entries, by what it answers. -/
structure FunC (F : FuncId) (cb : List Value) (Φ : (Nat → Prop) → World → Prop) (p : Ent → Bool) : Prop where
  eg : ∀ args w, (callFunc F args).run Pr w = .ok (.enter F args) w
  call : ∀ (x : Ent) (A : Nat → Prop) (w : World), (∀ k, A k → k < w.heap.size) → Phi Φ A w → Calls Pr F ([Value.agg (encE x).toArray] ++ cb).toArray w (Ret nobody w fun v _ => v = .bool (p x))

theorem flat_take {α : Type} {k : Nat} {enc : α → List Value} : ∀ (l : List α) (i : Nat), (∀ x ∈ l, (enc x).length = k) → (l.flatMap enc).take (i * k) = (l.take i).flatMap enc
  | [], i, _ => by simp
  | x :: r, 0, _ => by simp
  | x :: r, i + 1, h => by
    have hx := h x List.mem_cons_self
    rw [List.flatMap_cons, List.take_succ_cons, List.flatMap_cons, ← flat_take r i (fun y hy => h y (List.mem_cons_of_mem _ hy)), List.take_append, Nat.add_mul, Nat.one_mul, List.take_of_length_le (by omega)]
    congr 2; omega
theorem flat_drop {α : Type} {k : Nat} {enc : α → List Value} : ∀ (l : List α) (i : Nat), (∀ x ∈ l, (enc x).length = k) → (l.flatMap enc).drop (i * k) = (l.drop i).flatMap enc
  | [], i, _ => by simp
  | x :: r, 0, _ => by simp
  | x :: r, i + 1, h => by
    have hx := h x List.mem_cons_self
    rw [List.flatMap_cons, List.drop_succ_cons, ← flat_drop r i (fun y hy => h y (List.mem_cons_of_mem _ hy)), List.drop_append, Nat.add_mul, Nat.one_mul, List.drop_eq_nil_of_le (by omega), List.nil_append]
    congr 1; omega
theorem flat_put {α : Type} {k : Nat} {enc : α → List Value} {l : List α} {i : Nat} {y : α} (hk : ∀ x, (enc x).length = k) (hi : i < l.length) : (l.flatMap enc).take (i * k) ++ enc y ++ (l.flatMap enc).drop (i * k + k) = (l.set i y).flatMap enc := by
  rw [flat_take l i (fun x _ => hk x), show i * k + k = (i + 1) * k by rw [Nat.add_mul, Nat.one_mul], flat_drop l (i + 1) (fun x _ => hk x), List.set_eq_take_append_cons_drop, if_pos hi]
  simp [List.flatMap_append]

theorem Nw.upto {N : Nat} {e : TypeId} {kk : Nat} {ρ : List Nat} {A : Nat → Prop} {w : World} {a : Option Addr} {n m c : Nat} {xs : List Value} (h : Nw N e kk ρ A w a n c xs) (hm : m ≤ n) (ha : a ≠ none) : Nw N e kk ρ A w a m c (xs.take (m * kk)) := by
  obtain ⟨h1, ⟨h2, _⟩ | ⟨g, cur, rfl, h3, h4, h5, h6, h7, h8, h9, h10⟩⟩ := h
  · exact absurd h2 ha
  · have hmk : m * kk ≤ n * kk := Nat.mul_le_mul_right _ hm
    refine ⟨by rw [List.length_take]; omega, .inr ⟨g, cur, rfl, h3, h4, h5, h6, by omega, h8, h9, ?_⟩⟩
    rw [← h10, List.take_take, Nat.min_eq_left hmk]

/-! ## what DeleteFunc leaves -/
def keepB (p : Ent → Bool) (e : Ent) : Bool := !p e
/-- The row xs as it stands when j entries have been seen and i of them are kept. -/
structure DfInv (p : Ent → Bool) (l xs : List Ent) (n i j : Nat) : Prop where
  ij : i < j
  jn : j ≤ n
  len : xs.length = n
  kept : xs.take i = (l.take j).filter (keepB p)
  rest : xs.drop j = l.drop j
theorem DfInv.start {p : Ent → Bool} {l : List Ent} {i : Nat} {x : Ent} (hx : l[i]? = some x) (hp : p x = true) (hb : ∀ j y, j < i → l[j]? = some y → p y = false) : DfInv p l l l.length i (i + 1) where
  ij := Nat.lt_succ_self _
  jn := (List.getElem?_eq_some_iff.1 hx).1
  len := rfl
  kept := by
    have h1 : (l.take i).filter (keepB p) = l.take i := by
      rw [List.filter_eq_self]
      intro y hy
      obtain ⟨j, hj⟩ := List.mem_iff_getElem?.1 hy
      rw [List.getElem?_take] at hj
      split at hj
      · rename_i h; simp [keepB, hb j y h hj]
      · cases hj
    rw [take_snoc hx, List.filter_append, h1]
    simp [keepB, hp]
  rest := rfl
theorem DfInv.at {p : Ent → Bool} {l xs : List Ent} {n i j : Nat} (h : DfInv p l xs n i j) {y : Ent} (hy : xs[j]? = some y) : l[j]? = some y := by
  have h1 : (xs.drop j)[0]? = some y := by rw [List.getElem?_drop]; exact hy
  rw [h.rest, List.getElem?_drop] at h1; exact h1
theorem DfInv.rest' {p : Ent → Bool} {l xs : List Ent} {n i j : Nat} (h : DfInv p l xs n i j) : xs.drop (j + 1) = l.drop (j + 1) := by
  rw [← List.drop_drop, ← List.drop_drop, h.rest]
theorem DfInv.drop {p : Ent → Bool} {l xs : List Ent} {n i j : Nat} (h : DfInv p l xs n i j) {y : Ent} (hy : xs[j]? = some y) (hp : p y = true) (hj : j < n) : DfInv p l xs n i (j + 1) :=
  ⟨by have := h.ij; omega, by omega, h.len, by rw [take_snoc (h.at hy), List.filter_append, h.kept]; simp [keepB, hp], h.rest'⟩
theorem DfInv.keep {p : Ent → Bool} {l xs : List Ent} {n i j : Nat} (h : DfInv p l xs n i j) {y : Ent} (hy : xs[j]? = some y) (hp : p y = false) (hj : j < n) : DfInv p l (xs.set i y) n (i + 1) (j + 1) where
  ij := by have := h.ij; omega
  jn := by omega
  len := by rw [List.length_set]; exact h.len
  kept := by
    have hi : i < xs.length := by have := h.ij; rw [h.len]; omega
    rw [take_snoc (h.at hy), List.filter_append, ← h.kept, take_snoc (l := xs.set i y) (x := y) (by rw [List.getElem?_set_self hi]), List.take_set_of_le (Nat.le_refl _)]
    simp [keepB, hp]
  rest := by rw [List.drop_set_of_lt (by have := h.ij; omega)]; exact h.rest'
theorem DfInv.end_ {p : Ent → Bool} {l xs : List Ent} {n i j : Nat} (h : DfInv p l xs n i j) (hl : l.length = n) (hj : n ≤ j) : xs.take i = l.filter (keepB p) := by
  rw [h.kept, List.take_of_length_le (by omega)]
theorem DfInv.cnt {p : Ent → Bool} {l xs : List Ent} {n i j : Nat} (h : DfInv p l xs n i j) (hl : l.length = n) (hj : n ≤ j) : i = (l.filter (keepB p)).length := by
  rw [← h.end_ hl hj, List.length_take, h.len]; have := h.ij; have := h.jn; omega
theorem keep_all {p : Ent → Bool} {l : List Ent} (h : firstI p l = -1) : l.filter (keepB p) = l := by
  rw [List.filter_eq_self]
  intro y hy
  unfold firstI at h
  cases hf : l.findIdx? p with
  | none =>
    rw [List.findIdx?_eq_none_iff] at hf
    have := hf y hy
    simp [keepB, this]
  | some i => rw [hf] at h; simp only at h; omega
theorem firstI_cases (p : Ent → Bool) (l : List Ent) : firstI p l = -1 ∨ ∃ i x, firstI p l = ((i : Nat) : Int) ∧ l[i]? = some x ∧ p x = true ∧ ∀ j y, j < i → l[j]? = some y → p y = false := by
  unfold firstI
  cases hf : l.findIdx? p with
  | none => exact .inl rfl
  | some i =>
    obtain ⟨h1, h2, h3⟩ := List.findIdx?_eq_some_iff_getElem.1 hf
    refine .inr ⟨i, l[i], rfl, List.getElem?_eq_getElem h1, h2, fun j y hj hy => ?_⟩
    obtain ⟨h4, rfl⟩ := List.getElem?_eq_some_iff.1 hy
    simpa using h3 j hj
theorem firstI_bd (p : Ent → Bool) (l : List Ent) : -1 ≤ firstI p l ∧ firstI p l < ((l.length : Nat) : Int) := by
  rcases firstI_cases p l with h | ⟨i, x, h, hx, _⟩
  · omega
  · have := (List.getElem?_eq_some_iff.1 hx).1; omega
structure DfSt where
  i : Nat
  j : Nat
  xs : List Ent

theorem indexFunc_calls (F : FuncId) (cb : List Value) (Φ : (Nat → Prop) → World → Prop) (p : Ent → Bool) (hF : FunC F cb Φ p) (a : Option Addr) (n c : Nat) (l : List Ent) (Ac : Nat → Prop) (W : World) (hA : ∀ k, Ac k → k < W.heap.size) (hs : Sl 4 encE Ac W a n c l) (hph : Phi Φ Ac W) :
    Calls Pr 89 #[.slice a n c, (.func (.func F) #[] cb.toArray)] W (Ret nobody W fun v w => v = .int .i64 (firstI p l)) := by
  refine J.enter (fn := Try.f89) (n := 19) Try.func89 (by kernel_rfl) (by kernel_rfl) (by kernel_rfl) hA ?_
  have hlen := hs.len; have hle := hs.le; have hcap := hs.cap; simp only [maxLen] at hcap
  refine J.run [.n, .n, .u, .n, .n, .n, .n, .u, .u, .u, .n, .n] [0, 1, 7, 8] ⟨[(0, .v (.slice a n c)), (1, .v ((.func (.func F) #[] cb.toArray))), (7, .v (.int .i64 ((n : Nat) : Int))), (8, .v (.int .i64 0))], []⟩ [.c 0] [.c 6, .b 0, .c 25] (by kernel_rfl) ?_
  refine J.loop (X := Nat) (fun i => ⟨[(0, .v (.slice a n c)), (1, .v ((.func (.func F) #[] cb.toArray))), (7, .v (.int .i64 ((n : Nat) : Int))), (8, .v (.int .i64 ((i : Nat) : Int)))], []⟩) (fun i A w => i ≤ n ∧ Sl 4 encE A w a n c l ∧ Phi Φ A w ∧ ∀ j y, j < i → l[j]? = some y → p y = false) (fun i => n - i) [0, 1, 7, 8] 0 [] 0 (by kernel_rfl) (by kernel_rfl) (by kernel_rfl) (fun w1 A1 m1 => ⟨Nat.zero_le _, hs.mv m1, hph.mv m1, fun j _ h => absurd h (Nat.not_lt_zero _)⟩) (fun i A1 w1 hI => ?_)
  obtain ⟨hi, hs, hph, hb⟩ := hI
  refine J.run [.n, .n, .u, .n, .n] [0, 1, 7, 8, 9] ⟨[(0, .v (.slice a n c)), (1, .v ((.func (.func F) #[] cb.toArray))), (7, .v (.int .i64 ((n : Nat) : Int))), (8, .v (.int .i64 ((i : Nat) : Int))), (9, .v (.bool (decide (((i : Nat) : Int) < ((n : Nat) : Int)))))], []⟩ [.c 7] [.c 10, .c 13] (by kernel_rfl) ?_
  refine J.cond (b := (decide (((i : Nat) : Int) < ((n : Nat) : Int)))) (k' := 12) (by kernel_rfl) (fun hc => ?_) (fun hc => ?_)
  · try simp only [nrm] at hc
    have hc1 := hc
    refine J.run [.n, .n, .n, .n, .n, .u, .u, .n, .n, .n, .u, .u, .u] [0, 1, 5, 7, 8, 11, 12, 13] ⟨[(0, .v (.slice a n c)), (1, .v ((.func (.func F) #[] cb.toArray))), (5, .v (.int .i64 ((i : Nat) : Int))), (7, .v (.int .i64 ((n : Nat) : Int))), (8, .v (.int .i64 ((i : Nat) : Int))), (11, .v ((.func (.func F) #[] cb.toArray))), (12, .v (.slice a n c)), (13, .v (.int .i64 ((i : Nat) : Int)))], []⟩ [.c 11, .c 13] [.o 18 3, .c 19, .b 1, .c 24] (by kernel_rfl) ?_
    obtain ⟨p1, o1, rfl⟩ := hs.addr (by omega)
    refine J.idx (b := p1) (off := o1) (len := n) (i := ((i : Nat) : Int)) (sz := 4) (d := 14) (by kernel_rfl) (by omega) (by omega) ?_
    obtain ⟨x1, hx1⟩ : ∃ zq, (l)[i]? = some zq := ⟨_, List.getElem?_eq_getElem (by omega)⟩
    refine J.ld (T := 42) (b := p1) (off := o1 + i * 4) (d := 15) (v := .agg (encE x1).toArray) (by kernel_rfl) (fun w1 A1 m1 l1 => (hs.mv m1).ld (by kernel_rfl) hx1 (by kernel_rfl)) ?_
    refine J.callV (g := F) (cb := cb) (args := [.agg (encE x1).toArray]) (d := some 16) (by kernel_rfl) hF.eg (fun w1 A1 m1 l1 => hF.call x1 A1 w1 m1.bdd (hph.mv m1)) ?_
    rintro _ u1 w2 A2 rfl g1
    have m1 := g1.mv
    replace hs := hs.mv m1; replace hph := hph.mv m1
    refine J.run [.n] [0, 1, 5, 7, 8, 16] ⟨[(0, .v (.slice (some ⟨p1, o1, none⟩) n c)), (1, .v ((.func (.func F) #[] cb.toArray))), (5, .v (.int .i64 ((i : Nat) : Int))), (7, .v (.int .i64 ((n : Nat) : Int))), (8, .v (.int .i64 ((i : Nat) : Int))), (16, .v (.bool (p x1)))], []⟩ [.o 18 6, .c 19, .b 1, .c 24] [.c 19, .b 1, .c 24] (by kernel_rfl) ?_
    refine J.cond (b := (p x1)) (k' := 23) (by kernel_rfl) (fun hc => ?_) (fun hc => ?_)
    · try simp only [nrm] at hc
      have hc2 := hc
      refine J.run [.n, .n, .u, .u, .n] [4] ⟨[(4, .v (.int .i64 ((i : Nat) : Int)))], []⟩ [.c 20, .b 1, .c 24] [.c 22, .b 1, .c 24] (by kernel_rfl) ?_
      refine J.ret (v := .int .i64 ((i : Nat) : Int)) (by kernel_rfl) (by kernel_rfl) (fun w1 A1 m1 hac l1 => by rw [firstI_some hx1 hc2 hb])
    · try simp only [nrm] at hc
      have hc2 := hc
      refine J.run [.n, .n, .n, .u, .u, .n] [0, 1, 7, 8] ⟨[(0, .v (.slice (some ⟨p1, o1, none⟩) n c)), (1, .v ((.func (.func F) #[] cb.toArray))), (7, .v (.int .i64 ((n : Nat) : Int))), (8, .v (.int .i64 (IntKind.i64.wrap (((i : Nat) : Int) + 1))))], []⟩ [.c 23, .b 1, .c 24] [] (by kernel_rfl) ?_
      have hw1 : IntKind.i64.wrap (((i : Nat) : Int) + 1) = ((i + 1 : Nat) : Int) := by rw [wrap_i64 (by omega) (by omega)]; try omega
      rw [hw1]
      exact J.again (i + 1) [0, 1, 7, 8] 0 (by omega) (by kernel_rfl) (by kernel_rfl) (fun w1 A1 m1 => ⟨by omega, hs.mv m1, hph.mv m1, fun j y hj hy => by rcases Nat.lt_succ_iff_lt_or_eq.1 hj with h | rfl; exact hb j y h hy; rw [hx1] at hy; cases hy; exact hc2⟩)
  · try simp only [nrm] at hc
    have hc1 := hc
    refine J.exit (id := 0) (by kernel_rfl) (by rfl) ?_
    refine J.run [.n, .n, .u, .n] [4] ⟨[(4, .v (.int .i64 (-1)))], []⟩ [.c 25] [.c 27] (by kernel_rfl) ?_
    refine J.ret (v := .int .i64 (-1)) (by kernel_rfl) (by kernel_rfl) (fun w1 A1 m1 hac l1 => by rw [firstI_none fun j y hy => hb j y (by have := (List.getElem?_eq_some_iff.1 hy).1; omega) hy])
theorem deleteFunc_calls (F : FuncId) (cb : List Value) (Φ : (Nat → Prop) → World → Prop) (p : Ent → Bool) (hF : FunC F cb Φ p) (g n c : Nat) (l : List Ent) (hn : n ≤ 1000000) (Ac : Nat → Prop) (W : World) (hA : ∀ k, Ac k → k < W.heap.size) (ho : Nw 0 42 4 [] Ac W (some ⟨g, 0, none⟩) n c (l.flatMap encE)) (hph : Phi Φ Ac W) :
    Calls Pr 59 #[.slice (some ⟨g, 0, none⟩) n c, (.func (.func F) #[] cb.toArray)] W (Ret (Eb (some ⟨g, 0, none⟩)) W fun v w => v = .slice (some ⟨g, 0, none⟩) (l.filter (keepB p)).length c ∧ Nw 0 42 4 [] Ac w (some ⟨g, 0, none⟩) (l.filter (keepB p)).length c ((l.filter (keepB p)).flatMap encE)) := by
  refine J.enter (fn := Try.f59) (n := 42) Try.func59 (by kernel_rfl) (by kernel_rfl) (by kernel_rfl) hA ?_
  have hlen : n = l.length := ho.len (fun x _ => rfl) (by decide); have hgA : Ac g := (ho.own_blk g ⟨_, rfl, rfl⟩).2.2.1; have hnc : n ≤ c := (ho.any (fun x _ => rfl) (by decide)).le; have hcap := (ho.any (fun x _ => rfl) (by decide)).cap; simp only [maxLen] at hcap; have hfb := firstI_bd p l
  refine J.run [.n, .n, .u, .n, .n, .n, .u, .u] [0, 1, 8, 9] ⟨[(0, .v (.slice (some ⟨g, 0, none⟩) n c)), (1, .v ((.func (.func F) #[] cb.toArray))), (8, .v (.slice (some ⟨g, 0, none⟩) n c)), (9, .v ((.func (.func F) #[] cb.toArray)))], []⟩ [.c 0] [.o 3 2, .c 4] (by kernel_rfl) ?_
  refine J.call (d := some 10) (by kernel_rfl) (fun w1 A1 m1 l1 => indexFunc_calls F cb Φ p hF (some ⟨g, 0, none⟩) n c l nobody w1 noA ((ho.mv m1).any (fun x _ => rfl) (by decide)) (hph.mv m1).any) ?_
  rintro _ u1 w1 A1 rfl g1
  have m1 := g1.mv
  replace hph := hph.mv m1; replace ho := ho.mv m1
  refine J.run [.u, .n, .n, .n, .n, .u, .u, .n] [0, 1, 5, 12] ⟨[(0, .v (.slice (some ⟨g, 0, none⟩) n c)), (1, .v ((.func (.func F) #[] cb.toArray))), (5, .v (.int .i64 (firstI p l))), (12, .v (.bool ((firstI p l) == (-1))))], []⟩ [.o 3 3, .c 4] [.c 7, .c 12] (by kernel_rfl) ?_
  refine J.cond (b := ((firstI p l) == (-1))) (k' := 11) (by kernel_rfl) (fun hc => ?_) (fun hc => ?_)
  · try simp only [nrm] at hc
    have hc1 := hc
    refine J.run [.n, .n, .u, .u, .n] [4] ⟨[(4, .v (.slice (some ⟨g, 0, none⟩) n c))], []⟩ [.c 8, .c 12] [.c 10, .c 12] (by kernel_rfl) ?_
    have hka := keep_all hc1
    refine J.ret (v := .slice (some ⟨g, 0, none⟩) n c) (by kernel_rfl) (by kernel_rfl) (fun w1 A1 m1 hac l1 => by rw [hka, ← hlen]; exact ⟨rfl, (ho.mv m1).lower (Nat.le_refl _) (by simp) (fun y ⟨z, hz, he⟩ => by cases hz; subst he; exact hgA)⟩)
  · try simp only [nrm] at hc
    have hc1 := hc
    refine J.run [.n, .n, .n, .n, .u, .u, .u, .n, .n] [0, 1, 5, 6] ⟨[(0, .v (.slice (some ⟨g, 0, none⟩) n c)), (1, .v ((.func (.func F) #[] cb.toArray))), (5, .v (.int .i64 (firstI p l))), (6, .v (.int .i64 (IntKind.i64.wrap ((firstI p l) + 1))))], []⟩ [.c 11, .c 12] [.c 16, .b 0, .c 35] (by kernel_rfl) ?_
    have hw1 : IntKind.i64.wrap ((firstI p l) + 1) = ((firstI p l) + 1) := by rw [wrap_i64 (by omega) (by omega)]
    rw [hw1]
    obtain ⟨i0, x0, hi0, hx0, hp0, hb0⟩ := (firstI_cases p l).resolve_left hc1
    rw [hi0]; have hil := (List.getElem?_eq_some_iff.1 hx0).1
    have hw0 : ((i0 : Nat) : Int) + 1 = ((i0 + 1 : Nat) : Int) := by omega
    rw [hw0]
    refine J.loop (X := DfSt) (fun x => ⟨[(0, .v (.slice (some ⟨g, 0, none⟩) n c)), (1, .v ((.func (.func F) #[] cb.toArray))), (5, .v (.int .i64 ((x.i : Nat) : Int))), (6, .v (.int .i64 ((x.j : Nat) : Int)))], []⟩) (fun x A w => Nw 0 42 4 [] A w (some ⟨g, 0, none⟩) n c (x.xs.flatMap encE) ∧ Phi Φ A w ∧ DfInv p l x.xs n x.i x.j) (fun x => n - x.j) [0, 1, 5, 6] 0 [] ⟨i0, i0 + 1, l⟩ (by kernel_rfl) (by kernel_rfl) (by kernel_rfl) (fun w1 A1 m1 => ⟨ho.mv m1, hph.mv m1, by rw [hlen]; exact DfInv.start hx0 hp0 hb0⟩) (fun x A2 w2 hI => ?_)
    obtain ⟨ho, hph, hinv⟩ := hI; have hij := hinv.ij; have hjn := hinv.jn; have hxl := hinv.len
    refine J.run [.n, .n, .n, .u, .u, .u, .u, .n] [0, 1, 5, 6, 19] ⟨[(0, .v (.slice (some ⟨g, 0, none⟩) n c)), (1, .v ((.func (.func F) #[] cb.toArray))), (5, .v (.int .i64 ((x.i : Nat) : Int))), (6, .v (.int .i64 ((x.j : Nat) : Int))), (19, .v (.bool (decide (((x.j : Nat) : Int) < ((n : Nat) : Int)))))], []⟩ [.c 17] [.c 20, .c 23] (by kernel_rfl) ?_
    refine J.cond (b := (decide (((x.j : Nat) : Int) < ((n : Nat) : Int)))) (k' := 22) (by kernel_rfl) (fun hc => ?_) (fun hc => ?_)
    · try simp only [nrm] at hc
      have hc2 := hc
      refine J.run [.n, .n, .n, .n, .n, .u, .u] [0, 1, 5, 6, 22, 23] ⟨[(0, .v (.slice (some ⟨g, 0, none⟩) n c)), (1, .v ((.func (.func F) #[] cb.toArray))), (5, .v (.int .i64 ((x.i : Nat) : Int))), (6, .v (.int .i64 ((x.j : Nat) : Int))), (22, .v (.slice (some ⟨g, 0, none⟩) n c)), (23, .v (.int .i64 ((x.j : Nat) : Int)))], []⟩ [.c 21, .c 23] [.o 26 2, .c 27, .b 1, .c 34] (by kernel_rfl) ?_
      refine J.idx (b := g) (off := 0) (len := n) (i := ((x.j : Nat) : Int)) (sz := 4) (d := 24) (by kernel_rfl) (by omega) (by omega) ?_
      obtain ⟨x1, hx1⟩ : ∃ zq, (x.xs)[x.j]? = some zq := ⟨_, List.getElem?_eq_getElem (by omega)⟩
      refine J.ld (T := 42) (b := g) (off := 0 + x.j * 4) (d := 25) (v := .agg (encE x1).toArray) (by kernel_rfl) (fun w1 A1 m1 l1 => ((ho.mv m1).any (fun x _ => rfl) (by decide)).ld (by kernel_rfl) hx1 (by kernel_rfl)) ?_
      refine J.new (T := 42) (cs := [.string (⟨#[]⟩ : Str), .string (⟨#[]⟩ : Str), .bool false, .int .i64 0]) (d := 7) (K := .ptr) (by kernel_rfl) (fun b1 hb1 => ?_)
      replace ho := ho.more hb1
      refine J.run [.u, .n, .n, .n, .u, .u] [0, 1, 5, 6, 7, 26, 27] ⟨[(0, .v (.slice (some ⟨g, 0, none⟩) n c)), (1, .v ((.func (.func F) #[] cb.toArray))), (5, .v (.int .i64 ((x.i : Nat) : Int))), (6, .v (.int .i64 ((x.j : Nat) : Int))), (7, .loc 0 0), (26, .v ((.func (.func F) #[] cb.toArray))), (27, .v (.agg (encE x1).toArray))], [⟨42, encE x1⟩]⟩ [.o 26 5, .c 27, .b 1, .c 34] [.o 28 2, .c 29, .b 1, .c 34] (by kernel_rfl) ?_
      refine J.callV (g := F) (cb := cb) (args := [.agg (encE x1).toArray]) (d := some 28) (by kernel_rfl) hF.eg (fun w1 A1 m1 l1 => hF.call x1 A1 w1 m1.bdd (hph.mv m1)) ?_
      rintro _ u2 w3 A3 rfl g2
      have m2 := g2.mv
      replace hph := hph.mv m2; replace ho := ho.mv m2
      refine J.run [.u, .n] [0, 1, 5, 6, 7, 29] ⟨[(0, .v (.slice (some ⟨g, 0, none⟩) n c)), (1, .v ((.func (.func F) #[] cb.toArray))), (5, .v (.int .i64 ((x.i : Nat) : Int))), (6, .v (.int .i64 ((x.j : Nat) : Int))), (7, .loc 0 0), (29, .v (.bool (!(p x1))))], [⟨42, encE x1⟩]⟩ [.o 28 3, .c 29, .b 1, .c 34] [.c 29, .b 1, .c 34] (by kernel_rfl) ?_
      refine J.cond (b := (!(p x1))) (k' := 33) (by kernel_rfl) (fun hc => ?_) (fun hc => ?_)
      · try simp only [nrm] at hc
        have hc3 := hc
        refine J.run [.n, .n, .u, .u, .u] [0, 1, 5, 6, 30, 31, 32] ⟨[(0, .v (.slice (some ⟨g, 0, none⟩) n c)), (1, .v ((.func (.func F) #[] cb.toArray))), (5, .v (.int .i64 ((x.i : Nat) : Int))), (6, .v (.int .i64 ((x.j : Nat) : Int))), (30, .v (.slice (some ⟨g, 0, none⟩) n c)), (31, .v (.int .i64 ((x.i : Nat) : Int))), (32, .v (.agg (encE x1).toArray))], [⟨42, encE x1⟩]⟩ [.c 30, .b 1, .c 34] [.o 31 3, .c 32, .b 1, .c 34] (by kernel_rfl) ?_
        refine J.idx (b := g) (off := 0) (len := n) (i := ((x.i : Nat) : Int)) (sz := 4) (d := 33) (by kernel_rfl) (by omega) (by omega) ?_
        refine J.stOwn (N := 0) (T := 42) (e := 42) (kk := 4) (g := g) (off := 0 + x.i * 4) (nn := n) (c := c) (v := .agg (encE x1).toArray) (cs := encE x1) (xs := x.xs.flatMap encE) (by kernel_rfl) (fun _ => ⟨_, rfl, rfl⟩) ho (by kernel_rfl) rfl (encE_one x1) (by show 0 + x.i * 4 + 4 ≤ n * 4; omega) ?_
        intro w4 A4 ho1 m3
        rw [Nat.zero_add, encE_len, flat_put encE_len (by omega)] at ho1
        replace hph := hph.mv m3
        refine J.run [.n, .n, .u, .u, .u, .n, .n, .n, .u, .u, .u, .n] [0, 1, 5, 6] ⟨[(0, .v (.slice (some ⟨g, 0, none⟩) n c)), (1, .v ((.func (.func F) #[] cb.toArray))), (5, .v (.int .i64 (IntKind.i64.wrap (((x.i : Nat) : Int) + 1)))), (6, .v (.int .i64 (IntKind.i64.wrap (((x.j : Nat) : Int) + 1))))], [⟨42, encE x1⟩]⟩ [.o 31 5, .c 32, .b 1, .c 34] [] (by kernel_rfl) ?_
        have hw2 : IntKind.i64.wrap (((x.i : Nat) : Int) + 1) = ((x.i + 1 : Nat) : Int) := by rw [wrap_i64 (by omega) (by omega)]; try omega
        rw [hw2]
        have hw3 : IntKind.i64.wrap (((x.j : Nat) : Int) + 1) = ((x.j + 1 : Nat) : Int) := by rw [wrap_i64 (by omega) (by omega)]; try omega
        rw [hw3]
        exact J.again ⟨x.i + 1, x.j + 1, x.xs.set x.i x1⟩ [0, 1, 5, 6] 0 (by simp only; omega) (by kernel_rfl) (by kernel_rfl) (fun w1 A1 m1 => ⟨(ho1.mv m1).fewer (by simp), hph.mv m1, hinv.keep hx1 (by simpa using hc3) (by omega)⟩)
      · try simp only [nrm] at hc
        have hc3 := hc
        refine J.run [.n, .n, .n, .u, .u, .u, .n] [0, 1, 5, 6] ⟨[(0, .v (.slice (some ⟨g, 0, none⟩) n c)), (1, .v ((.func (.func F) #[] cb.toArray))), (5, .v (.int .i64 ((x.i : Nat) : Int))), (6, .v (.int .i64 (IntKind.i64.wrap (((x.j : Nat) : Int) + 1))))], [⟨42, encE x1⟩]⟩ [.c 33, .b 1, .c 34] [] (by kernel_rfl) ?_
        have hw4 : IntKind.i64.wrap (((x.j : Nat) : Int) + 1) = ((x.j + 1 : Nat) : Int) := by rw [wrap_i64 (by omega) (by omega)]; try omega
        rw [hw4]
        exact J.again ⟨x.i, x.j + 1, x.xs⟩ [0, 1, 5, 6] 0 (by simp only; omega) (by kernel_rfl) (by kernel_rfl) (fun w1 A1 m1 => ⟨(ho.mv m1).fewer (by simp), hph.mv m1, hinv.drop hx1 (by simpa using hc3) (by omega)⟩)
    · try simp only [nrm] at hc
      have hc2 := hc
      refine J.exit (id := 0) (by kernel_rfl) (by rfl) ?_
      refine J.run [.n, .n, .u, .u] [0, 5, 36, 37] ⟨[(0, .v (.slice (some ⟨g, 0, none⟩) n c)), (5, .v (.int .i64 ((x.i : Nat) : Int))), (36, .v (.slice (some ⟨g, 0, none⟩) n c)), (37, .v (.int .i64 ((x.i : Nat) : Int)))], []⟩ [.c 35] [.o 36 2, .c 37] (by kernel_rfl) ?_
      refine J.sl (a := (some ⟨g, 0, none⟩)) (len := n) (cap := c) (sz := 4) (lo := (some ((x.i : Nat) : Int))) (hi := none) (mx := none) (d := 38) (by kernel_rfl) x.i n c (by simp) (by simp) (by simp) (by omega) (by omega) (by omega) (by simp) ?_
      intro a1 ha1 hb1
      have hae : a1 = some ⟨g, 0 + x.i * 4, none⟩ := by rw [ha1 (by omega)]; simp only [Option.map_some, Addr.add, Nat.zero_add]; by_cases h0 : x.i * 4 = 0 <;> simp [h0]
      subst hae
      refine J.clearOwn (N := 0) (T := 22) (e := 42) (el := 42) (kk := 4) (g := g) (off := 0 + x.i * 4) (m := n - x.i) (cc := c - x.i) (nn := n) (c := c) (z := .agg (encE ent0).toArray) (xs := x.xs.flatMap encE) (by kernel_rfl) Try.underlying22 Try.zeroValue42 rfl (by intro u hu; exact encE_one ent0 u (by simpa [Value.cells] using hu)) (by omega) (fun _ => ⟨_, rfl, rfl⟩) ho (by omega) ?_
      intro w5 A5 ho2 m4
      refine J.run [.n, .n, .n, .u, .u] [39, 40] ⟨[(39, .v (.slice (some ⟨g, 0, none⟩) n c)), (40, .v (.int .i64 ((x.i : Nat) : Int)))], []⟩ [.o 36 4, .c 37] [.o 38 2, .c 39] (by kernel_rfl) ?_
      refine J.sl (a := (some ⟨g, 0, none⟩)) (len := n) (cap := c) (sz := 4) (lo := none) (hi := (some ((x.i : Nat) : Int))) (mx := none) (d := 41) (by kernel_rfl) 0 x.i c (by simp) (by simp) (by simp) (by omega) (by omega) (by omega) (by simp) ?_
      intro a2 ha2 hb2
      rw [hb2 rfl, Nat.sub_zero, Nat.sub_zero]; clear ha2 hb2 a2
      refine J.run [.u, .n] [4] ⟨[(4, .v (.slice (some ⟨g, 0, none⟩) x.i c))], []⟩ [.o 38 3, .c 39] [.c 39] (by kernel_rfl) ?_
      have hcn := hinv.cnt hlen.symm (by omega); have hen := hinv.end_ hlen.symm (by omega)
      have hfin := ho2.upto (m := x.i) (by omega) (by simp)
      rw [Nat.zero_add, List.append_assoc, List.take_append_of_le_length (by rw [List.length_take, flat_len (k := 4) (fun _ _ => rfl)]; omega), List.take_take, Nat.min_self, flat_take (k := 4) x.xs x.i (fun _ _ => rfl), hen] at hfin
      rw [hcn] at hfin ⊢
      refine J.ret (v := .slice (some ⟨g, 0, none⟩) ((l.filter (keepB p)).length) c) (by kernel_rfl) (by kernel_rfl) (fun w1 A1 m1 hac l1 => ⟨rfl, (hfin.mv m1).lower (Nat.le_refl _) (by simp) (fun y ⟨z, hz, he⟩ => by cases hz; subst he; exact hgA)⟩)
end Go.Proofs.Ytkgokehkobifkaa.J

/- Package seek: ProveSpan. -/
namespace Go.Proofs.Ytkgokehkobifkaa.J
open Go Go.RowKit

structure Spn where
  t : Int
  leaves : List (List UInt8)
  path : List Dg
def spn0 : Spn := ⟨0, [], []⟩
/-- A span's value, and what its parts read as. -/
def SpAt (A : Nat → Prop) (w : World) (v : Value) (s : Spn) : Prop :=
  ∃ la ln lc pa pn pc, v = .agg [.int .i64 s.t, .slice la ln lc, .slice pa pn pc].toArray ∧ Rows A w la ln lc s.leaves ∧ Sl 32 dcells A w pa pn pc s.path
theorem SpAt.zero (A : Nat → Prop) (w : World) : SpAt A w (.agg [.int .i64 0, .slice none 0 0, .slice none 0 0].toArray) spn0 :=
  ⟨none, 0, 0, none, 0, 0, rfl, Rows.nil none (by decide), Sl.nil none (by decide)⟩
def spFrom (l : List Ent) (lo : Str) : Nat := cntLt lo l - 1
def spTo0 (l : List Ent) (hi : Str) : Nat := if seq hi ⟨#[]⟩ = true then l.length else cntLt hi l
def spTo (l : List Ent) (hi : Str) : Nat := min (spTo0 l hi + 1) l.length
def outF (l : List Ent) (lo hi : Str) : Bool := slt (lastK l) lo || !belowF (firstK l) hi || !belowF lo hi
def spanF (bits : Int) (l : List Ent) (lo hi : Str) : Spn × Int :=
  if FitL l then (if outF l lo hi = true then (spn0, 5)
    else (⟨((spFrom l lo : Nat) : Int), ((l.map entB).take (spTo l hi)).drop (spFrom l lo), besideF bits (l.map entB) ((spFrom l lo : Nat) : Int) ((spTo l hi : Nat) : Int)⟩, 0))
  else (spn0, 1)
theorem cntLt_mono {a b : Str} (h : slt a b = true) (l : List Ent) : cntLt a l ≤ cntLt b l :=
  List.countP_mono_left fun e _ he => slt_trans he h
theorem cntLt_last {l : List Ent} {lo : Str} (hf : FitL l) (h : slt (lastK l) lo = false) : cntLt lo l < l.length := by
  obtain ⟨f1, f2, f3, f4⟩ := hf
  unfold cntLt
  rcases Nat.lt_or_ge (l.countP fun e => slt e.key lo) l.length with h1 | h1
  · exact h1
  · have hl : l[l.length - 1]? = some l[l.length - 1] := List.getElem?_eq_getElem (by omega)
    have h2 := List.countP_eq_length.1 (Nat.le_antisymm List.countP_le_length h1) l[l.length - 1] (List.getElem_mem _)
    rw [lastK_eq hl] at h
    rw [h] at h2; cases h2
theorem sp_lt {l : List Ent} {lo hi : Str} (hf : FitL l) (h : outF l lo hi = false) : spFrom l lo < spTo l hi ∧ spTo l hi ≤ l.length := by
  unfold outF at h
  simp only [Bool.or_eq_false_iff, Bool.not_eq_false'] at h
  obtain ⟨⟨h1, h2⟩, h3⟩ := h
  have h4 := cntLt_last hf h1
  have h5 : cntLt lo l ≤ spTo0 l hi := by
    unfold spTo0
    split
    · exact cntLt_le lo l
    · rename_i hn
      unfold belowF at h3
      rw [Bool.or_eq_true] at h3
      exact cntLt_mono (h3.resolve_left hn) l
  unfold spTo spFrom
  omega

theorem proveSpan_calls (bits : Int) (a : Option Addr) (n c : Nat) (l : List Ent) (lo hi : Str) (Ac : Nat → Prop) (W : World) (hA : ∀ k, Ac k → k < W.heap.size) (hs : Sl 4 encE Ac W a n c l) :
    Calls Pr 17 #[.agg [.int .i64 bits].toArray, .slice a n c, .string lo, .string hi] W (Ret nobody W fun v w => ∃ pv, v = .tuple #[pv, .int .i64 (spanF bits l lo hi).2] ∧ SpAt Ac w pv (spanF bits l lo hi).1) := by
  refine J.enter (fn := Try.f17) (n := 86) Try.func17 (by kernel_rfl) (by kernel_rfl) (by kernel_rfl) hA ?_
  have hlen := hs.len; have hle := hs.le; have hcap := hs.cap; simp only [maxLen] at hcap; have hcl := cntLt_le lo l; have hch := cntLt_le hi l
  refine J.run [.n, .n] [0, 1, 2, 3] ⟨[(0, .v (.agg [.int .i64 bits].toArray)), (1, .v (.slice a n c)), (2, .v (.string lo)), (3, .v (.string hi))], []⟩ [.c 0] [.o 1 0, .c 2] (by kernel_rfl) ?_
  refine J.new (T := 32) (cs := [.int .i64 bits]) (d := 4) (K := .ptr) (by kernel_rfl) (fun b1 hb1 => ?_)
  refine J.new (T := 54) (cs := [.int .i64 0, .slice none 0 0, .slice none 0 0]) (d := 8) (K := .ptr) (by kernel_rfl) (fun b2 hb2 => ?_)
  refine J.run [.u, .n, .n, .n, .n, .u] [1, 2, 3, 4, 8, 16] ⟨[(1, .v (.slice a n c)), (2, .v (.string lo)), (3, .v (.string hi)), (4, .loc 0 0), (8, .loc 1 0), (16, .v (.slice a n c))], [⟨32, [.int .i64 bits]⟩, ⟨54, [.int .i64 0, .slice none 0 0, .slice none 0 0]⟩]⟩ [.o 1 2, .c 2] [.o 4 1, .c 5, .c 10] (by kernel_rfl) ?_
  refine J.call (d := some 17) (by kernel_rfl) (fun w1 A1 m1 l1 => fit_calls a n c l nobody w1 noA (hs.mv m1).any) ?_
  rintro _ u1 w1 A1 rfl g1
  have m1 := g1.mv
  replace hs := hs.mv m1
  refine J.run [.u, .n] [1, 2, 3, 4, 8, 18] ⟨[(1, .v (.slice a n c)), (2, .v (.string lo)), (3, .v (.string hi)), (4, .loc 0 0), (8, .loc 1 0), (18, .v (.bool (!(decide (FitL l)))))], [⟨32, [.int .i64 bits]⟩, ⟨54, [.int .i64 0, .slice none 0 0, .slice none 0 0]⟩]⟩ [.o 4 2, .c 5, .c 10] [.c 5, .c 10] (by kernel_rfl) ?_
  refine J.cond (b := (!(decide (FitL l)))) (k' := 9) (by kernel_rfl) (fun hc => ?_) (fun hc => ?_)
  · try simp only [nrm] at hc
    have hc1 := hc
    refine J.run [.n, .n, .u, .u, .u, .n] [8, 9] ⟨[(8, .loc 1 0), (9, .v (.int .i64 1))], [⟨32, [.int .i64 bits]⟩, ⟨54, [.int .i64 0, .slice none 0 0, .slice none 0 0]⟩]⟩ [.c 6, .c 10] [.c 8, .c 10] (by kernel_rfl) ?_
    refine J.ret (v := .tuple #[.agg [.int .i64 0, .slice none 0 0, .slice none 0 0].toArray, .int .i64 1]) (by kernel_rfl) (by kernel_rfl) (fun w1 A1 m1 hac l1 => by rw [spanF, if_neg hc1]; exact ⟨_, rfl, SpAt.zero _ _⟩)
  · try simp only [nrm] at hc
    have hc1 := hc
    refine J.run [.n, .n, .n, .n, .u, .u, .u, .u] [1, 2, 3, 4, 8, 20, 23] ⟨[(1, .v (.slice a n c)), (2, .v (.string lo)), (3, .v (.string hi)), (4, .loc 0 0), (8, .loc 1 0), (20, .v (.slice a n c)), (23, .v (.int .i64 (IntKind.i64.wrap (((n : Nat) : Int) - 1))))], [⟨32, [.int .i64 bits]⟩, ⟨54, [.int .i64 0, .slice none 0 0, .slice none 0 0]⟩]⟩ [.c 9, .c 10] [.o 12 4, .c 13, .c 18] (by kernel_rfl) ?_
    have hw1 : IntKind.i64.wrap (((n : Nat) : Int) - 1) = (((n : Nat) : Int) - 1) := by rw [wrap_i64 (by omega) (by omega)]
    rw [hw1]
    have hF : FitL l := hc1; obtain ⟨f1, f2, hso, f4⟩ := id hF; rw [← hlen] at f1 f2
    rw [(show ((n : Nat) : Int) - 1 = ((n - 1 : Nat) : Int) by omega)]
    obtain ⟨p1, o1, rfl⟩ := hs.addr (by omega)
    refine J.idx (b := p1) (off := o1) (len := n) (i := ((n - 1 : Nat) : Int)) (sz := 4) (d := 24) (by kernel_rfl) (by omega) (by omega) ?_
    refine J.run [.u] [1, 2, 3, 4, 8, 25] ⟨[(1, .v (.slice (some ⟨p1, o1, none⟩) n c)), (2, .v (.string lo)), (3, .v (.string hi)), (4, .loc 0 0), (8, .loc 1 0), (25, .v (.pointer (some ⟨p1, o1 + (n - 1) * 4, none⟩)))], [⟨32, [.int .i64 bits]⟩, ⟨54, [.int .i64 0, .slice none 0 0, .slice none 0 0]⟩]⟩ [.o 12 5, .c 13, .c 18] [.o 12 6, .c 13, .c 18] (by kernel_rfl) ?_
    obtain ⟨x1, hx1⟩ : ∃ zq, (l)[n - 1]? = some zq := ⟨_, List.getElem?_eq_getElem (by omega)⟩
    refine J.ld (T := 9) (b := p1) (off := o1 + (n - 1) * 4) (d := 26) (v := .string x1.key) (by kernel_rfl) (fun w1 A1 m1 l1 => (hs.mv m1).ld1 (by kernel_rfl) hx1 (j := 0) rfl) ?_
    refine J.run [.u, .u, .u] [1, 2, 3, 4, 8, 29] ⟨[(1, .v (.slice (some ⟨p1, o1, none⟩) n c)), (2, .v (.string lo)), (3, .v (.string hi)), (4, .loc 0 0), (8, .loc 1 0), (29, .v (.bool (slt x1.key lo)))], [⟨32, [.int .i64 bits]⟩, ⟨54, [.int .i64 0, .slice none 0 0, .slice none 0 0]⟩]⟩ [.o 12 7, .c 13, .c 18] [.o 12 10, .c 13, .c 18] (by kernel_rfl) ?_
    rcases Bool.eq_false_or_eq_true (slt x1.key lo) with hc | hc
    · rw [hc]
      try simp only [nrm] at hc
      have hc2 := hc
      refine J.run [.x, .x, .x, .x, .x, .x, .x, .u, .u, .x, .x, .x, .x, .u, .n] [1, 2, 3, 4, 8, 43] ⟨[(1, .v (.slice (some ⟨p1, o1, none⟩) n c)), (2, .v (.string lo)), (3, .v (.string hi)), (4, .loc 0 0), (8, .loc 1 0), (43, .v (.bool true))], [⟨32, [.int .i64 bits]⟩, ⟨54, [.int .i64 0, .slice none 0 0, .slice none 0 0]⟩]⟩ [.o 12 10, .c 13, .c 18] [.c 13, .c 18] (by kernel_rfl) ?_
      refine J.cond (b := true) (k' := 17) (by kernel_rfl) (fun _ => ?_) (fun hc => absurd hc (by decide))
      refine J.run [.n, .n, .u, .u, .u, .n] [8, 9] ⟨[(8, .loc 1 0), (9, .v (.int .i64 5))], [⟨32, [.int .i64 bits]⟩, ⟨54, [.int .i64 0, .slice none 0 0, .slice none 0 0]⟩]⟩ [.c 14, .c 18] [.c 16, .c 18] (by kernel_rfl) ?_
      refine J.ret (v := .tuple #[.agg [.int .i64 0, .slice none 0 0, .slice none 0 0].toArray, .int .i64 5]) (by kernel_rfl) (by kernel_rfl) (fun w1 A1 m1 hac l1 => by rw [spanF, if_pos hc1, if_pos (by unfold outF; rw [lastK_eq (by rw [← hlen]; exact hx1)]; simp [hc2])]; exact ⟨_, rfl, SpAt.zero _ _⟩)
    · rw [hc]
      try simp only [nrm] at hc
      have hc2 := hc
      refine J.run [.w] [1, 2, 3, 4, 8, 29, 30] ⟨[(1, .v (.slice (some ⟨p1, o1, none⟩) n c)), (2, .v (.string lo)), (3, .v (.string hi)), (4, .loc 0 0), (8, .loc 1 0), (29, .v (.bool false)), (30, .v (.slice (some ⟨p1, o1, none⟩) n c))], [⟨32, [.int .i64 bits]⟩, ⟨54, [.int .i64 0, .slice none 0 0, .slice none 0 0]⟩]⟩ [.o 12 10, .c 13, .c 18] [.o 12 11, .c 13, .c 18] (by kernel_rfl) ?_
      refine J.idx (b := p1) (off := o1) (len := n) (i := 0) (sz := 4) (d := 31) (by kernel_rfl) (by omega) (by omega) ?_
      refine J.run [.w] [1, 2, 3, 4, 8, 29, 32] ⟨[(1, .v (.slice (some ⟨p1, o1, none⟩) n c)), (2, .v (.string lo)), (3, .v (.string hi)), (4, .loc 0 0), (8, .loc 1 0), (29, .v (.bool false)), (32, .v (.pointer (some ⟨p1, o1 + 0 * 4, none⟩)))], [⟨32, [.int .i64 bits]⟩, ⟨54, [.int .i64 0, .slice none 0 0, .slice none 0 0]⟩]⟩ [.o 12 12, .c 13, .c 18] [.o 12 13, .c 13, .c 18] (by kernel_rfl) ?_
      obtain ⟨x2, hx2⟩ : ∃ zq, (l)[0]? = some zq := ⟨_, List.getElem?_eq_getElem (by omega)⟩
      refine J.ld (T := 9) (b := p1) (off := o1 + 0 * 4) (d := 33) (v := .string x2.key) (by kernel_rfl) (fun w1 A1 m1 l1 => (hs.mv m1).ld1 (by kernel_rfl) hx2 (j := 0) rfl) ?_
      refine J.run [.w] [1, 2, 3, 4, 8, 29, 33, 34] ⟨[(1, .v (.slice (some ⟨p1, o1, none⟩) n c)), (2, .v (.string lo)), (3, .v (.string hi)), (4, .loc 0 0), (8, .loc 1 0), (29, .v (.bool false)), (33, .v (.string x2.key)), (34, .v (.string hi))], [⟨32, [.int .i64 bits]⟩, ⟨54, [.int .i64 0, .slice none 0 0, .slice none 0 0]⟩]⟩ [.o 12 14, .c 13, .c 18] [.o 12 15, .c 13, .c 18] (by kernel_rfl) ?_
      refine J.call (d := some 35) (by kernel_rfl) (fun w1 A1 m1 l1 => below_calls x2.key hi nobody w1 noA) ?_
      rintro _ u2 w2 A2 rfl g2
      have m2 := g2.mv
      replace hs := hs.mv m2
      refine J.run [.w, .u, .u] [1, 2, 3, 4, 8, 38] ⟨[(1, .v (.slice (some ⟨p1, o1, none⟩) n c)), (2, .v (.string lo)), (3, .v (.string hi)), (4, .loc 0 0), (8, .loc 1 0), (38, .v (.bool (!(belowF x2.key hi))))], [⟨32, [.int .i64 bits]⟩, ⟨54, [.int .i64 0, .slice none 0 0, .slice none 0 0]⟩]⟩ [.o 12 16, .c 13, .c 18] [.o 12 19, .c 13, .c 18] (by kernel_rfl) ?_
      rcases Bool.eq_false_or_eq_true (!(belowF x2.key hi)) with hc | hc
      · rw [hc]
        try simp only [nrm] at hc
        have hc3 := hc
        refine J.run [.x, .x, .x, .x, .u, .n] [1, 2, 3, 4, 8, 43] ⟨[(1, .v (.slice (some ⟨p1, o1, none⟩) n c)), (2, .v (.string lo)), (3, .v (.string hi)), (4, .loc 0 0), (8, .loc 1 0), (43, .v (.bool true))], [⟨32, [.int .i64 bits]⟩, ⟨54, [.int .i64 0, .slice none 0 0, .slice none 0 0]⟩]⟩ [.o 12 19, .c 13, .c 18] [.c 13, .c 18] (by kernel_rfl) ?_
        refine J.cond (b := true) (k' := 17) (by kernel_rfl) (fun _ => ?_) (fun hc => absurd hc (by decide))
        refine J.run [.n, .n, .u, .u, .u, .n] [8, 9] ⟨[(8, .loc 1 0), (9, .v (.int .i64 5))], [⟨32, [.int .i64 bits]⟩, ⟨54, [.int .i64 0, .slice none 0 0, .slice none 0 0]⟩]⟩ [.c 14, .c 18] [.c 16, .c 18] (by kernel_rfl) ?_
        refine J.ret (v := .tuple #[.agg [.int .i64 0, .slice none 0 0, .slice none 0 0].toArray, .int .i64 5]) (by kernel_rfl) (by kernel_rfl) (fun w1 A1 m1 hac l1 => by rw [spanF, if_pos hc1, if_pos (by unfold outF; rw [firstK_eq hx2, lastK_eq (by rw [← hlen]; exact hx1)]; simp [hc2, hc3])]; exact ⟨_, rfl, SpAt.zero _ _⟩)
      · rw [hc]
        try simp only [nrm] at hc
        have hc3 := hc
        refine J.run [.w, .w] [1, 2, 3, 4, 8, 38, 39, 40] ⟨[(1, .v (.slice (some ⟨p1, o1, none⟩) n c)), (2, .v (.string lo)), (3, .v (.string hi)), (4, .loc 0 0), (8, .loc 1 0), (38, .v (.bool false)), (39, .v (.string lo)), (40, .v (.string hi))], [⟨32, [.int .i64 bits]⟩, ⟨54, [.int .i64 0, .slice none 0 0, .slice none 0 0]⟩]⟩ [.o 12 19, .c 13, .c 18] [.o 12 21, .c 13, .c 18] (by kernel_rfl) ?_
        refine J.call (d := some 41) (by kernel_rfl) (fun w1 A1 m1 l1 => below_calls lo hi nobody w1 noA) ?_
        rintro _ u3 w3 A3 rfl g3
        have m3 := g3.mv
        replace hs := hs.mv m3
        refine J.run [.w, .u, .n] [1, 2, 3, 4, 8, 43] ⟨[(1, .v (.slice (some ⟨p1, o1, none⟩) n c)), (2, .v (.string lo)), (3, .v (.string hi)), (4, .loc 0 0), (8, .loc 1 0), (43, .v (.bool (!(belowF lo hi))))], [⟨32, [.int .i64 bits]⟩, ⟨54, [.int .i64 0, .slice none 0 0, .slice none 0 0]⟩]⟩ [.o 12 22, .c 13, .c 18] [.c 13, .c 18] (by kernel_rfl) ?_
        refine J.cond (b := (!(belowF lo hi))) (k' := 17) (by kernel_rfl) (fun hc => ?_) (fun hc => ?_)
        · try simp only [nrm] at hc
          have hc4 := hc
          refine J.run [.n, .n, .u, .u, .u, .n] [8, 9] ⟨[(8, .loc 1 0), (9, .v (.int .i64 5))], [⟨32, [.int .i64 bits]⟩, ⟨54, [.int .i64 0, .slice none 0 0, .slice none 0 0]⟩]⟩ [.c 14, .c 18] [.c 16, .c 18] (by kernel_rfl) ?_
          refine J.ret (v := .tuple #[.agg [.int .i64 0, .slice none 0 0, .slice none 0 0].toArray, .int .i64 5]) (by kernel_rfl) (by kernel_rfl) (fun w1 A1 m1 hac l1 => by rw [spanF, if_pos hc1, if_pos (by unfold outF; rw [firstK_eq hx2, lastK_eq (by rw [← hlen]; exact hx1)]; simp [hc2, hc3, hc4])]; exact ⟨_, rfl, SpAt.zero _ _⟩)
        · try simp only [nrm] at hc
          have hc4 := hc
          refine J.run [.n, .n, .n, .u, .u] [1, 3, 4, 8, 46, 47] ⟨[(1, .v (.slice (some ⟨p1, o1, none⟩) n c)), (3, .v (.string hi)), (4, .loc 0 0), (8, .loc 1 0), (46, .v (.slice (some ⟨p1, o1, none⟩) n c)), (47, .v (.string lo))], [⟨32, [.int .i64 bits]⟩, ⟨54, [.int .i64 0, .slice none 0 0, .slice none 0 0]⟩]⟩ [.c 17, .c 18] [.o 19 2, .c 20] (by kernel_rfl) ?_
          have hout : outF l lo hi = false := by unfold outF; rw [firstK_eq hx2, lastK_eq (by rw [← hlen]; exact hx1)]; simp [hc2, hc3, hc4]
          have hsp := sp_lt hF hout
          refine J.call (d := some 48) (by kernel_rfl) (fun w1 A1 m1 l1 => place_calls (some ⟨p1, o1, none⟩) n c l lo hso (by omega) nobody w1 noA (hs.mv m1).any) ?_
          rintro _ u4 w4 A4 rfl g4
          have m4 := g4.mv
          replace hs := hs.mv m4
          refine J.run [.u, .u, .u, .u, .u, .n, .n, .n, .u, .u, .u, .n, .n, .n, .n, .u, .u, .n] [1, 3, 4, 8, 10, 12, 54] ⟨[(1, .v (.slice (some ⟨p1, o1, none⟩) n c)), (3, .v (.string hi)), (4, .loc 0 0), (8, .loc 1 0), (10, .v (.int .i64 ((cntLt lo l : Nat) : Int))), (12, .v (.int .i64 ((n : Nat) : Int))), (54, .v (.bool (!(seq hi (⟨#[]⟩ : Str)))))], [⟨32, [.int .i64 bits]⟩, ⟨54, [.int .i64 0, .slice none 0 0, .slice none 0 0]⟩]⟩ [.o 19 3, .c 20] [.c 25, .c 28] (by kernel_rfl) ?_
          refine J.cond (b := (!(seq hi (⟨#[]⟩ : Str)))) (k' := 27) (by kernel_rfl) (fun hc => ?_) (fun hc => ?_)
          · try simp only [nrm] at hc
            have hc5 := hc
            refine J.run [.n, .u, .u] [1, 4, 8, 10, 56, 57] ⟨[(1, .v (.slice (some ⟨p1, o1, none⟩) n c)), (4, .loc 0 0), (8, .loc 1 0), (10, .v (.int .i64 ((cntLt lo l : Nat) : Int))), (56, .v (.slice (some ⟨p1, o1, none⟩) n c)), (57, .v (.string hi))], [⟨32, [.int .i64 bits]⟩, ⟨54, [.int .i64 0, .slice none 0 0, .slice none 0 0]⟩]⟩ [.c 26, .c 28] [.o 26 2, .c 28] (by kernel_rfl) ?_
            refine J.call (d := some 58) (by kernel_rfl) (fun w1 A1 m1 l1 => place_calls (some ⟨p1, o1, none⟩) n c l hi hso (by omega) nobody w1 noA (hs.mv m1).any) ?_
            rintro _ u5 w5 A5 rfl g5
            have m5 := g5.mv
            replace hs := hs.mv m5
            refine J.run [.u, .u, .u, .u, .n, .n, .n, .u, .u, .u, .u, .u, .u, .u, .u, .u, .u, .n, .n, .n, .u] [4, 8, 10, 12, 69] ⟨[(4, .loc 0 0), (8, .loc 1 0), (10, .v (.int .i64 (if (IntKind.i64.wrap (((cntLt lo l : Nat) : Int) - 1)) < 0 then 0 else (IntKind.i64.wrap (((cntLt lo l : Nat) : Int) - 1))))), (12, .v (.int .i64 (if ((n : Nat) : Int) < (IntKind.i64.wrap (((cntLt hi l : Nat) : Int) + 1)) then ((n : Nat) : Int) else (IntKind.i64.wrap (((cntLt hi l : Nat) : Int) + 1))))), (69, .v (.slice (some ⟨p1, o1, none⟩) n c))], [⟨32, [.int .i64 bits]⟩, ⟨54, [.int .i64 0, .slice none 0 0, .slice none 0 0]⟩]⟩ [.o 26 3, .c 28] [.o 31 1, .c 32] (by kernel_rfl) ?_
            have hw2 : IntKind.i64.wrap (((cntLt lo l : Nat) : Int) - 1) = (((cntLt lo l : Nat) : Int) - 1) := by rw [wrap_i64 (by omega) (by omega)]
            rw [hw2]
            rw [(show (if (((cntLt lo l : Nat) : Int) - 1) < 0 then 0 else (((cntLt lo l : Nat) : Int) - 1)) = ((spFrom l lo : Nat) : Int) by unfold spFrom; split <;> omega)]
            have hw3 : IntKind.i64.wrap (((cntLt hi l : Nat) : Int) + 1) = ((cntLt hi l + 1 : Nat) : Int) := by rw [wrap_i64 (by omega) (by omega)]; try omega
            rw [hw3]
            rw [(show (if ((n : Nat) : Int) < ((cntLt hi l + 1 : Nat) : Int) then ((n : Nat) : Int) else ((cntLt hi l + 1 : Nat) : Int)) = ((spTo l hi : Nat) : Int) by have h9 : spTo0 l hi = cntLt hi l := (by unfold spTo0; rw [if_neg (by simp [*])]); unfold spTo; rw [h9, ← hlen]; split <;> omega)]
            refine J.call (d := some 70) (by kernel_rfl) (fun w1 A1 m1 l1 => leaves_calls (some ⟨p1, o1, none⟩) n c l (by omega) nobody w1 noA (hs.mv m1).any) ?_
            rintro _ u6 w6 A6 ⟨a1, c1, rfl, hrn1⟩ g6
            have m6 := g6.mv
            replace hs := hs.mv m6
            have hr1 : Rows A6 w6 a1 n c1 (l.map entB) := hrn1 A6 g6.bd
            refine J.run [.u, .n, .n, .n, .u, .u, .u, .u] [8, 10, 12, 13, 72, 73, 74, 75] ⟨[(8, .loc 1 0), (10, .v (.int .i64 ((spFrom l lo : Nat) : Int))), (12, .v (.int .i64 ((spTo l hi : Nat) : Int))), (13, .v (.slice a1 n c1)), (72, .v (.agg [.int .i64 bits].toArray)), (73, .v (.slice a1 n c1)), (74, .v (.int .i64 ((spFrom l lo : Nat) : Int))), (75, .v (.int .i64 ((spTo l hi : Nat) : Int)))], [⟨32, [.int .i64 bits]⟩, ⟨54, [.int .i64 0, .slice none 0 0, .slice none 0 0]⟩]⟩ [.o 31 2, .c 32] [.o 33 4, .c 34] (by kernel_rfl) ?_
            refine J.call (d := some 76) (by kernel_rfl) (fun w1 A1 m1 l1 => Range_calls bits a1 n c1 (l.map entB) (spFrom l lo) (spTo l hi) (by omega) (by simp; omega) (short_ents _) (by simp; omega) nobody w1 noA (hr1.mv m1).any) ?_
            rintro _ u7 w7 A7 ⟨a2, n1, c2, rfl, hn1⟩ g7
            have hblhn1 := hn1.blk_lt; have hglhn1 := g7.le
            refine J.grab hn1 ?_
            have m7 := g7.grab hn1
            replace hs := hs.mv m7; replace hr1 := hr1.mv m7
            replace hn1 := hn1.take g7 rfl
            refine J.run [.u, .u, .u, .u, .u, .n, .n, .n, .u, .u, .u, .u] [8, 14, 79, 80, 81, 82] ⟨[(8, .loc 1 0), (14, .v (.slice a2 n1 c2)), (79, .v (.int .i64 ((spFrom l lo : Nat) : Int))), (80, .v (.slice a1 n c1)), (81, .v (.int .i64 ((spFrom l lo : Nat) : Int))), (82, .v (.int .i64 ((spTo l hi : Nat) : Int)))], [⟨32, [.int .i64 bits]⟩, ⟨54, [.int .i64 0, .slice none 0 0, .slice none 0 0]⟩]⟩ [.o 33 5, .c 34] [.o 35 4, .c 36] (by kernel_rfl) ?_
            refine J.sl (a := a1) (len := n) (cap := c1) (sz := 1) (lo := (some ((spFrom l lo : Nat) : Int))) (hi := (some ((spTo l hi : Nat) : Int))) (mx := none) (d := 83) (by kernel_rfl) (spFrom l lo) (spTo l hi) c1 (by simp) (by simp) (by simp) (by have := hr1.le; omega) (by have := hr1.le; omega) (by have := hr1.le; omega) (by simp) ?_
            intro a3 ha1 hb1
            have hp1 := hr1.cutAt (L := spFrom l lo) (H := spTo l hi) (X := c1) (by have := hr1.le; omega) (by have := hr1.le; omega) (by have := hr1.le; omega) (by have := hr1.le; omega) ha1
            refine J.run [.u, .u, .u, .u, .n] [8, 9] ⟨[(8, .loc 1 0), (9, .v (.int .i64 0))], [⟨32, [.int .i64 bits]⟩, ⟨54, [.int .i64 ((spFrom l lo : Nat) : Int), .slice a3 (spTo l hi - (spFrom l lo)) (c1 - (spFrom l lo)), .slice a2 n1 c2]⟩]⟩ [.o 35 5, .c 36] [.c 36] (by kernel_rfl) ?_
            refine J.ret (v := .tuple #[.agg [.int .i64 ((spFrom l lo : Nat) : Int), .slice a3 (spTo l hi - (spFrom l lo)) (c1 - (spFrom l lo)), .slice a2 n1 c2].toArray, .int .i64 0]) (by kernel_rfl) (by kernel_rfl) (fun w1 A1 m1 hac l1 => by rw [spanF, if_pos hF, if_neg (by rw [hout]; decide)]; exact ⟨_, rfl, _, _, _, _, _, _, rfl, (hp1.mv m1).weaken hac, (hn1.mv m1).sl (fun x _ => rfl) (by decide) hA⟩)
          · try simp only [nrm] at hc
            have hc5 := hc
            refine J.run [.n, .n, .n, .u, .u, .u, .u, .u, .u, .u, .u, .u, .u, .n, .n, .n, .u] [4, 8, 10, 12, 69] ⟨[(4, .loc 0 0), (8, .loc 1 0), (10, .v (.int .i64 (if (IntKind.i64.wrap (((cntLt lo l : Nat) : Int) - 1)) < 0 then 0 else (IntKind.i64.wrap (((cntLt lo l : Nat) : Int) - 1))))), (12, .v (.int .i64 (if ((n : Nat) : Int) < (IntKind.i64.wrap (((n : Nat) : Int) + 1)) then ((n : Nat) : Int) else (IntKind.i64.wrap (((n : Nat) : Int) + 1))))), (69, .v (.slice (some ⟨p1, o1, none⟩) n c))], [⟨32, [.int .i64 bits]⟩, ⟨54, [.int .i64 0, .slice none 0 0, .slice none 0 0]⟩]⟩ [.c 27, .c 28] [.o 31 1, .c 32] (by kernel_rfl) ?_
            have hw4 : IntKind.i64.wrap (((cntLt lo l : Nat) : Int) - 1) = (((cntLt lo l : Nat) : Int) - 1) := by rw [wrap_i64 (by omega) (by omega)]
            rw [hw4]
            rw [(show (if (((cntLt lo l : Nat) : Int) - 1) < 0 then 0 else (((cntLt lo l : Nat) : Int) - 1)) = ((spFrom l lo : Nat) : Int) by unfold spFrom; split <;> omega)]
            have hw5 : IntKind.i64.wrap (((n : Nat) : Int) + 1) = ((n + 1 : Nat) : Int) := by rw [wrap_i64 (by omega) (by omega)]; try omega
            rw [hw5]
            rw [(show (if ((n : Nat) : Int) < ((n + 1 : Nat) : Int) then ((n : Nat) : Int) else ((n + 1 : Nat) : Int)) = ((spTo l hi : Nat) : Int) by have h9 : spTo0 l hi = l.length := (by unfold spTo0; rw [if_pos (by simp [*])]); unfold spTo; rw [h9, ← hlen]; split <;> omega)]
            refine J.call (d := some 70) (by kernel_rfl) (fun w1 A1 m1 l1 => leaves_calls (some ⟨p1, o1, none⟩) n c l (by omega) nobody w1 noA (hs.mv m1).any) ?_
            rintro _ u8 w8 A8 ⟨a4, c3, rfl, hrn2⟩ g8
            have m8 := g8.mv
            replace hs := hs.mv m8
            have hr2 : Rows A8 w8 a4 n c3 (l.map entB) := hrn2 A8 g8.bd
            refine J.run [.u, .n, .n, .n, .u, .u, .u, .u] [8, 10, 12, 13, 72, 73, 74, 75] ⟨[(8, .loc 1 0), (10, .v (.int .i64 ((spFrom l lo : Nat) : Int))), (12, .v (.int .i64 ((spTo l hi : Nat) : Int))), (13, .v (.slice a4 n c3)), (72, .v (.agg [.int .i64 bits].toArray)), (73, .v (.slice a4 n c3)), (74, .v (.int .i64 ((spFrom l lo : Nat) : Int))), (75, .v (.int .i64 ((spTo l hi : Nat) : Int)))], [⟨32, [.int .i64 bits]⟩, ⟨54, [.int .i64 0, .slice none 0 0, .slice none 0 0]⟩]⟩ [.o 31 2, .c 32] [.o 33 4, .c 34] (by kernel_rfl) ?_
            refine J.call (d := some 76) (by kernel_rfl) (fun w1 A1 m1 l1 => Range_calls bits a4 n c3 (l.map entB) (spFrom l lo) (spTo l hi) (by omega) (by simp; omega) (short_ents _) (by simp; omega) nobody w1 noA (hr2.mv m1).any) ?_
            rintro _ u9 w9 A9 ⟨a5, n2, c4, rfl, hn2⟩ g9
            have hblhn2 := hn2.blk_lt; have hglhn2 := g9.le
            refine J.grab hn2 ?_
            have m9 := g9.grab hn2
            replace hs := hs.mv m9; replace hr2 := hr2.mv m9
            replace hn2 := hn2.take g9 rfl
            refine J.run [.u, .u, .u, .u, .u, .n, .n, .n, .u, .u, .u, .u] [8, 14, 79, 80, 81, 82] ⟨[(8, .loc 1 0), (14, .v (.slice a5 n2 c4)), (79, .v (.int .i64 ((spFrom l lo : Nat) : Int))), (80, .v (.slice a4 n c3)), (81, .v (.int .i64 ((spFrom l lo : Nat) : Int))), (82, .v (.int .i64 ((spTo l hi : Nat) : Int)))], [⟨32, [.int .i64 bits]⟩, ⟨54, [.int .i64 0, .slice none 0 0, .slice none 0 0]⟩]⟩ [.o 33 5, .c 34] [.o 35 4, .c 36] (by kernel_rfl) ?_
            refine J.sl (a := a4) (len := n) (cap := c3) (sz := 1) (lo := (some ((spFrom l lo : Nat) : Int))) (hi := (some ((spTo l hi : Nat) : Int))) (mx := none) (d := 83) (by kernel_rfl) (spFrom l lo) (spTo l hi) c3 (by simp) (by simp) (by simp) (by have := hr2.le; omega) (by have := hr2.le; omega) (by have := hr2.le; omega) (by simp) ?_
            intro a6 ha2 hb2
            have hp2 := hr2.cutAt (L := spFrom l lo) (H := spTo l hi) (X := c3) (by have := hr2.le; omega) (by have := hr2.le; omega) (by have := hr2.le; omega) (by have := hr2.le; omega) ha2
            refine J.run [.u, .u, .u, .u, .n] [8, 9] ⟨[(8, .loc 1 0), (9, .v (.int .i64 0))], [⟨32, [.int .i64 bits]⟩, ⟨54, [.int .i64 ((spFrom l lo : Nat) : Int), .slice a6 (spTo l hi - (spFrom l lo)) (c3 - (spFrom l lo)), .slice a5 n2 c4]⟩]⟩ [.o 35 5, .c 36] [.c 36] (by kernel_rfl) ?_
            refine J.ret (v := .tuple #[.agg [.int .i64 ((spFrom l lo : Nat) : Int), .slice a6 (spTo l hi - (spFrom l lo)) (c3 - (spFrom l lo)), .slice a5 n2 c4].toArray, .int .i64 0]) (by kernel_rfl) (by kernel_rfl) (fun w1 A1 m1 hac l1 => by rw [spanF, if_pos hF, if_neg (by rw [hout]; decide)]; exact ⟨_, rfl, _, _, _, _, _, _, rfl, (hp2.mv m1).weaken hac, (hn2.mv m1).sl (fun x _ => rfl) (by decide) hA⟩)
end Go.Proofs.Ytkgokehkobifkaa.J
