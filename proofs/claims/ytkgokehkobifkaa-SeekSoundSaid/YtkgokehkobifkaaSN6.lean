/- Part 6 of the texts that the proof of the row stands on: the calculus, contracts of the functions, plain laws; no condition of its own. -/
import Derived.Test.YtkgokehkobifkaaSN5
import Derived.Deep.Slices
import Derived.WalkKit
import Derived.ProofKit
import Derived.OpenShut
import Derived.ShutString
import Derived.ChangeOld
import Derived.Below
import Derived.SizedLaws
import Derived.Carry
set_option linter.unusedVariables false
set_option linter.unusedSimpArgs false
/- Plain laws: what a list has of a key is proved and checked; what it has of a span, likewise. -/
namespace Go.Proofs.Ytkgokehkobifkaa.J
open Go Go.RowKit

/-! ## keys and their places -/
theorem sorted_at {l : List Ent} (h : SortedL l) {i j : Nat} {a b : Ent} (hij : i < j) (ha : l[i]? = some a) (hb : l[j]? = some b) : slt a.key b.key = true := by
  have hp := List.pairwise_iff_getElem.1 h.rel
  obtain ⟨h1, rfl⟩ := List.getElem?_eq_some_iff.1 ha
  obtain ⟨h2, rfl⟩ := List.getElem?_eq_some_iff.1 hb
  exact hp i j h1 h2 hij

/-- In a sorted list just the first entries are below a key. -/
theorem cnt_at : ∀ {l : List Ent} {k : Str}, SortedL l → ∀ (i : Nat) (e : Ent), l[i]? = some e → (slt e.key k = true ↔ i < cntLt k l)
  | [], _, _, i, e, h => by simp at h
  | x :: r, k, hs, i, e, h => by
    have hr := SortedL.tail hs
    cases hx : slt x.key k with
    | true =>
      have hc : cntLt k (x :: r) = cntLt k r + 1 := by simp [cntLt, hx]
      rw [hc]
      cases i with
      | zero => simp at h; subst h; simp [hx]
      | succ i =>
        have := cnt_at (k := k) hr i e (by simpa using h)
        rw [this]; omega
    | false =>
      have hall : ∀ y ∈ r, slt y.key k = false := by
        intro y hy
        have h1 := (List.pairwise_cons.1 hs.rel).1 y hy
        cases h2 : slt y.key k with
        | false => rfl
        | true => rw [slt_trans h1 h2] at hx; cases hx
      have hc : cntLt k (x :: r) = 0 := by
        unfold cntLt
        rw [List.countP_eq_zero]
        intro y hy
        rcases List.mem_cons.1 hy with rfl | hy
        · rw [hx]; decide
        · rw [hall y hy]; decide
      rw [hc]
      have he : slt e.key k = false := by
        rcases List.mem_cons.1 (List.mem_of_getElem? h) with rfl | hy
        · exact hx
        · exact hall e hy
      rw [he]; simp

theorem has_at {l : List Ent} {k : Str} (hs : SortedL l) (h : hasKey k l = true) : ∃ e, l[cntLt k l]? = some e ∧ e.key = k := by
  obtain ⟨x, hx, hk⟩ := List.any_eq_true.1 h
  have hk := seq_iff.1 hk
  obtain ⟨i, hi⟩ := List.mem_iff_getElem?.1 hx
  have h1 := cnt_at (k := k) hs i x hi
  rw [hk, slt_irrefl] at h1
  have h2 : ¬ i < cntLt k l := fun h => by have := h1.2 h; cases this
  have h3 : ¬ cntLt k l < i := fun hlt => by
    have hc := hasKey_cnt h
    have hy : l[cntLt k l]? = some l[cntLt k l] := List.getElem?_eq_getElem hc
    have h4 := (cnt_at (k := k) hs (cntLt k l) _ hy).1 (by have := sorted_at hs hlt hy hi; rwa [hk] at this)
    omega
  have : i = cntLt k l := by omega
  subst this
  exact ⟨x, hi, hk⟩
theorem hasnt_at {l : List Ent} {k : Str} (hs : SortedL l) (h : hasKey k l = false) : (∀ e, l[cntLt k l]? = some e → slt k e.key = true) ∧ ∀ i e, i + 1 = cntLt k l → l[i]? = some e → slt e.key k = true := by
  have hne : ∀ e ∈ l, e.key ≠ k := by
    intro e he hk
    have : hasKey k l = true := List.any_eq_true.2 ⟨e, he, seq_iff.2 hk⟩
    rw [h] at this; cases this
  constructor
  · intro e he
    have h1 := cnt_at (k := k) hs _ e he
    have h2 : slt e.key k = false := by
      cases hx : slt e.key k with
      | false => rfl
      | true => have := h1.1 hx; omega
    rcases slt_tri e.key k with h3 | h3 | h3
    · rw [h3] at h2; cases h2
    · exact absurd h3 (hne e (List.mem_of_getElem? he))
    · exact h3
  · intro i e hi he
    exact (cnt_at (k := k) hs i e he).2 (by omega)

/-! ## a table covers a key just if the key has a point -/
theorem covers_iff {bits level : Int} {l : List Ent} (h : FitL l) (h2 : 0 ≤ level) (h3 : level < 4) (key : Str) : coversF (descF bits level l).1 key = decide ((proveF bits l key).2 = 0) := by
  obtain ⟨f1, f2, f3, f4⟩ := id h
  rw [descF_yes h h2 h3]
  have hl0 : l[0]? = some l[0] := List.getElem?_eq_getElem f1
  have hl1 : l[l.length - 1]? = some l[l.length - 1] := List.getElem?_eq_getElem (by omega)
  have hk0 := firstK_eq hl0
  have hk1 := lastK_eq hl1
  unfold coversF
  simp only
  rw [hk0, hk1, sle_not, sle_not]
  unfold proveF
  rw [if_pos h]
  have hc0 := cnt_at (k := key) f3 0 _ hl0
  have hc1 := cnt_at (k := key) f3 _ _ hl1
  have hle := cntLt_le key l
  cases hh : hasKey key l with
  | true =>
    obtain ⟨e, he, hk⟩ := has_at f3 hh
    have hcl := hasKey_cnt hh
    rw [if_pos rfl]
    have h4 : slt key l[0].key = false := by
      cases hx : slt key l[0].key with
      | false => rfl
      | true =>
        rcases Nat.eq_zero_or_pos (cntLt key l) with h0 | h0
        · rw [h0] at he; rw [hl0] at he; cases he; rw [hk, slt_irrefl] at hx; cases hx
        · have := sorted_at f3 h0 hl0 he
          rw [hk] at this; rw [slt_asymm this] at hx; cases hx
    have h5 : slt l[l.length - 1].key key = false := by
      cases hx : slt l[l.length - 1].key key with
      | false => rfl
      | true => have := hc1.1 hx; omega
    rw [h4, h5]; rfl
  | false =>
    obtain ⟨g1, g2⟩ := hasnt_at f3 hh
    rw [if_neg (by decide)]
    by_cases hz : cntLt key l = 0 ∨ cntLt key l = l.length
    · rw [if_pos hz]
      have : (!slt key l[0].key && !slt l[l.length - 1].key key) = false := by
        rcases hz with hz | hz
        · have := g1 l[0] (by rw [hz]; exact hl0)
          rw [this]; rfl
        · have := g2 (l.length - 1) l[l.length - 1] (by omega) hl1
          rw [this]; simp
      rw [this]; rfl
    · rw [if_neg hz]
      have h4 : slt l[0].key key = true := hc0.2 (by omega)
      have h5 : slt l[l.length - 1].key key = false := by
        cases hx : slt l[l.length - 1].key key with
        | false => rfl
        | true => have := hc1.1 hx; omega
      rw [slt_asymm h4, h5]; rfl
theorem over_iff {bits level : Int} {l : List Ent} (h : FitL l) (h2 : 0 ≤ level) (h3 : level < 4) (lo hi : Str) : overF (descF bits level l).1 lo hi = decide ((spanF bits l lo hi).2 = 0) := by
  rw [descF_yes h h2 h3]
  unfold overF spanF outF
  simp only
  rw [if_pos h]
  cases slt (lastK l) lo <;> cases belowF (firstK l) hi <;> cases belowF lo hi <;> rfl

/-! ## a point that is proved is taken -/
theorem check_point {bits level : Int} {l : List Ent} (h : FitL l) (h2 : 0 ≤ level) (h3 : level < 4) (key : Str) (hp : (proveF bits l key).2 = 0) :
    seekC bits (descF bits level l).1 l.length key (proveF bits l key).1.1 (proveF bits l key).1.2.1 (proveF bits l key).1.2.2 = (if hasKey key l = true then l.getD (cntLt key l) ent0 else ent0, hasKey key l, 0) := by
  obtain ⟨f1, f2, f3, f4⟩ := id h
  have hcov := covers_iff (bits := bits) h h2 h3 key
  rw [hp] at hcov
  have hroot : (descF bits level l).1.root = rootF bits (l.map entB) := by rw [descF_yes h h2 h3]
  generalize (descF bits level l).1 = x at hcov hroot
  have hcl := cntLt_le key l
  unfold proveF at hp ⊢
  rw [if_pos h] at hp ⊢
  cases hh : hasKey key l with
  | true =>
    obtain ⟨e, he, hk⟩ := has_at f3 hh
    have hr := f4 e (List.mem_of_getElem? he)
    rw [if_pos rfl]
    have ho := open_holds (bits := bits) he hr x hroot
    unfold seekC
    simp only [ho, hcov, decide_true, Bool.not_true, Bool.or_self, Bool.false_eq_true, if_false, Bool.not_false, if_true]
    rw [openF_leaf bits l _ he, pars_own hr]
    simp [hk, seq_refl, opn0, Opn.none, List.getD, he]
  | false =>
    rw [hh] at hp
    rw [if_neg (by decide)] at hp ⊢
    by_cases hz : cntLt key l = 0 ∨ cntLt key l = l.length
    · rw [if_pos hz] at hp; cases hp
    · rw [if_neg hz]
      obtain ⟨g1, g2⟩ := hasnt_at f3 hh
      have ha : l[cntLt key l - 1]? = some l[cntLt key l - 1] := List.getElem?_eq_getElem (by omega)
      have hb : l[cntLt key l]? = some l[cntLt key l] := List.getElem?_eq_getElem (by omega)
      have hra := f4 _ (List.mem_of_getElem? ha)
      have hrb := f4 _ (List.mem_of_getElem? hb)
      have h4 := g1 _ hb
      have h5 := g2 _ _ (by omega) ha
      have hoa := open_holds (bits := bits) ha hra x hroot
      have hob := open_holds (bits := bits) hb hrb x hroot
      have hw : IntKind.i64.wrap ((openF bits (l.map entB) (cntLt key l)).t - 1) = (openF bits (l.map entB) (cntLt key l - 1)).t := by
        show IntKind.i64.wrap (((cntLt key l : Nat) : Int) - 1) = ((cntLt key l - 1 : Nat) : Int)
        rw [wrap_i64 (by omega) (by omega)]; omega
      unfold seekC
      simp only [hoa, hob, hcov, decide_true, Bool.not_true, Bool.or_self, Bool.false_eq_true, if_false]
      rw [openF_leaf bits l _ ha, pars_own hra, openF_leaf bits l _ hb, pars_own hrb, hw]
      simp [h5, sle_not, h4]

/-! ## a span that is proved is taken -/
theorem parsL_cut {l : List Ent} (h : ∀ e ∈ l, e.Right) (i j : Nat) : parsL (((l.map entB).take j).drop i) = (l.take j).drop i := by
  rw [← List.map_take, ← List.map_drop]
  exact parsL_own fun e he => h e (List.mem_of_mem_take (List.mem_of_mem_drop he))
theorem keep_iff (lo hi : Str) (e : Ent) : keepB (delB lo hi) e = ((!slt e.key lo) && belowF e.key hi) := by
  unfold keepB delB; cases slt e.key lo <;> cases belowF e.key hi <;> rfl
theorem filter_cut {p : Ent → Bool} {l : List Ent} {i j : Nat} (h1 : ∀ k e, k < i → l[k]? = some e → p e = false) (h2 : ∀ k e, j ≤ k → l[k]? = some e → p e = false) : ((l.take j).drop i).filter p = l.filter p := by
  have e1 : l = l.take j ++ l.drop j := (List.take_append_drop j l).symm
  have e2 : l.take j = (l.take j).take i ++ (l.take j).drop i := (List.take_append_drop i _).symm
  have h3 : (l.drop j).filter p = [] := by
    rw [List.filter_eq_nil_iff]
    intro e he
    obtain ⟨k, hk⟩ := List.mem_iff_getElem?.1 he
    rw [List.getElem?_drop] at hk
    rw [h2 _ e (by omega) hk]; decide
  have h4 : ((l.take j).take i).filter p = [] := by
    rw [List.filter_eq_nil_iff]
    intro e he
    obtain ⟨k, hk⟩ := List.mem_iff_getElem?.1 he
    rw [List.getElem?_take] at hk
    split at hk
    · rename_i hki
      rw [List.getElem?_take] at hk
      split at hk
      · rw [h1 _ e hki hk]; decide
      · cases hk
    · cases hk
  have e3 : l.filter p = (l.take j ++ l.drop j).filter p := by rw [List.take_append_drop]
  have e4 : (l.take j).filter p = ((l.take j).take i ++ (l.take j).drop i).filter p := by rw [List.take_append_drop]
  rw [e3, List.filter_append, h3, List.append_nil, e4, List.filter_append, h4, List.nil_append]

theorem check_span {bits level : Int} {l : List Ent} (h : FitL l) (h2 : 0 ≤ level) (h3 : level < 4) (lo hi : Str) (hp : (spanF bits l lo hi).2 = 0) :
    spanC bits (descF bits level l).1 l.length lo hi (spanF bits l lo hi).1 = (l.filter (keepB (delB lo hi)), 0) := by
  obtain ⟨f1, f2, f3, f4⟩ := id h
  have hov := over_iff (bits := bits) h h2 h3 lo hi
  rw [hp] at hov
  have hroot : (descF bits level l).1.root = rootF bits (l.map entB) := by rw [descF_yes h h2 h3]
  generalize (descF bits level l).1 = x at hov hroot
  have hout : outF l lo hi = false := by
    cases ho : outF l lo hi with
    | false => rfl
    | true => unfold spanF at hp; rw [if_pos h, if_pos ho] at hp; cases hp
  obtain ⟨s1, s2⟩ := sp_lt h hout
  have hsp : spanF bits l lo hi = (⟨((spFrom l lo : Nat) : Int), ((l.map entB).take (spTo l hi)).drop (spFrom l lo), besideF bits (l.map entB) ((spFrom l lo : Nat) : Int) ((spTo l hi : Nat) : Int)⟩, 0) := by
    unfold spanF; rw [if_pos h, if_neg (by rw [hout]; decide)]
  rw [hsp]
  have hlen : (((l.map entB).take (spTo l hi)).drop (spFrom l lo)).length = spTo l hi - spFrom l lo := by
    rw [List.length_drop, List.length_take, List.length_map]; omega
  have hall : (((l.map entB).take (spTo l hi)).drop (spFrom l lo)).all wholeF = true := by
    rw [List.all_eq_true]
    intro b hb
    exact List.all_eq_true.1 (whole_own f4) b (List.mem_of_mem_take (List.mem_of_mem_drop hb))
  have hchk := checkR_own bits (l.map entB) (spFrom l lo) (spTo l hi) s1 (by rw [List.length_map]; exact s2)
  rw [List.length_map] at hchk
  simp only
  rw [spanC_go ⟨by rw [hov]; decide, by rw [hlen]; omega, by rw [hlen]; omega, by simp only; omega, by simp only; omega⟩ hall]
  simp only
  rw [parsL_cut f4, hroot, hchk]
  have hcl : ((l.take (spTo l hi)).drop (spFrom l lo)).length = spTo l hi - spFrom l lo := by rw [List.length_drop, List.length_take]; omega
  have hsort : SortedL ((l.take (spTo l hi)).drop (spFrom l lo)) := f3.sub ((List.drop_sublist _ _).trans (List.take_sublist _ _))
  have hl0 : l[spFrom l lo]? = some l[spFrom l lo] := List.getElem?_eq_getElem (by omega)
  have hl1 : l[spTo l hi - 1]? = some l[spTo l hi - 1] := List.getElem?_eq_getElem (by omega)
  have hk0 : firstK ((l.take (spTo l hi)).drop (spFrom l lo)) = l[spFrom l lo].key := firstK_eq (by rw [List.getElem?_drop, List.getElem?_take, if_pos (by omega)]; exact hl0)
  have hk1 : lastK ((l.take (spTo l hi)).drop (spFrom l lo)) = l[spTo l hi - 1].key := lastK_eq (by
    rw [hcl, List.getElem?_drop, List.getElem?_take, if_pos (by omega), show spFrom l lo + (spTo l hi - spFrom l lo - 1) = spTo l hi - 1 by omega]; exact hl1)
  have hlate : lateF ((l.take (spTo l hi)).drop (spFrom l lo)) lo ((spFrom l lo : Nat) : Int) = false := by
    unfold lateF
    rw [hk0]
    by_cases h0 : spFrom l lo = 0
    · have : ¬ (((spFrom l lo : Nat) : Int) > 0) := by omega
      rw [decide_eq_false this, Bool.and_false]
    · have : slt l[spFrom l lo].key lo = true := (cnt_at (k := lo) f3 _ _ hl0).2 (by unfold spFrom at h0 ⊢; omega)
      rw [this]; rfl
  have hearly : earlyF ((l.take (spTo l hi)).drop (spFrom l lo)) hi ((spFrom l lo : Nat) : Int) l.length = false := by
    unfold earlyF
    rw [hk1, hcl]
    by_cases h0 : spTo l hi = l.length
    · have : ¬ (((spFrom l lo : Nat) : Int) + ((spTo l hi - spFrom l lo : Nat) : Int) < ((l.length : Nat) : Int)) := by omega
      rw [decide_eq_false this, Bool.and_false]
    · have hto : ¬ (seq hi ⟨#[]⟩ = true) ∧ spTo l hi = cntLt hi l + 1 := by
        unfold spTo spTo0 at h0 ⊢
        split at h0
        · omega
        · rename_i hn; rw [if_neg hn]; exact ⟨hn, by omega⟩
      have hge : slt l[spTo l hi - 1].key hi = false := by
        cases hx : slt l[spTo l hi - 1].key hi with
        | false => rfl
        | true => have := (cnt_at (k := hi) f3 _ _ hl1).1 hx; omega
      unfold belowF
      rw [hge, Bool.eq_false_iff.2 hto.1]; rfl
  rw [hlate, hearly, decide_eq_true hsort, if_neg (by decide)]
  congr 1
  refine filter_cut (fun k e hk he => ?_) (fun k e hk he => ?_)
  · have : slt e.key lo = true := (cnt_at (k := lo) f3 _ _ he).2 (by unfold spFrom at hk; omega)
    rw [keep_iff, this]; rfl
  · have hkl := (List.getElem?_eq_some_iff.1 he).1
    have hto : ¬ (seq hi ⟨#[]⟩ = true) ∧ spTo l hi = cntLt hi l + 1 := by
      unfold spTo spTo0 at hk ⊢
      split at hk
      · omega
      · rename_i hn; rw [if_neg hn]; exact ⟨hn, by omega⟩
    have hge : slt e.key hi = false := by
      cases hx : slt e.key hi with
      | false => rfl
      | true => have := (cnt_at (k := hi) f3 _ _ he).1 hx; omega
    rw [keep_iff]
    unfold belowF
    rw [hge, Bool.eq_false_iff.2 hto.1]; simp
end Go.Proofs.Ytkgokehkobifkaa.J

/- Plain laws of clashes: who opens what is not there has two unlike texts with one sum. -/
namespace Go.Proofs.Ytkgokehkobifkaa.J
open Go Go.RowKit

theorem lastUn_snoc {ps : List Txts} {q p : Txts} (h : lastUn (ps ++ [q]) p) : (p = q ∧ q.1 ≠ q.2) ∨ (q.1 = q.2 ∧ lastUn ps p) := by
  obtain ⟨i, h1, h2, h3⟩ := h
  have hl : i < (ps ++ [q]).length := (List.getElem?_eq_some_iff.1 h1).1
  rw [List.length_append, List.length_singleton] at hl
  rcases Nat.lt_or_ge i ps.length with hi | hi
  · refine .inr ⟨h3 ps.length q (by omega) (by simp), i, by rwa [List.getElem?_append_left hi] at h1, h2, fun j r hj hr => h3 j r hj ?_⟩
    rw [List.getElem?_append_left (List.getElem?_eq_some_iff.1 hr).1]; exact hr
  · obtain rfl : i = ps.length := by omega
    simp at h1
    subst h1
    exact .inl ⟨rfl, h2⟩
theorem alike_snoc {ps : List Txts} {q : Txts} (h : alikeFrom (ps ++ [q]) 0) : q.1 = q.2 ∧ alikeFrom ps 0 :=
  ⟨h ps.length q (Nat.zero_le _) (by simp), fun j r _ hr => h j r (Nat.zero_le _) (by rw [List.getElem?_append_left (List.getElem?_eq_some_iff.1 hr).1]; exact hr)⟩
theorem nodeP_eq {a b c d : Dg} (h : (nodeP a b c d).1 = (nodeP a b c d).2) : a = c ∧ b = d := by
  have h1 : dbytes a ++ dbytes b = dbytes c ++ dbytes d := (List.cons.inj h).2
  have h2 := List.append_inj h1 rfl
  exact ⟨dgEq_iff.1 (by unfold dgEq; rw [h2.1]; simp), dgEq_iff.1 (by unfold dgEq; rw [h2.2]; simp)⟩

theorem up_sound (bits : Int) (leaf : List UInt8) : ∀ (N : Nat) (ls : List (List UInt8)) (i : Nat) (path : List Dg), ls.length < N → i < ls.length → path.length = (sides ls.length i).length → upD bits leaf ls.length i path = rootF bits ls →
    (alikeFrom (chkF bits leaf ls i path) 0 → ls[i]? = some leaf) ∧ ∀ p, lastUn (chkF bits leaf ls i path) p → kept p.1 bits = kept p.2 bits
  | 0, _, _, _, h, _, _, _ => absurd h (Nat.not_lt_zero _)
  | N + 1, ls, i, path, h, hi, hp, hd => by
    by_cases h1 : ls.length ≤ 1
    · obtain ⟨x, hx⟩ : ∃ z, ls[0]? = some z := ⟨_, List.getElem?_eq_getElem (by omega)⟩
      obtain rfl : i = 0 := by omega
      rw [chkF_1 (by omega) hx]
      rw [upD_1 h1, rootF_1 (by omega) hx] at hd
      refine ⟨fun ha => ?_, fun p ⟨j, hj, _, _⟩ => ?_⟩
      · have := ha 0 _ (Nat.le_refl _) rfl
        rw [hx, (List.cons.inj this).2]
      · match j, hj with
        | 0, hj => cases hj; exact hd
    · have hh := half_lt (n := ls.length) (by omega)
      have hpp : path.length - 1 < path.length := by have := sides_pos (n := ls.length) (i := i) (by omega); omega
      obtain ⟨x, hx⟩ : ∃ z, path[path.length - 1]? = some z := ⟨_, List.getElem?_eq_getElem hpp⟩
      have hlt : (path.take (path.length - 1)).length = path.length - 1 := by rw [List.length_take]; omega
      rcases Nat.lt_or_ge i (half ls.length) with hk | hk
      · have ht : (ls.take (half ls.length)).length = half ls.length := by rw [List.length_take]; omega
        rw [upD_lo (by omega) hk hp hx, rootF_2 (by omega)] at hd
        rw [chkF_lo (by omega) hk hx]
        have ih := fun (e : upD bits leaf (half ls.length) i (path.take (path.length - 1)) = rootF bits (ls.take (half ls.length))) => up_sound bits leaf N (ls.take (half ls.length)) i (path.take (path.length - 1)) (by omega) (by omega) (by rw [hlt, ht]; exact sides_take (by omega) hk hp) (by rw [ht]; exact e)
        refine ⟨fun ha => ?_, fun p hu => ?_⟩
        · obtain ⟨e1, e2⟩ := alike_snoc ha
          have := (ih (nodeP_eq e1).1).1 e2
          rwa [List.getElem?_take, if_pos hk] at this
        · rcases lastUn_snoc hu with ⟨rfl, _⟩ | ⟨e1, e2⟩
          · exact hd
          · exact (ih (nodeP_eq e1).1).2 p e2
      · have ht : (ls.drop (half ls.length)).length = ls.length - half ls.length := List.length_drop
        rw [upD_hi (by omega) hk hp hx, rootF_2 (by omega)] at hd
        rw [chkF_hi (by omega) hk hx]
        have ih := fun (e : upD bits leaf (ls.length - half ls.length) (i - half ls.length) (path.take (path.length - 1)) = rootF bits (ls.drop (half ls.length))) => up_sound bits leaf N (ls.drop (half ls.length)) (i - half ls.length) (path.take (path.length - 1)) (by omega) (by omega) (by rw [hlt, ht]; exact sides_drop (by omega) hk hp) (by rw [ht]; exact e)
        refine ⟨fun ha => ?_, fun p hu => ?_⟩
        · obtain ⟨e1, e2⟩ := alike_snoc ha
          have := (ih (nodeP_eq e1).2).1 e2
          rwa [List.getElem?_drop, show half ls.length + (i - half ls.length) = i by omega] at this
        · rcases lastUn_snoc hu with ⟨rfl, _⟩ | ⟨e1, e2⟩
          · exact hd
          · exact (ih (nodeP_eq e1).2).2 p e2

/-- What two says of what Of answers: true, whenever the opening is taken, and is not the list's own. -/
def Tells (bits : Int) (ls : List (List UInt8)) (i : Int) (leaf : List UInt8) (path : List Dg) (b : Bool) : Prop := checkF bits (rootF bits ls) ls.length i leaf path = true → ls[i.toNat]? ≠ some leaf → b = true
theorem tells_alike {bits : Int} {ls : List (List UInt8)} {i : Int} {leaf : List UInt8} {path : List Dg} {b : Bool} (h : checkF bits (rootF bits ls) ls.length i leaf path = false ∨ alikeFrom (chkF bits leaf ls i.toNat path) 0) : Tells bits ls i leaf path b := by
  intro hc hne
  rcases h with h | h
  · rw [h] at hc; cases hc
  · have h0 := checkF_nat hc
    obtain ⟨k, rfl⟩ : ∃ k : Nat, i = ((k : Nat) : Int) := ⟨i.toNat, by omega⟩
    obtain ⟨h1, h2, h3⟩ := checkF_spec hc
    exact absurd ((up_sound bits leaf _ ls k path (Nat.lt_succ_self _) h1 h2 h3).1 h) hne
theorem tells_un {bits : Int} {ls : List (List UInt8)} {i : Int} {leaf : List UInt8} {path : List Dg} {p : Txts} (hc : checkF bits (rootF bits ls) ls.length i leaf path = true) (h : lastUn (chkF bits leaf ls i.toNat path) p) : twoF bits p.1 p.2 true = true := by
  have h0 := checkF_nat hc
  obtain ⟨k, rfl⟩ : ∃ k : Nat, i = ((k : Nat) : Int) := ⟨i.toNat, by omega⟩
  obtain ⟨h1, h2, h3⟩ := checkF_spec hc
  have hs := (up_sound bits leaf _ ls k path (Nat.lt_succ_self _) h1 h2 h3).2 p h
  obtain ⟨_, _, hne, _⟩ := h
  unfold twoF
  rw [strOf_seq, hs, dgEq_iff.2 rfl]
  simp [hne]

theorem holds_rng {bits : Int} {x : Tab} {N : Nat} {o : Opn} (h : o.holds bits x N = true) : 0 ≤ o.t ∧ o.t < ((N : Nat) : Int) := by
  unfold Opn.holds holdsF checkF at h
  simp only [Bool.and_eq_true, decide_eq_true_eq] at h
  exact h.2.1

/-- **What a point tells**, if its openings are the table's own. -/
theorem point_sound {bits : Int} {l : List Ent} (h : FitL l) {key : Str} {btw : Bool} {oa ob : Opn} (hc : (seekC bits (descF bits 1 l).1 l.length key btw oa ob).2.2 = 0) (ha : (l.map entB)[oa.t.toNat]? = some oa.leaf) (hb : btw = true → (l.map entB)[ob.t.toNat]? = some ob.leaf) :
    (seekC bits (descF bits 1 l).1 l.length key btw oa ob).2.1 = hasKey key l ∧ (hasKey key l = true → ∃ e, l[cntLt key l]? = some e ∧ (seekC bits (descF bits 1 l).1 l.length key btw oa ob).1 = e) := by
  have hR : ∀ e ∈ l, e.Right := h.2.2.2
  obtain ⟨ea, hea, hla⟩ : ∃ e, l[oa.t.toNat]? = some e ∧ entB e = oa.leaf := by
    rw [List.getElem?_map] at ha
    exact Option.map_eq_some_iff.1 ha
  have hpa : pars oa.leaf = (ea, (entB ea).length, 0) := by rw [← hla]; exact pars_own (hR ea (List.mem_of_getElem? hea))
  unfold seekC at hc ⊢
  split at hc
  · simp at hc
  · rename_i h1
    rw [if_neg h1]
    split at hc
    · rename_i h2
      rw [if_pos h2]
      split at hc
      · simp at hc
      · rename_i h3
        rw [if_neg h3]
        simp only [hpa, Bool.or_eq_true, Bool.not_eq_true', not_or, Bool.not_eq_false] at h3
        have hk : ea.key = key := seq_iff.1 h3.1
        have hcnt : cntLt key l = oa.t.toNat ∧ hasKey key l = true := by
          have hlo : ∀ (q : Nat) (a : Ent), q < oa.t.toNat → l[q]? = some a → slt a.key key = true := fun q a hq hqa => by rw [← hk]; exact sorted_at h.2.2.1 hq hqa hea
          have hhi : ∀ (q : Nat) (a : Ent), oa.t.toNat ≤ q → l[q]? = some a → slt a.key key = false := fun q a hq hqa => by
            rcases Nat.lt_or_ge oa.t.toNat q with h5 | h5
            · have := sorted_at h.2.2.1 h5 hea hqa
              rw [hk] at this
              exact slt_asymm this
            · obtain rfl : q = oa.t.toNat := by omega
              rw [hea] at hqa; cases hqa
              rw [hk]; exact slt_irrefl _
          have hle : oa.t.toNat ≤ l.length := Nat.le_of_lt (List.getElem?_eq_some_iff.1 hea).1
          refine ⟨cntLt_at hle hlo hhi, ?_⟩
          rw [hasKey_at h.2.2.1 hlo hhi hea, hk]; exact seq_refl _
        refine ⟨by simp [hcnt.2], fun _ => ⟨ea, by rw [hcnt.1]; exact hea, by simp [hpa]⟩⟩
    · rename_i h2
      rw [if_neg h2]
      have hbt : btw = true := by simpa using h2
      obtain ⟨eb, heb, hlb⟩ : ∃ e, l[ob.t.toNat]? = some e ∧ entB e = ob.leaf := by
        have hb := hb hbt
        rw [List.getElem?_map] at hb
        exact Option.map_eq_some_iff.1 hb
      have hpb : pars ob.leaf = (eb, (entB eb).length, 0) := by rw [← hlb]; exact pars_own (hR eb (List.mem_of_getElem? heb))
      split at hc
      · simp at hc
      · rename_i h3
        rw [if_neg h3]
        simp only [hpa, hpb, Bool.or_eq_true, Bool.not_eq_true', not_or, Bool.not_eq_false, bne_iff_ne, ne_eq, Decidable.not_not, Bool.not_eq_true] at h3
        obtain ⟨⟨⟨h4, h5⟩, h6⟩, h7⟩ := h3
        have hno : hasKey key l = false := by
          cases hk : hasKey key l with
          | false => rfl
          | true =>
            exfalso
            obtain ⟨e, he, hke⟩ := has_at h.2.2.1 hk
            have h8 := (cnt_at h.2.2.1 _ _ hea (k := key)).1 h6
            have h64 := h.2.1
            have ra : 0 ≤ oa.t ∧ oa.t < ((l.length : Nat) : Int) := by
              simp only [Bool.or_eq_true, Bool.not_eq_true', not_or, Bool.not_eq_false] at h1
              exact holds_rng h1.1
            have rb : 0 ≤ ob.t ∧ ob.t < ((l.length : Nat) : Int) := holds_rng h4
            rw [wrap_i64 (by omega) (by omega)] at h5
            have hBA : ob.t.toNat = oa.t.toNat + 1 := by omega
            have h9 : slt key eb.key = true := sle_no.1 h7
            rcases Nat.lt_or_ge ob.t.toNat (cntLt key l) with h10 | h10
            · have := (cnt_at h.2.2.1 _ _ heb (k := key)).2 h10
              rw [slt_asymm h9] at this; cases this
            · have e1 : cntLt key l = ob.t.toNat := by omega
              rw [e1, heb] at he
              cases he
              rw [hke, slt_irrefl] at h9; cases h9
        exact ⟨hno.symm, fun hk => by rw [hno] at hk; cases hk⟩
end Go.Proofs.Ytkgokehkobifkaa.J

/- SeekWhole: the walk. -/
namespace Go.Proofs.Ytkgokehkobifkaa.J
open Go Go.RowKit

theorem desc_ok {bits level : Int} {l : List Ent} (h : (descF bits level l).2 = 0) : FitL l ∧ 0 ≤ level ∧ level < 4 := by
  refine Classical.byContradiction fun hn => ?_
  rw [descF_no hn] at h; cases h
theorem descF_1 {bits level : Int} {l : List Ent} (h : FitL l) (h2 : 0 ≤ level) (h3 : level < 4) : (descF bits level l).1.count = ((l.length : Nat) : Int) := by rw [descF_yes h h2 h3]

theorem seekWhole_calls (a : Option Addr) (n c : Nat) (l : List Ent) (bits : Int) (Ac : Nat → Prop) (W : World) (hA : ∀ k, Ac k → k < W.heap.size) (hs : Sl 4 encE Ac W a n c l) :
    Calls Pr 4 #[.slice a n c, .int .i64 bits] W (Ret nobody W fun v w => v = .bool true) := by
  refine J.enter (fn := Try.f4) (n := 89) Try.func4 (by kernel_rfl) (by kernel_rfl) (by kernel_rfl) hA ?_
  have hlen := hs.len; have hle := hs.le; have hcap := hs.cap; simp only [maxLen] at hcap
  refine J.rn [.n, .n, .u, .n, .n, .n] [0, 1] [.c 0] [.o 3 0, .c 4] (by kernel_rfl) ?_
  refine J.call (d := some 14) (by kernel_rfl) (fun w1 A1 m1 l1 => shown_calls nobody w1 noA) ?_
  rintro _ u1 w1 A1 rfl g1
  have m1 := g1.mv
  replace hs := hs.mv m1
  refine J.rn [.u, .n, .n, .n, .u] [1, 5, 15] [.o 3 1, .c 4] [.o 5 1, .c 6] (by kernel_rfl) ?_
  refine J.call (d := some 16) (by kernel_rfl) (fun w1 A1 m1 l1 => fit_law_calls a n c l nobody w1 noA (hs.mv m1).any) ?_
  rintro _ u2 w2 A2 ⟨a1, c1, rfl, hfq1⟩ g2
  have m2 := g2.mv
  replace hs := hs.mv m2
  have hl1 : Sl 4 encE A2 w2 a1 (fitF l).length c1 (fitF l) := hfq1.sl (fun x _ => rfl) (by decide) g2.bd
  refine J.rn [.u, .n, .n, .n, .u, .u] [0, 5, 18] [.o 5 2, .c 6] [.o 7 2, .c 8] (by kernel_rfl) ?_
  refine J.new (T := 32) (cs := [.int .i64 0]) (d := 6) (K := .ptr) (by kernel_rfl) (fun b1 hb1 => ?_)
  refine J.run [.u, .n, .n, .n, .u, .u] [0, 5, 6, 20, 21] ⟨[(0, .v (.slice a1 ((fitF l).length) c1)), (5, .v (.bool true)), (6, .loc 0 0), (20, .v (.agg [.int .i64 bits].toArray)), (21, .v (.slice a1 ((fitF l).length) c1))], [⟨32, [.int .i64 bits]⟩]⟩ [.o 7 3, .c 8] [.o 9 2, .c 10] (by kernel_rfl) ?_
  refine J.call (d := some 22) (by kernel_rfl) (fun w1 A1 m1 l1 => describe_calls bits 2 a1 ((fitF l).length) c1 (fitF l) A1 w1 m1.bdd (hl1.mv m1)) ?_
  rintro _ u3 w3 A3 rfl g3
  have m3 := g3.mv
  replace hs := hs.mv m3; replace hl1 := hl1.mv m3
  refine J.rn [.u, .u, .u] [0, 5, 6, 23, 24] [.o 9 3, .c 10] [.o 9 6, .c 10] (by kernel_rfl) ?_
  refine J.new (T := 36) (cs := [.int .i64 0, .int .i64 0, .int .u8 0, .int .u8 0, .int .u8 0, .int .u8 0, .int .u8 0, .int .u8 0, .int .u8 0, .int .u8 0, .int .u8 0, .int .u8 0, .int .u8 0, .int .u8 0, .int .u8 0, .int .u8 0, .int .u8 0, .int .u8 0, .int .u8 0, .int .u8 0, .int .u8 0, .int .u8 0, .int .u8 0, .int .u8 0, .int .u8 0, .int .u8 0, .int .u8 0, .int .u8 0, .int .u8 0, .int .u8 0, .int .u8 0, .int .u8 0, .int .u8 0, .int .u8 0, .string (⟨#[]⟩ : Str), .string (⟨#[]⟩ : Str)]) (d := 7) (K := .ptr) (by kernel_rfl) (fun b2 hb2 => ?_)
  refine J.rn [.u, .u, .n, .n, .n, .n, .u, .u, .n] [0, 5, 6, 7, 26] [.o 9 7, .c 10] [.c 13, .c 18] (by kernel_rfl) ?_
  refine J.cond (b := (((descF bits 2 (fitF l)).2) != 0)) (k' := 17) (by kernel_rfl) (fun hc => ?_) (fun hc => ?_)
  · try simp only [nrm] at hc
    have hc1 := hc
    refine J.rn [.n, .n, .u, .u, .n] [4] [.c 14, .c 18] [.c 16, .c 18] (by kernel_rfl) ?_
    refine J.ret (v := .bool true) (by kernel_rfl) (by kernel_rfl) (fun w1 A1 m1 hac l1 => rfl)
  · try simp only [nrm] at hc
    have hc1 := hc
    refine J.run [.n, .n, .n, .u, .u] [0, 5, 6, 7, 29, 30] ⟨[(0, .v (.slice a1 ((fitF l).length) c1)), (5, .v (.bool true)), (6, .loc 0 0), (7, .loc 1 0), (29, .v (.agg [.int .i64 bits].toArray)), (30, .v (.slice a1 ((fitF l).length) c1))], [⟨32, [.int .i64 bits]⟩, ⟨36, encT (descF bits 2 (fitF l)).1⟩]⟩ [.c 17, .c 18] [.o 19 2, .c 20] (by kernel_rfl) ?_
    have hf := (desc_ok hc1).1; have hf0 := hf.1; have hf64 := hf.2.1
    refine J.call (d := some 31) (by kernel_rfl) (fun w1 A1 m1 l1 => (by have q := proveSpan_calls bits a1 ((fitF l).length) c1 (fitF l) ⟨#[]⟩ ⟨#[]⟩ A1 w1 m1.bdd (hl1.mv m1); rw [span_all hf] at q; exact q)) ?_
    rintro _ u4 w4 A4 ⟨_, rfl, la1, ln1, lc1, pa1, pn1, pc1, rfl, hsr1, hsp1⟩ g4
    have m4 := g4.mv
    replace hs := hs.mv m4; replace hl1 := hl1.mv m4
    have hrn : ln1 = (fitF l).length := by have := hsr1.len; simpa using this
    have hpn : pn1 = 0 := by have := hsp1.len; simpa using this
    refine J.rn [.u, .u, .u] [0, 5, 6, 7, 32, 33] [.o 19 3, .c 20] [.o 19 6, .c 20] (by kernel_rfl) ?_
    refine J.new (T := 54) (cs := [.int .i64 0, .slice none 0 0, .slice none 0 0]) (d := 9) (K := .ptr) (by kernel_rfl) (fun b3 hb3 => ?_)
    refine J.run [.u, .u, .n, .n, .n, .u, .u, .u] [0, 5, 9, 10, 35, 36, 37] ⟨[(0, .v (.slice a1 ((fitF l).length) c1)), (5, .v (.bool true)), (9, .loc 2 0), (10, .v (.int .i64 0)), (35, .v (.agg [.int .i64 bits].toArray)), (36, .v (.agg (encT (descF bits 2 (fitF l)).1).toArray)), (37, .v (.agg [.int .i64 0, .slice la1 ln1 lc1, .slice pa1 pn1 pc1].toArray))], [⟨32, [.int .i64 bits]⟩, ⟨36, encT (descF bits 2 (fitF l)).1⟩, ⟨54, [.int .i64 0, .slice la1 ln1 lc1, .slice pa1 pn1 pc1]⟩]⟩ [.o 19 7, .c 20] [.o 21 3, .c 22] (by kernel_rfl) ?_
    refine J.call (d := some 38) (by kernel_rfl) (fun w1 A1 m1 l1 => (by have q := checkSpan_calls bits (descF bits 2 (fitF l)).1 (fitF l).length (descF_1 hf (by decide) (by decide)) (by omega) ⟨#[]⟩ ⟨#[]⟩ ⟨0, (fitF l).map entB, []⟩ (short_ents _) la1 ln1 lc1 pa1 pn1 pc1 nobody w1 noA (hsr1.mv m1).any (hsp1.mv m1).any; rw [chk_all hf (by decide) (by decide)] at q; exact q)) ?_
    rintro _ u5 w5 A5 ⟨a2, c2, rfl, hgq1⟩ g5
    have m5 := g5.mv
    replace hs := hs.mv m5; replace hl1 := hl1.mv m5; replace hsr1 := hsr1.mv m5; replace hsp1 := hsp1.mv m5
    have hg1 : Sl 4 encE A5 w5 a2 (fitF l).length c2 (fitF l) := hgq1.sl (fun x _ => rfl) (by decide) g5.bd
    refine J.run [.u, .u, .u, .u, .u, .n, .n, .n, .n, .u, .u, .u, .w, .w, .u, .u, .w, .w, .w, .w, .w, .u, .u] [0, 5, 9, 11, 54] ⟨[(0, .v (.slice a1 ((fitF l).length) c1)), (5, .v (.bool true)), (9, .loc 2 0), (11, .v (.slice a2 ((fitF l).length) c2)), (54, .v (.bool ((((fitF l).length : Nat) : Int) != (((fitF l).length : Nat) : Int))))], [⟨32, [.int .i64 bits]⟩, ⟨36, encT (descF bits 2 (fitF l)).1⟩, ⟨54, [.int .i64 0, .slice la1 ln1 lc1, .slice pa1 pn1 pc1]⟩]⟩ [.o 21 4, .c 22] [.o 24 14, .c 25, .c 30] (by kernel_rfl) ?_
    rcases Bool.eq_false_or_eq_true ((((fitF l).length : Nat) : Int) != (((fitF l).length : Nat) : Int)) with hc | hc
    · rw [hc]
      try simp only [nrm] at hc
      have hc2 := hc
      refine J.rn [.x, .x, .x, .u, .u, .x, .x, .x, .x, .x, .x, .u, .u, .x, .x, .x, .x, .u, .n] [0, 5, 11, 72] [.o 24 14, .c 25, .c 30] [.c 25, .c 30] (by kernel_rfl) ?_
      refine J.cond (b := true) (k' := 29) (by kernel_rfl) (fun _ => ?_) (fun hc => absurd hc (by decide))
      refine J.rn [.n, .n, .u, .n] [4] [.c 26, .c 30] [.c 28, .c 30] (by kernel_rfl) ?_
      exfalso
      have h9 := hc2; simp [hrn, hpn] at h9
    · rw [hc]
      try simp only [nrm] at hc
      have hc2 := hc
      refine J.run [.w, .w, .w, .u, .u, .w, .w, .w, .w, .w, .w, .u, .u] [0, 5, 9, 11, 67] ⟨[(0, .v (.slice a1 ((fitF l).length) c1)), (5, .v (.bool true)), (9, .loc 2 0), (11, .v (.slice a2 ((fitF l).length) c2)), (67, .v (.bool (((ln1 : Nat) : Int) != (((fitF l).length : Nat) : Int))))], [⟨32, [.int .i64 bits]⟩, ⟨36, encT (descF bits 2 (fitF l)).1⟩, ⟨54, [.int .i64 0, .slice la1 ln1 lc1, .slice pa1 pn1 pc1]⟩]⟩ [.o 24 14, .c 25, .c 30] [.o 24 27, .c 25, .c 30] (by kernel_rfl) ?_
      rcases Bool.eq_false_or_eq_true (((ln1 : Nat) : Int) != (((fitF l).length : Nat) : Int)) with hc | hc
      · rw [hc]
        try simp only [nrm] at hc
        have hc3 := hc
        refine J.rn [.x, .x, .x, .x, .u, .n] [0, 5, 11, 72] [.o 24 27, .c 25, .c 30] [.c 25, .c 30] (by kernel_rfl) ?_
        refine J.cond (b := true) (k' := 29) (by kernel_rfl) (fun _ => ?_) (fun hc => absurd hc (by decide))
        refine J.rn [.n, .n, .u, .n] [4] [.c 26, .c 30] [.c 28, .c 30] (by kernel_rfl) ?_
        exfalso
        have h9 := hc3; simp [hrn, hpn] at h9
      · rw [hc]
        try simp only [nrm] at hc
        have hc3 := hc
        refine J.rn [.w, .w, .w, .w, .u, .n] [0, 5, 11, 72] [.o 24 27, .c 25, .c 30] [.c 25, .c 30] (by kernel_rfl) ?_
        refine J.cond (b := (((pn1 : Nat) : Int) != 0)) (k' := 29) (by kernel_rfl) (fun hc => ?_) (fun hc => ?_)
        · try simp only [nrm] at hc
          have hc4 := hc
          refine J.run [.n, .n, .u, .n] [4] ⟨[(4, .v (.bool false))], [⟨32, [.int .i64 bits]⟩, ⟨36, encT (descF bits 2 (fitF l)).1⟩, ⟨54, [.int .i64 0, .slice la1 ln1 lc1, .slice pa1 pn1 pc1]⟩]⟩ [.c 26, .c 30] [.c 28, .c 30] (by kernel_rfl) ?_
          exfalso
          have h9 := hc4; simp [hrn, hpn] at h9
        · try simp only [nrm] at hc
          have hc4 := hc
          refine J.rn [.n, .n, .n, .n, .u, .n, .n] [0, 5, 11, 13] [.c 29, .c 30] [.c 34, .b 0, .c 51] (by kernel_rfl) ?_
          refine J.loop (X := Nat) (fun i => ⟨[(0, .v (.slice a1 ((fitF l).length) c1)), (5, .v (.bool true)), (11, .v (.slice a2 ((fitF l).length) c2)), (13, .v (.int .i64 ((i : Nat) : Int)))], [⟨32, [.int .i64 bits]⟩, ⟨36, encT (descF bits 2 (fitF l)).1⟩, ⟨54, [.int .i64 0, .slice la1 ln1 lc1, .slice pa1 pn1 pc1]⟩]⟩) (fun i A w => i ≤ (fitF l).length ∧ Sl 4 encE A w a1 (fitF l).length c1 (fitF l) ∧ Sl 4 encE A w a2 (fitF l).length c2 (fitF l)) (fun i => (fitF l).length - i) [0, 5, 11, 13] 3 [b1, b2, b3] 0 (by kernel_rfl) (by kernel_rfl) (by kernel_rfl) (fun w1 A1 m1 => ⟨Nat.zero_le _, hl1.mv m1, hg1.mv m1⟩) (fun i A6 w6 hI => ?_)
          obtain ⟨hi, hl, hg⟩ := hI
          refine J.run [.n, .n, .n, .u, .u, .u, .u, .n] [0, 5, 11, 13, 76] ⟨[(0, .v (.slice a1 ((fitF l).length) c1)), (5, .v (.bool true)), (11, .v (.slice a2 ((fitF l).length) c2)), (13, .v (.int .i64 ((i : Nat) : Int))), (76, .v (.bool (decide (((i : Nat) : Int) < (((fitF l).length : Nat) : Int)))))], [⟨32, [.int .i64 bits]⟩, ⟨36, encT (descF bits 2 (fitF l)).1⟩, ⟨54, [.int .i64 0, .slice la1 ln1 lc1, .slice pa1 pn1 pc1]⟩]⟩ [.c 35] [.c 38, .c 41] (by kernel_rfl) ?_
          refine J.cond (b := (decide (((i : Nat) : Int) < (((fitF l).length : Nat) : Int)))) (k' := 40) (by kernel_rfl) (fun hc => ?_) (fun hc => ?_)
          · try simp only [nrm] at hc
            have hc5 := hc
            refine J.run [.n, .n, .n, .n] [0, 5, 11, 13] ⟨[(0, .v (.slice a1 ((fitF l).length) c1)), (5, .v (.bool true)), (11, .v (.slice a2 ((fitF l).length) c2)), (13, .v (.int .i64 ((i : Nat) : Int)))], [⟨32, [.int .i64 bits]⟩, ⟨36, encT (descF bits 2 (fitF l)).1⟩, ⟨54, [.int .i64 0, .slice la1 ln1 lc1, .slice pa1 pn1 pc1]⟩]⟩ [.c 39, .c 41] [.c 44, .c 45, .b 1, .c 50] (by kernel_rfl) ?_
            refine J.draw [] nobody (by kernel_rfl) (by kernel_rfl) (fun _ h => h.elim) (fun w7 A7 m6 hr1 hX1 => ?_)
            replace hl := hl.mv m6; replace hg := hg.mv m6
            refine J.take0 [(0, .u), (1, .u), (4, .u), (5, .u)] [0, 5, 11, 13, 79, 80, 83, 84] [(0, .v (.slice a1 ((fitF l).length) c1)), (5, .v (.bool true)), (11, .v (.slice a2 ((fitF l).length) c2)), (13, .v (.int .i64 ((i : Nat) : Int))), (79, .v (.slice a2 ((fitF l).length) c2)), (80, .v (.int .i64 ((i : Nat) : Int))), (83, .v (.slice a1 ((fitF l).length) c1)), (84, .v (.int .i64 ((i : Nat) : Int)))] [5, 4, 1, 0] (calm_body _ _ _) (by intro k _ h; exact h) hr1 (by kernel_rfl) ?_
            obtain ⟨p1, o1, rfl⟩ := hg.addr (by omega)
            refine J.idxp (j := 2) (b := p1) (off := o1) (len := (fitF l).length) (i := ((i : Nat) : Int)) (sz := 4) (d := 81) (calm_body _ _ _) (by kernel_rfl) (by kernel_rfl) (by omega) (by omega) ?_
            obtain ⟨x1, hx1⟩ : ∃ zq, ((fitF l))[i]? = some zq := ⟨_, List.getElem?_eq_getElem (by omega)⟩
            refine J.ldp (i := 3) (T := 42) (b := p1) (off := o1 + i * 4) (d := 82) (v := .agg (encE x1).toArray) (calm_body _ _ _) (by kernel_rfl) (by kernel_rfl) hX1 (fun w1 m1 => (hg.mv m1).ld (by kernel_rfl) hx1 (by kernel_rfl)) ?_
            obtain ⟨p2, o2, rfl⟩ := hl.addr (by omega)
            refine J.idxp (j := 6) (b := p2) (off := o2) (len := (fitF l).length) (i := ((i : Nat) : Int)) (sz := 4) (d := 85) (calm_body _ _ _) (by kernel_rfl) (by kernel_rfl) (by omega) (by omega) ?_
            refine J.ldp (i := 7) (T := 42) (b := p2) (off := o2 + i * 4) (d := 86) (v := .agg (encE x1).toArray) (calm_body _ _ _) (by kernel_rfl) (by kernel_rfl) hX1 (fun w1 m1 => (hl.mv m1).ld (by kernel_rfl) hx1 (by kernel_rfl)) ?_
            refine J.eqAp (j := 8) (neg := true) (T := 42) (d := 87) (b := entEq x1 x1) (calm_body _ _ _) (by kernel_rfl) (by kernel_rfl) ent_guard (ent_eq x1 x1) ?_
            refine J.pdone (by kernel_rfl) ?_
            refine J.cond (b := (!(entEq x1 x1))) (k' := 49) (by kernel_rfl) (fun hc => ?_) (fun hc => ?_)
            · try simp only [nrm] at hc
              have hc6 := hc
              refine J.rn [.n, .n, .u, .n] [4] [.c 46, .b 1, .c 50] [.c 48, .b 1, .c 50] (by kernel_rfl) ?_
              exfalso
              exact (by have := hc6; simp [entEq_refl] at this)
            · try simp only [nrm] at hc
              have hc6 := hc
              refine J.run [.n, .n, .n, .u, .u, .u, .n] [0, 5, 11, 13] ⟨[(0, .v (.slice (some ⟨p2, o2, none⟩) ((fitF l).length) c1)), (5, .v (.bool true)), (11, .v (.slice (some ⟨p1, o1, none⟩) ((fitF l).length) c2)), (13, .v (.int .i64 (IntKind.i64.wrap (((i : Nat) : Int) + 1))))], [⟨32, [.int .i64 bits]⟩, ⟨36, encT (descF bits 2 (fitF l)).1⟩, ⟨54, [.int .i64 0, .slice la1 ln1 lc1, .slice pa1 pn1 pc1]⟩]⟩ [.c 49, .b 1, .c 50] [] (by kernel_rfl) ?_
              have hw1 : IntKind.i64.wrap (((i : Nat) : Int) + 1) = ((i + 1 : Nat) : Int) := by rw [wrap_i64 (by omega) (by omega)]; try omega
              rw [hw1]
              exact J.again (i + 1) [0, 5, 11, 13] 3 (by omega) (by kernel_rfl) (by kernel_rfl) (fun w1 A1 m1 => ⟨by omega, hl.mv m1, hg.mv m1⟩)
          · try simp only [nrm] at hc
            have hc5 := hc
            refine J.exit (id := 0) (by kernel_rfl) (by rfl) ?_
            refine J.rn [.n, .n, .u, .u, .n] [4] [.c 51] [.c 53] (by kernel_rfl) ?_
            refine J.ret (v := .bool true) (by kernel_rfl) (by kernel_rfl) (fun w1 A1 m1 hac l1 => rfl)
end Go.Proofs.Ytkgokehkobifkaa.J

/- SeekSound: the walk. -/
namespace Go.Proofs.Ytkgokehkobifkaa.J
open Go Go.RowKit

theorem clashOf_law (bits : Int) (a : Option Addr) (n c : Nat) (ls : List (List UInt8)) (i : Int) (la : Option Addr) (ln lc : Nat) (leaf : List UInt8) (pa : Option Addr) (pn pc : Nat) (path : List Dg) (hsh : Short ls) (hn : ls.length ≤ 1000000) (hln : ln ≤ 1000000) (Ac : Nat → Prop) (W : World) (hA : ∀ k, Ac k → k < W.heap.size) (hs : Rows Ac W a n c ls) (hl : Sl 1 u8 Ac W la ln lc leaf) (hp : Sl 32 dcells Ac W pa pn pc path) :
    Calls Pr 15 #[.agg [.int .i64 bits].toArray, .slice a n c, .int .i64 i, .slice la ln lc, .slice pa pn pc] W (Ret nobody W fun v w => ∃ a n c b m d xs ys ok, v = .tuple #[.slice a n c, .slice b m d, .bool ok] ∧ Sl 1 u8 Ac w a n c xs ∧ Sl 1 u8 Ac w b m d ys ∧ Tells bits ls i leaf path (twoF bits xs ys ok)) :=
  (clashOf_calls bits a n c ls i la ln lc leaf pa pn pc path hsh hn hln Ac W hA hs hl hp).mono (Ret.mono fun v w h => by
    rcases h with ⟨rfl, h⟩ | ⟨p, a, n, c, b, m, d, hc, hU, rfl, h1, h2⟩
    · exact ⟨none, 0, 0, none, 0, 0, [], [], false, rfl, Sl.nil none (by decide), Sl.nil none (by decide), tells_alike h⟩
    · exact ⟨a, n, c, b, m, d, p.1, p.2, true, rfl, h1, h2, fun _ _ => tells_un hc hU⟩)

theorem seekC_A {bits : Int} {x : Tab} {N : Nat} {key : Str} {btw : Bool} {oa ob : Opn} (hc : (seekC bits x N key btw oa ob).2.2 = 0) : oa.holds bits x N = true := by
  unfold seekC at hc
  split at hc
  · simp at hc
  · rename_i h1
    simp only [Bool.or_eq_true, Bool.not_eq_true', not_or, Bool.not_eq_false] at h1
    exact h1.1
theorem seekC_B {bits : Int} {x : Tab} {N : Nat} {key : Str} {btw : Bool} {oa ob : Opn} (hc : (seekC bits x N key btw oa ob).2.2 = 0) (hb : btw = true) : ob.holds bits x N = true := by
  unfold seekC at hc
  split at hc
  · simp at hc
  · rw [if_neg (by simp [hb])] at hc
    split at hc
    · simp at hc
    · rename_i h3
      simp only [Bool.or_eq_true, Bool.not_eq_true', not_or, Bool.not_eq_false] at h3
      exact h3.1.1.1
theorem holds_check {bits level : Int} {l : List Ent} (h : FitL l) (h2 : 0 ≤ level) (h3 : level < 4) {o : Opn} (hh : o.holds bits (descF bits level l).1 l.length = true) : checkF bits (rootF bits (l.map entB)) (l.map entB).length o.t o.leaf o.path = true := by
  unfold Opn.holds holdsF at hh
  rw [descF_yes h h2 h3] at hh
  rw [List.length_map]
  exact (Bool.and_eq_true_iff.1 hh).2
theorem sound_end {bits : Int} {l : List Ent} (h : FitL l) {key : Str} {btw : Bool} {oa ob : Opn} (hc : (seekC bits (descF bits 1 l).1 l.length key btw oa ob).2.2 = 0) {ta tb : Bool}
    (hTA : Tells bits (l.map entB) oa.t oa.leaf oa.path ta) (hTB : Tells bits (l.map entB) ob.t ob.leaf ob.path tb)
    (hbad : ¬ ((seekC bits (descF bits 1 l).1 l.length key btw oa ob).2.1 = hasKey key l ∧ (hasKey key l = true → ∃ e, l[cntLt key l]? = some e ∧ (seekC bits (descF bits 1 l).1 l.length key btw oa ob).1 = e))) : ta = true ∨ (btw = true ∧ tb = true) := by
  by_cases h1 : (l.map entB)[oa.t.toNat]? = some oa.leaf
  · by_cases h2 : btw = true → (l.map entB)[ob.t.toNat]? = some ob.leaf
    · exact absurd (point_sound h hc h1 h2) hbad
    · have hb : btw = true := Classical.byContradiction fun hn => h2 fun h => absurd h hn
      exact .inr ⟨hb, hTB (holds_check h (by decide) (by decide) (seekC_B hc hb)) (fun e => h2 fun _ => e)⟩
  · exact .inl (hTA (holds_check h (by decide) (by decide) (seekC_A hc)) h1)

theorem seekSound_calls (a : Option Addr) (n c : Nat) (l : List Ent) (bits : Int) (key : Str) (btw : Bool) (oa ob : Opn) (oala : Option Addr) (oaln oalc : Nat) (oapa : Option Addr) (oapn oapc : Nat) (obla : Option Addr) (obln oblc : Nat) (obpa : Option Addr) (obpn obpc : Nat) (Ac : Nat → Prop) (W : World) (hA : ∀ k, Ac k → k < W.heap.size) (hs : Sl 4 encE Ac W a n c l) (hsa : Sl 1 u8 Ac W oala oaln oalc oa.leaf) (hpa : Sl 32 dcells Ac W oapa oapn oapc oa.path) (hsb : Sl 1 u8 Ac W obla obln oblc ob.leaf) (hpb : Sl 32 dcells Ac W obpa obpn obpc ob.path) :
    Calls Pr 3 #[.slice a n c, .int .i64 bits, .string key, .agg [.bool btw, .int .i64 oa.t, .slice oala oaln oalc, .slice oapa oapn oapc, .int .i64 ob.t, .slice obla obln oblc, .slice obpa obpn obpc].toArray] W (Ret nobody W fun v w => v = .bool true) := by
  refine J.enter (fn := Try.f3) (n := 134) Try.func3 (by kernel_rfl) (by kernel_rfl) (by kernel_rfl) hA ?_
  have hlen := hs.len; have hle := hs.le; have hcap := hs.cap; simp only [maxLen] at hcap
  have hxa : (cutO oa).leaf.length ≤ 1300 := by simp only [cutO, List.length_take]; omega
  have hxb : (cutO ob).leaf.length ≤ 1300 := by simp only [cutO, List.length_take]; omega
  generalize exa : cutO oa = xa at hxa; generalize exb : cutO ob = xb at hxb
  refine J.rn [.n, .n] [0, 1, 2, 3] [.c 0] [.o 1 0, .c 2] (by kernel_rfl) ?_
  refine J.new (T := 28) (cs := [.bool btw, .int .i64 oa.t, .slice oala oaln oalc, .slice oapa oapn oapc, .int .i64 ob.t, .slice obla obln oblc, .slice obpa obpn obpc]) (d := 7) (K := .ptr) (by kernel_rfl) (fun b1 hb1 => ?_)
  refine J.rn [.u, .n, .n, .n] [0, 1, 2, 7] [.o 1 1, .c 2] [.o 3 0, .c 4] (by kernel_rfl) ?_
  refine J.call (d := some 25) (by kernel_rfl) (fun w1 A1 m1 l1 => shown_calls nobody w1 noA) ?_
  rintro _ u1 w1 A1 rfl g1
  have m1 := g1.mv
  replace hs := hs.mv m1; replace hsa := hsa.mv m1; replace hpa := hpa.mv m1; replace hsb := hsb.mv m1; replace hpb := hpb.mv m1
  refine J.rn [.u, .n, .n, .n, .u] [1, 2, 7, 9, 26] [.o 3 1, .c 4] [.o 5 1, .c 6] (by kernel_rfl) ?_
  refine J.call (d := some 27) (by kernel_rfl) (fun w1 A1 m1 l1 => fit_law_calls a n c l nobody w1 noA (hs.mv m1).any) ?_
  rintro _ u2 w2 A2 ⟨a1, c1, rfl, hfq1⟩ g2
  have m2 := g2.mv
  replace hs := hs.mv m2; replace hsa := hsa.mv m2; replace hpa := hpa.mv m2; replace hsb := hsb.mv m2; replace hpb := hpb.mv m2
  have hl1 : Sl 4 encE A2 w2 a1 (fitF l).length c1 (fitF l) := hfq1.sl (fun x _ => rfl) (by decide) g2.bd
  refine J.run [.u, .n, .n, .n, .u, .u] [0, 1, 2, 7, 9, 29] ⟨[(0, .v (.slice a1 ((fitF l).length) c1)), (1, .v (.int .i64 bits)), (2, .v (.string key)), (7, .loc 0 0), (9, .v (.bool true)), (29, .v (.agg [.int .i64 bits].toArray))], [⟨28, [.bool btw, .int .i64 oa.t, .slice oala oaln oalc, .slice oapa oapn oapc, .int .i64 ob.t, .slice obla obln oblc, .slice obpa obpn obpc]⟩]⟩ [.o 5 2, .c 6] [.o 7 2, .c 8] (by kernel_rfl) ?_
  refine J.new (T := 32) (cs := [.int .i64 0]) (d := 10) (K := .ptr) (by kernel_rfl) (fun b2 hb2 => ?_)
  refine J.run [.u, .n, .n, .n, .u, .u] [0, 1, 2, 7, 9, 10, 31, 32] ⟨[(0, .v (.slice a1 ((fitF l).length) c1)), (1, .v (.int .i64 bits)), (2, .v (.string key)), (7, .loc 0 0), (9, .v (.bool true)), (10, .loc 1 0), (31, .v (.agg [.int .i64 bits].toArray)), (32, .v (.slice a1 ((fitF l).length) c1))], [⟨28, [.bool btw, .int .i64 oa.t, .slice oala oaln oalc, .slice oapa oapn oapc, .int .i64 ob.t, .slice obla obln oblc, .slice obpa obpn obpc]⟩, ⟨32, [.int .i64 bits]⟩]⟩ [.o 7 3, .c 8] [.o 9 2, .c 10] (by kernel_rfl) ?_
  refine J.call (d := some 33) (by kernel_rfl) (fun w1 A1 m1 l1 => describe_calls bits 1 a1 ((fitF l).length) c1 (fitF l) A1 w1 m1.bdd (hl1.mv m1)) ?_
  rintro _ u3 w3 A3 rfl g3
  have m3 := g3.mv
  replace hs := hs.mv m3; replace hsa := hsa.mv m3; replace hpa := hpa.mv m3; replace hsb := hsb.mv m3; replace hpb := hpb.mv m3; replace hl1 := hl1.mv m3
  refine J.rn [.u, .u, .u] [0, 1, 2, 7, 9, 10, 34, 35] [.o 9 3, .c 10] [.o 9 6, .c 10] (by kernel_rfl) ?_
  refine J.new (T := 36) (cs := [.int .i64 0, .int .i64 0, .int .u8 0, .int .u8 0, .int .u8 0, .int .u8 0, .int .u8 0, .int .u8 0, .int .u8 0, .int .u8 0, .int .u8 0, .int .u8 0, .int .u8 0, .int .u8 0, .int .u8 0, .int .u8 0, .int .u8 0, .int .u8 0, .int .u8 0, .int .u8 0, .int .u8 0, .int .u8 0, .int .u8 0, .int .u8 0, .int .u8 0, .int .u8 0, .int .u8 0, .int .u8 0, .int .u8 0, .int .u8 0, .int .u8 0, .int .u8 0, .int .u8 0, .int .u8 0, .string (⟨#[]⟩ : Str), .string (⟨#[]⟩ : Str)]) (d := 11) (K := .ptr) (by kernel_rfl) (fun b3 hb3 => ?_)
  refine J.rn [.u, .u, .n, .n, .n, .n, .u, .u, .n] [0, 1, 2, 7, 9, 10, 11, 37] [.o 9 7, .c 10] [.c 13, .c 18] (by kernel_rfl) ?_
  refine J.cond (b := (((descF bits 1 (fitF l)).2) != 0)) (k' := 17) (by kernel_rfl) (fun hc => ?_) (fun hc => ?_)
  · try simp only [nrm] at hc
    have hc1 := hc
    refine J.rn [.n, .n, .u, .u, .n] [8] [.c 14, .c 18] [.c 16, .c 18] (by kernel_rfl) ?_
    refine J.ret (v := .bool true) (by kernel_rfl) (by kernel_rfl) (fun w1 A1 m1 hac l1 => rfl)
  · try simp only [nrm] at hc
    have hc1 := hc
    refine J.run [.n, .n, .n, .u] [0, 1, 2, 7, 9, 10, 11, 39] ⟨[(0, .v (.slice a1 ((fitF l).length) c1)), (1, .v (.int .i64 bits)), (2, .v (.string key)), (7, .loc 0 0), (9, .v (.bool true)), (10, .loc 1 0), (11, .loc 2 0), (39, .v (.agg [.bool btw, .int .i64 oa.t, .slice oala oaln oalc, .slice oapa oapn oapc, .int .i64 ob.t, .slice obla obln oblc, .slice obpa obpn obpc].toArray))], [⟨28, [.bool btw, .int .i64 oa.t, .slice oala oaln oalc, .slice oapa oapn oapc, .int .i64 ob.t, .slice obla obln oblc, .slice obpa obpn obpc]⟩, ⟨32, [.int .i64 bits]⟩, ⟨36, encT (descF bits 1 (fitF l)).1⟩]⟩ [.c 17, .c 18] [.o 19 1, .c 20] (by kernel_rfl) ?_
    refine J.call (d := some 40) (by kernel_rfl) (fun w1 A1 m1 l1 => (by have q := point_calls btw oa ob oala oaln oalc oapa oapn oapc obla obln oblc obpa obpn obpc A1 w1 m1.bdd (hsa.mv m1) (hpa.mv m1) (hsb.mv m1) (hpb.mv m1); rw [exa, exb] at q; exact q)) ?_
    rintro _ u4 w4 A4 ⟨la1, ln1, lc1, pa1, pn1, pc1, la2, ln2, lc2, pa2, pn2, pc2, rfl, hal, hap, hbl, hbp⟩ g4
    have m4 := g4.mv
    replace hs := hs.mv m4; replace hsa := hsa.mv m4; replace hpa := hpa.mv m4; replace hsb := hsb.mv m4; replace hpb := hpb.mv m4; replace hl1 := hl1.mv m4
    have hla : ln1 = xa.leaf.length := hal.len; have hlb : ln2 = xb.leaf.length := hbl.len
    refine J.run [.u, .n, .n, .n, .u, .u, .u, .u] [0, 1, 2, 7, 9, 10, 42, 43, 44, 45] ⟨[(0, .v (.slice a1 ((fitF l).length) c1)), (1, .v (.int .i64 bits)), (2, .v (.string key)), (7, .loc 0 0), (9, .v (.bool true)), (10, .loc 1 0), (42, .v (.agg [.int .i64 bits].toArray)), (43, .v (.agg (encT (descF bits 1 (fitF l)).1).toArray)), (44, .v (.string key)), (45, .v (.agg [.bool btw, .int .i64 xa.t, .slice la1 ln1 lc1, .slice pa1 pn1 pc1, .int .i64 xb.t, .slice la2 ln2 lc2, .slice pa2 pn2 pc2].toArray))], [⟨28, [.bool btw, .int .i64 xa.t, .slice la1 ln1 lc1, .slice pa1 pn1 pc1, .int .i64 xb.t, .slice la2 ln2 lc2, .slice pa2 pn2 pc2]⟩, ⟨32, [.int .i64 bits]⟩, ⟨36, encT (descF bits 1 (fitF l)).1⟩]⟩ [.o 19 2, .c 20] [.o 21 4, .c 22] (by kernel_rfl) ?_
    have hf := (desc_ok hc1).1; have hf0 := hf.1; have hf64 := hf.2.1
    refine J.call (d := some 46) (by kernel_rfl) (fun w1 A1 m1 l1 => seekCheck_calls bits (descF bits 1 (fitF l)).1 (fitF l).length (descF_1 hf (by decide) (by decide)) (by omega) key btw xa xb la1 ln1 lc1 pa1 pn1 pc1 la2 ln2 lc2 pa2 pn2 pc2 (by omega) (by omega) nobody w1 noA (hal.mv m1).any (hap.mv m1).any (hbl.mv m1).any (hbp.mv m1).any) ?_
    rintro _ u5 w5 A5 rfl g5
    have m5 := g5.mv
    replace hs := hs.mv m5; replace hsa := hsa.mv m5; replace hpa := hpa.mv m5; replace hsb := hsb.mv m5; replace hpb := hpb.mv m5; replace hl1 := hl1.mv m5; replace hal := hal.mv m5; replace hap := hap.mv m5; replace hbl := hbl.mv m5; replace hbp := hbp.mv m5
    generalize hsc : (seekC bits (descF bits 1 (fitF l)).1 (fitF l).length key btw xa xb) = sc
    refine J.rn [.u, .u, .u, .u] [0, 1, 2, 7, 9, 10, 47, 48, 49] [.o 21 5, .c 22] [.o 21 9, .c 22] (by kernel_rfl) ?_
    refine J.new (T := 42) (cs := [.string (⟨#[]⟩ : Str), .string (⟨#[]⟩ : Str), .bool false, .int .i64 0]) (d := 13) (K := .ptr) (by kernel_rfl) (fun b4 hb4 => ?_)
    refine J.rn [.u, .u, .u, .n, .n, .n, .n, .u, .u, .n] [0, 1, 2, 7, 9, 10, 13, 14, 51] [.o 21 10, .c 22] [.c 25, .c 30] (by kernel_rfl) ?_
    refine J.cond (b := (sc.2.2 != 0)) (k' := 29) (by kernel_rfl) (fun hc => ?_) (fun hc => ?_)
    · try simp only [nrm] at hc
      have hc2 := hc
      refine J.rn [.n, .n, .u, .u, .n] [8] [.c 26, .c 30] [.c 28, .c 30] (by kernel_rfl) ?_
      refine J.ret (v := .bool true) (by kernel_rfl) (by kernel_rfl) (fun w1 A1 m1 hac l1 => rfl)
    · try simp only [nrm] at hc
      have hc2 := hc
      refine J.run [.n, .n, .n, .u, .u] [0, 1, 7, 9, 10, 13, 14, 54, 55] ⟨[(0, .v (.slice a1 ((fitF l).length) c1)), (1, .v (.int .i64 bits)), (7, .loc 0 0), (9, .v (.bool true)), (10, .loc 1 0), (13, .loc 3 0), (14, .v (.bool sc.2.1)), (54, .v (.slice a1 ((fitF l).length) c1)), (55, .v (.string key))], [⟨28, [.bool btw, .int .i64 xa.t, .slice la1 ln1 lc1, .slice pa1 pn1 pc1, .int .i64 xb.t, .slice la2 ln2 lc2, .slice pa2 pn2 pc2]⟩, ⟨32, [.int .i64 bits]⟩, ⟨36, encT (descF bits 1 (fitF l)).1⟩, ⟨42, encE sc.1⟩]⟩ [.c 29, .c 30] [.o 31 2, .c 32] (by kernel_rfl) ?_
      refine J.call (d := some 56) (by kernel_rfl) (fun w1 A1 m1 l1 => find_calls a1 ((fitF l).length) c1 (fitF l) key nobody w1 noA (hl1.mv m1).any) ?_
      rintro _ u6 w6 A6 rfl g6
      have m6 := g6.mv
      replace hs := hs.mv m6; replace hsa := hsa.mv m6; replace hpa := hpa.mv m6; replace hsb := hsb.mv m6; replace hpb := hpb.mv m6; replace hl1 := hl1.mv m6; replace hal := hal.mv m6; replace hap := hap.mv m6; replace hbl := hbl.mv m6; replace hbp := hbp.mv m6
      refine J.run [.u, .u, .u, .u, .u, .n, .n, .n] [0, 1, 7, 9, 10, 13, 14, 16, 17] ⟨[(0, .v (.slice a1 ((fitF l).length) c1)), (1, .v (.int .i64 bits)), (7, .loc 0 0), (9, .v (.bool true)), (10, .loc 1 0), (13, .loc 3 0), (14, .v (.bool sc.2.1)), (16, .v (.int .i64 ((cntLt key (fitF l) : Nat) : Int))), (17, .v (.bool (hasKey key (fitF l))))], [⟨28, [.bool btw, .int .i64 xa.t, .slice la1 ln1 lc1, .slice pa1 pn1 pc1, .int .i64 xb.t, .slice la2 ln2 lc2, .slice pa2 pn2 pc2]⟩, ⟨32, [.int .i64 bits]⟩, ⟨36, encT (descF bits 1 (fitF l)).1⟩, ⟨42, encE sc.1⟩]⟩ [.o 31 3, .c 32] [.c 34, .c 35, .c 40] (by kernel_rfl) ?_
      refine J.draw [] nobody (by kernel_rfl) (by kernel_rfl) (fun _ h => h.elim) (fun w7 A7 m7 hr1 hX1 => ?_)
      replace hs := hs.mv m7; replace hsa := hsa.mv m7; replace hpa := hpa.mv m7; replace hsb := hsb.mv m7; replace hpb := hpb.mv m7; replace hl1 := hl1.mv m7; replace hal := hal.mv m7; replace hap := hap.mv m7; replace hbl := hbl.mv m7; replace hbp := hbp.mv m7
      refine J.take0 [(0, .u), (1, .u), (2, .u), (3, .u)] [0, 1, 7, 9, 10, 13, 14, 16, 62] [(0, .v (.slice a1 ((fitF l).length) c1)), (1, .v (.int .i64 bits)), (7, .loc 0 0), (9, .v (.bool true)), (10, .loc 1 0), (13, .loc 3 0), (14, .v (.bool sc.2.1)), (16, .v (.int .i64 ((cntLt key (fitF l) : Nat) : Int))), (62, .v (.bool (sc.2.1 == (hasKey key (fitF l)))))] [3, 2, 1, 0] (calm_body _ _ _) (by intro k _ h; exact h) hr1 (by kernel_rfl) ?_
      rcases Bool.eq_false_or_eq_true (sc.2.1 == (hasKey key (fitF l))) with hc | hc
      · rw [hc]
        try simp only [nrm] at hc
        have hc3 := hc
        refine J.take0 [(4, .w), (5, .w), (6, .w)] [0, 1, 7, 9, 10, 13, 16, 62, 65] [(0, .v (.slice a1 ((fitF l).length) c1)), (1, .v (.int .i64 bits)), (7, .loc 0 0), (9, .v (.bool true)), (10, .loc 1 0), (13, .loc 3 0), (16, .v (.int .i64 ((cntLt key (fitF l) : Nat) : Int))), (62, .v (.bool true)), (65, .v (.bool (!sc.2.1)))] [6, 5, 4, 3, 2, 1, 0] (calm_body _ _ _) (by intro k _ h; exact h) hr1 (by kernel_rfl) ?_
        rcases Bool.eq_false_or_eq_true (!sc.2.1) with hc | hc
        · rw [hc]
          try simp only [nrm] at hc
          have hc4 := hc
          refine J.take0 [(7, .x), (8, .x), (9, .x), (10, .x), (11, .x), (12, .x), (13, .x), (14, .x), (15, .x), (16, .x), (17, .x), (18, .x), (19, .w), (20, .u)] [0, 1, 7, 9, 10, 79] [(0, .v (.slice a1 ((fitF l).length) c1)), (1, .v (.int .i64 bits)), (7, .loc 0 0), (9, .v (.bool true)), (10, .loc 1 0), (79, .v (.bool true))] [20, 19, 18, 17, 16, 15, 14, 13, 12, 11, 10, 9, 8, 7, 6, 5, 4, 3, 2, 1, 0] (calm_body _ _ _) (by intro k _ h; exact h) hr1 (by kernel_rfl) ?_
          refine J.pdone (by kernel_rfl) ?_
          refine J.cond (b := true) (k' := 39) (by kernel_rfl) (fun _ => ?_) (fun hc => absurd hc (by decide))
          refine J.rn [.n, .n, .u, .u, .n] [8] [.c 36, .c 40] [.c 38, .c 40] (by kernel_rfl) ?_
          refine J.ret (v := .bool true) (by kernel_rfl) (by kernel_rfl) (fun w1 A1 m1 hac l1 => rfl)
        · rw [hc]
          try simp only [nrm] at hc
          have hc4 := hc
          refine J.take0 [(7, .w), (8, .w), (9, .w), (10, .w), (11, .w)] [0, 1, 7, 9, 10, 13, 16, 62, 65, 70] [(0, .v (.slice a1 ((fitF l).length) c1)), (1, .v (.int .i64 bits)), (7, .loc 0 0), (9, .v (.bool true)), (10, .loc 1 0), (13, .loc 3 0), (16, .v (.int .i64 ((cntLt key (fitF l) : Nat) : Int))), (62, .v (.bool true)), (65, .v (.bool false)), (70, .v (.bool (decide (((cntLt key (fitF l) : Nat) : Int) < (((fitF l).length : Nat) : Int)))))] [11, 10, 9, 8, 7, 6, 5, 4, 3, 2, 1, 0] (calm_body _ _ _) (by intro k _ h; exact h) hr1 (by kernel_rfl) ?_
          rcases Bool.eq_false_or_eq_true (decide (((cntLt key (fitF l) : Nat) : Int) < (((fitF l).length : Nat) : Int))) with hc | hc
          · rw [hc]
            try simp only [nrm] at hc
            have hc5 := hc
            refine J.take0 [(12, .w), (13, .w), (14, .w)] [0, 1, 7, 9, 10, 62, 65, 70, 71, 72, 73] [(0, .v (.slice a1 ((fitF l).length) c1)), (1, .v (.int .i64 bits)), (7, .loc 0 0), (9, .v (.bool true)), (10, .loc 1 0), (62, .v (.bool true)), (65, .v (.bool false)), (70, .v (.bool true)), (71, .v (.agg (encE sc.1).toArray)), (72, .v (.slice a1 ((fitF l).length) c1)), (73, .v (.int .i64 ((cntLt key (fitF l) : Nat) : Int)))] [14, 13, 12, 11, 10, 9, 8, 7, 6, 5, 4, 3, 2, 1, 0] (calm_body _ _ _) (by intro k _ h; exact h) hr1 (by kernel_rfl) ?_
            obtain ⟨p1, o1, rfl⟩ := hl1.addr (by omega)
            refine J.idxp (j := 15) (b := p1) (off := o1) (len := (fitF l).length) (i := ((cntLt key (fitF l) : Nat) : Int)) (sz := 4) (d := 74) (calm_body _ _ _) (by kernel_rfl) (by kernel_rfl) (by omega) (by omega) ?_
            obtain ⟨x1, hx1⟩ : ∃ zq, ((fitF l))[cntLt key (fitF l)]? = some zq := ⟨_, List.getElem?_eq_getElem (by omega)⟩
            refine J.ldp (i := 16) (T := 42) (b := p1) (off := o1 + (cntLt key (fitF l)) * 4) (d := 75) (v := .agg (encE x1).toArray) (calm_body _ _ _) (by kernel_rfl) (by kernel_rfl) hX1 (fun w1 m1 => (hl1.mv m1).ld (by kernel_rfl) hx1 (by kernel_rfl)) ?_
            refine J.eqAp (j := 17) (neg := false) (T := 42) (d := 76) (b := entEq sc.1 x1) (calm_body _ _ _) (by kernel_rfl) (by kernel_rfl) ent_guard (ent_eq sc.1 x1) ?_
            refine J.take0 [(18, .w), (19, .w), (20, .u)] [0, 1, 7, 9, 10, 79] [(0, .v (.slice (some ⟨p1, o1, none⟩) ((fitF l).length) c1)), (1, .v (.int .i64 bits)), (7, .loc 0 0), (9, .v (.bool true)), (10, .loc 1 0), (79, .v (.bool (entEq sc.1 x1)))] [20, 19, 18, 17, 16, 15, 14, 13, 12, 11, 10, 9, 8, 7, 6, 5, 4, 3, 2, 1, 0] (calm_body _ _ _) (by intro k _ h; exact h) hr1 (by kernel_rfl) ?_
            refine J.pdone (by kernel_rfl) ?_
            refine J.cond (b := (entEq sc.1 x1)) (k' := 39) (by kernel_rfl) (fun hc => ?_) (fun hc => ?_)
            · try simp only [nrm] at hc
              have hc6 := hc
              refine J.rn [.n, .n, .u, .u, .n] [8] [.c 36, .c 40] [.c 38, .c 40] (by kernel_rfl) ?_
              refine J.ret (v := .bool true) (by kernel_rfl) (by kernel_rfl) (fun w1 A1 m1 hac l1 => rfl)
            · try simp only [nrm] at hc
              have hc6 := hc
              refine J.run [.n, .n, .n, .u] [1, 7, 9, 10, 81] ⟨[(1, .v (.int .i64 bits)), (7, .loc 0 0), (9, .v (.bool true)), (10, .loc 1 0), (81, .v (.slice (some ⟨p1, o1, none⟩) ((fitF l).length) c1))], [⟨28, [.bool btw, .int .i64 xa.t, .slice la1 ln1 lc1, .slice pa1 pn1 pc1, .int .i64 xb.t, .slice la2 ln2 lc2, .slice pa2 pn2 pc2]⟩, ⟨32, [.int .i64 bits]⟩, ⟨36, encT (descF bits 1 (fitF l)).1⟩, ⟨42, encE sc.1⟩]⟩ [.c 39, .c 40] [.o 41 1, .c 42] (by kernel_rfl) ?_
              refine J.call (d := some 82) (by kernel_rfl) (fun w1 A1 m1 l1 => leaves_calls (some ⟨p1, o1, none⟩) ((fitF l).length) c1 (fitF l) (by omega) nobody w1 noA (hl1.mv m1).any) ?_
              rintro _ u7 w8 A8 ⟨a2, c2, rfl, hrn1⟩ g7
              have m8 := g7.mv
              replace hs := hs.mv m8; replace hsa := hsa.mv m8; replace hpa := hpa.mv m8; replace hsb := hsb.mv m8; replace hpb := hpb.mv m8; replace hl1 := hl1.mv m8; replace hal := hal.mv m8; replace hap := hap.mv m8; replace hbl := hbl.mv m8; replace hbp := hbp.mv m8
              have hr2 : Rows A8 w8 a2 (fitF l).length c2 ((fitF l).map entB) := hrn1 A8 g7.bd
              refine J.run [.u, .n, .n, .n, .u, .u, .u, .u, .u, .u, .u, .u, .u, .u, .u] [1, 7, 9, 10, 18, 84, 85, 88, 91, 94] ⟨[(1, .v (.int .i64 bits)), (7, .loc 0 0), (9, .v (.bool true)), (10, .loc 1 0), (18, .v (.slice a2 ((fitF l).length) c2)), (84, .v (.agg [.int .i64 bits].toArray)), (85, .v (.slice a2 ((fitF l).length) c2)), (88, .v (.int .i64 xa.t)), (91, .v (.slice la1 ln1 lc1)), (94, .v (.slice pa1 pn1 pc1))], [⟨28, [.bool btw, .int .i64 xa.t, .slice la1 ln1 lc1, .slice pa1 pn1 pc1, .int .i64 xb.t, .slice la2 ln2 lc2, .slice pa2 pn2 pc2]⟩, ⟨32, [.int .i64 bits]⟩, ⟨36, encT (descF bits 1 (fitF l)).1⟩, ⟨42, encE sc.1⟩]⟩ [.o 41 2, .c 42] [.o 43 11, .c 44] (by kernel_rfl) ?_
              refine J.call (d := some 95) (by kernel_rfl) (fun w1 A1 m1 l1 => clashOf_law bits a2 ((fitF l).length) c2 (((fitF l).map entB)) xa.t la1 ln1 lc1 xa.leaf pa1 pn1 pc1 xa.path (short_ents _) (by simp; omega) (by omega) A1 w1 m1.bdd (hr2.mv m1) (hal.mv m1) (hap.mv m1)) ?_
              rintro _ u9 w9 A9 ⟨ka1, kn1, kc1, ja1, jn1, jc1, xs1, ys1, ok1, rfl, hk1, hj1, hT1⟩ g8
              have m9 := g8.mv
              replace hs := hs.mv m9; replace hsa := hsa.mv m9; replace hpa := hpa.mv m9; replace hsb := hsb.mv m9; replace hpb := hpb.mv m9; replace hl1 := hl1.mv m9; replace hal := hal.mv m9; replace hap := hap.mv m9; replace hbl := hbl.mv m9; replace hbp := hbp.mv m9; replace hr2 := hr2.mv m9
              refine J.run [.u, .u, .u, .u, .u, .u, .u, .n, .n, .n, .u, .u, .u, .u, .u, .u, .u, .u, .u, .u, .u] [1, 7, 9, 19, 20, 21, 100, 101, 104, 107, 110] ⟨[(1, .v (.int .i64 bits)), (7, .loc 0 0), (9, .v (.bool true)), (19, .v (.slice ka1 kn1 kc1)), (20, .v (.slice ja1 jn1 jc1)), (21, .v (.bool ok1)), (100, .v (.agg [.int .i64 bits].toArray)), (101, .v (.slice a2 ((fitF l).length) c2)), (104, .v (.int .i64 xb.t)), (107, .v (.slice la2 ln2 lc2)), (110, .v (.slice pa2 pn2 pc2))], [⟨28, [.bool btw, .int .i64 xa.t, .slice la1 ln1 lc1, .slice pa1 pn1 pc1, .int .i64 xb.t, .slice la2 ln2 lc2, .slice pa2 pn2 pc2]⟩, ⟨32, [.int .i64 bits]⟩, ⟨36, encT (descF bits 1 (fitF l)).1⟩, ⟨42, encE sc.1⟩]⟩ [.o 43 12, .c 44] [.o 45 11, .c 46] (by kernel_rfl) ?_
              refine J.call (d := some 111) (by kernel_rfl) (fun w1 A1 m1 l1 => clashOf_law bits a2 ((fitF l).length) c2 (((fitF l).map entB)) xb.t la2 ln2 lc2 xb.leaf pa2 pn2 pc2 xb.path (short_ents _) (by simp; omega) (by omega) A1 w1 m1.bdd (hr2.mv m1) (hbl.mv m1) (hbp.mv m1)) ?_
              rintro _ u10 w10 A10 ⟨ka2, kn2, kc2, ja2, jn2, jc2, xs2, ys2, ok2, rfl, hk2, hj2, hT2⟩ g9
              have m10 := g9.mv
              replace hs := hs.mv m10; replace hsa := hsa.mv m10; replace hpa := hpa.mv m10; replace hsb := hsb.mv m10; replace hpb := hpb.mv m10; replace hl1 := hl1.mv m10; replace hal := hal.mv m10; replace hap := hap.mv m10; replace hbl := hbl.mv m10; replace hbp := hbp.mv m10; replace hr2 := hr2.mv m10; replace hk1 := hk1.mv m10; replace hj1 := hj1.mv m10
              refine J.run [.u, .u, .u, .u, .u, .u, .u, .n, .n, .n, .u, .u, .w, .w, .w, .w] [1, 7, 22, 23, 24, 116, 117, 118, 119, 120] ⟨[(1, .v (.int .i64 bits)), (7, .loc 0 0), (22, .v (.slice ka2 kn2 kc2)), (23, .v (.slice ja2 jn2 jc2)), (24, .v (.bool ok2)), (116, .v (.bool true)), (117, .v (.int .i64 bits)), (118, .v (.slice ka1 kn1 kc1)), (119, .v (.slice ja1 jn1 jc1)), (120, .v (.bool ok1))], [⟨28, [.bool btw, .int .i64 xa.t, .slice la1 ln1 lc1, .slice pa1 pn1 pc1, .int .i64 xb.t, .slice la2 ln2 lc2, .slice pa2 pn2 pc2]⟩, ⟨32, [.int .i64 bits]⟩, ⟨36, encT (descF bits 1 (fitF l)).1⟩, ⟨42, encE sc.1⟩]⟩ [.o 45 12, .c 46] [.o 47 6, .c 48] (by kernel_rfl) ?_
              refine J.call (d := some 121) (by kernel_rfl) (fun w1 A1 m1 l1 => two_calls bits ka1 kn1 kc1 xs1 ja1 jn1 jc1 ys1 ok1 nobody w1 noA (hk1.mv m1).any (hj1.mv m1).any) ?_
              rintro _ u11 w11 A11 rfl g10
              have m11 := g10.mv
              replace hs := hs.mv m11; replace hsa := hsa.mv m11; replace hpa := hpa.mv m11; replace hsb := hsb.mv m11; replace hpb := hpb.mv m11; replace hl1 := hl1.mv m11; replace hal := hal.mv m11; replace hap := hap.mv m11; replace hbl := hbl.mv m11; replace hbp := hbp.mv m11; replace hr2 := hr2.mv m11; replace hk1 := hk1.mv m11; replace hj1 := hj1.mv m11; replace hk2 := hk2.mv m11; replace hj2 := hj2.mv m11
              refine J.run [.w] [1, 7, 22, 23, 24, 116, 122] ⟨[(1, .v (.int .i64 bits)), (7, .loc 0 0), (22, .v (.slice ka2 kn2 kc2)), (23, .v (.slice ja2 jn2 jc2)), (24, .v (.bool ok2)), (116, .v (.bool true)), (122, .v (.bool (twoF bits xs1 ys1 ok1)))], [⟨28, [.bool btw, .int .i64 xa.t, .slice la1 ln1 lc1, .slice pa1 pn1 pc1, .int .i64 xb.t, .slice la2 ln2 lc2, .slice pa2 pn2 pc2]⟩, ⟨32, [.int .i64 bits]⟩, ⟨36, encT (descF bits 1 (fitF l)).1⟩, ⟨42, encE sc.1⟩]⟩ [.o 47 7, .c 48] [.o 47 8, .c 48] (by kernel_rfl) ?_
              rcases Bool.eq_false_or_eq_true (twoF bits xs1 ys1 ok1) with hc | hc
              · rw [hc]
                try simp only [nrm] at hc
                have hc7 := hc
                refine J.rn [.x, .x, .x, .x, .x, .x, .x, .x, .x, .w, .u, .u, .n] [8] [.o 47 8, .c 48] [.c 48] (by kernel_rfl) ?_
                refine J.ret (v := .bool true) (by kernel_rfl) (by kernel_rfl) (fun w1 A1 m1 hac l1 => rfl)
              · rw [hc]
                try simp only [nrm] at hc
                have hc7 := hc
                refine J.run [.w, .w, .w] [1, 22, 23, 24, 116, 122, 125] ⟨[(1, .v (.int .i64 bits)), (22, .v (.slice ka2 kn2 kc2)), (23, .v (.slice ja2 jn2 jc2)), (24, .v (.bool ok2)), (116, .v (.bool true)), (122, .v (.bool false)), (125, .v (.bool btw))], [⟨28, [.bool btw, .int .i64 xa.t, .slice la1 ln1 lc1, .slice pa1 pn1 pc1, .int .i64 xb.t, .slice la2 ln2 lc2, .slice pa2 pn2 pc2]⟩, ⟨32, [.int .i64 bits]⟩, ⟨36, encT (descF bits 1 (fitF l)).1⟩, ⟨42, encE sc.1⟩]⟩ [.o 47 8, .c 48] [.o 47 11, .c 48] (by kernel_rfl) ?_
                rcases Bool.eq_false_or_eq_true btw with hc | hc
                · rw [hc]
                  try simp only [nrm] at hc
                  have hc8 := hc
                  refine J.run [.w, .w, .w, .w] [116, 122, 125, 126, 127, 128, 129] ⟨[(116, .v (.bool true)), (122, .v (.bool false)), (125, .v (.bool true)), (126, .v (.int .i64 bits)), (127, .v (.slice ka2 kn2 kc2)), (128, .v (.slice ja2 jn2 jc2)), (129, .v (.bool ok2))], [⟨28, [.bool true, .int .i64 xa.t, .slice la1 ln1 lc1, .slice pa1 pn1 pc1, .int .i64 xb.t, .slice la2 ln2 lc2, .slice pa2 pn2 pc2]⟩, ⟨32, [.int .i64 bits]⟩, ⟨36, encT (descF bits 1 (fitF l)).1⟩, ⟨42, encE sc.1⟩]⟩ [.o 47 11, .c 48] [.o 47 15, .c 48] (by kernel_rfl) ?_
                  refine J.call (d := some 130) (by kernel_rfl) (fun w1 A1 m1 l1 => two_calls bits ka2 kn2 kc2 xs2 ja2 jn2 jc2 ys2 ok2 nobody w1 noA (hk2.mv m1).any (hj2.mv m1).any) ?_
                  rintro _ u12 w12 A12 rfl g11
                  have m12 := g11.mv
                  replace hs := hs.mv m12; replace hsa := hsa.mv m12; replace hpa := hpa.mv m12; replace hsb := hsb.mv m12; replace hpb := hpb.mv m12; replace hl1 := hl1.mv m12; replace hal := hal.mv m12; replace hap := hap.mv m12; replace hbl := hbl.mv m12; replace hbp := hbp.mv m12; replace hr2 := hr2.mv m12; replace hk1 := hk1.mv m12; replace hj1 := hj1.mv m12; replace hk2 := hk2.mv m12; replace hj2 := hj2.mv m12
                  refine J.rn [.w, .w, .u, .u, .n] [8] [.o 47 16, .c 48] [.c 48] (by kernel_rfl) ?_
                  have hend := sound_end hf (btw := btw) (by rw [hsc]; exact hc2) hT1 hT2 (by rw [hsc]; rintro ⟨e1, e2⟩; exact (by obtain ⟨e, h3, h4⟩ := e2 (by rw [← e1]; simpa using hc4); rw [hx1] at h3; cases h3; have h5 := hc6; rw [h4, entEq_refl] at h5; cases h5))
                  refine J.ret (v := .bool (twoF bits xs2 ys2 ok2)) (by kernel_rfl) (by kernel_rfl) (fun w1 A1 m1 hac l1 => by congr 1; simpa [hc7, hc8] using hend)
                · rw [hc]
                  try simp only [nrm] at hc
                  have hc8 := hc
                  refine J.rn [.x, .x, .x, .x, .x, .w, .w, .u, .u, .n] [8] [.o 47 11, .c 48] [.c 48] (by kernel_rfl) ?_
                  have hend := sound_end hf (btw := btw) (by rw [hsc]; exact hc2) hT1 hT2 (by rw [hsc]; rintro ⟨e1, e2⟩; exact (by obtain ⟨e, h3, h4⟩ := e2 (by rw [← e1]; simpa using hc4); rw [hx1] at h3; cases h3; have h5 := hc6; rw [h4, entEq_refl] at h5; cases h5))
                  exfalso; simp [hc7, hc8] at hend
          · rw [hc]
            try simp only [nrm] at hc
            have hc5 := hc
            refine J.take0 [(12, .x), (13, .x), (14, .x), (15, .x), (16, .x), (17, .x), (18, .w), (19, .w), (20, .u)] [0, 1, 7, 9, 10, 79] [(0, .v (.slice a1 ((fitF l).length) c1)), (1, .v (.int .i64 bits)), (7, .loc 0 0), (9, .v (.bool true)), (10, .loc 1 0), (79, .v (.bool false))] [20, 19, 18, 17, 16, 15, 14, 13, 12, 11, 10, 9, 8, 7, 6, 5, 4, 3, 2, 1, 0] (calm_body _ _ _) (by intro k _ h; exact h) hr1 (by kernel_rfl) ?_
            refine J.pdone (by kernel_rfl) ?_
            refine J.cond (b := false) (k' := 39) (by kernel_rfl) (fun hc => absurd hc (by decide)) (fun _ => ?_)
            refine J.run [.n, .n, .n, .u] [1, 7, 9, 10, 81] ⟨[(1, .v (.int .i64 bits)), (7, .loc 0 0), (9, .v (.bool true)), (10, .loc 1 0), (81, .v (.slice a1 ((fitF l).length) c1))], [⟨28, [.bool btw, .int .i64 xa.t, .slice la1 ln1 lc1, .slice pa1 pn1 pc1, .int .i64 xb.t, .slice la2 ln2 lc2, .slice pa2 pn2 pc2]⟩, ⟨32, [.int .i64 bits]⟩, ⟨36, encT (descF bits 1 (fitF l)).1⟩, ⟨42, encE sc.1⟩]⟩ [.c 39, .c 40] [.o 41 1, .c 42] (by kernel_rfl) ?_
            refine J.call (d := some 82) (by kernel_rfl) (fun w1 A1 m1 l1 => leaves_calls a1 ((fitF l).length) c1 (fitF l) (by omega) nobody w1 noA (hl1.mv m1).any) ?_
            rintro _ u13 w13 A13 ⟨a3, c3, rfl, hrn2⟩ g12
            have m13 := g12.mv
            replace hs := hs.mv m13; replace hsa := hsa.mv m13; replace hpa := hpa.mv m13; replace hsb := hsb.mv m13; replace hpb := hpb.mv m13; replace hl1 := hl1.mv m13; replace hal := hal.mv m13; replace hap := hap.mv m13; replace hbl := hbl.mv m13; replace hbp := hbp.mv m13
            have hr3 : Rows A13 w13 a3 (fitF l).length c3 ((fitF l).map entB) := hrn2 A13 g12.bd
            refine J.run [.u, .n, .n, .n, .u, .u, .u, .u, .u, .u, .u, .u, .u, .u, .u] [1, 7, 9, 10, 18, 84, 85, 88, 91, 94] ⟨[(1, .v (.int .i64 bits)), (7, .loc 0 0), (9, .v (.bool true)), (10, .loc 1 0), (18, .v (.slice a3 ((fitF l).length) c3)), (84, .v (.agg [.int .i64 bits].toArray)), (85, .v (.slice a3 ((fitF l).length) c3)), (88, .v (.int .i64 xa.t)), (91, .v (.slice la1 ln1 lc1)), (94, .v (.slice pa1 pn1 pc1))], [⟨28, [.bool btw, .int .i64 xa.t, .slice la1 ln1 lc1, .slice pa1 pn1 pc1, .int .i64 xb.t, .slice la2 ln2 lc2, .slice pa2 pn2 pc2]⟩, ⟨32, [.int .i64 bits]⟩, ⟨36, encT (descF bits 1 (fitF l)).1⟩, ⟨42, encE sc.1⟩]⟩ [.o 41 2, .c 42] [.o 43 11, .c 44] (by kernel_rfl) ?_
            refine J.call (d := some 95) (by kernel_rfl) (fun w1 A1 m1 l1 => clashOf_law bits a3 ((fitF l).length) c3 (((fitF l).map entB)) xa.t la1 ln1 lc1 xa.leaf pa1 pn1 pc1 xa.path (short_ents _) (by simp; omega) (by omega) A1 w1 m1.bdd (hr3.mv m1) (hal.mv m1) (hap.mv m1)) ?_
            rintro _ u14 w14 A14 ⟨ka1, kn1, kc1, ja1, jn1, jc1, xs1, ys1, ok1, rfl, hk1, hj1, hT1⟩ g13
            have m14 := g13.mv
            replace hs := hs.mv m14; replace hsa := hsa.mv m14; replace hpa := hpa.mv m14; replace hsb := hsb.mv m14; replace hpb := hpb.mv m14; replace hl1 := hl1.mv m14; replace hal := hal.mv m14; replace hap := hap.mv m14; replace hbl := hbl.mv m14; replace hbp := hbp.mv m14; replace hr3 := hr3.mv m14
            refine J.run [.u, .u, .u, .u, .u, .u, .u, .n, .n, .n, .u, .u, .u, .u, .u, .u, .u, .u, .u, .u, .u] [1, 7, 9, 19, 20, 21, 100, 101, 104, 107, 110] ⟨[(1, .v (.int .i64 bits)), (7, .loc 0 0), (9, .v (.bool true)), (19, .v (.slice ka1 kn1 kc1)), (20, .v (.slice ja1 jn1 jc1)), (21, .v (.bool ok1)), (100, .v (.agg [.int .i64 bits].toArray)), (101, .v (.slice a3 ((fitF l).length) c3)), (104, .v (.int .i64 xb.t)), (107, .v (.slice la2 ln2 lc2)), (110, .v (.slice pa2 pn2 pc2))], [⟨28, [.bool btw, .int .i64 xa.t, .slice la1 ln1 lc1, .slice pa1 pn1 pc1, .int .i64 xb.t, .slice la2 ln2 lc2, .slice pa2 pn2 pc2]⟩, ⟨32, [.int .i64 bits]⟩, ⟨36, encT (descF bits 1 (fitF l)).1⟩, ⟨42, encE sc.1⟩]⟩ [.o 43 12, .c 44] [.o 45 11, .c 46] (by kernel_rfl) ?_
            refine J.call (d := some 111) (by kernel_rfl) (fun w1 A1 m1 l1 => clashOf_law bits a3 ((fitF l).length) c3 (((fitF l).map entB)) xb.t la2 ln2 lc2 xb.leaf pa2 pn2 pc2 xb.path (short_ents _) (by simp; omega) (by omega) A1 w1 m1.bdd (hr3.mv m1) (hbl.mv m1) (hbp.mv m1)) ?_
            rintro _ u15 w15 A15 ⟨ka2, kn2, kc2, ja2, jn2, jc2, xs2, ys2, ok2, rfl, hk2, hj2, hT2⟩ g14
            have m15 := g14.mv
            replace hs := hs.mv m15; replace hsa := hsa.mv m15; replace hpa := hpa.mv m15; replace hsb := hsb.mv m15; replace hpb := hpb.mv m15; replace hl1 := hl1.mv m15; replace hal := hal.mv m15; replace hap := hap.mv m15; replace hbl := hbl.mv m15; replace hbp := hbp.mv m15; replace hr3 := hr3.mv m15; replace hk1 := hk1.mv m15; replace hj1 := hj1.mv m15
            refine J.run [.u, .u, .u, .u, .u, .u, .u, .n, .n, .n, .u, .u, .w, .w, .w, .w] [1, 7, 22, 23, 24, 116, 117, 118, 119, 120] ⟨[(1, .v (.int .i64 bits)), (7, .loc 0 0), (22, .v (.slice ka2 kn2 kc2)), (23, .v (.slice ja2 jn2 jc2)), (24, .v (.bool ok2)), (116, .v (.bool true)), (117, .v (.int .i64 bits)), (118, .v (.slice ka1 kn1 kc1)), (119, .v (.slice ja1 jn1 jc1)), (120, .v (.bool ok1))], [⟨28, [.bool btw, .int .i64 xa.t, .slice la1 ln1 lc1, .slice pa1 pn1 pc1, .int .i64 xb.t, .slice la2 ln2 lc2, .slice pa2 pn2 pc2]⟩, ⟨32, [.int .i64 bits]⟩, ⟨36, encT (descF bits 1 (fitF l)).1⟩, ⟨42, encE sc.1⟩]⟩ [.o 45 12, .c 46] [.o 47 6, .c 48] (by kernel_rfl) ?_
            refine J.call (d := some 121) (by kernel_rfl) (fun w1 A1 m1 l1 => two_calls bits ka1 kn1 kc1 xs1 ja1 jn1 jc1 ys1 ok1 nobody w1 noA (hk1.mv m1).any (hj1.mv m1).any) ?_
            rintro _ u16 w16 A16 rfl g15
            have m16 := g15.mv
            replace hs := hs.mv m16; replace hsa := hsa.mv m16; replace hpa := hpa.mv m16; replace hsb := hsb.mv m16; replace hpb := hpb.mv m16; replace hl1 := hl1.mv m16; replace hal := hal.mv m16; replace hap := hap.mv m16; replace hbl := hbl.mv m16; replace hbp := hbp.mv m16; replace hr3 := hr3.mv m16; replace hk1 := hk1.mv m16; replace hj1 := hj1.mv m16; replace hk2 := hk2.mv m16; replace hj2 := hj2.mv m16
            refine J.run [.w] [1, 7, 22, 23, 24, 116, 122] ⟨[(1, .v (.int .i64 bits)), (7, .loc 0 0), (22, .v (.slice ka2 kn2 kc2)), (23, .v (.slice ja2 jn2 jc2)), (24, .v (.bool ok2)), (116, .v (.bool true)), (122, .v (.bool (twoF bits xs1 ys1 ok1)))], [⟨28, [.bool btw, .int .i64 xa.t, .slice la1 ln1 lc1, .slice pa1 pn1 pc1, .int .i64 xb.t, .slice la2 ln2 lc2, .slice pa2 pn2 pc2]⟩, ⟨32, [.int .i64 bits]⟩, ⟨36, encT (descF bits 1 (fitF l)).1⟩, ⟨42, encE sc.1⟩]⟩ [.o 47 7, .c 48] [.o 47 8, .c 48] (by kernel_rfl) ?_
            rcases Bool.eq_false_or_eq_true (twoF bits xs1 ys1 ok1) with hc | hc
            · rw [hc]
              try simp only [nrm] at hc
              have hc9 := hc
              refine J.rn [.x, .x, .x, .x, .x, .x, .x, .x, .x, .w, .u, .u, .n] [8] [.o 47 8, .c 48] [.c 48] (by kernel_rfl) ?_
              refine J.ret (v := .bool true) (by kernel_rfl) (by kernel_rfl) (fun w1 A1 m1 hac l1 => rfl)
            · rw [hc]
              try simp only [nrm] at hc
              have hc9 := hc
              refine J.run [.w, .w, .w] [1, 22, 23, 24, 116, 122, 125] ⟨[(1, .v (.int .i64 bits)), (22, .v (.slice ka2 kn2 kc2)), (23, .v (.slice ja2 jn2 jc2)), (24, .v (.bool ok2)), (116, .v (.bool true)), (122, .v (.bool false)), (125, .v (.bool btw))], [⟨28, [.bool btw, .int .i64 xa.t, .slice la1 ln1 lc1, .slice pa1 pn1 pc1, .int .i64 xb.t, .slice la2 ln2 lc2, .slice pa2 pn2 pc2]⟩, ⟨32, [.int .i64 bits]⟩, ⟨36, encT (descF bits 1 (fitF l)).1⟩, ⟨42, encE sc.1⟩]⟩ [.o 47 8, .c 48] [.o 47 11, .c 48] (by kernel_rfl) ?_
              rcases Bool.eq_false_or_eq_true btw with hc | hc
              · rw [hc]
                try simp only [nrm] at hc
                have hc10 := hc
                refine J.run [.w, .w, .w, .w] [116, 122, 125, 126, 127, 128, 129] ⟨[(116, .v (.bool true)), (122, .v (.bool false)), (125, .v (.bool true)), (126, .v (.int .i64 bits)), (127, .v (.slice ka2 kn2 kc2)), (128, .v (.slice ja2 jn2 jc2)), (129, .v (.bool ok2))], [⟨28, [.bool true, .int .i64 xa.t, .slice la1 ln1 lc1, .slice pa1 pn1 pc1, .int .i64 xb.t, .slice la2 ln2 lc2, .slice pa2 pn2 pc2]⟩, ⟨32, [.int .i64 bits]⟩, ⟨36, encT (descF bits 1 (fitF l)).1⟩, ⟨42, encE sc.1⟩]⟩ [.o 47 11, .c 48] [.o 47 15, .c 48] (by kernel_rfl) ?_
                refine J.call (d := some 130) (by kernel_rfl) (fun w1 A1 m1 l1 => two_calls bits ka2 kn2 kc2 xs2 ja2 jn2 jc2 ys2 ok2 nobody w1 noA (hk2.mv m1).any (hj2.mv m1).any) ?_
                rintro _ u17 w17 A17 rfl g16
                have m17 := g16.mv
                replace hs := hs.mv m17; replace hsa := hsa.mv m17; replace hpa := hpa.mv m17; replace hsb := hsb.mv m17; replace hpb := hpb.mv m17; replace hl1 := hl1.mv m17; replace hal := hal.mv m17; replace hap := hap.mv m17; replace hbl := hbl.mv m17; replace hbp := hbp.mv m17; replace hr3 := hr3.mv m17; replace hk1 := hk1.mv m17; replace hj1 := hj1.mv m17; replace hk2 := hk2.mv m17; replace hj2 := hj2.mv m17
                refine J.rn [.w, .w, .u, .u, .n] [8] [.o 47 16, .c 48] [.c 48] (by kernel_rfl) ?_
                have hend := sound_end hf (btw := btw) (by rw [hsc]; exact hc2) hT1 hT2 (by rw [hsc]; rintro ⟨e1, e2⟩; exact (by have hk : hasKey key (fitF l) = true := (by rw [← e1]; simpa using hc4); have := hasKey_cnt hk; omega))
                refine J.ret (v := .bool (twoF bits xs2 ys2 ok2)) (by kernel_rfl) (by kernel_rfl) (fun w1 A1 m1 hac l1 => by congr 1; simpa [hc9, hc10] using hend)
              · rw [hc]
                try simp only [nrm] at hc
                have hc10 := hc
                refine J.rn [.x, .x, .x, .x, .x, .w, .w, .u, .u, .n] [8] [.o 47 11, .c 48] [.c 48] (by kernel_rfl) ?_
                have hend := sound_end hf (btw := btw) (by rw [hsc]; exact hc2) hT1 hT2 (by rw [hsc]; rintro ⟨e1, e2⟩; exact (by have hk : hasKey key (fitF l) = true := (by rw [← e1]; simpa using hc4); have := hasKey_cnt hk; omega))
                exfalso; simp [hc9, hc10] at hend
      · rw [hc]
        try simp only [nrm] at hc
        have hc3 := hc
        refine J.take0 [(4, .x), (5, .x), (6, .x), (7, .x), (8, .x), (9, .x), (10, .x), (11, .x), (12, .x), (13, .x), (14, .x), (15, .x), (16, .x), (17, .x), (18, .x), (19, .x), (20, .u)] [0, 1, 7, 9, 10, 79] [(0, .v (.slice a1 ((fitF l).length) c1)), (1, .v (.int .i64 bits)), (7, .loc 0 0), (9, .v (.bool true)), (10, .loc 1 0), (79, .v (.bool false))] [20, 19, 18, 17, 16, 15, 14, 13, 12, 11, 10, 9, 8, 7, 6, 5, 4, 3, 2, 1, 0] (calm_body _ _ _) (by intro k _ h; exact h) hr1 (by kernel_rfl) ?_
        refine J.pdone (by kernel_rfl) ?_
        refine J.cond (b := false) (k' := 39) (by kernel_rfl) (fun hc => absurd hc (by decide)) (fun _ => ?_)
        refine J.run [.n, .n, .n, .u] [1, 7, 9, 10, 81] ⟨[(1, .v (.int .i64 bits)), (7, .loc 0 0), (9, .v (.bool true)), (10, .loc 1 0), (81, .v (.slice a1 ((fitF l).length) c1))], [⟨28, [.bool btw, .int .i64 xa.t, .slice la1 ln1 lc1, .slice pa1 pn1 pc1, .int .i64 xb.t, .slice la2 ln2 lc2, .slice pa2 pn2 pc2]⟩, ⟨32, [.int .i64 bits]⟩, ⟨36, encT (descF bits 1 (fitF l)).1⟩, ⟨42, encE sc.1⟩]⟩ [.c 39, .c 40] [.o 41 1, .c 42] (by kernel_rfl) ?_
        refine J.call (d := some 82) (by kernel_rfl) (fun w1 A1 m1 l1 => leaves_calls a1 ((fitF l).length) c1 (fitF l) (by omega) nobody w1 noA (hl1.mv m1).any) ?_
        rintro _ u18 w18 A18 ⟨a4, c4, rfl, hrn3⟩ g17
        have m18 := g17.mv
        replace hs := hs.mv m18; replace hsa := hsa.mv m18; replace hpa := hpa.mv m18; replace hsb := hsb.mv m18; replace hpb := hpb.mv m18; replace hl1 := hl1.mv m18; replace hal := hal.mv m18; replace hap := hap.mv m18; replace hbl := hbl.mv m18; replace hbp := hbp.mv m18
        have hr4 : Rows A18 w18 a4 (fitF l).length c4 ((fitF l).map entB) := hrn3 A18 g17.bd
        refine J.run [.u, .n, .n, .n, .u, .u, .u, .u, .u, .u, .u, .u, .u, .u, .u] [1, 7, 9, 10, 18, 84, 85, 88, 91, 94] ⟨[(1, .v (.int .i64 bits)), (7, .loc 0 0), (9, .v (.bool true)), (10, .loc 1 0), (18, .v (.slice a4 ((fitF l).length) c4)), (84, .v (.agg [.int .i64 bits].toArray)), (85, .v (.slice a4 ((fitF l).length) c4)), (88, .v (.int .i64 xa.t)), (91, .v (.slice la1 ln1 lc1)), (94, .v (.slice pa1 pn1 pc1))], [⟨28, [.bool btw, .int .i64 xa.t, .slice la1 ln1 lc1, .slice pa1 pn1 pc1, .int .i64 xb.t, .slice la2 ln2 lc2, .slice pa2 pn2 pc2]⟩, ⟨32, [.int .i64 bits]⟩, ⟨36, encT (descF bits 1 (fitF l)).1⟩, ⟨42, encE sc.1⟩]⟩ [.o 41 2, .c 42] [.o 43 11, .c 44] (by kernel_rfl) ?_
        refine J.call (d := some 95) (by kernel_rfl) (fun w1 A1 m1 l1 => clashOf_law bits a4 ((fitF l).length) c4 (((fitF l).map entB)) xa.t la1 ln1 lc1 xa.leaf pa1 pn1 pc1 xa.path (short_ents _) (by simp; omega) (by omega) A1 w1 m1.bdd (hr4.mv m1) (hal.mv m1) (hap.mv m1)) ?_
        rintro _ u19 w19 A19 ⟨ka1, kn1, kc1, ja1, jn1, jc1, xs1, ys1, ok1, rfl, hk1, hj1, hT1⟩ g18
        have m19 := g18.mv
        replace hs := hs.mv m19; replace hsa := hsa.mv m19; replace hpa := hpa.mv m19; replace hsb := hsb.mv m19; replace hpb := hpb.mv m19; replace hl1 := hl1.mv m19; replace hal := hal.mv m19; replace hap := hap.mv m19; replace hbl := hbl.mv m19; replace hbp := hbp.mv m19; replace hr4 := hr4.mv m19
        refine J.run [.u, .u, .u, .u, .u, .u, .u, .n, .n, .n, .u, .u, .u, .u, .u, .u, .u, .u, .u, .u, .u] [1, 7, 9, 19, 20, 21, 100, 101, 104, 107, 110] ⟨[(1, .v (.int .i64 bits)), (7, .loc 0 0), (9, .v (.bool true)), (19, .v (.slice ka1 kn1 kc1)), (20, .v (.slice ja1 jn1 jc1)), (21, .v (.bool ok1)), (100, .v (.agg [.int .i64 bits].toArray)), (101, .v (.slice a4 ((fitF l).length) c4)), (104, .v (.int .i64 xb.t)), (107, .v (.slice la2 ln2 lc2)), (110, .v (.slice pa2 pn2 pc2))], [⟨28, [.bool btw, .int .i64 xa.t, .slice la1 ln1 lc1, .slice pa1 pn1 pc1, .int .i64 xb.t, .slice la2 ln2 lc2, .slice pa2 pn2 pc2]⟩, ⟨32, [.int .i64 bits]⟩, ⟨36, encT (descF bits 1 (fitF l)).1⟩, ⟨42, encE sc.1⟩]⟩ [.o 43 12, .c 44] [.o 45 11, .c 46] (by kernel_rfl) ?_
        refine J.call (d := some 111) (by kernel_rfl) (fun w1 A1 m1 l1 => clashOf_law bits a4 ((fitF l).length) c4 (((fitF l).map entB)) xb.t la2 ln2 lc2 xb.leaf pa2 pn2 pc2 xb.path (short_ents _) (by simp; omega) (by omega) A1 w1 m1.bdd (hr4.mv m1) (hbl.mv m1) (hbp.mv m1)) ?_
        rintro _ u20 w20 A20 ⟨ka2, kn2, kc2, ja2, jn2, jc2, xs2, ys2, ok2, rfl, hk2, hj2, hT2⟩ g19
        have m20 := g19.mv
        replace hs := hs.mv m20; replace hsa := hsa.mv m20; replace hpa := hpa.mv m20; replace hsb := hsb.mv m20; replace hpb := hpb.mv m20; replace hl1 := hl1.mv m20; replace hal := hal.mv m20; replace hap := hap.mv m20; replace hbl := hbl.mv m20; replace hbp := hbp.mv m20; replace hr4 := hr4.mv m20; replace hk1 := hk1.mv m20; replace hj1 := hj1.mv m20
        refine J.run [.u, .u, .u, .u, .u, .u, .u, .n, .n, .n, .u, .u, .w, .w, .w, .w] [1, 7, 22, 23, 24, 116, 117, 118, 119, 120] ⟨[(1, .v (.int .i64 bits)), (7, .loc 0 0), (22, .v (.slice ka2 kn2 kc2)), (23, .v (.slice ja2 jn2 jc2)), (24, .v (.bool ok2)), (116, .v (.bool true)), (117, .v (.int .i64 bits)), (118, .v (.slice ka1 kn1 kc1)), (119, .v (.slice ja1 jn1 jc1)), (120, .v (.bool ok1))], [⟨28, [.bool btw, .int .i64 xa.t, .slice la1 ln1 lc1, .slice pa1 pn1 pc1, .int .i64 xb.t, .slice la2 ln2 lc2, .slice pa2 pn2 pc2]⟩, ⟨32, [.int .i64 bits]⟩, ⟨36, encT (descF bits 1 (fitF l)).1⟩, ⟨42, encE sc.1⟩]⟩ [.o 45 12, .c 46] [.o 47 6, .c 48] (by kernel_rfl) ?_
        refine J.call (d := some 121) (by kernel_rfl) (fun w1 A1 m1 l1 => two_calls bits ka1 kn1 kc1 xs1 ja1 jn1 jc1 ys1 ok1 nobody w1 noA (hk1.mv m1).any (hj1.mv m1).any) ?_
        rintro _ u21 w21 A21 rfl g20
        have m21 := g20.mv
        replace hs := hs.mv m21; replace hsa := hsa.mv m21; replace hpa := hpa.mv m21; replace hsb := hsb.mv m21; replace hpb := hpb.mv m21; replace hl1 := hl1.mv m21; replace hal := hal.mv m21; replace hap := hap.mv m21; replace hbl := hbl.mv m21; replace hbp := hbp.mv m21; replace hr4 := hr4.mv m21; replace hk1 := hk1.mv m21; replace hj1 := hj1.mv m21; replace hk2 := hk2.mv m21; replace hj2 := hj2.mv m21
        refine J.run [.w] [1, 7, 22, 23, 24, 116, 122] ⟨[(1, .v (.int .i64 bits)), (7, .loc 0 0), (22, .v (.slice ka2 kn2 kc2)), (23, .v (.slice ja2 jn2 jc2)), (24, .v (.bool ok2)), (116, .v (.bool true)), (122, .v (.bool (twoF bits xs1 ys1 ok1)))], [⟨28, [.bool btw, .int .i64 xa.t, .slice la1 ln1 lc1, .slice pa1 pn1 pc1, .int .i64 xb.t, .slice la2 ln2 lc2, .slice pa2 pn2 pc2]⟩, ⟨32, [.int .i64 bits]⟩, ⟨36, encT (descF bits 1 (fitF l)).1⟩, ⟨42, encE sc.1⟩]⟩ [.o 47 7, .c 48] [.o 47 8, .c 48] (by kernel_rfl) ?_
        rcases Bool.eq_false_or_eq_true (twoF bits xs1 ys1 ok1) with hc | hc
        · rw [hc]
          try simp only [nrm] at hc
          have hc11 := hc
          refine J.rn [.x, .x, .x, .x, .x, .x, .x, .x, .x, .w, .u, .u, .n] [8] [.o 47 8, .c 48] [.c 48] (by kernel_rfl) ?_
          refine J.ret (v := .bool true) (by kernel_rfl) (by kernel_rfl) (fun w1 A1 m1 hac l1 => rfl)
        · rw [hc]
          try simp only [nrm] at hc
          have hc11 := hc
          refine J.run [.w, .w, .w] [1, 22, 23, 24, 116, 122, 125] ⟨[(1, .v (.int .i64 bits)), (22, .v (.slice ka2 kn2 kc2)), (23, .v (.slice ja2 jn2 jc2)), (24, .v (.bool ok2)), (116, .v (.bool true)), (122, .v (.bool false)), (125, .v (.bool btw))], [⟨28, [.bool btw, .int .i64 xa.t, .slice la1 ln1 lc1, .slice pa1 pn1 pc1, .int .i64 xb.t, .slice la2 ln2 lc2, .slice pa2 pn2 pc2]⟩, ⟨32, [.int .i64 bits]⟩, ⟨36, encT (descF bits 1 (fitF l)).1⟩, ⟨42, encE sc.1⟩]⟩ [.o 47 8, .c 48] [.o 47 11, .c 48] (by kernel_rfl) ?_
          rcases Bool.eq_false_or_eq_true btw with hc | hc
          · rw [hc]
            try simp only [nrm] at hc
            have hc12 := hc
            refine J.run [.w, .w, .w, .w] [116, 122, 125, 126, 127, 128, 129] ⟨[(116, .v (.bool true)), (122, .v (.bool false)), (125, .v (.bool true)), (126, .v (.int .i64 bits)), (127, .v (.slice ka2 kn2 kc2)), (128, .v (.slice ja2 jn2 jc2)), (129, .v (.bool ok2))], [⟨28, [.bool true, .int .i64 xa.t, .slice la1 ln1 lc1, .slice pa1 pn1 pc1, .int .i64 xb.t, .slice la2 ln2 lc2, .slice pa2 pn2 pc2]⟩, ⟨32, [.int .i64 bits]⟩, ⟨36, encT (descF bits 1 (fitF l)).1⟩, ⟨42, encE sc.1⟩]⟩ [.o 47 11, .c 48] [.o 47 15, .c 48] (by kernel_rfl) ?_
            refine J.call (d := some 130) (by kernel_rfl) (fun w1 A1 m1 l1 => two_calls bits ka2 kn2 kc2 xs2 ja2 jn2 jc2 ys2 ok2 nobody w1 noA (hk2.mv m1).any (hj2.mv m1).any) ?_
            rintro _ u22 w22 A22 rfl g21
            have m22 := g21.mv
            replace hs := hs.mv m22; replace hsa := hsa.mv m22; replace hpa := hpa.mv m22; replace hsb := hsb.mv m22; replace hpb := hpb.mv m22; replace hl1 := hl1.mv m22; replace hal := hal.mv m22; replace hap := hap.mv m22; replace hbl := hbl.mv m22; replace hbp := hbp.mv m22; replace hr4 := hr4.mv m22; replace hk1 := hk1.mv m22; replace hj1 := hj1.mv m22; replace hk2 := hk2.mv m22; replace hj2 := hj2.mv m22
            refine J.rn [.w, .w, .u, .u, .n] [8] [.o 47 16, .c 48] [.c 48] (by kernel_rfl) ?_
            have hend := sound_end hf (btw := btw) (by rw [hsc]; exact hc2) hT1 hT2 (by rw [hsc]; rintro ⟨e1, e2⟩; exact absurd e1 (by simpa using hc3))
            refine J.ret (v := .bool (twoF bits xs2 ys2 ok2)) (by kernel_rfl) (by kernel_rfl) (fun w1 A1 m1 hac l1 => by congr 1; simpa [hc11, hc12] using hend)
          · rw [hc]
            try simp only [nrm] at hc
            have hc12 := hc
            refine J.rn [.x, .x, .x, .x, .x, .w, .w, .u, .u, .n] [8] [.o 47 11, .c 48] [.c 48] (by kernel_rfl) ?_
            have hend := sound_end hf (btw := btw) (by rw [hsc]; exact hc2) hT1 hT2 (by rw [hsc]; rintro ⟨e1, e2⟩; exact absurd e1 (by simpa using hc3))
            exfalso; simp [hc11, hc12] at hend
end Go.Proofs.Ytkgokehkobifkaa.J

/- The arguments of a law, as they come in. -/
namespace Go.Proofs.Ytkgokehkobifkaa.J
open Go Go.RowKit

section
variable {H : Type} {enc : TypeId × Value → H} {P : Program} {w : World} {base : Nat} {spare : Nat → Bool} {held : Bool}

/-- Whatever reads at type t is the cells of one of these. -/
def Reads1 {α : Type} (enc : TypeId × Value → H) (P : Program) (w : World) (base : Nat) (spare : Nat → Bool) (held : Bool) (t : TypeId) (F : α → List Value → Prop) : Prop :=
  ∀ (fuel : Nat) (cs : List Value) (x : DataW H × List MemPlace), DataW.trod enc P w base spare held fuel t cs = some x → ∃ y : α, F y cs

theorem mapM_fld {β : Type} (g : TypeId → Nat → Option β) : ∀ (fs : List Field), (fs.mapM fun f => g f.type f.offset) = (fs.map fldS).mapM fun s => g s.2.1 s.2.2
  | [] => rfl
  | f :: r => by rw [List.map_cons, List.mapM_cons, List.mapM_cons, mapM_fld g r]; rfl

theorem rd_u8 {t : TypeId} (ht : P.underlying t = some (.int .u8)) : Reads1 enc P w base spare held t fun y cs => cs = u8 y := by
  intro fuel cs x h
  obtain ⟨n, rfl, _, hw⟩ := DataW.trod_int ht h
  have hb : 0 ≤ n ∧ n < 256 := by
    have h1 : IntKind.u8.min ≤ n ∧ n ≤ IntKind.u8.max := by simpa [Lit.wf] using hw
    have h2 : IntKind.u8.min = 0 := by decide
    have h3 : IntKind.u8.max = 255 := by decide
    omega
  refine ⟨UInt8.ofNat n.toNat, ?_⟩
  show [Value.int .u8 n] = [Value.int .u8 ((UInt8.ofNat n.toNat).toNat : Nat)]
  have : (UInt8.ofNat n.toNat).toNat = n.toNat := by rw [u8_nat]; omega
  rw [this]
  congr 2; omega

theorem rd_slice {α : Type} {t e : TypeId} {k : Nat} {enc' : α → List Value} (ht : P.underlying t = some (.slice e)) (hk : P.cellsOf e = k) (hkp : 0 < k) (he : Reads1 enc P w base spare held e fun y cs => cs = enc' y) {fuel : Nat} {cs : List Value} {x : DataW H × List MemPlace}
    (h : DataW.trod enc P w base spare held fuel t cs = some x) : ∃ a n c l, cs = [.slice a n c] ∧ Sl k enc' nobody w a n c l := by
  rcases Go.Deep.open_slice ht h with ⟨rfl, _⟩ | ⟨a, len, cap, m, n, D, Pl, rfl, hb, hl, hm, hmm, _, hx⟩
  · exact ⟨none, 0, 0, [], rfl, Sl.nil none (by decide)⟩
  · have hle : len ≤ m := by rw [hmm]; split <;> omega
    have hel : ∀ i, i < len → ∃ y : α, (enc' y).length = k ∧ ∀ j, j < k → w.cell? (a.add (i * k + j)) = (enc' y)[j]? := by
      intro i hi
      obtain ⟨cs', h1, h2⟩ := hx i (by omega)
      obtain ⟨y, rfl⟩ := he n cs' (D i, Pl i) h2
      obtain ⟨_, h3, h4⟩ := World.cells?_some h1
      rw [hk] at h3 h4
      refine ⟨y, h3, fun j hj => ?_⟩
      rw [← h4 j hj, Go.Deep.add_add]
    rcases Nat.eq_zero_or_pos len with h0 | h0
    · subst h0
      exact ⟨some a, 0, cap, [], rfl, Sl.nil (some a) hm⟩
    · obtain ⟨y0, hy0, hc0⟩ := hel 0 h0
      have hspot : a.spot = none := by
        have hv : w.cell? a = some ((enc' y0)[0]'(by omega)) := by
          have := hc0 0 hkp
          rw [List.getElem?_eq_getElem (by omega)] at this
          simpa [Addr.add] using this
        exact World.cell?_spot hv
      obtain ⟨b, off, sp⟩ := a
      simp only at hspot
      subst hspot
      have key : ∀ m, m ≤ len → ∃ l : List α, l.length = m ∧ ∀ i y, l[i]? = some y → (enc' y).length = k ∧ ∀ j, j < k → w.cell? ((⟨b, off, none⟩ : Addr).add (i * k + j)) = (enc' y)[j]? := by
        intro m
        induction m with
        | zero => exact fun _ => ⟨[], rfl, fun i y h => by simp at h⟩
        | succ m ih =>
          intro hm'
          obtain ⟨l, hl', hll⟩ := ih (by omega)
          obtain ⟨y, hy1, hy2⟩ := hel m (by omega)
          refine ⟨l ++ [y], by simp [hl'], fun i z hz => ?_⟩
          rcases Nat.lt_or_ge i l.length with hi | hi
          · rw [List.getElem?_append_left hi] at hz; exact hll i z hz
          · rw [List.getElem?_append_right hi] at hz
            have hi0 : i - l.length = 0 := by
              have := (List.getElem?_eq_some_iff.1 hz).1
              simp at this; omega
            rw [hi0] at hz
            simp at hz; subst hz
            have : i = m := by omega
            subst this
            exact ⟨hy1, hy2⟩
      obtain ⟨l, hl', hll⟩ := key len (Nat.le_refl _)
      refine ⟨_, len, cap, l, rfl, ⟨hl'.symm, hl, hm, fun hne => ?_⟩⟩
      have hcell0 := (hll 0 l[0] (List.getElem?_eq_getElem (by omega))).2 0 hkp
      have hbl : b < w.heap.size := by
        have hlen0 := (hll 0 l[0] (List.getElem?_eq_getElem (by omega))).1
        rw [List.getElem?_eq_getElem (by omega)] at hcell0
        rcases Nat.lt_or_ge b w.heap.size with h | h
        · exact h
        · have h2 : ((⟨b, off, none⟩ : Addr).add (0 * k + 0)).block = b := by simp [Addr.add]
          unfold World.cell? at hcell0
          rw [h2, Array.getElem?_eq_none h] at hcell0
          simp at hcell0
      refine ⟨b, off, rfl, fun h => h, hbl, fun i y hy j v hv => ?_⟩
      obtain ⟨h1, h2⟩ := hll i y hy
      have hj : j < k := by
        have := (List.getElem?_eq_some_iff.1 hv).1; omega
      have := h2 j hj
      rw [hv, Addr.add_lit, ← Nat.add_assoc] at this
      exact this
end

section
variable {H : Type} {enc : TypeId × Value → H} {w : World} {base : Nat} {spare : Nat → Bool} {held : Bool}

theorem fld_at {fs : Array Field} {sp : List (Bool × TypeId × Nat)} (hf : fs.toList.map fldS = sp) {i : Nat} {s : Bool × TypeId × Nat} (hi : sp[i]? = some s) : ∃ f, fs[i]? = some f ∧ f.type = s.2.1 ∧ f.offset = s.2.2 := by
  subst hf
  rw [List.getElem?_map, Array.getElem?_toList] at hi
  cases h : fs[i]? with
  | none => rw [h] at hi; cases hi
  | some f => rw [h] at hi; cases hi; exact ⟨f, rfl, rfl, rfl⟩

/-- One field of a struct, read. -/
theorem rd_fld {fs : Array Field} {sp : List (Bool × TypeId × Nat)} (hf : fs.toList.map fldS = sp) {n : Nat} {cs : List Value} {xs : List (DataW H × List MemPlace)} (hxl : xs.length = fs.size)
    (hx : ∀ (i : Nat) (f : Field), fs[i]? = some f → DataW.trod enc Pr w base spare held n f.type ((cs.drop f.offset).take (Pr.cellsOf f.type)) = xs[i]?) {i : Nat} {b : Bool} {t : TypeId} {off k : Nat} (hi : sp[i]? = some (b, t, off)) (hk : Pr.cellsOf t = k) :
    ∃ y, DataW.trod enc Pr w base spare held n t ((cs.drop off).take k) = some y := by
  obtain ⟨f, hfi, h1, h2⟩ := fld_at hf hi
  have h := hx i f hfi
  simp only at h1 h2
  rw [h1, h2, hk] at h
  have hlt : i < xs.length := by rw [hxl]; exact (Array.getElem?_eq_some_iff.1 hfi).1
  rw [List.getElem?_eq_getElem hlt] at h
  exact ⟨_, h⟩

theorem list4 {α : Type} {l : List α} (h : l.length = 4) : ∃ a b c d, l = [a, b, c, d] := by
  match l, h with
  | [a, b, c, d], _ => exact ⟨a, b, c, d, rfl⟩
theorem rd_ent : Reads1 enc Pr w base spare held 42 fun y cs => cs = encE y := by
  intro fuel cs x h
  obtain ⟨xs, n, rfl, _, hlen, hxl, hx⟩ := DataW.trod_struct (fs := Pr.fieldsOf 42) (by kernel_rfl) h
  have h4 : Pr.cellsOf 42 = 4 := by kernel_rfl
  rw [h4] at hlen
  have hf : (Pr.fieldsOf 42).toList.map fldS = [(false, 9, 0), (false, 9, 1), (false, 4, 2), (false, 3, 3)] := by kernel_rfl
  obtain ⟨c0, c1, c2, c3, rfl⟩ := list4 hlen
  obtain ⟨y0, g0⟩ := rd_fld hf hxl hx (i := 0) rfl (k := 1) (by kernel_rfl)
  obtain ⟨y1, g1⟩ := rd_fld hf hxl hx (i := 1) rfl (k := 1) (by kernel_rfl)
  obtain ⟨y2, g2⟩ := rd_fld hf hxl hx (i := 2) rfl (k := 1) (by kernel_rfl)
  obtain ⟨y3, g3⟩ := rd_fld hf hxl hx (i := 3) rfl (k := 1) (by kernel_rfl)
  obtain ⟨s0, e0, _⟩ := DataW.trod_string (by kernel_rfl) g0
  obtain ⟨s1, e1, _⟩ := DataW.trod_string (by kernel_rfl) g1
  obtain ⟨b2, e2, _⟩ := DataW.trod_bool (by kernel_rfl) g2
  obtain ⟨n3, e3, _⟩ := DataW.trod_int (k := .i64) (by kernel_rfl) g3
  simp only [List.drop_zero, List.drop_succ_cons, List.take_succ_cons, List.take_zero, List.cons.injEq, and_true] at e0 e1 e2 e3
  subst e0; subst e1; subst e2; subst e3
  exact ⟨⟨s0, s1, b2, n3⟩, rfl⟩

theorem rd_ents {fuel : Nat} {cs : List Value} {x : DataW H × List MemPlace} (h : DataW.trod enc Pr w base spare held fuel 22 cs = some x) : ∃ a n c l, cs = [.slice a n c] ∧ Sl 4 encE nobody w a n c l :=
  rd_slice (by kernel_rfl) (by kernel_rfl) (by decide) rd_ent h
end
end Go.Proofs.Ytkgokehkobifkaa.J

/- The arguments of a law, as they come in: digests, openings, points, spans. -/
namespace Go.Proofs.Ytkgokehkobifkaa.J
open Go Go.RowKit

section
variable {H : Type} {enc : TypeId × Value → H} {w : World} {base : Nat} {spare : Nat → Bool} {held : Bool}

theorem dcells_range (d : Dg) : dcells d = (List.range 32).map fun i => Value.int .u8 (((d (Fin.ofNat 32 i)).toNat : Nat) : Int) := by kernel_rfl

theorem rd_dig : Reads1 enc Pr w base spare held 34 fun y cs => cs = dcells y := by
  intro fuel cs x h
  obtain ⟨xs, n, hn, rfl, hlen, hxl, hx⟩ := DataW.trod_array (n := 32) (e := 5) (by kernel_rfl) h
  have h1 : Pr.cellsOf 5 = 1 := by kernel_rfl
  have h32 : Pr.cellsOf 34 = 32 := by kernel_rfl
  rw [h32] at hlen
  have hel : ∀ i, i < 32 → ∃ y : UInt8, cs[i]? = some (.int .u8 ((y.toNat : Nat) : Int)) := by
    intro i hi
    have g := hx i hi
    rw [h1, Nat.mul_one, List.getElem?_eq_getElem (by omega)] at g
    obtain ⟨y, hy⟩ := rd_u8 (by kernel_rfl) _ _ _ g
    refine ⟨y, ?_⟩
    have h2 := congrArg (fun l => l[0]?) hy
    simp only [List.getElem?_take, List.getElem?_drop] at h2
    simpa [u8] using h2
  refine ⟨fun i => Classical.choose (hel i i.2), ?_⟩
  show cs = dcells _
  rw [dcells_range]
  apply List.ext_getElem?
  intro i
  rw [List.getElem?_map]
  rcases Nat.lt_or_ge i 32 with hi | hi
  · rw [List.getElem?_range hi]
    have e : Fin.ofNat 32 i = ⟨i, hi⟩ := by apply Fin.ext; simp [Fin.ofNat, Nat.mod_eq_of_lt hi]
    rw [Option.map_some, e]
    exact Classical.choose_spec (hel i hi)
  · rw [List.getElem?_eq_none (by omega), List.getElem?_eq_none (by simp; omega)]; rfl

theorem list3 {α : Type} {l : List α} (h : l.length = 3) : ∃ a b c, l = [a, b, c] := by
  match l, h with
  | [a, b, c], _ => exact ⟨a, b, c, rfl⟩
theorem rd_bytes {fuel : Nat} {cs : List Value} {x : DataW H × List MemPlace} (h : DataW.trod enc Pr w base spare held fuel 23 cs = some x) : ∃ a n c l, cs = [.slice a n c] ∧ Sl 1 u8 nobody w a n c l :=
  rd_slice (e := 5) (by kernel_rfl) (by kernel_rfl) (by decide) (rd_u8 (by kernel_rfl)) h
theorem rd_digs {fuel : Nat} {cs : List Value} {x : DataW H × List MemPlace} (h : DataW.trod enc Pr w base spare held fuel 24 cs = some x) : ∃ a n c l, cs = [.slice a n c] ∧ Sl 32 dcells nobody w a n c l :=
  rd_slice (by kernel_rfl) (by kernel_rfl) (by decide) rd_dig h
/-- An opening's cells. -/
def OpnC (w : World) (cs : List Value) (o : Opn) (la : Option Addr) (ln lc : Nat) (pa : Option Addr) (pn pc : Nat) : Prop := cs = [.int .i64 o.t, .slice la ln lc, .slice pa pn pc] ∧ Sl 1 u8 nobody w la ln lc o.leaf ∧ Sl 32 dcells nobody w pa pn pc o.path
theorem rd_opn {fuel : Nat} {cs : List Value} {x : DataW H × List MemPlace} (h : DataW.trod enc Pr w base spare held fuel 26 cs = some x) : ∃ o la ln lc pa pn pc, OpnC w cs o la ln lc pa pn pc := by
  obtain ⟨xs, n, rfl, _, hlen, hxl, hx⟩ := DataW.trod_struct (fs := Pr.fieldsOf 26) (by kernel_rfl) h
  have h3 : Pr.cellsOf 26 = 3 := by kernel_rfl
  rw [h3] at hlen
  have hf : (Pr.fieldsOf 26).toList.map fldS = [(false, 3, 0), (false, 23, 1), (false, 24, 2)] := by kernel_rfl
  obtain ⟨c0, c1, c2, rfl⟩ := list3 hlen
  obtain ⟨y0, g0⟩ := rd_fld hf hxl hx (i := 0) rfl (k := 1) (by kernel_rfl)
  obtain ⟨y1, g1⟩ := rd_fld hf hxl hx (i := 1) rfl (k := 1) (by kernel_rfl)
  obtain ⟨y2, g2⟩ := rd_fld hf hxl hx (i := 2) rfl (k := 1) (by kernel_rfl)
  obtain ⟨n0, e0, _⟩ := DataW.trod_int (k := .i64) (by kernel_rfl) g0
  obtain ⟨la, ln, lc, l, e1, s1⟩ := rd_bytes g1
  obtain ⟨pa, pn, pc, p, e2, s2⟩ := rd_digs g2
  simp only [List.drop_zero, List.drop_succ_cons, List.take_succ_cons, List.take_zero, List.cons.injEq, and_true] at e0 e1 e2
  subst e0; subst e1; subst e2
  exact ⟨⟨n0, l, p⟩, la, ln, lc, pa, pn, pc, rfl, s1, s2⟩
theorem list7 {α : Type} {l : List α} (h : l.length = 7) : ∃ a b c d e f g, l = [a, b, c, d, e, f, g] := by
  match l, h with
  | [a, b, c, d, e, f, g], _ => exact ⟨a, b, c, d, e, f, g, rfl⟩
theorem rd_point {fuel : Nat} {cs : List Value} {x : DataW H × List MemPlace} (h : DataW.trod enc Pr w base spare held fuel 28 cs = some x) :
    ∃ (b : Bool) (oa ob : Opn) (la : Option Addr) (ln lc : Nat) (pa : Option Addr) (pn pc : Nat) (la' : Option Addr) (ln' lc' : Nat) (pa' : Option Addr) (pn' pc' : Nat), cs = [.bool b, .int .i64 oa.t, .slice la ln lc, .slice pa pn pc, .int .i64 ob.t, .slice la' ln' lc', .slice pa' pn' pc'] ∧ Sl 1 u8 nobody w la ln lc oa.leaf ∧ Sl 32 dcells nobody w pa pn pc oa.path ∧ Sl 1 u8 nobody w la' ln' lc' ob.leaf ∧ Sl 32 dcells nobody w pa' pn' pc' ob.path := by
  obtain ⟨xs, n, rfl, _, hlen, hxl, hx⟩ := DataW.trod_struct (fs := Pr.fieldsOf 28) (by kernel_rfl) h
  have h7 : Pr.cellsOf 28 = 7 := by kernel_rfl
  rw [h7] at hlen
  have hf : (Pr.fieldsOf 28).toList.map fldS = [(false, 4, 0), (false, 26, 1), (false, 26, 4)] := by kernel_rfl
  obtain ⟨c0, c1, c2, c3, c4, c5, c6, rfl⟩ := list7 hlen
  obtain ⟨y0, g0⟩ := rd_fld hf hxl hx (i := 0) rfl (k := 1) (by kernel_rfl)
  obtain ⟨y1, g1⟩ := rd_fld hf hxl hx (i := 1) rfl (k := 3) (by kernel_rfl)
  obtain ⟨y2, g2⟩ := rd_fld hf hxl hx (i := 2) rfl (k := 3) (by kernel_rfl)
  obtain ⟨b0, e0, _⟩ := DataW.trod_bool (by kernel_rfl) g0
  obtain ⟨oa, la, ln, lc, pa, pn, pc, e1, s1, s2⟩ := rd_opn g1
  obtain ⟨ob, la', ln', lc', pa', pn', pc', e2, s3, s4⟩ := rd_opn g2
  simp only [List.drop_zero, List.drop_succ_cons, List.take_succ_cons, List.take_zero, List.cons.injEq, and_true] at e0 e1 e2
  obtain ⟨rfl, rfl, rfl⟩ := e1
  obtain ⟨rfl, rfl, rfl⟩ := e2
  subst e0
  exact ⟨b0, oa, ob, la, ln, lc, pa, pn, pc, la', ln', lc', pa', pn', pc', rfl, s1, s2, s3, s4⟩
end
end Go.Proofs.Ytkgokehkobifkaa.J
