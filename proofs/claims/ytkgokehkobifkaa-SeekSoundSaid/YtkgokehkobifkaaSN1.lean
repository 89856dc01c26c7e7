/- Part 1 of the texts that the proof of the row stands on: the calculus, contracts of the functions, plain laws; no condition of its own. -/
import Derived.Test.YtkgokehkobifkaaSN0
import Derived.Laws.MakeOwn
set_option linter.unusedVariables false
set_option linter.unusedSimpArgs false
/- The order of strings. -/
namespace Go.Proofs.Ytkgokehkobifkaa.J
open Go Go.RowKit

theorem noA {n : Nat} : ∀ k, nobody k → k < n := fun _ h => h.elim
theorem Sl.any {α : Type} {k : Nat} {enc : α → List Value} {A : Nat → Prop} {w : World} {a : Option Addr} {n c : Nat} {l : List α} (h : Sl k enc A w a n c l) : Sl k enc nobody w a n c l := h.weaken fun _ h => h.elim
theorem Nw.any {α : Type} {N : Nat} {e : TypeId} {k : Nat} {ρ : List Nat} {A : Nat → Prop} {w : World} {a : Option Addr} {n c : Nat} {enc : α → List Value} {l : List α} (h : Nw N e k ρ A w a n c (l.flatMap enc)) (hk : ∀ x ∈ l, (enc x).length = k) (hkp : 0 < k) :
    Sl k enc nobody w a n c l := h.sl hk hkp fun _ h => h.elim

theorem Sl.one {α : Type} {k : Nat} {enc : α → List Value} {A : Nat → Prop} {w : World} {a : Option Addr} {n c : Nat} {l : List α} (h : Sl k enc A w a n c l) {b : Nat} (hb : A b) : Sl k enc (fun k => k = b) w a n c l := h.weaken fun _ e => e ▸ hb
theorem oneA {b n : Nat} (h : b < n) : ∀ k, k = b → k < n := fun _ e => e ▸ h
theorem Sl.from {α : Type} {k : Nat} {enc : α → List Value} {A : Nat → Prop} {w : World} {a a' : Option Addr} {n c : Nat} {l : List α} (h : Sl k enc A w a n c l) {L : Nat} (h1 : L ≤ n) (ha : L < c → a' = a.map (·.add (L * k))) : Sl k enc A w a' (n - L) (c - L) (l.drop L) := by
  have := h.part (Nat.le_trans h1 (Nat.le_refl _)) (Nat.le_refl _) h.le (Nat.le_refl _) ha
  rwa [List.take_of_length_le (by rw [List.length_drop, ← h.len]; exact Nat.le_refl _)] at this
theorem Sl.upto {α : Type} {k : Nat} {enc : α → List Value} {A : Nat → Prop} {w : World} {a : Option Addr} {n c : Nat} {l : List α} (h : Sl k enc A w a n c l) {H X : Nat} (h1 : H ≤ n) (h2 : H ≤ X) (h3 : X ≤ c) : Sl k enc A w a H X (l.take H) := by
  have := h.part (L := 0) (a' := a) (Nat.zero_le _) h1 h2 h3 (fun _ => by cases a <;> simp [Addr.add])
  simpa using this
theorem Sl.cutAt {α : Type} {k : Nat} {enc : α → List Value} {A : Nat → Prop} {w : World} {a a' : Option Addr} {n c : Nat} {l : List α} (h : Sl k enc A w a n c l) {L H X : Nat} (h1 : L ≤ H) (h2 : H ≤ n) (h3 : H ≤ X) (h4 : X ≤ c) (ha : L < X → a' = a.map (·.add (L * k))) :
    Sl k enc A w a' (H - L) (X - L) ((l.take H).drop L) := by
  have := h.part h1 h2 h3 h4 ha
  rwa [List.drop_take]
theorem New.sl {α : Type} {N : Nat} {e : TypeId} {k : Nat} {w : World} {a : Option Addr} {n c : Nat} {enc : α → List Value} {l : List α} (h : New N e k w a n c (l.flatMap enc)) (hk : ∀ x ∈ l, (enc x).length = k) (hkp : 0 < k) {A : Nat → Prop} (hA : ∀ k, A k → k < N) : Sl k enc A w a n c l :=
  (h.nw (N' := N) (ρ := []) (A := fun _ => True) (Nat.le_refl _) (fun _ h => nomatch h) (fun _ _ => trivial)).sl hk hkp hA

theorem bl_irrefl : ∀ a : List UInt8, Op.bytesLess a a = false
  | [] => rfl
  | x :: r => by
    have : ¬ x < x := UInt8.lt_irrefl x
    simp [Op.bytesLess, bl_irrefl r, this]

theorem bl_tri : ∀ a b : List UInt8, Op.bytesLess a b = true ∨ a = b ∨ Op.bytesLess b a = true
  | [], [] => .inr (.inl rfl)
  | [], _ :: _ => .inl rfl
  | _ :: _, [] => .inr (.inr rfl)
  | x :: r, y :: t => by
    rcases UInt8.lt_or_lt_of_ne (a := x) (b := y) |> fun h => (Decidable.em (x = y)).elim (fun e => Or.inr (Or.inl e)) (fun e => (h e).elim Or.inl (fun h => Or.inr (Or.inr h))) with h | h | h
    · left; simp [Op.bytesLess, h]
    · subst h
      rcases bl_tri r t with h | h | h
      · left; simp [Op.bytesLess, h]
      · subst h; right; left; rfl
      · right; right; simp [Op.bytesLess, h]
    · right; right; simp [Op.bytesLess, h]

theorem bl_trans : ∀ a b c : List UInt8, Op.bytesLess a b = true → Op.bytesLess b c = true → Op.bytesLess a c = true
  | a, b, [], _, h => by cases b <;> cases h
  | [], _, _ :: _, _, _ => rfl
  | _ :: _, [], _, h, _ => by cases h
  | x :: r, y :: t, z :: u, h1, h2 => by
    simp only [Op.bytesLess, Bool.or_eq_true, decide_eq_true_eq, Bool.and_eq_true, beq_iff_eq] at *
    rcases h1 with h1 | ⟨rfl, h1⟩
    · rcases h2 with h2 | ⟨rfl, h2⟩
      · left; exact UInt8.lt_trans h1 h2
      · left; exact h1
    · rcases h2 with h2 | ⟨rfl, h2⟩
      · left; exact h2
      · right; exact ⟨rfl, bl_trans r t u h1 h2⟩

theorem str_ext {a b : Str} (h : a.toList = b.toList) : a = b := by
  rw [ByteArray.toList_eq, ByteArray.toList_eq] at h
  cases a; cases b
  simp only at h
  rw [Array.toList_inj.1 h]

theorem seq_iff {a b : Str} : seq a b = true ↔ a = b := by
  unfold seq
  rw [beq_iff_eq]
  exact ⟨str_ext, fun h => h ▸ rfl⟩

theorem seq_eq (a b : Str) : seq a b = decide (a = b) := by
  rw [Bool.eq_iff_iff, seq_iff, decide_eq_true_iff]

theorem seq_refl (a : Str) : seq a a = true := seq_iff.2 rfl
theorem seq_no {a b : Str} : seq a b = false ↔ a ≠ b := by rw [seq_eq, decide_eq_false_iff_not]

theorem slt_irrefl (a : Str) : slt a a = false := bl_irrefl _
theorem slt_trans {a b c : Str} (h1 : slt a b = true) (h2 : slt b c = true) : slt a c = true := bl_trans _ _ _ h1 h2
theorem slt_tri (a b : Str) : slt a b = true ∨ a = b ∨ slt b a = true := by
  rcases bl_tri a.toList b.toList with h | h | h
  · exact .inl h
  · exact .inr (.inl (str_ext h))
  · exact .inr (.inr h)
theorem slt_asymm {a b : Str} (h : slt a b = true) : slt b a = false := by
  cases h2 : slt b a with
  | false => rfl
  | true => exact absurd (slt_trans h h2) (by rw [slt_irrefl]; decide)
theorem slt_ne {a b : Str} (h : slt a b = true) : a ≠ b := by
  rintro rfl
  rw [slt_irrefl] at h; cases h

theorem sle_iff {a b : Str} : sle a b = true ↔ slt a b = true ∨ a = b := by
  show (slt a b || seq a b) = true ↔ _
  rw [Bool.or_eq_true, seq_iff]

theorem sle_not (a b : Str) : sle a b = !slt b a := by
  rw [Bool.eq_iff_iff, sle_iff, Bool.not_eq_true']
  constructor
  · rintro (h | rfl)
    · exact slt_asymm h
    · exact slt_irrefl _
  · intro h
    rcases slt_tri a b with h1 | h1 | h1
    · exact .inl h1
    · exact .inr h1
    · rw [h] at h1; cases h1

theorem sle_no {a b : Str} : sle a b = false ↔ slt b a = true := by rw [sle_not, Bool.not_eq_false']

theorem size_zero {a : Str} : a.size = 0 ↔ a = ⟨#[]⟩ := by
  constructor
  · intro h
    cases a with
    | mk d => exact congrArg _ (Array.eq_empty_of_size_eq_zero h)
  · rintro rfl; rfl

theorem seq_nil (a : Str) : seq a ⟨#[]⟩ = decide (a.size = 0) := by
  rw [seq_eq]; exact decide_eq_decide.2 size_zero.symm

theorem slt_nil (a : Str) : slt a ⟨#[]⟩ = false := by
  show Op.bytesLess a.toList _ = false
  rw [ByteArray.toList_eq, ByteArray.toList_eq]
  cases a.data.toList <;> rfl
end Go.Proofs.Ytkgokehkobifkaa.J

/- Package entry: Right, Bytes, Find, Sorted. -/
namespace Go.Proofs.Ytkgokehkobifkaa.J
open Go Go.RowKit

/-- An entry that is right. -/
def Ent.Right (e : Ent) : Prop := 0 < e.key.size ∧ e.key.size ≤ 128 ∧ e.value.size ≤ 1024 ∧ (e.del = true → e.value.size = 0) ∧ 1 ≤ e.seq ∧ e.seq ≤ 1099511627776
instance (e : Ent) : Decidable e.Right := by unfold Ent.Right; exact inferInstance

def cntLt (k : Str) (l : List Ent) : Nat := l.countP fun e => slt e.key k
def hasKey (k : Str) (l : List Ent) : Bool := l.any fun e => seq e.key k
theorem cntLt_le (k : Str) (l : List Ent) : cntLt k l ≤ l.length := List.countP_le_length
theorem cntLt_snoc (k : Str) (l : List Ent) (e : Ent) : cntLt k (l ++ [e]) = cntLt k l + (if slt e.key k = true then 1 else 0) := by
  simp [cntLt]
theorem cntLt_yes {k : Str} {l : List Ent} {e : Ent} (h : slt e.key k = true) : cntLt k (l ++ [e]) = cntLt k l + 1 := by rw [cntLt_snoc, if_pos h]
theorem cntLt_no {k : Str} {l : List Ent} {e : Ent} (h : slt e.key k = false) : cntLt k (l ++ [e]) = cntLt k l := by rw [cntLt_snoc, if_neg (by simp [h])]; rfl
theorem hasKey_snoc (k : Str) (l : List Ent) (e : Ent) : hasKey k (l ++ [e]) = (hasKey k l || seq e.key k) := by
  simp [hasKey]

theorem right_calls (e : Ent) (Ac : Nat → Prop) (W : World) (hA : ∀ k, Ac k → k < W.heap.size) :
    Calls Pr 32 #[.agg (encE e).toArray] W (Ret nobody W fun v w => v = .bool (decide e.Right)) := by
  refine J.enter (fn := Try.f32) (n := 38) Try.func32 (by kernel_rfl) (by kernel_rfl) (by kernel_rfl) hA ?_
  refine J.rn [.n, .n] [0] [.c 0] [.o 1 0, .c 2] (by kernel_rfl) ?_
  refine J.new (T := 42) (cs := encE e) (d := 1) (K := .ptr) (by kernel_rfl) (fun b1 hb1 => ?_)
  refine J.run [.u, .n, .n, .n, .u, .u, .u, .u] [1, 6] ⟨[(1, .loc 0 0), (6, .v (.bool (!(seq e.key (⟨#[]⟩ : Str)))))], [⟨42, encE e⟩]⟩ [.o 1 1, .c 2] [.o 3 4, .c 4] (by kernel_rfl) ?_
  rcases Bool.eq_false_or_eq_true (!(seq e.key (⟨#[]⟩ : Str))) with hc | hc
  · rw [hc]
    try simp only [nrm] at hc
    have hc1 := hc
    refine J.run [.w, .w, .w, .w, .u, .u] [1, 12] ⟨[(1, .loc 0 0), (12, .v (.bool (decide (((e.key.size : Nat) : Int) ≤ 128))))], [⟨42, encE e⟩]⟩ [.o 3 4, .c 4] [.o 3 10, .c 4] (by kernel_rfl) ?_
    rcases Bool.eq_false_or_eq_true (decide (((e.key.size : Nat) : Int) ≤ 128)) with hc | hc
    · rw [hc]
      try simp only [nrm] at hc
      have hc2 := hc
      refine J.run [.w, .w, .w, .w, .u, .u] [1, 18] ⟨[(1, .loc 0 0), (18, .v (.bool (decide (((e.value.size : Nat) : Int) ≤ 1024))))], [⟨42, encE e⟩]⟩ [.o 3 10, .c 4] [.o 3 16, .c 4] (by kernel_rfl) ?_
      rcases Bool.eq_false_or_eq_true (decide (((e.value.size : Nat) : Int) ≤ 1024)) with hc | hc
      · rw [hc]
        try simp only [nrm] at hc
        have hc3 := hc
        refine J.run [.w, .w, .w] [1, 18, 21] ⟨[(1, .loc 0 0), (18, .v (.bool true)), (21, .v (.bool e.del))], [⟨42, encE e⟩]⟩ [.o 3 16, .c 4] [.o 3 19, .c 4] (by kernel_rfl) ?_
        rcases Bool.eq_false_or_eq_true e.del with hc | hc
        · rw [hc]
          try simp only [nrm] at hc
          have hc4 := hc
          refine J.run [.w, .w, .w, .w, .w, .u, .u] [1, 28] ⟨[(1, .loc 0 0), (28, .v (.bool (!(!(seq e.value (⟨#[]⟩ : Str))))))], [⟨42, encE e⟩]⟩ [.o 3 19, .c 4] [.o 3 26, .c 4] (by kernel_rfl) ?_
          rcases Bool.eq_false_or_eq_true (!(!(seq e.value (⟨#[]⟩ : Str)))) with hc | hc
          · rw [hc]
            try simp only [nrm] at hc
            have hc5 := hc
            refine J.run [.w, .w, .w, .u, .u] [1, 33] ⟨[(1, .loc 0 0), (33, .v (.bool (decide (e.seq ≥ 1))))], [⟨42, encE e⟩]⟩ [.o 3 26, .c 4] [.o 3 31, .c 4] (by kernel_rfl) ?_
            rcases Bool.eq_false_or_eq_true (decide (e.seq ≥ 1)) with hc | hc
            · rw [hc]
              try simp only [nrm] at hc
              have hc6 := hc
              refine J.run [.w, .w, .w, .u, .u, .n] [2] ⟨[(2, .v (.bool (decide (e.seq ≤ 1099511627776))))], [⟨42, encE e⟩]⟩ [.o 3 31, .c 4] [.c 4] (by kernel_rfl) ?_
              rcases Bool.eq_false_or_eq_true (decide (e.seq ≤ 1099511627776)) with hc | hc
              · rw [hc]
                try simp only [nrm] at hc
                refine J.ret (v := .bool true) (by kernel_rfl) (by kernel_rfl) (fun w1 A1 m1 hac l1 => congrArg Value.bool (by simp_all only [seq_nil, Ent.Right, decide_eq_true_eq, decide_eq_false_iff_not, Bool.not_eq_true', Bool.not_eq_false']; first | rfl | (symm; simp only [decide_eq_false_iff_not, decide_eq_true_eq, decide_eq_decide]; omega) | (symm; simp; omega) | simp_all))
              · rw [hc]
                try simp only [nrm] at hc
                refine J.ret (v := .bool false) (by kernel_rfl) (by kernel_rfl) (fun w1 A1 m1 hac l1 => congrArg Value.bool (by simp_all only [seq_nil, Ent.Right, decide_eq_true_eq, decide_eq_false_iff_not, Bool.not_eq_true', Bool.not_eq_false']; first | rfl | (symm; simp only [decide_eq_false_iff_not, decide_eq_true_eq, decide_eq_decide]; omega) | (symm; simp; omega) | simp_all))
            · rw [hc]
              try simp only [nrm] at hc
              have hc6 := hc
              refine J.rn [.x, .x, .x, .u, .u, .n] [2] [.o 3 31, .c 4] [.c 4] (by kernel_rfl) ?_
              refine J.ret (v := .bool false) (by kernel_rfl) (by kernel_rfl) (fun w1 A1 m1 hac l1 => congrArg Value.bool (by simp_all only [seq_nil, Ent.Right, decide_eq_true_eq, decide_eq_false_iff_not, Bool.not_eq_true', Bool.not_eq_false']; first | rfl | (symm; simp only [decide_eq_false_iff_not, decide_eq_true_eq, decide_eq_decide]; omega) | (symm; simp; omega) | simp_all))
          · rw [hc]
            try simp only [nrm] at hc
            have hc5 := hc
            refine J.rn [.x, .x, .x, .u, .u, .x, .x, .x, .u, .u, .n] [2] [.o 3 26, .c 4] [.c 4] (by kernel_rfl) ?_
            refine J.ret (v := .bool false) (by kernel_rfl) (by kernel_rfl) (fun w1 A1 m1 hac l1 => congrArg Value.bool (by simp_all only [seq_nil, Ent.Right, decide_eq_true_eq, decide_eq_false_iff_not, Bool.not_eq_true', Bool.not_eq_false']; first | rfl | (symm; simp only [decide_eq_false_iff_not, decide_eq_true_eq, decide_eq_decide]; omega) | (symm; simp; omega) | simp_all))
        · rw [hc]
          try simp only [nrm] at hc
          have hc4 := hc
          refine J.run [.x, .x, .x, .w, .w, .u, .u, .w, .w, .w, .u, .u] [1, 33] ⟨[(1, .loc 0 0), (33, .v (.bool (decide (e.seq ≥ 1))))], [⟨42, encE e⟩]⟩ [.o 3 19, .c 4] [.o 3 31, .c 4] (by kernel_rfl) ?_
          rcases Bool.eq_false_or_eq_true (decide (e.seq ≥ 1)) with hc | hc
          · rw [hc]
            try simp only [nrm] at hc
            have hc7 := hc
            refine J.run [.w, .w, .w, .u, .u, .n] [2] ⟨[(2, .v (.bool (decide (e.seq ≤ 1099511627776))))], [⟨42, encE e⟩]⟩ [.o 3 31, .c 4] [.c 4] (by kernel_rfl) ?_
            rcases Bool.eq_false_or_eq_true (decide (e.seq ≤ 1099511627776)) with hc | hc
            · rw [hc]
              try simp only [nrm] at hc
              refine J.ret (v := .bool true) (by kernel_rfl) (by kernel_rfl) (fun w1 A1 m1 hac l1 => congrArg Value.bool (by simp_all only [seq_nil, Ent.Right, decide_eq_true_eq, decide_eq_false_iff_not, Bool.not_eq_true', Bool.not_eq_false']; first | rfl | (symm; simp only [decide_eq_false_iff_not, decide_eq_true_eq, decide_eq_decide]; omega) | (symm; simp; omega) | simp_all))
            · rw [hc]
              try simp only [nrm] at hc
              refine J.ret (v := .bool false) (by kernel_rfl) (by kernel_rfl) (fun w1 A1 m1 hac l1 => congrArg Value.bool (by simp_all only [seq_nil, Ent.Right, decide_eq_true_eq, decide_eq_false_iff_not, Bool.not_eq_true', Bool.not_eq_false']; first | rfl | (symm; simp only [decide_eq_false_iff_not, decide_eq_true_eq, decide_eq_decide]; omega) | (symm; simp; omega) | simp_all))
          · rw [hc]
            try simp only [nrm] at hc
            have hc7 := hc
            refine J.rn [.x, .x, .x, .u, .u, .n] [2] [.o 3 31, .c 4] [.c 4] (by kernel_rfl) ?_
            refine J.ret (v := .bool false) (by kernel_rfl) (by kernel_rfl) (fun w1 A1 m1 hac l1 => congrArg Value.bool (by simp_all only [seq_nil, Ent.Right, decide_eq_true_eq, decide_eq_false_iff_not, Bool.not_eq_true', Bool.not_eq_false']; first | rfl | (symm; simp only [decide_eq_false_iff_not, decide_eq_true_eq, decide_eq_decide]; omega) | (symm; simp; omega) | simp_all))
      · rw [hc]
        try simp only [nrm] at hc
        have hc3 := hc
        refine J.rn [.x, .x, .x, .x, .x, .x, .x, .x, .u, .u, .x, .x, .x, .u, .u, .x, .x, .x, .u, .u, .n] [2] [.o 3 16, .c 4] [.c 4] (by kernel_rfl) ?_
        refine J.ret (v := .bool false) (by kernel_rfl) (by kernel_rfl) (fun w1 A1 m1 hac l1 => congrArg Value.bool (by simp_all only [seq_nil, Ent.Right, decide_eq_true_eq, decide_eq_false_iff_not, Bool.not_eq_true', Bool.not_eq_false']; first | rfl | (symm; simp only [decide_eq_false_iff_not, decide_eq_true_eq, decide_eq_decide]; omega) | (symm; simp; omega) | simp_all))
    · rw [hc]
      try simp only [nrm] at hc
      have hc2 := hc
      refine J.rn [.x, .x, .x, .x, .u, .u, .x, .x, .x, .x, .x, .x, .x, .x, .u, .u, .x, .x, .x, .u, .u, .x, .x, .x, .u, .u, .n] [2] [.o 3 10, .c 4] [.c 4] (by kernel_rfl) ?_
      refine J.ret (v := .bool false) (by kernel_rfl) (by kernel_rfl) (fun w1 A1 m1 hac l1 => congrArg Value.bool (by simp_all only [seq_nil, Ent.Right, decide_eq_true_eq, decide_eq_false_iff_not, Bool.not_eq_true', Bool.not_eq_false']; first | rfl | (symm; simp only [decide_eq_false_iff_not, decide_eq_true_eq, decide_eq_decide]; omega) | (symm; simp; omega) | simp_all))
  · rw [hc]
    try simp only [nrm] at hc
    have hc1 := hc
    refine J.run [.x, .x, .x, .x, .u, .u, .x, .x, .x, .x, .u, .u, .x, .x, .x, .x, .x, .x, .x, .x, .u, .u, .x, .x, .x, .u, .u, .x, .x, .x, .u, .u, .n] [2] ⟨[(2, .v (.bool false))], [⟨42, encE e⟩]⟩ [.o 3 4, .c 4] [.c 4] (by kernel_rfl) ?_
    refine J.ret (v := .bool false) (by kernel_rfl) (by kernel_rfl) (fun w1 A1 m1 hac l1 => congrArg Value.bool (by simp_all only [seq_nil, Ent.Right, decide_eq_true_eq, decide_eq_false_iff_not, Bool.not_eq_true', Bool.not_eq_false']; first | rfl | (symm; simp only [decide_eq_false_iff_not, decide_eq_true_eq, decide_eq_decide]; omega) | (symm; simp; omega) | simp_all))
theorem find_calls (a : Option Addr) (n c : Nat) (l : List Ent) (key : Str) (Ac : Nat → Prop) (W : World) (hA : ∀ k, Ac k → k < W.heap.size) (hs : Sl 4 encE Ac W a n c l) :
    Calls Pr 13 #[.slice a n c, .string key] W (Ret nobody W fun v w => v = .tuple #[.int .i64 ((cntLt key l : Nat) : Int), .bool (hasKey key l)]) := by
  refine J.enter (fn := Try.f13) (n := 32) Try.func13 (by kernel_rfl) (by kernel_rfl) (by kernel_rfl) hA ?_
  have hlen := hs.len; have hle := hs.le; have hcap := hs.cap; simp only [maxLen] at hcap
  refine J.rn [.n, .n, .u, .u, .n, .n, .n, .u, .u, .n, .n, .n, .n, .u, .u, .u, .n, .n] [1, 6, 7, 10, 11, 12] [.c 0] [.c 8, .b 0, .c 27] (by kernel_rfl) ?_
  refine J.loop (X := Nat) (fun i => ⟨[(1, .v (.string key)), (6, .v (.int .i64 ((cntLt key (l.take i) : Nat) : Int))), (7, .v (.bool (hasKey key (l.take i)))), (10, .v (.slice a n c)), (11, .v (.int .i64 ((n : Nat) : Int))), (12, .v (.int .i64 ((i : Nat) : Int)))], []⟩) (fun i A w => i ≤ n ∧ Sl 4 encE A w a n c l) (fun i => n - i) [1, 6, 7, 10, 11, 12] 0 [] 0 (by kernel_rfl) (by kernel_rfl) (by kernel_rfl) (fun w1 A1 m1 => ⟨by omega, hs.mv m1⟩) (fun i A1 w1 hI => ?_)
  obtain ⟨hi, hs⟩ := hI; have hcl := cntLt_le key (l.take i); rw [List.length_take] at hcl
  refine J.run [.n, .n, .u, .n, .n] [1, 6, 7, 10, 11, 12, 13] ⟨[(1, .v (.string key)), (6, .v (.int .i64 ((cntLt key (l.take i) : Nat) : Int))), (7, .v (.bool (hasKey key (l.take i)))), (10, .v (.slice a n c)), (11, .v (.int .i64 ((n : Nat) : Int))), (12, .v (.int .i64 ((i : Nat) : Int))), (13, .v (.bool (decide (((i : Nat) : Int) < ((n : Nat) : Int)))))], []⟩ [.c 9] [.c 12, .c 15] (by kernel_rfl) ?_
  refine J.cond (b := (decide (((i : Nat) : Int) < ((n : Nat) : Int)))) (k' := 14) (by kernel_rfl) (fun hc => ?_) (fun hc => ?_)
  · try simp only [nrm] at hc
    have hc1 := hc
    refine J.rn [.n, .n, .n, .n, .n] [1, 6, 7, 10, 11, 12] [.c 13, .c 15] [.o 18 0, .c 19, .b 1, .c 26] (by kernel_rfl) ?_
    obtain ⟨p1, o1, rfl⟩ := hs.addr (by omega)
    refine J.idx (b := p1) (off := o1) (len := n) (i := ((i : Nat) : Int)) (sz := 4) (d := 14) (by kernel_rfl) (by omega) (by omega) ?_
    obtain ⟨x1, hx1⟩ : ∃ x, (l)[i]? = some x := ⟨_, List.getElem?_eq_getElem (by omega)⟩
    refine J.ld (T := 42) (b := p1) (off := o1 + i * 4) (d := 15) (v := .agg (encE x1).toArray) (by kernel_rfl) (fun w1 A1 m1 l1 => (hs.mv m1).ld (by kernel_rfl) hx1 (by kernel_rfl)) ?_
    refine J.new (T := 42) (cs := [.string (⟨#[]⟩ : Str), .string (⟨#[]⟩ : Str), .bool false, .int .i64 0]) (d := 9) (K := .ptr) (by kernel_rfl) (fun b1 hb1 => ?_)
    refine J.rn [.u, .n, .n, .n, .n, .u, .u, .u, .u, .n] [1, 6, 7, 9, 10, 11, 12, 19] [.o 18 3, .c 19, .b 1, .c 26] [.c 22, .c 25, .b 1, .c 26] (by kernel_rfl) ?_
    refine J.cond (b := (slt x1.key key)) (k' := 24) (by kernel_rfl) (fun hc => ?_) (fun hc => ?_)
    · try simp only [nrm] at hc
      have hc2 := hc
      refine J.run [.n, .u, .u, .u, .n, .n, .u, .u] [1, 6, 9, 10, 11, 12, 23] ⟨[(1, .v (.string key)), (6, .v (.int .i64 (IntKind.i64.wrap (((cntLt key (l.take i) : Nat) : Int) + 1)))), (9, .loc 0 0), (10, .v (.slice (some ⟨p1, o1, none⟩) n c)), (11, .v (.int .i64 ((n : Nat) : Int))), (12, .v (.int .i64 ((i : Nat) : Int))), (23, .v (.bool (hasKey key (l.take i))))], [⟨42, encE x1⟩]⟩ [.c 23, .c 25, .b 1, .c 26] [.o 25 2, .b 1, .c 26] (by kernel_rfl) ?_
      have hw1 : IntKind.i64.wrap (((cntLt key (l.take i) : Nat) : Int) + 1) = ((cntLt key (l.take i) + 1 : Nat) : Int) := by rw [wrap_i64 (by omega) (by omega)]; try omega
      rw [hw1]
      rcases Bool.eq_false_or_eq_true (hasKey key (l.take i)) with hc | hc
      · rw [hc]
        try simp only [nrm] at hc
        have hc3 := hc
        refine J.run [.x, .x, .x, .x, .u, .u, .n, .n, .n, .u, .u, .n] [1, 6, 7, 10, 11, 12] ⟨[(1, .v (.string key)), (6, .v (.int .i64 ((cntLt key (l.take i) + 1 : Nat) : Int))), (7, .v (.bool true)), (10, .v (.slice (some ⟨p1, o1, none⟩) n c)), (11, .v (.int .i64 ((n : Nat) : Int))), (12, .v (.int .i64 (IntKind.i64.wrap (((i : Nat) : Int) + 1))))], [⟨42, encE x1⟩]⟩ [.o 25 2, .b 1, .c 26] [] (by kernel_rfl) ?_
        have hw2 : IntKind.i64.wrap (((i : Nat) : Int) + 1) = ((i + 1 : Nat) : Int) := by rw [wrap_i64 (by omega) (by omega)]; try omega
        rw [hw2]
        have h6 : cntLt key (l.take i) + 1 = cntLt key (l.take (i + 1)) := by rw [take_snoc hx1, cntLt_yes (by assumption)]
        have h7 : true = hasKey key (l.take (i + 1)) := by rw [take_snoc hx1, hasKey_snoc]; simp_all
        rw [h6, h7]
        exact J.again (i + 1) [1, 6, 7, 10, 11, 12] 0 (by omega) (by kernel_rfl) (by kernel_rfl) (fun w1 A1 m1 => ⟨by omega, hs.mv m1⟩)
      · rw [hc]
        try simp only [nrm] at hc
        have hc3 := hc
        refine J.run [.w, .w, .w, .w, .u, .u, .n, .n, .n, .u, .u, .n] [1, 6, 7, 10, 11, 12] ⟨[(1, .v (.string key)), (6, .v (.int .i64 ((cntLt key (l.take i) + 1 : Nat) : Int))), (7, .v (.bool ((seq x1.key key)))), (10, .v (.slice (some ⟨p1, o1, none⟩) n c)), (11, .v (.int .i64 ((n : Nat) : Int))), (12, .v (.int .i64 (IntKind.i64.wrap (((i : Nat) : Int) + 1))))], [⟨42, encE x1⟩]⟩ [.o 25 2, .b 1, .c 26] [] (by kernel_rfl) ?_
        have hw3 : IntKind.i64.wrap (((i : Nat) : Int) + 1) = ((i + 1 : Nat) : Int) := by rw [wrap_i64 (by omega) (by omega)]; try omega
        rw [hw3]
        have h6 : cntLt key (l.take i) + 1 = cntLt key (l.take (i + 1)) := by rw [take_snoc hx1, cntLt_yes (by assumption)]
        have h7 : ((seq x1.key key)) = hasKey key (l.take (i + 1)) := by rw [take_snoc hx1, hasKey_snoc]; simp_all
        rw [h6, h7]
        exact J.again (i + 1) [1, 6, 7, 10, 11, 12] 0 (by omega) (by kernel_rfl) (by kernel_rfl) (fun w1 A1 m1 => ⟨by omega, hs.mv m1⟩)
    · try simp only [nrm] at hc
      have hc2 := hc
      refine J.run [.n, .n, .u, .u] [1, 6, 9, 10, 11, 12, 23] ⟨[(1, .v (.string key)), (6, .v (.int .i64 ((cntLt key (l.take i) : Nat) : Int))), (9, .loc 0 0), (10, .v (.slice (some ⟨p1, o1, none⟩) n c)), (11, .v (.int .i64 ((n : Nat) : Int))), (12, .v (.int .i64 ((i : Nat) : Int))), (23, .v (.bool (hasKey key (l.take i))))], [⟨42, encE x1⟩]⟩ [.c 24, .c 25, .b 1, .c 26] [.o 25 2, .b 1, .c 26] (by kernel_rfl) ?_
      rcases Bool.eq_false_or_eq_true (hasKey key (l.take i)) with hc | hc
      · rw [hc]
        try simp only [nrm] at hc
        have hc4 := hc
        refine J.run [.x, .x, .x, .x, .u, .u, .n, .n, .n, .u, .u, .n] [1, 6, 7, 10, 11, 12] ⟨[(1, .v (.string key)), (6, .v (.int .i64 ((cntLt key (l.take i) : Nat) : Int))), (7, .v (.bool true)), (10, .v (.slice (some ⟨p1, o1, none⟩) n c)), (11, .v (.int .i64 ((n : Nat) : Int))), (12, .v (.int .i64 (IntKind.i64.wrap (((i : Nat) : Int) + 1))))], [⟨42, encE x1⟩]⟩ [.o 25 2, .b 1, .c 26] [] (by kernel_rfl) ?_
        have hw4 : IntKind.i64.wrap (((i : Nat) : Int) + 1) = ((i + 1 : Nat) : Int) := by rw [wrap_i64 (by omega) (by omega)]; try omega
        rw [hw4]
        have h6 : cntLt key (l.take i) = cntLt key (l.take (i + 1)) := by rw [take_snoc hx1, cntLt_no (by assumption)]
        have h7 : true = hasKey key (l.take (i + 1)) := by rw [take_snoc hx1, hasKey_snoc]; simp_all
        rw [h6, h7]
        exact J.again (i + 1) [1, 6, 7, 10, 11, 12] 0 (by omega) (by kernel_rfl) (by kernel_rfl) (fun w1 A1 m1 => ⟨by omega, hs.mv m1⟩)
      · rw [hc]
        try simp only [nrm] at hc
        have hc4 := hc
        refine J.run [.w, .w, .w, .w, .u, .u, .n, .n, .n, .u, .u, .n] [1, 6, 7, 10, 11, 12] ⟨[(1, .v (.string key)), (6, .v (.int .i64 ((cntLt key (l.take i) : Nat) : Int))), (7, .v (.bool ((seq x1.key key)))), (10, .v (.slice (some ⟨p1, o1, none⟩) n c)), (11, .v (.int .i64 ((n : Nat) : Int))), (12, .v (.int .i64 (IntKind.i64.wrap (((i : Nat) : Int) + 1))))], [⟨42, encE x1⟩]⟩ [.o 25 2, .b 1, .c 26] [] (by kernel_rfl) ?_
        have hw5 : IntKind.i64.wrap (((i : Nat) : Int) + 1) = ((i + 1 : Nat) : Int) := by rw [wrap_i64 (by omega) (by omega)]; try omega
        rw [hw5]
        have h6 : cntLt key (l.take i) = cntLt key (l.take (i + 1)) := by rw [take_snoc hx1, cntLt_no (by assumption)]
        have h7 : ((seq x1.key key)) = hasKey key (l.take (i + 1)) := by rw [take_snoc hx1, hasKey_snoc]; simp_all
        rw [h6, h7]
        exact J.again (i + 1) [1, 6, 7, 10, 11, 12] 0 (by omega) (by kernel_rfl) (by kernel_rfl) (fun w1 A1 m1 => ⟨by omega, hs.mv m1⟩)
  · try simp only [nrm] at hc
    have hc1 := hc
    have hin : i = n := by omega
    subst hin
    refine J.exit (id := 0) (by kernel_rfl) (by rfl) ?_
    refine J.rn [.n, .n, .u, .u, .u, .u, .n] [4, 5] [.c 27] [.c 29] (by kernel_rfl) ?_
    refine J.ret (v := .tuple #[.int .i64 ((cntLt key (l.take i) : Nat) : Int), .bool (hasKey key (l.take i))]) (by kernel_rfl) (by kernel_rfl) (fun w1 A1 m1 hac l1 => by rw [List.take_of_length_le (by omega)])
end Go.Proofs.Ytkgokehkobifkaa.J

/- Package entry: Bytes, and the reader. -/
namespace Go.Proofs.Ytkgokehkobifkaa.J
open Go Go.RowKit

theorem putText_len (t : Str) (h : t.size ≤ maxLen) : (putText t).length ≤ t.size + 10 := by
  have := putN_len t.size (by simp only [maxLen] at h; omega)
  simp only [putText, List.length_append, ← size_data]; omega

/-- What Bytes writes. -/
def entB (e : Ent) : List UInt8 :=
  if e.Right then (if e.del = true then [1] else [0]) ++ putN e.seq.toNat ++ putText e.key ++ (if e.del = true then [] else putText e.value) else []

theorem bytes_calls (e : Ent) (Ac : Nat → Prop) (W : World) (hA : ∀ k, Ac k → k < W.heap.size) :
    Calls Pr 38 #[.agg (encE e).toArray] W (Ret nobody W fun v w => ∃ a' n' c', v = .slice a' n' c' ∧ n' = (entB e).length ∧ New W.heap.size 5 1 w a' n' c' ((entB e).flatMap u8)) := by
  refine J.enter (fn := Try.f38) (n := 28) Try.func38 (by kernel_rfl) (by kernel_rfl) (by kernel_rfl) hA ?_
  refine J.rn [.n, .n] [0] [.c 0] [.o 1 0, .c 2] (by kernel_rfl) ?_
  refine J.new (T := 42) (cs := encE e) (d := 1) (K := .ptr) (by kernel_rfl) (fun b1 hb1 => ?_)
  refine J.rn [.u, .n, .n, .n, .n, .u] [1, 4] [.o 1 1, .c 2] [.o 4 1, .c 5, .c 10] (by kernel_rfl) ?_
  refine J.call (d := some 5) (by kernel_rfl) (fun w1 A1 m1 l1 => right_calls e nobody w1 noA) ?_
  rintro _ u1 w1 A1 rfl g1
  have m1 := g1.mv
  refine J.rn [.u, .n] [1, 6] [.o 4 2, .c 5, .c 10] [.c 5, .c 10] (by kernel_rfl) ?_
  refine J.cond (b := (!(decide e.Right))) (k' := 9) (by kernel_rfl) (fun hc => ?_) (fun hc => ?_)
  · try simp only [nrm] at hc
    have hc1 := hc
    refine J.run [.n, .n, .u, .n] [2] ⟨[(2, .v (.slice none 0 0))], [⟨42, encE e⟩]⟩ [.c 6, .c 10] [.c 8, .c 10] (by kernel_rfl) ?_
    refine J.ret (v := .slice none 0 0) (by kernel_rfl) (by kernel_rfl) (fun w1 A1 m1 hac l1 => ⟨none, 0, 0, rfl, by rw [entB, if_neg hc1]; rfl, by rw [entB, if_neg hc1]; exact (Nw.nil W.heap.size 5 1 [] A1 w1).new⟩)
  · try simp only [nrm] at hc
    have hc1 := hc
    refine J.rn [.n, .n, .n] [1] [.c 9, .c 10] [.o 11 0, .c 12] (by kernel_rfl) ?_
    refine J.new (T := 5) (cs := [.int .u8 0]) (d := 7) (K := (.sl 1)) (by kernel_rfl) (fun b2 hb2 => ?_)
    refine J.rn [.u, .n, .n, .n, .n, .u, .u, .n] [1, 3, 9] [.o 11 1, .c 12] [.c 15, .c 18] (by kernel_rfl) ?_
    refine J.cond (b := e.del) (k' := 17) (by kernel_rfl) (fun hc => ?_) (fun hc => ?_)
    · try simp only [nrm] at hc
      have hc2 := hc
      refine J.rn [.n, .u] [1, 3, 10] [.c 16, .c 18] [.o 16 1, .c 18] (by kernel_rfl) ?_
      refine J.idx (b := b2) (off := 0) (len := 1) (i := 0) (sz := 1) (d := 11) (by kernel_rfl) (by omega) (by omega) ?_
      refine J.stv (b := b2) (m' := [⟨42, encE e⟩, ⟨5, [.int .u8 1]⟩]) 1 (by kernel_rfl) rfl ?_
      refine J.run [.n, .n] [1, 3] ⟨[(1, .loc 0 0), (3, .v (.slice (some ⟨b2, 0, none⟩) 1 1))], [⟨42, encE e⟩, ⟨5, [.int .u8 1]⟩]⟩ [.o 16 3, .c 18] [.c 19, .c 20] (by kernel_rfl) ?_
      have hR := hc1; obtain ⟨r1, r2, r3, r4, r5, r6⟩ := hR
      have hsq : IntKind.u64.wrap e.seq = ((e.seq.toNat : Nat) : Int) := by rw [wrap_u64 (by omega) (by omega)]; omega
      refine J.freeze 1 rfl (by kernel_rfl) (fun h => h) (L := ⟨5, [.int .u8 1]⟩) rfl (fun w2 A2 m2 hs1 hr1 hn1 => ?_)
      have hz : Sl 1 u8 A2 w2 (some ⟨b2, 0, none⟩) 1 1 [1] := Sl.ofRow (enc := u8) (l := [1]) (kk := 1) (b := b2) (cs := [.int .u8 1]) hr1 hn1 rfl (fun x _ => rfl) rfl (by simp only [maxLen]; omega)
      refine J.draw [] nobody (by kernel_rfl) (by kernel_rfl) (fun _ h => h.elim) (fun w3 A3 m3 hr2 hX1 => ?_)
      replace hz := hz.mv m3
      refine J.take0 [(0, .u), (1, .u), (2, .u), (3, .u), (5, .u), (6, .u)] [1, 12, 15, 18] [(1, .loc 0 0), (12, .v (.slice (some ⟨b2, 0, none⟩) 1 1)), (15, .v (.int .u64 (IntKind.u64.wrap e.seq))), (18, .v (.string e.key))] [6, 5, 3, 2, 1, 0] (calm_body _ _ _) (by intro k _ h; exact h) hr2 (by kernel_rfl) ?_
      rw [hsq]
      refine J.pick1 4 (by kernel_rfl) (by kernel_rfl) ?_
      refine J.callq (d := some 16) (by kernel_rfl) (fun w1 A1 m1 l1 => put_calls (some ⟨b2, 0, none⟩) 1 1 [1] e.seq.toNat (by omega) (by omega) nobody w1 noA (hz.mv m1).any) ?_
      rintro _ u2 w4 A4 ⟨a1, c1, rfl, hn2⟩ g2
      refine J.grab hn2 ?_
      have m4 := g2.grab hn2
      replace hz := hz.mv m4
      replace hn2 := hn2.take g2 rfl
      have hlhn2 := putN_len e.seq.toNat (by omega)
      refine J.pick1 7 (by kernel_rfl) (by kernel_rfl) ?_
      have hlhn3 := putText_len e.key (by simp only [maxLen]; omega)
      refine J.callq (d := some 19) (by kernel_rfl) (fun w1 A1 m1 l1 => putText_calls a1 (1 + (putN e.seq.toNat).length) c1 ([1] ++ putN e.seq.toNat) e.key (by simp only [maxLen]; omega) (by omega) nobody w1 noA ((hn2.mv m1).any (fun x _ => rfl) (by decide))) ?_
      rintro _ u3 w5 A5 ⟨a2, c2, rfl, hn3⟩ g3
      refine J.grab hn3 ?_
      have m5 := g3.grab hn3
      replace hz := hz.mv m5; replace hn2 := hn2.mv m5
      replace hn3 := hn3.take g3 rfl
      refine J.take1 [(8, .u)] [1, 3] [(1, .loc 0 0), (3, .v (.slice a2 ((1 + (putN e.seq.toNat).length) + (putText e.key).length) c2))] [8, 7, 4, 6, 5, 3, 2, 1, 0] (calm_body _ _ _) (by kernel_rfl) ?_
      refine J.pdone (by kernel_rfl) ?_
      refine J.rn [.n, .n, .n, .u, .u, .u, .n] [1, 3, 22] [.c 20] [.c 23, .c 26] (by kernel_rfl) ?_
      refine J.cond (b := (!e.del)) (k' := 25) (by kernel_rfl) (fun hc => ?_) (fun hc => ?_)
      · try simp only [nrm] at hc
        have hc3 := hc
        refine J.rn [.n, .u, .u, .u] [23, 25] [.c 24, .c 26] [.o 24 3, .c 26] (by kernel_rfl) ?_
        have hlhn4 := putText_len e.value (by simp only [maxLen]; omega)
        refine J.call (d := some 26) (by kernel_rfl) (fun w1 A1 m1 l1 => putText_calls a2 ((1 + (putN e.seq.toNat).length) + (putText e.key).length) c2 ([1] ++ putN e.seq.toNat ++ putText e.key) e.value (by simp only [maxLen]; omega) (by omega) nobody w1 noA ((hn3.mv m1).any (fun x _ => rfl) (by decide))) ?_
        rintro _ u4 w6 A6 ⟨a3, c3, rfl, hn4⟩ g4
        refine J.grab hn4 ?_
        have m6 := g4.grab hn4
        replace hz := hz.mv m6; replace hn2 := hn2.mv m6; replace hn3 := hn3.mv m6
        replace hn4 := hn4.take g4 rfl
        refine J.rn [.u, .n, .n, .n, .u, .u, .n] [2] [.o 24 4, .c 26] [.c 28] (by kernel_rfl) ?_
        have eb : entB e = [1] ++ putN e.seq.toNat ++ putText e.key ++ putText e.value := by rw [entB, if_pos hc1]; simp_all
        refine J.ret (v := .slice a3 (((1 + (putN e.seq.toNat).length) + (putText e.key).length) + (putText e.value).length) c3) (by kernel_rfl) (by kernel_rfl) (fun w1 A1 m1 hac l1 => by rw [eb]; exact ⟨_, _, _, rfl, by simp; omega, (hn4.mv m1).new⟩)
      · try simp only [nrm] at hc
        have hc3 := hc
        refine J.run [.n, .n, .n, .u, .u, .n] [2] ⟨[(2, .v (.slice a2 ((1 + (putN e.seq.toNat).length) + (putText e.key).length) c2))], [⟨42, encE e⟩]⟩ [.c 25, .c 26] [.c 28] (by kernel_rfl) ?_
        have eb : entB e = [1] ++ putN e.seq.toNat ++ putText e.key := by rw [entB, if_pos hc1]; simp_all
        refine J.ret (v := .slice a2 ((1 + (putN e.seq.toNat).length) + (putText e.key).length) c2) (by kernel_rfl) (by kernel_rfl) (fun w1 A1 m1 hac l1 => by rw [eb]; exact ⟨_, _, _, rfl, by simp; omega, (hn3.mv m1).new⟩)
    · try simp only [nrm] at hc
      have hc2 := hc
      refine J.run [.n, .n] [1, 3] ⟨[(1, .loc 0 0), (3, .v (.slice (some ⟨b2, 0, none⟩) 1 1))], [⟨42, encE e⟩, ⟨5, [.int .u8 0]⟩]⟩ [.c 17, .c 18] [.c 19, .c 20] (by kernel_rfl) ?_
      have hR := hc1; obtain ⟨r1, r2, r3, r4, r5, r6⟩ := hR
      have hsq : IntKind.u64.wrap e.seq = ((e.seq.toNat : Nat) : Int) := by rw [wrap_u64 (by omega) (by omega)]; omega
      refine J.freeze 1 rfl (by kernel_rfl) (fun h => h) (L := ⟨5, [.int .u8 0]⟩) rfl (fun w7 A7 m7 hs2 hr3 hn5 => ?_)
      have hz : Sl 1 u8 A7 w7 (some ⟨b2, 0, none⟩) 1 1 [0] := Sl.ofRow (enc := u8) (l := [0]) (kk := 1) (b := b2) (cs := [.int .u8 0]) hr3 hn5 rfl (fun x _ => rfl) rfl (by simp only [maxLen]; omega)
      refine J.draw [] nobody (by kernel_rfl) (by kernel_rfl) (fun _ h => h.elim) (fun w8 A8 m8 hr4 hX2 => ?_)
      replace hz := hz.mv m8
      refine J.take0 [(0, .u), (1, .u), (2, .u), (3, .u), (5, .u), (6, .u)] [1, 12, 15, 18] [(1, .loc 0 0), (12, .v (.slice (some ⟨b2, 0, none⟩) 1 1)), (15, .v (.int .u64 (IntKind.u64.wrap e.seq))), (18, .v (.string e.key))] [6, 5, 3, 2, 1, 0] (calm_body _ _ _) (by intro k _ h; exact h) hr4 (by kernel_rfl) ?_
      rw [hsq]
      refine J.pick1 4 (by kernel_rfl) (by kernel_rfl) ?_
      refine J.callq (d := some 16) (by kernel_rfl) (fun w1 A1 m1 l1 => put_calls (some ⟨b2, 0, none⟩) 1 1 [0] e.seq.toNat (by omega) (by omega) nobody w1 noA (hz.mv m1).any) ?_
      rintro _ u5 w9 A9 ⟨a4, c4, rfl, hn6⟩ g5
      refine J.grab hn6 ?_
      have m9 := g5.grab hn6
      replace hz := hz.mv m9
      replace hn6 := hn6.take g5 rfl
      have hlhn6 := putN_len e.seq.toNat (by omega)
      refine J.pick1 7 (by kernel_rfl) (by kernel_rfl) ?_
      have hlhn7 := putText_len e.key (by simp only [maxLen]; omega)
      refine J.callq (d := some 19) (by kernel_rfl) (fun w1 A1 m1 l1 => putText_calls a4 (1 + (putN e.seq.toNat).length) c4 ([0] ++ putN e.seq.toNat) e.key (by simp only [maxLen]; omega) (by omega) nobody w1 noA ((hn6.mv m1).any (fun x _ => rfl) (by decide))) ?_
      rintro _ u6 w10 A10 ⟨a5, c5, rfl, hn7⟩ g6
      refine J.grab hn7 ?_
      have m10 := g6.grab hn7
      replace hz := hz.mv m10; replace hn6 := hn6.mv m10
      replace hn7 := hn7.take g6 rfl
      refine J.take1 [(8, .u)] [1, 3] [(1, .loc 0 0), (3, .v (.slice a5 ((1 + (putN e.seq.toNat).length) + (putText e.key).length) c5))] [8, 7, 4, 6, 5, 3, 2, 1, 0] (calm_body _ _ _) (by kernel_rfl) ?_
      refine J.pdone (by kernel_rfl) ?_
      refine J.rn [.n, .n, .n, .u, .u, .u, .n] [1, 3, 22] [.c 20] [.c 23, .c 26] (by kernel_rfl) ?_
      refine J.cond (b := (!e.del)) (k' := 25) (by kernel_rfl) (fun hc => ?_) (fun hc => ?_)
      · try simp only [nrm] at hc
        have hc4 := hc
        refine J.rn [.n, .u, .u, .u] [23, 25] [.c 24, .c 26] [.o 24 3, .c 26] (by kernel_rfl) ?_
        have hlhn8 := putText_len e.value (by simp only [maxLen]; omega)
        refine J.call (d := some 26) (by kernel_rfl) (fun w1 A1 m1 l1 => putText_calls a5 ((1 + (putN e.seq.toNat).length) + (putText e.key).length) c5 ([0] ++ putN e.seq.toNat ++ putText e.key) e.value (by simp only [maxLen]; omega) (by omega) nobody w1 noA ((hn7.mv m1).any (fun x _ => rfl) (by decide))) ?_
        rintro _ u7 w11 A11 ⟨a6, c6, rfl, hn8⟩ g7
        refine J.grab hn8 ?_
        have m11 := g7.grab hn8
        replace hz := hz.mv m11; replace hn6 := hn6.mv m11; replace hn7 := hn7.mv m11
        replace hn8 := hn8.take g7 rfl
        refine J.rn [.u, .n, .n, .n, .u, .u, .n] [2] [.o 24 4, .c 26] [.c 28] (by kernel_rfl) ?_
        have eb : entB e = [0] ++ putN e.seq.toNat ++ putText e.key ++ putText e.value := by rw [entB, if_pos hc1]; simp_all
        refine J.ret (v := .slice a6 (((1 + (putN e.seq.toNat).length) + (putText e.key).length) + (putText e.value).length) c6) (by kernel_rfl) (by kernel_rfl) (fun w1 A1 m1 hac l1 => by rw [eb]; exact ⟨_, _, _, rfl, by simp; omega, (hn8.mv m1).new⟩)
      · try simp only [nrm] at hc
        have hc4 := hc
        refine J.run [.n, .n, .n, .u, .u, .n] [2] ⟨[(2, .v (.slice a5 ((1 + (putN e.seq.toNat).length) + (putText e.key).length) c5))], [⟨42, encE e⟩]⟩ [.c 25, .c 26] [.c 28] (by kernel_rfl) ?_
        have eb : entB e = [0] ++ putN e.seq.toNat ++ putText e.key := by rw [entB, if_pos hc1]; simp_all
        refine J.ret (v := .slice a5 ((1 + (putN e.seq.toNat).length) + (putText e.key).length) c5) (by kernel_rfl) (by kernel_rfl) (fun w1 A1 m1 hac l1 => by rw [eb]; exact ⟨_, _, _, rfl, by simp; omega, (hn7.mv m1).new⟩)
end Go.Proofs.Ytkgokehkobifkaa.J

/- Package entry: the reader, and Parse. -/
namespace Go.Proofs.Ytkgokehkobifkaa.J
open Go Go.RowKit

theorem getN_le (bs : List UInt8) : (getN bs).2.1 ≤ bs.length := by
  cases h : (getN bs).2.2 with
  | true => exact (getN_ok bs h).2.1
  | false => rw [getN_no bs h]; exact Nat.zero_le _
theorem getN_lt (bs : List UInt8) : (getN bs).1 < 18446744073709551616 := by
  cases h : (getN bs).2.2 with
  | true => exact (getN_ok bs h).2.2
  | false => rw [getN_no bs h]; decide
theorem getT_le (bs : List UInt8) : (getT bs).2.1 ≤ bs.length := by
  unfold getT
  split
  · rename_i h
    have := getN_ok bs h.1
    simp only; omega
  · exact Nat.zero_le _

theorem reader_number (a : Option Addr) (n c : Nat) (bs : List UInt8) (at_ : Nat) (hat : at_ ≤ n) (bad : Bool) (b : Nat) (Ac : Nat → Prop) (W : World) (hA : ∀ k, Ac k → k < W.heap.size) (hrow : W.heap[b]? = some (.cells [.slice a n c, .int .i64 ((at_ : Nat) : Int), .bool bad].toArray 155 (0, 0))) (hAb : Ac b) (hs : Sl 1 u8 Ac W a n c bs) :
    Calls Pr 105 #[.pointer (some ⟨b, 0, none⟩)] W (RB b 155 W fun v cs w => v = .int .u64 ((((getN (bs.drop at_))).1 : Nat) : Int) ∧ cs = [.slice a n c, .int .i64 ((at_ + (getN (bs.drop at_)).2.1 : Nat) : Int), .bool (bad || !(getN (bs.drop at_)).2.2)]) := by
  refine J.enterM (fn := Try.f105) (n := 40) (b := b) (T := 155) (cs := [.slice a n c, .int .i64 ((at_ : Nat) : Int), .bool bad]) (args := []) Try.func105 (by kernel_rfl) (by kernel_rfl) (by kernel_rfl) hA hrow hAb ?_
  have hlen := hs.len; have hcap := hs.cap; simp only [maxLen] at hcap; have hle := hs.le; have hgl := getN_le (bs.drop at_); rw [List.length_drop] at hgl
  refine J.run [.n, .n, .u, .n, .n] [0] ⟨[(0, .loc 0 0)], [⟨155, [.slice a n c, .int .i64 ((at_ : Nat) : Int), .bool bad]⟩]⟩ [.c 0] [.c 3, .c 4] (by kernel_rfl) ?_
  refine J.draw [] nobody (by kernel_rfl) (by kernel_rfl) (fun _ h => h.elim) (fun w1 A1 m1 hr1 hX1 => ?_)
  replace hs := hs.mv m1
  refine J.take0 [(0, .u), (1, .u), (2, .u), (3, .u), (4, .u), (5, .u), (6, .u), (7, .u)] [0, 10, 14] [(0, .loc 0 0), (10, .v (.slice a n c)), (14, .v (.int .i64 ((at_ : Nat) : Int)))] [7, 6, 5, 4, 3, 2, 1, 0] (calm_body _ _ _) (by intro k _ h; exact h) hr1 (by kernel_rfl) ?_
  refine J.slp (j := 8) (a := a) (len := n) (cap := c) (sz := 1) (lo := (some ((at_ : Nat) : Int))) (hi := none) (mx := none) (d := 15) (calm_body _ _ _) (by kernel_rfl) (by kernel_rfl) at_ n c (by simp) (by simp) (by simp) (by have := hs.le; omega) (by have := hs.le; omega) (by have := hs.le; omega) (by simp) ?_
  intro a1 ha1 hb1
  have hp1 := hs.from (L := at_) (by have := hs.le; omega) ha1
  refine J.pick1 9 (by kernel_rfl) (by kernel_rfl) ?_
  refine J.callq (d := some 16) (by kernel_rfl) (fun w1 A1 m1 l1 => get_calls a1 (n - at_) (c - at_) (bs.drop at_) nobody w1 noA (hp1.mv m1).any) ?_
  rintro _ u1 w2 A2 rfl g1
  have m2 := g1.mv
  replace hs := hs.mv m2; replace hp1 := hp1.mv m2
  refine J.take1 [(10, .u), (11, .u), (12, .u), (13, .u), (14, .u), (15, .u), (16, .u)] [0, 3, 4, 5] [(0, .loc 0 0), (3, .v (.int .u64 (((getN (bs.drop at_)).1 : Nat) : Int))), (4, .v (.int .i64 (((getN (bs.drop at_)).2.1 : Nat) : Int))), (5, .v (.bool ((getN (bs.drop at_)).2.2)))] [16, 15, 14, 13, 12, 11, 10, 9, 8, 7, 6, 5, 4, 3, 2, 1, 0] (calm_body _ _ _) (by kernel_rfl) ?_
  refine J.pdone (by kernel_rfl) ?_
  refine J.run [.n, .n, .u, .u, .u, .u, .u, .u, .u, .u, .u, .n, .n, .n, .u, .u, .u, .u, .u, .u] [3, 5, 28, 33] ⟨[(3, .v (.int .u64 (((getN (bs.drop at_)).1 : Nat) : Int))), (5, .v (.bool ((getN (bs.drop at_)).2.2))), (28, .loc 0 0), (33, .v (.bool bad))], [⟨155, [.slice a n c, .int .i64 (IntKind.i64.wrap (((at_ : Nat) : Int) + (((getN (bs.drop at_)).2.1 : Nat) : Int))), .bool bad]⟩]⟩ [.c 4] [.o 7 6, .c 8] (by kernel_rfl) ?_
  have hw1 : IntKind.i64.wrap (((at_ : Nat) : Int) + (((getN (bs.drop at_)).2.1 : Nat) : Int)) = ((at_ + ((getN (bs.drop at_)).2.1) : Nat) : Int) := by rw [wrap_i64 (by omega) (by omega)]; try omega
  rw [hw1]
  rcases Bool.eq_false_or_eq_true bad with hc | hc
  · rw [hc]
    try simp only [nrm] at hc
    have hc1 := hc
    refine J.run [.x, .x, .u, .u, .u, .u, .n, .n, .n, .u, .u, .n] [2] ⟨[(2, .v (.int .u64 (((getN (bs.drop at_)).1 : Nat) : Int)))], [⟨155, [.slice a n c, .int .i64 ((at_ + ((getN (bs.drop at_)).2.1) : Nat) : Int), .bool true]⟩]⟩ [.o 7 6, .c 8] [.c 10] (by kernel_rfl) ?_
    refine J.ret (v := .int .u64 (((getN (bs.drop at_)).1 : Nat) : Int)) (by kernel_rfl) (by kernel_rfl) (fun w1 A1 m1 hac l1 => ⟨_, l1.row (i := 0) rfl, rfl, by simp_all⟩)
  · rw [hc]
    try simp only [nrm] at hc
    have hc1 := hc
    refine J.run [.w, .w, .u, .u, .u, .u, .n, .n, .n, .u, .u, .n] [2] ⟨[(2, .v (.int .u64 (((getN (bs.drop at_)).1 : Nat) : Int)))], [⟨155, [.slice a n c, .int .i64 ((at_ + ((getN (bs.drop at_)).2.1) : Nat) : Int), .bool (!((getN (bs.drop at_)).2.2))]⟩]⟩ [.o 7 6, .c 8] [.c 10] (by kernel_rfl) ?_
    refine J.ret (v := .int .u64 (((getN (bs.drop at_)).1 : Nat) : Int)) (by kernel_rfl) (by kernel_rfl) (fun w1 A1 m1 hac l1 => ⟨_, l1.row (i := 0) rfl, rfl, by simp_all⟩)
theorem reader_text (a : Option Addr) (n c : Nat) (bs : List UInt8) (at_ : Nat) (hat : at_ ≤ n) (bad : Bool) (b : Nat) (Ac : Nat → Prop) (W : World) (hA : ∀ k, Ac k → k < W.heap.size) (hrow : W.heap[b]? = some (.cells [.slice a n c, .int .i64 ((at_ : Nat) : Int), .bool bad].toArray 155 (0, 0))) (hAb : Ac b) (hs : Sl 1 u8 Ac W a n c bs) :
    Calls Pr 106 #[.pointer (some ⟨b, 0, none⟩)] W (RB b 155 W fun v cs w => v = .string (getT (bs.drop at_)).1 ∧ cs = [.slice a n c, .int .i64 ((at_ + (getT (bs.drop at_)).2.1 : Nat) : Int), .bool (bad || !(getT (bs.drop at_)).2.2)]) := by
  refine J.enterM (fn := Try.f106) (n := 40) (b := b) (T := 155) (cs := [.slice a n c, .int .i64 ((at_ : Nat) : Int), .bool bad]) (args := []) Try.func106 (by kernel_rfl) (by kernel_rfl) (by kernel_rfl) hA hrow hAb ?_
  have hlen := hs.len; have hcap := hs.cap; simp only [maxLen] at hcap; have hle := hs.le; have hgl := getT_le (bs.drop at_); rw [List.length_drop] at hgl
  refine J.run [.n, .n, .u, .n, .n] [0] ⟨[(0, .loc 0 0)], [⟨155, [.slice a n c, .int .i64 ((at_ : Nat) : Int), .bool bad]⟩]⟩ [.c 0] [.c 3, .c 4] (by kernel_rfl) ?_
  refine J.draw [] nobody (by kernel_rfl) (by kernel_rfl) (fun _ h => h.elim) (fun w1 A1 m1 hr1 hX1 => ?_)
  replace hs := hs.mv m1
  refine J.take0 [(0, .u), (1, .u), (2, .u), (3, .u), (4, .u), (5, .u), (6, .u), (7, .u)] [0, 10, 14] [(0, .loc 0 0), (10, .v (.slice a n c)), (14, .v (.int .i64 ((at_ : Nat) : Int)))] [7, 6, 5, 4, 3, 2, 1, 0] (calm_body _ _ _) (by intro k _ h; exact h) hr1 (by kernel_rfl) ?_
  refine J.slp (j := 8) (a := a) (len := n) (cap := c) (sz := 1) (lo := (some ((at_ : Nat) : Int))) (hi := none) (mx := none) (d := 15) (calm_body _ _ _) (by kernel_rfl) (by kernel_rfl) at_ n c (by simp) (by simp) (by simp) (by have := hs.le; omega) (by have := hs.le; omega) (by have := hs.le; omega) (by simp) ?_
  intro a1 ha1 hb1
  have hp1 := hs.from (L := at_) (by have := hs.le; omega) ha1
  refine J.pick1 9 (by kernel_rfl) (by kernel_rfl) ?_
  refine J.callq (d := some 16) (by kernel_rfl) (fun w1 A1 m1 l1 => text_calls a1 (n - at_) (c - at_) (bs.drop at_) nobody w1 noA (hp1.mv m1).any) ?_
  rintro _ u1 w2 A2 rfl g1
  have m2 := g1.mv
  replace hs := hs.mv m2; replace hp1 := hp1.mv m2
  refine J.take1 [(10, .u), (11, .u), (12, .u), (13, .u), (14, .u), (15, .u), (16, .u)] [0, 3, 4, 5] [(0, .loc 0 0), (3, .v (.string ((getT (bs.drop at_)).1))), (4, .v (.int .i64 (((getT (bs.drop at_)).2.1 : Nat) : Int))), (5, .v (.bool ((getT (bs.drop at_)).2.2)))] [16, 15, 14, 13, 12, 11, 10, 9, 8, 7, 6, 5, 4, 3, 2, 1, 0] (calm_body _ _ _) (by kernel_rfl) ?_
  refine J.pdone (by kernel_rfl) ?_
  refine J.run [.n, .n, .u, .u, .u, .u, .u, .u, .u, .u, .u, .n, .n, .n, .u, .u, .u, .u, .u, .u] [3, 5, 28, 33] ⟨[(3, .v (.string ((getT (bs.drop at_)).1))), (5, .v (.bool ((getT (bs.drop at_)).2.2))), (28, .loc 0 0), (33, .v (.bool bad))], [⟨155, [.slice a n c, .int .i64 (IntKind.i64.wrap (((at_ : Nat) : Int) + (((getT (bs.drop at_)).2.1 : Nat) : Int))), .bool bad]⟩]⟩ [.c 4] [.o 7 6, .c 8] (by kernel_rfl) ?_
  have hw1 : IntKind.i64.wrap (((at_ : Nat) : Int) + (((getT (bs.drop at_)).2.1 : Nat) : Int)) = ((at_ + ((getT (bs.drop at_)).2.1) : Nat) : Int) := by rw [wrap_i64 (by omega) (by omega)]; try omega
  rw [hw1]
  rcases Bool.eq_false_or_eq_true bad with hc | hc
  · rw [hc]
    try simp only [nrm] at hc
    have hc1 := hc
    refine J.run [.x, .x, .u, .u, .u, .u, .n, .n, .n, .u, .u, .n] [2] ⟨[(2, .v (.string ((getT (bs.drop at_)).1)))], [⟨155, [.slice a n c, .int .i64 ((at_ + ((getT (bs.drop at_)).2.1) : Nat) : Int), .bool true]⟩]⟩ [.o 7 6, .c 8] [.c 10] (by kernel_rfl) ?_
    refine J.ret (v := .string ((getT (bs.drop at_)).1)) (by kernel_rfl) (by kernel_rfl) (fun w1 A1 m1 hac l1 => ⟨_, l1.row (i := 0) rfl, rfl, by simp_all⟩)
  · rw [hc]
    try simp only [nrm] at hc
    have hc1 := hc
    refine J.run [.w, .w, .u, .u, .u, .u, .n, .n, .n, .u, .u, .n] [2] ⟨[(2, .v (.string ((getT (bs.drop at_)).1)))], [⟨155, [.slice a n c, .int .i64 ((at_ + ((getT (bs.drop at_)).2.1) : Nat) : Int), .bool (!((getT (bs.drop at_)).2.2))]⟩]⟩ [.o 7 6, .c 8] [.c 10] (by kernel_rfl) ?_
    refine J.ret (v := .string ((getT (bs.drop at_)).1)) (by kernel_rfl) (by kernel_rfl) (fun w1 A1 m1 hac l1 => ⟨_, l1.row (i := 0) rfl, rfl, by simp_all⟩)
end Go.Proofs.Ytkgokehkobifkaa.J

/- Package entry: Parse. -/
namespace Go.Proofs.Ytkgokehkobifkaa.J
open Go Go.RowKit

/-- What Parse reads. -/
def parsG (bs : List UInt8) := getN (bs.drop 1)
def parsT (bs : List UInt8) := getT (bs.drop (1 + (parsG bs).2.1))
def parsU (bs : List UInt8) := getT (bs.drop (1 + (parsG bs).2.1 + (parsT bs).2.1))
def parsE (bs : List UInt8) : Ent :=
  if bs[0]? = some 1 then ⟨(parsT bs).1, ⟨#[]⟩, true, ((min (parsG bs).1 1099511627777 : Nat) : Int)⟩ else ⟨(parsT bs).1, (parsU bs).1, false, ((min (parsG bs).1 1099511627777 : Nat) : Int)⟩
def parsN (bs : List UInt8) : Nat := 1 + (parsG bs).2.1 + (parsT bs).2.1 + (if bs[0]? = some 1 then 0 else (parsU bs).2.1)
def parsOk (bs : List UInt8) : Prop := (bs[0]? = some 0 ∨ bs[0]? = some 1) ∧ (parsG bs).2.2 = true ∧ (parsT bs).2.2 = true ∧ (bs[0]? = some 1 ∨ (parsU bs).2.2 = true) ∧ (parsE bs).Right
instance (bs : List UInt8) : Decidable (parsOk bs) := by unfold parsOk; exact inferInstance
def pars (bs : List UInt8) : Ent × Nat × Int := if parsOk bs then (parsE bs, parsN bs, 0) else (ent0, 0, 2)

theorem u8_int1 {x : UInt8} : (((x.toNat : Nat) : Int) = 1) ↔ (x = 1) := by
  constructor
  · intro h
    refine UInt8.toNat_inj.1 ?_
    show x.toNat = 1
    omega
  · rintro rfl; rfl
theorem u8_tag {x : UInt8} (h : ¬ 1 < ((x.toNat : Nat) : Int)) : x = 0 ∨ x = 1 := by
  rw [← UInt8.toNat_inj, ← UInt8.toNat_inj]
  show x.toNat = 0 ∨ x.toNat = 1
  omega
theorem u8_tag' {x : UInt8} (h : 1 < ((x.toNat : Nat) : Int)) : ¬ (x = 0 ∨ x = 1) := by
  rw [← UInt8.toNat_inj, ← UInt8.toNat_inj]
  show ¬ (x.toNat = 0 ∨ x.toNat = 1)
  omega

theorem pars_tag {bs : List UInt8} (h : ¬ (bs[0]? = some 0 ∨ bs[0]? = some 1)) : pars bs = (ent0, 0, 2) := if_neg fun q => h q.1
theorem pars_bad1 {bs : List UInt8} (h1 : bs[0]? = some 1) (h : ¬ ((getN (bs.drop 1)).2.2 = true ∧ (getT (bs.drop (1 + (getN (bs.drop 1)).2.1))).2.2 = true ∧
    Ent.Right ⟨(getT (bs.drop (1 + (getN (bs.drop 1)).2.1))).1, ⟨#[]⟩, true, ((min (getN (bs.drop 1)).1 1099511627777 : Nat) : Int)⟩)) : pars bs = (ent0, 0, 2) :=
  if_neg fun q => h ⟨q.2.1, q.2.2.1, by have := q.2.2.2.2; rw [parsE, if_pos h1] at this; exact this⟩
theorem pars_bad0 {bs : List UInt8} (h1 : bs[0]? = some 0) (h : ¬ ((getN (bs.drop 1)).2.2 = true ∧ (getT (bs.drop (1 + (getN (bs.drop 1)).2.1))).2.2 = true ∧
    (getT (bs.drop (1 + (getN (bs.drop 1)).2.1 + (getT (bs.drop (1 + (getN (bs.drop 1)).2.1))).2.1))).2.2 = true ∧
    Ent.Right ⟨(getT (bs.drop (1 + (getN (bs.drop 1)).2.1))).1, (getT (bs.drop (1 + (getN (bs.drop 1)).2.1 + (getT (bs.drop (1 + (getN (bs.drop 1)).2.1))).2.1))).1, false, ((min (getN (bs.drop 1)).1 1099511627777 : Nat) : Int)⟩)) : pars bs = (ent0, 0, 2) :=
  if_neg fun q => h ⟨q.2.1, q.2.2.1, by have := q.2.2.2.1; rw [h1] at this; exact this.resolve_left (by decide), by have := q.2.2.2.2; rw [parsE, if_neg (by rw [h1]; decide)] at this; exact this⟩
theorem pars_good1 {bs : List UInt8} (h1 : bs[0]? = some 1) (h : (getN (bs.drop 1)).2.2 = true ∧ (getT (bs.drop (1 + (getN (bs.drop 1)).2.1))).2.2 = true ∧
    Ent.Right ⟨(getT (bs.drop (1 + (getN (bs.drop 1)).2.1))).1, ⟨#[]⟩, true, ((min (getN (bs.drop 1)).1 1099511627777 : Nat) : Int)⟩) :
    pars bs = (⟨(getT (bs.drop (1 + (getN (bs.drop 1)).2.1))).1, ⟨#[]⟩, true, ((min (getN (bs.drop 1)).1 1099511627777 : Nat) : Int)⟩, 1 + (getN (bs.drop 1)).2.1 + (getT (bs.drop (1 + (getN (bs.drop 1)).2.1))).2.1, 0) := by
  have hE : parsE bs = ⟨(getT (bs.drop (1 + (getN (bs.drop 1)).2.1))).1, ⟨#[]⟩, true, ((min (getN (bs.drop 1)).1 1099511627777 : Nat) : Int)⟩ := by rw [parsE, if_pos h1]; rfl
  rw [pars, if_pos ⟨.inr h1, h.1, h.2.1, .inl h1, hE ▸ h.2.2⟩, hE, parsN, if_pos h1]; rfl
theorem pars_good0 {bs : List UInt8} (h1 : bs[0]? = some 0) (h : (getN (bs.drop 1)).2.2 = true ∧ (getT (bs.drop (1 + (getN (bs.drop 1)).2.1))).2.2 = true ∧
    (getT (bs.drop (1 + (getN (bs.drop 1)).2.1 + (getT (bs.drop (1 + (getN (bs.drop 1)).2.1))).2.1))).2.2 = true ∧
    Ent.Right ⟨(getT (bs.drop (1 + (getN (bs.drop 1)).2.1))).1, (getT (bs.drop (1 + (getN (bs.drop 1)).2.1 + (getT (bs.drop (1 + (getN (bs.drop 1)).2.1))).2.1))).1, false, ((min (getN (bs.drop 1)).1 1099511627777 : Nat) : Int)⟩) :
    pars bs = (⟨(getT (bs.drop (1 + (getN (bs.drop 1)).2.1))).1, (getT (bs.drop (1 + (getN (bs.drop 1)).2.1 + (getT (bs.drop (1 + (getN (bs.drop 1)).2.1))).2.1))).1, false, ((min (getN (bs.drop 1)).1 1099511627777 : Nat) : Int)⟩,
      1 + (getN (bs.drop 1)).2.1 + (getT (bs.drop (1 + (getN (bs.drop 1)).2.1))).2.1 + (getT (bs.drop (1 + (getN (bs.drop 1)).2.1 + (getT (bs.drop (1 + (getN (bs.drop 1)).2.1))).2.1))).2.1, 0) := by
  have hE : parsE bs = ⟨(getT (bs.drop (1 + (getN (bs.drop 1)).2.1))).1, (getT (bs.drop (1 + (getN (bs.drop 1)).2.1 + (getT (bs.drop (1 + (getN (bs.drop 1)).2.1))).2.1))).1, false, ((min (getN (bs.drop 1)).1 1099511627777 : Nat) : Int)⟩ := by
    rw [parsE, if_neg (by rw [h1]; decide)]; rfl
  rw [pars, if_pos ⟨.inl h1, h.1, h.2.1, .inr h.2.2.1, hE ▸ h.2.2.2⟩, hE, parsN, if_neg (by rw [h1]; decide)]; rfl

theorem bad1_of {g t : Bool} (h1 : g = true) (h2 : t = true) (h : (false = true ∨ g = false) ∨ t = false) : False := by subst h1 h2; simp at h
theorem bad0_of {g t u : Bool} (h1 : g = true) (h2 : t = true) (h3 : u = true) (h : ((false = true ∨ g = false) ∨ t = false) ∨ u = false) : False := by subst h1 h2 h3; simp at h
theorem good1_of {g t : Bool} {R : Prop} (h : (True ∧ g = true) ∧ t = true) (hr : R) : g = true ∧ t = true ∧ R := ⟨h.1.2, h.2, hr⟩
theorem good0_of {g t u : Bool} {R : Prop} (h : ((True ∧ g = true) ∧ t = true) ∧ u = true) (hr : R) : g = true ∧ t = true ∧ u = true ∧ R := ⟨h.1.1.2, h.1.2, h.2, hr⟩

theorem parse_calls (a : Option Addr) (n c : Nat) (bs : List UInt8) (Ac : Nat → Prop) (W : World) (hA : ∀ k, Ac k → k < W.heap.size) (hs : Sl 1 u8 Ac W a n c bs) :
    Calls Pr 87 #[.slice a n c] W (Ret nobody W fun v w => v = .tuple #[.agg (encE (pars bs).1).toArray, .int .i64 (((pars bs).2.1 : Nat) : Int), .int .i64 (pars bs).2.2]) := by
  refine J.enter (fn := Try.f87) (n := 54) Try.func87 (by kernel_rfl) (by kernel_rfl) (by kernel_rfl) hA ?_
  have hlen := hs.len; have hle := hs.le; have hcap := hs.cap; simp only [maxLen] at hcap
  have hmin : (if 1099511627777 < (((getN (bs.drop 1)).1 : Nat) : Int) then 1099511627777 else (((getN (bs.drop 1)).1 : Nat) : Int)) = ((min (getN (bs.drop 1)).1 1099511627777 : Nat) : Int) := by split <;> omega
  refine J.rn [.n, .n] [0] [.c 0] [.o 1 0, .c 2] (by kernel_rfl) ?_
  refine J.new (T := 42) (cs := [.string (⟨#[]⟩ : Str), .string (⟨#[]⟩ : Str), .bool false, .int .i64 0]) (d := 2) (K := .ptr) (by kernel_rfl) (fun b1 hb1 => ?_)
  refine J.run [.u, .u, .n, .n, .n, .n, .u, .u, .u, .u] [0, 2, 11] ⟨[(0, .v (.slice a n c)), (2, .loc 0 0), (11, .v (.bool (((n : Nat) : Int) == 0)))], [⟨42, [.string (⟨#[]⟩ : Str), .string (⟨#[]⟩ : Str), .bool false, .int .i64 0]⟩]⟩ [.o 1 1, .c 2] [.o 4 4, .c 5, .c 10] (by kernel_rfl) ?_
  rcases Bool.eq_false_or_eq_true (((n : Nat) : Int) == 0) with hc | hc
  · rw [hc]
    try simp only [nrm] at hc
    have hc1 := hc
    refine J.rn [.x, .x, .x, .x, .u, .n] [0, 2, 16] [.o 4 4, .c 5, .c 10] [.c 5, .c 10] (by kernel_rfl) ?_
    refine J.cond (b := true) (k' := 9) (by kernel_rfl) (fun _ => ?_) (fun hc => absurd hc (by decide))
    refine J.rn [.n, .n, .u, .u, .u, .u, .n] [2, 3, 4] [.c 6, .c 10] [.c 8, .c 10] (by kernel_rfl) ?_
    refine J.ret (v := .tuple #[.agg [.string (⟨#[]⟩ : Str), .string (⟨#[]⟩ : Str), .bool false, .int .i64 0].toArray, .int .i64 0, .int .i64 2]) (by kernel_rfl) (by kernel_rfl) (fun w1 A1 m1 hac l1 => by rw [pars_tag (by rw [List.getElem?_eq_none (by omega)]; simp)]; rfl)
  · rw [hc]
    try simp only [nrm] at hc
    have hc1 := hc
    refine J.rn [.w] [0, 2, 11, 12] [.o 4 4, .c 5, .c 10] [.o 4 5, .c 5, .c 10] (by kernel_rfl) ?_
    obtain ⟨p1, o1, rfl⟩ := hs.addr (by omega)
    refine J.idx (b := p1) (off := o1) (len := n) (i := 0) (sz := 1) (d := 13) (by kernel_rfl) (by omega) (by omega) ?_
    obtain ⟨x1, hx1⟩ : ∃ x, (bs)[0]? = some x := ⟨_, List.getElem?_eq_getElem (by omega)⟩
    refine J.ld (T := 5) (b := p1) (off := o1 + 0 * 1) (d := 14) (v := .int .u8 ((x1.toNat : Nat) : Int)) (by kernel_rfl) (fun w1 A1 m1 l1 => (hs.mv m1).ld1 (by kernel_rfl) hx1 (j := 0) rfl) ?_
    refine J.run [.w, .u, .n] [0, 2, 16] ⟨[(0, .v (.slice (some ⟨p1, o1, none⟩) n c)), (2, .loc 0 0), (16, .v (.bool (decide (((x1.toNat : Nat) : Int) > 1))))], [⟨42, [.string (⟨#[]⟩ : Str), .string (⟨#[]⟩ : Str), .bool false, .int .i64 0]⟩]⟩ [.o 4 7, .c 5, .c 10] [.c 5, .c 10] (by kernel_rfl) ?_
    refine J.cond (b := (decide (((x1.toNat : Nat) : Int) > 1))) (k' := 9) (by kernel_rfl) (fun hc => ?_) (fun hc => ?_)
    · try simp only [nrm] at hc
      have hc2 := hc
      refine J.rn [.n, .n, .u, .u, .u, .u, .n] [2, 3, 4] [.c 6, .c 10] [.c 8, .c 10] (by kernel_rfl) ?_
      refine J.ret (v := .tuple #[.agg [.string (⟨#[]⟩ : Str), .string (⟨#[]⟩ : Str), .bool false, .int .i64 0].toArray, .int .i64 0, .int .i64 2]) (by kernel_rfl) (by kernel_rfl) (fun w1 A1 m1 hac l1 => by rw [pars_tag (by rw [hx1, Option.some_inj, Option.some_inj]; exact u8_tag' (by assumption))]; rfl)
    · try simp only [nrm] at hc
      have hc2 := hc
      refine J.rn [.n, .n, .n, .u, .u] [0, 2, 19] [.c 9, .c 10] [.o 11 2, .c 12] (by kernel_rfl) ?_
      refine J.new (T := 155) (cs := [.slice (some ⟨p1, o1, none⟩) n c, .int .i64 1, .bool false]) (d := 20) (K := .ptr) (by kernel_rfl) (fun b2 hb2 => ?_)
      refine J.run [.u, .n, .n, .n, .u] [0, 2, 5, 21] ⟨[(0, .v (.slice (some ⟨p1, o1, none⟩) n c)), (2, .loc 0 0), (5, .loc 1 0), (21, .loc 1 0)], [⟨42, [.string (⟨#[]⟩ : Str), .string (⟨#[]⟩ : Str), .bool false, .int .i64 0]⟩, ⟨155, [.slice (some ⟨p1, o1, none⟩) n c, .int .i64 1, .bool false]⟩]⟩ [.o 11 3, .c 12] [.o 13 1, .c 14] (by kernel_rfl) ?_
      have hgb2 := getN_le (bs.drop 1); rw [List.length_drop] at hgb2
      refine J.callM (d := some 22) 1 rfl rfl (by kernel_rfl) (fun w1 A1 m1 l1 a1 => reader_number (some ⟨p1, o1, none⟩) n c bs 1 (by omega) false b2 (fun k => k = b2) w1 (oneA (m1.bdd _ a1)) (l1.row (i := 1) rfl) rfl ((hs.mv m1).one a1)) ?_
      rintro _ _ u1 w1 A1 ⟨rfl, rfl⟩ g1
      have m1 := g1.mv
      replace hs := hs.mv m1
      refine J.run [.u, .n, .n] [0, 2, 5, 6] ⟨[(0, .v (.slice (some ⟨p1, o1, none⟩) n c)), (2, .loc 0 0), (5, .loc 1 0), (6, .v (.int .u64 (((getN (bs.drop 1)).1 : Nat) : Int)))], [⟨42, [.string (⟨#[]⟩ : Str), .string (⟨#[]⟩ : Str), .bool false, .int .i64 0]⟩, ⟨155, [.slice (some ⟨p1, o1, none⟩) n c, .int .i64 ((1 + (getN (bs.drop 1)).2.1 : Nat) : Int), .bool (false || !(getN (bs.drop 1)).2.2)]⟩]⟩ [.o 13 2, .c 14] [.c 15, .c 16] (by kernel_rfl) ?_
      refine J.draw [1] nobody (by kernel_rfl) (by kernel_rfl) (fun _ h => h.elim) (fun w2 A2 m2 hr1 hX1 => ?_)
      replace hs := hs.mv m2
      refine J.take0 [(0, .u), (2, .u), (6, .u), (7, .u), (8, .u)] [2, 5, 23, 25, 31] [(2, .loc 0 0), (5, .loc 1 0), (23, .loc 1 0), (25, .v (.slice (some ⟨p1, o1, none⟩) n c)), (31, .v (.int .i64 (IntKind.i64.wrap (if 1099511627777 < (((getN (bs.drop 1)).1 : Nat) : Int) then 1099511627777 else (((getN (bs.drop 1)).1 : Nat) : Int)))))] [8, 7, 6, 2, 0] (calm_body _ _ _) (by intro k _ h; exact h) hr1 (by kernel_rfl) ?_
      rw [hmin]
      have hw1 : IntKind.i64.wrap ((min (getN (bs.drop 1)).1 1099511627777 : Nat) : Int) = ((min (getN (bs.drop 1)).1 1099511627777 : Nat) : Int) := by rw [wrap_i64 (by omega) (by omega)]
      rw [hw1]
      refine J.idxp (j := 3) (b := p1) (off := o1) (len := n) (i := 0) (sz := 1) (d := 26) (calm_body _ _ _) (by kernel_rfl) (by kernel_rfl) (by omega) (by omega) ?_
      refine J.ldp (i := 4) (T := 5) (b := p1) (off := o1 + 0 * 1) (d := 27) (v := .int .u8 ((x1.toNat : Nat) : Int)) (calm_body _ _ _) (by kernel_rfl) (by kernel_rfl) hX1 (fun w1 m1 => (hs.mv m1).ld1 (by kernel_rfl) hx1 (j := 0) rfl) ?_
      refine J.take0 [(5, .u)] [2, 5, 23, 28, 31] [(2, .loc 0 0), (5, .loc 1 0), (23, .loc 1 0), (28, .v (.bool (((x1.toNat : Nat) : Int) == 1))), (31, .v (.int .i64 ((min (getN (bs.drop 1)).1 1099511627777 : Nat) : Int)))] [5, 4, 3, 8, 7, 6, 2, 0] (calm_body _ _ _) (by intro k _ h; exact h) hr1 (by kernel_rfl) ?_
      refine J.pick [1, 10] (by kernel_rfl) (by kernel_rfl) (by simp) (fun i hi => ?_)
      simp only [List.mem_cons, List.not_mem_nil, or_false] at hi
      rcases hi with rfl | rfl
      · skip
        have hgb2 := getT_le (bs.drop (1 + (getN (bs.drop 1)).2.1)); rw [List.length_drop] at hgb2
        refine J.callMq (d := some 24) 1 rfl rfl (by kernel_rfl) (.inl (.inr ⟨1, by simp, by simp, rfl⟩)) (fun w1 A1 m1 l1 a1 => reader_text (some ⟨p1, o1, none⟩) n c bs (1 + (getN (bs.drop 1)).2.1) (by omega) (false || !(getN (bs.drop 1)).2.2) b2 (fun k => k = b2) w1 (oneA (m1.bdd _ a1)) (l1.row (i := 1) rfl) rfl ((hs.mv m1).one a1)) ?_
        rintro _ _ u2 w3 A3 ⟨rfl, rfl⟩ g2
        have m3 := g2.mv
        replace hs := hs.mv m3
        refine J.take1 [(9, .u)] [2, 5, 32] [(2, .loc 0 0), (5, .loc 1 0), (32, .v (.agg [.string ((getT (bs.drop (1 + (getN (bs.drop 1)).2.1))).1), .string (⟨#[]⟩ : Str), .bool (((x1.toNat : Nat) : Int) == 1), .int .i64 ((min (getN (bs.drop 1)).1 1099511627777 : Nat) : Int)].toArray))] [9, 1, 5, 4, 3, 8, 7, 6, 2, 0] (calm_body _ _ _) (by kernel_rfl) ?_
        refine J.pick1 10 (by kernel_rfl) (by kernel_rfl) ?_
        refine J.newq (T := 42) (cs := [.string (⟨#[]⟩ : Str), .string (⟨#[]⟩ : Str), .bool false, .int .i64 0]) (d := 7) (K := .ptr) (by kernel_rfl) (fun b3 hb3 => ?_)
        refine J.pick1 11 (by kernel_rfl) (by kernel_rfl) ?_
        refine J.storeqN (i := 2) (m' := [⟨42, [.string (⟨#[]⟩ : Str), .string (⟨#[]⟩ : Str), .bool false, .int .i64 0]⟩, ⟨155, [.slice (some ⟨p1, o1, none⟩) n c, .int .i64 ((1 + (getN (bs.drop 1)).2.1 + (getT (bs.drop (1 + (getN (bs.drop 1)).2.1))).2.1 : Nat) : Int), .bool ((false || !(getN (bs.drop 1)).2.2) || !(getT (bs.drop (1 + (getN (bs.drop 1)).2.1))).2.2)]⟩, ⟨42, [.string ((getT (bs.drop (1 + (getN (bs.drop 1)).2.1))).1), .string (⟨#[]⟩ : Str), .bool (((x1.toNat : Nat) : Int) == 1), .int .i64 ((min (getN (bs.drop 1)).1 1099511627777 : Nat) : Int)]⟩]) (by kernel_rfl) (show w2.heap.size ≤ b3 by have := m3.size; omega) ?_
        refine J.pdone (by kernel_rfl) ?_
        refine J.rn [.n, .n, .n, .u, .u, .u, .n] [2, 5, 7, 35] [.c 16] [.c 19, .c 22] (by kernel_rfl) ?_
        refine J.cond (b := (!(((x1.toNat : Nat) : Int) == 1))) (k' := 21) (by kernel_rfl) (fun hc => ?_) (fun hc => ?_)
        · try simp only [nrm] at hc
          have hc3 := hc
          refine J.run [.n, .u] [2, 5, 7, 36] ⟨[(2, .loc 0 0), (5, .loc 1 0), (7, .loc 2 0), (36, .loc 1 0)], [⟨42, [.string (⟨#[]⟩ : Str), .string (⟨#[]⟩ : Str), .bool false, .int .i64 0]⟩, ⟨155, [.slice (some ⟨p1, o1, none⟩) n c, .int .i64 ((1 + (getN (bs.drop 1)).2.1 + (getT (bs.drop (1 + (getN (bs.drop 1)).2.1))).2.1 : Nat) : Int), .bool ((false || !(getN (bs.drop 1)).2.2) || !(getT (bs.drop (1 + (getN (bs.drop 1)).2.1))).2.2)]⟩, ⟨42, [.string ((getT (bs.drop (1 + (getN (bs.drop 1)).2.1))).1), .string (⟨#[]⟩ : Str), .bool (((x1.toNat : Nat) : Int) == 1), .int .i64 ((min (getN (bs.drop 1)).1 1099511627777 : Nat) : Int)]⟩]⟩ [.c 20, .c 22] [.o 20 1, .c 22] (by kernel_rfl) ?_
          have hgb2 := getT_le (bs.drop (1 + (getN (bs.drop 1)).2.1 + (getT (bs.drop (1 + (getN (bs.drop 1)).2.1))).2.1)); rw [List.length_drop] at hgb2
          refine J.callM (d := some 37) 1 rfl rfl (by kernel_rfl) (fun w1 A1 m1 l1 a1 => reader_text (some ⟨p1, o1, none⟩) n c bs (1 + (getN (bs.drop 1)).2.1 + (getT (bs.drop (1 + (getN (bs.drop 1)).2.1))).2.1) (by omega) ((false || !(getN (bs.drop 1)).2.2) || !(getT (bs.drop (1 + (getN (bs.drop 1)).2.1))).2.2) b2 (fun k => k = b2) w1 (oneA (m1.bdd _ a1)) (l1.row (i := 1) rfl) rfl ((hs.mv m1).one a1)) ?_
          rintro _ _ u3 w4 A4 ⟨rfl, rfl⟩ g3
          have m4 := g3.mv
          replace hs := hs.mv m4
          refine J.run [.u, .u, .n, .n, .n, .n, .u, .u, .u, .u, .u] [2, 5, 7, 43] ⟨[(2, .loc 0 0), (5, .loc 1 0), (7, .loc 2 0), (43, .v (.bool (((false || !(getN (bs.drop 1)).2.2) || !(getT (bs.drop (1 + (getN (bs.drop 1)).2.1))).2.2) || !(getT (bs.drop (1 + (getN (bs.drop 1)).2.1 + (getT (bs.drop (1 + (getN (bs.drop 1)).2.1))).2.1))).2.2)))], [⟨42, [.string (⟨#[]⟩ : Str), .string (⟨#[]⟩ : Str), .bool false, .int .i64 0]⟩, ⟨155, [.slice (some ⟨p1, o1, none⟩) n c, .int .i64 ((1 + (getN (bs.drop 1)).2.1 + (getT (bs.drop (1 + (getN (bs.drop 1)).2.1))).2.1 + (getT (bs.drop (1 + (getN (bs.drop 1)).2.1 + (getT (bs.drop (1 + (getN (bs.drop 1)).2.1))).2.1))).2.1 : Nat) : Int), .bool (((false || !(getN (bs.drop 1)).2.2) || !(getT (bs.drop (1 + (getN (bs.drop 1)).2.1))).2.2) || !(getT (bs.drop (1 + (getN (bs.drop 1)).2.1 + (getT (bs.drop (1 + (getN (bs.drop 1)).2.1))).2.1))).2.2)]⟩, ⟨42, [.string ((getT (bs.drop (1 + (getN (bs.drop 1)).2.1))).1), .string ((getT (bs.drop (1 + (getN (bs.drop 1)).2.1 + (getT (bs.drop (1 + (getN (bs.drop 1)).2.1))).2.1))).1), .bool (((x1.toNat : Nat) : Int) == 1), .int .i64 ((min (getN (bs.drop 1)).1 1099511627777 : Nat) : Int)]⟩]⟩ [.o 20 2, .c 22] [.o 24 5, .c 25, .c 30] (by kernel_rfl) ?_
          rcases Bool.eq_false_or_eq_true (((false || !(getN (bs.drop 1)).2.2) || !(getT (bs.drop (1 + (getN (bs.drop 1)).2.1))).2.2) || !(getT (bs.drop (1 + (getN (bs.drop 1)).2.1 + (getT (bs.drop (1 + (getN (bs.drop 1)).2.1))).2.1))).2.2) with hc | hc
          · rw [hc]
            try simp only [nrm] at hc
            have hc4 := hc
            refine J.rn [.x, .x, .x, .u, .n] [2, 5, 7, 47] [.o 24 5, .c 25, .c 30] [.c 25, .c 30] (by kernel_rfl) ?_
            refine J.cond (b := true) (k' := 29) (by kernel_rfl) (fun _ => ?_) (fun hc => absurd hc (by decide))
            refine J.rn [.n, .n, .u, .u, .u, .u, .n] [2, 3, 4] [.c 26, .c 30] [.c 28, .c 30] (by kernel_rfl) ?_
            have hcT := hc3
            have ht : bs[0]? = some 0 := by rw [hx1]; rw [(u8_tag (x := x1) (by omega)).resolve_right (fun h => hcT (u8_int1.2 h))]
            have hd : (((x1.toNat : Nat) : Int) == 1) = false := beq_eq_false_iff_ne.2 hcT
            skip
            refine J.ret (v := .tuple #[.agg [.string (⟨#[]⟩ : Str), .string (⟨#[]⟩ : Str), .bool false, .int .i64 0].toArray, .int .i64 0, .int .i64 2]) (by kernel_rfl) (by kernel_rfl) (fun w1 A1 m1 hac l1 => by rw [pars_bad0 ht (fun q => bad0_of q.1 q.2.1 q.2.2.1 hc4)]; rfl)
          · rw [hc]
            try simp only [nrm] at hc
            have hc4 := hc
            refine J.rn [.w] [2, 5, 7, 43, 44] [.o 24 5, .c 25, .c 30] [.o 24 6, .c 25, .c 30] (by kernel_rfl) ?_
            refine J.call (d := some 45) (by kernel_rfl) (fun w1 A1 m1 l1 => right_calls (⟨(getT (bs.drop (1 + (getN (bs.drop 1)).2.1))).1, (getT (bs.drop (1 + (getN (bs.drop 1)).2.1 + (getT (bs.drop (1 + (getN (bs.drop 1)).2.1))).2.1))).1, (((x1.toNat : Nat) : Int) == 1), ((min (getN (bs.drop 1)).1 1099511627777 : Nat) : Int)⟩ : Ent) nobody w1 noA) ?_
            rintro _ u4 w5 A5 rfl g4
            have m5 := g4.mv
            replace hs := hs.mv m5
            refine J.run [.w, .u, .n] [2, 5, 7, 47] ⟨[(2, .loc 0 0), (5, .loc 1 0), (7, .loc 2 0), (47, .v (.bool (!(decide (⟨(getT (bs.drop (1 + (getN (bs.drop 1)).2.1))).1, (getT (bs.drop (1 + (getN (bs.drop 1)).2.1 + (getT (bs.drop (1 + (getN (bs.drop 1)).2.1))).2.1))).1, (((x1.toNat : Nat) : Int) == 1), ((min (getN (bs.drop 1)).1 1099511627777 : Nat) : Int)⟩ : Ent).Right))))], [⟨42, [.string (⟨#[]⟩ : Str), .string (⟨#[]⟩ : Str), .bool false, .int .i64 0]⟩, ⟨155, [.slice (some ⟨p1, o1, none⟩) n c, .int .i64 ((1 + (getN (bs.drop 1)).2.1 + (getT (bs.drop (1 + (getN (bs.drop 1)).2.1))).2.1 + (getT (bs.drop (1 + (getN (bs.drop 1)).2.1 + (getT (bs.drop (1 + (getN (bs.drop 1)).2.1))).2.1))).2.1 : Nat) : Int), .bool false]⟩, ⟨42, [.string ((getT (bs.drop (1 + (getN (bs.drop 1)).2.1))).1), .string ((getT (bs.drop (1 + (getN (bs.drop 1)).2.1 + (getT (bs.drop (1 + (getN (bs.drop 1)).2.1))).2.1))).1), .bool (((x1.toNat : Nat) : Int) == 1), .int .i64 ((min (getN (bs.drop 1)).1 1099511627777 : Nat) : Int)]⟩]⟩ [.o 24 7, .c 25, .c 30] [.c 25, .c 30] (by kernel_rfl) ?_
            refine J.cond (b := (!(decide (⟨(getT (bs.drop (1 + (getN (bs.drop 1)).2.1))).1, (getT (bs.drop (1 + (getN (bs.drop 1)).2.1 + (getT (bs.drop (1 + (getN (bs.drop 1)).2.1))).2.1))).1, (((x1.toNat : Nat) : Int) == 1), ((min (getN (bs.drop 1)).1 1099511627777 : Nat) : Int)⟩ : Ent).Right))) (k' := 29) (by kernel_rfl) (fun hc => ?_) (fun hc => ?_)
            · try simp only [nrm] at hc
              have hc5 := hc
              refine J.rn [.n, .n, .u, .u, .u, .u, .n] [2, 3, 4] [.c 26, .c 30] [.c 28, .c 30] (by kernel_rfl) ?_
              have hcT := hc3
              have ht : bs[0]? = some 0 := by rw [hx1]; rw [(u8_tag (x := x1) (by omega)).resolve_right (fun h => hcT (u8_int1.2 h))]
              have hd : (((x1.toNat : Nat) : Int) == 1) = false := beq_eq_false_iff_ne.2 hcT
              rw [hd] at hc5
              refine J.ret (v := .tuple #[.agg [.string (⟨#[]⟩ : Str), .string (⟨#[]⟩ : Str), .bool false, .int .i64 0].toArray, .int .i64 0, .int .i64 2]) (by kernel_rfl) (by kernel_rfl) (fun w1 A1 m1 hac l1 => by rw [pars_bad0 ht (fun q => hc5 q.2.2.2)]; rfl)
            · try simp only [nrm] at hc
              have hc5 := hc
              refine J.run [.n, .n] [2, 5, 7] ⟨[(2, .loc 0 0), (5, .loc 1 0), (7, .loc 2 0)], [⟨42, [.string (⟨#[]⟩ : Str), .string (⟨#[]⟩ : Str), .bool false, .int .i64 0]⟩, ⟨155, [.slice (some ⟨p1, o1, none⟩) n c, .int .i64 ((1 + (getN (bs.drop 1)).2.1 + (getT (bs.drop (1 + (getN (bs.drop 1)).2.1))).2.1 + (getT (bs.drop (1 + (getN (bs.drop 1)).2.1 + (getT (bs.drop (1 + (getN (bs.drop 1)).2.1))).2.1))).2.1 : Nat) : Int), .bool false]⟩, ⟨42, [.string ((getT (bs.drop (1 + (getN (bs.drop 1)).2.1))).1), .string ((getT (bs.drop (1 + (getN (bs.drop 1)).2.1 + (getT (bs.drop (1 + (getN (bs.drop 1)).2.1))).2.1))).1), .bool (((x1.toNat : Nat) : Int) == 1), .int .i64 ((min (getN (bs.drop 1)).1 1099511627777 : Nat) : Int)]⟩]⟩ [.c 29, .c 30] [.c 31, .c 32] (by kernel_rfl) ?_
              refine J.draw [0] nobody (by kernel_rfl) (by kernel_rfl) (fun _ h => h.elim) (fun w6 A6 m6 hr2 hX2 => ?_)
              replace hs := hs.mv m6
              refine J.take0 [(0, .u), (1, .u), (2, .u), (3, .u), (4, .u)] [2, 49, 53] [(2, .loc 0 0), (49, .v (.agg [.string ((getT (bs.drop (1 + (getN (bs.drop 1)).2.1))).1), .string ((getT (bs.drop (1 + (getN (bs.drop 1)).2.1 + (getT (bs.drop (1 + (getN (bs.drop 1)).2.1))).2.1))).1), .bool (((x1.toNat : Nat) : Int) == 1), .int .i64 ((min (getN (bs.drop 1)).1 1099511627777 : Nat) : Int)].toArray)), (53, .v (.int .i64 ((1 + (getN (bs.drop 1)).2.1 + (getT (bs.drop (1 + (getN (bs.drop 1)).2.1))).2.1 + (getT (bs.drop (1 + (getN (bs.drop 1)).2.1 + (getT (bs.drop (1 + (getN (bs.drop 1)).2.1))).2.1))).2.1 : Nat) : Int)))] [4, 3, 2, 1, 0] (calm_body _ _ _) (by intro k _ h; exact h) hr2 (by kernel_rfl) ?_
              refine J.pick1 5 (by kernel_rfl) (by kernel_rfl) ?_
              refine J.storeq (i := 0) (m' := [⟨42, [.string ((getT (bs.drop (1 + (getN (bs.drop 1)).2.1))).1), .string ((getT (bs.drop (1 + (getN (bs.drop 1)).2.1 + (getT (bs.drop (1 + (getN (bs.drop 1)).2.1))).2.1))).1), .bool (((x1.toNat : Nat) : Int) == 1), .int .i64 ((min (getN (bs.drop 1)).1 1099511627777 : Nat) : Int)]⟩, ⟨155, [.slice (some ⟨p1, o1, none⟩) n c, .int .i64 ((1 + (getN (bs.drop 1)).2.1 + (getT (bs.drop (1 + (getN (bs.drop 1)).2.1))).2.1 + (getT (bs.drop (1 + (getN (bs.drop 1)).2.1 + (getT (bs.drop (1 + (getN (bs.drop 1)).2.1))).2.1))).2.1 : Nat) : Int), .bool false]⟩, ⟨42, [.string ((getT (bs.drop (1 + (getN (bs.drop 1)).2.1))).1), .string ((getT (bs.drop (1 + (getN (bs.drop 1)).2.1 + (getT (bs.drop (1 + (getN (bs.drop 1)).2.1))).2.1))).1), .bool (((x1.toNat : Nat) : Int) == 1), .int .i64 ((min (getN (bs.drop 1)).1 1099511627777 : Nat) : Int)]⟩]) (by kernel_rfl) (by simp) rfl (by simp) ?_
              refine J.take1 [(6, .u), (7, .u)] [2, 3, 4] [(2, .loc 0 0), (3, .v (.int .i64 ((1 + (getN (bs.drop 1)).2.1 + (getT (bs.drop (1 + (getN (bs.drop 1)).2.1))).2.1 + (getT (bs.drop (1 + (getN (bs.drop 1)).2.1 + (getT (bs.drop (1 + (getN (bs.drop 1)).2.1))).2.1))).2.1 : Nat) : Int))), (4, .v (.int .i64 0))] [7, 6, 5, 4, 3, 2, 1, 0] (calm_body _ _ _) (by kernel_rfl) ?_
              refine J.pdone (by kernel_rfl) ?_
              have hcT := hc3
              have ht : bs[0]? = some 0 := by rw [hx1]; rw [(u8_tag (x := x1) (by omega)).resolve_right (fun h => hcT (u8_int1.2 h))]
              have hd : (((x1.toNat : Nat) : Int) == 1) = false := beq_eq_false_iff_ne.2 hcT
              rw [hd] at hc5
              refine J.ret (v := .tuple #[.agg [.string ((getT (bs.drop (1 + (getN (bs.drop 1)).2.1))).1), .string ((getT (bs.drop (1 + (getN (bs.drop 1)).2.1 + (getT (bs.drop (1 + (getN (bs.drop 1)).2.1))).2.1))).1), .bool (((x1.toNat : Nat) : Int) == 1), .int .i64 ((min (getN (bs.drop 1)).1 1099511627777 : Nat) : Int)].toArray, .int .i64 ((1 + (getN (bs.drop 1)).2.1 + (getT (bs.drop (1 + (getN (bs.drop 1)).2.1))).2.1 + (getT (bs.drop (1 + (getN (bs.drop 1)).2.1 + (getT (bs.drop (1 + (getN (bs.drop 1)).2.1))).2.1))).2.1 : Nat) : Int), .int .i64 0]) (by kernel_rfl) (by kernel_rfl) (fun w1 A1 m1 hac l1 => by rw [pars_good0 ht (good0_of hc4 hc5), hd]; rfl)
        · try simp only [nrm] at hc
          have hc3 := hc
          refine J.run [.n, .n, .n, .n, .u, .u, .u, .u, .u] [2, 5, 7, 43] ⟨[(2, .loc 0 0), (5, .loc 1 0), (7, .loc 2 0), (43, .v (.bool ((false || !(getN (bs.drop 1)).2.2) || !(getT (bs.drop (1 + (getN (bs.drop 1)).2.1))).2.2)))], [⟨42, [.string (⟨#[]⟩ : Str), .string (⟨#[]⟩ : Str), .bool false, .int .i64 0]⟩, ⟨155, [.slice (some ⟨p1, o1, none⟩) n c, .int .i64 ((1 + (getN (bs.drop 1)).2.1 + (getT (bs.drop (1 + (getN (bs.drop 1)).2.1))).2.1 : Nat) : Int), .bool ((false || !(getN (bs.drop 1)).2.2) || !(getT (bs.drop (1 + (getN (bs.drop 1)).2.1))).2.2)]⟩, ⟨42, [.string ((getT (bs.drop (1 + (getN (bs.drop 1)).2.1))).1), .string (⟨#[]⟩ : Str), .bool (((x1.toNat : Nat) : Int) == 1), .int .i64 ((min (getN (bs.drop 1)).1 1099511627777 : Nat) : Int)]⟩]⟩ [.c 21, .c 22] [.o 24 5, .c 25, .c 30] (by kernel_rfl) ?_
          rcases Bool.eq_false_or_eq_true ((false || !(getN (bs.drop 1)).2.2) || !(getT (bs.drop (1 + (getN (bs.drop 1)).2.1))).2.2) with hc | hc
          · rw [hc]
            try simp only [nrm] at hc
            have hc6 := hc
            refine J.rn [.x, .x, .x, .u, .n] [2, 5, 7, 47] [.o 24 5, .c 25, .c 30] [.c 25, .c 30] (by kernel_rfl) ?_
            refine J.cond (b := true) (k' := 29) (by kernel_rfl) (fun _ => ?_) (fun hc => absurd hc (by decide))
            refine J.rn [.n, .n, .u, .u, .u, .u, .n] [2, 3, 4] [.c 26, .c 30] [.c 28, .c 30] (by kernel_rfl) ?_
            have hcT := hc3
            have ht : bs[0]? = some 1 := by rw [hx1]; rw [u8_int1.1 hcT]
            have hd : (((x1.toNat : Nat) : Int) == 1) = true := beq_iff_eq.2 hcT
            skip
            refine J.ret (v := .tuple #[.agg [.string (⟨#[]⟩ : Str), .string (⟨#[]⟩ : Str), .bool false, .int .i64 0].toArray, .int .i64 0, .int .i64 2]) (by kernel_rfl) (by kernel_rfl) (fun w1 A1 m1 hac l1 => by rw [pars_bad1 ht (fun q => bad1_of q.1 q.2.1 hc6)]; rfl)
          · rw [hc]
            try simp only [nrm] at hc
            have hc6 := hc
            refine J.rn [.w] [2, 5, 7, 43, 44] [.o 24 5, .c 25, .c 30] [.o 24 6, .c 25, .c 30] (by kernel_rfl) ?_
            refine J.call (d := some 45) (by kernel_rfl) (fun w1 A1 m1 l1 => right_calls (⟨(getT (bs.drop (1 + (getN (bs.drop 1)).2.1))).1, (⟨#[]⟩ : Str), (((x1.toNat : Nat) : Int) == 1), ((min (getN (bs.drop 1)).1 1099511627777 : Nat) : Int)⟩ : Ent) nobody w1 noA) ?_
            rintro _ u5 w7 A7 rfl g5
            have m7 := g5.mv
            replace hs := hs.mv m7
            refine J.run [.w, .u, .n] [2, 5, 7, 47] ⟨[(2, .loc 0 0), (5, .loc 1 0), (7, .loc 2 0), (47, .v (.bool (!(decide (⟨(getT (bs.drop (1 + (getN (bs.drop 1)).2.1))).1, (⟨#[]⟩ : Str), (((x1.toNat : Nat) : Int) == 1), ((min (getN (bs.drop 1)).1 1099511627777 : Nat) : Int)⟩ : Ent).Right))))], [⟨42, [.string (⟨#[]⟩ : Str), .string (⟨#[]⟩ : Str), .bool false, .int .i64 0]⟩, ⟨155, [.slice (some ⟨p1, o1, none⟩) n c, .int .i64 ((1 + (getN (bs.drop 1)).2.1 + (getT (bs.drop (1 + (getN (bs.drop 1)).2.1))).2.1 : Nat) : Int), .bool false]⟩, ⟨42, [.string ((getT (bs.drop (1 + (getN (bs.drop 1)).2.1))).1), .string (⟨#[]⟩ : Str), .bool (((x1.toNat : Nat) : Int) == 1), .int .i64 ((min (getN (bs.drop 1)).1 1099511627777 : Nat) : Int)]⟩]⟩ [.o 24 7, .c 25, .c 30] [.c 25, .c 30] (by kernel_rfl) ?_
            refine J.cond (b := (!(decide (⟨(getT (bs.drop (1 + (getN (bs.drop 1)).2.1))).1, (⟨#[]⟩ : Str), (((x1.toNat : Nat) : Int) == 1), ((min (getN (bs.drop 1)).1 1099511627777 : Nat) : Int)⟩ : Ent).Right))) (k' := 29) (by kernel_rfl) (fun hc => ?_) (fun hc => ?_)
            · try simp only [nrm] at hc
              have hc7 := hc
              refine J.rn [.n, .n, .u, .u, .u, .u, .n] [2, 3, 4] [.c 26, .c 30] [.c 28, .c 30] (by kernel_rfl) ?_
              have hcT := hc3
              have ht : bs[0]? = some 1 := by rw [hx1]; rw [u8_int1.1 hcT]
              have hd : (((x1.toNat : Nat) : Int) == 1) = true := beq_iff_eq.2 hcT
              rw [hd] at hc7
              refine J.ret (v := .tuple #[.agg [.string (⟨#[]⟩ : Str), .string (⟨#[]⟩ : Str), .bool false, .int .i64 0].toArray, .int .i64 0, .int .i64 2]) (by kernel_rfl) (by kernel_rfl) (fun w1 A1 m1 hac l1 => by rw [pars_bad1 ht (fun q => hc7 q.2.2)]; rfl)
            · try simp only [nrm] at hc
              have hc7 := hc
              refine J.run [.n, .n] [2, 5, 7] ⟨[(2, .loc 0 0), (5, .loc 1 0), (7, .loc 2 0)], [⟨42, [.string (⟨#[]⟩ : Str), .string (⟨#[]⟩ : Str), .bool false, .int .i64 0]⟩, ⟨155, [.slice (some ⟨p1, o1, none⟩) n c, .int .i64 ((1 + (getN (bs.drop 1)).2.1 + (getT (bs.drop (1 + (getN (bs.drop 1)).2.1))).2.1 : Nat) : Int), .bool false]⟩, ⟨42, [.string ((getT (bs.drop (1 + (getN (bs.drop 1)).2.1))).1), .string (⟨#[]⟩ : Str), .bool (((x1.toNat : Nat) : Int) == 1), .int .i64 ((min (getN (bs.drop 1)).1 1099511627777 : Nat) : Int)]⟩]⟩ [.c 29, .c 30] [.c 31, .c 32] (by kernel_rfl) ?_
              refine J.draw [0] nobody (by kernel_rfl) (by kernel_rfl) (fun _ h => h.elim) (fun w8 A8 m8 hr3 hX3 => ?_)
              replace hs := hs.mv m8
              refine J.take0 [(0, .u), (1, .u), (2, .u), (3, .u), (4, .u)] [2, 49, 53] [(2, .loc 0 0), (49, .v (.agg [.string ((getT (bs.drop (1 + (getN (bs.drop 1)).2.1))).1), .string (⟨#[]⟩ : Str), .bool (((x1.toNat : Nat) : Int) == 1), .int .i64 ((min (getN (bs.drop 1)).1 1099511627777 : Nat) : Int)].toArray)), (53, .v (.int .i64 ((1 + (getN (bs.drop 1)).2.1 + (getT (bs.drop (1 + (getN (bs.drop 1)).2.1))).2.1 : Nat) : Int)))] [4, 3, 2, 1, 0] (calm_body _ _ _) (by intro k _ h; exact h) hr3 (by kernel_rfl) ?_
              refine J.pick1 5 (by kernel_rfl) (by kernel_rfl) ?_
              refine J.storeq (i := 0) (m' := [⟨42, [.string ((getT (bs.drop (1 + (getN (bs.drop 1)).2.1))).1), .string (⟨#[]⟩ : Str), .bool (((x1.toNat : Nat) : Int) == 1), .int .i64 ((min (getN (bs.drop 1)).1 1099511627777 : Nat) : Int)]⟩, ⟨155, [.slice (some ⟨p1, o1, none⟩) n c, .int .i64 ((1 + (getN (bs.drop 1)).2.1 + (getT (bs.drop (1 + (getN (bs.drop 1)).2.1))).2.1 : Nat) : Int), .bool false]⟩, ⟨42, [.string ((getT (bs.drop (1 + (getN (bs.drop 1)).2.1))).1), .string (⟨#[]⟩ : Str), .bool (((x1.toNat : Nat) : Int) == 1), .int .i64 ((min (getN (bs.drop 1)).1 1099511627777 : Nat) : Int)]⟩]) (by kernel_rfl) (by simp) rfl (by simp) ?_
              refine J.take1 [(6, .u), (7, .u)] [2, 3, 4] [(2, .loc 0 0), (3, .v (.int .i64 ((1 + (getN (bs.drop 1)).2.1 + (getT (bs.drop (1 + (getN (bs.drop 1)).2.1))).2.1 : Nat) : Int))), (4, .v (.int .i64 0))] [7, 6, 5, 4, 3, 2, 1, 0] (calm_body _ _ _) (by kernel_rfl) ?_
              refine J.pdone (by kernel_rfl) ?_
              have hcT := hc3
              have ht : bs[0]? = some 1 := by rw [hx1]; rw [u8_int1.1 hcT]
              have hd : (((x1.toNat : Nat) : Int) == 1) = true := beq_iff_eq.2 hcT
              rw [hd] at hc7
              refine J.ret (v := .tuple #[.agg [.string ((getT (bs.drop (1 + (getN (bs.drop 1)).2.1))).1), .string (⟨#[]⟩ : Str), .bool (((x1.toNat : Nat) : Int) == 1), .int .i64 ((min (getN (bs.drop 1)).1 1099511627777 : Nat) : Int)].toArray, .int .i64 ((1 + (getN (bs.drop 1)).2.1 + (getT (bs.drop (1 + (getN (bs.drop 1)).2.1))).2.1 : Nat) : Int), .int .i64 0]) (by kernel_rfl) (by kernel_rfl) (fun w1 A1 m1 hac l1 => by rw [pars_good1 ht (good1_of hc6 hc7), hd]; rfl)
      · skip
        refine J.newq (T := 42) (cs := [.string (⟨#[]⟩ : Str), .string (⟨#[]⟩ : Str), .bool false, .int .i64 0]) (d := 7) (K := .ptr) (by kernel_rfl) (fun b4 hb4 => ?_)
        refine J.pick1 1 (by kernel_rfl) (by kernel_rfl) ?_
        have hgb2 := getT_le (bs.drop (1 + (getN (bs.drop 1)).2.1)); rw [List.length_drop] at hgb2
        refine J.callMq (d := some 24) 1 rfl rfl (by kernel_rfl) (.inl (.inr ⟨1, by simp, by simp, rfl⟩)) (fun w1 A1 m1 l1 a1 => reader_text (some ⟨p1, o1, none⟩) n c bs (1 + (getN (bs.drop 1)).2.1) (by omega) (false || !(getN (bs.drop 1)).2.2) b2 (fun k => k = b2) w1 (oneA (m1.bdd _ a1)) (l1.row (i := 1) rfl) rfl ((hs.mv m1).one a1)) ?_
        rintro _ _ u6 w9 A9 ⟨rfl, rfl⟩ g6
        have m9 := g6.mv
        replace hs := hs.mv m9
        refine J.take1 [(9, .u)] [2, 5, 7, 32] [(2, .loc 0 0), (5, .loc 1 0), (7, .loc 2 0), (32, .v (.agg [.string ((getT (bs.drop (1 + (getN (bs.drop 1)).2.1))).1), .string (⟨#[]⟩ : Str), .bool (((x1.toNat : Nat) : Int) == 1), .int .i64 ((min (getN (bs.drop 1)).1 1099511627777 : Nat) : Int)].toArray))] [9, 1, 10, 5, 4, 3, 8, 7, 6, 2, 0] (calm_body _ _ _) (by kernel_rfl) ?_
        refine J.pick1 11 (by kernel_rfl) (by kernel_rfl) ?_
        refine J.storeqN (i := 2) (m' := [⟨42, [.string (⟨#[]⟩ : Str), .string (⟨#[]⟩ : Str), .bool false, .int .i64 0]⟩, ⟨155, [.slice (some ⟨p1, o1, none⟩) n c, .int .i64 ((1 + (getN (bs.drop 1)).2.1 + (getT (bs.drop (1 + (getN (bs.drop 1)).2.1))).2.1 : Nat) : Int), .bool ((false || !(getN (bs.drop 1)).2.2) || !(getT (bs.drop (1 + (getN (bs.drop 1)).2.1))).2.2)]⟩, ⟨42, [.string ((getT (bs.drop (1 + (getN (bs.drop 1)).2.1))).1), .string (⟨#[]⟩ : Str), .bool (((x1.toNat : Nat) : Int) == 1), .int .i64 ((min (getN (bs.drop 1)).1 1099511627777 : Nat) : Int)]⟩]) (by kernel_rfl) (show w2.heap.size ≤ b4 by have := m9.size; omega) ?_
        refine J.pdone (by kernel_rfl) ?_
        refine J.rn [.n, .n, .n, .u, .u, .u, .n] [2, 5, 7, 35] [.c 16] [.c 19, .c 22] (by kernel_rfl) ?_
        refine J.cond (b := (!(((x1.toNat : Nat) : Int) == 1))) (k' := 21) (by kernel_rfl) (fun hc => ?_) (fun hc => ?_)
        · try simp only [nrm] at hc
          have hc8 := hc
          refine J.run [.n, .u] [2, 5, 7, 36] ⟨[(2, .loc 0 0), (5, .loc 1 0), (7, .loc 2 0), (36, .loc 1 0)], [⟨42, [.string (⟨#[]⟩ : Str), .string (⟨#[]⟩ : Str), .bool false, .int .i64 0]⟩, ⟨155, [.slice (some ⟨p1, o1, none⟩) n c, .int .i64 ((1 + (getN (bs.drop 1)).2.1 + (getT (bs.drop (1 + (getN (bs.drop 1)).2.1))).2.1 : Nat) : Int), .bool ((false || !(getN (bs.drop 1)).2.2) || !(getT (bs.drop (1 + (getN (bs.drop 1)).2.1))).2.2)]⟩, ⟨42, [.string ((getT (bs.drop (1 + (getN (bs.drop 1)).2.1))).1), .string (⟨#[]⟩ : Str), .bool (((x1.toNat : Nat) : Int) == 1), .int .i64 ((min (getN (bs.drop 1)).1 1099511627777 : Nat) : Int)]⟩]⟩ [.c 20, .c 22] [.o 20 1, .c 22] (by kernel_rfl) ?_
          have hgb2 := getT_le (bs.drop (1 + (getN (bs.drop 1)).2.1 + (getT (bs.drop (1 + (getN (bs.drop 1)).2.1))).2.1)); rw [List.length_drop] at hgb2
          refine J.callM (d := some 37) 1 rfl rfl (by kernel_rfl) (fun w1 A1 m1 l1 a1 => reader_text (some ⟨p1, o1, none⟩) n c bs (1 + (getN (bs.drop 1)).2.1 + (getT (bs.drop (1 + (getN (bs.drop 1)).2.1))).2.1) (by omega) ((false || !(getN (bs.drop 1)).2.2) || !(getT (bs.drop (1 + (getN (bs.drop 1)).2.1))).2.2) b2 (fun k => k = b2) w1 (oneA (m1.bdd _ a1)) (l1.row (i := 1) rfl) rfl ((hs.mv m1).one a1)) ?_
          rintro _ _ u7 w10 A10 ⟨rfl, rfl⟩ g7
          have m10 := g7.mv
          replace hs := hs.mv m10
          refine J.run [.u, .u, .n, .n, .n, .n, .u, .u, .u, .u, .u] [2, 5, 7, 43] ⟨[(2, .loc 0 0), (5, .loc 1 0), (7, .loc 2 0), (43, .v (.bool (((false || !(getN (bs.drop 1)).2.2) || !(getT (bs.drop (1 + (getN (bs.drop 1)).2.1))).2.2) || !(getT (bs.drop (1 + (getN (bs.drop 1)).2.1 + (getT (bs.drop (1 + (getN (bs.drop 1)).2.1))).2.1))).2.2)))], [⟨42, [.string (⟨#[]⟩ : Str), .string (⟨#[]⟩ : Str), .bool false, .int .i64 0]⟩, ⟨155, [.slice (some ⟨p1, o1, none⟩) n c, .int .i64 ((1 + (getN (bs.drop 1)).2.1 + (getT (bs.drop (1 + (getN (bs.drop 1)).2.1))).2.1 + (getT (bs.drop (1 + (getN (bs.drop 1)).2.1 + (getT (bs.drop (1 + (getN (bs.drop 1)).2.1))).2.1))).2.1 : Nat) : Int), .bool (((false || !(getN (bs.drop 1)).2.2) || !(getT (bs.drop (1 + (getN (bs.drop 1)).2.1))).2.2) || !(getT (bs.drop (1 + (getN (bs.drop 1)).2.1 + (getT (bs.drop (1 + (getN (bs.drop 1)).2.1))).2.1))).2.2)]⟩, ⟨42, [.string ((getT (bs.drop (1 + (getN (bs.drop 1)).2.1))).1), .string ((getT (bs.drop (1 + (getN (bs.drop 1)).2.1 + (getT (bs.drop (1 + (getN (bs.drop 1)).2.1))).2.1))).1), .bool (((x1.toNat : Nat) : Int) == 1), .int .i64 ((min (getN (bs.drop 1)).1 1099511627777 : Nat) : Int)]⟩]⟩ [.o 20 2, .c 22] [.o 24 5, .c 25, .c 30] (by kernel_rfl) ?_
          rcases Bool.eq_false_or_eq_true (((false || !(getN (bs.drop 1)).2.2) || !(getT (bs.drop (1 + (getN (bs.drop 1)).2.1))).2.2) || !(getT (bs.drop (1 + (getN (bs.drop 1)).2.1 + (getT (bs.drop (1 + (getN (bs.drop 1)).2.1))).2.1))).2.2) with hc | hc
          · rw [hc]
            try simp only [nrm] at hc
            have hc9 := hc
            refine J.rn [.x, .x, .x, .u, .n] [2, 5, 7, 47] [.o 24 5, .c 25, .c 30] [.c 25, .c 30] (by kernel_rfl) ?_
            refine J.cond (b := true) (k' := 29) (by kernel_rfl) (fun _ => ?_) (fun hc => absurd hc (by decide))
            refine J.rn [.n, .n, .u, .u, .u, .u, .n] [2, 3, 4] [.c 26, .c 30] [.c 28, .c 30] (by kernel_rfl) ?_
            have hcT := hc8
            have ht : bs[0]? = some 0 := by rw [hx1]; rw [(u8_tag (x := x1) (by omega)).resolve_right (fun h => hcT (u8_int1.2 h))]
            have hd : (((x1.toNat : Nat) : Int) == 1) = false := beq_eq_false_iff_ne.2 hcT
            skip
            refine J.ret (v := .tuple #[.agg [.string (⟨#[]⟩ : Str), .string (⟨#[]⟩ : Str), .bool false, .int .i64 0].toArray, .int .i64 0, .int .i64 2]) (by kernel_rfl) (by kernel_rfl) (fun w1 A1 m1 hac l1 => by rw [pars_bad0 ht (fun q => bad0_of q.1 q.2.1 q.2.2.1 hc9)]; rfl)
          · rw [hc]
            try simp only [nrm] at hc
            have hc9 := hc
            refine J.rn [.w] [2, 5, 7, 43, 44] [.o 24 5, .c 25, .c 30] [.o 24 6, .c 25, .c 30] (by kernel_rfl) ?_
            refine J.call (d := some 45) (by kernel_rfl) (fun w1 A1 m1 l1 => right_calls (⟨(getT (bs.drop (1 + (getN (bs.drop 1)).2.1))).1, (getT (bs.drop (1 + (getN (bs.drop 1)).2.1 + (getT (bs.drop (1 + (getN (bs.drop 1)).2.1))).2.1))).1, (((x1.toNat : Nat) : Int) == 1), ((min (getN (bs.drop 1)).1 1099511627777 : Nat) : Int)⟩ : Ent) nobody w1 noA) ?_
            rintro _ u8 w11 A11 rfl g8
            have m11 := g8.mv
            replace hs := hs.mv m11
            refine J.run [.w, .u, .n] [2, 5, 7, 47] ⟨[(2, .loc 0 0), (5, .loc 1 0), (7, .loc 2 0), (47, .v (.bool (!(decide (⟨(getT (bs.drop (1 + (getN (bs.drop 1)).2.1))).1, (getT (bs.drop (1 + (getN (bs.drop 1)).2.1 + (getT (bs.drop (1 + (getN (bs.drop 1)).2.1))).2.1))).1, (((x1.toNat : Nat) : Int) == 1), ((min (getN (bs.drop 1)).1 1099511627777 : Nat) : Int)⟩ : Ent).Right))))], [⟨42, [.string (⟨#[]⟩ : Str), .string (⟨#[]⟩ : Str), .bool false, .int .i64 0]⟩, ⟨155, [.slice (some ⟨p1, o1, none⟩) n c, .int .i64 ((1 + (getN (bs.drop 1)).2.1 + (getT (bs.drop (1 + (getN (bs.drop 1)).2.1))).2.1 + (getT (bs.drop (1 + (getN (bs.drop 1)).2.1 + (getT (bs.drop (1 + (getN (bs.drop 1)).2.1))).2.1))).2.1 : Nat) : Int), .bool false]⟩, ⟨42, [.string ((getT (bs.drop (1 + (getN (bs.drop 1)).2.1))).1), .string ((getT (bs.drop (1 + (getN (bs.drop 1)).2.1 + (getT (bs.drop (1 + (getN (bs.drop 1)).2.1))).2.1))).1), .bool (((x1.toNat : Nat) : Int) == 1), .int .i64 ((min (getN (bs.drop 1)).1 1099511627777 : Nat) : Int)]⟩]⟩ [.o 24 7, .c 25, .c 30] [.c 25, .c 30] (by kernel_rfl) ?_
            refine J.cond (b := (!(decide (⟨(getT (bs.drop (1 + (getN (bs.drop 1)).2.1))).1, (getT (bs.drop (1 + (getN (bs.drop 1)).2.1 + (getT (bs.drop (1 + (getN (bs.drop 1)).2.1))).2.1))).1, (((x1.toNat : Nat) : Int) == 1), ((min (getN (bs.drop 1)).1 1099511627777 : Nat) : Int)⟩ : Ent).Right))) (k' := 29) (by kernel_rfl) (fun hc => ?_) (fun hc => ?_)
            · try simp only [nrm] at hc
              have hc10 := hc
              refine J.rn [.n, .n, .u, .u, .u, .u, .n] [2, 3, 4] [.c 26, .c 30] [.c 28, .c 30] (by kernel_rfl) ?_
              have hcT := hc8
              have ht : bs[0]? = some 0 := by rw [hx1]; rw [(u8_tag (x := x1) (by omega)).resolve_right (fun h => hcT (u8_int1.2 h))]
              have hd : (((x1.toNat : Nat) : Int) == 1) = false := beq_eq_false_iff_ne.2 hcT
              rw [hd] at hc10
              refine J.ret (v := .tuple #[.agg [.string (⟨#[]⟩ : Str), .string (⟨#[]⟩ : Str), .bool false, .int .i64 0].toArray, .int .i64 0, .int .i64 2]) (by kernel_rfl) (by kernel_rfl) (fun w1 A1 m1 hac l1 => by rw [pars_bad0 ht (fun q => hc10 q.2.2.2)]; rfl)
            · try simp only [nrm] at hc
              have hc10 := hc
              refine J.run [.n, .n] [2, 5, 7] ⟨[(2, .loc 0 0), (5, .loc 1 0), (7, .loc 2 0)], [⟨42, [.string (⟨#[]⟩ : Str), .string (⟨#[]⟩ : Str), .bool false, .int .i64 0]⟩, ⟨155, [.slice (some ⟨p1, o1, none⟩) n c, .int .i64 ((1 + (getN (bs.drop 1)).2.1 + (getT (bs.drop (1 + (getN (bs.drop 1)).2.1))).2.1 + (getT (bs.drop (1 + (getN (bs.drop 1)).2.1 + (getT (bs.drop (1 + (getN (bs.drop 1)).2.1))).2.1))).2.1 : Nat) : Int), .bool false]⟩, ⟨42, [.string ((getT (bs.drop (1 + (getN (bs.drop 1)).2.1))).1), .string ((getT (bs.drop (1 + (getN (bs.drop 1)).2.1 + (getT (bs.drop (1 + (getN (bs.drop 1)).2.1))).2.1))).1), .bool (((x1.toNat : Nat) : Int) == 1), .int .i64 ((min (getN (bs.drop 1)).1 1099511627777 : Nat) : Int)]⟩]⟩ [.c 29, .c 30] [.c 31, .c 32] (by kernel_rfl) ?_
              refine J.draw [0] nobody (by kernel_rfl) (by kernel_rfl) (fun _ h => h.elim) (fun w12 A12 m12 hr4 hX4 => ?_)
              replace hs := hs.mv m12
              refine J.take0 [(0, .u), (1, .u), (2, .u), (3, .u), (4, .u)] [2, 49, 53] [(2, .loc 0 0), (49, .v (.agg [.string ((getT (bs.drop (1 + (getN (bs.drop 1)).2.1))).1), .string ((getT (bs.drop (1 + (getN (bs.drop 1)).2.1 + (getT (bs.drop (1 + (getN (bs.drop 1)).2.1))).2.1))).1), .bool (((x1.toNat : Nat) : Int) == 1), .int .i64 ((min (getN (bs.drop 1)).1 1099511627777 : Nat) : Int)].toArray)), (53, .v (.int .i64 ((1 + (getN (bs.drop 1)).2.1 + (getT (bs.drop (1 + (getN (bs.drop 1)).2.1))).2.1 + (getT (bs.drop (1 + (getN (bs.drop 1)).2.1 + (getT (bs.drop (1 + (getN (bs.drop 1)).2.1))).2.1))).2.1 : Nat) : Int)))] [4, 3, 2, 1, 0] (calm_body _ _ _) (by intro k _ h; exact h) hr4 (by kernel_rfl) ?_
              refine J.pick1 5 (by kernel_rfl) (by kernel_rfl) ?_
              refine J.storeq (i := 0) (m' := [⟨42, [.string ((getT (bs.drop (1 + (getN (bs.drop 1)).2.1))).1), .string ((getT (bs.drop (1 + (getN (bs.drop 1)).2.1 + (getT (bs.drop (1 + (getN (bs.drop 1)).2.1))).2.1))).1), .bool (((x1.toNat : Nat) : Int) == 1), .int .i64 ((min (getN (bs.drop 1)).1 1099511627777 : Nat) : Int)]⟩, ⟨155, [.slice (some ⟨p1, o1, none⟩) n c, .int .i64 ((1 + (getN (bs.drop 1)).2.1 + (getT (bs.drop (1 + (getN (bs.drop 1)).2.1))).2.1 + (getT (bs.drop (1 + (getN (bs.drop 1)).2.1 + (getT (bs.drop (1 + (getN (bs.drop 1)).2.1))).2.1))).2.1 : Nat) : Int), .bool false]⟩, ⟨42, [.string ((getT (bs.drop (1 + (getN (bs.drop 1)).2.1))).1), .string ((getT (bs.drop (1 + (getN (bs.drop 1)).2.1 + (getT (bs.drop (1 + (getN (bs.drop 1)).2.1))).2.1))).1), .bool (((x1.toNat : Nat) : Int) == 1), .int .i64 ((min (getN (bs.drop 1)).1 1099511627777 : Nat) : Int)]⟩]) (by kernel_rfl) (by simp) rfl (by simp) ?_
              refine J.take1 [(6, .u), (7, .u)] [2, 3, 4] [(2, .loc 0 0), (3, .v (.int .i64 ((1 + (getN (bs.drop 1)).2.1 + (getT (bs.drop (1 + (getN (bs.drop 1)).2.1))).2.1 + (getT (bs.drop (1 + (getN (bs.drop 1)).2.1 + (getT (bs.drop (1 + (getN (bs.drop 1)).2.1))).2.1))).2.1 : Nat) : Int))), (4, .v (.int .i64 0))] [7, 6, 5, 4, 3, 2, 1, 0] (calm_body _ _ _) (by kernel_rfl) ?_
              refine J.pdone (by kernel_rfl) ?_
              have hcT := hc8
              have ht : bs[0]? = some 0 := by rw [hx1]; rw [(u8_tag (x := x1) (by omega)).resolve_right (fun h => hcT (u8_int1.2 h))]
              have hd : (((x1.toNat : Nat) : Int) == 1) = false := beq_eq_false_iff_ne.2 hcT
              rw [hd] at hc10
              refine J.ret (v := .tuple #[.agg [.string ((getT (bs.drop (1 + (getN (bs.drop 1)).2.1))).1), .string ((getT (bs.drop (1 + (getN (bs.drop 1)).2.1 + (getT (bs.drop (1 + (getN (bs.drop 1)).2.1))).2.1))).1), .bool (((x1.toNat : Nat) : Int) == 1), .int .i64 ((min (getN (bs.drop 1)).1 1099511627777 : Nat) : Int)].toArray, .int .i64 ((1 + (getN (bs.drop 1)).2.1 + (getT (bs.drop (1 + (getN (bs.drop 1)).2.1))).2.1 + (getT (bs.drop (1 + (getN (bs.drop 1)).2.1 + (getT (bs.drop (1 + (getN (bs.drop 1)).2.1))).2.1))).2.1 : Nat) : Int), .int .i64 0]) (by kernel_rfl) (by kernel_rfl) (fun w1 A1 m1 hac l1 => by rw [pars_good0 ht (good0_of hc9 hc10), hd]; rfl)
        · try simp only [nrm] at hc
          have hc8 := hc
          refine J.run [.n, .n, .n, .n, .u, .u, .u, .u, .u] [2, 5, 7, 43] ⟨[(2, .loc 0 0), (5, .loc 1 0), (7, .loc 2 0), (43, .v (.bool ((false || !(getN (bs.drop 1)).2.2) || !(getT (bs.drop (1 + (getN (bs.drop 1)).2.1))).2.2)))], [⟨42, [.string (⟨#[]⟩ : Str), .string (⟨#[]⟩ : Str), .bool false, .int .i64 0]⟩, ⟨155, [.slice (some ⟨p1, o1, none⟩) n c, .int .i64 ((1 + (getN (bs.drop 1)).2.1 + (getT (bs.drop (1 + (getN (bs.drop 1)).2.1))).2.1 : Nat) : Int), .bool ((false || !(getN (bs.drop 1)).2.2) || !(getT (bs.drop (1 + (getN (bs.drop 1)).2.1))).2.2)]⟩, ⟨42, [.string ((getT (bs.drop (1 + (getN (bs.drop 1)).2.1))).1), .string (⟨#[]⟩ : Str), .bool (((x1.toNat : Nat) : Int) == 1), .int .i64 ((min (getN (bs.drop 1)).1 1099511627777 : Nat) : Int)]⟩]⟩ [.c 21, .c 22] [.o 24 5, .c 25, .c 30] (by kernel_rfl) ?_
          rcases Bool.eq_false_or_eq_true ((false || !(getN (bs.drop 1)).2.2) || !(getT (bs.drop (1 + (getN (bs.drop 1)).2.1))).2.2) with hc | hc
          · rw [hc]
            try simp only [nrm] at hc
            have hc11 := hc
            refine J.rn [.x, .x, .x, .u, .n] [2, 5, 7, 47] [.o 24 5, .c 25, .c 30] [.c 25, .c 30] (by kernel_rfl) ?_
            refine J.cond (b := true) (k' := 29) (by kernel_rfl) (fun _ => ?_) (fun hc => absurd hc (by decide))
            refine J.rn [.n, .n, .u, .u, .u, .u, .n] [2, 3, 4] [.c 26, .c 30] [.c 28, .c 30] (by kernel_rfl) ?_
            have hcT := hc8
            have ht : bs[0]? = some 1 := by rw [hx1]; rw [u8_int1.1 hcT]
            have hd : (((x1.toNat : Nat) : Int) == 1) = true := beq_iff_eq.2 hcT
            skip
            refine J.ret (v := .tuple #[.agg [.string (⟨#[]⟩ : Str), .string (⟨#[]⟩ : Str), .bool false, .int .i64 0].toArray, .int .i64 0, .int .i64 2]) (by kernel_rfl) (by kernel_rfl) (fun w1 A1 m1 hac l1 => by rw [pars_bad1 ht (fun q => bad1_of q.1 q.2.1 hc11)]; rfl)
          · rw [hc]
            try simp only [nrm] at hc
            have hc11 := hc
            refine J.rn [.w] [2, 5, 7, 43, 44] [.o 24 5, .c 25, .c 30] [.o 24 6, .c 25, .c 30] (by kernel_rfl) ?_
            refine J.call (d := some 45) (by kernel_rfl) (fun w1 A1 m1 l1 => right_calls (⟨(getT (bs.drop (1 + (getN (bs.drop 1)).2.1))).1, (⟨#[]⟩ : Str), (((x1.toNat : Nat) : Int) == 1), ((min (getN (bs.drop 1)).1 1099511627777 : Nat) : Int)⟩ : Ent) nobody w1 noA) ?_
            rintro _ u9 w13 A13 rfl g9
            have m13 := g9.mv
            replace hs := hs.mv m13
            refine J.run [.w, .u, .n] [2, 5, 7, 47] ⟨[(2, .loc 0 0), (5, .loc 1 0), (7, .loc 2 0), (47, .v (.bool (!(decide (⟨(getT (bs.drop (1 + (getN (bs.drop 1)).2.1))).1, (⟨#[]⟩ : Str), (((x1.toNat : Nat) : Int) == 1), ((min (getN (bs.drop 1)).1 1099511627777 : Nat) : Int)⟩ : Ent).Right))))], [⟨42, [.string (⟨#[]⟩ : Str), .string (⟨#[]⟩ : Str), .bool false, .int .i64 0]⟩, ⟨155, [.slice (some ⟨p1, o1, none⟩) n c, .int .i64 ((1 + (getN (bs.drop 1)).2.1 + (getT (bs.drop (1 + (getN (bs.drop 1)).2.1))).2.1 : Nat) : Int), .bool false]⟩, ⟨42, [.string ((getT (bs.drop (1 + (getN (bs.drop 1)).2.1))).1), .string (⟨#[]⟩ : Str), .bool (((x1.toNat : Nat) : Int) == 1), .int .i64 ((min (getN (bs.drop 1)).1 1099511627777 : Nat) : Int)]⟩]⟩ [.o 24 7, .c 25, .c 30] [.c 25, .c 30] (by kernel_rfl) ?_
            refine J.cond (b := (!(decide (⟨(getT (bs.drop (1 + (getN (bs.drop 1)).2.1))).1, (⟨#[]⟩ : Str), (((x1.toNat : Nat) : Int) == 1), ((min (getN (bs.drop 1)).1 1099511627777 : Nat) : Int)⟩ : Ent).Right))) (k' := 29) (by kernel_rfl) (fun hc => ?_) (fun hc => ?_)
            · try simp only [nrm] at hc
              have hc12 := hc
              refine J.rn [.n, .n, .u, .u, .u, .u, .n] [2, 3, 4] [.c 26, .c 30] [.c 28, .c 30] (by kernel_rfl) ?_
              have hcT := hc8
              have ht : bs[0]? = some 1 := by rw [hx1]; rw [u8_int1.1 hcT]
              have hd : (((x1.toNat : Nat) : Int) == 1) = true := beq_iff_eq.2 hcT
              rw [hd] at hc12
              refine J.ret (v := .tuple #[.agg [.string (⟨#[]⟩ : Str), .string (⟨#[]⟩ : Str), .bool false, .int .i64 0].toArray, .int .i64 0, .int .i64 2]) (by kernel_rfl) (by kernel_rfl) (fun w1 A1 m1 hac l1 => by rw [pars_bad1 ht (fun q => hc12 q.2.2)]; rfl)
            · try simp only [nrm] at hc
              have hc12 := hc
              refine J.run [.n, .n] [2, 5, 7] ⟨[(2, .loc 0 0), (5, .loc 1 0), (7, .loc 2 0)], [⟨42, [.string (⟨#[]⟩ : Str), .string (⟨#[]⟩ : Str), .bool false, .int .i64 0]⟩, ⟨155, [.slice (some ⟨p1, o1, none⟩) n c, .int .i64 ((1 + (getN (bs.drop 1)).2.1 + (getT (bs.drop (1 + (getN (bs.drop 1)).2.1))).2.1 : Nat) : Int), .bool false]⟩, ⟨42, [.string ((getT (bs.drop (1 + (getN (bs.drop 1)).2.1))).1), .string (⟨#[]⟩ : Str), .bool (((x1.toNat : Nat) : Int) == 1), .int .i64 ((min (getN (bs.drop 1)).1 1099511627777 : Nat) : Int)]⟩]⟩ [.c 29, .c 30] [.c 31, .c 32] (by kernel_rfl) ?_
              refine J.draw [0] nobody (by kernel_rfl) (by kernel_rfl) (fun _ h => h.elim) (fun w14 A14 m14 hr5 hX5 => ?_)
              replace hs := hs.mv m14
              refine J.take0 [(0, .u), (1, .u), (2, .u), (3, .u), (4, .u)] [2, 49, 53] [(2, .loc 0 0), (49, .v (.agg [.string ((getT (bs.drop (1 + (getN (bs.drop 1)).2.1))).1), .string (⟨#[]⟩ : Str), .bool (((x1.toNat : Nat) : Int) == 1), .int .i64 ((min (getN (bs.drop 1)).1 1099511627777 : Nat) : Int)].toArray)), (53, .v (.int .i64 ((1 + (getN (bs.drop 1)).2.1 + (getT (bs.drop (1 + (getN (bs.drop 1)).2.1))).2.1 : Nat) : Int)))] [4, 3, 2, 1, 0] (calm_body _ _ _) (by intro k _ h; exact h) hr5 (by kernel_rfl) ?_
              refine J.pick1 5 (by kernel_rfl) (by kernel_rfl) ?_
              refine J.storeq (i := 0) (m' := [⟨42, [.string ((getT (bs.drop (1 + (getN (bs.drop 1)).2.1))).1), .string (⟨#[]⟩ : Str), .bool (((x1.toNat : Nat) : Int) == 1), .int .i64 ((min (getN (bs.drop 1)).1 1099511627777 : Nat) : Int)]⟩, ⟨155, [.slice (some ⟨p1, o1, none⟩) n c, .int .i64 ((1 + (getN (bs.drop 1)).2.1 + (getT (bs.drop (1 + (getN (bs.drop 1)).2.1))).2.1 : Nat) : Int), .bool false]⟩, ⟨42, [.string ((getT (bs.drop (1 + (getN (bs.drop 1)).2.1))).1), .string (⟨#[]⟩ : Str), .bool (((x1.toNat : Nat) : Int) == 1), .int .i64 ((min (getN (bs.drop 1)).1 1099511627777 : Nat) : Int)]⟩]) (by kernel_rfl) (by simp) rfl (by simp) ?_
              refine J.take1 [(6, .u), (7, .u)] [2, 3, 4] [(2, .loc 0 0), (3, .v (.int .i64 ((1 + (getN (bs.drop 1)).2.1 + (getT (bs.drop (1 + (getN (bs.drop 1)).2.1))).2.1 : Nat) : Int))), (4, .v (.int .i64 0))] [7, 6, 5, 4, 3, 2, 1, 0] (calm_body _ _ _) (by kernel_rfl) ?_
              refine J.pdone (by kernel_rfl) ?_
              have hcT := hc8
              have ht : bs[0]? = some 1 := by rw [hx1]; rw [u8_int1.1 hcT]
              have hd : (((x1.toNat : Nat) : Int) == 1) = true := beq_iff_eq.2 hcT
              rw [hd] at hc12
              refine J.ret (v := .tuple #[.agg [.string ((getT (bs.drop (1 + (getN (bs.drop 1)).2.1))).1), .string (⟨#[]⟩ : Str), .bool (((x1.toNat : Nat) : Int) == 1), .int .i64 ((min (getN (bs.drop 1)).1 1099511627777 : Nat) : Int)].toArray, .int .i64 ((1 + (getN (bs.drop 1)).2.1 + (getT (bs.drop (1 + (getN (bs.drop 1)).2.1))).2.1 : Nat) : Int), .int .i64 0]) (by kernel_rfl) (by kernel_rfl) (fun w1 A1 m1 hac l1 => by rw [pars_good1 ht (good1_of hc11 hc12), hd]; rfl)
end Go.Proofs.Ytkgokehkobifkaa.J

/- More rules: reads in any state, array addresses, slices of arrays and strings, stores at a place that is reckoned, copies. -/
namespace Go.Proofs.Ytkgokehkobifkaa.J
open Go Go.RowKit

theorem Locs.ldc {P : Program} {mem : List Loc} {ρ : List Nat} {w : World} (l : Locs mem ρ w) {i : Nat} {L : Loc} (hi : mem[i]? = some L) {t : TypeId} (ha : aggOf P t = some false) {off : Nat} {v : Value} (hv : L.cells[off]? = some v) :
    Ld P w t (ρ.getD i 0) off v := Ld.one ha (by
  have := l.cell hi (j := off)
  rw [← hv, ← this])

section
variable {P : Program} {B : Code} {Q : Exit → Act → World → Prop} {n : Nat} {W : World} {Ac M A : Nat → Prop} {s : SS} {ρ : List Nat} {w0 : World} {r t : List It} {k j : Nat}

/-- Anything that only reads, wherever we stand. -/
theorem J.readG {S : World → Prop} {it it' : It} (hcur : IsCur k j S it it') {o : Oper} {d : Nat} {v : Value} (hn : nowOp B s.env k j = some o) (hd : o.dst = some d) (hdn : d < n)
    (hr : ∀ a w, Ok n W Ac M s ρ A w0 a w → (execOp a.eval o).run P w = .ok (.value v) w)
    (h : J P B Q n W Ac M (it' :: r) ⟨put s.env d (.v v), s.mem⟩ ρ A w0) : J P B Q n W Ac M (it :: r) s ρ A w0 := by
  refine J.act hcur hn fun a w ok hS => ?_
  unfold Oper.wp
  rw [hr a w ok]
  simp only [Oper.upon, hd]
  exact ⟨hS, h _ _ (ok.put (x := .v v) hdn (plain_grd rfl) rfl)⟩

theorem ldOf_spec {T : TypeId} {b off d : Nat} {v : Value} (hx : ldOf B s.env ρ n k j = some (T, b, off, d)) :
    ∃ o, nowOp B s.env k j = some o ∧ o.dst = some d ∧ d < n ∧ ∀ a w, Fits n s.env ρ a → Ld P w T b off v → (execOp a.eval o).run P w = .ok (.value v) w := by
  unfold ldOf at hx
  split at hx
  · rename_i o ho
    split at hx
    · rename_i d' T' x hd hop
      obtain ⟨hdn, hx⟩ := bif_some hx
      split at hx
      · rename_i bb oo hv1
        cases hx
        refine ⟨o, ho, hd, blt_iff.1 hdn, fun a w hf hl => ?_⟩
        have hL : (Instr.loadAt T (.pointer (some ⟨b, off, none⟩))).run P w = .ok v w := hl
        rw [exec_load hop, evv_den hf (GOk.none _) hv1]
        simp only [Sem.run_bind, hL, Result.andThen_ok, Sem.run_pure]
      · cases hx
    · cases hx
  · cases hx

theorem J.ldq {S : World → Prop} {done : List Nat} {T : TypeId} {b off d : Nat} {v : Value} (hx : ldOf B s.env ρ n k j = some (T, b, off, d)) (hl : ∀ w1 A1, Mv (Lb ρ) A A1 w0 w1 → Locs s.mem ρ w1 → Ld P w1 T b off v)
    (h : J P B Q n W Ac M (.p k (j :: done) S :: r) ⟨put s.env d (.v v), s.mem⟩ ρ A w0) : J P B Q n W Ac M (.q k done j S :: r) s ρ A w0 := by
  obtain ⟨o, ho, hd, hdn, hrun⟩ := ldOf_spec (v := v) hx
  exact J.readG (.drawn done S) ho hd hdn (fun a w ok => hrun a w ok.fits (hl w _ ok.mv ok.locs)) h

/-! ## addresses in arrays -/
def idxAOf (P : Program) (B : Code) (e : Env) (ρ : List Nat) (n k j : Nat) : Option (Nat × Nat × Nat × Int × Nat × Nat) :=
  match nowOp B e k j with
  | some o => match o.dst, o.op with
    | some d, .indexAddr T x ix => bif Nat.blt d n then (match P.underlying T with
      | some (.array len el) => match evv e ρ none x, evv e ρ none ix, sizeO P el with
        | some (.pointer (some ⟨b, off, none⟩)), some (.int _ i), some sz => some (b, off, len, i, sz, d)
        | _, _, _ => none
      | _ => none) else none
    | _, _ => none
  | none => none

theorem idxAOf_spec {b off len sz d : Nat} {i : Int} (hx : idxAOf P B s.env ρ n k j = some (b, off, len, i, sz, d)) (h0 : 0 ≤ i) (h1 : i < len) :
    ∃ o, nowOp B s.env k j = some o ∧ o.dst = some d ∧ d < n ∧ ∀ a w, Fits n s.env ρ a → (execOp a.eval o).run P w = .ok (.value (.pointer (some ⟨b, off + i.toNat * sz, none⟩))) w := by
  unfold idxAOf at hx
  split at hx
  · rename_i o ho
    split at hx
    · rename_i d' T x ix hd hop
      obtain ⟨hdn, hx⟩ := bif_some hx
      split at hx
      · rename_i ln el hu
        split at hx
        · rename_i bb oo kk i' sz' hv1 hv2 hsz
          cases hx
          refine ⟨o, ho, hd, blt_iff.1 hdn, fun a w hf => ?_⟩
          have e1 : execOp a.eval o = (do Pure.pure (.value (← Instr.indexAt T (a.eval x) (a.eval ix)))) := by unfold execOp; rw [hop]
          rw [e1, evv_den hf (GOk.none _) hv1, evv_den hf (GOk.none _) hv2]
          simp [Instr.indexAt, Instr.sureAddr, asIntOf, run_underlying hu, run_sizeOf hsz, h0, h1, Addr.add_lit]
        · cases hx
      · cases hx
    · cases hx
  · cases hx

theorem J.idxA {b off len sz d : Nat} {i : Int} (hx : idxAOf P B s.env ρ n k j = some (b, off, len, i, sz, d)) (h0 : 0 ≤ i) (h1 : i < len)
    (h : J P B Q n W Ac M (.o k (j + 1) :: r) ⟨put s.env d (.v (.pointer (some ⟨b, off + i.toNat * sz, none⟩))), s.mem⟩ ρ A w0) : J P B Q n W Ac M (.o k j :: r) s ρ A w0 := by
  obtain ⟨o, ho, hd, hdn, hrun⟩ := idxAOf_spec hx h0 h1
  exact J.readG .text ho hd hdn (fun a w ok => hrun a w ok.fits) h

theorem J.idxAp {S : World → Prop} {done : List Nat} {j b off len sz d : Nat} {i : Int} (hQ : CalmQ Q) (hm : mayTake B k j done = true) (hx : idxAOf P B s.env ρ n k j = some (b, off, len, i, sz, d)) (h0 : 0 ≤ i) (h1 : i < len)
    (h : J P B Q n W Ac M (.p k (j :: done) S :: r) ⟨put s.env d (.v (.pointer (some ⟨b, off + i.toNat * sz, none⟩))), s.mem⟩ ρ A w0) : J P B Q n W Ac M (.p k done S :: r) s ρ A w0 := by
  obtain ⟨o, ho, hd, hdn, hrun⟩ := idxAOf_spec hx h0 h1
  exact J.takeV hQ hm ho hd hdn (fun a w ok _ w' _ => hrun a w' ok.fits) h

theorem J.idxAq {S : World → Prop} {done : List Nat} {b off len sz d : Nat} {i : Int} (hx : idxAOf P B s.env ρ n k j = some (b, off, len, i, sz, d)) (h0 : 0 ≤ i) (h1 : i < len)
    (h : J P B Q n W Ac M (.p k (j :: done) S :: r) ⟨put s.env d (.v (.pointer (some ⟨b, off + i.toNat * sz, none⟩))), s.mem⟩ ρ A w0) : J P B Q n W Ac M (.q k done j S :: r) s ρ A w0 := by
  obtain ⟨o, ho, hd, hdn, hrun⟩ := idxAOf_spec hx h0 h1
  exact J.readG (.drawn done S) ho hd hdn (fun a w ok => hrun a w ok.fits) h

/-! ## stores at a place that is reckoned -/
def stOf (B : Code) (e : Env) (ρ : List Nat) (k j : Nat) : Option (TypeId × Nat × Nat × Value) :=
  match nowOp B e k j with
  | some o => match o.op, o.dst with
    | .store t x y, none => match evv e ρ none x, evv e ρ none y with
      | some (.pointer (some ⟨b, off, none⟩)), some v => some (t, b, off, v)
      | _, _ => none
    | _, _ => none
  | none => none

theorem storeL_of {mem : List Loc} {t : TypeId} {i off : Nat} {v : Value} {L : Loc} (hL : mem[i]? = some L) (hs : sizeO P t = some 1) (h1 : v.cells = #[v]) (hv : v.oneCell' = true) (hlt : off < L.cells.length) :
    storeL P mem t i off v = some (mem.set i ⟨L.ty, L.cells.set off v⟩) := by
  unfold storeL
  rw [hL, hs, h1]
  have e1 : Nat.ble (off + 1) L.cells.length = true := Nat.ble_eq_true_of_le hlt
  have e2 : L.cells.set off v = L.cells.take off ++ [v] ++ L.cells.drop (off + 1) := by
    rw [List.set_eq_take_append_cons_drop, if_pos hlt]; simp
  rw [e2]
  show (bif Nat.beq 1 1 && Nat.ble (off + 1) L.cells.length && (v.oneCell' && true) then _ else none) = _
  rw [e1, hv]
  rfl

theorem J.stxG {S : World → Prop} {it it' : It} (hcur : IsCur k j S it it') {t : TypeId} {b off : Nat} {v : Value} (i : Nat) {L : Loc} (hx : stOf B s.env ρ k j = some (t, b, off, v)) (hb : ρ.getD i 0 = b) (hL : s.mem[i]? = some L) (hs : sizeO P t = some 1) (h1 : v.cells = #[v]) (hv : v.oneCell' = true) (hlt : off < L.cells.length)
    (hcl : ∀ w cs, S w → S (w.setRow b cs))
    (h : J P B Q n W Ac M (it' :: r) ⟨s.env, s.mem.set i ⟨L.ty, L.cells.set off v⟩⟩ ρ A w0) : J P B Q n W Ac M (it :: r) s ρ A w0 := by
  unfold stOf at hx
  split at hx
  · rename_i o ho
    split at hx
    · rename_i t' x y hop hdst
      split at hx
      · rename_i bb oo v' h2 h3
        cases hx
        refine J.act hcur ho fun a w ok hS => ?_
        obtain ⟨cs, L', hL', hr, hlocs⟩ := storeL_sound ok.locs (storeL_of hL hs h1 hv hlt)
        rw [hL] at hL'; cases hL'
        unfold Oper.wp
        rw [hb] at hr hlocs
        rw [exec_store hop, evv_den ok.fits (GOk.none _) h2, evv_den ok.fits (GOk.none _) h3]
        simp only [Sem.run_bind, hr, Result.andThen_ok, Sem.run_pure, Oper.upon, hdst, Act.put]
        exact ⟨hcl _ _ hS, h _ _ (by have := ok.store hL (hb ▸ hlocs); rwa [hb] at this)⟩
      · cases hx
    · cases hx
  · cases hx

theorem J.stx {t : TypeId} {b off : Nat} {v : Value} (i : Nat) {L : Loc} (hx : stOf B s.env ρ k j = some (t, b, off, v)) (hb : ρ.getD i 0 = b) (hL : s.mem[i]? = some L) (hs : sizeO P t = some 1) (h1 : v.cells = #[v]) (hv : v.oneCell' = true) (hlt : off < L.cells.length)
    (h : J P B Q n W Ac M (.o k (j + 1) :: r) ⟨s.env, s.mem.set i ⟨L.ty, L.cells.set off v⟩⟩ ρ A w0) : J P B Q n W Ac M (.o k j :: r) s ρ A w0 :=
  J.stxG .text i hx hb hL hs h1 hv hlt (fun _ _ _ => trivial) h

theorem Snap.setRow {ws w : World} {X : Nat → Prop} (h : Snap ws X w) {b : Nat} {cs : Array Value} (hb : X b ∨ ws.heap.size ≤ b) : Snap ws X (w.setRow b cs) :=
  ⟨by have := h.size; simpa [World.setRow] using this, fun k hk hx => by
    rw [setRow_other w _ _ _ (fun e => by
      subst e
      rcases hb with h | h
      · exact hx h
      · omega)]
    exact h.same k hk hx⟩

theorem J.stxq {ws : World} {X : Nat → Prop} {done : List Nat} {t : TypeId} {b off : Nat} {v : Value} (i : Nat) {L : Loc} (hx : stOf B s.env ρ k j = some (t, b, off, v)) (hb : ρ.getD i 0 = b) (hL : s.mem[i]? = some L) (hs : sizeO P t = some 1) (h1 : v.cells = #[v]) (hv : v.oneCell' = true) (hlt : off < L.cells.length)
    (hX : X b ∨ ws.heap.size ≤ b)
    (h : J P B Q n W Ac M (.p k (j :: done) (Snap ws X) :: r) ⟨s.env, s.mem.set i ⟨L.ty, L.cells.set off v⟩⟩ ρ A w0) : J P B Q n W Ac M (.q k done j (Snap ws X) :: r) s ρ A w0 :=
  J.stxG (.drawn done _) i hx hb hL hs h1 hv hlt (fun _ _ hS => hS.setRow hX) h

/-! ## slices of arrays -/
theorem run_boundsF {act : Act} {len L H : Nat} {lo hi : Option Int} {olo ohi : Option Operand}
    (hl : (olo = none ∧ lo = none) ∨ ∃ y q i, olo = some y ∧ lo = some i ∧ act.eval y = .int q i) (hh : (ohi = none ∧ hi = none) ∨ ∃ y q i, ohi = some y ∧ hi = some i ∧ act.eval y = .int q i)
    (hL : lo.getD 0 = (L : Int)) (hH : hi.getD len = (H : Int)) (h1 : L ≤ H) (h2 : H ≤ len) (w : World) :
    (Instr.sliceBounds false len len (olo.map act.eval) (ohi.map act.eval) none).run P w = .ok (L, H, len) w := by
  unfold Instr.sliceBounds
  rcases hl with ⟨rfl, rfl⟩ | ⟨y, q, i, rfl, rfl, hy⟩ <;> rcases hh with ⟨rfl, rfl⟩ | ⟨y', q', i', rfl, rfl, hy'⟩
  · have e1 : L = 0 := by simp at hL; omega
    have e2 : H = len := by simp at hH; omega
    subst e1; subst e2; simp
  · have e1 : L = 0 := by simp at hL; omega
    have e2 : i' = (H : Int) := by simpa using hH
    subst e1; subst e2
    simp [hy', run_bound (Int.natCast_nonneg H) (show ((H : Nat) : Int) ≤ (len : Nat) by omega)]
  · have e1 : i = (L : Int) := by simpa using hL
    have e2 : H = len := by simp at hH; omega
    subst e1; subst e2
    simp [hy, run_bound (Int.natCast_nonneg L) (show ((L : Nat) : Int) ≤ (H : Nat) by omega)]
  · have e1 : i = (L : Int) := by simpa using hL
    have e2 : i' = (H : Int) := by simpa using hH
    subst e1; subst e2
    simp [hy, hy', run_bound (Int.natCast_nonneg L) (show ((L : Nat) : Int) ≤ (H : Nat) by omega), run_bound (Int.natCast_nonneg H) (show ((H : Nat) : Int) ≤ (len : Nat) by omega)]

def slAOf (P : Program) (B : Code) (e : Env) (ρ : List Nat) (n k j : Nat) : Option (Nat × Nat × Nat × Nat × Option Int × Option Int × Nat) :=
  match nowOp B e k j with
  | some o => match o.dst, o.op with
    | some d, .slice T x lo hi none => bif Nat.blt d n then (match P.underlying T with
      | some (.array len el) => match evv e ρ none x, sizeO P el, oInt e ρ lo, oInt e ρ hi with
        | some (.pointer (some ⟨b, off, none⟩)), some sz, some l, some h => some (b, off, len, sz, l, h, d)
        | _, _, _, _ => none
      | _ => none) else none
    | _, _ => none
  | none => none

theorem slAOf_run {b off len sz d : Nat} {lo hi : Option Int} (hx : slAOf P B s.env ρ n k j = some (b, off, len, sz, lo, hi, d)) {L H : Nat} (hL : lo.getD 0 = (L : Int)) (hH : hi.getD len = (H : Int)) (h1 : L ≤ H) (h2 : H ≤ len) (h3 : L < len) :
    ∃ o, nowOp B s.env k j = some o ∧ o.dst = some d ∧ d < n ∧ ∀ act w, Fits n s.env ρ act → (execOp act.eval o).run P w = .ok (.value (.slice (some ⟨b, off + L * sz, none⟩) (H - L) (len - L))) w := by
  unfold slAOf at hx
  split at hx
  · rename_i o ho
    split at hx
    · rename_i d' T x olo ohi hd hop
      obtain ⟨hdn, hx⟩ := bif_some hx
      split at hx
      · rename_i ln el hu
        split at hx
        · rename_i bb oo sz' l h hv hsz hl hh
          cases hx
          refine ⟨o, ho, hd, blt_iff.1 hdn, fun act w hf => ?_⟩
          have e1 : execOp act.eval o = (do Pure.pure (.value (← Instr.sliceAt T (act.eval x) (olo.map act.eval) (ohi.map act.eval) none))) := by unfold execOp; rw [hop]; rfl
          rw [e1, evv_den hf (GOk.none _) hv]
          have key := run_boundsF (P := P) (oInt_spec hf hl) (oInt_spec hf hh) hL hH h1 h2 w
          have hne : ¬ len = L := by omega
          simp [Instr.sliceAt, Instr.sureAddr, run_underlying hu, key, run_sizeOf hsz, Addr.add_lit, hne]
        · cases hx
      · cases hx
    · cases hx
  · cases hx

theorem J.slA {b off len sz d : Nat} {lo hi : Option Int} (hx : slAOf P B s.env ρ n k j = some (b, off, len, sz, lo, hi, d)) (L H : Nat) (hL : lo.getD 0 = (L : Int)) (hH : hi.getD len = (H : Int)) (h1 : L ≤ H) (h2 : H ≤ len) (h3 : L < len)
    (h : J P B Q n W Ac M (.o k (j + 1) :: r) ⟨put s.env d (.v (.slice (some ⟨b, off + L * sz, none⟩) (H - L) (len - L))), s.mem⟩ ρ A w0) : J P B Q n W Ac M (.o k j :: r) s ρ A w0 := by
  obtain ⟨o, ho, hd, hdn, hrun⟩ := slAOf_run hx hL hH h1 h2 h3
  exact J.readG .text ho hd hdn (fun a w ok => hrun a w ok.fits) h

theorem J.slAp {S : World → Prop} {done : List Nat} {b off len sz d : Nat} {lo hi : Option Int} (hQ : CalmQ Q) (hm : mayTake B k j done = true) (hx : slAOf P B s.env ρ n k j = some (b, off, len, sz, lo, hi, d)) (L H : Nat) (hL : lo.getD 0 = (L : Int)) (hH : hi.getD len = (H : Int)) (h1 : L ≤ H) (h2 : H ≤ len) (h3 : L < len)
    (h : J P B Q n W Ac M (.p k (j :: done) S :: r) ⟨put s.env d (.v (.slice (some ⟨b, off + L * sz, none⟩) (H - L) (len - L))), s.mem⟩ ρ A w0) : J P B Q n W Ac M (.p k done S :: r) s ρ A w0 := by
  obtain ⟨o, ho, hd, hdn, hrun⟩ := slAOf_run hx hL hH h1 h2 h3
  exact J.takeV hQ hm ho hd hdn (fun a w ok _ w' _ => hrun a w' ok.fits) h

/-! ## slices of strings -/
def slSOf (P : Program) (B : Code) (e : Env) (ρ : List Nat) (n k j : Nat) : Option (ByteArray × Option Int × Option Int × Nat) :=
  match nowOp B e k j with
  | some o => match o.dst, o.op with
    | some d, .slice T x lo hi none => bif Nat.blt d n then (match P.underlying T with
      | some .string => match evv e ρ none x, oInt e ρ lo, oInt e ρ hi with
        | some (.string t), some l, some h => some (t, l, h, d)
        | _, _, _ => none
      | _ => none) else none
    | _, _ => none
  | none => none

theorem slSOf_run {t : ByteArray} {d : Nat} {lo hi : Option Int} (hx : slSOf P B s.env ρ n k j = some (t, lo, hi, d)) {L H : Nat} (hL : lo.getD 0 = (L : Int)) (hH : hi.getD t.size = (H : Int)) (h1 : L ≤ H) (h2 : H ≤ t.size) :
    ∃ o, nowOp B s.env k j = some o ∧ o.dst = some d ∧ d < n ∧ ∀ act w, Fits n s.env ρ act → (execOp act.eval o).run P w = .ok (.value (.string (t.extract L H))) w := by
  unfold slSOf at hx
  split at hx
  · rename_i o ho
    split at hx
    · rename_i d' T x olo ohi hd hop
      obtain ⟨hdn, hx⟩ := bif_some hx
      split at hx
      · rename_i hu
        split at hx
        · rename_i t' l h hv hl hh
          cases hx
          refine ⟨o, ho, hd, blt_iff.1 hdn, fun act w hf => ?_⟩
          have e1 : execOp act.eval o = (do Pure.pure (.value (← Instr.sliceAt T (act.eval x) (olo.map act.eval) (ohi.map act.eval) none))) := by unfold execOp; rw [hop]; rfl
          rw [e1, evv_den hf (GOk.none _) hv]
          have key := run_boundsF (P := P) (oInt_spec hf hl) (oInt_spec hf hh) hL hH h1 h2 w
          simp [Instr.sliceAt, Instr.slice, run_underlying hu, key]
        · cases hx
      · cases hx
    · cases hx
  · cases hx

theorem J.slS {t : ByteArray} {d : Nat} {lo hi : Option Int} (hx : slSOf P B s.env ρ n k j = some (t, lo, hi, d)) (L H : Nat) (hL : lo.getD 0 = (L : Int)) (hH : hi.getD t.size = (H : Int)) (h1 : L ≤ H) (h2 : H ≤ t.size)
    (h : J P B Q n W Ac M (.o k (j + 1) :: r) ⟨put s.env d (.v (.string (t.extract L H))), s.mem⟩ ρ A w0) : J P B Q n W Ac M (.o k j :: r) s ρ A w0 := by
  obtain ⟨o, ho, hd, hdn, hrun⟩ := slSOf_run hx hL hH h1 h2
  exact J.readG .text ho hd hdn (fun a w ok => hrun a w ok.fits) h

theorem J.slSp {S : World → Prop} {done : List Nat} {t : ByteArray} {d : Nat} {lo hi : Option Int} (hQ : CalmQ Q) (hm : mayTake B k j done = true) (hx : slSOf P B s.env ρ n k j = some (t, lo, hi, d)) (L H : Nat) (hL : lo.getD 0 = (L : Int)) (hH : hi.getD t.size = (H : Int)) (h1 : L ≤ H) (h2 : H ≤ t.size)
    (h : J P B Q n W Ac M (.p k (j :: done) S :: r) ⟨put s.env d (.v (.string (t.extract L H))), s.mem⟩ ρ A w0) : J P B Q n W Ac M (.p k done S :: r) s ρ A w0 := by
  obtain ⟨o, ho, hd, hdn, hrun⟩ := slSOf_run hx hL hH h1 h2
  exact J.takeV hQ hm ho hd hdn (fun a w ok _ w' _ => hrun a w' ok.fits) h
end
end Go.Proofs.Ytkgokehkobifkaa.J

/- More rules: an element of an array's value, copies. -/
namespace Go.Proofs.Ytkgokehkobifkaa.J
open Go Go.RowKit

section
variable {P : Program} {B : Code} {Q : Exit → Act → World → Prop} {n : Nat} {W : World} {Ac M A : Nat → Prop} {s : SS} {ρ : List Nat} {w0 : World} {r t : List It} {k j : Nat}

/-! ## an element of an array's value -/
def ixOf (P : Program) (B : Code) (e : Env) (ρ : List Nat) (n k j : Nat) : Option (List Value × Nat × Int × TypeId × Nat) :=
  match nowOp B e k j with
  | some o => match o.dst, o.op with
    | some d, .index T x ix => bif Nat.blt d n then (match P.underlying T with
      | some (.array len el) => match evv e ρ none x, evv e ρ none ix with
        | some (.agg cs), some (.int _ i) => some (cs.toList, len, i, el, d)
        | _, _ => none
      | _ => none) else none
    | _, _ => none
  | none => none

theorem J.ix {cs : List Value} {len d : Nat} {i : Int} {el : TypeId} {v : Value} (hx : ixOf P B s.env ρ n k j = some (cs, len, i, el, d)) (h0 : 0 ≤ i) (h1 : i < len) (hs : sizeO P el = some 1) (ha : aggOf P el = some false) (hv : cs[i.toNat]? = some v)
    (h : J P B Q n W Ac M (.o k (j + 1) :: r) ⟨put s.env d (.v v), s.mem⟩ ρ A w0) : J P B Q n W Ac M (.o k j :: r) s ρ A w0 := by
  unfold ixOf at hx
  split at hx
  · rename_i o ho
    split at hx
    · rename_i d' T x ix hd hop
      obtain ⟨hdn, hx⟩ := bif_some hx
      split at hx
      · rename_i ln el' hu
        split at hx
        · rename_i cs' kk i' hv1 hv2
          cases hx
          refine J.readG .text ho hd (blt_iff.1 hdn) (fun a w ok => ?_) h
          have e1 : execOp a.eval o = (do Pure.pure (.value (← Instr.index T (a.eval x) (a.eval ix)))) := by unfold execOp; rw [hop]
          rw [e1, evv_den ok.fits (GOk.none _) hv1, evv_den ok.fits (GOk.none _) hv2]
          have hv' : cs'[i.toNat]? = some v := by rw [← hv]; simp
          simp [Instr.index, asIntOf, run_underlying hu, run_sizeOf hs, h0, h1, part, run_isAgg ha, hv']
        · cases hx
      · cases hx
    · cases hx
  · cases hx

/-! ## copies -/
def cpOf (B : Code) (e : Env) (ρ : List Nat) (n k j : Nat) : Option (TypeId × TypeId × Nat × Nat × Nat × Nat × Value × Nat) :=
  match nowOp B e k j with
  | some o => match o.dst, o.op with
    | some d, .call ⟨.builtin .copy, args, tys⟩ => bif Nat.blt d n then (match args.toList, tys.toList with
      | [x, y], [T, Tx] => match evv e ρ none x, evv e ρ none y with
        | some (.slice (some ⟨b, off, none⟩) dl dc), some v => some (T, Tx, b, off, dl, dc, v, d)
        | _, _ => none
      | _, _ => none) else none
    | _, _ => none
  | none => none

theorem J.copyG {S : World → Prop} {it it' : It} (hcur : IsCur k j S it it') {T Tx el b off dl dc d m c : Nat} {a : Option Addr} {α : Type} {enc : α → List Value} {l : List α} (i : Nat) {L : Loc}
    (hx : cpOf B s.env ρ n k j = some (T, Tx, b, off, dl, dc, .slice a m c, d)) (hu : P.underlying T = some (.slice el)) (hz : sizeO P el = some 1) (hb : ρ.getD i 0 = b) (hL : s.mem[i]? = some L)
    (hs : ∀ w1 A1, Mv (Lb ρ) A A1 w0 w1 → Locs s.mem ρ w1 → Sl 1 enc A1 w1 a m c l) (hk : ∀ x ∈ l, (enc x).length = 1) (hone : ∀ x ∈ l, ∀ v ∈ enc x, v.oneCell' = true) (ht : P.underlying Tx = some (.slice el))
    (hfit : off + min m dl ≤ L.cells.length) (hcl : ∀ w cs, S w → S (w.setRow b cs))
    (h : J P B Q n W Ac M (it' :: r) ⟨put s.env d (.v (.int .i64 ((min m dl : Nat) : Int))), s.mem.set i ⟨L.ty, L.cells.take off ++ (l.take (min m dl)).flatMap enc ++ L.cells.drop (off + min m dl)⟩⟩ ρ A w0) :
    J P B Q n W Ac M (it :: r) s ρ A w0 := by
  unfold cpOf at hx
  split at hx
  · rename_i o ho
    split at hx
    · rename_i d' args tys hd hop
      obtain ⟨hdn, hx⟩ := bif_some hx
      split at hx
      · rename_i y z T' Tx' ha hty
        split at hx
        · rename_i b' off' dl' dc' v h1 h2
          cases hx
          refine J.act hcur ho fun act w ok hS => ?_
          have e1 : args = #[y, z] := Array.toList_inj.1 ha
          have e2 : tys = #[T, Tx] := Array.toList_inj.1 hty
          subst e1; subst e2
          have hsl := hs w _ ok.mv ok.locs
          have hup := hsl.upto (H := min m dl) (X := c) (Nat.min_le_left _ _) (Nat.le_trans (Nat.min_le_left _ _) hsl.le) (Nat.le_refl _)
          have hsrc := hup.src (P := P) (fun x hx => hk x (List.mem_of_mem_take hx)) (fun x hx => hone x (List.mem_of_mem_take hx)) ht
          have hcells : (Builtin.firstCells 1 (min m dl) (.slice a m c)).run P w = .ok ((l.take (min m dl)).flatMap enc).toArray w := by
            have := hsrc.cells
            cases a <;> exact this
          have hrow := ok.locs.row hL
          rw [hb] at hrow
          have hlen : ((l.take (min m dl)).flatMap enc).length = min m dl := by
            have := hsrc.newsLen; omega
          have hst := run_storeCells_at P b off L.ty ((l.take (min m dl)).flatMap enc) 0 L.cells.toArray w hrow (by simp only [Nat.add_zero, List.size_toArray, hlen]; exact hfit) hsrc.one
          simp only [Nat.add_zero, hlen] at hst
          have hrun : (execOp act.eval o).run P w = .ok (.value (.int .i64 ((min m dl : Nat) : Int))) (w.setRow b (L.cells.take off ++ (l.take (min m dl)).flatMap enc ++ L.cells.drop (off + min m dl)).toArray) := by
            unfold execOp
            simp only [hop, resolve, invoke, builtin, Sem.run_bind, Sem.run_pure, Result.andThen_ok, List.map_toArray, List.map_cons, List.map_nil, evv_den ok.fits (GOk.none _) h1, evv_den ok.fits (GOk.none _) h2]
            have hmin : Nat.min m dl = min m dl := rfl
            have hl0 : (Builtin.lenOf (.slice a m c)).run P w = .ok m w := rfl
            simp only [Builtin.copy_, Sem.run_bind, Sem.run_pure, Result.andThen_ok, run_underlying hu, run_sizeOf hz, hl0, hmin, hcells, hst, goInt, List.getElem?_toArray, List.getElem?_cons_zero, List.getElem?_cons_succ]
          unfold Oper.wp
          rw [hrun]
          simp only [Oper.upon, hd]
          have hset := ok.locs.set (cs := L.cells.take off ++ (l.take (min m dl)).flatMap enc ++ L.cells.drop (off + min m dl)) hL
          rw [hb] at hset
          refine ⟨hcl _ _ hS, h _ _ (Ok.put (s := ⟨s.env, s.mem.set i ⟨L.ty, L.cells.take off ++ (l.take (min m dl)).flatMap enc ++ L.cells.drop (off + min m dl)⟩⟩) (x := .v (.int .i64 ((min m dl : Nat) : Int))) ?_ (blt_iff.1 hdn) (plain_grd rfl) rfl)⟩
          have := ok.store hL (hb ▸ hset)
          rwa [hb] at this
        · cases hx
      · cases hx
    · cases hx
  · cases hx

theorem J.copyq {ws : World} {X : Nat → Prop} {done : List Nat} {T Tx el b off dl dc d m c : Nat} {a : Option Addr} {α : Type} {enc : α → List Value} {l : List α} (i : Nat) {L : Loc}
    (hx : cpOf B s.env ρ n k j = some (T, Tx, b, off, dl, dc, .slice a m c, d)) (hu : P.underlying T = some (.slice el)) (hz : sizeO P el = some 1) (hb : ρ.getD i 0 = b) (hL : s.mem[i]? = some L)
    (hs : ∀ w1 A1, Mv (Lb ρ) A A1 w0 w1 → Locs s.mem ρ w1 → Sl 1 enc A1 w1 a m c l) (hk : ∀ x ∈ l, (enc x).length = 1) (hone : ∀ x ∈ l, ∀ v ∈ enc x, v.oneCell' = true) (ht : P.underlying Tx = some (.slice el))
    (hfit : off + min m dl ≤ L.cells.length) (hX : X b ∨ ws.heap.size ≤ b)
    (h : J P B Q n W Ac M (.p k (j :: done) (Snap ws X) :: r) ⟨put s.env d (.v (.int .i64 ((min m dl : Nat) : Int))), s.mem.set i ⟨L.ty, L.cells.take off ++ (l.take (min m dl)).flatMap enc ++ L.cells.drop (off + min m dl)⟩⟩ ρ A w0) :
    J P B Q n W Ac M (.q k done j (Snap ws X) :: r) s ρ A w0 :=
  J.copyG (.drawn done _) i hx hu hz hb hL hs hk hone ht hfit (fun _ _ hS => hS.setRow hX) h

theorem J.shr {q : IntKind} {x y : Int} {d : Nat} (hx : shOf B s.env ρ n k j = some (false, q, x, y, d)) (hy : 0 ≤ y)
    (h : J P B Q n W Ac M (.o k (j + 1) :: r) ⟨put s.env d (.v (.int q (Int.fdiv x (2 ^ min y.toNat q.bits)))), s.mem⟩ ρ A w0) : J P B Q n W Ac M (.o k j :: r) s ρ A w0 := by
  unfold shOf at hx
  split at hx
  · rename_i o ho
    split at hx
    · rename_i d' xt ox oy yt hd hop
      obtain ⟨hdn, hx⟩ := bif_some hx
      split at hx
      · cases hx
      · cases hx
    · rename_i d' xt ox oy yt hd hop
      obtain ⟨hdn, hx⟩ := bif_some hx
      split at hx
      · rename_i q' a qb b hv1 hv2
        cases hx
        refine J.readG .text ho hd (blt_iff.1 hdn) (fun act w ok => ?_) h
        have e1 : execOp act.eval o = (do Pure.pure (.value (← (do eqGuard .shr xt ox oy (act.eval ox) (act.eval oy); binOp .shr xt (act.eval ox) (act.eval oy))))) := by unfold execOp; rw [hop]
        rw [e1, evv_den ok.fits (GOk.none _) hv1, evv_den ok.fits (GOk.none _) hv2]
        simp [eqGuard, binOp, Op.shift, Int.not_lt.2 hy]
      · cases hx
    · cases hx
  · cases hx

/-- A load from a variable that is not stored to in this region. -/
theorem J.ldlp {Y : List Nat} {own : Nat → Prop} {done : List Nat} {j : Nat} {T : TypeId} {b off d : Nat} {v : Value} (i : Nat) {L : Loc} (hQ : CalmQ Q) (hm : mayTake B k j done = true) (hx : ldOf B s.env ρ n k j = some (T, b, off, d))
    (hown : ∀ k, k ∈ ρ → ¬ own k) (hρ : ∀ k, k ∈ ρ → k < w0.heap.size) (hiY : Y.contains i = false) (hb : ρ.getD i 0 = b) (hL : s.mem[i]? = some L) (ha : aggOf P T = some false) (hv : L.cells[off]? = some v)
    (h : J P B Q n W Ac M (.p k (j :: done) (Snap w0 (Xs ρ Y own)) :: r) ⟨put s.env d (.v v), s.mem⟩ ρ A w0) : J P B Q n W Ac M (.p k done (Snap w0 (Xs ρ Y own)) :: r) s ρ A w0 := by
  obtain ⟨o, ho, hd, hdn, hrun⟩ := ldOf_spec (v := v) hx
  refine J.takeV hQ hm ho hd hdn (fun a w ok hS w' hS' => hrun a w' ok.fits ?_) h
  have hil : i < ρ.length := by rw [ok.locs.len]; exact (List.getElem?_eq_some_iff.1 hL).1
  have hmem : ρ.getD i 0 ∈ ρ := by simp [List.getD, List.getElem?_eq_getElem hil]
  have hno : ¬ Xs ρ Y own (ρ.getD i 0) := by
    rintro (h | ⟨i', hi', hl', e⟩)
    · exact hown _ hmem h
    · by_cases hii : i = i'
      · subst hii
        have : Y.contains i = true := by simpa using hi'
        rw [this] at hiY; cases hiY
      · exact getD_ne ok.locs.nodup hil hl' hii e
  have hlt := hρ _ hmem
  have hrow := ok.locs.row hL
  rw [hS.same _ hlt hno, ← hS'.same _ hlt hno] at hrow
  subst hb
  refine Ld.one ha ?_
  have hv' : L.cells.toArray[off]? = some v := by simpa using hv
  simp only [World.cell?, hrow]
  exact hv'

/-- The variables' contents may be spelt otherwise. -/
theorem J.sameM {m' : List Loc} (e : s.mem = m') (h : J P B Q n W Ac M t ⟨s.env, m'⟩ ρ A w0) : J P B Q n W Ac M t s ρ A w0 := by
  subst e; exact h

theorem shOf_spec {b : Bool} {q : IntKind} {x y : Int} {d : Nat} (hx : shOf B s.env ρ n k j = some (b, q, x, y, d)) (hy : 0 ≤ y) :
    ∃ o, nowOp B s.env k j = some o ∧ o.dst = some d ∧ d < n ∧ ∀ act (w : World), Fits n s.env ρ act → (execOp act.eval o).run P w = .ok (.value (.int q (bif b then q.wrap (x * 2 ^ min y.toNat q.bits) else Int.fdiv x (2 ^ min y.toNat q.bits)))) w := by
  unfold shOf at hx
  split at hx
  · rename_i o ho
    split at hx
    · rename_i d' xt ox oy yt hd hop
      obtain ⟨hdn, hx⟩ := bif_some hx
      split at hx
      · rename_i q' a qb b hv1 hv2
        cases hx
        refine ⟨o, ho, hd, blt_iff.1 hdn, fun act w hf => ?_⟩
        have e1 : execOp act.eval o = (do Pure.pure (.value (← (do eqGuard .shl xt ox oy (act.eval ox) (act.eval oy); binOp .shl xt (act.eval ox) (act.eval oy))))) := by unfold execOp; rw [hop]
        rw [e1, evv_den hf (GOk.none _) hv1, evv_den hf (GOk.none _) hv2]
        simp [eqGuard, binOp, Op.shift, Int.not_lt.2 hy]
      · cases hx
    · rename_i d' xt ox oy yt hd hop
      obtain ⟨hdn, hx⟩ := bif_some hx
      split at hx
      · rename_i q' a qb b hv1 hv2
        cases hx
        refine ⟨o, ho, hd, blt_iff.1 hdn, fun act w hf => ?_⟩
        have e1 : execOp act.eval o = (do Pure.pure (.value (← (do eqGuard .shr xt ox oy (act.eval ox) (act.eval oy); binOp .shr xt (act.eval ox) (act.eval oy))))) := by unfold execOp; rw [hop]
        rw [e1, evv_den hf (GOk.none _) hv1, evv_den hf (GOk.none _) hv2]
        simp [eqGuard, binOp, Op.shift, Int.not_lt.2 hy]
      · cases hx
    · cases hx
  · cases hx

theorem J.shp {S : World → Prop} {done : List Nat} {j : Nat} {b : Bool} {q : IntKind} {x y : Int} {d : Nat} (hQ : CalmQ Q) (hm : mayTake B k j done = true) (hx : shOf B s.env ρ n k j = some (b, q, x, y, d)) (hy : 0 ≤ y)
    (h : J P B Q n W Ac M (.p k (j :: done) S :: r) ⟨put s.env d (.v (.int q (bif b then q.wrap (x * 2 ^ min y.toNat q.bits) else Int.fdiv x (2 ^ min y.toNat q.bits)))), s.mem⟩ ρ A w0) : J P B Q n W Ac M (.p k done S :: r) s ρ A w0 := by
  obtain ⟨o, ho, hd, hdn, hrun⟩ := shOf_spec (P := P) hx hy
  exact J.takeV hQ hm ho hd hdn (fun a w ok _ w' _ => hrun a w' ok.fits) h
end
end Go.Proofs.Ytkgokehkobifkaa.J

/- More rules: slices that are made empty, appends of nothing. -/
namespace Go.Proofs.Ytkgokehkobifkaa.J
open Go Go.RowKit

theorem Sl.notA {α : Type} {k : Nat} {enc : α → List Value} {A : Nat → Prop} {w : World} {b o n c : Nat} {l : List α} (h : Sl k enc A w (some ⟨b, o, none⟩) n c l) (hl : l ≠ []) : ¬ A b := by
  obtain ⟨_, _, e, h2, _⟩ := h.at_ hl
  cases e; exact h2
theorem Nw.re {N : Nat} {e : TypeId} {k : Nat} {ρ : List Nat} {A : Nat → Prop} {w : World} {a : Option Addr} {n n' c : Nat} {xs ys : List Value} (h : Nw N e k ρ A w a n c xs) (hn : n = n') (hx : xs = ys) : Nw N e k ρ A w a n' c ys := by
  subst hn; subst hx; exact h
theorem Nw.addr {N : Nat} {e : TypeId} {k : Nat} {ρ : List Nat} {A : Nat → Prop} {w : World} {a : Option Addr} {n c : Nat} {xs : List Value} (h : Nw N e k ρ A w a n c xs) (hn : 0 < n) : ∃ b off, a = some ⟨b, off, none⟩ := by
  obtain ⟨_, ⟨_, h2, _⟩ | ⟨g, _, h2, _⟩⟩ := h
  · omega
  · exact ⟨g, 0, h2⟩
theorem Nw.mvD {Y : List Nat} {N : Nat} {e : TypeId} {k : Nat} {ρ : List Nat} {A A1 : Nat → Prop} {w w1 : World} {a : Option Addr} {n c : Nat} {xs : List Value} (h : Nw N e k ρ A w a n c xs) (m : Mv (Xs ρ Y nobody) A A1 w w1) : Nw N e k ρ A1 w1 a n c xs :=
  h.mvX m (fun g _ _ hρ _ hX => by
    rcases hX with h | ⟨i, _, hi, e⟩
    · exact h
    · subst e; exact hρ (by simp [List.getD, List.getElem?_eq_getElem hi]))
/-- The block that an address lies in. -/
def adr (a : Option Addr) (k : Nat) : Prop := ∃ x, a = some x ∧ x.block = k
theorem Nw.adrA {N : Nat} {e : TypeId} {k : Nat} {ρ : List Nat} {A : Nat → Prop} {w : World} {a : Option Addr} {n c : Nat} {xs : List Value} (h : Nw N e k ρ A w a n c xs) : ∀ q, adr a q → A q := by
  rintro q ⟨x, e1, e2⟩
  obtain ⟨_, ⟨rfl, _, _⟩ | ⟨g, cur, rfl, _, _, h5, _⟩⟩ := h
  · cases e1
  · cases e1; subst e2; exact h5
theorem Nw.adrN {N : Nat} {e : TypeId} {k : Nat} {ρ : List Nat} {A : Nat → Prop} {w : World} {a : Option Addr} {n c : Nat} {xs : List Value} (h : Nw N e k ρ A w a n c xs) : ∀ q, q ∈ ρ → ¬ adr a q := by
  rintro q hq ⟨x, e1, e2⟩
  obtain ⟨_, ⟨rfl, _, _⟩ | ⟨g, cur, rfl, _, h4, _⟩⟩ := h
  · cases e1
  · cases e1; subst e2; exact h4 hq

theorem Locs.lda {P : Program} {mem : List Loc} {ρ : List Nat} {w : World} (l : Locs mem ρ w) {i : Nat} {L : Loc} (hi : mem[i]? = some L) {t : TypeId} (ha : aggOf P t = some true) (hs : sizeO P t = some L.cells.length) :
    Ld P w t (ρ.getD i 0) 0 (.agg L.cells.toArray) := Ld.agg ha hs (fun j v hv => by
  rw [← hv, ← l.cell hi, Nat.zero_add])

section
variable {P : Program} {B : Code} {Q : Exit → Act → World → Prop} {n : Nat} {W : World} {Ac M A : Nat → Prop} {s : SS} {ρ : List Nat} {w0 : World} {r t : List It} {k j : Nat}

def mkOf (B : Code) (e : Env) (ρ : List Nat) (n k j : Nat) : Option (TypeId × Int × Int × Nat) :=
  match nowOp B e k j with
  | some o => match o.dst, o.op with
    | some d, .makeSlice T x y => bif Nat.blt d n then (match evv e ρ none x, evv e ρ none y with
      | some (.int .i64 l), some (.int .i64 c) => some (T, l, c, d)
      | _, _ => none) else none
    | _, _ => none
  | none => none

theorem J.mk0 {T e : TypeId} {sz bytes c d : Nat} {cc : Int} (hx : mkOf B s.env ρ n k j = some (T, 0, cc, d)) (hcc : cc = ((c : Nat) : Int)) (hT : elemI P T = some (e, sz, bytes)) (hb : bytes * c ≤ 281474976710656) (hc : c ≤ maxLen)
    (h : ∀ g w' A', Nw W.heap.size e sz ρ A' w' (some ⟨g, 0, none⟩) 0 c [] → Mv (Lb ρ) A A' w0 w' → J P B Q n W Ac M (.o k (j + 1) :: r) ⟨put s.env d (.v (.slice (some ⟨g, 0, none⟩) 0 c)), s.mem⟩ ρ A' w') : J P B Q n W Ac M (.o k j :: r) s ρ A w0 := by
  subst hcc
  unfold mkOf at hx
  split at hx
  · rename_i o ho
    split at hx
    · rename_i d' T' x y hd hop
      obtain ⟨hdn, hx⟩ := bif_some hx
      split at hx
      · rename_i l cc hv1 hv2
        cases hx
        refine J.op ho fun a w ok => ?_
        obtain ⟨i, z, hu, hi, hz, rfl, rfl, hzs, hsz⟩ := elemI_spec hT
        have h63 : ((c : Nat) : Int) ≤ 9223372036854775807 := by simp only [maxLen] at hc; omega
        have hb' : (i.bytes : Int) * ((c : Nat) : Int) ≤ 281474976710656 := by
          rw [← Int.natCast_mul]; omega
        have hr := run_make (P := P) w T e i z hu hi hz .i64 .i64 0 ((c : Nat) : Int) (Int.le_refl _) (by omega) hb' h63
        simp only [Int.toNat_zero, Int.toNat_natCast] at hr
        have e1 : execOp a.eval o = (do Pure.pure (.value (← Instr.makeSlice T (a.eval x) (a.eval y)))) := by unfold execOp; rw [hop]
        unfold Oper.wp
        rw [e1, evv_den ok.fits (GOk.none _) hv1, evv_den ok.fits (GOk.none _) hv2]
        simp only [Sem.run_bind, hr, Result.andThen_ok, Sem.run_pure, Oper.upon, hd]
        have hold : ∀ k, k < w.heap.size → (w.alloc (.cells (madeCells z.cells (c * i.size)) e)).heap[k]? = w.heap[k]? := fun k hk => Below.heap_alloc w _ k hk
        have hmv := ok.mv
        refine h w.heap.size (w.alloc (.cells (madeCells z.cells (c * i.size)) e)) (fun k => Av A ρ k ∨ k = w.heap.size) ⟨by simp, .inr ⟨w.heap.size, madeCells z.cells (c * i.size), rfl, ok.sn.size, fun hh => by have := ok.locs.lt hh; omega, .inr rfl, heap_alloc_new w _, Nat.zero_le _, hc, size_madeCells _ _, by simp⟩⟩ ?_ _ _ ?_
        · exact {
            size := by have := ok.size; simp; omega
            same := fun k hk hn => by
              rw [hold k (Nat.lt_of_lt_of_le hk ok.size)]
              exact ok.same k hk hn
            sub := fun k hk hl => ok.loc k hk hl
            dn := fun k hk hh => by
              rcases hh with hh | hh
              · exact hmv.dn k hk hh
              · have := ok.size; omega
            up := fun k hk hh hn => .inl (hmv.up k hk hh hn)
            bdd := fun k hk => by
              rcases hk with hh | hh
              · have := hmv.bdd k hh; simp; omega
              · subst hh; simp }
        · refine Ok.put (s := s) (x := .v (.slice (some ⟨w.heap.size, 0, none⟩) 0 c)) ?_ (blt_iff.1 hdn) (plain_grd rfl) rfl
          exact {
            fits := ok.fits
            locs := ⟨ok.locs.len, ok.locs.nodup, fun i' L hi' => by
              have hm : ρ.getD i' 0 ∈ ρ := by
                have : i' < ρ.length := by rw [ok.locs.len]; exact (List.getElem?_eq_some_iff.1 hi').1
                simp [List.getD, List.getElem?_eq_getElem this]
              rw [hold _ (ok.locs.lt hm)]
              exact ok.locs.row hi'⟩
            sn := { os := ok.sn.os, tape := ok.sn.tape, output := ok.sn.output, drawn := ok.sn.drawn, size := by have := ok.sn.size; simp; omega
                    same := fun k hk hM => by
                      rw [hold k (Nat.lt_of_lt_of_le hk ok.sn.size)]
                      exact ok.sn.same k hk hM }
            size := Nat.le_refl _
            same := fun _ _ _ => rfl
            loc := fun k hk _ => .inl (.inr hk)
            bdd := fun k hk => by
              rcases hk with hh | hh
              · have := hmv.bdd k hh; simp; omega
              · subst hh; simp
            fresh := ok.fresh
            sub := fun k hk => .inl (.inl (ok.sub k hk))
            big := by have := ok.sn.size; simp; omega
            acb := ok.acb }
      · cases hx
    · cases hx
  · cases hx

/-- An append of nothing. -/
theorem J.app0G {S : World → Prop} {it it' : It} (hcur : IsCur k j S it it') {T Tx e : TypeId} {a : Option Addr} {nn c d sz bytes : Nat} {x : Value} (hx : appOf B s.env ρ n k j = some (T, Tx, a, nn, c, x, d)) (hT : elemI P T = some (e, sz, bytes))
    (hs : ∀ w1 A1, Mv (Lb ρ) A A1 w0 w1 → Locs s.mem ρ w1 → Src P sz Tx x 0 [] w1) (hm : nn ≤ c)
    (h : J P B Q n W Ac M (it' :: r) ⟨put s.env d (.v (.slice a nn c)), s.mem⟩ ρ A w0) : J P B Q n W Ac M (it :: r) s ρ A w0 := by
  obtain ⟨o, ho, hd, hdn, hrun⟩ := appOf_spec hx
  refine J.readG hcur ho hd hdn (fun act w ok => ?_) h
  rw [hrun P act w ok.fits]
  obtain ⟨i, z, hu, hi, hz, hi1, hi2, hzs, hsz⟩ := elemI_spec hT
  have q := hs w _ ok.mv ok.locs
  have hc0 := q.cells
  have hl0 := q.len
  subst hi1
  rcases q.kind with ⟨e', hk⟩ | hk <;> cases a <;> simp [Builtin.append_, run_underlying hu, run_underlying hk, sizeOf, typeInfo, hi, hl0, hc0, hm, storeCells]

theorem J.app0 {T Tx e : TypeId} {a : Option Addr} {nn c d sz bytes : Nat} {x : Value} (hx : appOf B s.env ρ n k j = some (T, Tx, a, nn, c, x, d)) (hT : elemI P T = some (e, sz, bytes))
    (hs : ∀ w1 A1, Mv (Lb ρ) A A1 w0 w1 → Locs s.mem ρ w1 → Src P sz Tx x 0 [] w1) (hm : nn ≤ c)
    (h : J P B Q n W Ac M (.o k (j + 1) :: r) ⟨put s.env d (.v (.slice a nn c)), s.mem⟩ ρ A w0) : J P B Q n W Ac M (.o k j :: r) s ρ A w0 := J.app0G .text hx hT hs hm h

theorem J.app0q {S : World → Prop} {done : List Nat} {T Tx e : TypeId} {a : Option Addr} {nn c d sz bytes : Nat} {x : Value} (hx : appOf B s.env ρ n k j = some (T, Tx, a, nn, c, x, d)) (hT : elemI P T = some (e, sz, bytes))
    (hs : ∀ w1 A1, Mv (Lb ρ) A A1 w0 w1 → Locs s.mem ρ w1 → Src P sz Tx x 0 [] w1) (hm : nn ≤ c)
    (h : J P B Q n W Ac M (.p k (j :: done) S :: r) ⟨put s.env d (.v (.slice a nn c)), s.mem⟩ ρ A w0) : J P B Q n W Ac M (.q k done j S :: r) s ρ A w0 := J.app0G (.drawn done S) hx hT hs hm h
end
end Go.Proofs.Ytkgokehkobifkaa.J

/- Package entry: byKey, Sorted. -/
namespace Go.Proofs.Ytkgokehkobifkaa.J
open Go Go.RowKit

/-- How two texts compare. -/
def cmpS (a b : Str) : Int := if slt a b = true then -1 else if slt b a = true then 1 else 0
theorem cmpS_ge {a b : Str} : 0 ≤ cmpS a b ↔ slt a b = false := by
  unfold cmpS
  split
  · rename_i h; simp [h]
  · rename_i h
    simp only [Bool.not_eq_true] at h
    split <;> simp [h]

def SortedL : List Ent → Prop
  | a :: b :: r => slt a.key b.key = true ∧ SortedL (b :: r)
  | _ => True
def decSorted : ∀ (l : List Ent), Decidable (SortedL l)
  | [] => isTrue trivial
  | [_] => isTrue trivial
  | a :: b :: r => match (inferInstance : Decidable (slt a.key b.key = true)), decSorted (b :: r) with
    | isTrue h1, isTrue h2 => isTrue ⟨h1, h2⟩
    | isFalse h1, _ => isFalse fun h => h1 h.1
    | _, isFalse h2 => isFalse fun h => h2 h.2
instance (l : List Ent) : Decidable (SortedL l) := decSorted l
theorem sorted_iff : ∀ (l : List Ent), SortedL l ↔ ∀ i a b, l[i]? = some a → l[i + 1]? = some b → slt a.key b.key = true
  | [] => ⟨fun _ i a b h => by simp at h, fun _ => trivial⟩
  | [x] => ⟨fun _ i a b _ h => by simp at h, fun _ => trivial⟩
  | x :: y :: r => by
    have ih := sorted_iff (y :: r)
    constructor
    · rintro ⟨h1, h2⟩ i a b ha hb
      cases i with
      | zero => simp at ha hb; subst ha; subst hb; exact h1
      | succ i => exact ih.1 h2 i a b (by simpa using ha) (by simpa using hb)
    · intro h
      exact ⟨h 0 x y rfl rfl, ih.2 fun i a b ha hb => h (i + 1) a b (by simpa using ha) (by simpa using hb)⟩

theorem isNaN_calls (x : Str) (Ac : Nat → Prop) (W : World) (hA : ∀ k, Ac k → k < W.heap.size) :
    Calls Pr 125 #[.string x] W (Ret nobody W fun v w => v = .bool false) := by
  refine J.enter (fn := Try.f125) (n := 6) Try.func125 (by kernel_rfl) (by kernel_rfl) (by kernel_rfl) hA ?_
  refine J.rn [.n, .n, .u, .n, .n, .n, .u, .u, .u, .u, .n] [2] [.c 0] [.c 4] (by kernel_rfl) ?_
  refine J.ret (v := .bool (!(seq x x))) (by kernel_rfl) (by kernel_rfl) (fun w1 A1 m1 hac l1 => by rw [seq_refl]; rfl)
theorem compare_calls (x y : Str) (Ac : Nat → Prop) (W : World) (hA : ∀ k, Ac k → k < W.heap.size) :
    Calls Pr 101 #[.string x, .string y] W (Ret nobody W fun v w => v = .int .i64 (cmpS x y)) := by
  refine J.enter (fn := Try.f101) (n := 20) Try.func101 (by kernel_rfl) (by kernel_rfl) (by kernel_rfl) hA ?_
  refine J.rn [.n, .n, .u, .n, .n, .n, .u] [0, 1, 7] [.c 0] [.o 3 1, .c 4] (by kernel_rfl) ?_
  refine J.call (d := some 8) (by kernel_rfl) (fun w1 A1 m1 l1 => isNaN_calls x nobody w1 noA) ?_
  rintro _ u1 w1 A1 rfl g1
  have m1 := g1.mv
  refine J.rn [.u, .n, .n, .n, .u] [0, 1, 5, 9] [.o 3 2, .c 4] [.o 5 1, .c 6] (by kernel_rfl) ?_
  refine J.call (d := some 10) (by kernel_rfl) (fun w1 A1 m1 l1 => isNaN_calls y nobody w1 noA) ?_
  rintro _ u2 w2 A2 rfl g2
  have m2 := g2.mv
  refine J.rn [.u, .n, .n, .n, .n, .u, .n] [0, 1, 6, 11] [.o 5 2, .c 6] [.c 9, .c 22] (by kernel_rfl) ?_
  refine J.cond (b := false) (k' := 21) (by kernel_rfl) (fun hc => absurd hc (by decide)) (fun _ => ?_)
  refine J.run [.n, .n, .n, .n, .u, .n] [0, 1, 13] ⟨[(0, .v (.string x)), (1, .v (.string y)), (13, .v (.bool false))], []⟩ [.c 21, .c 22] [.c 25, .c 30] (by kernel_rfl) ?_
  refine J.cond (b := false) (k' := 29) (by kernel_rfl) (fun hc => absurd hc (by decide)) (fun _ => ?_)
  refine J.rn [.n, .n, .n, .n, .u, .u, .u, .n] [0, 1, 16] [.c 29, .c 30] [.c 33, .c 38] (by kernel_rfl) ?_
  refine J.cond (b := (slt x y)) (k' := 37) (by kernel_rfl) (fun hc => ?_) (fun hc => ?_)
  · try simp only [nrm] at hc
    have hc1 := hc
    refine J.rn [.n, .n, .u, .n] [4] [.c 34, .c 38] [.c 36, .c 38] (by kernel_rfl) ?_
    refine J.ret (v := .int .i64 (-1)) (by kernel_rfl) (by kernel_rfl) (fun w1 A1 m1 hac l1 => by simp_all [cmpS, sle_not])
  · try simp only [nrm] at hc
    have hc1 := hc
    refine J.rn [.n, .n, .n, .n, .u, .u, .u, .n] [19] [.c 37, .c 38] [.c 41, .c 46] (by kernel_rfl) ?_
    refine J.cond (b := (!(sle x y))) (k' := 45) (by kernel_rfl) (fun hc => ?_) (fun hc => ?_)
    · try simp only [nrm] at hc
      have hc2 := hc
      refine J.run [.n, .n, .u, .n] [4] ⟨[(4, .v (.int .i64 1))], []⟩ [.c 42, .c 46] [.c 44, .c 46] (by kernel_rfl) ?_
      refine J.ret (v := .int .i64 1) (by kernel_rfl) (by kernel_rfl) (fun w1 A1 m1 hac l1 => by simp_all [cmpS, sle_not])
    · try simp only [nrm] at hc
      have hc2 := hc
      refine J.rn [.n, .n, .n, .u, .n] [4] [.c 45, .c 46] [.c 48] (by kernel_rfl) ?_
      refine J.ret (v := .int .i64 0) (by kernel_rfl) (by kernel_rfl) (fun w1 A1 m1 hac l1 => by simp_all [cmpS, sle_not])
theorem byKey_calls (x y : Ent) (Ac : Nat → Prop) (W : World) (hA : ∀ k, Ac k → k < W.heap.size) :
    Calls Pr 78 #[.agg (encE x).toArray, .agg (encE y).toArray] W (Ret nobody W fun v w => v = .int .i64 (cmpS x.key y.key)) := by
  refine J.enter (fn := Try.f78) (n := 10) Try.func78 (by kernel_rfl) (by kernel_rfl) (by kernel_rfl) hA ?_
  refine J.rn [.n, .n] [0, 1] [.c 0] [.o 1 0, .c 2] (by kernel_rfl) ?_
  refine J.new (T := 42) (cs := encE x) (d := 2) (K := .ptr) (by kernel_rfl) (fun b1 hb1 => ?_)
  refine J.new (T := 42) (cs := encE y) (d := 3) (K := .ptr) (by kernel_rfl) (fun b2 hb2 => ?_)
  refine J.rn [.u, .n, .n, .n, .u, .u, .u, .u] [6, 8] [.o 1 2, .c 2] [.o 3 4, .c 4] (by kernel_rfl) ?_
  refine J.call (d := some 9) (by kernel_rfl) (fun w1 A1 m1 l1 => compare_calls x.key y.key nobody w1 noA) ?_
  rintro _ u1 w1 A1 rfl g1
  have m1 := g1.mv
  refine J.rn [.u, .n] [4] [.o 3 5, .c 4] [.c 4] (by kernel_rfl) ?_
  refine J.ret (v := .int .i64 (cmpS x.key y.key)) (by kernel_rfl) (by kernel_rfl) (fun w1 A1 m1 hac l1 => rfl)
theorem sorted_calls (a : Option Addr) (n c : Nat) (l : List Ent) (Ac : Nat → Prop) (W : World) (hA : ∀ k, Ac k → k < W.heap.size) (hs : Sl 4 encE Ac W a n c l) :
    Calls Pr 57 #[.slice a n c] W (Ret nobody W fun v w => v = .bool (decide (SortedL l))) := by
  refine J.enter (fn := Try.f57) (n := 26) Try.func57 (by kernel_rfl) (by kernel_rfl) (by kernel_rfl) hA ?_
  have hlen := hs.len; have hle := hs.le; have hcap := hs.cap; simp only [maxLen] at hcap
  have hmx : IntKind.i64.wrap ((if ((n : Nat) : Int) < 1 then 1 else ((n : Nat) : Int)) - 1) = ((n - 1 : Nat) : Int) := by rw [wrap_i64 (by omega) (by omega)]; omega
  refine J.run [.n, .n, .u, .n, .n, .n, .n, .u, .u, .u, .u, .u] [0, 4, 8] ⟨[(0, .v (.slice a n c)), (4, .v (.slice a n c)), (8, .v (.int .i64 (IntKind.i64.wrap ((if ((n : Nat) : Int) < 1 then 1 else ((n : Nat) : Int)) - 1))))], []⟩ [.c 0] [.o 4 5, .c 5, .c 25] (by kernel_rfl) ?_
  rw [hmx]
  refine J.sl (a := a) (len := n) (cap := c) (sz := 4) (lo := none) (hi := (some ((n - 1 : Nat) : Int))) (mx := none) (d := 9) (by kernel_rfl) 0 (n - 1) c (by simp) (by simp) (by simp) (by have := hs.le; omega) (by have := hs.le; omega) (by have := hs.le; omega) (by simp) ?_
  intro a1 ha1 hb1
  rw [hb1 rfl, Nat.sub_zero, Nat.sub_zero]; clear ha1 hb1 a1
  have hp1 := hs.upto (H := n - 1) (X := c) (by have := hs.le; omega) (by have := hs.le; omega) (by have := hs.le; omega)
  refine J.rn [.u, .u, .n, .n] [0, 10, 11] [.o 4 6, .c 5, .c 25] [.c 6, .b 0, .c 25] (by kernel_rfl) ?_
  refine J.loop (X := Nat) (fun i => ⟨[(0, .v (.slice a n c)), (10, .v (.int .i64 ((n - 1 : Nat) : Int))), (11, .v (.int .i64 ((i : Nat) : Int)))], []⟩) (fun i A w => i ≤ n - 1 ∧ Sl 4 encE A w a n c l ∧ ∀ j x y, j < i → l[j]? = some x → l[j + 1]? = some y → slt x.key y.key = true) (fun i => n - 1 - i) [0, 10, 11] 0 [] 0 (by kernel_rfl) (by kernel_rfl) (by kernel_rfl) (fun w1 A1 m1 => ⟨Nat.zero_le _, hs.mv m1, fun j _ _ h => absurd h (Nat.not_lt_zero _)⟩) (fun i A1 w1 hI => ?_)
  obtain ⟨hi, hs, hso⟩ := hI
  refine J.rn [.n, .n, .u, .n, .n] [0, 10, 11, 12] [.c 7] [.c 10, .c 13] (by kernel_rfl) ?_
  refine J.cond (b := (decide (((i : Nat) : Int) < ((n - 1 : Nat) : Int)))) (k' := 12) (by kernel_rfl) (fun hc => ?_) (fun hc => ?_)
  · try simp only [nrm] at hc
    have hc1 := hc
    refine J.run [.n, .n, .n, .n, .n, .u, .u, .n, .n] [0, 3, 10, 11] ⟨[(0, .v (.slice a n c)), (3, .v (.int .i64 ((i : Nat) : Int))), (10, .v (.int .i64 ((n - 1 : Nat) : Int))), (11, .v (.int .i64 ((i : Nat) : Int)))], []⟩ [.c 11, .c 13] [.c 18, .c 19, .b 1, .c 24] (by kernel_rfl) ?_
    refine J.draw [] nobody (by kernel_rfl) (by kernel_rfl) (fun _ h => h.elim) (fun w2 A2 m1 hr1 hX1 => ?_)
    replace hs := hs.mv m1
    refine J.take0 [(0, .u), (1, .u), (4, .u), (5, .u), (6, .u)] [0, 10, 11, 14, 15, 18, 20] [(0, .v (.slice a n c)), (10, .v (.int .i64 ((n - 1 : Nat) : Int))), (11, .v (.int .i64 ((i : Nat) : Int))), (14, .v (.slice a n c)), (15, .v (.int .i64 ((i : Nat) : Int))), (18, .v (.slice a n c)), (20, .v (.int .i64 (IntKind.i64.wrap (((i : Nat) : Int) + 1))))] [6, 5, 4, 1, 0] (calm_body _ _ _) (by intro k _ h; exact h) hr1 (by kernel_rfl) ?_
    have hw1 : IntKind.i64.wrap (((i : Nat) : Int) + 1) = ((i + 1 : Nat) : Int) := by rw [wrap_i64 (by omega) (by omega)]; try omega
    rw [hw1]
    obtain ⟨p1, o1, rfl⟩ := hs.addr (by omega)
    refine J.idxp (j := 2) (b := p1) (off := o1) (len := n) (i := ((i : Nat) : Int)) (sz := 4) (d := 16) (calm_body _ _ _) (by kernel_rfl) (by kernel_rfl) (by omega) (by omega) ?_
    obtain ⟨x1, hx1⟩ : ∃ zq, (l)[i]? = some zq := ⟨_, List.getElem?_eq_getElem (by omega)⟩
    refine J.ldp (i := 3) (T := 42) (b := p1) (off := o1 + i * 4) (d := 17) (v := .agg (encE x1).toArray) (calm_body _ _ _) (by kernel_rfl) (by kernel_rfl) hX1 (fun w1 m1 => (hs.mv m1).ld (by kernel_rfl) hx1 (by kernel_rfl)) ?_
    refine J.idxp (j := 7) (b := p1) (off := o1) (len := n) (i := ((i + 1 : Nat) : Int)) (sz := 4) (d := 21) (calm_body _ _ _) (by kernel_rfl) (by kernel_rfl) (by omega) (by omega) ?_
    obtain ⟨x2, hx2⟩ : ∃ zq, (l)[i + 1]? = some zq := ⟨_, List.getElem?_eq_getElem (by omega)⟩
    refine J.ldp (i := 8) (T := 42) (b := p1) (off := o1 + (i + 1) * 4) (d := 22) (v := .agg (encE x2).toArray) (calm_body _ _ _) (by kernel_rfl) (by kernel_rfl) hX1 (fun w1 m1 => (hs.mv m1).ld (by kernel_rfl) hx2 (by kernel_rfl)) ?_
    refine J.pick1 9 (by kernel_rfl) (by kernel_rfl) ?_
    refine J.callq (d := some 23) (by kernel_rfl) (fun w1 A1 m1 l1 => byKey_calls x1 x2 nobody w1 noA) ?_
    rintro _ u1 w3 A3 rfl g1
    have m2 := g1.mv
    replace hs := hs.mv m2
    refine J.take1 [(10, .u)] [0, 10, 11, 24] [(0, .v (.slice (some ⟨p1, o1, none⟩) n c)), (10, .v (.int .i64 ((n - 1 : Nat) : Int))), (11, .v (.int .i64 ((i : Nat) : Int))), (24, .v (.bool (decide ((cmpS x1.key x2.key) ≥ 0))))] [10, 9, 8, 7, 3, 2, 6, 5, 4, 1, 0] (calm_body _ _ _) (by kernel_rfl) ?_
    refine J.pdone (by kernel_rfl) ?_
    refine J.cond (b := (decide ((cmpS x1.key x2.key) ≥ 0))) (k' := 23) (by kernel_rfl) (fun hc => ?_) (fun hc => ?_)
    · try simp only [nrm] at hc
      have hc2 := hc
      refine J.rn [.n, .n, .u, .n] [2] [.c 20, .b 1, .c 24] [.c 22, .b 1, .c 24] (by kernel_rfl) ?_
      refine J.ret (v := .bool false) (by kernel_rfl) (by kernel_rfl) (fun w1 A1 m1 hac l1 => by rw [decide_eq_false (fun h => absurd ((sorted_iff l).1 h i x1 x2 hx1 hx2) (by rw [cmpS_ge.1 hc2]; decide))])
    · try simp only [nrm] at hc
      have hc2 := hc
      refine J.run [.n, .n, .n, .u, .u, .n] [0, 10, 11] ⟨[(0, .v (.slice (some ⟨p1, o1, none⟩) n c)), (10, .v (.int .i64 ((n - 1 : Nat) : Int))), (11, .v (.int .i64 (IntKind.i64.wrap (((i : Nat) : Int) + 1))))], []⟩ [.c 23, .b 1, .c 24] [] (by kernel_rfl) ?_
      have hw2 : IntKind.i64.wrap (((i : Nat) : Int) + 1) = ((i + 1 : Nat) : Int) := by rw [wrap_i64 (by omega) (by omega)]; try omega
      rw [hw2]
      have hlt : slt x1.key x2.key = true := by cases h : slt x1.key x2.key with | true => rfl | false => exact absurd (cmpS_ge.2 h) (by omega)
      exact J.again (i + 1) [0, 10, 11] 0 (by omega) (by kernel_rfl) (by kernel_rfl) (fun w1 A1 m1 => ⟨by omega, hs.mv m1, fun j x y hj hx hy => by rcases Nat.lt_succ_iff_lt_or_eq.1 hj with h | rfl; exact hso j x y h hx hy; rw [hx1] at hx; rw [hx2] at hy; cases hx; cases hy; exact hlt⟩)
  · try simp only [nrm] at hc
    have hc1 := hc
    refine J.exit (id := 0) (by kernel_rfl) (by rfl) ?_
    refine J.rn [.n, .n, .u, .n] [2] [.c 25] [.c 27] (by kernel_rfl) ?_
    refine J.ret (v := .bool true) (by kernel_rfl) (by kernel_rfl) (fun w1 A1 m1 hac l1 => by rw [decide_eq_true ((sorted_iff l).2 fun j x y hx hy => hso j x y (by have := (List.getElem?_eq_some_iff.1 hy).1; omega) hx hy)])
end Go.Proofs.Ytkgokehkobifkaa.J

/- Package sum: the sums. -/
namespace Go.Proofs.Ytkgokehkobifkaa.J
open Go Go.RowKit

def upd (f : Nat → Int) (i : Nat) (v : Int) : Nat → Int := fun j => if j = i then v else f j
def w64 (f : Nat → Int) : List Value := (List.range 64).map fun i => Value.int .u32 (f i)
def w8 (f : Nat → Int) : List Value := (List.range 8).map fun i => Value.int .u32 (f i)
def b64 (f : Nat → Int) : List Value := (List.range 64).map fun i => Value.int .u8 (f i)
def b32 (f : Nat → Int) : List Value := (List.range 32).map fun i => Value.int .u8 (f i)
def hcells (h k p : Nat → Int) (held size : Int) : List Value := w8 h ++ w64 k ++ b64 p ++ [.int .i64 held, .int .u64 size]

theorem rmap_at {n t : Nat} {α : Type} (g : Nat → α) (h : t < n) : ((List.range n).map g)[t]? = some (g t) := by simp [h]
theorem rmap_set {n t : Nat} {c : Int → Value} {f : Nat → Int} {v : Int} : ((List.range n).map fun i => c (f i)).set t (c v) = (List.range n).map fun i => c (upd f t v i) := by
  apply List.ext_getElem?
  intro i
  simp only [List.getElem?_set, List.length_map, List.length_range, List.getElem?_map, upd]
  by_cases h : t = i
  · subst h
    by_cases h2 : t < n
    · simp [h2]
    · simp [h2]
  · have h' : ¬ i = t := fun e => h e.symm
    simp only [h, if_false]
    by_cases h2 : i < n
    · simp [h2, h']
    · simp [h2]
theorem w64_len (f : Nat → Int) : (w64 f).length = 64 := by simp [w64]
theorem w8_len (f : Nat → Int) : (w8 f).length = 8 := by simp [w8]
theorem b64_len (f : Nat → Int) : (b64 f).length = 64 := by simp [b64]
theorem b32_len (f : Nat → Int) : (b32 f).length = 32 := by simp [b32]
theorem hcells_len (h k p : Nat → Int) (held size : Int) : (hcells h k p held size).length = 138 := by simp [hcells, w8_len, w64_len, b64_len]
theorem w64_at {f : Nat → Int} {t : Nat} (h : t < 64) : (w64 f)[0 + t * 1]? = some (.int .u32 (f t)) := by rw [Nat.zero_add, Nat.mul_one]; exact rmap_at _ h
theorem w8_at {f : Nat → Int} {t : Nat} (h : t < 8) : (w8 f)[0 + t * 1]? = some (.int .u32 (f t)) := by rw [Nat.zero_add, Nat.mul_one]; exact rmap_at _ h
theorem b32_at {f : Nat → Int} {t : Nat} (h : t < 32) : (b32 f)[0 + t * 1]? = some (.int .u8 (f t)) := by rw [Nat.zero_add, Nat.mul_one]; exact rmap_at _ h
theorem w64_set {f : Nat → Int} {t : Nat} {v : Int} (_h : t < 64) : (w64 f).set (0 + t * 1) (.int .u32 v) = w64 (upd f t v) := by rw [Nat.zero_add, Nat.mul_one]; exact rmap_set (c := fun v => Value.int .u32 v)
theorem w8_set {f : Nat → Int} {t : Nat} {v : Int} (_h : t < 8) : (w8 f).set (0 + t * 1) (.int .u32 v) = w8 (upd f t v) := by rw [Nat.zero_add, Nat.mul_one]; exact rmap_set (c := fun v => Value.int .u32 v)
theorem b32_set {f : Nat → Int} {t : Nat} {v : Int} (_h : t < 32) : (b32 f).set (0 + t * 1) (.int .u8 v) = b32 (upd f t v) := by rw [Nat.zero_add, Nat.mul_one]; exact rmap_set (c := fun v => Value.int .u8 v)
theorem hcells_h {h k p : Nat → Int} {held size : Int} {t : Nat} (ht : t < 8) : (hcells h k p held size)[0 + t * 1]? = some (.int .u32 (h t)) := by
  rw [Nat.zero_add, Nat.mul_one]
  unfold hcells
  rw [List.getElem?_append_left (by simp [w8_len, w64_len, b64_len]; omega), List.getElem?_append_left (by simp [w8_len, w64_len]; omega), List.getElem?_append_left (by rw [w8_len]; omega)]
  exact rmap_at _ ht
theorem hcells_k {h k p : Nat → Int} {held size : Int} {t : Nat} (ht : t < 64) : (hcells h k p held size)[8 + t * 1]? = some (.int .u32 (k t)) := by
  rw [Nat.mul_one]
  unfold hcells
  rw [List.getElem?_append_left (by simp [w8_len, w64_len, b64_len]; omega), List.getElem?_append_left (by simp [w8_len, w64_len]; omega), List.getElem?_append_right (by rw [w8_len]; omega), w8_len, Nat.add_sub_cancel_left]
  exact rmap_at _ ht
theorem hcells_p {h k p : Nat → Int} {held size : Int} {t : Nat} (ht : t < 64) : (hcells h k p held size)[72 + t * 1]? = some (.int .u8 (p t)) := by
  rw [Nat.mul_one]
  unfold hcells
  rw [List.getElem?_append_left (by simp [w8_len, w64_len, b64_len]; omega), List.getElem?_append_right (by simp [w8_len, w64_len]), List.length_append, w8_len, w64_len, Nat.add_sub_cancel_left]
  exact rmap_at _ ht
theorem hcells_seth {h k p : Nat → Int} {held size : Int} {t : Nat} {v : Int} (ht : t < 8) : (hcells h k p held size).set (0 + t * 1) (.int .u32 v) = hcells (upd h t v) k p held size := by
  rw [Nat.zero_add, Nat.mul_one]
  unfold hcells
  rw [List.set_append_left _ _ (by simp [w8_len, w64_len, b64_len]; omega), List.set_append_left _ _ (by simp [w8_len, w64_len]; omega), List.set_append_left _ _ (by rw [w8_len]; omega)]
  congr 3
  exact rmap_set (c := fun v => Value.int .u32 v)

/-! ## rotations -/
def rotF (x s : Int) : Int := bOr .u32 (IntKind.u32.wrap (x * 2 ^ min s.toNat IntKind.u32.bits)) (Int.fdiv x (2 ^ min (IntKind.u64.wrap (32 - s)).toNat IntKind.u32.bits))
def rotS (k : Int) : Int := bAnd .u64 (IntKind.u64.wrap k) 31
theorem wrapU_nonneg (x : Int) : 0 ≤ IntKind.u64.wrap x := by
  unfold IntKind.wrap
  simp only [IntKind.bits, IntKind.signed, Bool.false_and, Bool.false_eq_true, if_false]
  omega

theorem rot_calls (x k : Int) (Ac : Nat → Prop) (W : World) (hA : ∀ k, Ac k → k < W.heap.size) :
    Calls Pr 134 #[.int .u32 x, .int .i64 k] W (Ret nobody W fun v w => v = .int .u32 (rotF x (rotS k))) := by
  refine J.enter (fn := Try.f134) (n := 17) Try.func134 (by kernel_rfl) (by kernel_rfl) (by kernel_rfl) hA ?_
  refine J.rn [.n, .n, .u, .n, .n, .n, .u, .u, .u, .u, .n, .n, .n, .u, .u] [0, 5, 9, 10] [.c 0] [.o 5 2, .c 6] (by kernel_rfl) ?_
  refine J.shl (q := .u32) (d := 11) (x := x) (y := bAnd .u64 (IntKind.u64.wrap k) 31) (by kernel_rfl) (wrapU_nonneg _) ?_
  refine J.rn [.u, .u, .u] [11, 12, 14] [.o 5 3, .c 6] [.o 5 6, .c 6] (by kernel_rfl) ?_
  refine J.shr (q := .u32) (d := 15) (x := x) (y := IntKind.u64.wrap (32 - (bAnd .u64 (IntKind.u64.wrap k) 31))) (by kernel_rfl) (wrapU_nonneg _) ?_
  refine J.rn [.u, .u, .n] [4] [.o 5 7, .c 6] [.c 6] (by kernel_rfl) ?_
  refine J.ret (v := .int .u32 (bOr .u32 (IntKind.u32.wrap (x * 2 ^ min (bAnd .u64 (IntKind.u64.wrap k) 31).toNat IntKind.u32.bits)) (Int.fdiv x (2 ^ min (IntKind.u64.wrap (32 - (bAnd .u64 (IntKind.u64.wrap k) 31))).toNat IntKind.u32.bits)))) (by kernel_rfl) (by kernel_rfl) (fun w1 A1 m1 hac l1 => rfl)
end Go.Proofs.Ytkgokehkobifkaa.J

/- Package sum: a block. -/
namespace Go.Proofs.Ytkgokehkobifkaa.J
open Go Go.RowKit

def exA (p : Nat → Int) (t : Nat) : Int := (bOr .u32 (bOr .u32 (bOr .u32 (IntKind.u32.wrap ((IntKind.u32.wrap (p (4 * t))) * 2 ^ 24)) (IntKind.u32.wrap ((IntKind.u32.wrap (p (4 * t + 1))) * 2 ^ 16))) (IntKind.u32.wrap ((IntKind.u32.wrap (p (4 * t + 2))) * 2 ^ 8))) (IntKind.u32.wrap (p (4 * t + 3))))
def wA (p : Nat → Int) : Nat → Nat → Int
  | 0 => fun _ => 0
  | t + 1 => upd (wA p t) t (exA p t)
def exB (W : Nat → Int) (j : Nat) : Int := (IntKind.u32.wrap ((IntKind.u32.wrap ((IntKind.u32.wrap ((bXor .u32 (bXor .u32 (rotF (W (j + 14)) (rotS (-17))) (rotF (W (j + 14)) (rotS (-19)))) (Int.fdiv (W (j + 14)) (2 ^ 10))) + (W (j + 9)))) + (bXor .u32 (bXor .u32 (rotF (W (j + 1)) (rotS (-7))) (rotF (W (j + 1)) (rotS (-18)))) (Int.fdiv (W (j + 1)) (2 ^ 3))))) + (W j)))
def wB (p : Nat → Int) : Nat → Nat → Int
  | 0 => wA p 16
  | j + 1 => upd (wB p j) (j + 16) (exB (wB p j) j)
def st8 (a b c d e f g h : Int) (i : Nat) : Int := [a, b, c, d, e, f, g, h].getD i 0
def exC0 (S kk W : Nat → Int) (t : Nat) : Int := IntKind.u32.wrap ((IntKind.u32.wrap ((IntKind.u32.wrap ((IntKind.u32.wrap ((IntKind.u32.wrap ((S 7) + (bXor .u32 (bXor .u32 (rotF (S 4) (rotS (-6))) (rotF (S 4) (rotS (-11)))) (rotF (S 4) (rotS (-25)))))) + (bXor .u32 (bAnd .u32 (S 4) (S 5)) (bAnd .u32 (bXor .u32 4294967295 (S 4)) (S 6))))) + (kk t))) + (W t))) + (IntKind.u32.wrap ((bXor .u32 (bXor .u32 (rotF (S 0) (rotS (-2))) (rotF (S 0) (rotS (-13)))) (rotF (S 0) (rotS (-22)))) + (bXor .u32 (bXor .u32 (bAnd .u32 (S 0) (S 1)) (bAnd .u32 (S 0) (S 2))) (bAnd .u32 (S 1) (S 2))))))
def exC1 (S kk W : Nat → Int) (t : Nat) : Int := (S 0)
def exC2 (S kk W : Nat → Int) (t : Nat) : Int := (S 1)
def exC3 (S kk W : Nat → Int) (t : Nat) : Int := (S 2)
def exC4 (S kk W : Nat → Int) (t : Nat) : Int := IntKind.u32.wrap ((S 3) + (IntKind.u32.wrap ((IntKind.u32.wrap ((IntKind.u32.wrap ((IntKind.u32.wrap ((S 7) + (bXor .u32 (bXor .u32 (rotF (S 4) (rotS (-6))) (rotF (S 4) (rotS (-11)))) (rotF (S 4) (rotS (-25)))))) + (bXor .u32 (bAnd .u32 (S 4) (S 5)) (bAnd .u32 (bXor .u32 4294967295 (S 4)) (S 6))))) + (kk t))) + (W t))))
def exC5 (S kk W : Nat → Int) (t : Nat) : Int := (S 4)
def exC6 (S kk W : Nat → Int) (t : Nat) : Int := (S 5)
def exC7 (S kk W : Nat → Int) (t : Nat) : Int := (S 6)
def sC (h kk p : Nat → Int) : Nat → Nat → Int
  | 0 => h
  | t + 1 => st8 (exC0 (sC h kk p t) kk (wB p 48) t) (exC1 (sC h kk p t) kk (wB p 48) t) (exC2 (sC h kk p t) kk (wB p 48) t) (exC3 (sC h kk p t) kk (wB p 48) t) (exC4 (sC h kk p t) kk (wB p 48) t) (exC5 (sC h kk p t) kk (wB p 48) t) (exC6 (sC h kk p t) kk (wB p 48) t) (exC7 (sC h kk p t) kk (wB p 48) t)
def exD (H S : Nat → Int) (i : Nat) : Int := (IntKind.u32.wrap ((H i) + (S i)))
def hD (h kk p : Nat → Int) : Nat → Nat → Int
  | 0 => h
  | i + 1 => upd (hD h kk p i) i (exD (hD h kk p i) (sC h kk p 64) i)
theorem block_calls (h kk p : Nat → Int) (held size : Int) (b : Nat) (Ac : Nat → Prop) (W : World) (hA : ∀ k, Ac k → k < W.heap.size) (hrow : W.heap[b]? = some (.cells (hcells h kk p held size).toArray 177 (0, 0))) (hAb : Ac b) :
    Calls Pr 127 #[.pointer (some ⟨b, 0, none⟩), .slice (some ⟨b, 72, none⟩) 64 64] W (RB b 177 W fun v cs w => cs = hcells (hD h kk p 8) kk p held size) := by
  refine J.enterM (fn := Try.f127) (n := 204) (b := b) (T := 177) (cs := (hcells h kk p held size)) (args := [.slice (some ⟨b, 72, none⟩) 64 64]) Try.func127 (by kernel_rfl) (by kernel_rfl) (by kernel_rfl) hA hrow hAb ?_
  refine J.rn [.n, .n] [0, 1] [.c 0] [.o 1 0, .c 2] (by kernel_rfl) ?_
  refine J.new (T := 173) (cs := [.int .u32 0, .int .u32 0, .int .u32 0, .int .u32 0, .int .u32 0, .int .u32 0, .int .u32 0, .int .u32 0, .int .u32 0, .int .u32 0, .int .u32 0, .int .u32 0, .int .u32 0, .int .u32 0, .int .u32 0, .int .u32 0, .int .u32 0, .int .u32 0, .int .u32 0, .int .u32 0, .int .u32 0, .int .u32 0, .int .u32 0, .int .u32 0, .int .u32 0, .int .u32 0, .int .u32 0, .int .u32 0, .int .u32 0, .int .u32 0, .int .u32 0, .int .u32 0, .int .u32 0, .int .u32 0, .int .u32 0, .int .u32 0, .int .u32 0, .int .u32 0, .int .u32 0, .int .u32 0, .int .u32 0, .int .u32 0, .int .u32 0, .int .u32 0, .int .u32 0, .int .u32 0, .int .u32 0, .int .u32 0, .int .u32 0, .int .u32 0, .int .u32 0, .int .u32 0, .int .u32 0, .int .u32 0, .int .u32 0, .int .u32 0, .int .u32 0, .int .u32 0, .int .u32 0, .int .u32 0, .int .u32 0, .int .u32 0, .int .u32 0, .int .u32 0]) (d := 4) (K := .ptr) (by kernel_rfl) (fun b1 hb1 => ?_)
  refine J.run [.n, .n, .n, .n, .u, .n, .n] [0, 1, 4, 18] ⟨[(0, .loc 0 0), (1, .v (.slice (some ⟨b, 72, none⟩) 64 64)), (4, .loc 1 0), (18, .v (.int .i64 0))], [⟨177, hcells h kk p held size⟩, ⟨173, [.int .u32 0, .int .u32 0, .int .u32 0, .int .u32 0, .int .u32 0, .int .u32 0, .int .u32 0, .int .u32 0, .int .u32 0, .int .u32 0, .int .u32 0, .int .u32 0, .int .u32 0, .int .u32 0, .int .u32 0, .int .u32 0, .int .u32 0, .int .u32 0, .int .u32 0, .int .u32 0, .int .u32 0, .int .u32 0, .int .u32 0, .int .u32 0, .int .u32 0, .int .u32 0, .int .u32 0, .int .u32 0, .int .u32 0, .int .u32 0, .int .u32 0, .int .u32 0, .int .u32 0, .int .u32 0, .int .u32 0, .int .u32 0, .int .u32 0, .int .u32 0, .int .u32 0, .int .u32 0, .int .u32 0, .int .u32 0, .int .u32 0, .int .u32 0, .int .u32 0, .int .u32 0, .int .u32 0, .int .u32 0, .int .u32 0, .int .u32 0, .int .u32 0, .int .u32 0, .int .u32 0, .int .u32 0, .int .u32 0, .int .u32 0, .int .u32 0, .int .u32 0, .int .u32 0, .int .u32 0, .int .u32 0, .int .u32 0, .int .u32 0, .int .u32 0]⟩]⟩ [.o 1 1, .c 2] [.c 6, .b 0, .c 19] (by kernel_rfl) ?_
  refine J.sameM (m' := [⟨177, hcells h kk p held size⟩, ⟨173, w64 (wA p 0)⟩]) (by kernel_rfl) ?_
  refine J.loop (X := Nat) (fun t => ⟨[(0, .loc 0 0), (1, .v (.slice (some ⟨b, 72, none⟩) 64 64)), (4, .loc 1 0), (18, .v (.int .i64 ((t : Nat) : Int)))], [⟨177, hcells h kk p held size⟩, ⟨173, w64 (wA p t)⟩]⟩) (fun t A w => t ≤ 16) (fun t => 16 - t) [0, 1, 4, 18] 2 [b, b1] 0 (by kernel_rfl) (by kernel_rfl) (by kernel_rfl) (fun w1 A1 m1 => Nat.zero_le _) (fun t A1 w1 hI => ?_)
  refine J.run [.n, .n, .u, .n, .n] [0, 1, 4, 18, 19] ⟨[(0, .loc 0 0), (1, .v (.slice (some ⟨b, 72, none⟩) 64 64)), (4, .loc 1 0), (18, .v (.int .i64 ((t : Nat) : Int))), (19, .v (.bool (decide (((t : Nat) : Int) < 16))))], [⟨177, hcells h kk p held size⟩, ⟨173, w64 (wA p t)⟩]⟩ [.c 7] [.c 10, .c 13] (by kernel_rfl) ?_
  refine J.cond (b := (decide (((t : Nat) : Int) < 16))) (k' := 12) (by kernel_rfl) (fun hc => ?_) (fun hc => ?_)
  · try simp only [nrm] at hc
    have hc1 := hc
    refine J.run [.n, .n, .n, .n, .n, .u, .u, .n] [0, 1, 4, 5, 18] ⟨[(0, .loc 0 0), (1, .v (.slice (some ⟨b, 72, none⟩) 64 64)), (4, .loc 1 0), (5, .v (.int .i64 ((t : Nat) : Int))), (18, .v (.int .i64 ((t : Nat) : Int)))], [⟨177, hcells h kk p held size⟩, ⟨173, w64 (wA p t)⟩]⟩ [.c 11, .c 13] [.c 17, .b 1, .c 18] (by kernel_rfl) ?_
    refine J.draw [1] nobody (by kernel_rfl) (by kernel_rfl) (fun _ h => h.elim) (fun w2 A2 m1 hr1 hX1 => ?_)
    refine J.take0 [(0, .u), (1, .u), (2, .u), (3, .u), (8, .u), (9, .u), (10, .u), (11, .u), (17, .u), (18, .u), (19, .u), (20, .u), (26, .u), (27, .u), (28, .u), (29, .u)] [0, 1, 4, 18, 21, 22, 24, 29, 32, 38, 41, 47, 50] [(0, .loc 0 0), (1, .v (.slice (some ⟨b, 72, none⟩) 64 64)), (4, .loc 1 0), (18, .v (.int .i64 ((t : Nat) : Int))), (21, .v (.int .i64 ((t : Nat) : Int))), (22, .v (.slice (some ⟨b, 72, none⟩) 64 64)), (24, .v (.int .i64 (IntKind.i64.wrap (4 * ((t : Nat) : Int))))), (29, .v (.slice (some ⟨b, 72, none⟩) 64 64)), (32, .v (.int .i64 (IntKind.i64.wrap ((IntKind.i64.wrap (4 * ((t : Nat) : Int))) + 1)))), (38, .v (.slice (some ⟨b, 72, none⟩) 64 64)), (41, .v (.int .i64 (IntKind.i64.wrap ((IntKind.i64.wrap (4 * ((t : Nat) : Int))) + 2)))), (47, .v (.slice (some ⟨b, 72, none⟩) 64 64)), (50, .v (.int .i64 (IntKind.i64.wrap ((IntKind.i64.wrap (4 * ((t : Nat) : Int))) + 3))))] [29, 28, 27, 26, 20, 19, 18, 17, 11, 10, 9, 8, 3, 2, 1, 0] (calm_body _ _ _) (by intro k _ h; exact h) hr1 (by kernel_rfl) ?_
    have hw1 : IntKind.i64.wrap (4 * ((t : Nat) : Int)) = ((4 * t : Nat) : Int) := by rw [wrap_i64 (by omega) (by omega)]; try omega
    rw [hw1]
    have hw2 : IntKind.i64.wrap (((4 * t : Nat) : Int) + 1) = ((4 * t + 1 : Nat) : Int) := by rw [wrap_i64 (by omega) (by omega)]; try omega
    rw [hw2]
    have hw3 : IntKind.i64.wrap (((4 * t : Nat) : Int) + 2) = ((4 * t + 2 : Nat) : Int) := by rw [wrap_i64 (by omega) (by omega)]; try omega
    rw [hw3]
    have hw4 : IntKind.i64.wrap (((4 * t : Nat) : Int) + 3) = ((4 * t + 3 : Nat) : Int) := by rw [wrap_i64 (by omega) (by omega)]; try omega
    rw [hw4]
    refine J.idxp (j := 4) (b := b) (off := 72) (len := 64) (i := ((4 * t : Nat) : Int)) (sz := 1) (d := 25) (calm_body _ _ _) (by kernel_rfl) (by kernel_rfl) (by omega) (by omega) ?_
    refine J.ldlp (j := 5) (T := 5) (b := b) (off := 72 + (4 * t) * 1) (d := 26) (v := .int .u8 (p (4 * t))) 0 (calm_body _ _ _) (by kernel_rfl) (by kernel_rfl) (by intro k _ h; exact h) hr1 rfl rfl rfl (by kernel_rfl) (hcells_p (by omega)) ?_
    refine J.take0 [(6, .u), (7, .u)] [0, 1, 4, 18, 21, 28, 29, 32, 38, 41, 47, 50] [(0, .loc 0 0), (1, .v (.slice (some ⟨b, 72, none⟩) 64 64)), (4, .loc 1 0), (18, .v (.int .i64 ((t : Nat) : Int))), (21, .v (.int .i64 ((t : Nat) : Int))), (28, .v (.int .u32 (IntKind.u32.wrap ((IntKind.u32.wrap (p (4 * t))) * 2 ^ 24)))), (29, .v (.slice (some ⟨b, 72, none⟩) 64 64)), (32, .v (.int .i64 ((4 * t + 1 : Nat) : Int))), (38, .v (.slice (some ⟨b, 72, none⟩) 64 64)), (41, .v (.int .i64 ((4 * t + 2 : Nat) : Int))), (47, .v (.slice (some ⟨b, 72, none⟩) 64 64)), (50, .v (.int .i64 ((4 * t + 3 : Nat) : Int)))] [7, 6, 5, 4, 29, 28, 27, 26, 20, 19, 18, 17, 11, 10, 9, 8, 3, 2, 1, 0] (calm_body _ _ _) (by intro k _ h; exact h) hr1 (by kernel_rfl) ?_
    refine J.idxp (j := 12) (b := b) (off := 72) (len := 64) (i := ((4 * t + 1 : Nat) : Int)) (sz := 1) (d := 33) (calm_body _ _ _) (by kernel_rfl) (by kernel_rfl) (by omega) (by omega) ?_
    refine J.ldlp (j := 13) (T := 5) (b := b) (off := 72 + (4 * t + 1) * 1) (d := 34) (v := .int .u8 (p (4 * t + 1))) 0 (calm_body _ _ _) (by kernel_rfl) (by kernel_rfl) (by intro k _ h; exact h) hr1 rfl rfl rfl (by kernel_rfl) (hcells_p (by omega)) ?_
    refine J.take0 [(14, .u), (15, .u), (16, .u)] [0, 1, 4, 18, 21, 37, 38, 41, 47, 50] [(0, .loc 0 0), (1, .v (.slice (some ⟨b, 72, none⟩) 64 64)), (4, .loc 1 0), (18, .v (.int .i64 ((t : Nat) : Int))), (21, .v (.int .i64 ((t : Nat) : Int))), (37, .v (.int .u32 (bOr .u32 (IntKind.u32.wrap ((IntKind.u32.wrap (p (4 * t))) * 2 ^ 24)) (IntKind.u32.wrap ((IntKind.u32.wrap (p (4 * t + 1))) * 2 ^ 16))))), (38, .v (.slice (some ⟨b, 72, none⟩) 64 64)), (41, .v (.int .i64 ((4 * t + 2 : Nat) : Int))), (47, .v (.slice (some ⟨b, 72, none⟩) 64 64)), (50, .v (.int .i64 ((4 * t + 3 : Nat) : Int)))] [16, 15, 14, 13, 12, 7, 6, 5, 4, 29, 28, 27, 26, 20, 19, 18, 17, 11, 10, 9, 8, 3, 2, 1, 0] (calm_body _ _ _) (by intro k _ h; exact h) hr1 (by kernel_rfl) ?_
    refine J.idxp (j := 21) (b := b) (off := 72) (len := 64) (i := ((4 * t + 2 : Nat) : Int)) (sz := 1) (d := 42) (calm_body _ _ _) (by kernel_rfl) (by kernel_rfl) (by omega) (by omega) ?_
    refine J.ldlp (j := 22) (T := 5) (b := b) (off := 72 + (4 * t + 2) * 1) (d := 43) (v := .int .u8 (p (4 * t + 2))) 0 (calm_body _ _ _) (by kernel_rfl) (by kernel_rfl) (by intro k _ h; exact h) hr1 rfl rfl rfl (by kernel_rfl) (hcells_p (by omega)) ?_
    refine J.take0 [(23, .u), (24, .u), (25, .u)] [0, 1, 4, 18, 21, 46, 47, 50] [(0, .loc 0 0), (1, .v (.slice (some ⟨b, 72, none⟩) 64 64)), (4, .loc 1 0), (18, .v (.int .i64 ((t : Nat) : Int))), (21, .v (.int .i64 ((t : Nat) : Int))), (46, .v (.int .u32 (bOr .u32 (bOr .u32 (IntKind.u32.wrap ((IntKind.u32.wrap (p (4 * t))) * 2 ^ 24)) (IntKind.u32.wrap ((IntKind.u32.wrap (p (4 * t + 1))) * 2 ^ 16))) (IntKind.u32.wrap ((IntKind.u32.wrap (p (4 * t + 2))) * 2 ^ 8))))), (47, .v (.slice (some ⟨b, 72, none⟩) 64 64)), (50, .v (.int .i64 ((4 * t + 3 : Nat) : Int)))] [25, 24, 23, 22, 21, 16, 15, 14, 13, 12, 7, 6, 5, 4, 29, 28, 27, 26, 20, 19, 18, 17, 11, 10, 9, 8, 3, 2, 1, 0] (calm_body _ _ _) (by intro k _ h; exact h) hr1 (by kernel_rfl) ?_
    refine J.idxp (j := 30) (b := b) (off := 72) (len := 64) (i := ((4 * t + 3 : Nat) : Int)) (sz := 1) (d := 51) (calm_body _ _ _) (by kernel_rfl) (by kernel_rfl) (by omega) (by omega) ?_
    refine J.ldlp (j := 31) (T := 5) (b := b) (off := 72 + (4 * t + 3) * 1) (d := 52) (v := .int .u8 (p (4 * t + 3))) 0 (calm_body _ _ _) (by kernel_rfl) (by kernel_rfl) (by intro k _ h; exact h) hr1 rfl rfl rfl (by kernel_rfl) (hcells_p (by omega)) ?_
    refine J.take0 [(32, .u), (33, .u)] [0, 1, 4, 18, 21, 54] [(0, .loc 0 0), (1, .v (.slice (some ⟨b, 72, none⟩) 64 64)), (4, .loc 1 0), (18, .v (.int .i64 ((t : Nat) : Int))), (21, .v (.int .i64 ((t : Nat) : Int))), (54, .v (.int .u32 (bOr .u32 (bOr .u32 (bOr .u32 (IntKind.u32.wrap ((IntKind.u32.wrap (p (4 * t))) * 2 ^ 24)) (IntKind.u32.wrap ((IntKind.u32.wrap (p (4 * t + 1))) * 2 ^ 16))) (IntKind.u32.wrap ((IntKind.u32.wrap (p (4 * t + 2))) * 2 ^ 8))) (IntKind.u32.wrap (p (4 * t + 3))))))] [33, 32, 31, 30, 25, 24, 23, 22, 21, 16, 15, 14, 13, 12, 7, 6, 5, 4, 29, 28, 27, 26, 20, 19, 18, 17, 11, 10, 9, 8, 3, 2, 1, 0] (calm_body _ _ _) (by intro k _ h; exact h) hr1 (by kernel_rfl) ?_
    refine J.idxAp (j := 34) (b := b1) (off := 0) (len := 64) (i := ((t : Nat) : Int)) (sz := 1) (d := 55) (calm_body _ _ _) (by kernel_rfl) (by kernel_rfl) (by omega) (by omega) ?_
    refine J.pick1 35 (by kernel_rfl) (by kernel_rfl) ?_
    refine J.stxq (t := 108) (b := b1) (off := 0 + t * 1) (v := .int .u32 (bOr .u32 (bOr .u32 (bOr .u32 (IntKind.u32.wrap ((IntKind.u32.wrap (p (4 * t))) * 2 ^ 24)) (IntKind.u32.wrap ((IntKind.u32.wrap (p (4 * t + 1))) * 2 ^ 16))) (IntKind.u32.wrap ((IntKind.u32.wrap (p (4 * t + 2))) * 2 ^ 8))) (IntKind.u32.wrap (p (4 * t + 3))))) 1 (by kernel_rfl) rfl rfl (by kernel_rfl) rfl rfl (by simp [w64_len]; omega) (.inl (.inr ⟨1, by simp, by simp, rfl⟩)) ?_
    refine J.sameM (m' := [⟨177, hcells h kk p held size⟩, ⟨173, (w64 (wA p t)).set (0 + t * 1) (.int .u32 (bOr .u32 (bOr .u32 (bOr .u32 (IntKind.u32.wrap ((IntKind.u32.wrap (p (4 * t))) * 2 ^ 24)) (IntKind.u32.wrap ((IntKind.u32.wrap (p (4 * t + 1))) * 2 ^ 16))) (IntKind.u32.wrap ((IntKind.u32.wrap (p (4 * t + 2))) * 2 ^ 8))) (IntKind.u32.wrap (p (4 * t + 3)))))⟩]) (by kernel_rfl) ?_
    rw [w64_set (by omega)]
    refine J.pdone (by kernel_rfl) ?_
    refine J.run [.n, .n, .u, .u, .n] [0, 1, 4, 18] ⟨[(0, .loc 0 0), (1, .v (.slice (some ⟨b, 72, none⟩) 64 64)), (4, .loc 1 0), (18, .v (.int .i64 (IntKind.i64.wrap (((t : Nat) : Int) + 1))))], [⟨177, hcells h kk p held size⟩, ⟨173, w64 (upd (wA p t) t (bOr .u32 (bOr .u32 (bOr .u32 (IntKind.u32.wrap ((IntKind.u32.wrap (p (4 * t))) * 2 ^ 24)) (IntKind.u32.wrap ((IntKind.u32.wrap (p (4 * t + 1))) * 2 ^ 16))) (IntKind.u32.wrap ((IntKind.u32.wrap (p (4 * t + 2))) * 2 ^ 8))) (IntKind.u32.wrap (p (4 * t + 3)))))⟩]⟩ [.b 1, .c 18] [] (by kernel_rfl) ?_
    have hw5 : IntKind.i64.wrap (((t : Nat) : Int) + 1) = ((t + 1 : Nat) : Int) := by rw [wrap_i64 (by omega) (by omega)]; try omega
    rw [hw5]
    exact J.again (t + 1) [0, 1, 4, 18] 2 (by omega) (by kernel_rfl) (by kernel_rfl) (fun w1 A1 m1 => (by omega))
  · try simp only [nrm] at hc
    have hc1 := hc
    have he : t = 16 := by omega
    subst he
    refine J.exit (id := 0) (by kernel_rfl) (by rfl) ?_
    refine J.run [.n, .n, .n, .u, .n, .n] [0, 4, 6] ⟨[(0, .loc 0 0), (4, .loc 1 0), (6, .v (.int .i64 16))], [⟨177, hcells h kk p held size⟩, ⟨173, w64 (wA p 16)⟩]⟩ [.c 19] [.c 23, .b 2, .c 40] (by kernel_rfl) ?_
    refine J.sameM (m' := [⟨177, hcells h kk p held size⟩, ⟨173, w64 (wB p 0)⟩]) (by kernel_rfl) ?_
    refine J.loop (X := Nat) (fun j => ⟨[(0, .loc 0 0), (4, .loc 1 0), (6, .v (.int .i64 ((j + 16 : Nat) : Int)))], [⟨177, hcells h kk p held size⟩, ⟨173, w64 (wB p j)⟩]⟩) (fun j A w => j ≤ 48) (fun j => 48 - j) [0, 4, 6] 2 [b, b1] 0 (by kernel_rfl) (by kernel_rfl) (by kernel_rfl) (fun w1 A1 m1 => Nat.zero_le _) (fun j A3 w3 hI => ?_)
    have hq15 : IntKind.i64.wrap (((j + 16 : Nat) : Int) - 15) = ((j + 1 : Nat) : Int) := by rw [wrap_i64 (by omega) (by omega)]; omega
    have hq2 : IntKind.i64.wrap (((j + 16 : Nat) : Int) - 2) = ((j + 14 : Nat) : Int) := by rw [wrap_i64 (by omega) (by omega)]; omega
    have hq7 : IntKind.i64.wrap (((j + 16 : Nat) : Int) - 7) = ((j + 9 : Nat) : Int) := by rw [wrap_i64 (by omega) (by omega)]; omega
    have hq16 : IntKind.i64.wrap (((j + 16 : Nat) : Int) - 16) = ((j : Nat) : Int) := by rw [wrap_i64 (by omega) (by omega)]; omega
    refine J.run [.n, .n, .n, .u, .u, .n] [0, 4, 6, 58] ⟨[(0, .loc 0 0), (4, .loc 1 0), (6, .v (.int .i64 ((j + 16 : Nat) : Int))), (58, .v (.bool (decide (((j + 16 : Nat) : Int) < 64))))], [⟨177, hcells h kk p held size⟩, ⟨173, w64 (wB p j)⟩]⟩ [.c 24] [.c 27, .c 30] (by kernel_rfl) ?_
    refine J.cond (b := (decide (((j + 16 : Nat) : Int) < 64))) (k' := 29) (by kernel_rfl) (fun hc => ?_) (fun hc => ?_)
    · try simp only [nrm] at hc
      have hc2 := hc
      refine J.run [.n, .n, .n, .n] [0, 4, 6] ⟨[(0, .loc 0 0), (4, .loc 1 0), (6, .v (.int .i64 ((j + 16 : Nat) : Int)))], [⟨177, hcells h kk p held size⟩, ⟨173, w64 (wB p j)⟩]⟩ [.c 28, .c 30] [.c 33, .c 34, .b 3, .c 39] (by kernel_rfl) ?_
      refine J.draw [] nobody (by kernel_rfl) (by kernel_rfl) (fun _ h => h.elim) (fun w4 A4 m2 hr2 hX2 => ?_)
      refine J.take0 [(0, .u), (1, .u), (4, .u), (5, .u)] [0, 4, 6, 62, 66] [(0, .loc 0 0), (4, .loc 1 0), (6, .v (.int .i64 ((j + 16 : Nat) : Int))), (62, .v (.int .i64 (IntKind.i64.wrap (((j + 16 : Nat) : Int) - 15)))), (66, .v (.int .i64 (IntKind.i64.wrap (((j + 16 : Nat) : Int) - 2))))] [5, 4, 1, 0] (calm_body _ _ _) (by intro k _ h; exact h) hr2 (by kernel_rfl) ?_
      rw [hq15]
      rw [hq2]
      refine J.idxAp (j := 2) (b := b1) (off := 0) (len := 64) (i := ((j + 1 : Nat) : Int)) (sz := 1) (d := 63) (calm_body _ _ _) (by kernel_rfl) (by kernel_rfl) (by omega) (by omega) ?_
      refine J.ldlp (j := 3) (T := 108) (b := b1) (off := 0 + (j + 1) * 1) (d := 64) (v := .int .u32 ((wB p j) (j + 1))) 1 (calm_body _ _ _) (by kernel_rfl) (by kernel_rfl) (by intro k _ h; exact h) hr2 rfl rfl rfl (by kernel_rfl) (w64_at (by omega)) ?_
      refine J.take0 [(8, .u)] [0, 4, 6, 7, 66] [(0, .loc 0 0), (4, .loc 1 0), (6, .v (.int .i64 ((j + 16 : Nat) : Int))), (7, .v (.int .u32 ((wB p j) (j + 1)))), (66, .v (.int .i64 ((j + 14 : Nat) : Int)))] [8, 3, 2, 5, 4, 1, 0] (calm_body _ _ _) (by intro k _ h; exact h) hr2 (by kernel_rfl) ?_
      refine J.idxAp (j := 6) (b := b1) (off := 0) (len := 64) (i := ((j + 14 : Nat) : Int)) (sz := 1) (d := 67) (calm_body _ _ _) (by kernel_rfl) (by kernel_rfl) (by omega) (by omega) ?_
      refine J.ldlp (j := 7) (T := 108) (b := b1) (off := 0 + (j + 14) * 1) (d := 68) (v := .int .u32 ((wB p j) (j + 14))) 1 (calm_body _ _ _) (by kernel_rfl) (by kernel_rfl) (by intro k _ h; exact h) hr2 rfl rfl rfl (by kernel_rfl) (w64_at (by omega)) ?_
      refine J.take0 [(9, .u)] [0, 4, 6, 7, 8] [(0, .loc 0 0), (4, .loc 1 0), (6, .v (.int .i64 ((j + 16 : Nat) : Int))), (7, .v (.int .u32 ((wB p j) (j + 1)))), (8, .v (.int .u32 ((wB p j) (j + 14))))] [9, 7, 6, 8, 3, 2, 5, 4, 1, 0] (calm_body _ _ _) (by intro k _ h; exact h) hr2 (by kernel_rfl) ?_
      refine J.pdone (by kernel_rfl) ?_
      refine J.rn [.n, .n, .u] [0, 4, 6, 7, 8, 69] [.c 34, .b 3, .c 39] [.o 35 1, .c 36, .b 3, .c 39] (by kernel_rfl) ?_
      refine J.call (d := some 70) (by kernel_rfl) (fun w1 A1 m1 l1 => rot_calls ((wB p j) (j + 1)) (-7) nobody w1 noA) ?_
      rintro _ u1 w5 A5 rfl g1
      have m3 := g1.mv
      refine J.rn [.u] [0, 4, 6, 7, 8, 70, 71] [.o 35 2, .c 36, .b 3, .c 39] [.o 35 3, .c 36, .b 3, .c 39] (by kernel_rfl) ?_
      refine J.call (d := some 72) (by kernel_rfl) (fun w1 A1 m1 l1 => rot_calls ((wB p j) (j + 1)) (-18) nobody w1 noA) ?_
      rintro _ u2 w6 A6 rfl g2
      have m4 := g2.mv
      refine J.rn [.u, .u, .u, .u, .u, .n, .n, .n, .u] [0, 4, 6, 8, 9, 77] [.o 35 4, .c 36, .b 3, .c 39] [.o 37 1, .c 38, .b 3, .c 39] (by kernel_rfl) ?_
      refine J.call (d := some 78) (by kernel_rfl) (fun w1 A1 m1 l1 => rot_calls ((wB p j) (j + 14)) (-17) nobody w1 noA) ?_
      rintro _ u3 w7 A7 rfl g3
      have m5 := g3.mv
      refine J.run [.u] [0, 4, 6, 8, 9, 78, 79] ⟨[(0, .loc 0 0), (4, .loc 1 0), (6, .v (.int .i64 ((j + 16 : Nat) : Int))), (8, .v (.int .u32 ((wB p j) (j + 14)))), (9, .v (.int .u32 (bXor .u32 (bXor .u32 (rotF ((wB p j) (j + 1)) (rotS (-7))) (rotF ((wB p j) (j + 1)) (rotS (-18)))) (Int.fdiv ((wB p j) (j + 1)) (2 ^ 3))))), (78, .v (.int .u32 (rotF ((wB p j) (j + 14)) (rotS (-17))))), (79, .v (.int .u32 ((wB p j) (j + 14))))], [⟨177, hcells h kk p held size⟩, ⟨173, w64 (wB p j)⟩]⟩ [.o 37 2, .c 38, .b 3, .c 39] [.o 37 3, .c 38, .b 3, .c 39] (by kernel_rfl) ?_
      refine J.call (d := some 80) (by kernel_rfl) (fun w1 A1 m1 l1 => rot_calls ((wB p j) (j + 14)) (-19) nobody w1 noA) ?_
      rintro _ u4 w8 A8 rfl g4
      have m6 := g4.mv
      refine J.run [.u, .u, .u, .u, .u, .n] [0, 4, 6, 9, 10] ⟨[(0, .loc 0 0), (4, .loc 1 0), (6, .v (.int .i64 ((j + 16 : Nat) : Int))), (9, .v (.int .u32 (bXor .u32 (bXor .u32 (rotF ((wB p j) (j + 1)) (rotS (-7))) (rotF ((wB p j) (j + 1)) (rotS (-18)))) (Int.fdiv ((wB p j) (j + 1)) (2 ^ 3))))), (10, .v (.int .u32 (bXor .u32 (bXor .u32 (rotF ((wB p j) (j + 14)) (rotS (-17))) (rotF ((wB p j) (j + 14)) (rotS (-19)))) (Int.fdiv ((wB p j) (j + 14)) (2 ^ 10)))))], [⟨177, hcells h kk p held size⟩, ⟨173, w64 (wB p j)⟩]⟩ [.o 37 4, .c 38, .b 3, .c 39] [.c 38, .b 3, .c 39] (by kernel_rfl) ?_
      refine J.draw [1] nobody (by kernel_rfl) (by kernel_rfl) (fun _ h => h.elim) (fun w9 A9 m7 hr3 hX3 => ?_)
      refine J.take0 [(0, .u), (1, .u), (2, .u), (3, .u), (7, .u), (9, .u), (10, .u)] [0, 4, 6, 85, 86, 88, 92, 95] [(0, .loc 0 0), (4, .loc 1 0), (6, .v (.int .i64 ((j + 16 : Nat) : Int))), (85, .v (.int .i64 ((j + 16 : Nat) : Int))), (86, .v (.int .u32 (bXor .u32 (bXor .u32 (rotF ((wB p j) (j + 14)) (rotS (-17))) (rotF ((wB p j) (j + 14)) (rotS (-19)))) (Int.fdiv ((wB p j) (j + 14)) (2 ^ 10))))), (88, .v (.int .i64 (IntKind.i64.wrap (((j + 16 : Nat) : Int) - 7)))), (92, .v (.int .u32 (bXor .u32 (bXor .u32 (rotF ((wB p j) (j + 1)) (rotS (-7))) (rotF ((wB p j) (j + 1)) (rotS (-18)))) (Int.fdiv ((wB p j) (j + 1)) (2 ^ 3))))), (95, .v (.int .i64 (IntKind.i64.wrap (((j + 16 : Nat) : Int) - 16))))] [10, 9, 7, 3, 2, 1, 0] (calm_body _ _ _) (by intro k _ h; exact h) hr3 (by kernel_rfl) ?_
      rw [hq7]
      rw [hq16]
      refine J.idxAp (j := 4) (b := b1) (off := 0) (len := 64) (i := ((j + 9 : Nat) : Int)) (sz := 1) (d := 89) (calm_body _ _ _) (by kernel_rfl) (by kernel_rfl) (by omega) (by omega) ?_
      refine J.idxAp (j := 11) (b := b1) (off := 0) (len := 64) (i := ((j : Nat) : Int)) (sz := 1) (d := 96) (calm_body _ _ _) (by kernel_rfl) (by kernel_rfl) (by omega) (by omega) ?_
      refine J.pick [5, 12] (by kernel_rfl) (by kernel_rfl) (by simp) (fun i hi => ?_)
      simp only [List.mem_cons, List.not_mem_nil, or_false] at hi
      rcases hi with rfl | rfl
      · skip
        refine J.ldq (T := 108) (b := b1) (off := 0 + (j + 9) * 1) (d := 90) (v := .int .u32 ((wB p j) (j + 9))) (by kernel_rfl) (fun w1 A1 m1 l1 => l1.ldc (i := 1) rfl (by kernel_rfl) (w64_at (by omega))) ?_
        refine J.take0 [(6, .u), (8, .u)] [0, 4, 6, 85, 93, 96] [(0, .loc 0 0), (4, .loc 1 0), (6, .v (.int .i64 ((j + 16 : Nat) : Int))), (85, .v (.int .i64 ((j + 16 : Nat) : Int))), (93, .v (.int .u32 (IntKind.u32.wrap ((IntKind.u32.wrap ((bXor .u32 (bXor .u32 (rotF ((wB p j) (j + 14)) (rotS (-17))) (rotF ((wB p j) (j + 14)) (rotS (-19)))) (Int.fdiv ((wB p j) (j + 14)) (2 ^ 10))) + ((wB p j) (j + 9)))) + (bXor .u32 (bXor .u32 (rotF ((wB p j) (j + 1)) (rotS (-7))) (rotF ((wB p j) (j + 1)) (rotS (-18)))) (Int.fdiv ((wB p j) (j + 1)) (2 ^ 3))))))), (96, .v (.pointer (some ⟨b1, 0 + j * 1, none⟩)))] [8, 6, 5, 11, 4, 10, 9, 7, 3, 2, 1, 0] (calm_body _ _ _) (by intro k _ h; exact h) hr3 (by kernel_rfl) ?_
        refine J.pick1 12 (by kernel_rfl) (by kernel_rfl) ?_
        refine J.ldq (T := 108) (b := b1) (off := 0 + j * 1) (d := 97) (v := .int .u32 ((wB p j) j)) (by kernel_rfl) (fun w1 A1 m1 l1 => l1.ldc (i := 1) rfl (by kernel_rfl) (w64_at (by omega))) ?_
        refine J.take0 [(13, .u)] [0, 4, 6, 85, 98] [(0, .loc 0 0), (4, .loc 1 0), (6, .v (.int .i64 ((j + 16 : Nat) : Int))), (85, .v (.int .i64 ((j + 16 : Nat) : Int))), (98, .v (.int .u32 (IntKind.u32.wrap ((IntKind.u32.wrap ((IntKind.u32.wrap ((bXor .u32 (bXor .u32 (rotF ((wB p j) (j + 14)) (rotS (-17))) (rotF ((wB p j) (j + 14)) (rotS (-19)))) (Int.fdiv ((wB p j) (j + 14)) (2 ^ 10))) + ((wB p j) (j + 9)))) + (bXor .u32 (bXor .u32 (rotF ((wB p j) (j + 1)) (rotS (-7))) (rotF ((wB p j) (j + 1)) (rotS (-18)))) (Int.fdiv ((wB p j) (j + 1)) (2 ^ 3))))) + ((wB p j) j)))))] [13, 12, 8, 6, 5, 11, 4, 10, 9, 7, 3, 2, 1, 0] (calm_body _ _ _) (by intro k _ h; exact h) hr3 (by kernel_rfl) ?_
        refine J.idxAp (j := 14) (b := b1) (off := 0) (len := 64) (i := ((j + 16 : Nat) : Int)) (sz := 1) (d := 99) (calm_body _ _ _) (by kernel_rfl) (by kernel_rfl) (by omega) (by omega) ?_
        refine J.pick1 15 (by kernel_rfl) (by kernel_rfl) ?_
        refine J.stxq (t := 108) (b := b1) (off := 0 + (j + 16) * 1) (v := .int .u32 (IntKind.u32.wrap ((IntKind.u32.wrap ((IntKind.u32.wrap ((bXor .u32 (bXor .u32 (rotF ((wB p j) (j + 14)) (rotS (-17))) (rotF ((wB p j) (j + 14)) (rotS (-19)))) (Int.fdiv ((wB p j) (j + 14)) (2 ^ 10))) + ((wB p j) (j + 9)))) + (bXor .u32 (bXor .u32 (rotF ((wB p j) (j + 1)) (rotS (-7))) (rotF ((wB p j) (j + 1)) (rotS (-18)))) (Int.fdiv ((wB p j) (j + 1)) (2 ^ 3))))) + ((wB p j) j)))) 1 (by kernel_rfl) rfl rfl (by kernel_rfl) rfl rfl (by simp [w64_len]; omega) (.inl (.inr ⟨1, by simp, by simp, rfl⟩)) ?_
        refine J.sameM (m' := [⟨177, hcells h kk p held size⟩, ⟨173, (w64 (wB p j)).set (0 + (j + 16) * 1) (.int .u32 (IntKind.u32.wrap ((IntKind.u32.wrap ((IntKind.u32.wrap ((bXor .u32 (bXor .u32 (rotF ((wB p j) (j + 14)) (rotS (-17))) (rotF ((wB p j) (j + 14)) (rotS (-19)))) (Int.fdiv ((wB p j) (j + 14)) (2 ^ 10))) + ((wB p j) (j + 9)))) + (bXor .u32 (bXor .u32 (rotF ((wB p j) (j + 1)) (rotS (-7))) (rotF ((wB p j) (j + 1)) (rotS (-18)))) (Int.fdiv ((wB p j) (j + 1)) (2 ^ 3))))) + ((wB p j) j))))⟩]) (by kernel_rfl) ?_
        rw [w64_set (by omega)]
        refine J.pdone (by kernel_rfl) ?_
        refine J.run [.n, .n, .u, .u, .u, .n] [0, 4, 6] ⟨[(0, .loc 0 0), (4, .loc 1 0), (6, .v (.int .i64 (IntKind.i64.wrap (((j + 16 : Nat) : Int) + 1))))], [⟨177, hcells h kk p held size⟩, ⟨173, w64 (upd (wB p j) (j + 16) (IntKind.u32.wrap ((IntKind.u32.wrap ((IntKind.u32.wrap ((bXor .u32 (bXor .u32 (rotF ((wB p j) (j + 14)) (rotS (-17))) (rotF ((wB p j) (j + 14)) (rotS (-19)))) (Int.fdiv ((wB p j) (j + 14)) (2 ^ 10))) + ((wB p j) (j + 9)))) + (bXor .u32 (bXor .u32 (rotF ((wB p j) (j + 1)) (rotS (-7))) (rotF ((wB p j) (j + 1)) (rotS (-18)))) (Int.fdiv ((wB p j) (j + 1)) (2 ^ 3))))) + ((wB p j) j))))⟩]⟩ [.b 3, .c 39] [] (by kernel_rfl) ?_
        have hw6 : IntKind.i64.wrap (((j + 16 : Nat) : Int) + 1) = ((j + 16 + 1 : Nat) : Int) := by rw [wrap_i64 (by omega) (by omega)]; try omega
        rw [hw6]
        exact J.again (j + 1) [0, 4, 6] 2 (by omega) (by kernel_rfl) (by kernel_rfl) (fun w1 A1 m1 => (by omega))
      · skip
        refine J.ldq (T := 108) (b := b1) (off := 0 + j * 1) (d := 97) (v := .int .u32 ((wB p j) j)) (by kernel_rfl) (fun w1 A1 m1 l1 => l1.ldc (i := 1) rfl (by kernel_rfl) (w64_at (by omega))) ?_
        refine J.pick1 5 (by kernel_rfl) (by kernel_rfl) ?_
        refine J.ldq (T := 108) (b := b1) (off := 0 + (j + 9) * 1) (d := 90) (v := .int .u32 ((wB p j) (j + 9))) (by kernel_rfl) (fun w1 A1 m1 l1 => l1.ldc (i := 1) rfl (by kernel_rfl) (w64_at (by omega))) ?_
        refine J.take0 [(6, .u), (8, .u), (13, .u)] [0, 4, 6, 85, 98] [(0, .loc 0 0), (4, .loc 1 0), (6, .v (.int .i64 ((j + 16 : Nat) : Int))), (85, .v (.int .i64 ((j + 16 : Nat) : Int))), (98, .v (.int .u32 (IntKind.u32.wrap ((IntKind.u32.wrap ((IntKind.u32.wrap ((bXor .u32 (bXor .u32 (rotF ((wB p j) (j + 14)) (rotS (-17))) (rotF ((wB p j) (j + 14)) (rotS (-19)))) (Int.fdiv ((wB p j) (j + 14)) (2 ^ 10))) + ((wB p j) (j + 9)))) + (bXor .u32 (bXor .u32 (rotF ((wB p j) (j + 1)) (rotS (-7))) (rotF ((wB p j) (j + 1)) (rotS (-18)))) (Int.fdiv ((wB p j) (j + 1)) (2 ^ 3))))) + ((wB p j) j)))))] [13, 8, 6, 5, 12, 11, 4, 10, 9, 7, 3, 2, 1, 0] (calm_body _ _ _) (by intro k _ h; exact h) hr3 (by kernel_rfl) ?_
        refine J.idxAp (j := 14) (b := b1) (off := 0) (len := 64) (i := ((j + 16 : Nat) : Int)) (sz := 1) (d := 99) (calm_body _ _ _) (by kernel_rfl) (by kernel_rfl) (by omega) (by omega) ?_
        refine J.pick1 15 (by kernel_rfl) (by kernel_rfl) ?_
        refine J.stxq (t := 108) (b := b1) (off := 0 + (j + 16) * 1) (v := .int .u32 (IntKind.u32.wrap ((IntKind.u32.wrap ((IntKind.u32.wrap ((bXor .u32 (bXor .u32 (rotF ((wB p j) (j + 14)) (rotS (-17))) (rotF ((wB p j) (j + 14)) (rotS (-19)))) (Int.fdiv ((wB p j) (j + 14)) (2 ^ 10))) + ((wB p j) (j + 9)))) + (bXor .u32 (bXor .u32 (rotF ((wB p j) (j + 1)) (rotS (-7))) (rotF ((wB p j) (j + 1)) (rotS (-18)))) (Int.fdiv ((wB p j) (j + 1)) (2 ^ 3))))) + ((wB p j) j)))) 1 (by kernel_rfl) rfl rfl (by kernel_rfl) rfl rfl (by simp [w64_len]; omega) (.inl (.inr ⟨1, by simp, by simp, rfl⟩)) ?_
        refine J.sameM (m' := [⟨177, hcells h kk p held size⟩, ⟨173, (w64 (wB p j)).set (0 + (j + 16) * 1) (.int .u32 (IntKind.u32.wrap ((IntKind.u32.wrap ((IntKind.u32.wrap ((bXor .u32 (bXor .u32 (rotF ((wB p j) (j + 14)) (rotS (-17))) (rotF ((wB p j) (j + 14)) (rotS (-19)))) (Int.fdiv ((wB p j) (j + 14)) (2 ^ 10))) + ((wB p j) (j + 9)))) + (bXor .u32 (bXor .u32 (rotF ((wB p j) (j + 1)) (rotS (-7))) (rotF ((wB p j) (j + 1)) (rotS (-18)))) (Int.fdiv ((wB p j) (j + 1)) (2 ^ 3))))) + ((wB p j) j))))⟩]) (by kernel_rfl) ?_
        rw [w64_set (by omega)]
        refine J.pdone (by kernel_rfl) ?_
        refine J.run [.n, .n, .u, .u, .u, .n] [0, 4, 6] ⟨[(0, .loc 0 0), (4, .loc 1 0), (6, .v (.int .i64 (IntKind.i64.wrap (((j + 16 : Nat) : Int) + 1))))], [⟨177, hcells h kk p held size⟩, ⟨173, w64 (upd (wB p j) (j + 16) (IntKind.u32.wrap ((IntKind.u32.wrap ((IntKind.u32.wrap ((bXor .u32 (bXor .u32 (rotF ((wB p j) (j + 14)) (rotS (-17))) (rotF ((wB p j) (j + 14)) (rotS (-19)))) (Int.fdiv ((wB p j) (j + 14)) (2 ^ 10))) + ((wB p j) (j + 9)))) + (bXor .u32 (bXor .u32 (rotF ((wB p j) (j + 1)) (rotS (-7))) (rotF ((wB p j) (j + 1)) (rotS (-18)))) (Int.fdiv ((wB p j) (j + 1)) (2 ^ 3))))) + ((wB p j) j))))⟩]⟩ [.b 3, .c 39] [] (by kernel_rfl) ?_
        have hw7 : IntKind.i64.wrap (((j + 16 : Nat) : Int) + 1) = ((j + 16 + 1 : Nat) : Int) := by rw [wrap_i64 (by omega) (by omega)]; try omega
        rw [hw7]
        exact J.again (j + 1) [0, 4, 6] 2 (by omega) (by kernel_rfl) (by kernel_rfl) (fun w1 A1 m1 => (by omega))
    · try simp only [nrm] at hc
      have hc2 := hc
      have he : j = 48 := by omega
      subst he
      refine J.exit (id := 2) (by kernel_rfl) (by rfl) ?_
      refine J.rn [.n, .n, .u, .u, .u, .u] [0, 4, 103] [.c 40] [.o 41 4, .c 42] (by kernel_rfl) ?_
      refine J.new (T := 172) (cs := [.int .u32 0, .int .u32 0, .int .u32 0, .int .u32 0, .int .u32 0, .int .u32 0, .int .u32 0, .int .u32 0]) (d := 11) (K := .ptr) (by kernel_rfl) (fun b2 hb2 => ?_)
      refine J.run [.u, .n, .n, .n, .n, .u, .n, .n] [0, 4, 11, 104] ⟨[(0, .loc 0 0), (4, .loc 1 0), (11, .loc 2 0), (104, .v (.int .i64 0))], [⟨177, hcells h kk p held size⟩, ⟨173, w64 (wB p 48)⟩, ⟨172, [.int .u32 (h 0), .int .u32 (h 1), .int .u32 (h 2), .int .u32 (h 3), .int .u32 (h 4), .int .u32 (h 5), .int .u32 (h 6), .int .u32 (h 7)]⟩]⟩ [.o 41 5, .c 42] [.c 46, .b 4, .c 65] (by kernel_rfl) ?_
      refine J.sameM (m' := [⟨177, hcells h kk p held size⟩, ⟨173, w64 (wB p 48)⟩, ⟨172, w8 (sC h kk p 0)⟩]) (by kernel_rfl) ?_
      refine J.loop (X := Nat) (fun t => ⟨[(0, .loc 0 0), (4, .loc 1 0), (11, .loc 2 0), (104, .v (.int .i64 ((t : Nat) : Int)))], [⟨177, hcells h kk p held size⟩, ⟨173, w64 (wB p 48)⟩, ⟨172, w8 (sC h kk p t)⟩]⟩) (fun t A w => t ≤ 64) (fun t => 64 - t) [0, 4, 11, 104] 3 [b, b1, b2] 0 (by kernel_rfl) (by kernel_rfl) (by kernel_rfl) (fun w1 A1 m1 => Nat.zero_le _) (fun t A10 w10 hI => ?_)
      refine J.run [.n, .n, .u, .n, .n] [0, 4, 11, 104, 105] ⟨[(0, .loc 0 0), (4, .loc 1 0), (11, .loc 2 0), (104, .v (.int .i64 ((t : Nat) : Int))), (105, .v (.bool (decide (((t : Nat) : Int) < 64))))], [⟨177, hcells h kk p held size⟩, ⟨173, w64 (wB p 48)⟩, ⟨172, w8 (sC h kk p t)⟩]⟩ [.c 47] [.c 50, .c 53] (by kernel_rfl) ?_
      refine J.cond (b := (decide (((t : Nat) : Int) < 64))) (k' := 52) (by kernel_rfl) (fun hc => ?_) (fun hc => ?_)
      · try simp only [nrm] at hc
        have hc3 := hc
        refine J.run [.n, .n, .n, .n, .n, .u, .u, .n, .n] [0, 4, 11, 12, 104] ⟨[(0, .loc 0 0), (4, .loc 1 0), (11, .loc 2 0), (12, .v (.int .i64 ((t : Nat) : Int))), (104, .v (.int .i64 ((t : Nat) : Int)))], [⟨177, hcells h kk p held size⟩, ⟨173, w64 (wB p 48)⟩, ⟨172, w8 (sC h kk p t)⟩]⟩ [.c 51, .c 53] [.c 58, .c 59, .b 5, .c 64] (by kernel_rfl) ?_
        refine J.draw [] nobody (by kernel_rfl) (by kernel_rfl) (fun _ h => h.elim) (fun w11 A11 m8 hr4 hX4 => ?_)
        refine J.idxAp (j := 0) (b := b2) (off := 0) (len := 8) (i := 0) (sz := 1) (d := 107) (calm_body _ _ _) (by kernel_rfl) (by kernel_rfl) (by omega) (by omega) ?_
        refine J.ldlp (j := 1) (T := 108) (b := b2) (off := 0 + 0 * 1) (d := 108) (v := .int .u32 ((sC h kk p t) 0)) 2 (calm_body _ _ _) (by kernel_rfl) (by kernel_rfl) (by intro k _ h; exact h) hr4 rfl rfl rfl (by kernel_rfl) (w8_at (by omega)) ?_
        refine J.take0 [(4, .u)] [0, 4, 11, 12, 13, 104] [(0, .loc 0 0), (4, .loc 1 0), (11, .loc 2 0), (12, .v (.int .i64 ((t : Nat) : Int))), (13, .v (.int .u32 ((sC h kk p t) 0))), (104, .v (.int .i64 ((t : Nat) : Int)))] [4, 1, 0] (calm_body _ _ _) (by intro k _ h; exact h) hr4 (by kernel_rfl) ?_
        refine J.idxAp (j := 2) (b := b2) (off := 0) (len := 8) (i := 4) (sz := 1) (d := 109) (calm_body _ _ _) (by kernel_rfl) (by kernel_rfl) (by omega) (by omega) ?_
        refine J.ldlp (j := 3) (T := 108) (b := b2) (off := 0 + 4 * 1) (d := 110) (v := .int .u32 ((sC h kk p t) 4)) 2 (calm_body _ _ _) (by kernel_rfl) (by kernel_rfl) (by intro k _ h; exact h) hr4 rfl rfl rfl (by kernel_rfl) (w8_at (by omega)) ?_
        refine J.take0 [(5, .u)] [0, 4, 11, 12, 13, 14, 104] [(0, .loc 0 0), (4, .loc 1 0), (11, .loc 2 0), (12, .v (.int .i64 ((t : Nat) : Int))), (13, .v (.int .u32 ((sC h kk p t) 0))), (14, .v (.int .u32 ((sC h kk p t) 4))), (104, .v (.int .i64 ((t : Nat) : Int)))] [5, 3, 2, 4, 1, 0] (calm_body _ _ _) (by intro k _ h; exact h) hr4 (by kernel_rfl) ?_
        refine J.pdone (by kernel_rfl) ?_
        refine J.run [.n] [0, 4, 11, 12, 13, 14, 104] ⟨[(0, .loc 0 0), (4, .loc 1 0), (11, .loc 2 0), (12, .v (.int .i64 ((t : Nat) : Int))), (13, .v (.int .u32 ((sC h kk p t) 0))), (14, .v (.int .u32 ((sC h kk p t) 4))), (104, .v (.int .i64 ((t : Nat) : Int)))], [⟨177, hcells h kk p held size⟩, ⟨173, w64 (wB p 48)⟩, ⟨172, w8 (sC h kk p t)⟩]⟩ [.c 59, .b 5, .c 64] [.c 60, .c 61, .b 5, .c 64] (by kernel_rfl) ?_
        refine J.draw [] nobody (by kernel_rfl) (by kernel_rfl) (fun _ h => h.elim) (fun w12 A12 m9 hr5 hX5 => ?_)
        refine J.take0 [(2, .u), (4, .u), (7, .u), (11, .u), (15, .u), (16, .u), (22, .u), (23, .u), (24, .u), (25, .u), (29, .u)] [0, 4, 11, 13, 14, 104, 113, 115, 118, 122, 127, 134, 136, 140] [(0, .loc 0 0), (4, .loc 1 0), (11, .loc 2 0), (13, .v (.int .u32 ((sC h kk p t) 0))), (14, .v (.int .u32 ((sC h kk p t) 4))), (104, .v (.int .i64 ((t : Nat) : Int))), (113, .v (.int .u32 ((sC h kk p t) 4))), (115, .v (.int .u32 ((sC h kk p t) 4))), (118, .v (.int .u32 ((sC h kk p t) 4))), (122, .v (.int .u32 ((sC h kk p t) 4))), (127, .v (.int .u32 (bXor .u32 4294967295 ((sC h kk p t) 4)))), (134, .v (.int .i64 ((t : Nat) : Int))), (136, .loc 0 8), (140, .v (.int .i64 ((t : Nat) : Int)))] [29, 25, 24, 23, 22, 16, 15, 11, 7, 4, 2] (calm_body _ _ _) (by intro k _ h; exact h) hr5 (by kernel_rfl) ?_
        refine J.idxAp (j := 0) (b := b2) (off := 0) (len := 8) (i := 7) (sz := 1) (d := 111) (calm_body _ _ _) (by kernel_rfl) (by kernel_rfl) (by omega) (by omega) ?_
        refine J.ldlp (j := 1) (T := 108) (b := b2) (off := 0 + 7 * 1) (d := 112) (v := .int .u32 ((sC h kk p t) 7)) 2 (calm_body _ _ _) (by kernel_rfl) (by kernel_rfl) (by intro k _ h; exact h) hr5 rfl rfl rfl (by kernel_rfl) (w8_at (by omega)) ?_
        refine J.idxAp (j := 12) (b := b2) (off := 0) (len := 8) (i := 5) (sz := 1) (d := 123) (calm_body _ _ _) (by kernel_rfl) (by kernel_rfl) (by omega) (by omega) ?_
        refine J.ldlp (j := 13) (T := 108) (b := b2) (off := 0 + 5 * 1) (d := 124) (v := .int .u32 ((sC h kk p t) 5)) 2 (calm_body _ _ _) (by kernel_rfl) (by kernel_rfl) (by intro k _ h; exact h) hr5 rfl rfl rfl (by kernel_rfl) (w8_at (by omega)) ?_
        refine J.take0 [(14, .u)] [0, 4, 11, 13, 14, 104, 112, 113, 115, 118, 125, 127, 134, 136, 140] [(0, .loc 0 0), (4, .loc 1 0), (11, .loc 2 0), (13, .v (.int .u32 ((sC h kk p t) 0))), (14, .v (.int .u32 ((sC h kk p t) 4))), (104, .v (.int .i64 ((t : Nat) : Int))), (112, .v (.int .u32 ((sC h kk p t) 7))), (113, .v (.int .u32 ((sC h kk p t) 4))), (115, .v (.int .u32 ((sC h kk p t) 4))), (118, .v (.int .u32 ((sC h kk p t) 4))), (125, .v (.int .u32 (bAnd .u32 ((sC h kk p t) 4) ((sC h kk p t) 5)))), (127, .v (.int .u32 (bXor .u32 4294967295 ((sC h kk p t) 4)))), (134, .v (.int .i64 ((t : Nat) : Int))), (136, .loc 0 8), (140, .v (.int .i64 ((t : Nat) : Int)))] [14, 13, 12, 1, 0, 29, 25, 24, 23, 22, 16, 15, 11, 7, 4, 2] (calm_body _ _ _) (by intro k _ h; exact h) hr5 (by kernel_rfl) ?_
        refine J.idxAp (j := 17) (b := b2) (off := 0) (len := 8) (i := 6) (sz := 1) (d := 128) (calm_body _ _ _) (by kernel_rfl) (by kernel_rfl) (by omega) (by omega) ?_
        refine J.ldlp (j := 18) (T := 108) (b := b2) (off := 0 + 6 * 1) (d := 129) (v := .int .u32 ((sC h kk p t) 6)) 2 (calm_body _ _ _) (by kernel_rfl) (by kernel_rfl) (by intro k _ h; exact h) hr5 rfl rfl rfl (by kernel_rfl) (w8_at (by omega)) ?_
        refine J.take0 [(19, .u), (20, .u)] [0, 4, 11, 13, 14, 104, 112, 113, 115, 118, 131, 134, 136, 140] [(0, .loc 0 0), (4, .loc 1 0), (11, .loc 2 0), (13, .v (.int .u32 ((sC h kk p t) 0))), (14, .v (.int .u32 ((sC h kk p t) 4))), (104, .v (.int .i64 ((t : Nat) : Int))), (112, .v (.int .u32 ((sC h kk p t) 7))), (113, .v (.int .u32 ((sC h kk p t) 4))), (115, .v (.int .u32 ((sC h kk p t) 4))), (118, .v (.int .u32 ((sC h kk p t) 4))), (131, .v (.int .u32 (bXor .u32 (bAnd .u32 ((sC h kk p t) 4) ((sC h kk p t) 5)) (bAnd .u32 (bXor .u32 4294967295 ((sC h kk p t) 4)) ((sC h kk p t) 6))))), (134, .v (.int .i64 ((t : Nat) : Int))), (136, .loc 0 8), (140, .v (.int .i64 ((t : Nat) : Int)))] [20, 19, 18, 17, 14, 13, 12, 1, 0, 29, 25, 24, 23, 22, 16, 15, 11, 7, 4, 2] (calm_body _ _ _) (by intro k _ h; exact h) hr5 (by kernel_rfl) ?_
        refine J.idxAp (j := 26) (b := b) (off := 8) (len := 64) (i := ((t : Nat) : Int)) (sz := 1) (d := 137) (calm_body _ _ _) (by kernel_rfl) (by kernel_rfl) (by omega) (by omega) ?_
        refine J.ldlp (j := 27) (T := 108) (b := b) (off := 8 + t * 1) (d := 138) (v := .int .u32 (kk t)) 0 (calm_body _ _ _) (by kernel_rfl) (by kernel_rfl) (by intro k _ h; exact h) hr5 rfl rfl rfl (by kernel_rfl) (hcells_k (by omega)) ?_
        refine J.idxAp (j := 30) (b := b1) (off := 0) (len := 64) (i := ((t : Nat) : Int)) (sz := 1) (d := 141) (calm_body _ _ _) (by kernel_rfl) (by kernel_rfl) (by omega) (by omega) ?_
        refine J.ldlp (j := 31) (T := 108) (b := b1) (off := 0 + t * 1) (d := 142) (v := .int .u32 ((wB p 48) t)) 1 (calm_body _ _ _) (by kernel_rfl) (by kernel_rfl) (by intro k _ h; exact h) hr5 rfl rfl rfl (by kernel_rfl) (w64_at (by omega)) ?_
        refine J.pick1 3 (by kernel_rfl) (by kernel_rfl) ?_
        refine J.callq (d := some 114) (by kernel_rfl) (fun w1 A1 m1 l1 => rot_calls ((sC h kk p t) 4) (-6) nobody w1 noA) ?_
        rintro _ u5 w13 A13 rfl g5
        have m10 := g5.mv
        refine J.pick1 5 (by kernel_rfl) (by kernel_rfl) ?_
        refine J.callq (d := some 116) (by kernel_rfl) (fun w1 A1 m1 l1 => rot_calls ((sC h kk p t) 4) (-11) nobody w1 noA) ?_
        rintro _ u6 w14 A14 rfl g6
        have m11 := g6.mv
        refine J.take1 [(6, .u)] [0, 4, 11, 13, 14, 104, 112, 117, 118, 131, 138, 142] [(0, .loc 0 0), (4, .loc 1 0), (11, .loc 2 0), (13, .v (.int .u32 ((sC h kk p t) 0))), (14, .v (.int .u32 ((sC h kk p t) 4))), (104, .v (.int .i64 ((t : Nat) : Int))), (112, .v (.int .u32 ((sC h kk p t) 7))), (117, .v (.int .u32 (bXor .u32 (rotF ((sC h kk p t) 4) (rotS (-6))) (rotF ((sC h kk p t) 4) (rotS (-11)))))), (118, .v (.int .u32 ((sC h kk p t) 4))), (131, .v (.int .u32 (bXor .u32 (bAnd .u32 ((sC h kk p t) 4) ((sC h kk p t) 5)) (bAnd .u32 (bXor .u32 4294967295 ((sC h kk p t) 4)) ((sC h kk p t) 6))))), (138, .v (.int .u32 (kk t))), (142, .v (.int .u32 ((wB p 48) t)))] [6, 5, 3, 31, 30, 27, 26, 20, 19, 18, 17, 14, 13, 12, 1, 0, 29, 25, 24, 23, 22, 16, 15, 11, 7, 4, 2] (calm_body _ _ _) (by kernel_rfl) ?_
        refine J.pick1 8 (by kernel_rfl) (by kernel_rfl) ?_
        refine J.callq (d := some 119) (by kernel_rfl) (fun w1 A1 m1 l1 => rot_calls ((sC h kk p t) 4) (-25) nobody w1 noA) ?_
        rintro _ u7 w15 A15 rfl g7
        have m12 := g7.mv
        refine J.take1 [(9, .u), (10, .u), (21, .u), (28, .u), (32, .u), (33, .u)] [0, 4, 11, 13, 14, 15, 104] [(0, .loc 0 0), (4, .loc 1 0), (11, .loc 2 0), (13, .v (.int .u32 ((sC h kk p t) 0))), (14, .v (.int .u32 ((sC h kk p t) 4))), (15, .v (.int .u32 (IntKind.u32.wrap ((IntKind.u32.wrap ((IntKind.u32.wrap ((IntKind.u32.wrap (((sC h kk p t) 7) + (bXor .u32 (bXor .u32 (rotF ((sC h kk p t) 4) (rotS (-6))) (rotF ((sC h kk p t) 4) (rotS (-11)))) (rotF ((sC h kk p t) 4) (rotS (-25)))))) + (bXor .u32 (bAnd .u32 ((sC h kk p t) 4) ((sC h kk p t) 5)) (bAnd .u32 (bXor .u32 4294967295 ((sC h kk p t) 4)) ((sC h kk p t) 6))))) + (kk t))) + ((wB p 48) t))))), (104, .v (.int .i64 ((t : Nat) : Int)))] [33, 32, 28, 21, 10, 9, 8, 6, 5, 3, 31, 30, 27, 26, 20, 19, 18, 17, 14, 13, 12, 1, 0, 29, 25, 24, 23, 22, 16, 15, 11, 7, 4, 2] (calm_body _ _ _) (by kernel_rfl) ?_
        refine J.pdone (by kernel_rfl) ?_
        refine J.run [.n] [0, 4, 11, 13, 14, 15, 104] ⟨[(0, .loc 0 0), (4, .loc 1 0), (11, .loc 2 0), (13, .v (.int .u32 ((sC h kk p t) 0))), (14, .v (.int .u32 ((sC h kk p t) 4))), (15, .v (.int .u32 (IntKind.u32.wrap ((IntKind.u32.wrap ((IntKind.u32.wrap ((IntKind.u32.wrap (((sC h kk p t) 7) + (bXor .u32 (bXor .u32 (rotF ((sC h kk p t) 4) (rotS (-6))) (rotF ((sC h kk p t) 4) (rotS (-11)))) (rotF ((sC h kk p t) 4) (rotS (-25)))))) + (bXor .u32 (bAnd .u32 ((sC h kk p t) 4) ((sC h kk p t) 5)) (bAnd .u32 (bXor .u32 4294967295 ((sC h kk p t) 4)) ((sC h kk p t) 6))))) + (kk t))) + ((wB p 48) t))))), (104, .v (.int .i64 ((t : Nat) : Int)))], [⟨177, hcells h kk p held size⟩, ⟨173, w64 (wB p 48)⟩, ⟨172, w8 (sC h kk p t)⟩]⟩ [.c 61, .b 5, .c 64] [.c 62, .c 63, .b 5, .c 64] (by kernel_rfl) ?_
        refine J.draw [] nobody (by kernel_rfl) (by kernel_rfl) (fun _ h => h.elim) (fun w16 A16 m13 hr6 hX6 => ?_)
        refine J.take0 [(0, .u), (2, .u), (5, .u), (8, .u), (12, .u)] [0, 4, 11, 13, 14, 15, 104, 144, 146, 149, 152, 156] [(0, .loc 0 0), (4, .loc 1 0), (11, .loc 2 0), (13, .v (.int .u32 ((sC h kk p t) 0))), (14, .v (.int .u32 ((sC h kk p t) 4))), (15, .v (.int .u32 (IntKind.u32.wrap ((IntKind.u32.wrap ((IntKind.u32.wrap ((IntKind.u32.wrap (((sC h kk p t) 7) + (bXor .u32 (bXor .u32 (rotF ((sC h kk p t) 4) (rotS (-6))) (rotF ((sC h kk p t) 4) (rotS (-11)))) (rotF ((sC h kk p t) 4) (rotS (-25)))))) + (bXor .u32 (bAnd .u32 ((sC h kk p t) 4) ((sC h kk p t) 5)) (bAnd .u32 (bXor .u32 4294967295 ((sC h kk p t) 4)) ((sC h kk p t) 6))))) + (kk t))) + ((wB p 48) t))))), (104, .v (.int .i64 ((t : Nat) : Int))), (144, .v (.int .u32 ((sC h kk p t) 0))), (146, .v (.int .u32 ((sC h kk p t) 0))), (149, .v (.int .u32 ((sC h kk p t) 0))), (152, .v (.int .u32 ((sC h kk p t) 0))), (156, .v (.int .u32 ((sC h kk p t) 0)))] [12, 8, 5, 2, 0] (calm_body _ _ _) (by intro k _ h; exact h) hr6 (by kernel_rfl) ?_
        refine J.idxAp (j := 9) (b := b2) (off := 0) (len := 8) (i := 1) (sz := 1) (d := 153) (calm_body _ _ _) (by kernel_rfl) (by kernel_rfl) (by omega) (by omega) ?_
        refine J.ldlp (j := 10) (T := 108) (b := b2) (off := 0 + 1 * 1) (d := 154) (v := .int .u32 ((sC h kk p t) 1)) 2 (calm_body _ _ _) (by kernel_rfl) (by kernel_rfl) (by intro k _ h; exact h) hr6 rfl rfl rfl (by kernel_rfl) (w8_at (by omega)) ?_
        refine J.take0 [(11, .u)] [0, 4, 11, 13, 14, 15, 104, 144, 146, 149, 155, 156] [(0, .loc 0 0), (4, .loc 1 0), (11, .loc 2 0), (13, .v (.int .u32 ((sC h kk p t) 0))), (14, .v (.int .u32 ((sC h kk p t) 4))), (15, .v (.int .u32 (IntKind.u32.wrap ((IntKind.u32.wrap ((IntKind.u32.wrap ((IntKind.u32.wrap (((sC h kk p t) 7) + (bXor .u32 (bXor .u32 (rotF ((sC h kk p t) 4) (rotS (-6))) (rotF ((sC h kk p t) 4) (rotS (-11)))) (rotF ((sC h kk p t) 4) (rotS (-25)))))) + (bXor .u32 (bAnd .u32 ((sC h kk p t) 4) ((sC h kk p t) 5)) (bAnd .u32 (bXor .u32 4294967295 ((sC h kk p t) 4)) ((sC h kk p t) 6))))) + (kk t))) + ((wB p 48) t))))), (104, .v (.int .i64 ((t : Nat) : Int))), (144, .v (.int .u32 ((sC h kk p t) 0))), (146, .v (.int .u32 ((sC h kk p t) 0))), (149, .v (.int .u32 ((sC h kk p t) 0))), (155, .v (.int .u32 (bAnd .u32 ((sC h kk p t) 0) ((sC h kk p t) 1)))), (156, .v (.int .u32 ((sC h kk p t) 0)))] [11, 10, 9, 12, 8, 5, 2, 0] (calm_body _ _ _) (by intro k _ h; exact h) hr6 (by kernel_rfl) ?_
        refine J.idxAp (j := 13) (b := b2) (off := 0) (len := 8) (i := 2) (sz := 1) (d := 157) (calm_body _ _ _) (by kernel_rfl) (by kernel_rfl) (by omega) (by omega) ?_
        refine J.ldlp (j := 14) (T := 108) (b := b2) (off := 0 + 2 * 1) (d := 158) (v := .int .u32 ((sC h kk p t) 2)) 2 (calm_body _ _ _) (by kernel_rfl) (by kernel_rfl) (by intro k _ h; exact h) hr6 rfl rfl rfl (by kernel_rfl) (w8_at (by omega)) ?_
        refine J.take0 [(15, .u), (16, .u)] [0, 4, 11, 13, 14, 15, 104, 144, 146, 149, 160] [(0, .loc 0 0), (4, .loc 1 0), (11, .loc 2 0), (13, .v (.int .u32 ((sC h kk p t) 0))), (14, .v (.int .u32 ((sC h kk p t) 4))), (15, .v (.int .u32 (IntKind.u32.wrap ((IntKind.u32.wrap ((IntKind.u32.wrap ((IntKind.u32.wrap (((sC h kk p t) 7) + (bXor .u32 (bXor .u32 (rotF ((sC h kk p t) 4) (rotS (-6))) (rotF ((sC h kk p t) 4) (rotS (-11)))) (rotF ((sC h kk p t) 4) (rotS (-25)))))) + (bXor .u32 (bAnd .u32 ((sC h kk p t) 4) ((sC h kk p t) 5)) (bAnd .u32 (bXor .u32 4294967295 ((sC h kk p t) 4)) ((sC h kk p t) 6))))) + (kk t))) + ((wB p 48) t))))), (104, .v (.int .i64 ((t : Nat) : Int))), (144, .v (.int .u32 ((sC h kk p t) 0))), (146, .v (.int .u32 ((sC h kk p t) 0))), (149, .v (.int .u32 ((sC h kk p t) 0))), (160, .v (.int .u32 (bXor .u32 (bAnd .u32 ((sC h kk p t) 0) ((sC h kk p t) 1)) (bAnd .u32 ((sC h kk p t) 0) ((sC h kk p t) 2)))))] [16, 15, 14, 13, 11, 10, 9, 12, 8, 5, 2, 0] (calm_body _ _ _) (by intro k _ h; exact h) hr6 (by kernel_rfl) ?_
        refine J.idxAp (j := 17) (b := b2) (off := 0) (len := 8) (i := 1) (sz := 1) (d := 161) (calm_body _ _ _) (by kernel_rfl) (by kernel_rfl) (by omega) (by omega) ?_
        refine J.ldlp (j := 18) (T := 108) (b := b2) (off := 0 + 1 * 1) (d := 162) (v := .int .u32 ((sC h kk p t) 1)) 2 (calm_body _ _ _) (by kernel_rfl) (by kernel_rfl) (by intro k _ h; exact h) hr6 rfl rfl rfl (by kernel_rfl) (w8_at (by omega)) ?_
        refine J.idxAp (j := 19) (b := b2) (off := 0) (len := 8) (i := 2) (sz := 1) (d := 163) (calm_body _ _ _) (by kernel_rfl) (by kernel_rfl) (by omega) (by omega) ?_
        refine J.ldlp (j := 20) (T := 108) (b := b2) (off := 0 + 2 * 1) (d := 164) (v := .int .u32 ((sC h kk p t) 2)) 2 (calm_body _ _ _) (by kernel_rfl) (by kernel_rfl) (by intro k _ h; exact h) hr6 rfl rfl rfl (by kernel_rfl) (w8_at (by omega)) ?_
        refine J.take0 [(21, .u), (22, .u)] [0, 4, 11, 13, 14, 15, 104, 144, 146, 149, 166] [(0, .loc 0 0), (4, .loc 1 0), (11, .loc 2 0), (13, .v (.int .u32 ((sC h kk p t) 0))), (14, .v (.int .u32 ((sC h kk p t) 4))), (15, .v (.int .u32 (IntKind.u32.wrap ((IntKind.u32.wrap ((IntKind.u32.wrap ((IntKind.u32.wrap (((sC h kk p t) 7) + (bXor .u32 (bXor .u32 (rotF ((sC h kk p t) 4) (rotS (-6))) (rotF ((sC h kk p t) 4) (rotS (-11)))) (rotF ((sC h kk p t) 4) (rotS (-25)))))) + (bXor .u32 (bAnd .u32 ((sC h kk p t) 4) ((sC h kk p t) 5)) (bAnd .u32 (bXor .u32 4294967295 ((sC h kk p t) 4)) ((sC h kk p t) 6))))) + (kk t))) + ((wB p 48) t))))), (104, .v (.int .i64 ((t : Nat) : Int))), (144, .v (.int .u32 ((sC h kk p t) 0))), (146, .v (.int .u32 ((sC h kk p t) 0))), (149, .v (.int .u32 ((sC h kk p t) 0))), (166, .v (.int .u32 (bXor .u32 (bXor .u32 (bAnd .u32 ((sC h kk p t) 0) ((sC h kk p t) 1)) (bAnd .u32 ((sC h kk p t) 0) ((sC h kk p t) 2))) (bAnd .u32 ((sC h kk p t) 1) ((sC h kk p t) 2)))))] [22, 21, 20, 19, 18, 17, 16, 15, 14, 13, 11, 10, 9, 12, 8, 5, 2, 0] (calm_body _ _ _) (by intro k _ h; exact h) hr6 (by kernel_rfl) ?_
        refine J.pick1 1 (by kernel_rfl) (by kernel_rfl) ?_
        refine J.callq (d := some 145) (by kernel_rfl) (fun w1 A1 m1 l1 => rot_calls ((sC h kk p t) 0) (-2) nobody w1 noA) ?_
        rintro _ u8 w17 A17 rfl g8
        have m14 := g8.mv
        refine J.pick1 3 (by kernel_rfl) (by kernel_rfl) ?_
        refine J.callq (d := some 147) (by kernel_rfl) (fun w1 A1 m1 l1 => rot_calls ((sC h kk p t) 0) (-13) nobody w1 noA) ?_
        rintro _ u9 w18 A18 rfl g9
        have m15 := g9.mv
        refine J.take1 [(4, .u)] [0, 4, 11, 13, 14, 15, 104, 148, 149, 166] [(0, .loc 0 0), (4, .loc 1 0), (11, .loc 2 0), (13, .v (.int .u32 ((sC h kk p t) 0))), (14, .v (.int .u32 ((sC h kk p t) 4))), (15, .v (.int .u32 (IntKind.u32.wrap ((IntKind.u32.wrap ((IntKind.u32.wrap ((IntKind.u32.wrap (((sC h kk p t) 7) + (bXor .u32 (bXor .u32 (rotF ((sC h kk p t) 4) (rotS (-6))) (rotF ((sC h kk p t) 4) (rotS (-11)))) (rotF ((sC h kk p t) 4) (rotS (-25)))))) + (bXor .u32 (bAnd .u32 ((sC h kk p t) 4) ((sC h kk p t) 5)) (bAnd .u32 (bXor .u32 4294967295 ((sC h kk p t) 4)) ((sC h kk p t) 6))))) + (kk t))) + ((wB p 48) t))))), (104, .v (.int .i64 ((t : Nat) : Int))), (148, .v (.int .u32 (bXor .u32 (rotF ((sC h kk p t) 0) (rotS (-2))) (rotF ((sC h kk p t) 0) (rotS (-13)))))), (149, .v (.int .u32 ((sC h kk p t) 0))), (166, .v (.int .u32 (bXor .u32 (bXor .u32 (bAnd .u32 ((sC h kk p t) 0) ((sC h kk p t) 1)) (bAnd .u32 ((sC h kk p t) 0) ((sC h kk p t) 2))) (bAnd .u32 ((sC h kk p t) 1) ((sC h kk p t) 2)))))] [4, 3, 1, 22, 21, 20, 19, 18, 17, 16, 15, 14, 13, 11, 10, 9, 12, 8, 5, 2, 0] (calm_body _ _ _) (by kernel_rfl) ?_
        refine J.pick1 6 (by kernel_rfl) (by kernel_rfl) ?_
        refine J.callq (d := some 150) (by kernel_rfl) (fun w1 A1 m1 l1 => rot_calls ((sC h kk p t) 0) (-22) nobody w1 noA) ?_
        rintro _ u10 w19 A19 rfl g10
        have m16 := g10.mv
        refine J.take1 [(7, .u), (23, .u), (24, .u)] [0, 4, 11, 13, 14, 15, 16, 104] [(0, .loc 0 0), (4, .loc 1 0), (11, .loc 2 0), (13, .v (.int .u32 ((sC h kk p t) 0))), (14, .v (.int .u32 ((sC h kk p t) 4))), (15, .v (.int .u32 (IntKind.u32.wrap ((IntKind.u32.wrap ((IntKind.u32.wrap ((IntKind.u32.wrap (((sC h kk p t) 7) + (bXor .u32 (bXor .u32 (rotF ((sC h kk p t) 4) (rotS (-6))) (rotF ((sC h kk p t) 4) (rotS (-11)))) (rotF ((sC h kk p t) 4) (rotS (-25)))))) + (bXor .u32 (bAnd .u32 ((sC h kk p t) 4) ((sC h kk p t) 5)) (bAnd .u32 (bXor .u32 4294967295 ((sC h kk p t) 4)) ((sC h kk p t) 6))))) + (kk t))) + ((wB p 48) t))))), (16, .v (.int .u32 (IntKind.u32.wrap ((bXor .u32 (bXor .u32 (rotF ((sC h kk p t) 0) (rotS (-2))) (rotF ((sC h kk p t) 0) (rotS (-13)))) (rotF ((sC h kk p t) 0) (rotS (-22)))) + (bXor .u32 (bXor .u32 (bAnd .u32 ((sC h kk p t) 0) ((sC h kk p t) 1)) (bAnd .u32 ((sC h kk p t) 0) ((sC h kk p t) 2))) (bAnd .u32 ((sC h kk p t) 1) ((sC h kk p t) 2))))))), (104, .v (.int .i64 ((t : Nat) : Int)))] [24, 23, 7, 6, 4, 3, 1, 22, 21, 20, 19, 18, 17, 16, 15, 14, 13, 11, 10, 9, 12, 8, 5, 2, 0] (calm_body _ _ _) (by kernel_rfl) ?_
        refine J.pdone (by kernel_rfl) ?_
        refine J.run [.n, .u, .u, .u, .u] [0, 4, 11, 14, 15, 104, 170, 171] ⟨[(0, .loc 0 0), (4, .loc 1 0), (11, .loc 2 0), (14, .v (.int .u32 ((sC h kk p t) 4))), (15, .v (.int .u32 (IntKind.u32.wrap ((IntKind.u32.wrap ((IntKind.u32.wrap ((IntKind.u32.wrap (((sC h kk p t) 7) + (bXor .u32 (bXor .u32 (rotF ((sC h kk p t) 4) (rotS (-6))) (rotF ((sC h kk p t) 4) (rotS (-11)))) (rotF ((sC h kk p t) 4) (rotS (-25)))))) + (bXor .u32 (bAnd .u32 ((sC h kk p t) 4) ((sC h kk p t) 5)) (bAnd .u32 (bXor .u32 4294967295 ((sC h kk p t) 4)) ((sC h kk p t) 6))))) + (kk t))) + ((wB p 48) t))))), (104, .v (.int .i64 ((t : Nat) : Int))), (170, .v (.int .u32 (IntKind.u32.wrap ((IntKind.u32.wrap ((IntKind.u32.wrap ((IntKind.u32.wrap ((IntKind.u32.wrap (((sC h kk p t) 7) + (bXor .u32 (bXor .u32 (rotF ((sC h kk p t) 4) (rotS (-6))) (rotF ((sC h kk p t) 4) (rotS (-11)))) (rotF ((sC h kk p t) 4) (rotS (-25)))))) + (bXor .u32 (bAnd .u32 ((sC h kk p t) 4) ((sC h kk p t) 5)) (bAnd .u32 (bXor .u32 4294967295 ((sC h kk p t) 4)) ((sC h kk p t) 6))))) + (kk t))) + ((wB p 48) t))) + (IntKind.u32.wrap ((bXor .u32 (bXor .u32 (rotF ((sC h kk p t) 0) (rotS (-2))) (rotF ((sC h kk p t) 0) (rotS (-13)))) (rotF ((sC h kk p t) 0) (rotS (-22)))) + (bXor .u32 (bXor .u32 (bAnd .u32 ((sC h kk p t) 0) ((sC h kk p t) 1)) (bAnd .u32 ((sC h kk p t) 0) ((sC h kk p t) 2))) (bAnd .u32 ((sC h kk p t) 1) ((sC h kk p t) 2))))))))), (171, .v (.int .u32 ((sC h kk p t) 0)))], [⟨177, hcells h kk p held size⟩, ⟨173, w64 (wB p 48)⟩, ⟨172, w8 (sC h kk p t)⟩]⟩ [.c 63, .b 5, .c 64] [.o 63 4, .b 5, .c 64] (by kernel_rfl) ?_
        refine J.idxA (b := b2) (off := 0) (len := 8) (i := 1) (sz := 1) (d := 172) (by kernel_rfl) (by omega) (by omega) ?_
        refine J.ld (T := 108) (b := b2) (off := 0 + 1 * 1) (d := 173) (v := .int .u32 ((sC h kk p t) 1)) (by kernel_rfl) (fun w1 A1 m1 l1 => l1.ldc (i := 2) rfl (by kernel_rfl) (w8_at (by omega))) ?_
        refine J.idxA (b := b2) (off := 0) (len := 8) (i := 2) (sz := 1) (d := 174) (by kernel_rfl) (by omega) (by omega) ?_
        refine J.ld (T := 108) (b := b2) (off := 0 + 2 * 1) (d := 175) (v := .int .u32 ((sC h kk p t) 2)) (by kernel_rfl) (fun w1 A1 m1 l1 => l1.ldc (i := 2) rfl (by kernel_rfl) (w8_at (by omega))) ?_
        refine J.idxA (b := b2) (off := 0) (len := 8) (i := 3) (sz := 1) (d := 176) (by kernel_rfl) (by omega) (by omega) ?_
        refine J.ld (T := 108) (b := b2) (off := 0 + 3 * 1) (d := 177) (v := .int .u32 ((sC h kk p t) 3)) (by kernel_rfl) (fun w1 A1 m1 l1 => l1.ldc (i := 2) rfl (by kernel_rfl) (w8_at (by omega))) ?_
        refine J.run [.u, .u, .u] [0, 4, 11, 104, 170, 171, 173, 175, 179, 180] ⟨[(0, .loc 0 0), (4, .loc 1 0), (11, .loc 2 0), (104, .v (.int .i64 ((t : Nat) : Int))), (170, .v (.int .u32 (IntKind.u32.wrap ((IntKind.u32.wrap ((IntKind.u32.wrap ((IntKind.u32.wrap ((IntKind.u32.wrap (((sC h kk p t) 7) + (bXor .u32 (bXor .u32 (rotF ((sC h kk p t) 4) (rotS (-6))) (rotF ((sC h kk p t) 4) (rotS (-11)))) (rotF ((sC h kk p t) 4) (rotS (-25)))))) + (bXor .u32 (bAnd .u32 ((sC h kk p t) 4) ((sC h kk p t) 5)) (bAnd .u32 (bXor .u32 4294967295 ((sC h kk p t) 4)) ((sC h kk p t) 6))))) + (kk t))) + ((wB p 48) t))) + (IntKind.u32.wrap ((bXor .u32 (bXor .u32 (rotF ((sC h kk p t) 0) (rotS (-2))) (rotF ((sC h kk p t) 0) (rotS (-13)))) (rotF ((sC h kk p t) 0) (rotS (-22)))) + (bXor .u32 (bXor .u32 (bAnd .u32 ((sC h kk p t) 0) ((sC h kk p t) 1)) (bAnd .u32 ((sC h kk p t) 0) ((sC h kk p t) 2))) (bAnd .u32 ((sC h kk p t) 1) ((sC h kk p t) 2))))))))), (171, .v (.int .u32 ((sC h kk p t) 0))), (173, .v (.int .u32 ((sC h kk p t) 1))), (175, .v (.int .u32 ((sC h kk p t) 2))), (179, .v (.int .u32 (IntKind.u32.wrap (((sC h kk p t) 3) + (IntKind.u32.wrap ((IntKind.u32.wrap ((IntKind.u32.wrap ((IntKind.u32.wrap (((sC h kk p t) 7) + (bXor .u32 (bXor .u32 (rotF ((sC h kk p t) 4) (rotS (-6))) (rotF ((sC h kk p t) 4) (rotS (-11)))) (rotF ((sC h kk p t) 4) (rotS (-25)))))) + (bXor .u32 (bAnd .u32 ((sC h kk p t) 4) ((sC h kk p t) 5)) (bAnd .u32 (bXor .u32 4294967295 ((sC h kk p t) 4)) ((sC h kk p t) 6))))) + (kk t))) + ((wB p 48) t))))))), (180, .v (.int .u32 ((sC h kk p t) 4)))], [⟨177, hcells h kk p held size⟩, ⟨173, w64 (wB p 48)⟩, ⟨172, w8 (sC h kk p t)⟩]⟩ [.o 63 10, .b 5, .c 64] [.o 63 13, .b 5, .c 64] (by kernel_rfl) ?_
        refine J.idxA (b := b2) (off := 0) (len := 8) (i := 5) (sz := 1) (d := 181) (by kernel_rfl) (by omega) (by omega) ?_
        refine J.ld (T := 108) (b := b2) (off := 0 + 5 * 1) (d := 182) (v := .int .u32 ((sC h kk p t) 5)) (by kernel_rfl) (fun w1 A1 m1 l1 => l1.ldc (i := 2) rfl (by kernel_rfl) (w8_at (by omega))) ?_
        refine J.idxA (b := b2) (off := 0) (len := 8) (i := 6) (sz := 1) (d := 183) (by kernel_rfl) (by omega) (by omega) ?_
        refine J.ld (T := 108) (b := b2) (off := 0 + 6 * 1) (d := 184) (v := .int .u32 ((sC h kk p t) 6)) (by kernel_rfl) (fun w1 A1 m1 l1 => l1.ldc (i := 2) rfl (by kernel_rfl) (w8_at (by omega))) ?_
        refine J.run [.u, .u, .n, .n, .n, .u, .u, .n] [0, 4, 11, 104] ⟨[(0, .loc 0 0), (4, .loc 1 0), (11, .loc 2 0), (104, .v (.int .i64 (IntKind.i64.wrap (((t : Nat) : Int) + 1))))], [⟨177, hcells h kk p held size⟩, ⟨173, w64 (wB p 48)⟩, ⟨172, [.int .u32 (IntKind.u32.wrap ((IntKind.u32.wrap ((IntKind.u32.wrap ((IntKind.u32.wrap ((IntKind.u32.wrap (((sC h kk p t) 7) + (bXor .u32 (bXor .u32 (rotF ((sC h kk p t) 4) (rotS (-6))) (rotF ((sC h kk p t) 4) (rotS (-11)))) (rotF ((sC h kk p t) 4) (rotS (-25)))))) + (bXor .u32 (bAnd .u32 ((sC h kk p t) 4) ((sC h kk p t) 5)) (bAnd .u32 (bXor .u32 4294967295 ((sC h kk p t) 4)) ((sC h kk p t) 6))))) + (kk t))) + ((wB p 48) t))) + (IntKind.u32.wrap ((bXor .u32 (bXor .u32 (rotF ((sC h kk p t) 0) (rotS (-2))) (rotF ((sC h kk p t) 0) (rotS (-13)))) (rotF ((sC h kk p t) 0) (rotS (-22)))) + (bXor .u32 (bXor .u32 (bAnd .u32 ((sC h kk p t) 0) ((sC h kk p t) 1)) (bAnd .u32 ((sC h kk p t) 0) ((sC h kk p t) 2))) (bAnd .u32 ((sC h kk p t) 1) ((sC h kk p t) 2))))))), .int .u32 ((sC h kk p t) 0), .int .u32 ((sC h kk p t) 1), .int .u32 ((sC h kk p t) 2), .int .u32 (IntKind.u32.wrap (((sC h kk p t) 3) + (IntKind.u32.wrap ((IntKind.u32.wrap ((IntKind.u32.wrap ((IntKind.u32.wrap (((sC h kk p t) 7) + (bXor .u32 (bXor .u32 (rotF ((sC h kk p t) 4) (rotS (-6))) (rotF ((sC h kk p t) 4) (rotS (-11)))) (rotF ((sC h kk p t) 4) (rotS (-25)))))) + (bXor .u32 (bAnd .u32 ((sC h kk p t) 4) ((sC h kk p t) 5)) (bAnd .u32 (bXor .u32 4294967295 ((sC h kk p t) 4)) ((sC h kk p t) 6))))) + (kk t))) + ((wB p 48) t))))), .int .u32 ((sC h kk p t) 4), .int .u32 ((sC h kk p t) 5), .int .u32 ((sC h kk p t) 6)]⟩]⟩ [.o 63 17, .b 5, .c 64] [] (by kernel_rfl) ?_
        have hw8 : IntKind.i64.wrap (((t : Nat) : Int) + 1) = ((t + 1 : Nat) : Int) := by rw [wrap_i64 (by omega) (by omega)]; try omega
        rw [hw8]
        refine J.sameM (m' := [⟨177, hcells h kk p held size⟩, ⟨173, w64 (wB p 48)⟩, ⟨172, w8 (sC h kk p (t + 1))⟩]) (by kernel_rfl) ?_
        exact J.again (t + 1) [0, 4, 11, 104] 3 (by omega) (by kernel_rfl) (by kernel_rfl) (fun w1 A1 m1 => (by omega))
      · try simp only [nrm] at hc
        have hc3 := hc
        have he : t = 64 := by omega
        subst he
        refine J.exit (id := 4) (by kernel_rfl) (by rfl) ?_
        refine J.run [.n, .n, .u, .n, .n] [0, 11, 187] ⟨[(0, .loc 0 0), (11, .loc 2 0), (187, .v (.int .i64 0))], [⟨177, hcells h kk p held size⟩, ⟨173, w64 (wB p 48)⟩, ⟨172, w8 (sC h kk p 64)⟩]⟩ [.c 65] [.c 68, .b 6] (by kernel_rfl) ?_
        refine J.sameM (m' := [⟨177, hcells (hD h kk p 0) kk p held size⟩, ⟨173, w64 (wB p 48)⟩, ⟨172, w8 (sC h kk p 64)⟩]) (by kernel_rfl) ?_
        refine J.loop (X := Nat) (fun i => ⟨[(0, .loc 0 0), (11, .loc 2 0), (187, .v (.int .i64 ((i : Nat) : Int)))], [⟨177, hcells (hD h kk p i) kk p held size⟩, ⟨173, w64 (wB p 48)⟩, ⟨172, w8 (sC h kk p 64)⟩]⟩) (fun i A w => i ≤ 8) (fun i => 8 - i) [0, 11, 187] 3 [b, b1, b2] 0 (by kernel_rfl) (by kernel_rfl) (by kernel_rfl) (fun w1 A1 m1 => Nat.zero_le _) (fun i A20 w20 hI => ?_)
        refine J.run [.n, .n, .u, .n, .n] [0, 11, 187, 188] ⟨[(0, .loc 0 0), (11, .loc 2 0), (187, .v (.int .i64 ((i : Nat) : Int))), (188, .v (.bool (decide (((i : Nat) : Int) < 8))))], [⟨177, hcells (hD h kk p i) kk p held size⟩, ⟨173, w64 (wB p 48)⟩, ⟨172, w8 (sC h kk p 64)⟩]⟩ [.c 69] [.c 72, .c 75] (by kernel_rfl) ?_
        refine J.cond (b := (decide (((i : Nat) : Int) < 8))) (k' := 74) (by kernel_rfl) (fun hc => ?_) (fun hc => ?_)
        · try simp only [nrm] at hc
          have hc4 := hc
          refine J.run [.n, .n, .n, .n, .n, .u, .u, .n] [0, 11, 17, 187] ⟨[(0, .loc 0 0), (11, .loc 2 0), (17, .v (.int .i64 ((i : Nat) : Int))), (187, .v (.int .i64 ((i : Nat) : Int)))], [⟨177, hcells (hD h kk p i) kk p held size⟩, ⟨173, w64 (wB p 48)⟩, ⟨172, w8 (sC h kk p 64)⟩]⟩ [.c 73, .c 75] [.c 79, .b 7, .c 80] (by kernel_rfl) ?_
          refine J.draw [0] nobody (by kernel_rfl) (by kernel_rfl) (fun _ h => h.elim) (fun w21 A21 m17 hr7 hX7 => ?_)
          refine J.take0 [(0, .u), (1, .u), (2, .u), (3, .u), (6, .u), (10, .u), (11, .u)] [0, 11, 187, 191, 193, 196, 201] [(0, .loc 0 0), (11, .loc 2 0), (187, .v (.int .i64 ((i : Nat) : Int))), (191, .v (.int .i64 ((i : Nat) : Int))), (193, .loc 0 0), (196, .v (.int .i64 ((i : Nat) : Int))), (201, .loc 0 0)] [11, 10, 6, 3, 2, 1, 0] (calm_body _ _ _) (by intro k _ h; exact h) hr7 (by kernel_rfl) ?_
          refine J.idxAp (j := 4) (b := b) (off := 0) (len := 8) (i := ((i : Nat) : Int)) (sz := 1) (d := 194) (calm_body _ _ _) (by kernel_rfl) (by kernel_rfl) (by omega) (by omega) ?_
          refine J.idxAp (j := 7) (b := b2) (off := 0) (len := 8) (i := ((i : Nat) : Int)) (sz := 1) (d := 197) (calm_body _ _ _) (by kernel_rfl) (by kernel_rfl) (by omega) (by omega) ?_
          refine J.ldlp (j := 8) (T := 108) (b := b2) (off := 0 + i * 1) (d := 198) (v := .int .u32 ((sC h kk p 64) i)) 2 (calm_body _ _ _) (by kernel_rfl) (by kernel_rfl) (by intro k _ h; exact h) hr7 rfl rfl rfl (by kernel_rfl) (w8_at (by omega)) ?_
          refine J.pick1 5 (by kernel_rfl) (by kernel_rfl) ?_
          refine J.ldq (T := 108) (b := b) (off := 0 + i * 1) (d := 195) (v := .int .u32 ((hD h kk p i) i)) (by kernel_rfl) (fun w1 A1 m1 l1 => l1.ldc (i := 0) rfl (by kernel_rfl) (hcells_h (by omega))) ?_
          refine J.take0 [(9, .u)] [0, 11, 187, 191, 199, 201] [(0, .loc 0 0), (11, .loc 2 0), (187, .v (.int .i64 ((i : Nat) : Int))), (191, .v (.int .i64 ((i : Nat) : Int))), (199, .v (.int .u32 (IntKind.u32.wrap (((hD h kk p i) i) + ((sC h kk p 64) i))))), (201, .loc 0 0)] [9, 5, 8, 7, 4, 11, 10, 6, 3, 2, 1, 0] (calm_body _ _ _) (by intro k _ h; exact h) hr7 (by kernel_rfl) ?_
          refine J.idxAp (j := 12) (b := b) (off := 0) (len := 8) (i := ((i : Nat) : Int)) (sz := 1) (d := 202) (calm_body _ _ _) (by kernel_rfl) (by kernel_rfl) (by omega) (by omega) ?_
          refine J.pick1 13 (by kernel_rfl) (by kernel_rfl) ?_
          refine J.stxq (t := 108) (b := b) (off := 0 + i * 1) (v := .int .u32 (IntKind.u32.wrap (((hD h kk p i) i) + ((sC h kk p 64) i)))) 0 (by kernel_rfl) rfl rfl (by kernel_rfl) rfl rfl (by simp [hcells_len]; omega) (.inl (.inr ⟨0, by simp, by simp, rfl⟩)) ?_
          refine J.sameM (m' := [⟨177, (hcells (hD h kk p i) kk p held size).set (0 + i * 1) (.int .u32 (IntKind.u32.wrap (((hD h kk p i) i) + ((sC h kk p 64) i))))⟩, ⟨173, w64 (wB p 48)⟩, ⟨172, w8 (sC h kk p 64)⟩]) (by kernel_rfl) ?_
          rw [hcells_seth (by omega)]
          refine J.pdone (by kernel_rfl) ?_
          refine J.run [.n, .n, .u, .u, .n] [0, 11, 187] ⟨[(0, .loc 0 0), (11, .loc 2 0), (187, .v (.int .i64 (IntKind.i64.wrap (((i : Nat) : Int) + 1))))], [⟨177, hcells (upd (hD h kk p i) i (IntKind.u32.wrap (((hD h kk p i) i) + ((sC h kk p 64) i)))) kk p held size⟩, ⟨173, w64 (wB p 48)⟩, ⟨172, w8 (sC h kk p 64)⟩]⟩ [.b 7, .c 80] [] (by kernel_rfl) ?_
          have hw9 : IntKind.i64.wrap (((i : Nat) : Int) + 1) = ((i + 1 : Nat) : Int) := by rw [wrap_i64 (by omega) (by omega)]; try omega
          rw [hw9]
          exact J.again (i + 1) [0, 11, 187] 3 (by omega) (by kernel_rfl) (by kernel_rfl) (fun w1 A1 m1 => (by omega))
        · try simp only [nrm] at hc
          have hc4 := hc
          have he : i = 8 := by omega
          subst he
          refine J.exit (id := 6) (by kernel_rfl) (by rfl) ?_
          refine J.end_ (v := .tuple #[]) (by kernel_rfl) (fun w1 A1 m1 hac l1 => ⟨_, l1.row (i := 0) rfl, rfl⟩)
end Go.Proofs.Ytkgokehkobifkaa.J
