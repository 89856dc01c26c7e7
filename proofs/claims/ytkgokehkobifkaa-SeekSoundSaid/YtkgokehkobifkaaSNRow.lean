/- For any entries, bits, key and point, the law SeekSound returns true, and its arguments read behind the call as they read before; no condition. -/
import Derived.Test.YtkgokehkobifkaaRows
import Derived.Test.YtkgokehkobifkaaSN6
namespace Go.Proofs.Ytkgokehkobifkaa.seekSound
open Go.ChangeShapes Go.WideShapes Go.ChangeAt Go.RowKit
open Go.ChangeMaps (open_string shut_string)
theorem own : ownKnob Try.prog.godebug = none := by kernel_rfl
theorem laidOut : laidOutB Try.prog = true := by kernel_rfl
set_option maxRecDepth 100000 in
theorem lifted (os : Os) (started : os.Started) (H : Type) (enc : TypeId × Value → H) :
    ReturnsInHanded {} Try.checked os 3 .any (Rows.seekSoundSpec.pre6 enc Try.prog Try.f3 Rows.seekSoundRow.domain false) (Rows.seekSoundSpec.post enc Try.prog Try.f3 false true false false) := by
  refine returnsInHanded_of_change_sized (C := Try.checked) own started (by kernel_rfl) Try.func3
    (ChangeSpec.witness6 (enc := enc) (C := Try.checked) false ⟨#[], #[.slice none 0 0, .int .i64 0, .string ByteArray.empty, .agg #[.bool false, .int .i64 0, .slice none 0 0, .slice none 0 0, .int .i64 0, .slice none 0 0, .slice none 0 0]], []⟩ 8 (by kernel_rfl) (by kernel_rfl) (by kernel_rfl) (by kernel_rfl)) ?_
  intro W base args ds gs before hval0 hW hcnd hsz0 _
  have hval : ∀ (j : Nat) t v, Try.f3.params[j]? = some t → args[j]? = some v → Value.okWide Try.prog W .any base t v := hval0
  have hW' := hW
  obtain ⟨p, q, hA0, hV, rfl, hfz, hnd⟩ := hW
  have hA : DataW.TrodAll enc Try.prog W 0 (fun _ => true) true Try.f3.params.toList args.toList ds p := hA0
  rw [Try.params3] at hA hval
  obtain ⟨v0, vs0, d0, ds0, p0, q0, hargs, rfl, rfl, h0, r0⟩ := trodAll_cons hA
  obtain ⟨v1, vs1, d1, ds1, p1, q1, rfl, rfl, rfl, h1, r1⟩ := trodAll_cons r0
  obtain ⟨v2, vs2, d2, ds2, p2, q2, rfl, rfl, rfl, h2, r2⟩ := trodAll_cons r1
  obtain ⟨v3, vs3, d3, ds3, p3, q3, rfl, rfl, rfl, h3, r3⟩ := trodAll_cons r2
  obtain ⟨rfl, rfl, rfl⟩ := trodAll_nil r3
  obtain rfl : args = #[v0, v1, v2, v3] := by cases args; simp_all
  obtain ⟨rfl, rfl⟩ := trodVars_none hV
  have k0 := h0
  have lt0 : ∀ x ∈ p0, x.block < W.heap.size := by obtain ⟨m, hm⟩ := k0; exact DataW.trod_lt m _ _ _ hm
  obtain ⟨a0, n0, c0, rfl⟩ := okWide_slice Try.underlying22 (hval 0 22 v0 rfl rfl)
  obtain ⟨l0, s0⟩ : ∃ l, J.Sl 4 J.encE J.nobody W a0 n0 c0 l := by
    obtain ⟨fuel, hf⟩ := h0
    obtain ⟨a, n, c, l, e, hs⟩ := J.rd_ents hf
    simp [Value.cells] at e
    obtain ⟨rfl, rfl, rfl⟩ := e
    exact ⟨l, hs⟩
  have k1 := h1
  have lt1 : ∀ x ∈ p1, x.block < W.heap.size := by obtain ⟨m, hm⟩ := k1; exact DataW.trod_lt m _ _ _ hm
  obtain ⟨i1, rfl, rfl, rfl, w1⟩ := open_int Try.underlying3 (hval 1 3 v1 rfl rfl) h1
  have k2 := h2
  have lt2 : ∀ x ∈ p2, x.block < W.heap.size := by obtain ⟨m, hm⟩ := k2; exact DataW.trod_lt m _ _ _ hm
  obtain ⟨t2, rfl, rfl, rfl, y2⟩ := open_string Try.underlying9 (hval 2 9 v2 rfl rfl) h2
  have k3 := h3
  have lt3 : ∀ x ∈ p3, x.block < W.heap.size := by obtain ⟨m, hm⟩ := k3; exact DataW.trod_lt m _ _ _ hm
  obtain ⟨cs3, rfl, z3⟩ := okWide_struct Try.underlying28 (hval 3 28 v3 rfl rfl)
  obtain ⟨fl3, hf3⟩ := h3
  obtain ⟨bt3, oa3, ob3, la3, ln3, lc3, pa3, pn3, pc3, ma3, mn3, mc3, qa3, qn3, qc3, e3, sa3, sb3, sc3, sd3⟩ := J.rd_point hf3
  obtain rfl : cs3 = ([.bool bt3, .int .i64 oa3.t, .slice la3 ln3 lc3, .slice pa3 pn3 pc3, .int .i64 ob3.t, .slice ma3 mn3 mc3, .slice qa3 qn3 qc3] : List Value).toArray := by simpa [Value.cells] using congrArg List.toArray e3
  clear hA0 hval0 hsz0
  refine (J.seekSound_calls a0 n0 c0 l0 i1 t2 bt3 oa3 ob3 la3 ln3 lc3 pa3 pn3 pc3 ma3 mn3 mc3 qa3 qn3 qc3 J.nobody W J.noA s0 sa3 sb3 sc3 sd3).mono fun e W' he => ?_
  obtain ⟨v, rfl, rfl, hsn⟩ := he
  have bel : Below W.heap.size W W' := ⟨hsn.os, hsn.tape, hsn.output, hsn.size, fun k hk => hsn.same k hk (fun h => h)⟩
  exact ⟨_, rfl, _, _, _, [], _, [], hW', trodAll_mk1 (shut_bool Try.underlying4 _), (trodAll_cons_mk (Below.trod laidOut (by kernel_rfl) (of_decide_eq_true (by kernel_rfl)) k0 bel lt0) (trodAll_cons_mk (Below.trod laidOut (by kernel_rfl) (of_decide_eq_true (by kernel_rfl)) k1 bel lt1) (trodAll_cons_mk (Below.trod laidOut (by kernel_rfl) (of_decide_eq_true (by kernel_rfl)) k2 bel lt2) (trodAll_cons_mk (Below.trod laidOut (by kernel_rfl) (of_decide_eq_true (by kernel_rfl)) k3 bel lt3) trodAll_mk0)))), rfl, bel.frame _, fun h => by cases h⟩
theorem over : Rows.seekSoundRow.holds Try.pinned (OpenSpec.ofChange Rows.seekSoundSpec) :=
  OpenClaim.holds_of_wide 3 Try.f3 rfl rfl rfl rfl rfl rfl rfl ⟨rfl, rfl, rfl, rfl, rfl⟩ rfl rfl rfl rfl rfl (by kernel_rfl) Try.func3 (by kernel_rfl)
    (of_decide_eq_true (by kernel_rfl)) (by unfold Func.isWrapper; first | (rw [if_pos (by decide +kernel)]; kernel_rfl) | (rw [if_neg (by decide +kernel)]; exact ⟨rfl, rfl⟩))
    (fun os started H enc _ => lifted os started H enc)
theorem proved : Rows.SeekSoundSaid := over
#print axioms proved
end Go.Proofs.Ytkgokehkobifkaa.seekSound
namespace Go.Proofs.Ytkgokehkobifkaa
/-- The row, under a short name, for the claim. -/
theorem seekSound_holds : Rows.SeekSoundSaid := seekSound.proved
end Go.Proofs.Ytkgokehkobifkaa
