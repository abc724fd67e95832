/-
  For every input the law lumper/lumperlaw24.CmdsCut answers true; each argument reads behind the call as it read before. No condition.
-/
import Derived.Test.YtmbjbbflhlndcaaRows
import Derived.SizedLaws
import Derived.Test.YtmbjbbflhlndcaaDoo
import Derived.Test.YtmbjbbflhlndcaaKr2
import Derived.Test.YtmbjbbflhlndcaaKw2
namespace Go.Proofs.Ytmbjbbflhlndcaa.cmdsCut
open Go.ChangeShapes Go.WideShapes Go.ChangeAt Go.RowKit
set_option linter.unusedVariables false

theorem own : ownKnob Try.prog.godebug = none := by kernel_rfl
theorem laidOut : laidOutB Try.prog = true := by kernel_rfl

set_option maxRecDepth 100000 in
theorem lifted (os : Os) (started : os.Started) (H : Type) (enc : TypeId × Value → H) :
    ReturnsInHanded {} Try.checked os 6 .any (Rows.cmdsCutSpec.pre6 enc Try.prog Try.f6 Rows.cmdsCutRow.domain false) (Rows.cmdsCutSpec.post enc Try.prog Try.f6 false true false false) := by
  refine returnsInHanded_of_change_sized (C := Try.checked) own started (by kernel_rfl) Try.func6
    (ChangeSpec.witness6 (enc := enc) (C := Try.checked) false ⟨#[], #[.slice none 0 0, .int .u16 0], []⟩ 8 (by kernel_rfl) (by kernel_rfl) (by kernel_rfl) (by kernel_rfl)) ?_
  intro W base args ds gs before hval0 hW hcnd hsz0 _
  have hsz : (DataW.weightsEach Try.prog (Try.f6.params.toList ++ Rows.cmdsCutSpec.plain.varTypes Try.prog) (ds ++ gs)).all (· ≤ reachBytes) = true := hsz0
  have hval : ∀ (j : Nat) t v, Try.f6.params[j]? = some t → args[j]? = some v → Value.okWide Try.prog W .any base t v := hval0
  have hW' := hW
  obtain ⟨p, q, hA0, hV, rfl, hfz, hnd⟩ := hW
  have hA : DataW.TrodAll enc Try.prog W 0 (fun _ => true) true Try.f6.params.toList args.toList ds p := hA0
  rw [Try.params6] at hA hval hsz
  obtain ⟨v0, vs0, d0, ds0, p0, q0, hargs, rfl, rfl, h0, r0⟩ := trodAll_cons hA
  obtain ⟨v1, vs1, d1, ds1, p1, q1, rfl, rfl, rfl, h1, r1⟩ := trodAll_cons r0
  obtain ⟨rfl, rfl, rfl⟩ := trodAll_nil r1
  obtain rfl : args = #[v0, v1] := by cases args; simp_all
  obtain ⟨rfl, rfl⟩ := trodVars_none hV
  obtain ⟨a0, len0, c0, rfl⟩ := okWide_slice Try.underlying28 (hval 0 28 v0 rfl rfl)
  have k0 := h0
  have lt0 : ∀ x ∈ p0, x.block < W.heap.size := by obtain ⟨m, hm⟩ := k0; exact DataW.trod_lt m _ _ _ hm
  obtain ⟨fu0, hf0⟩ := h0
  have z0 : len0 * 128 ≤ 140737488351232 := by
    rcases slice_datum Try.underlying28 hf0 with h | ⟨elems, spare, hd, hl⟩
    · omega
    · subst hd
      have := sized_slice hsz (j := 0) (t := 28) (e := 27) rfl rfl Try.underlying28
      rw [show Try.prog.bytesOf 27 = 128 from by kernel_rfl] at this
      simp only [reachBytes] at this
      omega
  obtain ⟨l0, rfl, m0, b0, s0⟩ := open_cmds hf0
  obtain ⟨n1, rfl, rfl, rfl, w1⟩ := open_int Try.underlying44 (hval 1 44 v1 rfl rfl) h1
  clear hA0 hval0 hsz hsz0
  refine (cut24 s0 b0 c0 m0 (by omega) n1 (bounds_u16 w1)).mono fun e W' ⟨he, bel0⟩ => ?_
  have bel : Below W.heap.size W W' := bel0
  subst he
  exact ⟨_, rfl, _, _, _, [], _, [], hW', trodAll_mk1 (shut_bool Try.underlying4 _), (trodAll_cons_mk (Below.trod laidOut (by kernel_rfl) (of_decide_eq_true (by kernel_rfl)) k0 bel lt0) (trodAll_cons_mk (shut_int Try.underlying44 w1) trodAll_mk0)), rfl, bel.frame _, fun h => by cases h⟩

theorem closed : joinedFacts Try.prog 6 Try.f6 Rows.cmdsCutSpec Rows.cmdsCutRow = true := by
  unfold joinedFacts
  rw [mayEnter, liftsFinal, make]
  kernel_rfl

theorem over : Rows.cmdsCutRow.holds Try.pinned (OpenSpec.ofChange Rows.cmdsCutSpec) :=
  OpenClaim.holds_of_wide 6 Try.f6 rfl rfl rfl rfl rfl rfl rfl ⟨rfl, rfl, rfl, rfl, rfl⟩ rfl rfl rfl rfl rfl (by kernel_rfl) Try.func6 closed
    (of_decide_eq_true (by kernel_rfl)) (by unfold Func.isWrapper; first | (rw [if_pos (by decide +kernel)]; kernel_rfl) | (rw [if_neg (by decide +kernel)]; exact ⟨rfl, rfl⟩))
    (fun os started H enc _ => lifted os started H enc)

theorem proved : Rows.CmdsCutSaid := over
end Go.Proofs.Ytmbjbbflhlndcaa.cmdsCut
