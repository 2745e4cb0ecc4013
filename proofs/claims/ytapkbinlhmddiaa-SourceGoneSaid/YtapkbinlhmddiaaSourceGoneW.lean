/-
  SourceGone: for every input the law returns true, and the input reads behind the call as it read before. No condition.
-/
import Derived.Test.YtapkbinlhmddiaaSrc7G
import Derived.Test.YtapkbinlhmddiaaWrapT
import Derived.Test.YtapkbinlhmddiaaWrap
set_option linter.unusedVariables false
set_option linter.unusedSimpArgs false
namespace Go.Proofs.Ytapkbinlhmddiaa
open Go.Joins Go.ChangeShapes Go.WideShapes Go.ChangeAt Go.RowKit Go.Inq

set_option maxRecDepth 100000 in
theorem sourceGone_lifted (os : Os) (started : os.Started) (H : Type) (enc : TypeId × Value → H) :
    ReturnsInHanded {} Try.checked os 6 .any (Rows.sourceGoneSpec.pre6 enc Try.prog Try.f6 Rows.sourceGoneRow.domain false) (Rows.sourceGoneSpec.post enc Try.prog Try.f6 false true false false) := by
  refine returnsInHanded_of_change (C := Try.checked) own started (by kernel_rfl) Try.func6
    (ChangeSpec.witness6 (enc := enc) (C := Try.checked) false ⟨#[], #[.slice none 0 0, .int .i64 0], []⟩ 8 (by kernel_rfl) (by kernel_rfl) (by kernel_rfl) (by kernel_rfl)) ?_
  intro W base args ds gs before hval0 hW hcnd _
  have hval : ∀ (j : Nat) t v, Try.f6.params[j]? = some t → args[j]? = some v → Value.okWide Try.prog W .any base t v := hval0
  have hW' := hW
  obtain ⟨p, q, hA0, hV, rfl, hfz, hnd⟩ := hW
  have hlt : ∀ x ∈ p ++ q, x.block < W.heap.size := fun x hx => hW'.lt x hx
  have hA : DataW.TrodAll enc Try.prog W 0 (fun _ => true) true Try.f6.params.toList args.toList ds p := hA0
  rw [Try.params6] at hA hval
  obtain ⟨v0, v1, d0, d1, p0, p1, rfl, rfl, rfl, h0, h1⟩ := trodAll_two hA
  obtain ⟨rfl, rfl⟩ := trodVars_none hV
  obtain ⟨a0, len0, cap0, rfl⟩ := okWide_slice Try.underlying22 (hval 0 22 v0 rfl rfl)
  obtain ⟨n0, t0⟩ := h0
  obtain ⟨A, c, l0, hv, hl0, hn0⟩ := open_txs t0
  injection hv with e1 e2 e3
  subst e1 e2 e3
  obtain ⟨x1, rfl⟩ := okWide_int Try.underlying3 (hval 1 3 v1 rfl rfl)
  refine (gone7_any a0 cap0 l0 x1 W hl0 hn0).mono fun e W2 he => ?_
  obtain ⟨he, hb⟩ := he
  subst he
  exact ⟨_, rfl, [d0, d1], [], (p0 ++ p1) ++ [], [], (p0 ++ p1), [], hW', trodAll_mk1 (shut_bool Try.underlying4 true), Below.trodAll hb (by kernel_rfl) hA (fun x hx => hlt x (List.mem_append.2 (.inl hx))), rfl, hb.frame _, fun h => by cases h⟩

theorem sourceGone_holds : Rows.SourceGoneSaid :=
  OpenClaim.holds_of_wide 6 Try.f6 rfl rfl rfl rfl rfl rfl rfl ⟨rfl, rfl, rfl, rfl, rfl⟩ rfl rfl rfl rfl rfl (by kernel_rfl) Try.func6 (by kernel_rfl)
    (of_decide_eq_true (by kernel_rfl)) (by unfold Func.isWrapper; first | (rw [if_pos (by decide +kernel)]; kernel_rfl) | (rw [if_neg (by decide +kernel)]; exact ⟨rfl, rfl⟩))
    (fun os started H enc _ => sourceGone_lifted os started H enc)
#print axioms sourceGone_holds
end Go.Proofs.Ytapkbinlhmddiaa
