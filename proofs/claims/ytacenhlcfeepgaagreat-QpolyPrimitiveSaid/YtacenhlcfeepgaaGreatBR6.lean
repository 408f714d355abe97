/- The law is true whatever its arguments are, and these read behind the call as they read before (the row R6: what it needs beyond the files A; No conditions). -/
import Derived.Test.YtacenhlcfeepgaaGreatCR6a
set_option linter.unusedVariables false
set_option linter.unusedSimpArgs false
set_option linter.unusedSectionVars false
set_option maxHeartbeats 4000000
set_option maxRecDepth 100000
namespace Go.Proofs.YtacenhlcfeepgaaGreat
open Go Eng
theorem primitive_lifted (os : Os) (started : os.Started) (H : Type) (enc : TypeId × Value → H) :
  ReturnsInHanded {} Tryz.checked os 8 .any (Rows.qpolyPrimitiveSpec.pre6 enc Tryz.prog Tryz.f8 [] false) (Rows.qpolyPrimitiveSpec.post enc Tryz.prog Tryz.f8 false true false false) := by
 refine row_lifted (C := Tryz.checked) (tb := tb) (tbool := 4) own1 started (by kernel_rfl) Tryz.func8 rfl rfl
  (ChangeSpec.witness6 (enc := enc) (C := Tryz.checked) false ⟨#[], #[.slice none 0 0], []⟩ 8 (by kernel_rfl) (by kernel_rfl) (by kernel_rfl) (by kernel_rfl))
  kids1 full1 (by decide +kernel) rfl ul4 rfl ?_ ?_
 ·intro ds h
  match ds, h with
  | [d1], _ => exact ⟨rfl, rfl, rfl⟩
 ·intro W base vs ds p hok hA hw
  obtain ⟨trs, hr, x1, l1, rfl, ⟨r1, rfl, k1⟩, rfl⟩ :=
   readsAll_cons readsV_L readsAll_nil W base vs ds p hok hA hw
  exact ⟨_, hr, law_Primitive r1 k1⟩
theorem QpolyPrimitive_holds : Rows.QpolyPrimitiveSaid :=
 OpenClaim.holds_of_wide 8 Tryz.f8 rfl rfl rfl rfl rfl rfl rfl ⟨rfl, rfl, rfl, rfl, rfl⟩ rfl rfl rfl rfl rfl (by kernel_rfl) Tryz.func8 (by kernel_rfl)
  (of_decide_eq_true (by kernel_rfl)) (by unfold Func.isWrapper; (rw [if_neg (by decide +kernel)]; exact ⟨rfl, rfl⟩))
  (fun os started H enc _ => primitive_lifted os started H enc)
end Go.Proofs.YtacenhlcfeepgaaGreat
