/- The law is true whatever its arguments are, and these read behind the call as they read before (the row R8: what it needs beyond the files A; No conditions). -/
import Derived.Test.YtacenhlcfeepgaaGreatCR8a
set_option linter.unusedVariables false
set_option linter.unusedSimpArgs false
set_option linter.unusedSectionVars false
set_option maxHeartbeats 4000000
set_option maxRecDepth 100000
namespace Go.Proofs.YtacenhlcfeepgaaGreat
open Go Eng
theorem roots_lifted (os : Os) (started : os.Started) (H : Type) (enc : TypeId × Value → H) :
  ReturnsInHanded {} Tryz.checked os 9 .any (Rows.qpolyRootsSpec.pre6 enc Tryz.prog Tryz.f9 [] false) (Rows.qpolyRootsSpec.post enc Tryz.prog Tryz.f9 false true false false) := by
 refine row_lifted (C := Tryz.checked) (tb := tb) (tbool := 4) own1 started (by kernel_rfl) Tryz.func9 rfl rfl
  (ChangeSpec.witness6 (enc := enc) (C := Tryz.checked) false ⟨#[], #[.slice none 0 0, .agg #[.bool false, .slice none 0 0, .bool false, .slice none 0 0]], []⟩ 8 (by kernel_rfl) (by kernel_rfl) (by kernel_rfl) (by kernel_rfl))
  kids1 full1 (by decide +kernel) rfl ul4 rfl ?_ ?_
 ·intro ds h
  match ds, h with
  | [d1, d2], _ => exact ⟨rfl, rfl, rfl⟩
 ·intro W base vs ds p hok hA hw
  obtain ⟨trs, hr, x1, l1, rfl, ⟨r1, rfl, k1⟩, x2, l2, rfl, ⟨r2, rfl, k2, j2⟩, rfl⟩ :=
   readsAll_cons readsV_L (readsAll_cons readsV_Q readsAll_nil) W base vs ds p hok hA hw
  exact ⟨_, hr, law_Roots r1 r2 k1 k2 j2⟩
theorem QpolyRoots_holds : Rows.QpolyRootsSaid :=
 OpenClaim.holds_of_wide 9 Tryz.f9 rfl rfl rfl rfl rfl rfl rfl ⟨rfl, rfl, rfl, rfl, rfl⟩ rfl rfl rfl rfl rfl (by kernel_rfl) Tryz.func9 (by kernel_rfl)
  (of_decide_eq_true (by kernel_rfl)) (by unfold Func.isWrapper; (rw [if_neg (by decide +kernel)]; exact ⟨rfl, rfl⟩))
  (fun os started H enc _ => roots_lifted os started H enc)
end Go.Proofs.YtacenhlcfeepgaaGreat
