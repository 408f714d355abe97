/- The law is true whatever its arguments are, and these read behind the call as they read before (the row RA: what it needs beyond the files A; No conditions). -/
import Derived.Test.YtacenhlcfeepgaaGreatCRAa
set_option linter.unusedVariables false
set_option linter.unusedSimpArgs false
set_option linter.unusedSectionVars false
set_option maxHeartbeats 4000000
set_option maxRecDepth 100000
namespace Go.Proofs.YtacenhlcfeepgaaGreat
open Go Eng
theorem resultant_lifted (os : Os) (started : os.Started) (H : Type) (enc : TypeId × Value → H) :
  ReturnsInHanded {} Tryz.checked os 6 .any (Rows.qpolyResultantSpec.pre6 enc Tryz.prog Tryz.f6 [] false) (Rows.qpolyResultantSpec.post enc Tryz.prog Tryz.f6 false true false false) := by
 refine row_lifted (C := Tryz.checked) (tb := tb) (tbool := 4) own1 started (by kernel_rfl) Tryz.func6 rfl rfl
  (ChangeSpec.witness6 (enc := enc) (C := Tryz.checked) false ⟨#[], #[.slice none 0 0, .slice none 0 0, .slice none 0 0], []⟩ 8 (by kernel_rfl) (by kernel_rfl) (by kernel_rfl) (by kernel_rfl))
  kids1 full1 (by decide +kernel) rfl ul4 rfl ?_ ?_
 ·intro ds h
  match ds, h with
  | [d1, d2, d3], _ => exact ⟨rfl, rfl, rfl⟩
 ·intro W base vs ds p hok hA hw
  obtain ⟨trs, hr, x1, l1, rfl, ⟨r1, rfl, k1⟩, x2, l2, rfl, ⟨r2, rfl, k2⟩, x3, l3, rfl, ⟨r3, rfl, k3⟩, rfl⟩ :=
   readsAll_cons readsV_L (readsAll_cons readsV_L (readsAll_cons readsV_L readsAll_nil)) W base vs ds p hok hA hw
  exact ⟨_, hr, law_Resultant r1 r2 r3 k1 k2 k3⟩
theorem QpolyResultant_holds : Rows.QpolyResultantSaid :=
 OpenClaim.holds_of_wide 6 Tryz.f6 rfl rfl rfl rfl rfl rfl rfl ⟨rfl, rfl, rfl, rfl, rfl⟩ rfl rfl rfl rfl rfl (by kernel_rfl) Tryz.func6 (by kernel_rfl)
  (of_decide_eq_true (by kernel_rfl)) (by unfold Func.isWrapper; first | (rw [if_pos (by decide +kernel)]; kernel_rfl) | (rw [if_neg (by decide +kernel)]; exact ⟨rfl, rfl⟩))
  (fun os started H enc _ => resultant_lifted os started H enc)
end Go.Proofs.YtacenhlcfeepgaaGreat
