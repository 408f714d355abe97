/- The law is true whatever its arguments are, and these read behind the call as they read before (the row R5: what it needs beyond the files A; No conditions). -/
import Derived.Test.YtacenhlcfeepgaaGreatCR5a
set_option linter.unusedVariables false
set_option linter.unusedSimpArgs false
set_option linter.unusedSectionVars false
set_option maxHeartbeats 4000000
set_option maxRecDepth 100000
namespace Go.Proofs.YtacenhlcfeepgaaGreat
open Go Eng
theorem ring_lifted (os : Os) (started : os.Started) (H : Type) (enc : TypeId × Value → H) :
  ReturnsInHanded {} Tryz.checked os 10 .any (Rows.qpolyRingSpec.pre6 enc Tryz.prog Tryz.f10 [] false) (Rows.qpolyRingSpec.post enc Tryz.prog Tryz.f10 false true false false) := by
 refine row_lifted (C := Tryz.checked) (tb := tb) (tbool := 4) own1 started (by kernel_rfl) Tryz.func10 rfl rfl
  (ChangeSpec.witness6 (enc := enc) (C := Tryz.checked) false ⟨#[], #[.slice none 0 0, .slice none 0 0, .slice none 0 0, .agg #[.bool false, .slice none 0 0, .bool false, .slice none 0 0]], []⟩ 8 (by kernel_rfl) (by kernel_rfl) (by kernel_rfl) (by kernel_rfl))
  kids1 full1 (by decide +kernel) rfl ul4 rfl ?_ ?_
 ·intro ds h
  match ds, h with
  | [d1, d2, d3, d4], _ => exact ⟨rfl, rfl, rfl⟩
 ·intro W base vs ds p hok hA hw
  obtain ⟨trs, hr, x1, l1, rfl, ⟨r1, rfl, k1⟩, x2, l2, rfl, ⟨r2, rfl, k2⟩, x3, l3, rfl, ⟨r3, rfl, k3⟩, x4, l4, rfl, ⟨r4, rfl, k4, j4⟩, rfl⟩ :=
   readsAll_cons readsV_L (readsAll_cons readsV_L (readsAll_cons readsV_L (readsAll_cons readsV_Q readsAll_nil))) W base vs ds p hok hA hw
  exact ⟨_, hr, law_Ring r1 r2 r3 r4 k1 k2 k3 k4 j4⟩
theorem QpolyRing_holds : Rows.QpolyRingSaid :=
 OpenClaim.holds_of_wide 10 Tryz.f10 rfl rfl rfl rfl rfl rfl rfl ⟨rfl, rfl, rfl, rfl, rfl⟩ rfl rfl rfl rfl rfl (by kernel_rfl) Tryz.func10 (by kernel_rfl)
  (of_decide_eq_true (by kernel_rfl)) (by unfold Func.isWrapper; (rw [if_neg (by decide +kernel)]; exact ⟨rfl, rfl⟩))
  (fun os started H enc _ => ring_lifted os started H enc)
end Go.Proofs.YtacenhlcfeepgaaGreat
