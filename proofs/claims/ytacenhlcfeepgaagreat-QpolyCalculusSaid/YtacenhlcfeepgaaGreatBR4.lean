/- The law is true whatever its arguments are, and these read behind the call as they read before (the row, part 9 of 9: our program logic, contracts of the functions, the law). No conditions. -/
import Derived.Test.YtacenhlcfeepgaaGreatA6
set_option linter.unusedVariables false
set_option linter.unusedSimpArgs false
set_option linter.unusedSectionVars false
set_option maxHeartbeats 4000000
set_option maxRecDepth 100000
namespace Go.Proofs.YtacenhlcfeepgaaGreat
open Go Eng
theorem calculus_lifted (os : Os) (started : os.Started) (H : Type) (enc : TypeId × Value → H) :
  ReturnsInHanded {} Tryz.checked os 5 .any (Rows.qpolyCalculusSpec.pre6 enc Tryz.prog Tryz.f5 [] false) (Rows.qpolyCalculusSpec.post enc Tryz.prog Tryz.f5 false true false false) := by
 refine row_lifted (C := Tryz.checked) (tb := tb) (tbool := 4) own1 started (by kernel_rfl) Tryz.func5 rfl rfl
  (ChangeSpec.witness6 (enc := enc) (C := Tryz.checked) false ⟨#[], #[.slice none 0 0, .slice none 0 0, .agg #[.bool false, .slice none 0 0, .bool false, .slice none 0 0], .int .i64 0], []⟩ 8 (by kernel_rfl) (by kernel_rfl) (by kernel_rfl) (by kernel_rfl))
  kids1 full1 (by decide +kernel) rfl ul4 rfl ?_ ?_
 ·intro ds h
  match ds, h with
  | [d1, d2, d3, d4], _ => exact ⟨rfl, rfl, rfl⟩
 ·intro W base vs ds p hok hA hw
  obtain ⟨trs, hr, x1, l1, rfl, ⟨r1, rfl, k1⟩, x2, l2, rfl, ⟨r2, rfl, k2⟩, x3, l3, rfl, ⟨r3, rfl, k3, k4⟩, x4, l4, rfl, ⟨z, rfl, hz⟩, rfl⟩ :=
   readsAll_cons readsV_L (readsAll_cons readsV_L (readsAll_cons readsV_Q (readsAll_cons (readsV_int ul3) readsAll_nil))) W base vs ds p hok hA hw
  have hz2 : z < 9223372036854775808 := by
   simp only [Lit.wf, Bool.and_eq_true, decide_eq_true_eq] at hz
   have h9 : z ≤ 9223372036854775807 := hz.2
   omega
  exact ⟨_, hr, law_Calculus r1 r2 r3 z k1 k2 k3 k4 hz2⟩
theorem QpolyCalculus_holds : Rows.QpolyCalculusSaid :=
 OpenClaim.holds_of_wide 5 Tryz.f5 rfl rfl rfl rfl rfl rfl rfl ⟨rfl, rfl, rfl, rfl, rfl⟩ rfl rfl rfl rfl rfl (by kernel_rfl) Tryz.func5 (by kernel_rfl)
  (of_decide_eq_true (by kernel_rfl)) (by unfold Func.isWrapper; (rw [if_neg (by decide +kernel)]; exact ⟨rfl, rfl⟩))
  (fun os started H enc _ => calculus_lifted os started H enc)
end Go.Proofs.YtacenhlcfeepgaaGreat
