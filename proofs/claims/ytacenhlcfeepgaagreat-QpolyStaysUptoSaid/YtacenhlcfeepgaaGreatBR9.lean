/- The law is true for all arguments of bulk at most 1048576 (the given statement says so), and these read behind the call as they read before (the row R9: what it needs beyond the files A; conditions: none but the statement's own). -/
import Derived.Test.YtacenhlcfeepgaaGreatCR9a
set_option linter.unusedVariables false
set_option linter.unusedSimpArgs false
set_option linter.unusedSectionVars false
set_option maxHeartbeats 4000000
set_option maxRecDepth 100000
namespace Go.Proofs.YtacenhlcfeepgaaGreat
open Go Eng
theorem bulk_one {H : Type} (d : DataW H) : 1 ≤ Rows.uptoBulk d := by
 cases d with
 | lit l => cases l <;> simp [Rows.uptoBulk]
 | nil => simp [Rows.uptoBulk]
 | ptr d => simp [Rows.uptoBulk]
 | slice elems spare => simp [Rows.uptoBulk]
 | agg parts => simp [Rows.uptoBulk]
 | iface t d => simp [Rows.uptoBulk]
 | map entries => simp [Rows.uptoBulk]
 | held h => simp [Rows.uptoBulk]
theorem bulk_len {H : Type} (l : List (DataW H)) : l.length ≤ Rows.uptoBulkAll l := by
 induction l with
 | nil => simp [Rows.uptoBulkAll]
 | cons x r ih => have := bulk_one x; simp only [Rows.uptoBulkAll, List.length_cons]; omega
theorem bulk_slice {H : Type} (elems spare : List (DataW H)) : elems.length + 1 ≤ Rows.uptoBulk (.slice elems spare) := by
 have h1 := bulk_len elems
 simp only [Rows.uptoBulk]
 omega
section
variable {H : Type} {enc : TypeId × Value → H}
def ReadsD (H : Type) (enc : TypeId × Value → H) (P : Program) (tb : Tab) (t : TypeId) (Φ : DataW H → Tr → Prop) : Prop :=
 ∀ (w : World) (base : Nat) (v : Value) (d : DataW H) (ps : List MemPlace), Value.okWide P w .any base t v → DataW.Trod enc P w 0 (fun _ => true) true t v d ps → WOk P t d → ∃ x, RepT tb w (Old w) v x ∧ Φ d x
theorem readsD_of {P : Program} {tb : Tab} {t : TypeId} {Φ : Tr → Prop} (h : ReadsV H enc P tb t Φ) : ReadsD H enc P tb t (fun _ x => Φ x) := fun w base v d ps h1 h2 h3 => h w base v d ps h1 h2 h3
theorem rep_slice_len {tb : Tab} {w : World} {S : Nat → Prop} {a : Option Addr} {len cap : Nat} {e : TypeId} {l : List Tr} (h : RepT tb w S (.slice a len cap) (.sl e l)) : l.length = len := by
 cases h with
 | emp => rfl
 | sl b o n c e l h1 => exact h1
theorem readsD_len {P : Program} {tb : Tab} {t e : TypeId} {Φ : Tr → Prop} (ht : P.underlying t = some (.slice e)) (h : ReadsV H enc P tb t Φ) : ReadsD H enc P tb t (fun d x => Φ x ∧ ∀ e l, x = .sl e l → l.length ≤ Rows.uptoBulk d) := by
 intro w base v d ps h1 h2 h3
 obtain ⟨x, h4, h5⟩ := h w base v d ps h1 h2 h3
 refine ⟨x, h4, h5, fun e' l hx => ?_⟩
 subst hx
 obtain ⟨a, len, cap, rfl⟩ := Go.WideShapes.okWide_slice ht h1
 have hl := rep_slice_len h4
 obtain ⟨n, hd⟩ := h2
 rcases DataW.trod_slice ht hd with ⟨h6, h7⟩ | ⟨a, len', cap', elems, rest, m, _, h6, h7, _, _, _, h8, _⟩
 ·injection h6 with h6 _; injection h6 with _ h6 _
  subst h6; rw [hl]; exact Nat.zero_le _
 ·injection h6 with h6 _; injection h6 with _ h6 _
  injection h7 with h7 _
  subst h6; subst h7
  have := bulk_slice (elems.map (·.1)) (rest.map (·.1))
  rw [List.length_map] at this
  omega
theorem readsAllD_cons {P : Program} {tb : Tab} {t : TypeId} {ts : List TypeId} {Φ : DataW H → Tr → Prop} {Ψ : List (DataW H) → List Tr → Prop} (h : ReadsD H enc P tb t Φ)
  (k : ∀ (W : World) (base : Nat) (vs : List Value) (ds : List (DataW H)) (p : List MemPlace), (∀ (j : Nat) t v, ts[j]? = some t → vs[j]? = some v → Value.okWide P W .any base t v) → DataW.TrodAll enc P W 0 (fun _ => true) true ts vs ds p → (∀ n ∈ DataW.weightsEach P ts ds, n ≤ reachBytes) → ∃ trs, RepL tb W (Old W) vs trs ∧ Ψ ds trs) :
  ∀ (W : World) (base : Nat) (vs : List Value) (ds : List (DataW H)) (p : List MemPlace), (∀ (j : Nat) t' v, (t :: ts)[j]? = some t' → vs[j]? = some v → Value.okWide P W .any base t' v) → DataW.TrodAll enc P W 0 (fun _ => true) true (t :: ts) vs ds p → (∀ n ∈ DataW.weightsEach P (t :: ts) ds, n ≤ reachBytes) →
   ∃ trs, RepL tb W (Old W) vs trs ∧ ∃ d ds' x l, ds = d :: ds' ∧ trs = x :: l ∧ Φ d x ∧ Ψ ds' l := by
 intro W base vs ds p hok hA hw
 match vs, ds, hA with
 | v :: vs, d :: ds, ⟨p1, q, h1, h2, _⟩ =>
  rw [weightsEach_cons] at hw
  obtain ⟨x, r1, r2⟩ := h W base v d p1 (hok 0 t v rfl rfl) h1 fun n hn => hw n (List.mem_append_left _ hn)
  obtain ⟨trs, r3, r4⟩ := k W base vs ds q (fun j t' v' hj hv => hok (j + 1) t' v' (by simpa using hj) (by simpa using hv)) h2 fun n hn => hw n (List.mem_append_right _ hn)
  exact ⟨x :: trs, .cons _ _ _ _ r1 r3, d, ds, x, trs, rfl, rfl, r2, r4⟩
theorem readsAllD_nil {P : Program} {tb : Tab} : ∀ (W : World) (base : Nat) (vs : List Value) (ds : List (DataW H)) (p : List MemPlace), (∀ (j : Nat) t' v, ([] : List TypeId)[j]? = some t' → vs[j]? = some v → Value.okWide P W .any base t' v) → DataW.TrodAll enc P W 0 (fun _ => true) true [] vs ds p → (∀ n ∈ DataW.weightsEach P [] ds, n ≤ reachBytes) →
      ∃ trs, RepL tb W (Old W) vs trs ∧ (ds = [] ∧ trs = []) := by
  intro W base vs ds p _ hA _
  match vs, ds, hA with
  | [], [], _ => exact ⟨[], .nil, rfl, rfl⟩
theorem row_upto {a : Assume} {C : Checked} {tb : Tab} {os : Os} {f : FuncId} {fn : Func} {s : ChangeSpec} {conds : List PathCond} {fresh handsOn again : Bool} {F : Stop.Interp} {tbool : TypeId} {c : Code}
  (own : ownKnob C.prog.godebug = none) (started : os.Started) (noInit : C.prog.inits.idxOf? f = none) (hfn : C.prog.funcs[f]? = some fn) (hbody : fn.body = some c) (hname : (fn.name == "runtime.NumGoroutine") = false)
  (witness : ∃ (w : World) (tape : Tape) (i : Input), w.os = os ∧ (w.forCall tape i).Shaped C.prog ∧ i.vars = [] ∧ Input.okWide C.prog (w.forCall tape i) .any w.heap.size f i ∧
   (Rows.OpenSpec.upto s).pre6 enc C.prog fn conds false (w.forCall tape i).memory i.args ∧ a.holds C.prog (lone (Frame.enter C.prog f i.args .normal) [] (w.forCall tape i)))
  (K : Kids C.prog (· < C.prog.types.size)) (hsz : ∀ t e, t < C.prog.types.size → C.prog.underlying t = some (.slice e) → 0 < C.prog.cellsOf e)
  (hT : ∀ t ∈ fn.params.toList, t < C.prog.types.size) (hr : fn.resultTypes = #[tbool]) (hb : C.prog.underlying tbool = some .bool) (hv : s.vars = [])
  (hspec : ∀ ds : List (DataW H), ds.length = fn.params.toList.length → (s.fn H ds).results = [.lit (.bool true)] ∧ (s.fn H ds).args = ds ∧ (s.fn H ds).vars = [])
  (hread : ∀ (W : World) (base : Nat) (vs : List Value) (ds : List (DataW H)) (p : List MemPlace), (∀ (j : Nat) t v, fn.params.toList[j]? = some t → vs[j]? = some v → Value.okWide C.prog W .any base t v) → DataW.TrodAll enc C.prog W 0 (fun _ => true) true fn.params.toList vs ds p → (∀ n ∈ DataW.weightsEach C.prog fn.params.toList ds, n ≤ reachBytes) → Rows.uptoBulkAll ds ≤ 1048576 →
   ∃ trs, RepL tb W (Old W) vs trs ∧ FnP C.prog tb f trs (.b true)) :
  ReturnsInHanded a C os f .any ((Rows.OpenSpec.upto s).pre6 enc C.prog fn conds false) (((Rows.OpenSpec.upto s).at F).post enc C.prog fn false fresh handsOn again) := by
 refine returnsInHanded_of_cond_sized (s := Rows.OpenSpec.upto s) rfl own started noInit hfn witness ?_
 intro W base args ds gs before hok hW _ hk hw _
 have hW0 := hW
 obtain ⟨p, q, hA, hV, _, _, _⟩ := hW
 rw [show (Rows.OpenSpec.upto s).vars = [] from hv] at hV
 obtain ⟨rfl, _⟩ := Go.ChangeShapes.trodVars_none hV
 have hvt : (Rows.OpenSpec.upto s).bare.plain.varTypes C.prog = [] := by
  unfold DataSpec.varTypes
  show (s.vars.filterMap _) = _
  rw [hv]; rfl
 rw [hvt, List.append_nil, List.append_nil] at hw
 rw [List.append_nil] at hk
 obtain ⟨trs, hrep, hF⟩ := hread W base args.toList ds p (fun j t v h1 h2 => hok j t v (by simpa using h1) (by simpa using h2)) hA (fun n hn => by
  have := List.all_eq_true.1 hw n hn
  simpa using this) (of_decide_eq_true hk)
 have h1 := hF W (Old W) args (fun v w' => v = .bool true ∧ Fr X0 W w') hrep (fun _ h => h) fun v w' S' hv hfr _ => ⟨by cases hv; rfl, hfr⟩
 have hrun : (callFunc f args).run C.prog W = .ok (.enter f args) W := by
  have hname' : ¬ fn.name = "runtime.NumGoroutine" := by simpa using hname
  simp [callFunc, hfn, hname', hbody]
 rw [hrun] at h1
 have h2 : Calls C.prog f args W fun e w'' => ∃ v, e = .returned v ∧ (v = .bool true ∧ Fr X0 W w'') := h1
 refine h2.mono fun e W' ⟨v, he, hv, hfr⟩ => ⟨v, he, ?_⟩
 subst hv
 exact post_law K hsz hT hr hb (by assumption) hspec hW0 hfr
end
theorem stays_lifted (os : Os) (started : os.Started) (H : Type) (enc : TypeId × Value → H) (F : Stop.Interp) :
  ReturnsInHanded {} Tryz.checked os 11 .any ((Rows.OpenSpec.upto Rows.qpolyStaysSpec).pre6 enc Tryz.prog Tryz.f11 [] false) (((Rows.OpenSpec.upto Rows.qpolyStaysSpec).at F).post enc Tryz.prog Tryz.f11 false true false false) := by
 refine row_upto (C := Tryz.checked) (tb := tb) (tbool := 4) own1 started (by kernel_rfl) Tryz.func11 rfl rfl
  (OpenSpec.witness (enc := enc) (C := Tryz.checked) rfl false ⟨#[], #[.slice none 0 0, .slice none 0 0, .agg #[.bool false, .slice none 0 0, .bool false, .slice none 0 0], .int .i64 0], []⟩ 8 (by kernel_rfl) (by kernel_rfl) (by kernel_rfl) (x := ([.nil, .nil, .agg [.agg [.lit (.bool false), .nil], .agg [.lit (.bool false), .nil]], .lit (.int .i64 0)], [], [])) (by kernel_rfl) (by kernel_rfl) (by kernel_rfl))
  kids1 full1 (by decide +kernel) rfl ul4 rfl ?_ ?_
 ·intro ds h
  match ds, h with
  | [d1, d2, d3, d4], _ => exact ⟨rfl, rfl, rfl⟩
 ·intro W base vs ds p hok hA hw hB
  obtain ⟨trs, hr, d1, ds1, x1, l1, rfl, rfl, ⟨⟨r1, rfl, k1⟩, b1⟩, d2, ds2, x2, l2, rfl, rfl, ⟨⟨r2, rfl, k2⟩, b2⟩, d3, ds3, x3, l3, rfl, rfl, ⟨r3, rfl, k3, k4⟩, d4, ds4, x4, l4, rfl, rfl, ⟨z, rfl, hz⟩, rfl, rfl⟩ :=
   readsAllD_cons (readsD_len ul22 readsV_L) (readsAllD_cons (readsD_len ul22 readsV_L) (readsAllD_cons (readsD_of readsV_Q) (readsAllD_cons (readsD_of (readsV_int ul3)) readsAllD_nil))) W base vs ds p hok hA hw
  have hz2 : z < 9223372036854775808 := by
   simp only [Lit.wf, Bool.and_eq_true, decide_eq_true_eq] at hz
   have h9 : z ≤ 9223372036854775807 := hz.2
   omega
  have b3 := b1 _ _ rfl
  have b4 := b2 _ _ rfl
  rw [List.length_map] at b3 b4
  simp only [Rows.uptoBulkAll] at hB
  exact ⟨_, hr, law_Stays r1 r2 r3 z k1 k2 k3 k4 hz2 (by omega) (by omega)⟩
theorem QpolyStaysUpto_holds : Rows.QpolyStaysUptoSaid :=
 OpenClaim.holds_of_cond 11 Tryz.f11 rfl rfl rfl rfl rfl rfl rfl ⟨rfl, rfl, rfl, rfl, rfl⟩ rfl rfl rfl rfl rfl (by kernel_rfl) Tryz.func11 (by kernel_rfl)
  (of_decide_eq_true (by kernel_rfl)) (by unfold Func.isWrapper; first | (rw [if_pos (by decide +kernel)]; kernel_rfl) | (rw [if_neg (by decide +kernel)]; exact ⟨rfl, rfl⟩))
  (fun os started H enc _ F => stays_lifted os started H enc F)
end Go.Proofs.YtacenhlcfeepgaaGreat
