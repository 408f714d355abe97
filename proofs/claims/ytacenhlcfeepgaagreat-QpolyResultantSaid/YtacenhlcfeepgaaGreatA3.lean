/- The law is true whatever its arguments are, and these read behind the call as they read before (the row, part 3 of 9: our program logic, contracts of the functions, the law). No conditions. -/
import Derived.Test.YtacenhlcfeepgaaGreatA2
import Derived.SizedLaws
import Derived.ChangeSame
import Derived.ReadAgain
import Derived.ChangeStays
import Derived.ChangeShapes
import Derived.JoinedOf
import Derived.RowKit
import Derived.DataReads
import Derived.KernelRfl
import Derived.WideShapes
import Derived.Test.YtacenhlcfeepgaaGreatProg
set_option linter.unusedVariables false
set_option linter.unusedSimpArgs false
set_option linter.unusedSectionVars false
set_option maxHeartbeats 4000000
set_option maxRecDepth 100000
namespace Go.Proofs.YtacenhlcfeepgaaGreat.Eng
open Go
section
variable {H : Type} {enc : TypeId × Value → H} {P : Program} {tb : Tab} {w : World} {base : Nat} {sp : Nat → Bool} {held : Bool}
def Old (w : World) : Nat → Prop := fun b => b < w.heap.size
theorem cell_sc {a : Addr} {v : Value} (h : w.cell? a = some v) : a.spot = none ∧ SC w (Old w) a.block := by
 unfold World.cell? at h
 split at h
 ·rename_i c ty fr hc
  split at h
  ·cases h
  ·rename_i hs
   refine ⟨by cases hx : a.spot with | none => rfl | some _ => rw [hx] at hs; simp at hs, ?_, c, ty, fr, hc⟩
   exact (Array.getElem?_eq_some_iff.1 hc).1
 ·cases h
theorem add_zero (a : Addr) : a.add 0 = a := by unfold Addr.add; rw [if_pos rfl]
theorem add_some {a : Addr} (ha : a.spot = none) (n : Nat) : a.add n = ⟨a.block, a.off + n, none⟩ := by
 unfold Addr.add
 split
 ·rename_i h; subst h; cases a; simp_all
 ·rfl
theorem cells_some {a : Addr} {n : Nat} {cs : List Value} (h : w.cells? base a n = some cs) (hn : 0 < n) : a.spot = none ∧ SC w (Old w) a.block ∧ cs.length = n ∧ ∀ k v, cs[k]? = some v → w.cell? ⟨a.block, a.off + k, none⟩ = some v := by
 unfold World.cells? at h
 split at h
 ·have hl := mapM_some_length h
  rw [List.length_range] at hl
  have hg := mapM_some_get h
  have h0 := hg 0 0 (by rw [List.getElem?_range hn])
  rw [add_zero, List.getElem?_eq_getElem (show 0 < cs.length by omega)] at h0
  obtain ⟨k1, k2⟩ := cell_sc h0
  refine ⟨k1, k2, hl, fun k v hv => ?_⟩
  have hk : k < n := by have := (List.getElem?_eq_some_iff.1 hv).1; omega
  have h1 := hg k k (by rw [List.getElem?_range hk])
  rw [hv, add_some k1] at h1
  exact h1
 ·cases h
theorem repCs_of {S : Nat → Prop} {b : Nat} : ∀ {cs : List Value} {l : List Tr} (o : Nat), RepL tb w S cs l → (∀ k v, cs[k]? = some v → w.cell? ⟨b, o + k, none⟩ = some v) → RepCs tb w S b o l
 | _, _, _, .nil, _ => .nil _ _
 | _, _, o, .cons v t vs l h hl, hc => .cons _ _ v _ _ (hc 0 v rfl) h (repCs_of (o + 1) hl fun k u hu => by
   have := hc (k + 1) u hu
   rwa [show o + (k + 1) = o + 1 + k by omega] at this)
theorem repL_len {S : Nat → Prop} : ∀ {cs : List Value} {l : List Tr}, RepL tb w S cs l → cs.length = l.length
 | _, _, .nil => rfl
 | _, _, .cons _ _ _ _ _ h => by rw [List.length_cons, List.length_cons, repL_len h]
theorem repL_app {S : Nat → Prop} : ∀ {cs cs' : List Value} {l l' : List Tr}, RepL tb w S cs l → RepL tb w S cs' l' → RepL tb w S (cs ++ cs') (l ++ l')
 | _, _, _, _, .nil, k => k
 | _, _, _, _, .cons v t vs l h hl, k => .cons _ _ _ _ h (repL_app hl k)
theorem repEs_at {S : Nat → Prop} {b z : Nat} : ∀ (l : List Tr) (o : Nat), (∀ i t, l[i]? = some t → t.cells.length = z ∧ ∃ cs, RepL tb w S cs t.cells ∧ ∀ k v, cs[k]? = some v → w.cell? ⟨b, o + i * z + k, none⟩ = some v) → RepEs tb w S b o z l
 | [], _, _ => .nil _ _ _
 | t :: l, o, h => by
  obtain ⟨h1, cs, h2, h3⟩ := h 0 t rfl
  refine .cons _ _ _ _ _ h1 (repCs_of o h2 fun k v hv => ?_) (repEs_at l (o + z) fun i t' ht => ?_)
  ·have := h3 k v hv
   rwa [Nat.zero_mul, Nat.add_zero] at this
  ·obtain ⟨k1, cs', k2, k3⟩ := h (i + 1) t' ht
   refine ⟨k1, cs', k2, fun k v hv => ?_⟩
   have := k3 k v hv
   rwa [Nat.succ_mul, show o + (i * z + z) + k = o + z + i * z + k by omega] at this
def WOk (P : Program) (t : TypeId) (d : DataW H) : Prop := ∀ n ∈ DataW.weights P t d, n ≤ reachBytes
theorem wok_elem {t e : TypeId} {el spa : List (DataW H)} (ht : P.underlying t = some (.slice e)) (h : WOk P t (.slice el spa)) : (el.length + spa.length) * P.bytesOf e ≤ reachBytes ∧ ∀ d ∈ el, WOk P e d := by
 have hw : DataW.weights P t (.slice el spa) = (el.length + spa.length) * P.bytesOf e :: (DataW.weightsAll P e el ++ DataW.weightsAll P e spa) := by rw [DataW.weights, ht]
 unfold WOk at h
 rw [hw] at h
 refine ⟨h _ (List.mem_cons_self ..), fun d hd n hn => h n (List.mem_cons_of_mem _ (List.mem_append_left _ ?_))⟩
 clear hw h
 induction el with
 | nil => simp at hd
 | cons x l ih =>
  rw [DataW.weightsAll]
  rcases List.mem_cons.1 hd with rfl | hd
  ·exact List.mem_append_left _ hn
  ·exact List.mem_append_right _ (ih hd)
def Reads (H : Type) (enc : TypeId × Value → H) (P : Program) (tb : Tab) (w : World) (base : Nat) (sp : Nat → Bool) (held : Bool) (t : TypeId) (Φ : List Tr → Prop) : Prop :=
 ∀ (n : Nat) (cs : List Value) (x : DataW H × List MemPlace), DataW.trod enc P w base sp held n t cs = some x → WOk P t x.1 → ∃ l, RepL tb w (Old w) cs l ∧ Φ l
theorem reads_bool {t : TypeId} (ht : P.underlying t = some .bool) : Reads H enc P tb w base sp held t (fun l => ∃ b, l = [.b b]) := by
 intro n cs x h _
 obtain ⟨b, rfl, _⟩ := DataW.trod_bool ht h
 exact ⟨[.b b], .cons _ _ _ _ (.b b) .nil, b, rfl⟩
theorem reads_int {t : TypeId} {k : IntKind} (ht : P.underlying t = some (.int k)) : Reads H enc P tb w base sp held t (fun l => ∃ z, l = [.i k z] ∧ (Lit.int k z).wf = true) := by
 intro n cs x h _
 obtain ⟨z, rfl, _, hw⟩ := DataW.trod_int ht h
 exact ⟨[.i k z], .cons _ _ _ _ (.i k z) .nil, z, rfl, hw⟩
theorem reads_struct2 {t : TypeId} {f0 f1 : Field} {Φ Ψ : List Tr → Prop} (ht : P.underlying t = some (.struct #[f0, f1])) (o0 : f0.offset = 0) (o1 : f1.offset = P.cellsOf f0.type) (hc : P.cellsOf t = P.cellsOf f0.type + P.cellsOf f1.type)
  (h0 : Reads H enc P tb w base sp held f0.type Φ) (h1 : Reads H enc P tb w base sp held f1.type Ψ) : Reads H enc P tb w base sp held t (fun l => ∃ l0 l1, l = l0 ++ l1 ∧ Φ l0 ∧ Ψ l1) := by
 intro n cs x h hw
 obtain ⟨y0, y1, m, rfl, hl, k0, k1⟩ := Go.ChangeShapes.trod_struct2 ht h
 have hww : DataW.weights P t (.agg [y0.1, y1.1]) = DataW.weights P f0.type y0.1 ++ (DataW.weights P f1.type y1.1 ++ []) := by
  rw [DataW.weights, ht]; rfl
 unfold WOk at hw
 rw [hww] at hw
 obtain ⟨l0, r0, p0⟩ := h0 m _ y0 k0 fun n hn => hw n (List.mem_append_left _ hn)
 obtain ⟨l1, r1, p1⟩ := h1 m _ y1 k1 fun n hn => hw n (List.mem_append_right _ (List.mem_append_left _ hn))
 refine ⟨l0 ++ l1, ?_, l0, l1, rfl, p0, p1⟩
 have := repL_app r0 r1
 rw [o0, o1, List.drop_zero] at this
 have e : cs.take (P.cellsOf f0.type) ++ (cs.drop (P.cellsOf f0.type)).take (P.cellsOf f1.type) = cs := by
  have e1 : (cs.drop (P.cellsOf f0.type)).take (P.cellsOf f1.type) = cs.drop (P.cellsOf f0.type) := List.take_of_length_le (by rw [List.length_drop]; omega)
  rw [e1, List.take_append_drop]
 rwa [e] at this
theorem reads_pair {t t0 t1 : TypeId} {o : Nat} {Φ Ψ : List Tr → Prop} (ht : (match P.underlying t with | some (.struct fields) => some (fields.toList.map fun f => (f.type, f.offset)) | _ => none) = some [(t0, 0), (t1, o)])
  (o1 : o = P.cellsOf t0) (hc : P.cellsOf t = P.cellsOf t0 + P.cellsOf t1)
  (h0 : Reads H enc P tb w base sp held t0 Φ) (h1 : Reads H enc P tb w base sp held t1 Ψ) : Reads H enc P tb w base sp held t (fun l => ∃ l0 l1, l = l0 ++ l1 ∧ Φ l0 ∧ Ψ l1) := by
 split at ht
 ·rename_i fields hu
  injection ht with ht
  obtain ⟨fl⟩ := fields
  have hlen : fl.length = 2 := by have := congrArg List.length ht; rw [List.length_map] at this; exact this
  match fl, hlen, hu, ht with
  | [f0, f1], _, hu, ht =>
   simp only [List.map_cons, List.map_nil, List.cons.injEq, Prod.mk.injEq, and_true] at ht
   obtain ⟨⟨rfl, e1⟩, rfl, e2⟩ := ht
   exact reads_struct2 hu e1 (e2.trans o1) hc h0 h1
 ·cases ht
theorem reads_slice {t e : TypeId} {z : Nat} {Φ : List Tr → Prop} (mk : List Tr → Tr) (hmk : ∀ l, Φ l → (mk l).cells = l) (ht : P.underlying t = some (.slice e)) (hz : P.cellsOf e = z) (h0 : 0 < z) (hs : szOf tb e = z) (hb : byOf tb e = P.bytesOf e)
  (he : Reads H enc P tb w base sp held e Φ) : Reads H enc P tb w base sp held t (fun l => ∃ ts : List (List Tr), l = [.sl e (ts.map mk)] ∧ ∀ x ∈ ts, Φ x) := by
 intro n cs x h hw
 rcases DataW.trod_slice ht h with ⟨rfl, _⟩ | ⟨a, len, cap, elems, rest, m, _, rfl, rfl, _, hlc, _, hlen, hel, _⟩
 ·exact ⟨[.sl e []], .cons _ _ _ _ (.emp _ _ _) .nil, [], rfl, fun x hx => by simp at hx⟩
 ·obtain ⟨w1, w2⟩ := wok_elem ht hw
  rw [List.length_map, List.length_map] at w1
  have each : ∀ i, i < len → ∃ l cs, Φ l ∧ RepL tb w (Old w) cs l ∧ w.cells? base (a.add (i * z)) z = some cs := fun i hi => by
   have h1 := hel i hi
   rw [hz, List.getElem?_eq_getElem (show i < elems.length by omega), Option.bind_eq_some_iff] at h1
   obtain ⟨cs, c1, c2⟩ := h1
   obtain ⟨l, l1, l2⟩ := he m cs _ c2 (w2 _ (List.mem_map_of_mem (List.getElem_mem _)))
   exact ⟨l, cs, l2, l1, c1⟩
  rcases Nat.eq_zero_or_pos len with h00 | hpos
  ·subst h00
   exact ⟨[.sl e []], .cons _ _ _ _ (.emp _ _ _) .nil, [], rfl, fun x hx => by simp at hx⟩
  ·obtain ⟨l0, cs0, _, _, q0⟩ := each 0 hpos
   rw [Nat.zero_mul, add_zero] at q0
   obtain ⟨asp, asc, _, _⟩ := cells_some q0 h0
   have hch : ∃ ts : List (List Tr), ts.length = len ∧ ∀ i l, ts[i]? = some l → Φ l ∧ ∃ cs, RepL tb w (Old w) cs l ∧ w.cells? base (a.add (i * z)) z = some cs := by
    refine ⟨(List.range len).map fun i => if hi : i < len then Classical.choose (each i hi) else [], by simp, fun i l hl => ?_⟩
    have hi : i < len := by have := (List.getElem?_eq_some_iff.1 hl).1; simpa using this
    rw [List.getElem?_map, List.getElem?_range hi] at hl
    simp only [Option.map_some, Option.some.injEq, dif_pos hi] at hl
    subst hl
    obtain ⟨cs, c1, c2, c3⟩ := Classical.choose_spec (each i hi)
    exact ⟨c1, cs, c2, c3⟩
   obtain ⟨ts, t1, t2⟩ := hch
   refine ⟨[.sl e (ts.map mk)], .cons _ _ _ _ ?_ .nil, ts, rfl, fun x hx => ?_⟩
   ·have ha : a = ⟨a.block, a.off, none⟩ := by cases a; simp_all
    rw [ha]
    refine .sl _ _ _ _ _ _ (by rw [List.length_map, t1]) hlc ?_ asc ?_
    ·rw [hb]
     have h9 : reachBytes ≤ 140737488355328 := by decide
     have h8 : len * P.bytesOf e ≤ (elems.length + rest.length) * P.bytesOf e := Nat.mul_le_mul_right _ (by omega)
     omega
    ·rw [hs]
     refine repEs_at _ _ fun i t' hi => ?_
     rw [List.getElem?_map] at hi
     obtain ⟨l, hl, rfl⟩ := Option.map_eq_some_iff.1 hi
     obtain ⟨p1, cs, p2, p3⟩ := t2 i l hl
     obtain ⟨_, _, q1, q2⟩ := cells_some p3 h0
     rw [hmk l p1]
     refine ⟨by rw [← repL_len p2, q1], cs, p2, fun k v hv => ?_⟩
     have := q2 k v hv
     rw [add_some asp] at this
     exact this
   ·obtain ⟨i, hi, rfl⟩ := List.mem_iff_getElem.1 hx
    exact (t2 i _ (List.getElem?_eq_getElem hi)).1
end
section
variable {H : Type} {enc : TypeId × Value → H} {P : Program}
def ReadsV (H : Type) (enc : TypeId × Value → H) (P : Program) (tb : Tab) (t : TypeId) (Φ : Tr → Prop) : Prop :=
 ∀ (w : World) (base : Nat) (v : Value) (d : DataW H) (ps : List MemPlace), Value.okWide P w .any base t v → DataW.Trod enc P w 0 (fun _ => true) true t v d ps → WOk P t d → ∃ x, RepT tb w (Old w) v x ∧ Φ x
theorem repL_uno {tb : Tab} {w : World} {S : Nat → Prop} {v : Value} {l : List Tr} (h : RepL tb w S [v] l) : ∃ x, l = [x] ∧ RepT tb w S v x := by
 cases h with | cons v t vs l h1 h2 => cases h2 with | nil => exact ⟨t, rfl, h1⟩
theorem readsV_slice {tb : Tab} {t e : TypeId} {Φ : List Tr → Prop} (ht : P.underlying t = some (.slice e)) (h : ∀ w, Reads H enc P tb w 0 (fun _ => true) true t Φ) : ReadsV H enc P tb t (fun x => Φ [x]) := by
 intro w base v d ps hok ⟨n, hd⟩ hw
 obtain ⟨a, len, cap, rfl⟩ := Go.WideShapes.okWide_slice ht hok
 obtain ⟨l, h1, h2⟩ := h w n _ _ hd hw
 obtain ⟨x, rfl, h3⟩ := repL_uno h1
 exact ⟨x, h3, h2⟩
theorem readsV_int {tb : Tab} {t : TypeId} {k : IntKind} (ht : P.underlying t = some (.int k)) : ReadsV H enc P tb t (fun x => ∃ z, x = .i k z ∧ (Lit.int k z).wf = true) := by
 intro w base v d ps hok ⟨n, hd⟩ hw
 obtain ⟨z, rfl⟩ := Go.WideShapes.okWide_int ht hok
 obtain ⟨l, h1, z', rfl, h2⟩ := reads_int (tb := tb) ht n _ _ hd hw
 obtain ⟨x, hx, h3⟩ := repL_uno h1
 injection hx with hx; subst hx
 exact ⟨_, h3, z', rfl, h2⟩
theorem readsV_struct {tb : Tab} {t : TypeId} {Φ : List Tr → Prop} (ht : (match P.underlying t with | some (.struct _) => true | _ => false) = true) (h : ∀ w, Reads H enc P tb w 0 (fun _ => true) true t Φ) : ReadsV H enc P tb t (fun x => ∃ l, x = .ag l ∧ Φ l) := by
 intro w base v d ps hok ⟨n, hd⟩ hw
 split at ht
 ·rename_i fs hu
  obtain ⟨cs, rfl, _⟩ := Go.WideShapes.okWide_struct hu hok
  obtain ⟨l, h1, h2⟩ := h w n _ _ hd hw
  refine ⟨.ag l, ?_, l, rfl, h2⟩
  have := RepT.ag _ _ h1
  simpa [Value.cells] using this
 ·cases ht
theorem weightsEach_cons {t : TypeId} {ts : List TypeId} {d : DataW H} {ds : List (DataW H)} : DataW.weightsEach P (t :: ts) (d :: ds) = DataW.weights P t d ++ DataW.weightsEach P ts ds := by rw [DataW.weightsEach]
theorem readsAll_cons {tb : Tab} {t : TypeId} {ts : List TypeId} {Φ : Tr → Prop} {Ψ : List Tr → Prop} (h : ReadsV H enc P tb t Φ)
  (k : ∀ (W : World) (base : Nat) (vs : List Value) (ds : List (DataW H)) (p : List MemPlace), (∀ (j : Nat) t v, ts[j]? = some t → vs[j]? = some v → Value.okWide P W .any base t v) → DataW.TrodAll enc P W 0 (fun _ => true) true ts vs ds p → (∀ n ∈ DataW.weightsEach P ts ds, n ≤ reachBytes) → ∃ trs, RepL tb W (Old W) vs trs ∧ Ψ trs) :
  ∀ (W : World) (base : Nat) (vs : List Value) (ds : List (DataW H)) (p : List MemPlace), (∀ (j : Nat) t' v, (t :: ts)[j]? = some t' → vs[j]? = some v → Value.okWide P W .any base t' v) → DataW.TrodAll enc P W 0 (fun _ => true) true (t :: ts) vs ds p → (∀ n ∈ DataW.weightsEach P (t :: ts) ds, n ≤ reachBytes) →
   ∃ trs, RepL tb W (Old W) vs trs ∧ ∃ x l, trs = x :: l ∧ Φ x ∧ Ψ l := by
 intro W base vs ds p hok hA hw
 match vs, ds, hA with
 | v :: vs, d :: ds, ⟨p1, q, h1, h2, _⟩ =>
  rw [weightsEach_cons] at hw
  obtain ⟨x, r1, r2⟩ := h W base v d p1 (hok 0 t v rfl rfl) h1 fun n hn => hw n (List.mem_append_left _ hn)
  obtain ⟨l, r3, r4⟩ := k W base vs ds q (fun j t' v' e1 e2 => hok (j + 1) t' v' e1 e2) h2 fun n hn => hw n (List.mem_append_right _ hn)
  exact ⟨x :: l, .cons _ _ _ _ r1 r3, x, l, rfl, r2, r4⟩
theorem readsAll_nil {tb : Tab} : ∀ (W : World) (base : Nat) (vs : List Value) (ds : List (DataW H)) (p : List MemPlace), (∀ (j : Nat) t' v, ([] : List TypeId)[j]? = some t' → vs[j]? = some v → Value.okWide P W .any base t' v) → DataW.TrodAll enc P W 0 (fun _ => true) true [] vs ds p → (∀ n ∈ DataW.weightsEach P [] ds, n ≤ reachBytes) →
      ∃ trs, RepL tb W (Old W) vs trs ∧ trs = [] := by
  intro W base vs ds p _ hA _
  match vs, ds, hA with
  | [], [], _ => exact ⟨[], .nil, rfl⟩
theorem keptBut_fr {W W' : World} {may : MemPlace → Prop} (h : Fr X0 W W') : W.keptBut W' may := by
 refine ⟨h.os, h.output, fun i hi => ?_⟩
 rw [h.blk i hi (fun x => x)]
 cases W.heap[i]? with
 | none => rfl
 | some o => cases o with
  | cells c t fr => exact ⟨rfl, rfl, rfl, fun _ _ => rfl⟩
  | map es clock => exact .inr ⟨rfl, rfl⟩
  | _ => rfl
theorem same_fr {W W' : World} (h : Fr X0 W W') {p : MemPlace} (hp : p.block < W.heap.size) : W.sameAt W' p := by
 have hb := h.blk p.block hp (fun x => x)
 cases p with
 | cell b off =>
  show W'.cell? _ = W.cell? _
  unfold World.cell?
  have hb : W'.heap[b]? = W.heap[b]? := hb
  rw [hb]
 | map b => exact hb
theorem trodAll_fr {W W' : World} {T : TypeId → Prop} (K : Kids P T) (hsz : ∀ t e, T t → P.underlying t = some (.slice e) → 0 < P.cellsOf e) (hF : Fr X0 W W') {sp : Nat → Bool} :
  ∀ {ts : List TypeId} {vs : List Value} {ds : List (DataW H)} {ps : List MemPlace}, (∀ t ∈ ts, T t) → DataW.TrodAll enc P W 0 (fun _ => true) true ts vs ds ps → (∀ p ∈ ps, sp p.block = true) → (∀ p ∈ ps, p.block < W.heap.size) → DataW.TrodAll enc P W' 0 sp true ts vs ds ps
 | [], [], [], _, _, h, _, _ => h
 | _ :: _, _ :: _, _ :: _, _, hT, ⟨p, q, ⟨n, h1⟩, h2, e⟩, hs, hl => by
  refine ⟨p, q, ⟨n, ?_⟩, trodAll_fr K hsz hF (fun t ht => hT t (List.mem_cons_of_mem _ ht)) h2 (fun x hx => hs x (by rw [e]; exact List.mem_append_right _ hx)) (fun x hx => hl x (by rw [e]; exact List.mem_append_right _ hx)), e⟩
  exact DataW.trod_stays K (fun {t e} h1 h2 => hsz t e h1 h2) (fun h => by cases h) (hT _ (List.mem_cons_self ..)) h1 (fun x hx => same_fr hF (hl x (by rw [e]; exact List.mem_append_left _ hx))) (fun x hx => hs x (by rw [e]; exact List.mem_append_left _ hx))
theorem post_law {f : Func} {s : ChangeSpec} {fresh handsOn again : Bool} {W W' : World} {args : Array Value} {ds gs : List (DataW H)} {before : List MemPlace} {tbool : TypeId}
  (K : Kids P (· < P.types.size)) (hsz : ∀ t e, t < P.types.size → P.underlying t = some (.slice e) → 0 < P.cellsOf e)
  (hT : ∀ t ∈ f.params.toList, t < P.types.size) (hr : f.resultTypes = #[tbool]) (hb : P.underlying tbool = some .bool) (hv : s.vars = [])
  (hspec : ∀ ds : List (DataW H), ds.length = f.params.toList.length → (s.fn H ds).results = [.lit (.bool true)] ∧ (s.fn H ds).args = ds ∧ (s.fn H ds).vars = [])
  (hW : DataW.Whole enc P f.params.toList s.vars false W args.toList ds gs before) (hF : Fr X0 W W') : s.post enc P f false fresh handsOn again W args (.bool true) W' := by
 have hW0 := hW
 have hlt := hW.lt
 obtain ⟨p, q, hA, hV, rfl, hfz, _⟩ := hW
 rw [hv] at hV
 obtain ⟨rfl, rfl⟩ := Go.ChangeShapes.trodVars_none hV
 have hlen : ∀ {ts : List TypeId} {vs : List Value} {ds : List (DataW H)} {ps : List MemPlace}, DataW.TrodAll enc P W 0 (fun _ => true) true ts vs ds ps → ds.length = ts.length := by
  intro ts
  induction ts with
  | nil => intro vs ds ps h; match vs, ds, h with | [], [], _ => rfl
  | cons t ts ih => intro vs ds ps h; match vs, ds, h with | _ :: _, _ :: _, ⟨_, _, _, h2, _⟩ => rw [List.length_cons, List.length_cons, ih h2]
 obtain ⟨e1, e2, e3⟩ := hspec (ds ++ []) (by rw [List.append_nil]; exact hlen hA)
 have hlp : ∀ x ∈ p, x.block < W.heap.size := fun x hx => by have := hlt x (List.mem_append_left _ hx); simpa using this
 have hargs : ∀ sp : Nat → Bool, (∀ x ∈ p, sp x.block = true) → DataW.TrodAll enc P W' 0 sp true f.params.toList args.toList (s.fn H (ds ++ [])).args p := fun sp hs => by
  rw [e2, List.append_nil]; exact trodAll_fr K hsz hF hT hA hs hlp
 have hres : ∀ (b : Nat) (sp : Nat → Bool) (hd : Bool), DataW.TrodAll enc P W' b sp hd f.resultTypes.toList ((Value.bool true).resultList f.resultTypes.size) (s.fn H (ds ++ [])).results [] := fun b sp hd => by
  rw [e1, hr]; exact Go.ChangeShapes.trodAll_mk1 (Go.RowKit.shut_bool hb true)
 have hvars : ∀ sp : Nat → Bool, DataW.TrodVars enc P W' sp s.vars (s.fn H (ds ++ [])).vars [] := fun sp => by rw [hv, e3]; rfl
 have hin : ∀ x ∈ p, decide (x.block < W.heap.size) = true := fun x hx => decide_eq_true (hlp x hx)
 refine ⟨ds, [], p ++ [], [], p, [], hW0, hres _ _ _, hargs _ hin, hvars _, keptBut_fr hF, fun _ => ?_⟩
 refine ⟨Go.RowKit.ok_one hr (by rfl) (Go.RowKit.okWide_bool_mk hb true), _, _, ([] ++ p) ++ [], ⟨[] ++ p, [], Go.ChangeShapes.trodAll_append (hargs _ (fun _ _ => rfl)) (hres _ _ _), hvars _, rfl, ?_, fun h => by cases h⟩, ?_⟩
 ·intro b off hp
  have hp2 : MemPlace.cell b off ∈ p ++ [] := by simpa using hp
  have hb2 : b < W.heap.size := hlp (.cell b off) (by simpa using hp)
  have := hfz b off hp2
  unfold World.frozen? at this ⊢
  have e : W'.heap[b]? = W.heap[b]? := hF.blk b hb2 (fun x => x)
  rw [e]; exact this
 ·intro x hx _
  simpa using hx
end
section
variable {H : Type} {enc : TypeId × Value → H}
theorem row_lifted {a : Assume} {C : Checked} {tb : Tab} {os : Os} {f : FuncId} {fn : Func} {s : ChangeSpec} {conds : List PathCond} {fresh handsOn again : Bool} {tbool : TypeId} {c : Code}
  (own : ownKnob C.prog.godebug = none) (started : os.Started) (noInit : C.prog.inits.idxOf? f = none) (hfn : C.prog.funcs[f]? = some fn) (hbody : fn.body = some c) (hname : (fn.name == "runtime.NumGoroutine") = false)
  (witness : ∃ (w : World) (tape : Tape) (i : Input), w.os = os ∧ (w.forCall tape i).Shaped C.prog ∧ i.vars = [] ∧ Input.okWide C.prog (w.forCall tape i) .any w.heap.size f i ∧
   s.pre6 enc C.prog fn conds false (w.forCall tape i).memory i.args ∧ a.holds C.prog (lone (Frame.enter C.prog f i.args .normal) [] (w.forCall tape i)))
  (K : Kids C.prog (· < C.prog.types.size)) (hsz : ∀ t e, t < C.prog.types.size → C.prog.underlying t = some (.slice e) → 0 < C.prog.cellsOf e)
  (hT : ∀ t ∈ fn.params.toList, t < C.prog.types.size) (hr : fn.resultTypes = #[tbool]) (hb : C.prog.underlying tbool = some .bool) (hv : s.vars = [])
  (hspec : ∀ ds : List (DataW H), ds.length = fn.params.toList.length → (s.fn H ds).results = [.lit (.bool true)] ∧ (s.fn H ds).args = ds ∧ (s.fn H ds).vars = [])
  (hread : ∀ (W : World) (base : Nat) (vs : List Value) (ds : List (DataW H)) (p : List MemPlace), (∀ (j : Nat) t v, fn.params.toList[j]? = some t → vs[j]? = some v → Value.okWide C.prog W .any base t v) → DataW.TrodAll enc C.prog W 0 (fun _ => true) true fn.params.toList vs ds p → (∀ n ∈ DataW.weightsEach C.prog fn.params.toList ds, n ≤ reachBytes) →
   ∃ trs, RepL tb W (Old W) vs trs ∧ FnP C.prog tb f trs (.b true)) :
  ReturnsInHanded a C os f .any (s.pre6 enc C.prog fn conds false) (s.post enc C.prog fn false fresh handsOn again) := by
 refine returnsInHanded_of_change_sized own started noInit hfn witness ?_
 intro W base args ds gs before hok hW _ hw _
 have hW0 := hW
 obtain ⟨p, q, hA, hV, _, _, _⟩ := hW
 rw [hv] at hV
 obtain ⟨rfl, _⟩ := Go.ChangeShapes.trodVars_none hV
 have hvt : s.plain.varTypes C.prog = [] := by
  unfold DataSpec.varTypes
  show (s.vars.filterMap _) = _
  rename s.vars = [] => hvv
  rw [hvv]; rfl
 rw [hvt, List.append_nil, List.append_nil] at hw
 obtain ⟨trs, hrep, hF⟩ := hread W base args.toList ds p (fun j t v h1 h2 => hok j t v (by simpa using h1) (by simpa using h2)) hA fun n hn => by
  have := List.all_eq_true.1 hw n hn
  simpa using this
 have h1 := hF W (Old W) args (fun v w' => v = .bool true ∧ Fr X0 W w') hrep (fun _ h => h) fun v w' S' hv hfr _ => ⟨by cases hv; rfl, hfr⟩
 have hrun : (callFunc f args).run C.prog W = .ok (.enter f args) W := by
  have hname' : ¬ fn.name = "runtime.NumGoroutine" := by simpa using hname
  simp [callFunc, hfn, hname', hbody]
 rw [hrun] at h1
 have h2 : Calls C.prog f args W fun e w'' => ∃ v, e = .returned v ∧ (v = .bool true ∧ Fr X0 W w'') := h1
 refine h2.mono fun e W' ⟨v, he, hv, hfr⟩ => ⟨v, he, ?_⟩
 subst hv
 exact post_law K hsz hT hr hb (by assumption) hspec hW0 hfr
end
end Go.Proofs.YtacenhlcfeepgaaGreat.Eng
namespace Go.Proofs.YtacenhlcfeepgaaGreat
open Go Eng
namespace Eng
theorem info_mk {P : Program} {e : TypeId} {t : TI} (h : (P.info? e).map (fun i => (i.zero, i.size, i.bytes)) = some (some t.zero.val, t.sz, t.by_)) : ∃ i, P.info? e = some i ∧ i.size = t.sz ∧ i.bytes = t.by_ ∧ (t.zero.zeroOk = true → i.zero = some t.zero.val) := by
 obtain ⟨i, h1, h2⟩ := Option.map_eq_some_iff.1 h
 simp only [Prod.mk.injEq] at h2
 exact ⟨i, h1, h2.2.1, h2.2.2, fun _ => h2.1⟩
theorem info_mk' {P : Program} {e : TypeId} {t : TI} (h : (P.info? e).map (fun i => (i.size, i.bytes)) = some (t.sz, t.by_)) (hz : t.zero.zeroOk = false) : ∃ i, P.info? e = some i ∧ i.size = t.sz ∧ i.bytes = t.by_ ∧ (t.zero.zeroOk = true → i.zero = some t.zero.val) := by
 obtain ⟨i, h1, h2⟩ := Option.map_eq_some_iff.1 h
 simp only [Prod.mk.injEq] at h2
 exact ⟨i, h1, h2.1, h2.2, fun h => by rw [hz] at h; cases h⟩
theorem other_fn {P : Program} {e : TypeId} (h : (match P.underlying e with | some (.func _ _ _) => true | _ => false) = true) : ∃ d, P.underlying e = some d ∧ (∀ n e', d ≠ .array n e') ∧ ∀ fs, d ≠ .struct fs := by
 split at h
 ·rename_i ps rs v hu
  exact ⟨_, hu, (fun _ _ h => by cases h), (fun _ h => by cases h)⟩
 ·cases h
theorem struct_mk {P : Program} {e : TypeId} {fs : List (TypeId × Nat)} (h : (match P.underlying e with | some (.struct fields) => some (fields.toList.map fun f => (f.type, f.offset)) | _ => none) = some fs) : ∃ fields : Array Field, P.underlying e = some (.struct fields) ∧ fields.toList.map (fun f => (f.type, f.offset)) = fs := by
 split at h
 ·rename_i fields hu
  injection h with h
  exact ⟨_, hu, h⟩
 ·cases h
def AllOk (P : Program) : Tab → Prop
 | [] => True
 | (e, t) :: r => TypeOk P e t ∧ AllOk P r
theorem AllOk.tab {P : Program} {tb : Tab} (h : AllOk P tb) : TabOk P tb := by
 induction tb with
 | nil => intro e t ht; simp [get] at ht
 | cons p r ih =>
  obtain ⟨k, u⟩ := p
  intro e t ht
  rw [get_cons] at ht
  split at ht
  ·rename_i hk; subst hk; injection ht with ht; subst ht; exact h.1
  ·exact ih h.2 e t ht
end Eng
def tb : Tab := [
 (1, { d := .other, sz := 1, by_ := 8, zero := (.fn 0 []) }),
 (2, { d := .int .i64, sz := 1, by_ := 8, zero := (.i .i64 0) }),
 (3, { d := .int .i64, sz := 1, by_ := 8, zero := (.i .i64 0) }),
 (4, { d := .bool, sz := 1, by_ := 1, zero := (.b false) }),
 (5, { d := .int .u8, sz := 1, by_ := 1, zero := (.i .u8 0) }),
 (9, { d := .str, sz := 1, by_ := 16, zero := (.s ⟨#[]⟩) }),
 (12, { d := .int .u64, sz := 1, by_ := 8, zero := (.i .u64 0) }),
 (13, { d := .struct [(9, 0), (12, 1)], sz := 2, by_ := 24, zero := (.ag [(.s ⟨#[]⟩), (.i .u64 0)]) }),
 (19, { d := .struct [(17, 0)], sz := 1, by_ := 8, zero := (.fn 0 []) }),
 (21, { d := .int .i32, sz := 1, by_ := 4, zero := (.i .i32 0) }),
 (22, { d := .slice 27, sz := 1, by_ := 24, zero := (.sl 27 []) }),
 (23, { d := .slice 97, sz := 1, by_ := 24, zero := (.sl 97 []) }),
 (24, { d := .struct [(4, 0), (23, 1)], sz := 2, by_ := 32, zero := (.ag [(.b false), (.sl 97 [])]) }),
 (25, { d := .struct [(4, 0), (23, 1)], sz := 2, by_ := 32, zero := (.ag [(.b false), (.sl 97 [])]) }),
 (26, { d := .struct [(25, 0), (25, 2)], sz := 4, by_ := 64, zero := (.ag [(.b false), (.sl 97 []), (.b false), (.sl 97 [])]) }),
 (27, { d := .struct [(25, 0), (25, 2)], sz := 4, by_ := 64, zero := (.ag [(.b false), (.sl 97 []), (.b false), (.sl 97 [])]) }),
 (28, { d := .other, sz := 1, by_ := 8, zero := (.fn 0 []) }),
 (29, { d := .other, sz := 1, by_ := 8, zero := (.fn 0 []) }),
 (30, { d := .other, sz := 1, by_ := 8, zero := (.fn 0 []) }),
 (31, { d := .other, sz := 1, by_ := 8, zero := (.fn 0 []) }),
 (32, { d := .other, sz := 1, by_ := 8, zero := (.fn 0 []) }),
 (33, { d := .other, sz := 1, by_ := 8, zero := (.fn 0 []) }),
 (34, { d := .other, sz := 1, by_ := 8, zero := (.fn 0 []) }),
 (35, { d := .other, sz := 1, by_ := 8, zero := (.fn 0 []) }),
 (36, { d := .other, sz := 1, by_ := 8, zero := (.fn 0 []) }),
 (37, { d := .other, sz := 1, by_ := 8, zero := (.fn 0 []) }),
 (38, { d := .other, sz := 1, by_ := 8, zero := (.fn 0 []) }),
 (39, { d := .other, sz := 1, by_ := 8, zero := (.fn 0 []) }),
 (40, { d := .int .i64, sz := 1, by_ := 8, zero := (.i .i64 0) }),
 (42, { d := .other, sz := 1, by_ := 8, zero := (.fn 0 []) }),
 (44, { d := .other, sz := 1, by_ := 8, zero := (.fn 0 []) }),
 (46, { d := .other, sz := 1, by_ := 8, zero := (.fn 0 []) }),
 (47, { d := .other, sz := 1, by_ := 8, zero := (.fn 0 []) }),
 (49, { d := .other, sz := 1, by_ := 8, zero := (.fn 0 []) }),
 (50, { d := .other, sz := 1, by_ := 8, zero := (.fn 0 []) }),
 (51, { d := .other, sz := 1, by_ := 8, zero := (.fn 0 []) }),
 (52, { d := .other, sz := 1, by_ := 8, zero := (.fn 0 []) }),
 (53, { d := .other, sz := 1, by_ := 8, zero := (.fn 0 []) }),
 (54, { d := .other, sz := 1, by_ := 8, zero := (.fn 0 []) }),
 (55, { d := .other, sz := 1, by_ := 8, zero := (.fn 0 []) }),
 (56, { d := .other, sz := 1, by_ := 8, zero := (.fn 0 []) }),
 (57, { d := .other, sz := 1, by_ := 8, zero := (.fn 0 []) }),
 (58, { d := .other, sz := 1, by_ := 8, zero := (.fn 0 []) }),
 (59, { d := .slice 22, sz := 1, by_ := 24, zero := (.sl 22 []) }),
 (61, { d := .other, sz := 1, by_ := 8, zero := (.fn 0 []) }),
 (62, { d := .slice 25, sz := 1, by_ := 24, zero := (.sl 25 []) }),
 (64, { d := .other, sz := 1, by_ := 8, zero := (.fn 0 []) }),
 (65, { d := .other, sz := 1, by_ := 8, zero := (.fn 0 []) }),
 (66, { d := .other, sz := 1, by_ := 8, zero := (.fn 0 []) }),
 (67, { d := .other, sz := 1, by_ := 8, zero := (.fn 0 []) }),
 (68, { d := .other, sz := 1, by_ := 8, zero := (.fn 0 []) }),
 (69, { d := .other, sz := 1, by_ := 8, zero := (.fn 0 []) }),
 (70, { d := .other, sz := 1, by_ := 8, zero := (.fn 0 []) }),
 (71, { d := .other, sz := 1, by_ := 8, zero := (.fn 0 []) }),
 (72, { d := .other, sz := 1, by_ := 8, zero := (.fn 0 []) }),
 (73, { d := .other, sz := 1, by_ := 8, zero := (.fn 0 []) }),
 (74, { d := .other, sz := 1, by_ := 8, zero := (.fn 0 []) }),
 (75, { d := .other, sz := 1, by_ := 8, zero := (.fn 0 []) }),
 (76, { d := .other, sz := 1, by_ := 8, zero := (.fn 0 []) }),
 (77, { d := .other, sz := 1, by_ := 8, zero := (.fn 0 []) }),
 (78, { d := .other, sz := 1, by_ := 8, zero := (.fn 0 []) }),
 (80, { d := .other, sz := 1, by_ := 8, zero := (.fn 0 []) }),
 (81, { d := .other, sz := 1, by_ := 8, zero := (.fn 0 []) }),
 (82, { d := .other, sz := 1, by_ := 8, zero := (.fn 0 []) }),
 (83, { d := .other, sz := 1, by_ := 8, zero := (.fn 0 []) }),
 (84, { d := .other, sz := 1, by_ := 8, zero := (.fn 0 []) }),
 (85, { d := .other, sz := 1, by_ := 8, zero := (.fn 0 []) }),
 (86, { d := .other, sz := 1, by_ := 8, zero := (.fn 0 []) }),
 (87, { d := .other, sz := 1, by_ := 8, zero := (.fn 0 []) }),
 (89, { d := .other, sz := 1, by_ := 8, zero := (.fn 0 []) }),
 (90, { d := .other, sz := 1, by_ := 8, zero := (.fn 0 []) }),
 (92, { d := .other, sz := 1, by_ := 8, zero := (.fn 0 []) }),
 (93, { d := .other, sz := 1, by_ := 8, zero := (.fn 0 []) }),
 (94, { d := .other, sz := 1, by_ := 8, zero := (.fn 0 []) }),
 (95, { d := .int .u64, sz := 1, by_ := 8, zero := (.i .u64 0) }),
 (96, { d := .other, sz := 1, by_ := 8, zero := (.fn 0 []) }),
 (97, { d := .int .u32, sz := 1, by_ := 4, zero := (.i .u32 0) }),
 (98, { d := .int .u64, sz := 1, by_ := 8, zero := (.i .u64 0) }),
 (100, { d := .other, sz := 1, by_ := 8, zero := (.fn 0 []) }),
 (101, { d := .other, sz := 1, by_ := 8, zero := (.fn 0 []) }),
 (102, { d := .other, sz := 1, by_ := 8, zero := (.fn 0 []) }),
 (103, { d := .other, sz := 1, by_ := 8, zero := (.fn 0 []) }),
 (104, { d := .other, sz := 1, by_ := 8, zero := (.fn 0 []) }),
 (105, { d := .slice 3, sz := 1, by_ := 24, zero := (.sl 3 []) }),
 (107, { d := .other, sz := 1, by_ := 8, zero := (.fn 0 []) }),
 (109, { d := .other, sz := 1, by_ := 8, zero := (.fn 0 []) }),
 (110, { d := .other, sz := 1, by_ := 8, zero := (.fn 0 []) }),
 (111, { d := .other, sz := 1, by_ := 8, zero := (.fn 0 []) }),
 (112, { d := .other, sz := 1, by_ := 8, zero := (.fn 0 []) }),
 (114, { d := .other, sz := 1, by_ := 8, zero := (.fn 0 []) }),
 (115, { d := .other, sz := 1, by_ := 8, zero := (.fn 0 []) }),
 (116, { d := .other, sz := 1, by_ := 8, zero := (.fn 0 []) }),
 (117, { d := .other, sz := 1, by_ := 8, zero := (.fn 0 []) }),
 (118, { d := .other, sz := 1, by_ := 8, zero := (.fn 0 []) }),
 (120, { d := .other, sz := 1, by_ := 8, zero := (.fn 0 []) }),
 (122, { d := .other, sz := 1, by_ := 8, zero := (.fn 0 []) }),
 (123, { d := .other, sz := 1, by_ := 8, zero := (.fn 0 []) }),
 (124, { d := .other, sz := 1, by_ := 8, zero := (.fn 0 []) }),
 (125, { d := .other, sz := 1, by_ := 8, zero := (.fn 0 []) }),
 (126, { d := .other, sz := 1, by_ := 8, zero := (.fn 0 []) }),
 (127, { d := .other, sz := 1, by_ := 8, zero := (.fn 0 []) }),
 (128, { d := .other, sz := 1, by_ := 8, zero := (.fn 0 []) }),
 (129, { d := .other, sz := 1, by_ := 8, zero := (.fn 0 []) }),
 (130, { d := .other, sz := 1, by_ := 8, zero := (.fn 0 []) }),
 (131, { d := .other, sz := 1, by_ := 8, zero := (.fn 0 []) }),
 (132, { d := .other, sz := 1, by_ := 8, zero := (.fn 0 []) }),
 (133, { d := .other, sz := 1, by_ := 8, zero := (.fn 0 []) }),
 (134, { d := .other, sz := 1, by_ := 8, zero := (.fn 0 []) }),
 (135, { d := .other, sz := 1, by_ := 8, zero := (.fn 0 []) }),
 (136, { d := .other, sz := 1, by_ := 8, zero := (.fn 0 []) }),
 (137, { d := .other, sz := 1, by_ := 8, zero := (.fn 0 []) }),
 (138, { d := .other, sz := 1, by_ := 8, zero := (.fn 0 []) }),
 (139, { d := .arr 3 97, sz := 3, by_ := 12, zero := (.ag [(.i .u32 0), (.i .u32 0), (.i .u32 0)]) }),
 (140, { d := .other, sz := 1, by_ := 8, zero := (.fn 0 []) }),
 (142, { d := .other, sz := 1, by_ := 8, zero := (.fn 0 []) }),
 (144, { d := .other, sz := 1, by_ := 8, zero := (.fn 0 []) }),
 (145, { d := .other, sz := 1, by_ := 8, zero := (.fn 0 []) }),
 (146, { d := .int .i64, sz := 1, by_ := 8, zero := (.i .i64 0) }),
 (148, { d := .other, sz := 1, by_ := 8, zero := (.fn 0 []) }),
 (149, { d := .other, sz := 1, by_ := 8, zero := (.fn 0 []) }),
 (150, { d := .other, sz := 1, by_ := 8, zero := (.fn 0 []) }),
 (151, { d := .other, sz := 1, by_ := 8, zero := (.fn 0 []) }),
 (152, { d := .other, sz := 1, by_ := 8, zero := (.fn 0 []) }),
 (154, { d := .other, sz := 1, by_ := 8, zero := (.fn 0 []) }),
 (156, { d := .other, sz := 1, by_ := 8, zero := (.fn 0 []) }),
 (157, { d := .other, sz := 1, by_ := 8, zero := (.fn 0 []) }),
 (158, { d := .other, sz := 1, by_ := 8, zero := (.fn 0 []) }),
 (159, { d := .other, sz := 1, by_ := 8, zero := (.fn 0 []) }),
 (160, { d := .other, sz := 1, by_ := 8, zero := (.fn 0 []) }),
 (161, { d := .int .u64, sz := 1, by_ := 8, zero := (.i .u64 0) }),
 (162, { d := .other, sz := 1, by_ := 8, zero := (.fn 0 []) }),
 (163, { d := .other, sz := 1, by_ := 8, zero := (.fn 0 []) }),
 (164, { d := .other, sz := 1, by_ := 8, zero := (.fn 0 []) }),
 (165, { d := .ptr 3, sz := 1, by_ := 8, zero := (.fn 0 []) }),
 (166, { d := .other, sz := 1, by_ := 8, zero := (.fn 0 []) }),
 (167, { d := .ptr 161, sz := 1, by_ := 8, zero := (.fn 0 []) }),
 (169, { d := .other, sz := 1, by_ := 8, zero := (.fn 0 []) }),
 (170, { d := .other, sz := 1, by_ := 8, zero := (.fn 0 []) }),
 (176, { d := .other, sz := 1, by_ := 8, zero := (.fn 0 []) }),
 (179, { d := .other, sz := 1, by_ := 8, zero := (.fn 0 []) }),
 (180, { d := .ptr 5, sz := 1, by_ := 8, zero := (.fn 0 []) })]
theorem tbOk : TabOk Tryz.prog tb := AllOk.tab ⟨
⟨other_fn (by kernel_rfl), info_mk' (by kernel_rfl) rfl⟩,
 ⟨by dsimp only; kernel_rfl, info_mk (by kernel_rfl)⟩,
 ⟨by dsimp only; kernel_rfl, info_mk (by kernel_rfl)⟩,
 ⟨by dsimp only; kernel_rfl, info_mk (by kernel_rfl)⟩,
 ⟨by dsimp only; kernel_rfl, info_mk (by kernel_rfl)⟩,
 ⟨by dsimp only; kernel_rfl, info_mk (by kernel_rfl)⟩,
 ⟨by dsimp only; kernel_rfl, info_mk (by kernel_rfl)⟩,
 ⟨struct_mk (by kernel_rfl), info_mk (by kernel_rfl)⟩,
 ⟨struct_mk (by kernel_rfl), info_mk' (by kernel_rfl) rfl⟩,
 ⟨by dsimp only; kernel_rfl, info_mk (by kernel_rfl)⟩,
 ⟨by dsimp only; kernel_rfl, info_mk (by kernel_rfl)⟩,
 ⟨by dsimp only; kernel_rfl, info_mk (by kernel_rfl)⟩,
 ⟨struct_mk (by kernel_rfl), info_mk (by kernel_rfl)⟩,
 ⟨struct_mk (by kernel_rfl), info_mk (by kernel_rfl)⟩,
 ⟨struct_mk (by kernel_rfl), info_mk (by kernel_rfl)⟩,
 ⟨struct_mk (by kernel_rfl), info_mk (by kernel_rfl)⟩,
 ⟨other_fn (by kernel_rfl), info_mk' (by kernel_rfl) rfl⟩,
 ⟨other_fn (by kernel_rfl), info_mk' (by kernel_rfl) rfl⟩,
 ⟨other_fn (by kernel_rfl), info_mk' (by kernel_rfl) rfl⟩,
 ⟨other_fn (by kernel_rfl), info_mk' (by kernel_rfl) rfl⟩,
 ⟨other_fn (by kernel_rfl), info_mk' (by kernel_rfl) rfl⟩,
 ⟨other_fn (by kernel_rfl), info_mk' (by kernel_rfl) rfl⟩,
 ⟨other_fn (by kernel_rfl), info_mk' (by kernel_rfl) rfl⟩,
 ⟨other_fn (by kernel_rfl), info_mk' (by kernel_rfl) rfl⟩,
 ⟨other_fn (by kernel_rfl), info_mk' (by kernel_rfl) rfl⟩,
 ⟨other_fn (by kernel_rfl), info_mk' (by kernel_rfl) rfl⟩,
 ⟨other_fn (by kernel_rfl), info_mk' (by kernel_rfl) rfl⟩,
 ⟨other_fn (by kernel_rfl), info_mk' (by kernel_rfl) rfl⟩,
 ⟨by dsimp only; kernel_rfl, info_mk (by kernel_rfl)⟩,
 ⟨other_fn (by kernel_rfl), info_mk' (by kernel_rfl) rfl⟩,
 ⟨other_fn (by kernel_rfl), info_mk' (by kernel_rfl) rfl⟩,
 ⟨other_fn (by kernel_rfl), info_mk' (by kernel_rfl) rfl⟩,
 ⟨other_fn (by kernel_rfl), info_mk' (by kernel_rfl) rfl⟩,
 ⟨other_fn (by kernel_rfl), info_mk' (by kernel_rfl) rfl⟩,
 ⟨other_fn (by kernel_rfl), info_mk' (by kernel_rfl) rfl⟩,
 ⟨other_fn (by kernel_rfl), info_mk' (by kernel_rfl) rfl⟩,
 ⟨other_fn (by kernel_rfl), info_mk' (by kernel_rfl) rfl⟩,
 ⟨other_fn (by kernel_rfl), info_mk' (by kernel_rfl) rfl⟩,
 ⟨other_fn (by kernel_rfl), info_mk' (by kernel_rfl) rfl⟩,
 ⟨other_fn (by kernel_rfl), info_mk' (by kernel_rfl) rfl⟩,
 ⟨other_fn (by kernel_rfl), info_mk' (by kernel_rfl) rfl⟩,
 ⟨other_fn (by kernel_rfl), info_mk' (by kernel_rfl) rfl⟩,
 ⟨other_fn (by kernel_rfl), info_mk' (by kernel_rfl) rfl⟩,
 ⟨by dsimp only; kernel_rfl, info_mk (by kernel_rfl)⟩,
 ⟨other_fn (by kernel_rfl), info_mk' (by kernel_rfl) rfl⟩,
 ⟨by dsimp only; kernel_rfl, info_mk (by kernel_rfl)⟩,
 ⟨other_fn (by kernel_rfl), info_mk' (by kernel_rfl) rfl⟩,
 ⟨other_fn (by kernel_rfl), info_mk' (by kernel_rfl) rfl⟩,
 ⟨other_fn (by kernel_rfl), info_mk' (by kernel_rfl) rfl⟩,
 ⟨other_fn (by kernel_rfl), info_mk' (by kernel_rfl) rfl⟩,
 ⟨other_fn (by kernel_rfl), info_mk' (by kernel_rfl) rfl⟩,
 ⟨other_fn (by kernel_rfl), info_mk' (by kernel_rfl) rfl⟩,
 ⟨other_fn (by kernel_rfl), info_mk' (by kernel_rfl) rfl⟩,
 ⟨other_fn (by kernel_rfl), info_mk' (by kernel_rfl) rfl⟩,
 ⟨other_fn (by kernel_rfl), info_mk' (by kernel_rfl) rfl⟩,
 ⟨other_fn (by kernel_rfl), info_mk' (by kernel_rfl) rfl⟩,
 ⟨other_fn (by kernel_rfl), info_mk' (by kernel_rfl) rfl⟩,
 ⟨other_fn (by kernel_rfl), info_mk' (by kernel_rfl) rfl⟩,
 ⟨other_fn (by kernel_rfl), info_mk' (by kernel_rfl) rfl⟩,
 ⟨other_fn (by kernel_rfl), info_mk' (by kernel_rfl) rfl⟩,
 ⟨other_fn (by kernel_rfl), info_mk' (by kernel_rfl) rfl⟩,
 ⟨other_fn (by kernel_rfl), info_mk' (by kernel_rfl) rfl⟩,
 ⟨other_fn (by kernel_rfl), info_mk' (by kernel_rfl) rfl⟩,
 ⟨other_fn (by kernel_rfl), info_mk' (by kernel_rfl) rfl⟩,
 ⟨other_fn (by kernel_rfl), info_mk' (by kernel_rfl) rfl⟩,
 ⟨other_fn (by kernel_rfl), info_mk' (by kernel_rfl) rfl⟩,
 ⟨other_fn (by kernel_rfl), info_mk' (by kernel_rfl) rfl⟩,
 ⟨other_fn (by kernel_rfl), info_mk' (by kernel_rfl) rfl⟩,
 ⟨other_fn (by kernel_rfl), info_mk' (by kernel_rfl) rfl⟩,
 ⟨other_fn (by kernel_rfl), info_mk' (by kernel_rfl) rfl⟩,
 ⟨other_fn (by kernel_rfl), info_mk' (by kernel_rfl) rfl⟩,
 ⟨other_fn (by kernel_rfl), info_mk' (by kernel_rfl) rfl⟩,
 ⟨other_fn (by kernel_rfl), info_mk' (by kernel_rfl) rfl⟩,
 ⟨other_fn (by kernel_rfl), info_mk' (by kernel_rfl) rfl⟩,
 ⟨by dsimp only; kernel_rfl, info_mk (by kernel_rfl)⟩,
 ⟨other_fn (by kernel_rfl), info_mk' (by kernel_rfl) rfl⟩,
 ⟨by dsimp only; kernel_rfl, info_mk (by kernel_rfl)⟩,
 ⟨by dsimp only; kernel_rfl, info_mk (by kernel_rfl)⟩,
 ⟨other_fn (by kernel_rfl), info_mk' (by kernel_rfl) rfl⟩,
 ⟨other_fn (by kernel_rfl), info_mk' (by kernel_rfl) rfl⟩,
 ⟨other_fn (by kernel_rfl), info_mk' (by kernel_rfl) rfl⟩,
 ⟨other_fn (by kernel_rfl), info_mk' (by kernel_rfl) rfl⟩,
 ⟨other_fn (by kernel_rfl), info_mk' (by kernel_rfl) rfl⟩,
 ⟨by dsimp only; kernel_rfl, info_mk (by kernel_rfl)⟩,
 ⟨other_fn (by kernel_rfl), info_mk' (by kernel_rfl) rfl⟩,
 ⟨other_fn (by kernel_rfl), info_mk' (by kernel_rfl) rfl⟩,
 ⟨other_fn (by kernel_rfl), info_mk' (by kernel_rfl) rfl⟩,
 ⟨other_fn (by kernel_rfl), info_mk' (by kernel_rfl) rfl⟩,
 ⟨other_fn (by kernel_rfl), info_mk' (by kernel_rfl) rfl⟩,
 ⟨other_fn (by kernel_rfl), info_mk' (by kernel_rfl) rfl⟩,
 ⟨other_fn (by kernel_rfl), info_mk' (by kernel_rfl) rfl⟩,
 ⟨other_fn (by kernel_rfl), info_mk' (by kernel_rfl) rfl⟩,
 ⟨other_fn (by kernel_rfl), info_mk' (by kernel_rfl) rfl⟩,
 ⟨other_fn (by kernel_rfl), info_mk' (by kernel_rfl) rfl⟩,
 ⟨other_fn (by kernel_rfl), info_mk' (by kernel_rfl) rfl⟩,
 ⟨other_fn (by kernel_rfl), info_mk' (by kernel_rfl) rfl⟩,
 ⟨other_fn (by kernel_rfl), info_mk' (by kernel_rfl) rfl⟩,
 ⟨other_fn (by kernel_rfl), info_mk' (by kernel_rfl) rfl⟩,
 ⟨other_fn (by kernel_rfl), info_mk' (by kernel_rfl) rfl⟩,
 ⟨other_fn (by kernel_rfl), info_mk' (by kernel_rfl) rfl⟩,
 ⟨other_fn (by kernel_rfl), info_mk' (by kernel_rfl) rfl⟩,
 ⟨other_fn (by kernel_rfl), info_mk' (by kernel_rfl) rfl⟩,
 ⟨other_fn (by kernel_rfl), info_mk' (by kernel_rfl) rfl⟩,
 ⟨other_fn (by kernel_rfl), info_mk' (by kernel_rfl) rfl⟩,
 ⟨other_fn (by kernel_rfl), info_mk' (by kernel_rfl) rfl⟩,
 ⟨other_fn (by kernel_rfl), info_mk' (by kernel_rfl) rfl⟩,
 ⟨other_fn (by kernel_rfl), info_mk' (by kernel_rfl) rfl⟩,
 ⟨other_fn (by kernel_rfl), info_mk' (by kernel_rfl) rfl⟩,
 ⟨other_fn (by kernel_rfl), info_mk' (by kernel_rfl) rfl⟩,
 ⟨other_fn (by kernel_rfl), info_mk' (by kernel_rfl) rfl⟩,
 ⟨other_fn (by kernel_rfl), info_mk' (by kernel_rfl) rfl⟩,
 ⟨other_fn (by kernel_rfl), info_mk' (by kernel_rfl) rfl⟩,
 ⟨by dsimp only; kernel_rfl, info_mk (by kernel_rfl)⟩,
 ⟨other_fn (by kernel_rfl), info_mk' (by kernel_rfl) rfl⟩,
 ⟨other_fn (by kernel_rfl), info_mk' (by kernel_rfl) rfl⟩,
 ⟨other_fn (by kernel_rfl), info_mk' (by kernel_rfl) rfl⟩,
 ⟨other_fn (by kernel_rfl), info_mk' (by kernel_rfl) rfl⟩,
 ⟨by dsimp only; kernel_rfl, info_mk (by kernel_rfl)⟩,
 ⟨other_fn (by kernel_rfl), info_mk' (by kernel_rfl) rfl⟩,
 ⟨other_fn (by kernel_rfl), info_mk' (by kernel_rfl) rfl⟩,
 ⟨other_fn (by kernel_rfl), info_mk' (by kernel_rfl) rfl⟩,
 ⟨other_fn (by kernel_rfl), info_mk' (by kernel_rfl) rfl⟩,
 ⟨other_fn (by kernel_rfl), info_mk' (by kernel_rfl) rfl⟩,
 ⟨other_fn (by kernel_rfl), info_mk' (by kernel_rfl) rfl⟩,
 ⟨other_fn (by kernel_rfl), info_mk' (by kernel_rfl) rfl⟩,
 ⟨other_fn (by kernel_rfl), info_mk' (by kernel_rfl) rfl⟩,
 ⟨other_fn (by kernel_rfl), info_mk' (by kernel_rfl) rfl⟩,
 ⟨other_fn (by kernel_rfl), info_mk' (by kernel_rfl) rfl⟩,
 ⟨other_fn (by kernel_rfl), info_mk' (by kernel_rfl) rfl⟩,
 ⟨by dsimp only; kernel_rfl, info_mk (by kernel_rfl)⟩,
 ⟨other_fn (by kernel_rfl), info_mk' (by kernel_rfl) rfl⟩,
 ⟨other_fn (by kernel_rfl), info_mk' (by kernel_rfl) rfl⟩,
 ⟨other_fn (by kernel_rfl), info_mk' (by kernel_rfl) rfl⟩,
 ⟨by dsimp only; kernel_rfl, info_mk' (by kernel_rfl) rfl⟩,
 ⟨other_fn (by kernel_rfl), info_mk' (by kernel_rfl) rfl⟩,
 ⟨by dsimp only; kernel_rfl, info_mk' (by kernel_rfl) rfl⟩,
 ⟨other_fn (by kernel_rfl), info_mk' (by kernel_rfl) rfl⟩,
 ⟨other_fn (by kernel_rfl), info_mk' (by kernel_rfl) rfl⟩,
 ⟨other_fn (by kernel_rfl), info_mk' (by kernel_rfl) rfl⟩,
 ⟨other_fn (by kernel_rfl), info_mk' (by kernel_rfl) rfl⟩,
 ⟨by dsimp only; kernel_rfl, info_mk' (by kernel_rfl) rfl⟩, trivial⟩
abbrev T_int : Nat := 3
abbrev T_L_Rat : Nat := 22
abbrev T_Int : Nat := 25
abbrev T_Rat : Nat := 27
abbrev T_uint32 : Nat := 97
abbrev F_law03_QpolySums : Nat := 3
abbrev F_law03_QpolyDivides : Nat := 4
abbrev F_law03_QpolyCalculus : Nat := 5
abbrev F_law03_sane : Nat := 12
abbrev F_qpoly_Is : Nat := 13
abbrev F_ref03_Is : Nat := 14
abbrev F_law03_few : Nat := 15
abbrev F_law03_small : Nat := 16
abbrev F_qpoly_Deg : Nat := 17
abbrev F_ref03_Deg : Nat := 18
abbrev F_ref02_Same : Nat := 19
abbrev F_qpoly_Lead : Nat := 20
abbrev F_ref03_Lead : Nat := 21
abbrev F_ref03_Same : Nat := 22
abbrev F_qpoly_Const : Nat := 23
abbrev F_ref03_Const : Nat := 24
abbrev F_qpoly_Scale : Nat := 25
abbrev F_ref03_Scale : Nat := 26
abbrev F_qpoly_Add : Nat := 27
abbrev F_ref03_Add : Nat := 28
abbrev F_qpoly_Sub : Nat := 29
abbrev F_ref03_Sub : Nat := 30
abbrev F_qpoly_Mul : Nat := 31
abbrev F_ref03_Mul : Nat := 32
abbrev F_qpoly_Div : Nat := 33
abbrev F_ref03_Div : Nat := 34
abbrev F_qpoly_Bezout : Nat := 35
abbrev F_ref03_Bezout : Nat := 36
abbrev F_qpoly_Monic : Nat := 37
abbrev F_ref03_Monic : Nat := 38
abbrev F_qpoly_Gcd : Nat := 39
abbrev F_qpoly_Compose : Nat := 40
abbrev F_ref03_Compose : Nat := 41
abbrev F_qpoly_Eval : Nat := 42
abbrev F_ref03_Eval : Nat := 43
abbrev F_qpoly_Deriv : Nat := 44
abbrev F_ref03_Deriv : Nat := 45
abbrev F_qpoly_Integral : Nat := 46
abbrev F_ref03_Integral : Nat := 47
abbrev F_qpoly_Pow : Nat := 48
abbrev F_ref03_Pow : Nat := 49
abbrev F_qpoly_Resultant : Nat := 50
abbrev F_ref02_Int : Nat := 53
abbrev F_ref02_Sign : Nat := 54
abbrev F_ref02_Mul : Nat := 55
abbrev F_qpoly_Squarefree : Nat := 56
abbrev F_qpoly_Primitive : Nat := 58
abbrev F_ref02_Is : Nat := 59
abbrev F_ref01_Of : Nat := 60
abbrev F_ref01_Is : Nat := 61
abbrev F_ref02_Whole : Nat := 62
abbrev F_ref01_Gcd : Nat := 63
abbrev F_ref01_Same : Nat := 64
abbrev F_ref01_Sign : Nat := 65
abbrev F_qpoly_Roots : Nat := 66
abbrev F_ref02_SameAll : Nat := 68
abbrev F_ref02_Add : Nat := 69
abbrev F_law03_poly : Nat := 74
abbrev F_law03_half : Nat := 75
abbrev F_rat_Is : Nat := 76
abbrev F_qpoly_zero : Nat := 77
abbrev F_ref02_All : Nat := 78
abbrev F_qpoly_whole : Nat := 79
abbrev F_ref03_At : Nat := 80
abbrev F_qpoly_trimmed : Nat := 81
abbrev F_ref03_Trim : Nat := 82
abbrev F_qpoly_mapped_api_Rat : Nat := 83
abbrev F_qpoly_Scale_c1 : Nat := 84
abbrev F_rat_Mul : Nat := 85
abbrev F_qpoly_Add_c1 : Nat := 86
abbrev F_rat_Add : Nat := 87
abbrev F_qpoly_at : Nat := 88
abbrev F_qpoly_Sub_c1 : Nat := 89
abbrev F_rat_Sub : Nat := 90
abbrev F_qpoly_Mul_c1 : Nat := 91
abbrev F_ref03_Raise : Nat := 92
abbrev F_qpoly_Div_c1 : Nat := 93
abbrev F_qpoly_Div_c2 : Nat := 94
abbrev F_qpoly_Div_c3 : Nat := 95
abbrev F_rat_Div : Nat := 96
abbrev F_ref02_Quo : Nat := 97
abbrev F_qpoly_steps : Nat := 98
abbrev F_ref03_Mod : Nat := 99
abbrev F_ref03_Quo : Nat := 100
abbrev F_qpoly_Deriv_c1 : Nat := 101
abbrev F_qpoly_Integral_c1 : Nat := 102
abbrev F_rat_Pow : Nat := 103
abbrev F_rat_Neg : Nat := 104
abbrev F_ref01_Neg : Nat := 106
abbrev F_ref02_over : Nat := 107
abbrev F_ref01_Mul : Nat := 108
abbrev F_rat_Common : Nat := 110
abbrev F_num_Of : Nat := 111
abbrev F_num_Gcd : Nat := 112
abbrev F_num_Sign : Nat := 113
abbrev F_num_Neg : Nat := 114
abbrev F_qpoly_mapped_api_Int : Nat := 115
abbrev F_qpoly_Primitive_c1 : Nat := 116
abbrev F_num_Div : Nat := 117
abbrev F_rat_Make : Nat := 118
abbrev F_ref02_one : Nat := 119
abbrev F_ref01_made : Nat := 120
abbrev F_ref01_Abs : Nat := 121
abbrev F_ref01_native : Nat := 122
abbrev F_ref01_Mod : Nat := 123
abbrev F_qpoly_size : Nat := 124
abbrev F_num_Add : Nat := 125
abbrev F_num_Abs : Nat := 126
abbrev F_qpoly_primes : Nat := 127
abbrev F_qpoly_simple : Nat := 128
abbrev F_qpoly_lifted : Nat := 129
abbrev F_num_Mul : Nat := 130
abbrev F_qpoly_modulo : Nat := 131
abbrev F_num_Cmp : Nat := 132
abbrev F_num_Sub : Nat := 133
abbrev F_slices_SortFunc : Nat := 134
abbrev F_rat_Cmp : Nat := 135
abbrev F_ref02_isOne : Nat := 136
abbrev F_ref01_Add : Nat := 138
abbrev F_ref02_Of : Nat := 141
abbrev F_num_Is : Nat := 142
abbrev F_rat_one : Nat := 143
abbrev F_rat_Sign : Nat := 144
abbrev F_rat_Whole : Nat := 145
abbrev F_rat_over : Nat := 146
abbrev F_rat_isOne : Nat := 147
abbrev F_rat_inverse : Nat := 148
abbrev F_ref02_Div : Nat := 149
abbrev F_qpoly_steps_c1 : Nat := 150
abbrev F_num_Bits : Nat := 151
abbrev F_num_Pow : Nat := 152
abbrev F_ref01_Quo : Nat := 154
abbrev F_ref01_mulWords : Nat := 155
abbrev F_rat_multiple : Nat := 156
abbrev F_rat_whole : Nat := 157
abbrev F_num_natural : Nat := 158
abbrev F_num_all : Nat := 159
abbrev F_num_pair : Nat := 160
abbrev F_num_parted : Nat := 161
abbrev F_num_made : Nat := 162
abbrev F_num_signed : Nat := 163
abbrev F_ref01_trim : Nat := 164
abbrev F_ref01_word : Nat := 165
abbrev F_ref01_Div : Nat := 166
abbrev F_qpoly_primes_c1 : Nat := 167
abbrev F_qpoly_small : Nat := 168
abbrev F_qpoly_value : Nat := 169
abbrev F_qpoly_inverse : Nat := 170
abbrev F_num_times : Nat := 171
abbrev F_num_compared : Nat := 172
abbrev F_slices_pdqsortCmpFunc_api_Rat : Nat := 173
abbrev F_bits_Len : Nat := 174
abbrev F_ref01_cmpWords : Nat := 175
abbrev F_ref01_addWords : Nat := 176
abbrev F_ref01_subWords : Nat := 177
abbrev F_ref02_Make : Nat := 178
abbrev F_bits_Len32 : Nat := 180
abbrev F_num_words : Nat := 181
abbrev F_num_short : Nat := 182
abbrev F_bits_LeadingZeros32 : Nat := 183
abbrev F_num_shifted : Nat := 184
abbrev F_num_guess : Nat := 185
abbrev F_num_take : Nat := 186
abbrev F_num_word : Nat := 187
abbrev F_num_plus : Nat := 188
abbrev F_num_minus : Nat := 189
abbrev F_ref01_divWords : Nat := 190
abbrev F_num_Small : Nat := 191
abbrev F_slices_insertionSortCmpFunc_api_Rat : Nat := 192
abbrev F_bits_Len64 : Nat := 200
abbrev F_bits_Sub64 : Nat := 201
abbrev F_bits_Add32 : Nat := 202
abbrev F_num_zipped_uint32 : Nat := 203
abbrev F_num_plus_c1 : Nat := 204
abbrev F_num_minus_c1 : Nat := 205
abbrev F_bits_Sub32 : Nat := 206
abbrev F_ref01_byWord : Nat := 207
abbrev F_ref01_bitsOf : Nat := 208
abbrev F_ref01_shifted : Nat := 209
abbrev F_ref01_unshifted : Nat := 210
end Go.Proofs.YtacenhlcfeepgaaGreat
namespace Go.Proofs.YtacenhlcfeepgaaGreat.Eng
open Go
section
variable {P : Program} {tb : Tab} {hb : Heap} {g : Operand → Option AV} {h : Heap} {nx : Nat}
theorem QEv.moveR {x ty v} (ya : g x = some v := by exact rfl) : QEv P tb hb g (.move x) ty (.val v) := .move _ _ _  ya
theorem QEv.assignR {x ty v} (ya : g x = some v := by exact rfl) : QEv P tb hb g (.assign x) ty (.val v) := .assign _ _ _  ya
theorem QEv.allocR {T ty ti id} (ya : get tb T = some ti := by exact rfl) (yb : ti.zero.zeroOk = true := by exact rfl) (yc : (ti.zero.cells.length == ti.sz) = true := by exact rfl) : QEv P tb hb g (.alloc T) ty (.new (.ptr T id 0 0) id (.arr T [.t ti.zero])) := .alloc _ _ _ _  ya yb yc
theorem QEv.allocNilR {T ty ti id e} (ya : get tb T = some ti := by exact rfl) (yb : ti.d = .slice e := by exact rfl) (yc : ti.zero = .sl e [] := by exact rfl) (yd : ti.sz = 1 := by exact rfl) : QEv P tb hb g (.alloc T) ty (.new (.ptr T id 0 0) id (.arr T [.nilS])) := .allocNil _ _ _ _ _  ya yb yc yd
theorem QEv.boxR {T x ty ti t} (ya : get tb T = some ti := by exact rfl) (yb : AsTr g x t := by exact rfl) (yc : t.cells.length = ti.sz := by exact rfl) : QEv P tb hb g (.box T x) ty (.val (.t (.pt t))) := .box _ _ _ _ _  ya yb yc
theorem QEv.boxMR {T x ty ti t id} (ya : get tb T = some ti := by exact rfl) (yb : AsTr g x t := by exact rfl) (yc : t.cells.length = ti.sz := by exact rfl) : QEv P tb hb g (.box T x) ty (.new (.ptr T id 0 0) id (.arr T [.t t])) := .boxM _ _ _ _ _ _  ya yb yc
theorem QEv.buildR {T parts ty ti fs zl ts l} (ya : get tb T = some ti := by exact rfl) (yb : ti.d = .struct fs := by exact rfl) (yc : (fs.all fun x => (get tb x.1).isSome) = true := by exact rfl) (yd : ti.zero = .ag zl := by exact rfl) (ye : ti.zero.zeroOk = true := by exact rfl) (yf : AsTrs g (parts.toList.map (·.2)) ts := by exact rfl) (yg : fillTr fs tb zl ((parts.toList.map (·.1)).zip ts) = some l := by exact rfl) : QEv P tb hb g (.build T parts) ty (.val (.t (.ag l))) := .build _ _ _ _ _ _ _ _  ya yb yc yd ye yf yg
theorem QEv.buildAR {T parts ty ti m e tie zl ts l} (ya : get tb T = some ti := by exact rfl) (yb : ti.d = .arr m e := by exact rfl) (yc : get tb e = some tie := by exact rfl) (yd : ti.zero = .ag zl := by exact rfl) (ye : ti.zero.zeroOk = true := by exact rfl) (yf : AsTrs g (parts.toList.map (·.2)) ts := by exact rfl) (yg : fillTr ((List.range m).map fun i => (e, i * tie.sz)) tb zl ((parts.toList.map (·.1)).zip ts) = some l := by exact rfl) : QEv P tb hb g (.build T parts) ty (.val (.t (.ag l))) := .buildA _ _ _ _ _ _ _ _ _ _  ya yb yc yd ye yf yg
theorem QEv.indexSR {T x ix ty ti s k n b} (yc : g x = some (.t (.s s)) := by exact rfl) (yd : g ix = some (.t (.i k n)) := by exact rfl) (ya : get tb T = some ti := by exact rfl) (yb : ti.d = .str := by exact rfl) (ye : 0 ≤ n := by exact rfl) (yf : s[n.toNat]? = some b := by exact rfl) : QEv P tb hb g (.index T x ix) ty (.val (.t (.i .u8 b.toNat))) := .indexS _ _ _ _ _ _ _ _ _  ya yb yc yd ye yf
theorem QEv.buildSliceR {T n parts ty ti tie e ts} (ya : get tb T = some ti := by exact rfl) (yb : ti.d = .slice e := by exact rfl) (yc : get tb e = some tie := by exact rfl) (yd : parts.toList.map (·.1) = List.range n := by exact rfl) (ye : AsTrs g (parts.toList.map (·.2)) ts := by exact rfl) (yf : (ts.all fun t => t.cells.length == tie.sz) = true := by exact rfl) (yg : 0 < tie.sz := by exact rfl) (yh : (tie.zero.cells.length == tie.sz) = true := by exact rfl) (yi : tie.zero.zeroOk = true := by exact rfl) (yj : n * tie.sz ≤ 16777216 := by exact rfl) (yk : n * tie.by_ ≤ 140737488355328 := by exact rfl) : QEv P tb hb g (.buildSlice T n parts) ty (.val (.t (.sl e ts))) := .buildSlice _ _ _ _ _ _ _ _  ya yb yc yd ye yf yg yh yi yj yk
theorem QEv.buildSliceMR {T n parts ty ti tie e ts id} (ya : get tb T = some ti := by exact rfl) (yb : ti.d = .slice e := by exact rfl) (yc : get tb e = some tie := by exact rfl) (yd : parts.toList.map (·.1) = List.range n := by exact rfl) (ye : AsTrs g (parts.toList.map (·.2)) ts := by exact rfl) (yf : (ts.all fun t => t.cells.length == tie.sz) = true := by exact rfl) (yg : 0 < tie.sz := by exact rfl) (yh : (tie.zero.cells.length == tie.sz) = true := by exact rfl) (yi : tie.zero.zeroOk = true := by exact rfl) (yj : n * tie.sz ≤ 16777216 := by exact rfl) (yk : n * tie.by_ ≤ 140737488355328 := by exact rfl) : QEv P tb hb g (.buildSlice T n parts) ty (.new (.own e id 0 n) id (.arr e (ts.map .t))) := .buildSliceM _ _ _ _ _ _ _ _ _  ya yb yc yd ye yf yg yh yi yj yk
theorem QEv.loadR {T x ty ti t} (yb : g x = some (.t (.pt t)) := by exact rfl) (ya : get tb T = some ti := by exact rfl) (yc : fits ti t = true := by exact rfl) : QEv P tb hb g (.load T x) ty (.val (.t t)) := .load _ _ _ _ _  ya yb yc
theorem QEv.loadPR {T x ty ti e id idx l t} (yb : g x = some (.ptr e id idx 0) := by exact rfl) (yc : get hb id = some (some (.arr e l)) := by exact rfl) (ya : get tb T = some ti := by exact rfl) (yd : l[idx]? = some (.t t) := by exact rfl) (ye : fits ti t = true := by exact rfl) : QEv P tb hb g (.load T x) ty (.val (.t t)) := .loadP _ _ _ _ _ _ _ _ _  ya yb yc yd ye
theorem QEv.loadFR {T x ty ti e id idx off l t u} (yb : g x = some (.ptr e id idx off) := by exact rfl) (yc : get hb id = some (some (.arr e l)) := by exact rfl) (ya : get tb T = some ti := by exact rfl) (yd : l[idx]? = some (.t (.ag u)) := by exact rfl) (ye : Tr.part off ti.sz ti.agg (.ag u) = some t := by exact rfl) (yf : (ti.agg || ti.sz == 1) = true := by exact rfl) : QEv P tb hb g (.load T x) ty (.val (.t t)) := .loadF _ _ _ _ _ _ _ _ _ _ _  ya yb yc yd ye yf
theorem QEv.loadVR {T x ty ti e id idx l v} (yb : g x = some (.ptr e id idx 0) := by exact rfl) (yc : get hb id = some (some (.arr e l)) := by exact rfl) (ya : get tb T = some ti := by exact rfl) (yd : l[idx]? = some v := by exact rfl) (ye : ti.agg = false := by exact rfl) (yf : (∀ t, v ≠ .t t) := by exact rfl) : QEv P tb hb g (.load T x) ty (.val v) := .loadV _ _ _ _ _ _ _ _ _  ya yb yc yd ye yf
theorem QEv.fieldAddrR {T x f ty t u} (ya : g x = some (.t (.pt t)) := by exact rfl) (yb : fieldOf tb T f t = some u := by exact rfl) : QEv P tb hb g (.fieldAddr T x f) ty (.val (.t (.pt u))) := .fieldAddr _ _ _ _ _ _  ya yb
theorem QEv.fieldAddrPR {T x f ty ti fs ft off o e id idx tif} (yf : g x = some (.ptr e id idx o) := by exact rfl) (ya : get tb T = some ti := by exact rfl) (yb : ti.d = .struct fs := by exact rfl) (yc : fs[f]? = some (ft, off) := by exact rfl) (yd : get tb ft = some tif := by exact rfl) (ye : 0 < tif.sz := by exact rfl) : QEv P tb hb g (.fieldAddr T x f) ty (.val (.ptr e id idx (o + off))) := .fieldAddrP _ _ _ _ _ _ _ _ _ _ _ _ _  ya yb yc yd ye yf
theorem QEv.indexAddrR {T x ix ty ti tie e l k n t} (yd : g x = some (.t (.sl e l)) := by exact rfl) (ye : g ix = some (.t (.i k n)) := by exact rfl) (ya : get tb T = some ti := by exact rfl) (yb : ti.d = .slice e := by exact rfl) (yc : get tb e = some tie := by exact rfl) (yf : 0 ≤ n := by exact rfl) (yg : l[n.toNat]? = some t := by exact rfl) : QEv P tb hb g (.indexAddr T x ix) ty (.val (.t (.pt t))) := .indexAddr _ _ _ _ _ _ _ _ _ _ _  ya yb yc yd ye yf yg
theorem QEv.indexAddrOR {T x ix ty ti tie e id off len k n} (yd : g x = some (.own e id off len) := by exact rfl) (ye : g ix = some (.t (.i k n)) := by exact rfl) (ya : get tb T = some ti := by exact rfl) (yb : ti.d = .slice e := by exact rfl) (yc : get tb e = some tie := by exact rfl) (yf : 0 ≤ n := by exact rfl) (yg : n < len := by exact rfl) : QEv P tb hb g (.indexAddr T x ix) ty (.val (.ptr e id (off + n.toNat) 0)) := .indexAddrO _ _ _ _ _ _ _ _ _ _ _ _  ya yb yc yd ye yf yg
theorem QEv.indexAddrAR {T x ix ty ti tie e l k n m t} (yf : g x = some (.t (.pt (.ag l))) := by exact rfl) (yh : g ix = some (.t (.i k n)) := by exact rfl) (ya : get tb T = some ti := by exact rfl) (yb : ti.d = .arr m e := by exact rfl) (yc : get tb e = some tie := by exact rfl) (yd : tie.sz = 1 := by exact rfl) (ye : tie.agg = false := by exact rfl) (yg : l.length = m := by exact rfl) (yi : 0 ≤ n := by exact rfl) (yj : l[n.toNat]? = some t := by exact rfl) (yk : t.leaf = true := by exact rfl) : QEv P tb hb g (.indexAddr T x ix) ty (.val (.t (.pt t))) := .indexAddrA _ _ _ _ _ _ _ _ _ _ _ _  ya yb yc yd ye yf yg yh yi yj yk
theorem QEv.sliceR {T x lo hi ty ti tie e l} {nl nh : Int} (ya : get tb T = some ti := by exact rfl) (yb : ti.d = .slice e := by exact rfl) (yc : get tb e = some tie := by exact rfl) (yd : AsTr g x (.sl e l) := by exact rfl) (ye : BdIs g lo nl 0 := by exact rfl) (yf : BdIs g hi nh l.length := by exact rfl) (yg : 0 ≤ nl := by exact rfl) (yh : nl ≤ nh := by exact rfl) (yi : nh ≤ l.length := by exact rfl) : QEv P tb hb g (.slice T x lo hi none) ty (.val (.t (.sl e ((l.take nh.toNat).drop nl.toNat)))) := .slice _ _ _ _ _ _ _ _ _ _ _  ya yb yc yd ye yf yg yh yi
theorem QEv.sliceXR {T x lo y mx ty ti tie e l ky km} {nl nh nm : Int} (yf : g y = some (.t (.i ky nh)) := by exact rfl) (yg : g mx = some (.t (.i km nm)) := by exact rfl) (ya : get tb T = some ti := by exact rfl) (yb : ti.d = .slice e := by exact rfl) (yc : get tb e = some tie := by exact rfl) (yd : AsTr g x (.sl e l) := by exact rfl) (ye : BdIs g lo nl 0 := by exact rfl) (yh : 0 ≤ nl := by exact rfl) (yi : nl ≤ nh := by exact rfl) (yj : nh ≤ nm := by exact rfl) (yk : nm ≤ l.length := by exact rfl) : QEv P tb hb g (.slice T x lo (some y) (some mx)) ty (.val (.t (.sl e ((l.take nh.toNat).drop nl.toNat)))) := .sliceX _ _ _ _ _ _ _ _ _ _ _ _ _ _ _  ya yb yc yd ye yf yg yh yi yj yk
theorem QEv.sliceOR {T x lo hi ty ti tie e id off len} {nl nh : Int} (yd : g x = some (.own e id off len) := by exact rfl) (ya : get tb T = some ti := by exact rfl) (yb : ti.d = .slice e := by exact rfl) (yc : get tb e = some tie := by exact rfl) (ye : BdIs g lo nl 0 := by exact rfl) (yf : BdIs g hi nh len := by exact rfl) (yg : 0 ≤ nl := by exact rfl) (yh : nl ≤ nh := by exact rfl) (yi : nh ≤ len := by exact rfl) (yj : (nl < nh ∨ nl = 0) := by exact rfl) : QEv P tb hb g (.slice T x lo hi none) ty (.val (.own e id (off + nl.toNat) (nh - nl).toNat)) := .sliceO _ _ _ _ _ _ _ _ _ _ _ _ _  ya yb yc yd ye yf yg yh yi yj
theorem QEv.makeSliceR {T x y ty ti tie e kx ky n id} (yg : g x = some (.t (.i kx n)) := by exact rfl) (yh : g y = some (.t (.i ky n)) := by exact rfl) (ya : get tb T = some ti := by exact rfl) (yb : ti.d = .slice e := by exact rfl) (yc : get tb e = some tie := by exact rfl) (yd : tie.zero.zeroOk = true := by exact rfl) (ye : (tie.zero.cells.length == tie.sz) = true := by exact rfl) (yf : 0 < tie.sz := by exact rfl) (yi : 0 ≤ n := by exact rfl) (yj : n * tie.by_ ≤ 140737488355328 := by exact rfl) (yk : n ≤ 9223372036854775807 := by exact rfl) : QEv P tb hb g (.makeSlice T x y) ty (.new (.own e id 0 n.toNat) id (.arr e (List.replicate n.toNat (.t tie.zero)))) := .makeSlice _ _ _ _ _ _ _ _ _ _ _  ya yb yc yd ye yf yg yh yi yj yk
theorem QEv.makeSlice0R {T x y ty ti tie e kx ky m id} (yg : g x = some (.t (.i kx 0)) := by exact rfl) (yh : g y = some (.t (.i ky m)) := by exact rfl) (ya : get tb T = some ti := by exact rfl) (yb : ti.d = .slice e := by exact rfl) (yc : get tb e = some tie := by exact rfl) (yd : tie.zero.zeroOk = true := by exact rfl) (ye : (tie.zero.cells.length == tie.sz) = true := by exact rfl) (yf : 0 < tie.sz := by exact rfl) (yi : 0 ≤ m := by exact rfl) (yj : m * tie.by_ ≤ 281474976710656 := by exact rfl) (yk : m ≤ 9223372036854775807 := by exact rfl) : QEv P tb hb g (.makeSlice T x y) ty (.new (.own e id 0 0) id (.arr e [])) := .makeSlice0 _ _ _ _ _ _ _ _ _ _ _  ya yb yc yd ye yf yg yh yi yj yk
theorem QEv.arithR {op T x y ty ty2 k a b r} {n : Int} (ya : g x = some (.t (.i k a)) := by exact rfl) (yb : g y = some (.t (.i k b)) := by exact rfl) (yc : Eng.arith op a b = some r := by exact rfl) (yd : k.wrap r = n := by exact rfl) : QEv P tb hb g (.binOp op T x y ty2) ty (.val (.t (.i k n))) := .arith _ _ _ _ _ _ _ _ _ _ _  ya yb yc yd
theorem QEv.cmpR {op T x y ty ty2 k a b r} (ya : g x = some (.t (.i k a)) := by exact rfl) (yb : g y = some (.t (.i k b)) := by exact rfl) (yc : cmpTr op a b = some r := by exact rfl) : QEv P tb hb g (.binOp op T x y ty2) ty (.val (.t (.b r))) := .cmp _ _ _ _ _ _ _ _ _ _  ya yb yc
theorem QEv.quoR {T x y ty ty2 k a b} {n : Int} (ya : g x = some (.t (.i k a)) := by exact rfl) (yb : g y = some (.t (.i k b)) := by exact rfl) (yc : b ≠ 0 := by exact rfl) (yd : k.wrap (a.tdiv b) = n := by exact rfl) : QEv P tb hb g (.binOp .quo T x y ty2) ty (.val (.t (.i k n))) := .quo _ _ _ _ _ _ _ _ _  ya yb yc yd
theorem QEv.remR {T x y ty ty2 k a b} {n : Int} (ya : g x = some (.t (.i k a)) := by exact rfl) (yb : g y = some (.t (.i k b)) := by exact rfl) (yc : b ≠ 0 := by exact rfl) (yd : a.tmod b = n := by exact rfl) : QEv P tb hb g (.binOp .rem T x y ty2) ty (.val (.t (.i k n))) := .rem _ _ _ _ _ _ _ _ _  ya yb yc yd
theorem QEv.bitsR {op T x y ty ty2 k a b r} {n : Int} (ya : g x = some (.t (.i k a)) := by exact rfl) (yb : g y = some (.t (.i k b)) := by exact rfl) (yc : bitsTr op k a b = some r := by exact rfl) (yd : r = n := by exact rfl) : QEv P tb hb g (.binOp op T x y ty2) ty (.val (.t (.i k n))) := .bits _ _ _ _ _ _ _ _ _ _ _  ya yb yc yd
theorem QEv.shlR {T x y ty ty2 k k2 a b} {n : Int} (ya : g x = some (.t (.i k a)) := by exact rfl) (yb : g y = some (.t (.i k2 b)) := by exact rfl) (yc : 0 ≤ b := by exact rfl) (yd : k.wrap (a * 2 ^ (Min.min b.toNat k.bits)) = n := by exact rfl) : QEv P tb hb g (.binOp .shl T x y ty2) ty (.val (.t (.i k n))) := .shl _ _ _ _ _ _ _ _ _ _  ya yb yc yd
theorem QEv.shrR {T x y ty ty2 k k2 a b} {n : Int} (ya : g x = some (.t (.i k a)) := by exact rfl) (yb : g y = some (.t (.i k2 b)) := by exact rfl) (yc : 0 ≤ b := by exact rfl) (yd : a.fdiv (2 ^ (Min.min b.toNat k.bits)) = n := by exact rfl) : QEv P tb hb g (.binOp .shr T x y ty2) ty (.val (.t (.i k n))) := .shr _ _ _ _ _ _ _ _ _ _  ya yb yc yd
theorem QEv.eqBR {T x y ty ty2 ti a b} (yc : g x = some (.t (.b a)) := by exact rfl) (yd : g y = some (.t (.b b)) := by exact rfl) (ya : get tb T = some ti := by exact rfl) (yb : ti.d = .bool := by exact rfl) : QEv P tb hb g (.binOp .eql T x y ty2) ty (.val (.t (.b (a == b)))) := .eqB _ _ _ _ _ _ _ _  ya yb yc yd
theorem QEv.neBR {T x y ty ty2 ti a b} (yc : g x = some (.t (.b a)) := by exact rfl) (yd : g y = some (.t (.b b)) := by exact rfl) (ya : get tb T = some ti := by exact rfl) (yb : ti.d = .bool := by exact rfl) : QEv P tb hb g (.binOp .neq T x y ty2) ty (.val (.t (.b (a != b)))) := .neB _ _ _ _ _ _ _ _  ya yb yc yd
theorem QEv.negR {T x ty k a} {n : Int} (ya : g x = some (.t (.i k a)) := by exact rfl) (yb : k.wrap (0 - a) = n := by exact rfl) : QEv P tb hb g (.unOp .neg T x) ty (.val (.t (.i k n))) := .neg _ _ _ _ _ _  ya yb
theorem QEv.complR {T x ty k a r} {n : Int} (ya : g x = some (.t (.i k a)) := by exact rfl) (yb : bitsTr .xor k (if k.signed then -1 else k.max) a = some r := by exact rfl) (yc : r = n := by exact rfl) : QEv P tb hb g (.unOp .xor T x) ty (.val (.t (.i k n))) := .compl _ _ _ _ _ _ _  ya yb yc
theorem QEv.notR {T x ty b} (ya : g x = some (.t (.b b)) := by exact rfl) : QEv P tb hb g (.unOp .not T x) ty (.val (.t (.b (!b)))) := .not _ _ _ _  ya
theorem QEv.convR {A B x ty ta tbi ka kb k a} {n : Int} (ye : g x = some (.t (.i k a)) := by exact rfl) (ya : get tb A = some ta := by exact rfl) (yb : ta.d = .int ka := by exact rfl) (yc : get tb B = some tbi := by exact rfl) (yd : tbi.d = .int kb := by exact rfl) (yf : kb.wrap a = n := by exact rfl) : QEv P tb hb g (.convert A B x) ty (.val (.t (.i kb n))) := .conv _ _ _ _ _ _ _ _ _ _ _  ya yb yc yd ye yf
theorem QEv.fnR {f caps ty ts} (ya : AsTrs g caps.toList ts := by exact rfl) : QEv P tb hb g (.makeFunc (.func f) #[] caps) ty (.val (.t (.fn f ts))) := .fn _ _ _ _  ya
theorem QEv.cloR {f caps ty vs} (ya : AsAVs g caps.toList vs := by exact rfl) : QEv P tb hb g (.makeFunc (.func f) #[] caps) ty (.val (.clo f vs)) := .clo _ _ _ _  ya
theorem QEv.extractR {x ix ty l t} (ya : g x = some (.t (.tu l)) := by exact rfl) (yb : l[ix]? = some t := by exact rfl) : QEv P tb hb g (.extract x ix) ty (.val (.t t)) := .extract _ _ _ _ _  ya yb
theorem QEv.lenR {T x ty ti e l} {n : Nat} (ya : get tb T = some ti := by exact rfl) (yb : ti.d = .slice e := by exact rfl) (yc : AsTr g x (.sl e l) := by exact rfl) (yd : l.length = n := by exact rfl) : QEv P tb hb g (.call { callee := .builtin .len, args := #[x], argTypes := #[T] }) ty (.val (.t (.i .i64 n))) := .len _ _ _ _ _ _ _  ya yb yc yd
theorem QEv.lenOR {T x ty ti e e2 id off n} (yc : g x = some (.own e2 id off n) := by exact rfl) (ya : get tb T = some ti := by exact rfl) (yb : ti.d = .slice e := by exact rfl) : QEv P tb hb g (.call { callee := .builtin .len, args := #[x], argTypes := #[T] }) ty (.val (.t (.i .i64 n))) := .lenO _ _ _ _ _ _ _ _ _  ya yb yc
theorem QEv.maxR {ts ty x y k a b} (ya : g x = some (.t (.i k a)) := by exact rfl) (yb : g y = some (.t (.i k b)) := by exact rfl) : QEv P tb hb g (.call { callee := .builtin .max, args := #[x, y], argTypes := ts }) ty (.val (.t (.i k (Max.max a b)))) := .max _ _ _ _ _ _ _  ya yb
theorem QEv.minR {ts ty x y k a b} (ya : g x = some (.t (.i k a)) := by exact rfl) (yb : g y = some (.t (.i k b)) := by exact rfl) : QEv P tb hb g (.call { callee := .builtin .min, args := #[x, y], argTypes := ts }) ty (.val (.t (.i k (Min.min a b)))) := .min _ _ _ _ _ _ _  ya yb
theorem QEv.callR {f fx args tys ty caps ts t} (ya : g fx = some (.t (.fn f caps)) := by exact rfl) (yb : AsTrs g args.toList ts := by exact rfl) (yc : FnP P tb f (ts ++ caps) t := by exact rfl) : QEv P tb hb g (.call { callee := .value fx, args := args, argTypes := tys }) ty (.val (.t t)) := .call _ _ _ _ _ _ _ _  ya yb yc
theorem QEv.callNR {f fx args tys ty caps ts e l n id} (ya : g fx = some (.t (.fn f caps)) := by exact rfl) (yb : AsTrs g args.toList ts := by exact rfl) (yc : FnN P tb f (ts ++ caps) e l := by exact rfl) (yd : l.length = n := by exact rfl) : QEv P tb hb g (.call { callee := .value fx, args := args, argTypes := tys }) ty (.new (.own e id 0 n) id (.arr e (l.map .t))) := .callN _ _ _ _ _ _ _ _ _ _ _  ya yb yc yd
theorem EEv.storeR {T x y ty ti tie e id idx l t} (yc : g x = some (.ptr e id idx 0) := by exact rfl) (yd : get h id = some (some (.arr e l)) := by exact rfl) (ya : get tb T = some ti := by exact rfl) (yb : get tb e = some tie := by exact rfl) (ye : idx < l.length := by exact rfl) (yf : tie.sz = ti.sz := by exact rfl) (yg : AsTr g y t := by exact rfl) (yh : t.flat = true := by exact rfl) (yi : t.cells.length = ti.sz := by exact rfl) : EEv P tb g h nx (.store T x y) ty .unk ((id, some (.arr e (l.set idx (.t t)))) :: h) nx := .store _ _ _ _ _ _ _ _ _ _ _  ya yb yc yd ye yf yg yh yi
theorem EEv.storeVR {T x y ty ti tie e id idx l v} (yc : g x = some (.ptr e id idx 0) := by exact rfl) (yh : g y = some v := by exact rfl) (yd : get h id = some (some (.arr e l)) := by exact rfl) (ya : get tb T = some ti := by exact rfl) (yb : get tb e = some tie := by exact rfl) (ye : idx < l.length := by exact rfl) (yf : tie.sz = 1 := by exact rfl) (yg : ti.sz = 1 := by exact rfl) (yi : (∀ t, v ≠ .t t) := by exact rfl) (yj : v ≠ .unk := by exact rfl) (yk : (∀ l, v ≠ .tu l) := by exact rfl) : EEv P tb g h nx (.store T x y) ty .unk ((id, some (.arr e (l.set idx v))) :: h) nx := .storeV _ _ _ _ _ _ _ _ _ _ _  ya yb yc yd ye yf yg yh yi yj yk
theorem EEv.appendAR {T x y ty ti tie e id ts us} (yh : g x = some (ap e id ts) := by exact rfl) (yi : get h id = some (apO e ts) := by exact rfl) (ya : get tb T = some ti := by exact rfl) (yb : ti.d = .slice e := by exact rfl) (yc : get tb e = some tie := by exact rfl) (yd : 0 < tie.sz := by exact rfl) (ye : 0 < tie.by_ := by exact rfl) (yf : tie.zero.zeroOk = true := by exact rfl) (yg : tie.zero.cells.length = tie.sz := by exact rfl) (yj : AsTr g y (.sl e us) := by exact rfl) (yk : us.all Tr.flat = true := by exact rfl) (yl : (ts.length + us.length) * tie.by_ ≤ 140737488355328 := by exact rfl) : EEv P tb g h nx (.call { callee := .builtin .append, args := #[x, y], argTypes := #[T, T] }) ty (ap e nx (ts ++ us)) ((nx, apO e (ts ++ us)) :: (id, none) :: h) (nx + 1) := .appendA _ _ _ _ _ _ _ _ _ _  ya yb yc yd ye yf yg yh yi yj yk yl
theorem EEv.appendFR {T x y ty ti tie e id l ts us} {n : Nat} (yh : g x = some (.own e id 0 n) := by exact rfl) (yi : get h id = some (some (.arr e l)) := by exact rfl) (ya : get tb T = some ti := by exact rfl) (yb : ti.d = .slice e := by exact rfl) (yc : get tb e = some tie := by exact rfl) (yd : 0 < tie.sz := by exact rfl) (ye : 0 < tie.by_ := by exact rfl) (yf : tie.zero.zeroOk = true := by exact rfl) (yg : tie.zero.cells.length = tie.sz := by exact rfl) (yj : l = List.map .t ts := by exact rfl) (yk : l.length = n := by exact rfl) (yl : AsTr g y (.sl e us) := by exact rfl) (ym : us.all Tr.flat = true := by exact rfl) (yn : (n + us.length) * tie.by_ ≤ 140737488355328 := by exact rfl) : EEv P tb g h nx (.call { callee := .builtin .append, args := #[x, y], argTypes := #[T, T] }) ty (.t (.sl e (ts ++ us))) ((nx, none) :: (id, none) :: h) (nx + 1) := .appendF _ _ _ _ _ _ _ _ _ _ _ _  ya yb yc yd ye yf yg yh yi yj yk yl ym yn
theorem EEv.copyR {T T2 x y ty ti tie e id off len l us} (yd : g x = some (.own e id off len) := by exact rfl) (ye : get h id = some (some (.arr e l)) := by exact rfl) (ya : get tb T = some ti := by exact rfl) (yb : ti.d = .slice e := by exact rfl) (yc : get tb e = some tie := by exact rfl) (yf : off + len ≤ l.length := by exact rfl) (yg : AsTr g y (.sl e us) := by exact rfl) (yh : us.all Tr.flat = true := by exact rfl) : EEv P tb g h nx (.call { callee := .builtin .copy, args := #[x, y], argTypes := #[T, T2] }) ty (.t (.i .i64 (min us.length len : Nat))) ((id, some (.arr e (l.take off ++ (us.take len).map .t ++ l.drop (off + min us.length len)))) :: h) nx := .copy _ _ _ _ _ _ _ _ _ _ _ _ _  ya yb yc yd ye yf yg yh
end
section
variable {P : Program} {tb : Tab} {G : Gh} {F : Fence} {all : Array Oper} {o : Oper} {os : List Oper} {sl : Slots} {h hb : Heap} {nx df : Nat} {Q : Sta → Prop} {lates : List Nat} {p : Nat} {wl : Heap → Prop}
theorem oq {d : Tmp} {v : AV} (hq : QEv P tb h (opAV sl) o.op o.type (.val v)) (hw : WOps P tb all os ⟨(d, v) :: sl, h, nx, df⟩ Q) (hg : o.guard = none := by exact rfl) (hd : o.dst = some d := by exact rfl) : WOps P tb all (o :: os) ⟨sl, h, nx, df⟩ Q := wo_q hg hd hq hw
theorem om {d : Tmp} {v : AV} {x : Operand} (hw : WOps P tb all os ⟨(d, v) :: sl, h, nx, df⟩ Q) (ho : o.op = .move x := by exact rfl) (hv : opAV sl x = some v := by exact rfl) (hg : o.guard = none := by exact rfl) (hd : o.dst = some d := by exact rfl) : WOps P tb all (o :: os) ⟨sl, h, nx, df⟩ Q := wo_q hg hd (by rw [ho]; exact .move _ _ _ hv) hw
theorem oa {d : Tmp} {v : AV} {x : Operand} (hw : WOps P tb all os ⟨(d, v) :: sl, h, nx, df⟩ Q) (ho : o.op = .assign x := by exact rfl) (hv : opAV sl x = some v := by exact rfl) (hg : o.guard = none := by exact rfl) (hd : o.dst = some d := by exact rfl) : WOps P tb all (o :: os) ⟨sl, h, nx, df⟩ Q := wo_q hg hd (by rw [ho]; exact .assign _ _ _ hv) hw
theorem il {K : Nat} {s : Sta} {sl : Slots} {h : Heap} {nx : Nat} (h1 : GetAll s.sl sl := by repeat' (first | exact trivial | (refine And.intro (by rfl) ?_))) (h2 : GetAllH s.h h := by repeat' (first | exact trivial | (refine And.intro (by rfl) ?_))) (h3 : s.nx ≤ nx := by exact Nat.le_of_ble_eq_true rfl) : Imp K tb s ⟨sl, h, nx, s.df⟩ := imp_less h1 h2 h3
theorem dq {d : Tmp} {v : AV} (hq : QEv P tb hb (opAV sl) o.op o.type (.val v)) (hw : WOpsD P tb all lates os (p + 1) wl hb ⟨(d, v) :: sl, h, nx, df⟩ Q) (hg : o.guard = none := by exact rfl) (hd : o.dst = some d := by exact rfl) (hE : isEff o.op = false := by exact rfl) (hl : lates.contains p = false := by exact rfl) : WOpsD P tb all lates (o :: os) p wl hb ⟨sl, h, nx, df⟩ Q := wd_q hg hd hE hl hq hw
theorem on' {d : Tmp} {v : AV} {ob : Obj} (hq : QEv P tb h (opAV sl) o.op o.type (.new v nx ob)) (hw : WOps P tb all os ⟨(d, v) :: sl, (nx, some ob) :: h, nx + 1, df⟩ Q) (hg : o.guard = none := by exact rfl) (hd : o.dst = some d := by exact rfl) : WOps P tb all (o :: os) ⟨sl, h, nx, df⟩ Q := wo_n hg hd hq hw
theorem oe {v : AV} {h' : Heap} {nx' : Nat} (he : EEv P tb (opAV sl) h nx o.op o.type v h' nx') (hw : WOps P tb all os ⟨sl, h', nx', df⟩ Q) (hg : o.guard = none := by exact rfl) (hd : o.dst = none := by exact rfl) : WOps P tb all (o :: os) ⟨sl, h, nx, df⟩ Q := wo_e hg hd he hw
theorem oed {d : Tmp} {v : AV} {h' : Heap} {nx' : Nat} (he : EEv P tb (opAV sl) h nx o.op o.type v h' nx') (hw : WOps P tb all os ⟨(d, v) :: sl, h', nx', df⟩ Q) (hg : o.guard = none := by exact rfl) (hd : o.dst = some d := by exact rfl) : WOps P tb all (o :: os) ⟨sl, h, nx, df⟩ Q := wo_ed hg hd he hw
theorem gq {d gd : Tmp} {j : Nat} {b want : Bool} {v : AV} (hq : QEv P tb h (opAV sl) o.op o.type (.val v)) (hw : WOps P tb all os ⟨(d, v) :: sl, h, nx, df⟩ Q) (hg : o.guard = some (j, want) := by exact rfl) (hj : (all[j]?).bind (·.dst) = some gd := by exact rfl) (hb : get sl gd = some (.t (.b b)) := by exact rfl) (hd : o.dst = some d := by exact rfl) (z : (b == want) = true := by exact rfl) : WOps P tb all (o :: os) ⟨sl, h, nx, df⟩ Q := wo_gq hg hj hb z hd hq hw
theorem gs {d gd : Tmp} {j : Nat} {b want : Bool} (hw : WOps P tb all os ⟨(d, .unk) :: sl, h, nx, df⟩ Q) (hg : o.guard = some (j, want) := by exact rfl) (hj : (all[j]?).bind (·.dst) = some gd := by exact rfl) (hb : get sl gd = some (.t (.b b)) := by exact rfl) (hd : o.dst = some d := by exact rfl) (z : (b == want) = false := by exact rfl) : WOps P tb all (o :: os) ⟨sl, h, nx, df⟩ Q := wo_gs hg hj hb z hd hw
end
section
variable {g : Operand → Option AV} {x y z u : Operand} {a b c d : Tr}
theorem as1 (h1 : g x = some (.t a) := by exact rfl) : AsTrs g [x] [a] := asc (.inl h1) asn
theorem as2 (h1 : g x = some (.t a) := by exact rfl) (h2 : g y = some (.t b) := by exact rfl) : AsTrs g [x, y] [a, b] := asc (.inl h1) (as1 h2)
theorem as3 (h1 : g x = some (.t a) := by exact rfl) (h2 : g y = some (.t b) := by exact rfl) (h3 : g z = some (.t c) := by exact rfl) : AsTrs g [x, y, z] [a, b, c] := asc (.inl h1) (as2 h2 h3)
end
end Go.Proofs.YtacenhlcfeepgaaGreat.Eng
namespace Go.Proofs.YtacenhlcfeepgaaGreat
open Go Eng
theorem rr {G : Gh} {F : Fence} {s : Sta} {Q : Exit → Sta → Prop} {n id : Nat} {all : Array Oper} {y : Code} (h : WOps Tryz.prog tb all all.toList s fun s' => WP Tryz.prog tb G F y s' Q) (hF : Wd F := by assumption) (hG : G.nt = n := by assumption) (hall : dstsOk n all.toList = true := by exact rfl) : WP Tryz.prog tb G F (.seq (.region id all false) y) s Q := wp_r tbOk hF hG hall h
theorem rr0 {G : Gh} {F : Fence} {s : Sta} {Q : Exit → Sta → Prop} {n id : Nat} {all : Array Oper} (h : WOps Tryz.prog tb all all.toList s (Q .normal)) (hF : Wd F := by assumption) (hG : G.nt = n := by assumption) (hall : dstsOk n all.toList = true := by exact rfl) : WP Tryz.prog tb G F (.region id all false) s Q := wp_r0 tbOk hF hG hall h
theorem fn1 {f : FuncId} {fn : Func} {c : Code} {args : List Tr} {x : Tr} (hf : Tryz.prog.funcs[f]? = some fn) (h : ∀ G, G.nt = fn.ntmps → G.k0 = 0 → Wd Fence.wide → WP Tryz.prog tb G Fence.wide c ⟨initSl 0 (args.map .t), [], 0, 0⟩ (Eng.Ends tb fn.results.toList [x]))
  (hb : fn.body = some c := by exact rfl) (hname : (fn.name == "runtime.NumGoroutine") = false := by exact rfl) (hn : args.length ≤ fn.ntmps := by exact Nat.le_of_ble_eq_true rfl) : FnP Tryz.prog tb f args x :=
 fnP_1 tbOk hf hb hname hn fun G h1 h2 => h G h1 h2 (.inl rfl)
end Go.Proofs.YtacenhlcfeepgaaGreat
namespace Go.Proofs.YtacenhlcfeepgaaGreat.Eng
inductive Fu (n : Nat) : Prop where
 | m : Fu n
structure Hd (A : Prop) : Prop where
 a : A
theorem fuS {n : Nat} {B : Prop} (f : Fu (n + 1)) (k : Fu n → B) : B := k .m
theorem fu0 {A : Prop} (f : Fu 0) (h : Hd A) : A := h.a
section
variable {P : Program} {tb : Tab} {G : Gh} {F : Fence} {all : Array Oper} {o : Oper} {os : List Oper} {sl : Slots} {h hb : Heap} {nx df : Nat} {Q : Sta → Prop} {lates : List Nat} {p : Nat} {wl : Heap → Prop} {g : Operand → Option AV} {op : Op} {k : AV → Prop} {kn : AV → Obj → Prop} {ke : AV → Heap → Nat → Prop} {s : Sta}
 {ty T B : TypeId} {r : Res} {x y z : Operand} {n : Nat} {c : Call} {b : BinOp} {a : Array (Nat × Operand)}
def QX (P : Program) (tb : Tab) (hb : Heap) (g : Operand → Option AV) (op : Op) (ty : TypeId) (k : AV → Prop) : Prop := ∃ v, QEv P tb hb g op ty (.val v) ∧ k v
def NX (P : Program) (tb : Tab) (hb : Heap) (g : Operand → Option AV) (op : Op) (ty : TypeId) (nx : Nat) (k : AV → Obj → Prop) : Prop := ∃ v ob, QEv P tb hb g op ty (.new v nx ob) ∧ k v ob
def EX (P : Program) (tb : Tab) (g : Operand → Option AV) (h : Heap) (nx : Nat) (op : Op) (ty : TypeId) (k : AV → Heap → Nat → Prop) : Prop := ∃ v h' nx', EEv P tb g h nx op ty v h' nx' ∧ k v h' nx'
theorem qx {v : AV} (e : QEv P tb hb g op ty (.val v)) (hk : k v) : QX P tb hb g op ty k := ⟨v, e, hk⟩
theorem nxx {v : AV} {ob : Obj} (e : QEv P tb hb g op ty (.new v nx ob)) (hk : kn v ob) : NX P tb hb g op ty nx kn := ⟨v, ob, e, hk⟩
theorem exx {v : AV} {h' : Heap} {nx' : Nat} (e : EEv P tb g h nx op ty v h' nx') (hk : ke v h' nx') : EX P tb g h nx op ty ke := ⟨v, h', nx', e, hk⟩
theorem qload (h : QX P tb hb g (.load T x) ty k) : QX P tb hb g (.load T x) ty k := h
theorem qbin (h : QX P tb hb g (.binOp b T x y B) ty k) : QX P tb hb g (.binOp b T x y B) ty k := h
theorem qcall (h : QX P tb hb g (.call c) ty k) : QX P tb hb g (.call c) ty k := h
theorem qpick (h : QX P tb hb g (.pick x y z) ty k) : QX P tb hb g (.pick x y z) ty k := h
theorem qix (h : QX P tb hb g (.indexAddr T x y) ty k) : QX P tb hb g (.indexAddr T x y) ty k := h
theorem qbs (h : QX P tb hb g (.buildSlice T n a) ty k) : QX P tb hb g (.buildSlice T n a) ty k := h
theorem qbd (h : QX P tb hb g (.build T a) ty k) : QX P tb hb g (.build T a) ty k := h
theorem qcv (h : QX P tb hb g (.convert T B x) ty k) : QX P tb hb g (.convert T B x) ty k := h
theorem isQX (h : QX P tb hb g op ty k) : QX P tb hb g op ty k := h
theorem isWO (h : WOps P tb all os s Q) : WOps P tb all os s Q := h
theorem isWD (h : WOpsD P tb all lates os p wl hb s Q) : WOpsD P tb all lates os p wl hb s Q := h
theorem wqE {d : Tmp} (hg : o.guard = none) (hd : o.dst = some d) (e : QX P tb h (opAV sl) o.op o.type fun v => WOps P tb all os ⟨(d, v) :: sl, h, nx, df⟩ Q) : WOps P tb all (o :: os) ⟨sl, h, nx, df⟩ Q :=
 let ⟨_, a, b⟩ := e; wo_q hg hd a b
theorem dqE {d : Tmp} (hg : o.guard = none) (hd : o.dst = some d) (hE : isEff o.op = false) (hl : lates.contains p = false) (e : QX P tb hb (opAV sl) o.op o.type fun v => WOpsD P tb all lates os (p + 1) wl hb ⟨(d, v) :: sl, h, nx, df⟩ Q) : WOpsD P tb all lates (o :: os) p wl hb ⟨sl, h, nx, df⟩ Q :=
 let ⟨_, a, b⟩ := e; wd_q hg hd hE hl a b
theorem gqE {d gd : Tmp} {j : Nat} {b want : Bool} (hg : o.guard = some (j, want)) (hj : (all[j]?).bind (·.dst) = some gd) (hbb : get sl gd = some (.t (.b b))) (hbw : (b == want) = true) (hd : o.dst = some d) (e : QX P tb h (opAV sl) o.op o.type fun v => WOps P tb all os ⟨(d, v) :: sl, h, nx, df⟩ Q) : WOps P tb all (o :: os) ⟨sl, h, nx, df⟩ Q :=
 let ⟨_, a, b⟩ := e; wo_gq hg hj hbb hbw hd a b
theorem dgE {d gd : Tmp} {j : Nat} {b want : Bool} (hg : o.guard = some (j, want)) (hj : (all[j]?).bind (·.dst) = some gd) (hbb : get sl gd = some (.t (.b b))) (hbw : (b == want) = true) (hd : o.dst = some d) (hE : isEff o.op = false) (hl : lates.contains p = false) (e : QX P tb hb (opAV sl) o.op o.type fun v => WOpsD P tb all lates os (p + 1) wl hb ⟨(d, v) :: sl, h, nx, df⟩ Q) : WOpsD P tb all lates (o :: os) p wl hb ⟨sl, h, nx, df⟩ Q :=
 let ⟨_, a, b⟩ := e; wd_gq hg hj hbb hbw hd hE hl a b
theorem eE (hg : o.guard = none) (hd : o.dst = none) (e : EX P tb (opAV sl) h nx o.op o.type fun v h' nx' => WOps P tb all os ⟨sl, h', nx', df⟩ Q) : WOps P tb all (o :: os) ⟨sl, h, nx, df⟩ Q :=
 let ⟨_, _, _, a, b⟩ := e; wo_e hg hd a b
theorem edE {d : Tmp} (hg : o.guard = none) (hd : o.dst = some d) (e : EX P tb (opAV sl) h nx o.op o.type fun v h' nx' => WOps P tb all os ⟨(d, v) :: sl, h', nx', df⟩ Q) : WOps P tb all (o :: os) ⟨sl, h, nx, df⟩ Q :=
 let ⟨_, _, _, a, b⟩ := e; wo_ed hg hd a b
theorem deE (hg : o.guard = none) (hd : o.dst = none) (hE : isEff o.op = true) (e : EX P tb (opAV sl) h nx o.op o.type fun v h' nx' => wl h' ∧ WOpsD P tb all lates os (p + 1) wl h' ⟨sl, h', nx', df⟩ Q) : WOpsD P tb all lates (o :: os) p wl hb ⟨sl, h, nx, df⟩ Q :=
 let ⟨_, _, _, a, b⟩ := e; wd_e hg hd hE a b.1 b.2
theorem nE {d : Tmp} (hg : o.guard = none) (hd : o.dst = some d) (e : NX P tb h (opAV sl) o.op o.type nx fun v ob => WOps P tb all os ⟨(d, v) :: sl, (nx, some ob) :: h, nx + 1, df⟩ Q) : WOps P tb all (o :: os) ⟨sl, h, nx, df⟩ Q :=
 let ⟨_, _, a, b⟩ := e; wo_n hg hd a b
theorem dnE {d : Tmp} (hg : o.guard = none) (hd : o.dst = some d) (hE : isEff o.op = false) (hl : lates.contains p = false) (e : NX P tb hb (opAV sl) o.op o.type nx fun v ob => WOpsD P tb all lates os (p + 1) wl hb ⟨(d, v) :: sl, (nx, some ob) :: h, nx + 1, df⟩ Q) : WOpsD P tb all lates (o :: os) p wl hb ⟨sl, h, nx, df⟩ Q :=
 let ⟨_, _, a, b⟩ := e; wd_n hg hd hE hl a b
def hasG (os : List Oper) : Bool := match os with
 | o :: _ => o.guard.isSome
 | [] => false
theorem isGO (z : hasG os = true) (h : WOps P tb all os s Q) : WOps P tb all os s Q := h
theorem isGD (z : hasG os = true) (h : WOpsD P tb all lates os p wl hb s Q) : WOpsD P tb all lates os p wl hb s Q := h
theorem isWP {c : Code} {Q : Exit → Sta → Prop} (h : WP P tb G F c s Q) : WP P tb G F c s Q := h
end
theorem sx (n : Nat) {A B : Prop} (hA : A) (f : Fu n → Hd A → B := by
  intro f h
  repeat
    refine fuS f (fun f => ?_)
    first
    | with_reducible refine wo_nil ?_
    | with_reducible refine wd_nil ?_
    | with_reducible refine then_n ?_
    | with_reducible refine then_ret ?_
    | with_reducible refine then_exit ?_
    | with_reducible refine blk_n ?_
    | with_reducible refine blk_hit ?_
    | with_reducible refine blk_ret ?_
    | with_reducible refine round_exit ?_
    | with_reducible refine round_ret ?_
    | (with_reducible refine isWP ?_
       first
       | refine rr ?_
       | refine rr0 ?_
       | refine wp_r tbOk hF2 hG2 rfl ?_
       | refine wp_r tbOk hF1 hG1 rfl ?_
       | refine wp_r0 tbOk hF2 hG2 rfl ?_
       | refine wp_r0 tbOk hF1 hG1 rfl ?_
       | refine wp_d tbOk hF mixed hG [] (by kernel_rfl) ?_
       | refine wp_d0 tbOk hF mixed hG [] (by kernel_rfl) ?_
       | refine wp_s ?_
       | refine wp_k ?_
       | refine wp_b ?_
       | refine wp_rt ?_
       | refine wp_x ?_
       | refine wp_lb ?_)
    | refine om ?_
    | refine oa ?_
    | ((first
        | refine wqE rfl rfl ?_
        | refine dqE rfl rfl rfl rfl ?_
        | (refine isGO (by rfl) ?_
           first
           | refine wo_gs rfl rfl rfl (by first | ((simp; omega)) | fail) rfl ?_
           | refine gqE rfl rfl rfl (by first | ((simp; omega)) | fail) rfl ?_
           | refine wo_gs rfl rfl rfl rfl rfl ?_
           | refine gqE rfl rfl rfl rfl rfl ?_
           | refine wo_gs rfl rfl rfl (by rfl) rfl ?_
           | refine gqE rfl rfl rfl (by rfl) rfl ?_
           | refine wo_gs rfl rfl rfl (by first | ((simp; done)) | fail) rfl ?_
           | refine gqE rfl rfl rfl (by first | ((simp; done)) | fail) rfl ?_
           | refine wo_gs rfl rfl rfl (by first | ((simp [h1]; done)) | fail) rfl ?_
           | refine gqE rfl rfl rfl (by first | ((simp [h1]; done)) | fail) rfl ?_
           | refine wo_gs rfl rfl rfl (by first | ((simp [h0]; done)) | fail) rfl ?_
           | refine gqE rfl rfl rfl (by first | ((simp [h0]; done)) | fail) rfl ?_
           | refine wo_gs rfl rfl rfl (by first | (simp [hs]; done) | fail) rfl ?_
           | refine gqE rfl rfl rfl (by first | (simp [hs]; done) | fail) rfl ?_
           | refine wo_gs rfl rfl rfl (by (rw [c1]; rfl)) rfl ?_
           | refine gqE rfl rfl rfl (by (rw [c1]; rfl)) rfl ?_
           | refine wo_gs rfl rfl rfl (by (rw [c2]; rfl)) rfl ?_
           | refine gqE rfl rfl rfl (by (rw [c2]; rfl)) rfl ?_
           | refine wo_gs rfl rfl rfl (by first | (simp [ht]; done) | fail) rfl ?_
           | refine gqE rfl rfl rfl (by first | (simp [ht]; done) | fail) rfl ?_
           | refine wo_gs rfl rfl rfl (by (rw [← hpl, h1]; rfl)) rfl ?_
           | refine gqE rfl rfl rfl (by (rw [← hpl, h1]; rfl)) rfl ?_
           | refine wo_gs rfl rfl rfl (by first | (simp; done) | fail) rfl ?_
           | refine gqE rfl rfl rfl (by first | (simp; done) | fail) rfl ?_
           | refine wo_gs rfl rfl rfl (by first | (simp [isW_enc]; done) | fail) rfl ?_
           | refine gqE rfl rfl rfl (by first | (simp [isW_enc]; done) | fail) rfl ?_
           | refine wo_gs rfl rfl rfl (by first | (simp [h1]; done) | fail) rfl ?_
           | refine gqE rfl rfl rfl (by first | (simp [h1]; done) | fail) rfl ?_
           | refine wo_gs rfl rfl rfl (by first | (simp; omega) | fail) rfl ?_
           | refine gqE rfl rfl rfl (by first | (simp; omega) | fail) rfl ?_
           | refine wo_gs rfl rfl rfl (by first | (simp [ha]; done) | fail) rfl ?_
           | refine gqE rfl rfl rfl (by first | (simp [ha]; done) | fail) rfl ?_
           | refine wo_gs rfl rfl rfl (by subst h0; rfl) rfl ?_
           | refine gqE rfl rfl rfl (by subst h0; rfl) rfl ?_
           | refine wo_gs rfl rfl rfl (by first | ((simp [hs]; done)) | fail) rfl ?_
           | refine gqE rfl rfl rfl (by first | ((simp [hs]; done)) | fail) rfl ?_
           | refine wo_gs rfl rfl rfl (by exact gtT g1) rfl ?_
           | refine gqE rfl rfl rfl (by exact gtT g1) rfl ?_
           | refine wo_gs rfl rfl rfl (by (rw [show ((((digits z.natAbs).getD 0 0 : Nat) : Int) == 1) = false from beq_eq_false_iff_ne.2 (by omega)]; rfl)) rfl ?_
           | refine gqE rfl rfl rfl (by (rw [show ((((digits z.natAbs).getD 0 0 : Nat) : Int) == 1) = false from beq_eq_false_iff_ne.2 (by omega)]; rfl)) rfl ?_
           | refine wo_gs rfl rfl rfl (by first | ((simp [hg]; done)) | fail) rfl ?_
           | refine gqE rfl rfl rfl (by first | ((simp [hg]; done)) | fail) rfl ?_
           | refine wo_gs rfl rfl rfl (by exact gtS g1) rfl ?_
           | refine gqE rfl rfl rfl (by exact gtS g1) rfl ?_
           | refine wo_gs rfl rfl rfl (by exact gtS g2) rfl ?_
           | refine gqE rfl rfl rfl (by exact gtS g2) rfl ?_
           | refine wo_gs rfl rfl rfl (by exact gtT g2) rfl ?_
           | refine gqE rfl rfl rfl (by exact gtT g2) rfl ?_
           | refine wo_gs rfl rfl rfl (by first | (simp [hx]; done) | fail) rfl ?_
           | refine gqE rfl rfl rfl (by first | (simp [hx]; done) | fail) rfl ?_
           | refine wo_gs rfl rfl rfl (by first | (simp [hi]; done) | fail) rfl ?_
           | refine gqE rfl rfl rfl (by first | (simp [hi]; done) | fail) rfl ?_
           | refine wo_gs rfl rfl rfl (by first | (have h := mt pol_nil.1 hp0; (simp [h]; done)) | fail) rfl ?_
           | refine gqE rfl rfl rfl (by first | (have h := mt pol_nil.1 hp0; (simp [h]; done)) | fail) rfl ?_
           | refine wo_gs rfl rfl rfl (by (rw [pol_nil.2 hp]; rfl)) rfl ?_
           | refine gqE rfl rfl rfl (by (rw [pol_nil.2 hp]; rfl)) rfl ?_
           | refine wo_gs rfl rfl rfl (by first | ((have := mt pol_nil.1 hp; simp [this]; done)) | fail) rfl ?_
           | refine gqE rfl rfl rfl (by first | ((have := mt pol_nil.1 hp; simp [this]; done)) | fail) rfl ?_
           | refine wo_gs rfl rfl rfl (by first | ((simp [hpc]; done)) | fail) rfl ?_
           | refine gqE rfl rfl rfl (by first | ((simp [hpc]; done)) | fail) rfl ?_
           | refine wo_gs rfl rfl rfl (by exact beq_iff_eq.2 (beq_iff_eq.2 hm)) rfl ?_
           | refine gqE rfl rfl rfl (by exact beq_iff_eq.2 (beq_iff_eq.2 hm)) rfl ?_
           | refine wo_gs rfl rfl rfl (by first | ((simp [hm]; done)) | fail) rfl ?_
           | refine gqE rfl rfl rfl (by first | ((simp [hm]; done)) | fail) rfl ?_
           | refine wo_gs rfl rfl rfl (by rw [hz]; rfl) rfl ?_
           | refine gqE rfl rfl rfl (by rw [hz]; rfl) rfl ?_)
        | (refine isGD (by rfl) ?_
           first
           | refine wd_gs rfl rfl rfl (by first | ((simp; omega)) | fail) rfl rfl rfl ?_
           | refine dgE rfl rfl rfl (by first | ((simp; omega)) | fail) rfl rfl rfl ?_
           | refine wd_gs rfl rfl rfl rfl rfl rfl rfl ?_
           | refine dgE rfl rfl rfl rfl rfl rfl rfl ?_
           | refine wd_gs rfl rfl rfl (by rfl) rfl rfl rfl ?_
           | refine dgE rfl rfl rfl (by rfl) rfl rfl rfl ?_
           | refine wd_gs rfl rfl rfl (by first | ((simp; done)) | fail) rfl rfl rfl ?_
           | refine dgE rfl rfl rfl (by first | ((simp; done)) | fail) rfl rfl rfl ?_
           | refine wd_gs rfl rfl rfl (by first | ((simp [h1]; done)) | fail) rfl rfl rfl ?_
           | refine dgE rfl rfl rfl (by first | ((simp [h1]; done)) | fail) rfl rfl rfl ?_
           | refine wd_gs rfl rfl rfl (by first | ((simp [h0]; done)) | fail) rfl rfl rfl ?_
           | refine dgE rfl rfl rfl (by first | ((simp [h0]; done)) | fail) rfl rfl rfl ?_
           | refine wd_gs rfl rfl rfl (by first | (simp [hs]; done) | fail) rfl rfl rfl ?_
           | refine dgE rfl rfl rfl (by first | (simp [hs]; done) | fail) rfl rfl rfl ?_
           | refine wd_gs rfl rfl rfl (by (rw [c1]; rfl)) rfl rfl rfl ?_
           | refine dgE rfl rfl rfl (by (rw [c1]; rfl)) rfl rfl rfl ?_
           | refine wd_gs rfl rfl rfl (by (rw [c2]; rfl)) rfl rfl rfl ?_
           | refine dgE rfl rfl rfl (by (rw [c2]; rfl)) rfl rfl rfl ?_
           | refine wd_gs rfl rfl rfl (by first | (simp [ht]; done) | fail) rfl rfl rfl ?_
           | refine dgE rfl rfl rfl (by first | (simp [ht]; done) | fail) rfl rfl rfl ?_
           | refine wd_gs rfl rfl rfl (by (rw [← hpl, h1]; rfl)) rfl rfl rfl ?_
           | refine dgE rfl rfl rfl (by (rw [← hpl, h1]; rfl)) rfl rfl rfl ?_
           | refine wd_gs rfl rfl rfl (by first | (simp; done) | fail) rfl rfl rfl ?_
           | refine dgE rfl rfl rfl (by first | (simp; done) | fail) rfl rfl rfl ?_
           | refine wd_gs rfl rfl rfl (by first | (simp [isW_enc]; done) | fail) rfl rfl rfl ?_
           | refine dgE rfl rfl rfl (by first | (simp [isW_enc]; done) | fail) rfl rfl rfl ?_
           | refine wd_gs rfl rfl rfl (by first | (simp [h1]; done) | fail) rfl rfl rfl ?_
           | refine dgE rfl rfl rfl (by first | (simp [h1]; done) | fail) rfl rfl rfl ?_
           | refine wd_gs rfl rfl rfl (by first | (simp; omega) | fail) rfl rfl rfl ?_
           | refine dgE rfl rfl rfl (by first | (simp; omega) | fail) rfl rfl rfl ?_
           | refine wd_gs rfl rfl rfl (by first | (simp [ha]; done) | fail) rfl rfl rfl ?_
           | refine dgE rfl rfl rfl (by first | (simp [ha]; done) | fail) rfl rfl rfl ?_
           | refine wd_gs rfl rfl rfl (by subst h0; rfl) rfl rfl rfl ?_
           | refine dgE rfl rfl rfl (by subst h0; rfl) rfl rfl rfl ?_
           | refine wd_gs rfl rfl rfl (by first | ((simp [hs]; done)) | fail) rfl rfl rfl ?_
           | refine dgE rfl rfl rfl (by first | ((simp [hs]; done)) | fail) rfl rfl rfl ?_
           | refine wd_gs rfl rfl rfl (by exact gtT g1) rfl rfl rfl ?_
           | refine dgE rfl rfl rfl (by exact gtT g1) rfl rfl rfl ?_
           | refine wd_gs rfl rfl rfl (by (rw [show ((((digits z.natAbs).getD 0 0 : Nat) : Int) == 1) = false from beq_eq_false_iff_ne.2 (by omega)]; rfl)) rfl rfl rfl ?_
           | refine dgE rfl rfl rfl (by (rw [show ((((digits z.natAbs).getD 0 0 : Nat) : Int) == 1) = false from beq_eq_false_iff_ne.2 (by omega)]; rfl)) rfl rfl rfl ?_
           | refine wd_gs rfl rfl rfl (by first | ((simp [hg]; done)) | fail) rfl rfl rfl ?_
           | refine dgE rfl rfl rfl (by first | ((simp [hg]; done)) | fail) rfl rfl rfl ?_
           | refine wd_gs rfl rfl rfl (by exact gtS g1) rfl rfl rfl ?_
           | refine dgE rfl rfl rfl (by exact gtS g1) rfl rfl rfl ?_
           | refine wd_gs rfl rfl rfl (by exact gtS g2) rfl rfl rfl ?_
           | refine dgE rfl rfl rfl (by exact gtS g2) rfl rfl rfl ?_
           | refine wd_gs rfl rfl rfl (by exact gtT g2) rfl rfl rfl ?_
           | refine dgE rfl rfl rfl (by exact gtT g2) rfl rfl rfl ?_
           | refine wd_gs rfl rfl rfl (by first | (simp [hx]; done) | fail) rfl rfl rfl ?_
           | refine dgE rfl rfl rfl (by first | (simp [hx]; done) | fail) rfl rfl rfl ?_
           | refine wd_gs rfl rfl rfl (by first | (simp [hi]; done) | fail) rfl rfl rfl ?_
           | refine dgE rfl rfl rfl (by first | (simp [hi]; done) | fail) rfl rfl rfl ?_
           | refine wd_gs rfl rfl rfl (by first | (have h := mt pol_nil.1 hp0; (simp [h]; done)) | fail) rfl rfl rfl ?_
           | refine dgE rfl rfl rfl (by first | (have h := mt pol_nil.1 hp0; (simp [h]; done)) | fail) rfl rfl rfl ?_
           | refine wd_gs rfl rfl rfl (by (rw [pol_nil.2 hp]; rfl)) rfl rfl rfl ?_
           | refine dgE rfl rfl rfl (by (rw [pol_nil.2 hp]; rfl)) rfl rfl rfl ?_
           | refine wd_gs rfl rfl rfl (by first | ((have := mt pol_nil.1 hp; simp [this]; done)) | fail) rfl rfl rfl ?_
           | refine dgE rfl rfl rfl (by first | ((have := mt pol_nil.1 hp; simp [this]; done)) | fail) rfl rfl rfl ?_
           | refine wd_gs rfl rfl rfl (by first | ((simp [hpc]; done)) | fail) rfl rfl rfl ?_
           | refine dgE rfl rfl rfl (by first | ((simp [hpc]; done)) | fail) rfl rfl rfl ?_
           | refine wd_gs rfl rfl rfl (by exact beq_iff_eq.2 (beq_iff_eq.2 hm)) rfl rfl rfl ?_
           | refine dgE rfl rfl rfl (by exact beq_iff_eq.2 (beq_iff_eq.2 hm)) rfl rfl rfl ?_
           | refine wd_gs rfl rfl rfl (by first | ((simp [hm]; done)) | fail) rfl rfl rfl ?_
           | refine dgE rfl rfl rfl (by first | ((simp [hm]; done)) | fail) rfl rfl rfl ?_
           | refine wd_gs rfl rfl rfl (by rw [hz]; rfl) rfl rfl rfl ?_
           | refine dgE rfl rfl rfl (by rw [hz]; rfl) rfl rfl rfl ?_))
       first
       | (with_reducible refine isQX ?_
          first
          | refine qx .moveR ?_
          | refine qx .fieldAddrR ?_
          | refine qx .extractR ?_
          | refine qx (.boxR (yb := .inl rfl)) ?_
          | refine qx .notR ?_
          | refine qx .assignR ?_
          | refine qx (.fieldAddrPR (ye := by decide)) ?_
          | refine qx (.sliceOR (yf := ⟨_, rfl⟩) (yg := by omega) (yh := by omega) (yi := by omega) (yj := by omega)) ?_
          | refine qx (.fnR (ya := asc (.inl rfl) as1)) ?_
          | refine qx (.fnR (ya := as1)) ?_
          | refine qx (.sliceR (yd := .inl rfl) (yf := ⟨_, rfl⟩) (yg := by omega) (yh := by omega) (yi := by omega)) ?_
          | refine qx (.sliceR (yd := .inl rfl) (yf := ⟨_, rfl⟩) (yg := by omega) (yh := by omega) (yi := by (rw [List.length_map]; omega))) ?_
          | refine qx .complR ?_
          | refine qx (.cloR (ya := avc rfl (avn))) ?_
          | refine qx (.negR (yb := by exact wrap_i64 (by omega))) ?_
          | refine qx (.negR (yb := by exact wrap_i64 (n := 0 - (n : Int)) (by omega))) ?_
          | refine qx (.negR (yb := by exact (wrap_u64_mod.trans (by omega : _ = ((z.natAbs : Nat) : Int))))) ?_
          | (refine qload ?_
             first
             | refine qx .loadR ?_
             | refine qx (.loadPR (yd := by rfl)) ?_
             | refine qx .loadFR ?_
             | refine qx (.loadPR (yd := by (exact wds_own2 (i + j) (by omega) (by omega)))) ?_
             | refine qx (.loadPR (yd := by (exact wds_own2 i (by omega) (by omega)))) ?_
             | refine qx (.loadPR (yd := by (exact wds_own2 (i + b.length) (by omega) (by omega)))) ?_
             | refine qx (.loadPR (yd := by (exact rowsR_at (j + 1) (by omega) (sw_at (by omega))))) ?_
             | refine qx (.loadPR (yd := by (exact rowsR_at j (by omega) (sw_below (by omega) (by omega) hy)))) ?_)
          | (refine qbin ?_
             first
             | refine qx .cmpR ?_
             | refine qx (.arithR (yd := by exact wrap_i64 (by omega))) ?_
             | refine qx .neBR ?_
             | refine qx (.remR (yc := by omega) (yd := by exact tmodn)) ?_
             | refine qx (.arithR (yd := by exact wrap_u64 (by omega))) ?_
             | refine qx (.shlR (yc := by omega) (yd := by exact shl32 (by omega))) ?_
             | refine qx (.shrR (yc := by omega) (yd := by exact shr32)) ?_
             | refine qx .bitsR ?_
             | refine qx (.quoR (yc := by omega) (yd := by exact ((congrArg IntKind.i64.wrap (Int.ofNat_tdiv 4000 p.c.length).symm).trans (wrap_i64 (by have h9 := Nat.div_le_self 4000 p.c.length; generalize 4000 / p.c.length = t at *; omega))))) ?_
             | refine qx (.quoR (yc := by omega) (yd := by exact quo32 hs)) ?_
             | refine qx .eqBR ?_
             | refine qx (.remR (yc := by omega) (yd := by exact Int.tmod_eq_emod_of_nonneg (by omega))) ?_
             | refine qx (.arithR (yd := by exact (wrap_u64 (by omega)).trans (by omega : _ = ((a.getD i 0 * b.getD j 0 + o.getD (i + j) 0 + c : Nat) : Int)))) ?_
             | refine qx (.shrR (yc := by omega) (yd := by exact (shr32.trans (by omega : _ = (((a.getD i 0 * b.getD j 0 + o.getD (i + j) 0 + c) / 4294967296 : Nat) : Int))))) ?_
             | refine qx (.shrR (yc := by omega) (yd := by exact shrn (k := s) (by show s ≤ 64; omega))) ?_
             | refine qx (.quoR (yc := by omega) (yd := by exact (congrArg IntKind.i64.wrap (Int.ofNat_tdiv n 2).symm).trans (wrap_i64 (by omega)))) ?_
             | refine qx (.arithR (yd := by exact wrap_i64 (n := 2 * min ((n / 2 : Nat) : Int) 1) (by omega))) ?_
             | refine qx (.arithR (yd := by exact wrap_i64 (n := ((n % 2 : Nat) : Int) + 2 * min ((n / 2 : Nat) : Int) 1) (by omega))) ?_
             | refine qx (.quoR (yc := by omega) (yd := by exact (congrArg IntKind.i64.wrap (Int.ofNat_tdiv k 2).symm).trans (wrap_i64 (by omega)))) ?_
             | refine qx (.shrR (yc := by omega) (yd := by exact (shr32.trans (by omega : _ = (((a.getD i 0 + b.getD i 0 + c) / 4294967296 : Nat) : Int))))) ?_
             | refine qx (.quoR (yc := by exact Int.ne_of_gt g1) (yd := by exact wrap_i64 (quo_fit 30 _ (by omega) (by omega)))) ?_
             | refine qx (.arithR (yd := by exact wrap_u32_mod)) ?_)
          | (refine qpick ?_
             first
             | refine qx (.pickT rfl (by rfl) rfl) ?_
             | refine qx (.pickF rfl (by rfl) rfl) ?_
             | refine qx (.pickF rfl (by first | ((simp; omega)) | fail) rfl) ?_
             | refine qx (.pickT rfl (by first | ((simp; omega)) | fail) rfl) ?_
             | refine qx (.pickT rfl (by first | ((simp [h1]; done)) | fail) rfl) ?_
             | refine qx (.pickF rfl (by first | (simp [isW_enc]; done) | fail) rfl) ?_
             | refine qx (.pickT rfl (by first | ((simp; done)) | fail) rfl) ?_
             | refine qx (.pickT rfl (by (rw [c1]; rfl)) rfl) ?_
             | refine qx (.pickF rfl (by (rw [← hpl, h1]; rfl)) rfl) ?_
             | refine qx (.pickF rfl (by first | (simp; done) | fail) rfl) ?_
             | refine qx (.pickT rfl (by (rw [c2]; rfl)) rfl) ?_
             | refine qx (.pickT rfl (by first | (simp; omega) | fail) rfl) ?_
             | refine qx (.pickT rfl (by first | ((simp [hs]; done)) | fail) rfl) ?_
             | refine qx (.pickF rfl (by first | ((simp [hs]; done)) | fail) rfl) ?_
             | refine qx (.pickF rfl (by first | (simp [ha]; done) | fail) rfl) ?_
             | refine qx (.pickT rfl (by first | (simp [ha]; done) | fail) rfl) ?_
             | refine qx (.pickT rfl (by first | (simp [ht]; done) | fail) rfl) ?_
             | refine qx (.pickF rfl (by first | (simp [ht]; done) | fail) rfl) ?_
             | refine qx (.pickF rfl (by (rw [show ((((digits z.natAbs).getD 0 0 : Nat) : Int) == 1) = false from beq_eq_false_iff_ne.2 (by omega)]; rfl)) rfl) ?_
             | refine qx (.pickT rfl (by (rw [show ((((digits z.natAbs).getD 0 0 : Nat) : Int) == 1) = true from beq_iff_eq.2 (by omega)]; rfl)) rfl) ?_
             | refine qx (.pickT rfl (by first | ((simp [hg]; done)) | fail) rfl) ?_
             | refine qx (.pickF rfl (by (rw [c1]; rfl)) rfl) ?_
             | refine qx (.pickF rfl (by (rw [c2]; rfl)) rfl) ?_
             | refine qx (.pickF rfl (by subst h0; rfl) rfl) ?_
             | refine qx (.pickT rfl (by (rw [← hpl, h1]; rfl)) rfl) ?_
             | refine qx (.pickF rfl (by first | (simp [hs]; done) | fail) rfl) ?_
             | refine qx (.pickT rfl (by first | (simp [hs]; done) | fail) rfl) ?_
             | refine qx (.pickF rfl (by first | (simp; omega) | fail) rfl) ?_
             | refine qx (.pickT rfl (by first | (simp [hx]; done) | fail) rfl) ?_
             | refine qx (.pickF rfl (by first | (simp [hx]; done) | fail) rfl) ?_
             | refine qx (.pickT rfl (by first | (simp [h1]; done) | fail) rfl) ?_
             | refine qx (.pickF rfl (by first | (simp [h1]; done) | fail) rfl) ?_
             | refine qx (.pickT rfl (by first | ((simp [h0]; done)) | fail) rfl) ?_
             | refine qx (.pickF rfl (by first | ((simp [h0]; done)) | fail) rfl) ?_
             | refine qx (.pickT rfl (by exact gtT g1) rfl) ?_)
          | (refine qix ?_
             first
             | refine qx (.indexAddrOR (yf := by omega) (yg := by omega)) ?_
             | refine qx (.indexAddrR (yf := by omega) (yg := by exact wds_at (by omega))) ?_
             | refine qx (.indexAddrR (yf := by omega) (yg := by exact encR_at (i := i) rfl hx)) ?_
             | refine qx (.indexAddrR (yf := by omega) (yg := by exact encQs_atn (i := k) rfl (cf_at (by omega)))) ?_
             | refine qx (.indexAddrR (yf := by omega) (yg := by exact encQs_atn (i := i) rfl (cf_at hci))) ?_
             | refine qx (.indexAddrR (yf := by omega) (yg := by exact wds_at2 i (by omega) (by omega))) ?_
             | refine qx (.indexAddrR (yf := by omega) (yg := by exact wds_at2 j (by omega) (by omega))) ?_
             | refine qx (.indexAddrR (yf := by omega) (yg := by exact encIs_atn (i := i) rfl hx)) ?_
             | refine qx (.indexAddrR (yf := by omega) (yg := by first | (exact wds_at (n := 0) (by simp; omega)) | fail)) ?_
             | refine qx (.indexAddrAR (yi := by decide)) ?_
             | refine qx (.indexAddrR (yf := by omega) (yg := by exact encQs_atn (i := i) rfl (cf_at hi))) ?_
             | refine qx (.indexAddrR (yf := by omega) (yg := by rfl)) ?_
             | refine qx (.indexAddrR (yf := by omega) (yg := by exact encQs_at hx)) ?_
             | refine qx (.indexAddrR (yf := by omega) (yg := by exact encQs_atn (i := j) rfl (cf_at hcj))) ?_
             | refine qx (.indexAddrR (yf := by omega) (yg := by exact encQs_atn (l := m) (i := i) rfl (cf_at (by omega)))) ?_
             | refine qx (.indexAddrR (yf := by omega) (yg := by exact encQs_atn (i := qs.length - 1) (by omega) (cf_last h0))) ?_)
          | (refine qbs ?_
             first
             | refine qx (.buildSliceR (ye := asc (.inl rfl) as1) (yg := by decide) (yj := by decide) (yk := by decide)) ?_
             | refine qx (.buildSliceR (ye := as1) (yg := by decide) (yj := by decide) (yk := by decide)) ?_
             | refine qx (.buildSliceR (ye := asc (.inl rfl) as2) (yg := by decide) (yj := by decide) (yk := by decide)) ?_
             | refine qx (.buildSliceR (ye := asc (.inl rfl) as3) (yg := by decide) (yj := by decide) (yk := by decide)) ?_)
          | (refine qbd ?_
             first
             | refine qx (.buildR (yf := asc (.inl rfl) as1)) ?_
             | refine qx (.buildR (yf := asn)) ?_)
          | (refine qcv ?_
             first
             | refine qx (.convR (yf := by exact wrap_u64 (by omega))) ?_
             | refine qx (.convR (yf := by exact wrapn)) ?_
             | refine qx (.convR (yf := by exact wrap_u64 (by have e : (0 : Int).toNat = 0 := rfl; rw [e]; omega))) ?_
             | refine qx (.convR (yf := by exact (wrapu8 (by omega)))) ?_
             | refine qx (.convR (yf := by exact w64n (by omega))) ?_)
          | (refine qcall ?_
             first
             | refine qx (.lenR (yc := .inl rfl) (yd := by exact encQs_len)) ?_
             | refine qx (.lenR (yc := .inl rfl) (yd := by exact wds_len)) ?_
             | refine qx (.callR (yb := asc (.inl rfl) as1) (yc := same_P _ _ rfl)) ?_
             | refine qx (.callR (yb := asn) (yc := law03_sane)) ?_
             | refine qx (.callR (yb := asc (.inl rfl) as1) (yc := ref01_made _ _ (digits_words _))) ?_
             | refine qx (.lenR (yc := .inl rfl) (yd := by exact encRs_len)) ?_
             | refine qx .lenOR ?_
             | refine qx (.callR (yb := as1) (yc := qpoly_whole 0 (by decide) (by decide))) ?_
             | refine qx (.callR (yb := as1) (yc := ref03_Const _)) ?_
             | refine qx (.callR (yb := asc (.inl rfl) as1) (yc := same_P _ _ (by decide +kernel))) ?_
             | refine qx .maxR ?_
             | refine qx (.callR (yb := as1) (yc := qpoly_Const _)) ?_
             | refine qx (.callR (yb := as1) (yc := qpoly_whole 1 (by decide) (by decide))) ?_
             | refine qx (.callR (yb := as1) (yc := ref01_Is (decide (a < 0)) (digits a.natAbs))) ?_
             | refine qx (.callR (yb := as1) (yc := ref02_Int 1 (by decide) (by decide))) ?_
             | refine qx (.callR (yb := as1) (yc := law03_poly [1, 1] (by decide) (by decide))) ?_
             | refine qx (.callR (yb := as1) (yc := num_all2 a b)) ?_
             | refine qx (.callR (yb := as1) (yc := rat_SignI a.num a.den)) ?_
             | refine qx (.callR (yb := as1) (yc := qpoly_zero _)) ?_
             | refine qx (.callR (yb := asc (.inl rfl) as1) (yc := ref01_made false _ (digits_words _))) ?_
             | refine qx (.callR (yb := as1) (yc := ref02_Int 0 (by decide) (by decide))) ?_
             | refine qx (.callR (yb := asc (.inl rfl) as1) (yc := same_Q _ _ rfl)) ?_
             | refine qx (.callR (yb := as1) (yc := num_Bits a)) ?_
             | refine qx (.callR (yb := as1) (yc := ref01_Is (decide (b < 0)) (digits b.natAbs))) ?_
             | refine qx (.callR (yb := asc (.inl rfl) as1) (yc := ref01_Mul p.num q.den)) ?_
             | refine qx (.callR (yb := as1) (yc := ref03_Trim _)) ?_
             | refine qx (.callR (yb := as1) (yc := ref03_Deg p)) ?_
             | refine qx (.callR (yb := as1) (yc := qpoly_DegP p)) ?_
             | refine qx (.callR (yb := as1) (yc := law03_poly [-1, 1] (by decide) (by decide))) ?_
             | refine qx (.callR (yb := as1) (yc := law03_poly [1] (by decide) (by decide))) ?_
             | refine qx (.callR (yb := as1) (yc := num_Of 1 (by decide) (by decide))) ?_
             | refine qx (.callR (yb := asn) (yc := rat_one)) ?_
             | refine qx (.callR (yb := as1) (yc := rat_isOne p.den)) ?_
             | refine qx (.callR (yb := asc (.inl rfl) as1) (yc := num_Mul p.num q.den)) ?_
             | refine qx (.callR (yb := asc (.inl rfl) as1) (yc := num_Mul q.num p.den)) ?_
             | refine qx (.callR (yb := as1) (yc := num_Is n1 w1)) ?_
             | refine qx (.callR (yb := as1) (yc := qpoly_trimmed _)) ?_
             | refine qx (.callR (yb := asc (.inl rfl) as1) (yc := qpoly_at _ _ (by assumption))) ?_
             | refine qx (.callR (yb := as1) (yc := qpoly_LeadP p)) ?_
             | refine qx (.callR (yb := as1) (yc := qpoly_Deg p.c)) ?_
             | refine qx (.callR (yb := asc (.inl rfl) as1) (yc := qpoly_Div a b hb e1 e2 (Nat.le_trans e3 hKs))) ?_
             | refine qx (.callR (yb := as1) (yc := qpoly_DegP a)) ?_
             | refine qx (.callR (yb := asc (.inl rfl) as1) (yc := ref01_subWords _ _ hle)) ?_
             | refine qx (.callR (yb := as1) (yc := ref02_isOne p.den)) ?_
             | refine qx (.callR (yb := asc (.inl rfl) as1) (yc := ref01_Mul q.num p.den)) ?_
             | refine qx (.callR (yb := as1) (yc := ref01_Is n1 w1)) ?_
             | refine qx (.lenR (yc := .inl rfl) (yd := by exact encIs_len)) ?_
             | refine qx (.callR (yb := as1) (yc := law03_poly [0, 0, 1] (by decide) (by decide))) ?_
             | refine qx (.callR (yb := as1) (yc := law03_poly [0, 1] (by decide) (by decide))) ?_
             | refine qx (.callR (yb := as1) (yc := num_Sign d)) ?_
             | refine qx (.callR (yb := asc (.inl rfl) as1) (yc := num_Mul p.den q.den)) ?_
             | refine qx (.callR (yb := as1) (yc := num_Is n2 w2)) ?_
             | refine qx (.lenR (yc := .inl rfl) (yd := by exact hlen)) ?_
             | refine qx (.callR (yb := asc (.inl rfl) as1) (yc := qpoly_Mul o q u1.pb hqB.pb (by omega) (by omega))) ?_
             | refine qx (.callR (yb := asc (.inl rfl) as1) (yc := qpoly_Add _ _ hcm hcc)) ?_
             | refine qx (.callR (yb := as1) (yc := qpoly_Deg q.c)) ?_
             | refine qx (.lenR (yc := .inl rfl) (yd := by exact encIs_len.trans hnl)) ?_
             | refine qx (.callR (yb := as1) (yc := num_Sign _)) ?_
             | refine qx (.callR (yb := asc (.inl rfl) as1) (yc := ref01_cmpWords _ _)) ?_
             | refine qx (.callR (yb := as1) (yc := ref01_Sign d)) ?_
             | refine qx (.callR (yb := asc (.inl rfl) as1) (yc := ref01_Mul p.den q.den)) ?_
             | refine qx (.callR (yb := as1) (yc := ref01_Is n2 w2)) ?_
             | refine qx (.callR (yb := as1) (yc := ref03_Lead p)) ?_
             | refine qx (.callR (yb := asc (.inl rfl) as1) (yc := ref03_Mul o q u1.pb hqB.pb (by omega) (by omega))) ?_
             | refine qx (.callR (yb := asc (.inl rfl) as1) (yc := ref03_Add _ _ hcm hcc)) ?_
             | refine qx (.callR (yb := as1) (yc := ref03_Deg q)) ?_
             | refine qx (.callR (yb := as1) (yc := num_Of 2 (by decide) (by decide))) ?_
             | refine qx (.callR (yb := as1) (yc := qpoly_DegP b)) ?_
             | refine qx (.callR (yb := as1) (yc := ref02_Int 2 (by decide) (by decide))) ?_
             | refine qx (.callR (yb := asc (.inl rfl) as2) (yc := few_T p 12 4 (by decide) (by decide) h1)) ?_
             | refine qx (.callR (yb := asc (.inl rfl) as2) (yc := few_T p 6 2 (by decide) (by decide) h1)) ?_
             | refine qx (.callR (yb := asc (.inl rfl) as1) (yc := qpoly_Pow p n hn hpC (by decide))) ?_
             | refine qx (.callR (yb := asc (.inl rfl) as1) (yc := ref03_Pow p n hn hpC (by decide))) ?_
             | refine qx (.lenR (yc := .inl rfl) (yd := by rfl)) ?_
             | refine qx (.callR (yb := asc (.inl rfl) as1) (yc := num_compared m n)) ?_
             | refine qx (.callR (yb := as1) (yc := num_Is (decide (a < 0)) (digits a.natAbs))) ?_
             | refine qx (.callR (yb := asc (.inl rfl) as1) (yc := num_times _ _ (digits_words a.natAbs) (digits_words b.natAbs) (by have := ha.wl; have := hb.wl; omega))) ?_
             | refine qx (.callR (yb := asc (.inl rfl) as1) (yc := num_made _ _ (padW_words _ _))) ?_
             | refine qx (.callR (yb := as1) (yc := num_IsI a)) ?_
             | refine qx (.callR (yb := as1) (yc := num_Abs b)) ?_
             | refine qx (.callR (yb := asc (.inl rfl) as1) (yc := num_parted x y hy hx16 hy16)) ?_
             | refine qx (.callR (yb := asc (.inl rfl) as1) (yc := num_made false (pr x y) (pr_words hy))) ?_
             | refine qx .minR ?_
             | refine qx (.callR (yb := asc (.inl rfl) as1) (yc := num_Mul o x)) ?_
             | refine qx (.callR (yb := asc (.inl rfl) as1) (yc := num_Mul x x)) ?_
             | refine qx (.callR (yb := as1) (yc := rat_isOne (Int.gcd n d : Nat))) ?_
             | refine qx (.callR (yb := as1) (yc := num_Sign (Int.gcd n d : Nat))) ?_
             | refine qx (.callR (yb := as1) (yc := num_Neg (Int.gcd n d : Nat))) ?_
             | refine qx (.callR (yb := asc (.inl rfl) as1) (yc := rat_whole n g hgz)) ?_
             | refine qx (.callR (yb := asc (.inl rfl) as1) (yc := rat_whole d g hgz)) ?_
             | refine qx (.callR (yb := as1) (yc := rat_isOne q.den)) ?_
             | refine qx (.callR (yb := asc (.inl rfl) as1) (yc := num_Add (p.num * q.den) (q.num * p.den))) ?_
             | refine qx (.callR (yb := asc (.inl rfl) as1) (yc := rat_over (p.num * q.den + q.num * p.den) (p.den * q.den) (mul_den p q))) ?_
             | refine qx (.callR (yb := asc (.inl rfl) as1) (yc := num_Cmp (p.num * q.den) (q.num * p.den))) ?_
             | refine qx (.callR (yb := as1) (yc := raw_enc h2 c2 ▸ num_Sign (sgn n2 (val w2)))) ?_
             | refine qx (.callR (yb := asc (.inl rfl) as1) (yc := rat_Mul a a (hb1 h1) (hb1 h1))) ?_
             | refine qx (.callR (yb := asc (.inl rfl) as1) (yc := num_Pow a.num n hn (lim _ hN h2))) ?_
             | refine qx (.callR (yb := asc (.inl rfl) as1) (yc := num_Pow (a.den : Int) n hn (lim _ hD h2))) ?_
             | refine qx (.callR (yb := as1) (yc := hf i hci)) ?_
             | refine qx (.callR (yb := as1) (yc := qpoly_Monic _)) ?_
             | refine qx (.callR (yb := as1) (yc := qpoly_Deriv p (hpB.pb.le (by omega)))) ?_
             | refine qx (.callR (yb := asc (.inl rfl) as1) (yc := qpoly_Gcd p _ hT0 (by decide) (hpB.pb.le (by omega)) (hdB.le (by omega)))) ?_
             | refine qx (.callR (yb := asc (.inl rfl) as1) (yc := ref01_word a ha i (by omega))) ?_
             | refine qx (.callR (yb := asc (.inl rfl) as1) (yc := ref01_word b hb i (by omega))) ?_
             | refine qx (.callR (yb := as1) (yc := ref01_trimD _ (padW_words _ _))) ?_
             | refine qx (.callR (yb := as1) (yc := ref01_native a)) ?_
             | refine qx (.callR (yb := as1) (yc := ref01_native b)) ?_
             | refine qx (.callR (yb := asc (.inl rfl) as1) (yc := ref01_addWords _ _ (digits_words a.natAbs) (digits_words b.natAbs) (by have := ha16.wl; omega) (by have := hb16.wl; omega))) ?_
             | refine qx (.callR (yb := asc (.inl rfl) as1) (yc := ref01_word _ hdv j (by omega))) ?_
             | refine qx (.callR (yb := asc (.inl rfl) as1) (yc := ref01_Div a b hb)) ?_
             | refine qx (.callR (yb := asc (.inl rfl) as1) (yc := ref01_Mod (x : Int) (y : Int) (by omega) hx16 hy16)) ?_
             | refine qx (.callR (yb := asn) (yc := ref02_one)) ?_
             | refine qx (.callR (yb := as1) (yc := ref01_Of n h1 h2)) ?_
             | refine qx (.callR (yb := as1) (yc := ref02_isOne (Int.gcd n d : Nat))) ?_
             | refine qx (.callR (yb := as1) (yc := ref01_Neg (Int.gcd n d : Nat))) ?_
             | refine qx (.callR (yb := asc (.inl rfl) as1) (yc := ref01_Quo n g hgz)) ?_
             | refine qx (.callR (yb := asc (.inl rfl) as1) (yc := ref01_Quo d g hgz)) ?_
             | refine qx (.callR (yb := as1) (yc := ref02_isOne q.den)) ?_
             | refine qx (.callR (yb := asc (.inl rfl) as1) (yc := ref01_Add (p.num * q.den) (q.num * p.den))) ?_
             | refine qx (.callR (yb := asc (.inl rfl) as1) (yc := ref02_over (p.num * q.den + q.num * p.den) (p.den * q.den) (mul_den p q))) ?_
             | refine qx (.callR (yb := asc (.inl rfl) as1) (yc := ref01_Cmp (p.num * q.den) (q.num * p.den))) ?_
             | refine qx (.callR (yb := asc (.inl rfl) as1) (yc := ref01_Same p.num q.num)) ?_
             | refine qx (.callR (yb := asc (.inl rfl) as1) (yc := ref01_Stays p.num q.num)) ?_
             | refine qx (.callR (yb := as1) (yc := raw_enc h2 c2 ▸ ref01_Sign (sgn n2 (val w2)))) ?_
             | refine qx (.callR (yb := as1) (yc := ref02_Sign _)) ?_
             | refine qx (.callR (yb := asc (.inl rfl) as1) (yc := ref03_At p.c i (by omega))) ?_
             | refine qx (.callR (yb := asc (.inl rfl) as1) (yc := ref03_At q.c i (by omega))) ?_
             | refine qx (.callR (yb := asc (.inl rfl) as1) (yc := ref02_Add (cf p.c i) (cf q.c i) (hp.cf i) (hq.cf i))) ?_
             | refine qx (.callR (yb := as1) (yc := ref02_Int (-1) (by decide) (by decide))) ?_
             | refine qx (.callR (yb := asc (.inl rfl) as1) (yc := ref03_Div p q hq hpB hqB X hX hs)) ?_
             | refine qx (.callR (yb := as1) (yc := ref03_Monic p hpB)) ?_
             | refine qx (.callR (yb := asc (.inl rfl) as1) (yc := ref03_Mul (p ^ k) p hcd.pb hpB.pb (by omega) (by omega))) ?_
             | refine qx (.callR (yb := as1) (yc := ref02_AllQ qs hB)) ?_
             | refine qx (.callR (yb := as1) (yc := num_Of x (by omega) (by omega))) ?_
             | refine qx (.callR (yb := as1) (yc := num_Of p (by omega) (by omega))) ?_
             | refine qx (.callR (yb := asc (.inl rfl) as2) (yc := qpoly_value l x p (by omega) hl4 ((Fi.small (by omega)).le (by decide)) ((Fi.small (by omega)).le (by decide)))) ?_
             | refine qx (.callR (yb := as1) (yc := qpoly_Primitive p hp0 hpB (by omega))) ?_
             | refine qx (.callR (yb := as1) (yc := qpoly_size _)) ?_
             | refine qx (.lenR (yc := .inl rfl) (yd := by exact List.length_map _)) ?_
             | refine qx (.callR (yb := as1) (yc := qpoly_LeadP b)) ?_
             | refine qx (.callR (yb := as1) (yc := law03_poly [1, 0, 1] (by decide) (by decide))) ?_
             | refine qx (.callR (yb := as1) (yc := ref02_Int 3 (by decide) (by decide))) ?_
             | refine qx (.callR (yb := as1) (yc := law03_half (-1) (by decide) (by decide))) ?_
             | refine qx (.callR (yb := as1) (yc := law03_poly [2, 2] (by decide) (by decide))) ?_
             | refine qx (.callR (yb := asc (.inl rfl) as2) (yc := few_T q 12 4 (by decide) (by decide) h2)) ?_
             | refine qx (.callR (yb := asc (.inl rfl) as2) (yc := few_T p 8 2 (by decide) (by decide) h1)) ?_
             | refine qx (.callR (yb := asc (.inl rfl) as2) (yc := few_T q 6 2 (by decide) (by decide) h2)) ?_))
       | with_reducible refine isWO ?_
       | with_reducible refine isWD ?_)
    | ((first
        | refine eE rfl rfl ?_
        | refine edE rfl rfl ?_)
       first
         | refine exx (.storeR (ye := by decide) (yg := .inl rfl)) ?_
         | refine exx (.storeR (ye := by first | ((simp; done)) | fail) (yg := .inl rfl)) ?_
         | refine exx (.storeR (ye := by exact wds_idx (by omega)) (yg := .inl rfl)) ?_
         | refine exx (.appendAR (yd := by decide) (ye := by decide) (yj := .inl rfl) (yk := by rfl) (yl := by first | ((simp [wds_len]; omega)) | fail)) ?_
         | refine exx (.copyR (yf := by first | (simp; done) | fail) (yg := .inl rfl) (yh := by exact wds_flat)) ?_
         | refine exx (.storeR (ye := by first | (first | decide | (simp; done) | (simp; omega)) | fail) (yg := .inl rfl)) ?_
         | refine exx (callh [] (qpoly_steps p q) (.inr ⟨_, rfl, rfl⟩) (hac rfl (hac rfl han)) rfl rfl rfl (by decide) oin olts_n rfl (outs_s rfl (by exact ren_c) (outs_s rfl (by exact ren_c) outs_0)) rfl rfl rfl) ?_
         | refine exx (appendW rfl rfl rfl (by decide) (by decide) rfl rfl rfl rfl (by rfl) (.inl rfl) (by rfl) (by first | ((simp [wds_len]; omega)) | fail)) ?_
         | fail)
    | (refine deE rfl rfl rfl ?_
       (first
         | refine exx (.storeR (ye := by decide) (yg := .inl rfl)) ?_
         | refine exx (.storeR (ye := by first | ((simp; done)) | fail) (yg := .inl rfl)) ?_
         | refine exx (.storeR (ye := by exact wds_idx (by omega)) (yg := .inl rfl)) ?_
         | refine exx (.appendAR (yd := by decide) (ye := by decide) (yj := .inl rfl) (yk := by rfl) (yl := by first | ((simp [wds_len]; omega)) | fail)) ?_
         | refine exx (.copyR (yf := by first | (simp; done) | fail) (yg := .inl rfl) (yh := by exact wds_flat)) ?_
         | refine exx (.storeR (ye := by first | (first | decide | (simp; done) | (simp; omega)) | fail) (yg := .inl rfl)) ?_
         | refine exx (callh [] (qpoly_steps p q) (.inr ⟨_, rfl, rfl⟩) (hac rfl (hac rfl han)) rfl rfl rfl (by decide) oin olts_n rfl (outs_s rfl (by exact ren_c) (outs_s rfl (by exact ren_c) outs_0)) rfl rfl rfl) ?_
         | refine exx (appendW rfl rfl rfl (by decide) (by decide) rfl rfl rfl rfl (by rfl) (.inl rfl) (by rfl) (by first | ((simp [wds_len]; omega)) | fail)) ?_
         | fail)
       first
         | refine ⟨(by exact trivial), ?_⟩
         | refine ⟨(by (repeat' (first | exact trivial | exact .loadP _ _ _ _ _ _ _ _ _ rfl rfl rfl (by rfl) rfl | refine And.intro ?_ ?_))), ?_⟩
         | refine ⟨(by (exact ⟨trivial, .loadP _ _ _ _ _ _ _ _ _ rfl rfl rfl rfl rfl⟩)), ?_⟩
         | fail)
    | ((first
        | refine nE rfl rfl ?_
        | refine dnE rfl rfl rfl rfl ?_)
       first
         | refine nxx .allocR ?_
         | refine nxx (.makeSliceR (yf := by decide) (yi := by omega) (yj := by first | (dsimp only; omega) | fail) (yk := by omega)) ?_
         | refine nxx .allocNilR ?_
         | fail)
  exact fu0 f h) : B := f .m ⟨hA⟩
theorem ga {P : Prop} (h : P := by repeat' (first | exact trivial | (refine And.intro (by rfl) ?_))) : P := h
theorem gb {P : Prop} (h : P := by repeat' (exact trivial)) : P := h
end Go.Proofs.YtacenhlcfeepgaaGreat.Eng
namespace Go.Proofs.YtacenhlcfeepgaaGreat
open Go Eng
theorem mixed : Tryz.prog.follows .mixedOrders = true := by kernel_rfl
def val : List Nat → Nat
 | [] => 0
 | w :: ws => w + 4294967296 * val ws
def Words (ws : List Nat) : Prop := ∀ w ∈ ws, w < 4294967296
def digitsAux : Nat → Nat → List Nat
 | 0, _ => []
 | f + 1, n => match n with
  | 0 => []
  | m + 1 => (m + 1) % 4294967296 :: digitsAux f ((m + 1) / 4294967296)
def digits (n : Nat) : List Nat := digitsAux n n
def trimW : List Nat → List Nat
 | [] => []
 | w :: ws => match trimW ws with
  | [] => if w = 0 then [] else [w]
  | l => w :: l
theorem Words.nil : Words [] := fun _ h => by simp at h
theorem Words.cons {w : Nat} {ws : List Nat} (h : w < 4294967296) (k : Words ws) : Words (w :: ws) := fun x hx => by
 rcases List.mem_cons.1 hx with rfl | hx
 ·exact h
 ·exact k x hx
theorem Words.head {w : Nat} {ws : List Nat} (h : Words (w :: ws)) : w < 4294967296 := h w (by simp)
theorem Words.tail {w : Nat} {ws : List Nat} (h : Words (w :: ws)) : Words ws := fun x hx => h x (by simp [hx])
theorem Words.append {a b : List Nat} (h : Words a) (k : Words b) : Words (a ++ b) := fun x hx => by
 rcases List.mem_append.1 hx with hx | hx
 ·exact h x hx
 ·exact k x hx
theorem Words.getD {ws : List Nat} (h : Words ws) (i : Nat) : ws.getD i 0 < 4294967296 := by
 rw [List.getD_eq_getElem?_getD]
 by_cases hi : i < ws.length
 ·rw [List.getElem?_eq_getElem hi]; exact h _ (List.getElem_mem hi)
 ·rw [List.getElem?_eq_none (by omega)]; simp
theorem Words.take {ws : List Nat} (h : Words ws) (n : Nat) : Words (ws.take n) := fun x hx => h x (List.mem_of_mem_take hx)
theorem Words.set {ws : List Nat} (h : Words ws) {w : Nat} (hw : w < 4294967296) (n : Nat) : Words (ws.set n w) := fun x hx => by
 rcases List.mem_or_eq_of_mem_set hx with hx | rfl
 ·exact h x hx
 ·exact hw
theorem val_append (a b : List Nat) : val (a ++ b) = val a + 4294967296 ^ a.length * val b := by
 induction a with
 | nil => simp [val]
 | cons w a ih =>
  simp only [List.cons_append, val, ih, List.length_cons, Nat.pow_succ, Nat.mul_add]
  have : 4294967296 * (4294967296 ^ a.length * val b) = 4294967296 ^ a.length * 4294967296 * val b := by
   rw [← Nat.mul_assoc, Nat.mul_comm 4294967296]
  omega
theorem val_lt {ws : List Nat} (h : Words ws) : val ws < 4294967296 ^ ws.length := by
 induction ws with
 | nil => simp [val]
 | cons w ws ih =>
  have h1 := h.head
  have h2 := ih h.tail
  simp only [val, List.length_cons, Nat.pow_succ]
  omega
theorem digitsAux_fuel (f g n : Nat) (hf : n ≤ f) (hg : n ≤ g) : digitsAux f n = digitsAux g n := by
 induction f generalizing g n with
 | zero =>
  have : n = 0 := by omega
  subst this
  cases g <;> rfl
 | succ f ih =>
  cases n with
  | zero => cases g <;> rfl
  | succ n =>
   cases g with
   | zero => omega
   | succ g =>
    simp only [digitsAux]
    have : (n + 1) / 4294967296 ≤ n := by omega
    rw [ih g _ (by omega) (by omega)]
theorem digits_zero : digits 0 = [] := rfl
theorem digits_pos {n : Nat} (h : 0 < n) : digits n = n % 4294967296 :: digits (n / 4294967296) := by
 cases n with
 | zero => omega
 | succ n =>
  show digitsAux (n + 1) (n + 1) = _
  simp only [digitsAux]
  rw [digitsAux_fuel n ((n + 1) / 4294967296) _ (by omega) (Nat.le_refl _)]
  rfl
theorem digits_words (n : Nat) : Words (digits n) := by
 induction n using Nat.strongRecOn with
 | _ n ih =>
  by_cases h : 0 < n
  ·rw [digits_pos h]
   exact .cons (Nat.mod_lt _ (by decide)) (ih _ (by omega))
  ·have : n = 0 := by omega
   subst this; exact .nil
theorem val_digits (n : Nat) : val (digits n) = n := by
 induction n using Nat.strongRecOn with
 | _ n ih =>
  by_cases h : 0 < n
  ·rw [digits_pos h]
   simp only [val]
   rw [ih _ (by omega)]
   omega
  ·have : n = 0 := by omega
   subst this; rfl
theorem trimW_val (ws : List Nat) : val (trimW ws) = val ws := by
 induction ws with
 | nil => rfl
 | cons w ws ih =>
  simp only [trimW, val]
  split
  ·rename_i h
   rw [h] at ih
   simp only [val] at ih
   split <;> simp [val, ← ih] <;> omega
  ·simp only [val, ih]
theorem digits_eq_trim {ws : List Nat} (h : Words ws) : digits (val ws) = trimW ws := by
 induction ws with
 | nil => rfl
 | cons w ws ih =>
  have ih := ih h.tail
  have hw := h.head
  simp only [val, trimW]
  by_cases h0 : 0 < w + 4294967296 * val ws
  ·rw [digits_pos h0]
   have e1 : (w + 4294967296 * val ws) % 4294967296 = w := by omega
   have e2 : (w + 4294967296 * val ws) / 4294967296 = val ws := by omega
   rw [e1, e2, ih]
   split
   ·rename_i he
    have hv : val ws = 0 := by rw [← trimW_val, he]; rfl
    have : w ≠ 0 := by omega
    simp [this, he]
   ·rfl
  ·have e1 : w = 0 := by omega
   have e2 : val ws = 0 := by omega
   have : trimW ws = [] := by rw [← ih, e2]; rfl
   rw [e2, e1]
   simp [this, digits_zero]
theorem digits_trim (n : Nat) : trimW (digits n) = digits n := by rw [← digits_eq_trim (digits_words n), val_digits]
theorem trimW_take {ws : List Nat} {n : Nat} (h : ∀ i, n ≤ i → ws.getD i 0 = 0) : trimW (ws.take n) = trimW ws := by
 induction ws generalizing n with
 | nil => simp [trimW]
 | cons w ws ih =>
  cases n with
  | zero =>
   have hw : w = 0 := by simpa using h 0 (by omega)
   have := ih (n := 0) fun i _ => by simpa using h (i + 1) (by omega)
   simp only [List.take_zero, trimW] at this ⊢
   rw [← this]; simp [hw]
  | succ n =>
   have := ih (n := n) fun i hi => by simpa using h (i + 1) (by omega)
   simp only [List.take_succ_cons, trimW, this]
theorem trimW_of_last {ws : List Nat} (h : ws = [] ∨ ws.getD (ws.length - 1) 0 ≠ 0) : trimW ws = ws := by
  induction ws with
  | nil => rfl
  | cons w ws ih =>
    simp only [trimW]
    cases ws with
    | nil =>
      have hw : w ≠ 0 := by rcases h with h | h <;> simp_all
      simp [trimW, hw]
    | cons v ws =>
      have := ih (.inr (by rcases h with h | h
                           · cases h
                           · simpa using h))
      rw [this]
theorem trimW_last {ws : List Nat} (h : trimW ws ≠ []) : (trimW ws).getD ((trimW ws).length - 1) 0 ≠ 0 := by
 induction ws with
 | nil => exact absurd rfl h
 | cons w ws ih =>
  simp only [trimW] at h ⊢
  split at h
  ·rename_i he
   split at h
   ·exact absurd rfl h
   ·rename_i hw
    simp [hw]
  ·rename_i he
   have := ih he
   revert this
   cases hq : trimW ws with
   | nil => exact absurd hq he
   | cons v l => simp
def wds (ws : List Nat) : List Tr := ws.map fun (w : Nat) => .i .u32 (w : Int)
def rawI (neg : Bool) (ws : List Nat) : Tr := .ag [.b neg, .sl T_uint32 (wds ws)]
def encI (z : Int) : Tr := .ag [.b (decide (z < 0)), .sl T_uint32 (wds (digits z.natAbs))]
def rawQ (n1 : Bool) (w1 : List Nat) (n2 : Bool) (w2 : List Nat) : Tr := .ag [.b n1, .sl T_uint32 (wds w1), .b n2, .sl T_uint32 (wds w2)]
def encQI (n d : Int) : Tr := .ag [.b (decide (n < 0)), .sl T_uint32 (wds (digits n.natAbs)), .b (decide (d < 0)), .sl T_uint32 (wds (digits d.natAbs))]
def encQ (q : Rat) : Tr := encQI q.num q.den
def encIs (l : List Int) : Tr := .sl T_Int (l.map encI)
def encQs (l : List Rat) : Tr := .sl T_Rat (l.map encQ)
theorem wds_len {ws : List Nat} : (wds ws).length = ws.length := by simp [wds]
theorem wds_at {ws : List Nat} {n : Int} (h : n.toNat < ws.length) : (wds ws)[n.toNat]? = some (.i .u32 (ws.getD n.toNat 0 : Nat)) := by
 simp [wds, List.getElem?_eq_getElem h, List.getD_eq_getElem?_getD]
theorem wds_flat {ws : List Nat} : (wds ws).all Tr.flat = true := by
 simp [wds, List.all_eq_true, Tr.flat]
theorem wds_take {ws : List Nat} {n : Nat} : (wds ws).take n = wds (ws.take n) := by simp [wds]
theorem getD_digits_last {n : Nat} (h : digits n ≠ []) : (digits n).getD ((digits n).length - 1) 0 ≠ 0 := by
 rw [← digits_trim] at h ⊢
 exact trimW_last h
theorem digits_nil {n : Nat} : digits n = [] ↔ n = 0 := by
 constructor
 ·intro h
  have := val_digits n
  rw [h] at this; exact this.symm
 ·rintro rfl; rfl
theorem digits_len {n : Nat} : (digits n).length = 0 ↔ n = 0 := by
 rw [List.length_eq_zero_iff]; exact digits_nil
theorem tri {k : IntKind} {a b : Int} (h : a = b) : Tr.i k a = Tr.i k b := congrArg _ h
theorem trb {a b : Bool} (h : a = b) : Tr.b a = Tr.b b := congrArg _ h
theorem shr32 {a : Int} : a.fdiv (2 ^ (min (Int.toNat 32) IntKind.u64.bits)) = a / 4294967296 := by
 rw [Int.fdiv_eq_ediv_of_nonneg _ (by decide)]; rfl
theorem shr31 {a : Int} : a.fdiv (2 ^ (min (Int.toNat 31) IntKind.u32.bits)) = a / 2147483648 := by
 rw [Int.fdiv_eq_ediv_of_nonneg _ (by decide)]; rfl
theorem shl32 {a : Int} (h : 0 ≤ a ∧ a < 4294967296) : IntKind.u64.wrap (a * 2 ^ (min (Int.toNat 32) IntKind.u64.bits)) = a * 4294967296 := by
 have : (2 : Int) ^ (min (Int.toNat 32) IntKind.u64.bits) = 4294967296 := rfl
 rw [this]; exact wrap_u64 (by omega)
theorem ofInt_nat {n a : Nat} : BitVec.ofInt n (a : Int) = BitVec.ofNat n a := by simp
theorem wrapn {n : Nat} : IntKind.u32.wrap (n : Int) = ((n % 4294967296 : Nat) : Int) := by rw [wrap_u32_mod]; rfl
theorem w64n {n : Nat} (h : n < 18446744073709551616) : IntKind.u64.wrap (n : Int) = (n : Int) := wrap_u64 (by omega)
theorem w32n {n : Nat} (h : n < 4294967296) : IntKind.u32.wrap (n : Int) = (n : Int) := wrap_u32 (by omega)
theorem tdivn {x y : Nat} (h : x < 18446744073709551616) : IntKind.u64.wrap ((x : Int).tdiv (y : Int)) = ((x / y : Nat) : Int) := by
 rw [← Int.ofNat_tdiv]; exact w64n (Nat.lt_of_le_of_lt (Nat.div_le_self x y) h)
theorem tmodn {x y : Nat} : (x : Int).tmod (y : Int) = ((x % y : Nat) : Int) := by rw [← Int.ofNat_tmod]
theorem wds_upd {ws ws' : List Nat} {j w : Nat} (h : ws.set j w = ws') : ((wds ws).map AV.t).set j (.t (.i .u32 w)) = (wds ws').map .t := by
 subst h; simp [wds, List.map_set]
theorem set_fill {α : Type} {f : Nat → α} {z : α} {n i : Nat} (h : i < n) : ((List.range i).map f ++ List.replicate (n - i) z).set i (f i) = (List.range (i + 1)).map f ++ List.replicate (n - (i + 1)) z := by
 have e : n - i = (n - (i + 1)) + 1 := by omega
 rw [e, List.replicate_succ, List.set_append_right _ _ (by simp)]
 simp [List.range_succ]
theorem wds_idx {ws : List Nat} {j : Nat} (h : j < ws.length) : j < ((wds ws).map AV.t).length := by simpa [wds] using h
theorem wds_own {ws : List Nat} {j : Nat} (h : j < ws.length) : ((wds ws).map AV.t)[j]? = some (.t (.i .u32 (ws.getD j 0 : Nat))) := by
 simp [wds, List.getElem?_eq_getElem h, List.getD_eq_getElem?_getD]
theorem wds_own2 {ws : List Nat} {j : Nat} (k : Nat) (e : j = k) (h : k < ws.length) : ((wds ws).map AV.t)[j]? = some (.t (.i .u32 (ws.getD k 0 : Nat))) := by subst e; exact wds_own h
theorem wds_at2 {ws : List Nat} {j : Nat} (k : Nat) (e : j = k) (h : k < ws.length) : (wds ws)[j]? = some (.i .u32 (ws.getD k 0 : Nat)) := by
 subst e; exact wds_at (n := (j : Int)) h
theorem wds_upd2 {ws ws' : List Nat} {j w : Nat} (k : Nat) (e : j = k) (h : ws.set k w = ws') : ((wds ws).map AV.t).set j (.t (.i .u32 w)) = (wds ws').map .t := by subst e; exact wds_upd h
theorem wds_upd2' {ws : List Nat} {j1 j2 w1 w2 : Nat} (k1 k2 : Nat) (e1 : j1 = k1) (e2 : j2 = k2) : (((wds ws).map AV.t).set j1 (.t (.i .u32 w1))).set j2 (.t (.i .u32 w2)) = (wds ((ws.set k1 w1).set k2 w2)).map .t := by
 subst e1 e2; rw [wds_upd rfl, wds_upd rfl]
section
variable {P : Program} {G : Gh} {F : Fence} {s : Sta} {c : Code} {Q : Exit → Sta → Prop} {ws : List Nat} {neg : Bool}
theorem wp_wl (d : Nat) (hd : get s.sl d = some (.t (.sl T_uint32 (wds ws)))) (h : ws.length ≤ 35184372088832 → WP P tb G F c s Q) : WP P tb G F c s Q :=
 wp_bound d hd fun hb => h (by
  have hb : (wds ws).length * 4 ≤ 140737488355328 := hb
  rw [wds_len] at hb; omega)
theorem wp_il (d : Nat) (hd : get s.sl d = some (.t (rawI neg ws))) (h : ws.length ≤ 35184372088832 → WP P tb G F c s Q) : WP P tb G F c s Q :=
 wp_boundF d 1 hd rfl fun hb => h (by
  have hb : (wds ws).length * 4 ≤ 140737488355328 := hb
  rw [wds_len] at hb; omega)
theorem wp_ll (d : Nat) {T : TypeId} {l : List Tr} (hd : get s.sl d = some (.t (.sl T l))) (hT : Nat.ble 1 (byOf tb T) = true) (h : l.length ≤ 140737488355328 → WP P tb G F c s Q) : WP P tb G F c s Q :=
 wp_bound d hd fun hb => h (by
  have : 1 ≤ byOf tb T := Nat.le_of_ble_eq_true hT
  exact Nat.le_trans (by rw [Nat.mul_comm]; exact Nat.le_mul_of_pos_left _ this) hb)
end
def isW (neg : Bool) (ws : List Nat) : Bool := if ws.length = 0 then !neg else decide (ws.getD (ws.length - 1) 0 ≠ 0)
theorem num_Is (neg : Bool) (ws : List Nat) : FnP Tryz.prog tb F_num_Is [rawI neg ws] (.b (isW neg ws)) := by
 refine fn1 Tryz.func142 fun G hG hK hF => ?_
 refine wp_il 0 rfl fun hb => ?_
 refine sx 15 ?_
 refine wp_c rfl (fun hc => ?_) (fun hc => ?_)
 ·have hc : ws.length = 0 := by simpa using hc
  refine sx 8 ?_
  exact ⟨.inr rfl, rfl, (by (refine res_t rfl ?_); (simp [isW, hc])), trivial⟩
 ·have hc : ws.length ≠ 0 := by simpa using hc
  refine sx 13 ?_
  exact ⟨.inr rfl, rfl, (by (refine res_t rfl ?_); (rw [show ((ws.length : Int) - 1).toNat = ws.length - 1 by omega]; simp [isW, hc, bne, BEq.beq])), trivial⟩
def sgn (neg : Bool) (n : Nat) : Int := if neg then -(n : Int) else n
theorem encI_sgn {neg : Bool} {n : Nat} (h : n ≠ 0) : encI (sgn neg n) = rawI neg (digits n) := by
 unfold encI rawI sgn
 cases neg
 ·have : ¬ (n : Int) < 0 := by omega
  simp
 ·have : 0 < n := by omega
  simp [this]
theorem num_made (neg : Bool) (ws : List Nat) (hw : Words ws) : FnP Tryz.prog tb F_num_made [.b neg, .sl T_uint32 (wds ws)] (encI (sgn neg (val ws))) := by
 refine fn1 Tryz.func162 fun G hG hK hF => ?_
 refine wp_wl 1 rfl fun hb => ?_
 refine sx 10 ?_
 refine wp_l hK (fun n : Nat => ⟨[(0, .t (.b neg)), (1, .t (.sl T_uint32 (wds ws))), (4, .ptr T_Int 0 0 0), (5, .t (.i .i64 n))], [(0, some (.arr T_Int [.t (encI 0)]))], 1, 0⟩) (fun n => n ≤ ws.length ∧ ∀ i, n ≤ i → ws.getD i 0 = 0) (fun n => n) ws.length ?_ (fun _ => rfl) ?_ ?_
 ·exact ⟨Nat.le_refl _, fun i hi => by simp [List.getD_eq_getElem?_getD, List.getElem?_eq_none hi]⟩
 ·exact il
 ·rintro n ⟨hn, hz⟩
  refine wp_s ?_
  rcases n with _ | n
  ·refine sx 12 ?_
   refine wp_c rfl (fun hc => ?_) (fun hc => ?_)
   ·simp at hc
   ·refine sx 10 ?_
    refine wp_c rfl (fun hc => ?_) (fun hc => ?_)
    ·have hv : val ws = 0 := by rw [← trimW_val, ← trimW_take hz]; rfl
     refine sx 6 ?_
     exact ⟨.inr rfl, rfl, (by (refine res_c rfl rfl rfl rfl rfl ?_); (rw [hv]; cases neg <;> rfl)), trivial⟩
    ·simp at hc
  ·refine sx 12 ?_
   refine wp_c rfl (fun hc => ?_) (fun hc => ?_)
   ·have hc : ws.getD n 0 = 0 := by simpa using hc
    refine sx 9 ?_
    exact round_n n (by exact ⟨by omega, fun i hi => by rcases Nat.eq_or_lt_of_le hi with rfl | h; exact hc; exact hz i h⟩) (by omega) (by exact imp_less (by repeat' (first | exact trivial | (refine And.intro (by first | rfl | exact geti rfl (by omega)) ?_))) ga (by exact Nat.le_of_ble_eq_true rfl))
   ·have hl : ws.getD n 0 ≠ 0 := by simpa using hc
    refine sx 10 ?_
    refine wp_c rfl (fun hc => ?_) (fun hc => ?_)
    ·simp at hc; omega
    ·refine sx 12 ?_
     have hx : digits (val ws) = ws.take (n + 1) := by
      rw [digits_eq_trim hw, ← trimW_take hz]
      refine trimW_of_last (.inr ?_)
      rw [List.length_take, Nat.min_eq_left hn, List.getD_eq_getElem?_getD, List.getElem?_take]
      simpa [List.getD_eq_getElem?_getD] using hl
     have hne : val ws ≠ 0 := fun h => by rw [h] at hx; cases ws <;> simp [digits_zero] at hx hn
     refine wp_imp hK (imp_fz 6 (wds (ws.take (n + 1))) rfl rfl (by simp [wds_take, wds_len]; omega) (by simp [wds_len]; omega)) ?_
     refine sx 7 ?_
     exact ⟨.inr rfl, rfl, (by (refine res_c rfl rfl rfl rfl rfl ?_); (rw [encI_sgn hne, hx]; rfl)), trivial⟩
theorem bits_Add32 (x y c : Nat) (hx : x < 4294967296) (hy : y < 4294967296) (hc : c < 4294967296) : FnP Tryz.prog tb F_bits_Add32 [.i .u32 x, .i .u32 y, .i .u32 c] (.tu [.i .u32 ((x + y + c) % 4294967296 : Nat), .i .u32 ((x + y + c) / 4294967296 : Nat)]) := by
 refine fnP_T tbOk Tryz.func202 rfl rfl (Nat.le_of_ble_eq_true rfl) rfl fun G hG hK => ?_
 have hF : Wd Fence.wide := .inl rfl
 refine sx 17 ?_
 refine oq (.convR (yf := by exact wrap_u32_mod)) ?_
 refine oa ?_
 refine wo_nil ?_
 refine rr ?_
 refine om ?_
 refine oq (.shrR (yc := by omega) (yd := by exact shr32)) ?_
 refine oq (.convR (yf := by exact wrap_u32 (by omega))) ?_
 refine oa ?_
 refine wo_nil ?_
 refine wp_rt ?_
 exact ⟨.inr rfl, rfl, (by (refine res_t rfl ?_); (rfl)), (by (refine res_t rfl ?_); (rfl)), trivial⟩
theorem borrow32 {x y d : BitVec 32} : (((~~~x &&& y) ||| (~~~(x ^^^ y) &&& d)).toNat) / 2147483648 = if (!x.msb && y.msb) || (!(x.msb ^^ y.msb) && d.msb) then 1 else 0 := by
 generalize hz : ((~~~x &&& y) ||| (~~~(x ^^^ y) &&& d)) = z
 have hm : z.msb = ((!x.msb && y.msb) || (!(x.msb ^^ y.msb) && d.msb)) := by rw [← hz]; simp
 rw [← hm]
 have := z.isLt
 rw [BitVec.msb_eq_decide]
 by_cases h : 2 ^ (32 - 1) ≤ z.toNat
 ·simp [h]; omega
 ·simp [h]; omega
theorem wrap_bv (b : BitVec 32) : IntKind.u32.wrap (b.toNat : Int) = b.toNat := wrap_u32 (by have := b.isLt; omega)
theorem ofInt_bv (b : BitVec 32) : BitVec.ofInt 32 (b.toNat : Int) = b := by apply BitVec.eq_of_toNat_eq; simp
theorem borrow_law {x y c : Nat} (hx : x < 4294967296) (hy : y < 4294967296) (hc : c ≤ 1) :
  (((~~~(BitVec.ofNat 32 x) &&& BitVec.ofNat 32 y) ||| (~~~(BitVec.ofNat 32 x ^^^ BitVec.ofNat 32 y) &&& BitVec.ofNat 32 ((x + 8589934592 - y - c) % 4294967296))).toNat) / 2147483648 = if x < y + c then 1 else 0 := by
 rw [borrow32]
 simp only [BitVec.msb_eq_decide, BitVec.toNat_ofNat]
 have e1 : x % 2 ^ 32 = x := by omega
 have e2 : y % 2 ^ 32 = y := by omega
 have e3 : (x + 8589934592 - y - c) % 4294967296 % 2 ^ 32 = (x + 8589934592 - y - c) % 4294967296 := by omega
 rw [e1, e2, e3]
 by_cases h1 : 2 ^ (32 - 1) ≤ x <;> by_cases h2 : 2 ^ (32 - 1) ≤ y <;> by_cases h3 : 2 ^ (32 - 1) ≤ (x + 8589934592 - y - c) % 4294967296 <;> simp [h1, h2, h3] <;> omega
theorem bits_Sub32 (x y c : Nat) (hx : x < 4294967296) (hy : y < 4294967296) (hc : c ≤ 1) : FnP Tryz.prog tb F_bits_Sub32 [.i .u32 x, .i .u32 y, .i .u32 c] (.tu [.i .u32 ((x + 8589934592 - y - c) % 4294967296 : Nat), .i .u32 (if x < y + c then 1 else 0 : Nat)]) := by
 refine fnP_T tbOk Tryz.func206 rfl rfl (Nat.le_of_ble_eq_true rfl) rfl fun G hG hK => ?_
 have hF : Wd Fence.wide := .inl rfl
 refine sx 24 ?_
 refine oq (.shrR (yc := by omega) (yd := by exact shr31)) ?_
 refine sx 3 ?_
 exact ⟨.inr rfl, rfl, (by (refine res_t rfl ?_); (exact tri (by omega))), (by (refine res_t rfl ?_); ((refine tri ?_; dsimp only [IntKind.bits]; rw [show (if IntKind.u32.signed = true then (-1 : Int) else IntKind.u32.max) = ((4294967295 : Nat) : Int) from rfl, show (((x : Int) - y) % 4294967296 - c) % 4294967296 = (((x + 8589934592 - y - c) % 4294967296 : Nat) : Int) by omega]; simp only [ofInt_nat, wrap_bv]; rw [← borrow_law hx hy hc]; simp only [← ofInt_nat, ofInt_bv]; rfl))), trivial⟩
def cell (n : Nat) : Eng.Obj := .arr T_uint32 [.t (.i .u32 n)]
theorem num_plus1 (x y c : Nat) (hx : x < 4294967296) (hy : y < 4294967296) (hc : c ≤ 1) : FnH Tryz.prog tb F_num_plus_c1 [.t (.i .u32 x), .t (.i .u32 y), .ptr T_uint32 0 0 0] [cell c] (.t (.i .u32 ((x + y + c) % 4294967296 : Nat))) [(0, some (cell ((x + y + c) / 4294967296)))] 1 := by
 refine fnH_of tbOk Tryz.func204 rfl rfl (Nat.le_of_ble_eq_true rfl) fun G hG hK => ?_
 have hF : Wd Fence.wide := .inl rfl
 refine sx 7 ?_
 refine oq (.callR (yb := asc (.inl rfl) as2) (yc := bits_Add32 x y c hx hy (by omega))) ?_
 refine sx 15 ?_
 exact ⟨.inr rfl, rfl, _, Imp.refl _ _, Nat.le_of_ble_eq_true rfl, Nat.le_of_ble_eq_true rfl, ga, (by exact .inr ⟨_, rfl, rfl⟩)⟩
theorem num_minus1 (x y c : Nat) (hx : x < 4294967296) (hy : y < 4294967296) (hc : c ≤ 1) : FnH Tryz.prog tb F_num_minus_c1 [.t (.i .u32 x), .t (.i .u32 y), .ptr T_uint32 0 0 0] [cell c] (.t (.i .u32 ((x + 8589934592 - y - c) % 4294967296 : Nat))) [(0, some (cell (if x < y + c then 1 else 0)))] 1 := by
 refine fnH_of tbOk Tryz.func205 rfl rfl (Nat.le_of_ble_eq_true rfl) fun G hG hK => ?_
 have hF : Wd Fence.wide := .inl rfl
 refine sx 7 ?_
 refine oq (.callR (yb := asc (.inl rfl) as2) (yc := bits_Sub32 x y c hx hy hc)) ?_
 refine sx 15 ?_
 exact ⟨.inr rfl, rfl, _, Imp.refl _ _, Nat.le_of_ble_eq_true rfl, Nat.le_of_ble_eq_true rfl, ga, (by exact .inr ⟨_, rfl, rfl⟩)⟩
section
variable (r s : Nat → Nat → Nat → Nat) (a b : List Nat)
def zc (c0 : Nat) : Nat → Nat
 | 0 => c0
 | i + 1 => s (a.getD i 0) (b.getD i 0) (zc c0 i)
def zr (c0 : Nat) (i : Nat) : Nat := r (a.getD i 0) (b.getD i 0) (zc s a b c0 i)
def zipW (c0 : Nat) (n : Nat) : List Nat := (List.range n).map (zr r s a b c0)
end
theorem zc_le {s : Nat → Nat → Nat → Nat} {a b : List Nat} (hs : ∀ x y c : Nat, x < 4294967296 → y < 4294967296 → c ≤ 1 → s x y c ≤ 1) (ha : Words a) (hb : Words b) : ∀ i, zc s a b 0 i ≤ 1
 | 0 => by simp [zc]
 | i + 1 => hs _ _ _ (ha.getD i) (hb.getD i) (zc_le hs ha hb i)
theorem num_zipped {f : FuncId} {r s : Nat → Nat → Nat → Nat} (hs : ∀ x y c : Nat, x < 4294967296 → y < 4294967296 → c ≤ 1 → s x y c ≤ 1)
  (hf : ∀ x y c : Nat, x < 4294967296 → y < 4294967296 → c ≤ 1 → FnH Tryz.prog tb f [.t (.i .u32 x), .t (.i .u32 y), .ptr T_uint32 0 0 0] [cell c] (.t (.i .u32 (r x y c : Nat))) [(0, some (cell (s x y c)))] 1)
  (a b : List Nat) (ha : Words a) (hb : Words b) (hsz : max a.length b.length < 35184372088832) : FnH Tryz.prog tb F_num_zipped_uint32 [.t (.sl T_uint32 (wds a)), .t (.sl T_uint32 (wds b)), .clo f [.ptr T_uint32 0 0 0]] [cell 0]
   (.own T_uint32 1 0 (max a.length b.length + 1)) [(1, some (.arr T_uint32 ((wds (zipW r s a b 0 (max a.length b.length + 1))).map .t))), (0, some (cell (zc s a b 0 (max a.length b.length + 1))))] 2 := by
 refine fnH_of tbOk Tryz.func203 rfl rfl (Nat.le_of_ble_eq_true rfl) fun G hG hK => ?_
 have hF : Wd Fence.wide := .inl rfl
 refine wp_wl 0 rfl fun h0 => ?_
 refine wp_wl 1 rfl fun h1 => ?_
 refine sx 23 ?_
 refine wp_l hK (fun i : Nat => ⟨[(0, .t (.sl T_uint32 (wds a))), (1, .t (.sl T_uint32 (wds b))), (2, .clo f [.ptr T_uint32 0 0 0]), (8, .own T_uint32 1 0 (max a.length b.length + 1)), (20, .t (.i .i64 (max a.length b.length + 1 : Nat))), (21, .t (.i .i64 i))], [(1, some (.arr T_uint32 ((wds (zipW r s a b 0 i ++ List.replicate (max a.length b.length + 1 - i) 0)).map .t))), (0, some (cell (zc s a b 0 i)))], 2, 0⟩) (fun i => i ≤ max a.length b.length + 1) (fun i => max a.length b.length + 1 - i) 0 ?_ (fun _ => rfl) ?_ ?_
 ·omega
 ·exact imp_less (by repeat' (first | exact trivial | (refine And.intro (by first | rfl | exact geti rfl (by omega) | exact geto rfl (by omega)) ?_))) (by repeat' (first | exact trivial | (refine And.intro (by first | rfl | exact geth rfl (by (simp [wds, zipW]; omega))) ?_))) (by exact Nat.le_of_ble_eq_true rfl)
 ·intro i hi
  refine sx 4 ?_
  refine wp_c rfl (fun hc => ?_) (fun hc => ?_)
  ·have hc : i < max a.length b.length + 1 := by simp at hc; omega
   refine sx 12 ?_
   refine wp_j hK (fun _ : Unit => ⟨[(0, .t (.sl T_uint32 (wds a))), (1, .t (.sl T_uint32 (wds b))), (2, .clo f [.ptr T_uint32 0 0 0]), (8, .own T_uint32 1 0 (max a.length b.length + 1)), (9, .t (.i .i64 i)), (10, .t (.i .u32 (a.getD i 0 : Nat))), (11, .t (.i .u32 0)), (20, .t (.i .i64 (max a.length b.length + 1 : Nat))), (21, .t (.i .i64 i))], [(1, some (.arr T_uint32 ((wds (zipW r s a b 0 i ++ List.replicate (max a.length b.length + 1 - i) 0)).map .t))), (0, some (cell (zc s a b 0 i)))], 2, 0⟩) (fun _ => True) (fun _ => rfl) ?_ ?_
   ·refine sx 6 ?_
    refine wp_c rfl (fun hc => ?_) (fun hc => ?_)
    ·have hc2 : i < a.length := by simp at hc; omega
     refine sx 7 ?_
     exact join_n () (by trivial) (by exact il)
    ·have hc2 : a.length ≤ i := by simp at hc; omega
     refine wp_k ?_
     exact join_n () (by trivial) (by exact imp_less (by repeat' (first | exact trivial | (refine And.intro (by first | rfl | exact geti rfl (by simp [List.getD_eq_getElem?_getD, List.getElem?_eq_none hc2])) ?_))) ga (by exact Nat.le_of_ble_eq_true rfl))
   ·intro _ _
    refine wp_j hK (fun _ : Unit => ⟨[(0, .t (.sl T_uint32 (wds a))), (1, .t (.sl T_uint32 (wds b))), (2, .clo f [.ptr T_uint32 0 0 0]), (8, .own T_uint32 1 0 (max a.length b.length + 1)), (9, .t (.i .i64 i)), (10, .t (.i .u32 (a.getD i 0 : Nat))), (11, .t (.i .u32 (b.getD i 0 : Nat))), (20, .t (.i .i64 (max a.length b.length + 1 : Nat))), (21, .t (.i .i64 i))], [(1, some (.arr T_uint32 ((wds (zipW r s a b 0 i ++ List.replicate (max a.length b.length + 1 - i) 0)).map .t))), (0, some (cell (zc s a b 0 i)))], 2, 0⟩) (fun _ => True) (fun _ => rfl) ?_ ?_
    ·refine sx 6 ?_
     refine wp_c rfl (fun hc => ?_) (fun hc => ?_)
     ·have hc2 : i < b.length := by simp at hc; omega
      refine sx 7 ?_
      exact join_n () (by trivial) (by exact il)
     ·have hc2 : b.length ≤ i := by simp at hc; omega
      refine wp_k ?_
      exact join_n () (by trivial) (by exact imp_less (by repeat' (first | exact trivial | (refine And.intro (by first | rfl | exact geti rfl (by simp [List.getD_eq_getElem?_getD, List.getElem?_eq_none hc2])) ?_))) ga (by exact Nat.le_of_ble_eq_true rfl))
    ·intro _ _
     refine sx 6 ?_
     refine oed (callh [0] (hf (a.getD i 0) (b.getD i 0) (zc s a b 0 i) (ha.getD i) (hb.getD i) (zc_le hs ha hb i)) (.inl rfl) (hac rfl (hac rfl han)) rfl rfl rfl (by decide) (oic rfl (by exact ren_c) oin) (olts_c (by exact olt_l rfl) olts_n) rfl (outs_s rfl (by exact ren_c) outs_0) rfl rfl rfl) ?_
     refine sx 1 ?_
     refine oe (.storeR (ye := by (simp [wds, zipW]; omega)) (yg := .inl rfl)) ?_
     refine sx 7 ?_
     exact round_n (i + 1) (by omega) (by omega) (by exact imp_less ga (by repeat' (first | exact trivial | (refine And.intro (by first | rfl | exact geth rfl (wds_upd (by rw [Nat.zero_add]; exact set_fill (f := zr r s a b 0) hc))) ?_))) (by exact Nat.le_of_ble_eq_true rfl))
  ·obtain rfl : i = max a.length b.length + 1 := by simp at hc; omega
   refine sx 10 ?_
   exact ⟨.inr rfl, rfl, _, Imp.refl _ _, Nat.le_of_ble_eq_true rfl, Nat.le_of_ble_eq_true rfl, (by repeat' (first | exact trivial | (refine And.intro (by first | rfl | exact geth rfl (by simp [wds, zipW])) ?_))), (by exact .inr ⟨_, rfl, rfl⟩)⟩
def addW (a b : List Nat) : List Nat := zipW (fun x y c => (x + y + c) % 4294967296) (fun x y c => (x + y + c) / 4294967296) a b 0 (max a.length b.length + 1)
def subW (a b : List Nat) : List Nat := zipW (fun x y c => (x + 8589934592 - y - c) % 4294967296) (fun x y c => if x < y + c then 1 else 0) a b 0 (max a.length b.length + 1)
theorem num_plus (a b : List Nat) (ha : Words a) (hb : Words b) (hsz : max a.length b.length < 35184372088832) : FnP Tryz.prog tb F_num_plus [.sl T_uint32 (wds a), .sl T_uint32 (wds b)] (.sl T_uint32 (wds (addW a b))) := by
 refine fn1 Tryz.func188 fun G hG hK hF => ?_
 refine sx 10 ?_
 refine oed (callh [0] (num_zipped (f := F_num_plus_c1) (fun x y c h1 h2 h3 => by omega) num_plus1 a b ha hb hsz) (.inr ⟨_, rfl, rfl⟩) (hac rfl (hac rfl (hac rfl han))) rfl rfl rfl (by decide) (oic rfl (by exact ren_c) oin) (olts_c (by exact olt_l rfl) olts_n) rfl (outs_s rfl (by exact ren_t) (outs_s rfl (by exact ren_c) outs_0)) rfl rfl rfl) ?_
 refine sx 2 ?_
 refine wp_imp hK (imp_fz 4 (wds (addW a b)) rfl rfl rfl (by simp [wds, addW, zipW])) ?_
 refine sx 1 ?_
 exact ⟨.inr rfl, rfl, (by (refine res_t rfl ?_); (rfl)), trivial⟩
theorem num_minus (a b : List Nat) (ha : Words a) (hb : Words b) (hsz : max a.length b.length < 35184372088832) : FnP Tryz.prog tb F_num_minus [.sl T_uint32 (wds a), .sl T_uint32 (wds b)] (.sl T_uint32 (wds (subW a b))) := by
 refine fn1 Tryz.func189 fun G hG hK hF => ?_
 refine sx 10 ?_
 refine oed (callh [0] (num_zipped (f := F_num_minus_c1) (fun x y c h1 h2 h3 => by split <;> omega) num_minus1 a b ha hb hsz) (.inr ⟨_, rfl, rfl⟩) (hac rfl (hac rfl (hac rfl han))) rfl rfl rfl (by decide) (oic rfl (by exact ren_c) oin) (olts_c (by exact olt_l rfl) olts_n) rfl (outs_s rfl (by exact ren_t) (outs_s rfl (by exact ren_c) outs_0)) rfl rfl rfl) ?_
 refine sx 2 ?_
 refine wp_imp hK (imp_fz 4 (wds (subW a b)) rfl rfl rfl (by simp [wds, subW, zipW])) ?_
 refine sx 1 ?_
 exact ⟨.inr rfl, rfl, (by (refine res_t rfl ?_); (rfl)), trivial⟩
def pv (a : List Nat) (i : Nat) : Nat := val ((List.range i).map fun j => a.getD j 0)
theorem val_range (f : Nat → Nat) (i : Nat) : val ((List.range (i + 1)).map f) = val ((List.range i).map f) + 4294967296 ^ i * f i := by
 rw [List.range_succ, List.map_append, val_append]; simp [val]
theorem pv_succ (a : List Nat) (i : Nat) : pv a (i + 1) = pv a i + 4294967296 ^ i * a.getD i 0 := val_range _ i
theorem pv_all (a : List Nat) (i : Nat) (h : a.length ≤ i) : pv a i = val a := by
 induction i with
 | zero =>
  have : a = [] := List.length_eq_zero_iff.1 (by omega)
  subst this; rfl
 | succ i ih =>
  rw [pv_succ]
  by_cases hi : a.length ≤ i
  ·rw [ih hi, List.getD_eq_getElem?_getD, List.getElem?_eq_none hi]; simp
  ·have hl : a.length = i + 1 := by omega
   rw [← pv_succ]
   have e : (List.range (i + 1)).map (fun j => a.getD j 0) = a := by
    apply List.ext_getElem (by simp [hl])
    intro n h1 h2
    simp [List.getD_eq_getElem?_getD, List.getElem?_eq_getElem h2]
   rw [pv, e]
theorem zc_succ {s : Nat → Nat → Nat → Nat} {a b : List Nat} {c i : Nat} : zc s a b c (i + 1) = s (a.getD i 0) (b.getD i 0) (zc s a b c i) := rfl
theorem zipW_words {r s : Nat → Nat → Nat → Nat} (hr : ∀ x y c, r x y c < 4294967296) (a b : List Nat) (c n : Nat) : Words (zipW r s a b c n) := fun w hw => by
 obtain ⟨i, _, rfl⟩ := List.mem_map.1 hw
 exact hr _ _ _
theorem addW_words (a b : List Nat) : Words (addW a b) := zipW_words (fun x y c => by omega) _ _ _ _
theorem subW_words (a b : List Nat) : Words (subW a b) := zipW_words (fun x y c => by omega) _ _ _ _
theorem val_addW (a b : List Nat) (ha : Words a) (hb : Words b) : val (addW a b) = val a + val b := by
 have key : ∀ i, val (zipW (fun x y c => (x + y + c) % 4294967296) (fun x y c => (x + y + c) / 4294967296) a b 0 i) + 4294967296 ^ i * zc (fun x y c => (x + y + c) / 4294967296) a b 0 i = pv a i + pv b i := by
  intro i
  induction i with
  | zero => simp [zipW, zc, pv, val]
  | succ i ih =>
   rw [zipW, val_range, pv_succ, pv_succ]
   rw [zipW] at ih
   simp only [zr, zc_succ]
   generalize zc _ a b 0 i = c at *
   generalize a.getD i 0 = x at *
   generalize b.getD i 0 = y at *
   generalize hP : 4294967296 ^ i = P at *
   have e : 4294967296 ^ (i + 1) = P * 4294967296 := by rw [Nat.pow_succ, hP]
   rw [e]
   have h1 : (x + y + c) % 4294967296 + 4294967296 * ((x + y + c) / 4294967296) = x + y + c := by omega
   have h2 : P * ((x + y + c) % 4294967296) + P * 4294967296 * ((x + y + c) / 4294967296) = P * x + P * y + P * c := by
    rw [Nat.mul_assoc, ← Nat.mul_add, h1, Nat.mul_add, Nat.mul_add]
   omega
 have hk := key (max a.length b.length + 1)
 rw [pv_all a _ (by omega), pv_all b _ (by omega)] at hk
 have hc : zc (fun x y c => (x + y + c) / 4294967296) a b 0 (max a.length b.length + 1) = 0 := by
  simp only [zc_succ]
  have h1 : a.getD (max a.length b.length) 0 = 0 := by rw [List.getD_eq_getElem?_getD, List.getElem?_eq_none (by omega)]; rfl
  have h2 : b.getD (max a.length b.length) 0 = 0 := by rw [List.getD_eq_getElem?_getD, List.getElem?_eq_none (by omega)]; rfl
  have h3 := zc_le (s := fun x y c => (x + y + c) / 4294967296) (fun x y c h1 h2 h3 => by omega) ha hb (max a.length b.length)
  omega
 rw [hc, Nat.mul_zero, Nat.add_zero] at hk
 exact hk
theorem val_subW (a b : List Nat) (ha : Words a) (hb : Words b) (hle : val b ≤ val a) : val (subW a b) = val a - val b := by
 have key : ∀ i, val (zipW (fun x y c => (x + 8589934592 - y - c) % 4294967296) (fun x y c => if x < y + c then 1 else 0) a b 0 i) + pv b i = pv a i + 4294967296 ^ i * zc (fun x y c => if x < y + c then 1 else 0) a b 0 i := by
  intro i
  induction i with
  | zero => simp [zipW, zc, pv, val]
  | succ i ih =>
   rw [zipW, val_range, pv_succ, pv_succ]
   rw [zipW] at ih
   have hc := zc_le (s := fun x y c => if x < y + c then 1 else 0) (fun x y c h1 h2 h3 => by split <;> omega) ha hb i
   have hx := ha.getD i
   have hy := hb.getD i
   simp only [zr, zc_succ]
   generalize zc _ a b 0 i = c at *
   generalize a.getD i 0 = x at *
   generalize b.getD i 0 = y at *
   generalize hP : 4294967296 ^ i = P at *
   have e : 4294967296 ^ (i + 1) = P * 4294967296 := by rw [Nat.pow_succ, hP]
   rw [e]
   have h1 : (x + 8589934592 - y - c) % 4294967296 + y + c = x + 4294967296 * (if x < y + c then 1 else 0) := by split <;> omega
   have h2 : P * ((x + 8589934592 - y - c) % 4294967296) + P * y + P * c = P * x + P * 4294967296 * (if x < y + c then 1 else 0) := by
    rw [Nat.mul_assoc, ← Nat.mul_add, ← Nat.mul_add, h1, Nat.mul_add]
   omega
 have hk := key (max a.length b.length + 1)
 rw [pv_all a _ (by omega), pv_all b _ (by omega)] at hk
 have hv := val_lt (subW_words a b)
 have hl : (subW a b).length = max a.length b.length + 1 := by simp [subW, zipW]
 rw [hl] at hv
 rw [← subW] at hk
 have hc := zc_le (s := fun x y c => if x < y + c then 1 else 0) (fun x y c h1 h2 h3 => by split <;> omega) ha hb (max a.length b.length + 1)
 generalize zc _ a b 0 _ = c at *
 have : c = 0 := by
  rcases (show c = 0 ∨ c = 1 by omega) with h | h
  ·exact h
  ·subst h; omega
 subst this
 omega
theorem lt_at : ∀ (a b : List Nat) (k : Nat), a.length = b.length → Words a → Words b → (∀ j, k < j → a.getD j 0 = b.getD j 0) → a.getD k 0 < b.getD k 0 → val a < val b
 | [], [], k, _, _, _, _, h => by simp at h
 | x :: a, y :: b, 0, hl, ha, hb, he, h => by
  have : a = b := by
   apply List.ext_getElem (by simpa using hl)
   intro i h1 h2
   have := he (i + 1) (by omega)
   simpa [List.getD_eq_getElem?_getD, List.getElem?_eq_getElem h1, List.getElem?_eq_getElem h2] using this
  subst this
  simp only [val]
  have h : x < y := by simpa using h
  omega
 | x :: a, y :: b, k + 1, hl, ha, hb, he, h => by
  have := lt_at a b k (by simpa using hl) ha.tail hb.tail (fun j hj => by simpa using he (j + 1) (by omega)) (by simpa using h)
  have h1 := ha.head
  simp only [val]
  omega
 | [], _ :: _, _, hl, _, _, _, _ => by simp at hl
 | _ :: _, [], _, hl, _, _, _, _ => by simp at hl
theorem val_ge {a : List Nat} (h : a.getD (a.length - 1) 0 ≠ 0) : 4294967296 ^ (a.length - 1) ≤ val a := by
 induction a with
 | nil => simp at h
 | cons x a ih =>
  cases a with
  | nil =>
   have : x ≠ 0 := by simpa using h
   simp [val]; omega
  | cons y a =>
   have := ih (by simpa using h)
   simp only [List.length_cons, Nat.add_sub_cancel, val, Nat.pow_succ] at this ⊢
   generalize 4294967296 ^ a.length = P at *
   omega
theorem len_lt {m n : Nat} (h : (digits m).length < (digits n).length) : m < n := by
 have h1 := val_lt (digits_words m)
 have h2 := val_ge (a := digits n) (getD_digits_last (fun e => by rw [e] at h; simp at h))
 rw [val_digits] at h1 h2
 have h3 : 4294967296 ^ (digits m).length ≤ 4294967296 ^ ((digits n).length - 1) := Nat.pow_le_pow_right (by decide) (by omega)
 generalize 4294967296 ^ (digits m).length = P at *
 generalize 4294967296 ^ ((digits n).length - 1) = Q at *
 omega
def cmpN (m n : Nat) : Int := if m < n then -1 else if m = n then 0 else 1
theorem cmpN_lt {m n : Nat} (h : m < n) : cmpN m n = -1 := by simp [cmpN, h]
theorem cmpN_gt {m n : Nat} (h : n < m) : cmpN m n = 1 := by simp [cmpN, show ¬ m < n by omega, show m ≠ n by omega]
theorem cmpN_eq {m n : Nat} (h : m = n) : cmpN m n = 0 := by simp [cmpN, h]
theorem digits_inj {m n : Nat} (h : digits m = digits n) : m = n := by rw [← val_digits m, h, val_digits]
theorem getD_ext {a b : List Nat} (hl : a.length = b.length) (h : ∀ j, a.getD j 0 = b.getD j 0) : a = b := by
 apply List.ext_getElem hl
 intro i h1 h2
 have := h i
 simpa [List.getD_eq_getElem?_getD, List.getElem?_eq_getElem h1, List.getElem?_eq_getElem h2] using this
def wl (n : Nat) : Nat := (digits n).length
theorem lt_wl (n : Nat) : n < 4294967296 ^ wl n := by
 have := val_lt (digits_words n)
 rw [val_digits] at this; exact this
theorem wl_ge {n : Nat} (h : n ≠ 0) : 4294967296 ^ (wl n - 1) ≤ n := by
 have := val_ge (a := digits n) (getD_digits_last fun e => h (digits_nil.1 e))
 rw [val_digits] at this; exact this
theorem wl_le {n k : Nat} (h : n < 4294967296 ^ k) : wl n ≤ k := by
 by_cases h0 : n = 0
 ·subst h0; exact Nat.zero_le _
 ·apply Nat.le_of_not_lt
  intro hk
  have h1 := wl_ge h0
  have h2 : 4294967296 ^ k ≤ 4294967296 ^ (wl n - 1) := Nat.pow_le_pow_right (by decide) (by omega)
  exact absurd (Nat.lt_of_lt_of_le h (Nat.le_trans h2 h1)) (Nat.lt_irrefl _)
theorem wl_mono {m n : Nat} (h : m ≤ n) : wl m ≤ wl n := wl_le (Nat.lt_of_le_of_lt h (lt_wl n))
theorem wl_mul (m n : Nat) : wl (m * n) ≤ wl m + wl n := wl_le (by
 rw [Nat.pow_add]
 by_cases h : n = 0
 ·subst h; simpa using Nat.mul_pos (Nat.pow_pos (by decide)) (Nat.pow_pos (by decide))
 ·exact Nat.mul_lt_mul'' (lt_wl m) (lt_wl n))
theorem wl_add (m n : Nat) : wl (m + n) ≤ max (wl m) (wl n) + 1 := wl_le (by
 have h1 : m < 4294967296 ^ max (wl m) (wl n) := Nat.lt_of_lt_of_le (lt_wl m) (Nat.pow_le_pow_right (by decide) (Nat.le_max_left _ _))
 have h2 : n < 4294967296 ^ max (wl m) (wl n) := Nat.lt_of_lt_of_le (lt_wl n) (Nat.pow_le_pow_right (by decide) (Nat.le_max_right _ _))
 rw [Nat.pow_succ]
 generalize 4294967296 ^ max (wl m) (wl n) = P at *
 omega)
theorem wl_small {n : Nat} (h : n < 18446744073709551616) : wl n ≤ 2 := wl_le (by rw [show (4294967296 : Nat) ^ 2 = 18446744073709551616 from rfl]; exact h)
structure Fi (k : Nat) (z : Int) : Prop where
 wl_le : wl z.natAbs ≤ k * 274877906944
theorem Fi.le {i k : Nat} {z : Int} (h : Fi i z) (hk : i ≤ k) : Fi k z := ⟨Nat.le_trans h.1 (Nat.mul_le_mul_right _ hk)⟩
theorem Fi.mono {k : Nat} {y z : Int} (h : Fi k z) (hy : y.natAbs ≤ z.natAbs) : Fi k y := ⟨Nat.le_trans (wl_mono hy) h.1⟩
theorem Fi.mul {i j : Nat} {a b : Int} (ha : Fi i a) (hb : Fi j b) : Fi (i + j) (a * b) := ⟨by
 have h1 := ha.1
 have h2 := hb.1
 rw [Int.natAbs_mul]
 have := wl_mul a.natAbs b.natAbs
 rw [Nat.add_mul]; omega⟩
theorem Fi.add {i j : Nat} {a b : Int} (ha : Fi i a) (hb : Fi j b) : Fi (i + j + 1) (a + b) := ⟨by
 have g1 := ha.1
 have g2 := hb.1
 have h1 := wl_mono (Int.natAbs_add_le a b)
 have h2 := wl_add a.natAbs b.natAbs
 rw [Nat.add_mul, Nat.add_mul]; omega⟩
theorem Fi.neg {i : Nat} {a : Int} (ha : Fi i a) : Fi i (-a) := ha.mono (by simp)
theorem Fi.abs {i : Nat} {a : Int} (ha : Fi i a) : Fi i (a.natAbs : Int) := ha.mono (by simp)
theorem Fi.div {i : Nat} {a : Int} (b : Int) (ha : Fi i a) : Fi i (a / b) := ha.mono (Int.natAbs_ediv_le_natAbs a b)
theorem Fi.mod {i : Nat} {b : Int} (a : Int) (hb : Fi i b) (h0 : b ≠ 0) : Fi i (a % b) := hb.mono (by
 have h1 := Int.emod_nonneg a h0
 have h2 := Int.emod_lt a h0
 omega)
theorem Fi.gcdr {i : Nat} {b : Int} (a : Int) (hb : Fi i b) (h0 : b ≠ 0) : Fi i (Int.gcd a b : Int) := hb.mono (by
 rw [Int.natAbs_natCast]
 exact Nat.gcd_le_right _ (by omega))
theorem Fi.gcd {i j : Nat} {a b : Int} (ha : Fi i a) (hb : Fi j b) : Fi (i + j) (Int.gcd a b : Int) := by
 by_cases h : b = 0
 ·subst h
  refine Fi.le (Fi.mono ha ?_) (Nat.le_add_right i j)
  rw [Int.natAbs_natCast, Int.gcd_zero_right]; exact Nat.le_refl _
 ·exact (hb.gcdr a h).le (Nat.le_add_left j i)
theorem Fi.small {z : Int} (h : z.natAbs < 18446744073709551616) : Fi 1 z := ⟨by
 have := wl_small h
 omega⟩
theorem Fi.one : Fi 1 (1 : Int) := Fi.small (by decide)
theorem Fi.zero : Fi 0 (0 : Int) := ⟨Nat.zero_le _⟩
theorem Fi.wl {z : Int} (h : Fi 16 z) : (digits z.natAbs).length ≤ 4398046511104 := h.1
theorem Fi.wl' {z : Int} (h : Fi 16 z) : Proofs.YtacenhlcfeepgaaGreat.wl z.natAbs ≤ 4398046511104 := h.1
theorem num_compared (m n : Nat) : FnP Tryz.prog tb F_num_compared [.sl T_uint32 (wds (digits m)), .sl T_uint32 (wds (digits n))] (.i .i64 (cmpN m n)) := by
 refine fn1 Tryz.func172 fun G hG hK hF => ?_
 refine wp_wl 0 rfl fun h0 => ?_
 refine wp_wl 1 rfl fun h1 => ?_
 refine sx 11 ?_
 refine wp_c rfl (fun hc => ?_) (fun hc => ?_)
 ·have hne : (digits m).length ≠ (digits n).length := by simp at hc; omega
  refine sx 8 ?_
  refine wp_c rfl (fun hc => ?_) (fun hc => ?_)
  ·refine sx 6 ?_
   exact ⟨.inr rfl, rfl, (by (refine res_t rfl ?_); (rw [cmpN_lt (len_lt (by simp at hc; omega))])), trivial⟩
  ·refine sx 7 ?_
   exact ⟨.inr rfl, rfl, (by (refine res_t rfl ?_); (rw [cmpN_gt (len_lt (by simp at hc; omega))])), trivial⟩
 ·have hle : (digits m).length = (digits n).length := by simp at hc; omega
  refine sx 10 ?_
  refine wp_l hK (fun k : Nat => ⟨[(0, .t (.sl T_uint32 (wds (digits m)))), (1, .t (.sl T_uint32 (wds (digits n)))), (5, .t (.i .i64 ((k : Int) - 1)))], [], 0, 0⟩) (fun k => k ≤ (digits m).length ∧ ∀ j, k ≤ j → (digits m).getD j 0 = (digits n).getD j 0) (fun k => k) (digits m).length ?_ (fun _ => rfl) ?_ ?_
  ·exact ⟨Nat.le_refl _, fun j hj => by rw [List.getD_eq_getElem?_getD, List.getD_eq_getElem?_getD, List.getElem?_eq_none hj, List.getElem?_eq_none (by omega)]⟩
  ·exact il
  ·rintro k ⟨hk, he⟩
   refine sx 5 ?_
   refine wp_c rfl (fun hc => ?_) (fun hc => ?_)
   ·obtain ⟨k, rfl⟩ : ∃ j, k = j + 1 := ⟨k - 1, by simp at hc; omega⟩
    have e : ((k + 1 : Nat) : Int) - 1 = (k : Int) := by omega
    rw [e]
    refine sx 15 ?_
    refine wp_c rfl (fun hc => ?_) (fun hc => ?_)
    ·have hq : (digits m).getD k 0 ≠ (digits n).getD k 0 := by simp at hc; simp; omega
     refine sx 12 ?_
     refine wp_c rfl (fun hc => ?_) (fun hc => ?_)
     ·refine sx 10 ?_
      exact ⟨.inr rfl, rfl, (by (refine res_t rfl ?_); (rw [cmpN_lt (by have := lt_at _ _ k hle (digits_words m) (digits_words n) (fun j hj => he j (by omega)) (by simp at hc; exact hc); simpa [val_digits] using this)])), trivial⟩
     ·refine sx 11 ?_
      exact ⟨.inr rfl, rfl, (by (refine res_t rfl ?_); (rw [cmpN_gt (by have := lt_at _ _ k hle.symm (digits_words n) (digits_words m) (fun j hj => (he j (by omega)).symm) (by simp at hc; simp at hq; simp; omega); simpa [val_digits] using this)])), trivial⟩
    ·have hq : (digits m).getD k 0 = (digits n).getD k 0 := by simp at hc; simp; omega
     refine sx 8 ?_
     exact round_n k (by exact ⟨by omega, fun j hj => by rcases Nat.eq_or_lt_of_le hj with rfl | h; exact hq; exact he j h⟩) (by omega) (by exact il)
   ·obtain rfl : k = 0 := by simp at hc; omega
    refine sx 9 ?_
    exact ⟨.inr rfl, rfl, (by (refine res_t rfl ?_); (rw [cmpN_eq (digits_inj (getD_ext hle fun j => he j (by omega)))])), trivial⟩
theorem num_natural (neg : Bool) (n : Nat) (hn : n < 18446744073709551616) : FnP Tryz.prog tb F_num_natural [.b neg, .i .u64 n] (encI (sgn neg n)) := by
 refine fn1 Tryz.func158 fun G hG hK hF => ?_
 refine sx 9 ?_
 refine oq (.convR (yf := by exact (wrap_u32_mod.trans (by omega : _ = ((n / 4294967296 : Nat) : Int))))) ?_
 refine sx 1 ?_
 refine oq (.callR (yb := asc (.inl rfl) as1) (yc := num_made neg [n % 4294967296, n / 4294967296] (.cons (by omega) (.cons (by omega) .nil)))) ?_
 refine sx 3 ?_
 exact ⟨.inr rfl, rfl, (by (refine res_c rfl rfl rfl rfl rfl ?_); (rw [show val [n % 4294967296, n / 4294967296] = n by simp [val]; omega])), trivial⟩
theorem sgn_abs (z : Int) : sgn (decide (z < 0)) z.natAbs = z := by
 unfold sgn
 by_cases h : z < 0
 ·simp [h]; omega
 ·simp [h]; omega
theorem num_Of (z : Int) (h1 : -9223372036854775808 ≤ z) (h2 : z < 9223372036854775808) : FnP Tryz.prog tb F_num_Of [.i .i64 z] (encI z) := by
 refine fn1 Tryz.func111 fun G hG hK hF => ?_
 refine sx 8 ?_
 refine wp_c rfl (fun hc => ?_) (fun hc => ?_)
 ·have hc : z < 0 := by simpa using hc
  refine sx 2 ?_
  refine oq (.convR (yf := by exact (wrap_u64_mod.trans (by omega : _ = z + 18446744073709551616)))) ?_
  refine sx 1 ?_
  refine oq (.callR (yb := asc (.inl rfl) as1) (yc := num_natural true z.natAbs (by omega))) ?_
  refine sx 4 ?_
  exact ⟨.inr rfl, rfl, (by (refine res_c rfl rfl rfl rfl rfl ?_); (have := sgn_abs z; simp only [hc, decide_true] at this; rw [this])), trivial⟩
 ·have hc : 0 ≤ z := by simpa using hc
  refine sx 4 ?_
  refine oq (.convR (yf := by exact (wrap_u64_mod.trans (by omega : _ = ((z.natAbs : Nat) : Int))))) ?_
  refine oq (.callR (yb := asc (.inl rfl) as1) (yc := num_natural false z.natAbs (by omega))) ?_
  refine sx 3 ?_
  exact ⟨.inr rfl, rfl, (by (refine res_c rfl rfl rfl rfl rfl ?_); (have := sgn_abs z; simp only [show ¬ z < 0 by omega, decide_false] at this; rw [this])), trivial⟩
theorem isW_enc (z : Int) : isW (decide (z < 0)) (digits z.natAbs) = true := by
 unfold isW
 split
 ·rename_i h
  rw [digits_len] at h
  have : z = 0 := by omega
  subst this; rfl
 ·rename_i h
  have := getD_digits_last (n := z.natAbs) (fun e => h (by rw [e]; rfl))
  simpa using this
def rawIs (l : List (Bool × List Nat)) : List Tr := l.map fun p => rawI p.1 p.2
theorem num_all (l : List (Bool × List Nat)) : FnP Tryz.prog tb F_num_all [.sl T_Int (rawIs l)] (.b (l.all fun p => isW p.1 p.2)) := by
 refine fn1 Tryz.func159 fun G hG hK hF => ?_
 refine wp_ll 0 rfl rfl fun hb => ?_
 have hl : (rawIs l).length = l.length := by simp [rawIs]
 refine sx 6 ?_
 refine oq (.lenR (yc := .inl rfl) (yd := by exact hl)) ?_
 refine sx 3 ?_
 refine wp_l hK (fun i : Nat => ⟨[(5, .t (.sl T_Int (rawIs l))), (6, .t (.i .i64 l.length)), (7, .t (.i .i64 i))], [], 0, 0⟩) (fun i => i ≤ l.length ∧ ∀ p ∈ l.take i, isW p.1 p.2 = true) (fun i => l.length - i) 0 ?_ (fun _ => rfl) ?_ ?_
 ·exact ⟨Nat.zero_le _, by simp⟩
 ·exact il
 ·rintro i ⟨hi, hall⟩
  refine sx 4 ?_
  refine wp_c rfl (fun hc => ?_) (fun hc => ?_)
  ·have hc : i < l.length := by simp at hc; omega
   obtain ⟨p, hp⟩ : ∃ p, l[i]? = some p := ⟨_, List.getElem?_eq_getElem hc⟩
   refine sx 5 ?_
   refine oq (.indexAddrR (yf := by omega) (yg := by simp only [rawIs, List.getElem?_map]; rw [show ((i : Int)).toNat = i from rfl, hp]; rfl)) ?_
   refine sx 6 ?_
   refine oq (.callR (yb := as1) (yc := num_Is p.1 p.2)) ?_
   refine sx 2 ?_
   refine wp_c rfl (fun hc => ?_) (fun hc => ?_)
   ·have hq : isW p.1 p.2 = false := by simpa using hc
    refine sx 9 ?_
    exact ⟨.inr rfl, rfl, (by (refine res_t rfl ?_); (exact trb (by rw [eq_comm, List.all_eq_false]; exact ⟨p, List.mem_of_getElem? hp, by simp [hq]⟩))), trivial⟩
   ·have hq : isW p.1 p.2 = true := by simpa using hc
    refine sx 7 ?_
    exact round_n (i + 1) (by exact ⟨by omega, fun q hq' => by rw [List.take_add_one, hp] at hq'; simp at hq'; rcases hq' with h | rfl; exact hall q h; exact hq⟩) (by omega) (by exact imp_trim ga gb rfl gb)
  ·obtain rfl : i = l.length := by simp at hc; omega
   refine sx 9 ?_
   exact ⟨.inr rfl, rfl, (by (refine res_t rfl ?_); (exact trb (by rw [eq_comm, List.all_eq_true]; intro p hp; exact hall p (by simpa using hp)))), trivial⟩
theorem num_all2 (a b : Int) : FnP Tryz.prog tb F_num_all [.sl T_Int [encI a, encI b]] (.b true) := by
 have := num_all [(decide (a < 0), digits a.natAbs), (decide (b < 0), digits b.natAbs)]
 simp only [List.all_cons, isW_enc, List.all_nil, Bool.and_true] at this
 exact this
theorem num_word (neg : Bool) (ws : List Nat) (hw : Words ws) : FnP Tryz.prog tb F_num_word [.b neg, .sl T_uint32 (wds ws)] (.tu [.i .i64 (if ws.length ≤ 1 then sgn neg (ws.getD 0 0) else 0), .b (decide (ws.length ≤ 1))]) := by
 refine fnP_T tbOk Tryz.func187 rfl rfl (Nat.le_of_ble_eq_true rfl) rfl fun G hG hK => ?_
 have hF : Wd Fence.wide := .inl rfl
 refine wp_wl 1 rfl fun h0 => ?_
 have h1 := hw.getD 0
 refine sx 10 ?_
 refine wp_c rfl (fun hc => ?_) (fun hc => ?_)
 ·have hc : 1 < ws.length := by simp at hc; omega
  refine sx 6 ?_
  exact ⟨.inr rfl, rfl, (by (refine res_t rfl ?_); (simp [show ¬ ws.length ≤ 1 by omega])), (by (refine res_t rfl ?_); (simp [show ¬ ws.length ≤ 1 by omega])), trivial⟩
 ·have h2 : ws.length ≤ 1 := by simp at hc; omega
  refine sx 5 ?_
  refine wp_j hK (fun _ : Unit => ⟨[(0, .t (.b neg)), (6, .t (.i .i64 (ws.getD 0 0 : Nat)))], [], 0, 0⟩) (fun _ => True) (fun _ => rfl) ?_ ?_
  ·refine sx 5 ?_
   refine wp_c rfl (fun hc => ?_) (fun hc => ?_)
   ·have hc : ws.length = 1 := by simp at hc; omega
    refine sx 4 ?_
    refine oq (.convR (yf := by exact wrap_i64 (by have e : (0 : Int).toNat = 0 := rfl; rw [e]; omega))) ?_
    refine sx 2 ?_
    exact join_n () (by trivial) (by exact il)
   ·have hc : ws.length = 0 := by simp at hc; omega
    have h3 : ws.getD 0 0 = 0 := by rw [List.length_eq_zero_iff] at hc; subst hc; rfl
    refine wp_k ?_
    exact join_n () (by trivial) (by exact imp_less (by repeat' (first | exact trivial | (refine And.intro (by first | rfl | exact geti rfl (by omega)) ?_))) gb (by exact Nat.le_of_ble_eq_true rfl))
  ·intro _ _
   refine wp_j hK (fun _ : Unit => ⟨[(6, .t (.i .i64 (sgn neg (ws.getD 0 0))))], [], 0, 0⟩) (fun _ => True) (fun _ => rfl) ?_ ?_
   ·refine sx 3 ?_
    refine wp_c rfl (fun hc => ?_) (fun hc => ?_)
    ·refine sx 5 ?_
     exact join_n () (by trivial) (by exact imp_less (by repeat' (first | exact trivial | (refine And.intro (by exact geti rfl (by subst hc; simp [sgn])) ?_))) gb (by exact Nat.le_of_ble_eq_true rfl))
    ·refine wp_k ?_
     exact join_n () (by trivial) (by exact imp_less (by repeat' (first | exact trivial | (refine And.intro (by exact geti rfl (by subst hc; simp [sgn])) ?_))) gb (by exact Nat.le_of_ble_eq_true rfl))
   ·intro _ _
    refine sx 6 ?_
    exact ⟨.inr rfl, rfl, (by (refine res_t rfl ?_); (simp [h2])), (by (refine res_t rfl ?_); (simp [h2])), trivial⟩
theorem digits_one {m : Nat} (h : (digits m).length ≤ 1) : (digits m).getD 0 0 = m := by
 have e := val_digits m
 generalize digits m = l at *
 match l, h with
 | [], _ => simpa [val] using e
 | [w], _ => simpa [val] using e
theorem sgn_add {n : Bool} {a b : Nat} : sgn n (a + b) = sgn n a + sgn n b := by cases n <;> simp [sgn]; omega
theorem sgn_sub {n : Bool} {a b : Nat} (h : b ≤ a) : sgn n (a - b) = sgn n a + sgn (!n) b := by cases n <;> simp [sgn] <;> omega
theorem num_signed (an bn : Bool) (m n : Nat) (hm16 : wl m ≤ 4398046511104) (hn16 : wl n ≤ 4398046511104) : FnP Tryz.prog tb F_num_signed [.sl T_uint32 (wds (digits m)), .b an, .sl T_uint32 (wds (digits n)), .b bn] (encI (sgn an m + sgn bn n)) := by
 have hsz : max (digits m).length (digits n).length < 35184372088832 := by unfold wl at *; omega
 have hsz2 : max (digits n).length (digits m).length < 35184372088832 := by unfold wl at *; omega
 refine fn1 Tryz.func163 fun G hG hK hF => ?_
 refine sx 3 ?_
 refine wp_j hK (fun _ : Unit => ⟨[(0, .t (.sl T_uint32 (wds (digits m)))), (1, .t (.b an)), (2, .t (.sl T_uint32 (wds (digits n)))), (3, .t (.b bn)), (8, .ptr T_Int 0 0 0)], [(0, some (.arr T_Int [.t (encI 0)]))], 1, 0⟩) (fun _ => True) (fun _ => rfl) ?_ ?_
 ·refine sx 3 ?_
  refine oq (.callR (yb := asc (.inl rfl) as1) (yc := num_word an _ (digits_words m))) ?_
  refine sx 9 ?_
  refine wp_c rfl (fun hc => ?_) (fun hc => ?_)
  ·have hm : (digits m).length ≤ 1 := by simpa using hc
   refine sx 3 ?_
   refine oq (.callR (yb := asc (.inl rfl) as1) (yc := num_word bn _ (digits_words n))) ?_
   refine sx 9 ?_
   refine wp_c rfl (fun hc => ?_) (fun hc => ?_)
   ·have hn : (digits n).length ≤ 1 := by simpa using hc
    have b1 := (digits_words m).getD 0
    have b2 := (digits_words n).getD 0
    rw [digits_one hm] at b1
    rw [digits_one hn] at b2
    have s1 : -4294967296 < sgn an m ∧ sgn an m < 4294967296 := by cases an <;> simp [sgn] <;> omega
    have s2 : -4294967296 < sgn bn n ∧ sgn bn n < 4294967296 := by cases bn <;> simp [sgn] <;> omega
    refine sx 3 ?_
    refine oq (.arithR (yd := by refine (congrArg IntKind.i64.wrap (?_ : _ = sgn an m + sgn bn n)).trans (wrap_i64 (by omega)); rw [if_pos hm, if_pos hn, digits_one hm, digits_one hn])) ?_
    refine oq (.callR (yb := as1) (yc := num_Of (sgn an m + sgn bn n) (by omega) (by omega))) ?_
    refine sx 3 ?_
    refine join_ret ?_
    exact ⟨.inr rfl, rfl, (by (refine res_c rfl rfl rfl rfl rfl ?_); (rfl)), trivial⟩
   ·refine wp_k ?_
    exact join_n () (by trivial) (by exact il)
  ·refine wp_k ?_
   exact join_n () (by trivial) (by exact il)
 ·intro _ _
  refine sx 6 ?_
  refine wp_c rfl (fun hc => ?_) (fun hc => ?_)
  ·obtain rfl : an = bn := by simpa using hc
   refine sx 4 ?_
   refine oq (.callR (yb := asc (.inl rfl) as1) (yc := num_plus _ _ (digits_words m) (digits_words n) hsz)) ?_
   refine oq (.callR (yb := asc (.inl rfl) as1) (yc := num_made an _ (addW_words _ _))) ?_
   refine sx 4 ?_
   exact ⟨.inr rfl, rfl, (by (refine res_c rfl rfl rfl rfl rfl ?_); (rw [val_addW _ _ (digits_words m) (digits_words n), val_digits, val_digits, sgn_add])), trivial⟩
  ·obtain rfl : bn = !an := by cases an <;> cases bn <;> simp at hc <;> rfl
   refine sx 9 ?_
   refine wp_c rfl (fun hc => ?_) (fun hc => ?_)
   ·have hle : n ≤ m := by simp [cmpN] at hc; split at hc <;> omega
    refine sx 4 ?_
    refine oq (.callR (yb := asc (.inl rfl) as1) (yc := num_minus _ _ (digits_words m) (digits_words n) hsz)) ?_
    refine oq (.callR (yb := asc (.inl rfl) as1) (yc := num_made an _ (subW_words _ _))) ?_
    refine sx 4 ?_
    exact ⟨.inr rfl, rfl, (by (refine res_c rfl rfl rfl rfl rfl ?_); (rw [val_subW _ _ (digits_words m) (digits_words n) (by simpa [val_digits] using hle), val_digits, val_digits, sgn_sub hle])), trivial⟩
   ·have hle : m ≤ n := by simp [cmpN] at hc; omega
    refine sx 6 ?_
    refine oq (.callR (yb := asc (.inl rfl) as1) (yc := num_minus _ _ (digits_words n) (digits_words m) hsz2)) ?_
    refine oq (.callR (yb := asc (.inl rfl) as1) (yc := num_made (!an) _ (subW_words _ _))) ?_
    refine sx 3 ?_
    exact ⟨.inr rfl, rfl, (by (refine res_c rfl rfl rfl rfl rfl ?_); (rw [val_subW _ _ (digits_words n) (digits_words m) (by simpa [val_digits] using hle), val_digits, val_digits, sgn_sub hle, Bool.not_not, Int.add_comm])), trivial⟩
theorem sgn_not (z : Int) : sgn (!decide (z < 0)) z.natAbs = -z := by
 unfold sgn
 by_cases h : z < 0
 ·simp [h]; omega
 ·simp [h]; omega
theorem num_Add (a b : Int) (ha : Fi 16 a := by first | assumption | exact Fi.small (by omega) | (apply Fi.le; (focus (repeat' (first | assumption | apply Fi.mul | apply Fi.add | apply Fi.sub | apply Fi.neg | apply Fi.abs | apply Fi.gcd | apply Fi.div | exact Fi.one | exact Fi.zero | exact Fi.small (by omega)))); decide)) (hb : Fi 16 b := by first | assumption | exact Fi.small (by omega) | (apply Fi.le; (focus (repeat' (first | assumption | apply Fi.mul | apply Fi.add | apply Fi.sub | apply Fi.neg | apply Fi.abs | apply Fi.gcd | apply Fi.div | exact Fi.one | exact Fi.zero | exact Fi.small (by omega)))); decide)) : FnP Tryz.prog tb F_num_Add [encI a, encI b] (encI (a + b)) := by
 refine fn1 Tryz.func125 fun G hG hK hF => ?_
 refine sx 13 ?_
 refine wp_c rfl (fun hc => ?_) (fun hc => ?_)
 ·simp at hc
 ·refine sx 11 ?_
  refine oq (.callR (yb := asc (.inl rfl) as3) (yc := num_signed (decide (a < 0)) (decide (b < 0)) a.natAbs b.natAbs ha.wl' hb.wl')) ?_
  refine sx 3 ?_
  exact ⟨.inr rfl, rfl, (by (refine res_c rfl rfl rfl rfl rfl ?_); (rw [sgn_abs, sgn_abs])), trivial⟩
theorem num_Sub (a b : Int) (ha : Fi 16 a := by first | assumption | exact Fi.small (by omega) | (apply Fi.le; (focus (repeat' (first | assumption | apply Fi.mul | apply Fi.add | apply Fi.sub | apply Fi.neg | apply Fi.abs | apply Fi.gcd | apply Fi.div | exact Fi.one | exact Fi.zero | exact Fi.small (by omega)))); decide)) (hb : Fi 16 b := by first | assumption | exact Fi.small (by omega) | (apply Fi.le; (focus (repeat' (first | assumption | apply Fi.mul | apply Fi.add | apply Fi.sub | apply Fi.neg | apply Fi.abs | apply Fi.gcd | apply Fi.div | exact Fi.one | exact Fi.zero | exact Fi.small (by omega)))); decide)) : FnP Tryz.prog tb F_num_Sub [encI a, encI b] (encI (a - b)) := by
 refine fn1 Tryz.func133 fun G hG hK hF => ?_
 refine sx 13 ?_
 refine wp_c rfl (fun hc => ?_) (fun hc => ?_)
 ·simp at hc
 ·refine sx 12 ?_
  refine oq (.callR (yb := asc (.inl rfl) as3) (yc := num_signed (decide (a < 0)) (!decide (b < 0)) a.natAbs b.natAbs ha.wl' hb.wl')) ?_
  refine sx 3 ?_
  exact ⟨.inr rfl, rfl, (by (refine res_c rfl rfl rfl rfl rfl ?_); (rw [sgn_abs, sgn_not, Int.sub_eq_add_neg])), trivial⟩
theorem num_Neg (a : Int) : FnP Tryz.prog tb F_num_Neg [encI a] (encI (-a)) := by
 refine fn1 Tryz.func114 fun G hG hK hF => ?_
 refine sx 10 ?_
 refine wp_c rfl (fun hc => ?_) (fun hc => ?_)
 ·simp [isW_enc] at hc
 ·refine sx 8 ?_
  refine oq (.callR (yb := asc (.inl rfl) as1) (yc := num_made (!decide (a < 0)) _ (digits_words a.natAbs))) ?_
  refine sx 3 ?_
  exact ⟨.inr rfl, rfl, (by (refine res_c rfl rfl rfl rfl rfl ?_); (rw [val_digits, sgn_not])), trivial⟩
theorem num_Abs (a : Int) : FnP Tryz.prog tb F_num_Abs [encI a] (encI a.natAbs) := by
 refine fn1 Tryz.func126 fun G hG hK hF => ?_
 refine sx 10 ?_
 refine wp_c rfl (fun hc => ?_) (fun hc => ?_)
 ·simp [isW_enc] at hc
 ·refine sx 5 ?_
  refine oq (.callR (yb := asc (.inl rfl) as1) (yc := num_made false _ (digits_words a.natAbs))) ?_
  refine sx 3 ?_
  exact ⟨.inr rfl, rfl, (by (refine res_c rfl rfl rfl rfl rfl ?_); (rw [val_digits]; rfl)), trivial⟩
def padW : Nat → Nat → List Nat
 | 0, _ => []
 | n + 1, v => v % 4294967296 :: padW n (v / 4294967296)
theorem padW_val {ws : List Nat} (h : Words ws) : padW ws.length (val ws) = ws := by
 induction ws with
 | nil => rfl
 | cons w ws ih =>
  have := h.head
  simp only [List.length_cons, padW, val]
  have e1 : (w + 4294967296 * val ws) % 4294967296 = w := by omega
  have e2 : (w + 4294967296 * val ws) / 4294967296 = val ws := by omega
  rw [e1, e2, ih h.tail]
theorem padW_words : ∀ n v, Words (padW n v)
 | 0, _ => .nil
 | n + 1, v => .cons (by omega) (padW_words n _)
theorem padW_len : ∀ n v, (padW n v).length = n
 | 0, _ => rfl
 | n + 1, v => by simp [padW, padW_len n]
theorem val_padW : ∀ n v, v < 4294967296 ^ n → val (padW n v) = v
 | 0, v, h => by simp at h; subst h; rfl
 | n + 1, v, h => by
  have : v / 4294967296 < 4294967296 ^ n := by
   rw [Nat.pow_succ] at h
   exact Nat.div_lt_of_lt_mul (by rw [Nat.mul_comm]; exact h)
  simp only [padW, val, val_padW n _ this]; omega
theorem padW_eq {ws : List Nat} (h : Words ws) {n v : Nat} (hn : ws.length = n) (hv : val ws = v) : ws = padW n v := by
 subst hn hv; exact (padW_val h).symm
theorem val_set {ws : List Nat} {k w : Nat} (h : k < ws.length) : val (ws.set k w) + 4294967296 ^ k * ws.getD k 0 = val ws + 4294967296 ^ k * w := by
 induction ws generalizing k with
 | nil => simp at h
 | cons x ws ih =>
  cases k with
  | zero => simp [val]; omega
  | succ k =>
   have := ih (k := k) (by simpa using h)
   simp only [List.set_cons_succ, val, Nat.pow_succ, List.getD_cons_succ]
   generalize val (ws.set k w) = A at *
   generalize 4294967296 ^ k = P at *
   generalize ws.getD k 0 = o at *
   grind
theorem val_zeros (n : Nat) : val (List.replicate n 0) = 0 := by
 induction n with
 | zero => rfl
 | succ n ih => simp [List.replicate_succ, val, ih]
theorem val_take_succ {ws : List Nat} {j : Nat} (h : j < ws.length) : val (ws.take (j + 1)) = val (ws.take j) + 4294967296 ^ j * ws.getD j 0 := by
 rw [List.take_add_one, val_append]
 simp [List.getElem?_eq_getElem h, List.getD_eq_getElem?_getD, val, Nat.min_eq_left (Nat.le_of_lt h)]
theorem getD_set_ne {ws : List Nat} {k j w : Nat} (h : k ≠ j) : (ws.set k w).getD j 0 = ws.getD j 0 := by
 simp [List.getD_eq_getElem?_getD, h]
theorem mul_fit {x y o c : Nat} (hx : x < 4294967296) (hy : y < 4294967296) (ho : o < 4294967296) (hc : c < 4294967296) : x * y + o + c < 18446744073709551616 := by
 have : x * y ≤ 4294967295 * 4294967295 := Nat.mul_le_mul (by omega) (by omega)
 omega
theorem mul_fit1 {x y : Nat} (hx : x < 4294967296) (hy : y < 4294967296) : x * y ≤ 18446744065119617025 := by
 have : x * y ≤ 4294967295 * 4294967295 := Nat.mul_le_mul (by omega) (by omega)
 omega
theorem mul_step {V0 x y c o r q Vt Bi Bj v v' : Nat} (h : r + 4294967296 * q = x * y + o + c) (hv : v' + (Bi * Bj) * o = v + (Bi * Bj) * r) (hi : v + c * (Bi * Bj) = V0 + x * Vt * Bi) : v' + q * (Bi * Bj * 4294967296) = V0 + x * (Vt + Bj * y) * Bi := by grind
theorem or64 {x y : Nat} (hx : x < 4294967296) (hy : y < 4294967296) : bitsTr .or .u64 ((x : Int) * 4294967296) y = some ((4294967296 * x + y : Nat) : Int) := by
 have h1 : BitVec.ofInt 64 ((x : Int) * 4294967296) = BitVec.ofNat 64 (4294967296 * x) := by
  rw [show (x : Int) * 4294967296 = ((4294967296 * x : Nat) : Int) by omega, ofInt_nat]
 show some (IntKind.u64.wrap (((BitVec.ofInt 64 ((x : Int) * 4294967296) ||| BitVec.ofInt 64 (y : Int) : BitVec 64).toNat : Nat) : Int)) = _
 rw [h1, ofInt_nat, BitVec.toNat_or, BitVec.toNat_ofNat, BitVec.toNat_ofNat, Nat.mod_eq_of_lt (by omega), Nat.mod_eq_of_lt (by omega)]
 have : 4294967296 * x ||| y = 4294967296 * x + y := (Nat.two_pow_add_eq_or_of_lt (i := 32) (by omega) x).symm
 rw [this]
 exact congrArg some (wrap_u64 (by omega))
theorem num_pair (ws : List Nat) (hw : Words ws) : FnP Tryz.prog tb F_num_pair [.sl T_uint32 (wds ws)] (.tu [.i .u64 (if ws.length ≤ 2 then val ws else 0 : Nat), .b (decide (ws.length ≤ 2))]) := by
 refine fnP_T tbOk Tryz.func160 rfl rfl (Nat.le_of_ble_eq_true rfl) rfl fun G hG hK => ?_
 have hF : Wd Fence.wide := .inl rfl
 refine wp_wl 0 rfl fun h0 => ?_
 have g0 := hw.getD 0
 have g1 := hw.getD 1
 refine sx 14 ?_
 refine wp_c rfl (fun hc => ?_) (fun hc => ?_)
 ·have hc : ws = [] := by simp at hc; exact hc
  subst hc
  refine sx 7 ?_
  exact ⟨.inr rfl, rfl, (by (refine res_t rfl ?_); (rfl)), (by (refine res_t rfl ?_); (rfl)), trivial⟩
 ·have n6 : ws.length ≠ 0 := by simp at hc; simpa using hc
  refine sx 4 ?_
  refine wp_c rfl (fun hc => ?_) (fun hc => ?_)
  ·have hc : ws.length = 1 := by simp at hc; omega
   refine sx 11 ?_
   exact ⟨.inr rfl, rfl, (by (refine res_t rfl ?_); (match ws, hc with | [w], _ => simp [val])), (by (refine res_t rfl ?_); (simp [hc])), trivial⟩
  ·have n8 : ws.length ≠ 1 := by simp at hc; omega
   refine sx 4 ?_
   refine wp_c rfl (fun hc => ?_) (fun hc => ?_)
   ·have hc : ws.length = 2 := by simp at hc; omega
    refine sx 2 ?_
    refine dq (.indexAddrR (yf := by omega) (yg := by exact wds_at (n := 1) (by simp; omega))) ?_
    refine sx 1 ?_
    refine dq (.convR (yf := by exact wrap_u64 (by have e : (1 : Int).toNat = 1 := rfl; rw [e]; omega))) ?_
    refine dq (.shlR (yc := by omega) (yd := by exact shl32 (by have e : (1 : Int).toNat = 1 := rfl; rw [e]; omega))) ?_
    refine sx 4 ?_
    refine dq (.bitsR (yc := or64 g1 g0)) ?_
    refine sx 6 ?_
    exact ⟨.inr rfl, rfl, (by (refine res_t rfl ?_); (match ws, hc with | [w, v], _ => (simp [val]; omega))), (by (refine res_t rfl ?_); (simp [hc])), trivial⟩
   ·have hl : 2 < ws.length := by simp at hc; omega
    refine sx 8 ?_
    exact ⟨.inr rfl, rfl, (by (refine res_t rfl ?_); (simp [show ¬ ws.length ≤ 2 by omega])), (by (refine res_t rfl ?_); (simp [show ¬ ws.length ≤ 2 by omega])), trivial⟩
theorem num_words (n : Nat) (hn : n < 18446744073709551616) : FnP Tryz.prog tb F_num_words [.i .u64 n] (.sl T_uint32 (wds (padW 2 n))) := by
 refine fn1 Tryz.func181 fun G hG hK hF => ?_
 refine sx 8 ?_
 refine oq (.convR (yf := by exact (wrap_u32_mod.trans (by omega : _ = ((n / 4294967296 % 4294967296 : Nat) : Int))))) ?_
 refine sx 4 ?_
 exact ⟨.inr rfl, rfl, (by (refine res_t rfl ?_); (rfl)), trivial⟩
theorem num_times (a b : List Nat) (ha : Words a) (hb : Words b) (hsz : a.length + b.length ≤ 35184372088832) : FnP Tryz.prog tb F_num_times [.sl T_uint32 (wds a), .sl T_uint32 (wds b)] (.sl T_uint32 (wds (padW (a.length + b.length) (val a * val b)))) := by
 refine fn1 Tryz.func171 fun G hG hK hF => ?_
 refine wp_wl 0 rfl fun h0 => ?_
 refine wp_wl 1 rfl fun h1 => ?_
 refine sx 19 ?_
 refine wp_l hK (fun ((q, u) : Nat × List Nat) => ⟨[(0, .t (.sl T_uint32 (wds a))), (1, .t (.sl T_uint32 (wds b))), (5, .own T_uint32 0 0 (a.length + b.length)), (18, .t (.sl T_uint32 (wds a))), (19, .t (.i .i64 a.length)), (20, .t (.i .i64 q))], [(0, some (.arr T_uint32 ((wds u).map .t)))], 1, 0⟩) (fun (q, u) => q ≤ a.length ∧ u.length = a.length + b.length ∧ Words u ∧ val u = val (a.take q) * val b ∧ ∀ k, q + b.length ≤ k → u.getD k 0 = 0) (fun (q, _) => a.length - q) (0, List.replicate (a.length + b.length) 0) ?_ (fun _ => rfl) ?_ ?_
 ·exact ⟨Nat.zero_le _, by simp, fun w hw => by rw [List.eq_of_mem_replicate hw]; decide, by simp [val_zeros, val], fun k _ => by simp [List.getD_eq_getElem?_getD, List.getElem?_replicate]; split <;> rfl⟩
 ·exact imp_less ga (by repeat' (first | exact trivial | (refine And.intro (by exact geth rfl (by (simp [wds]; omega))) ?_))) (by exact Nat.le_of_ble_eq_true rfl)
 ·rintro ⟨i, out⟩ ⟨hi, hlen, hwo, hv, hz⟩
  refine sx 4 ?_
  refine wp_c rfl (fun hc => ?_) (fun hc => ?_)
  ·have hci : i < a.length := by simp at hc; omega
   refine sx 21 ?_
   refine wp_l hK (fun ((q, u, d) : Nat × List Nat × Nat) => ⟨[(0, .t (.sl T_uint32 (wds a))), (1, .t (.sl T_uint32 (wds b))), (5, .own T_uint32 0 0 (a.length + b.length)), (18, .t (.sl T_uint32 (wds a))), (19, .t (.i .i64 a.length)), (20, .t (.i .i64 i)), (6, .t (.i .i64 i)), (7, .t (.i .u32 (a.getD i 0 : Nat))), (8, .t (.i .u64 d)), (25, .t (.sl T_uint32 (wds b))), (26, .t (.i .i64 b.length)), (27, .t (.i .i64 q))], [(0, some (.arr T_uint32 ((wds u).map .t)))], 1, 0⟩) (fun (q, u, d) => q ≤ b.length ∧ u.length = a.length + b.length ∧ Words u ∧ d < 4294967296 ∧ val u + d * (4294967296 ^ i * 4294967296 ^ q) = val out + a.getD i 0 * val (b.take q) * 4294967296 ^ i ∧ ∀ k, i + b.length ≤ k → u.getD k 0 = 0) (fun (q, _) => b.length - q) (0, out, 0) ?_ (fun _ => rfl) ?_ ?_
   ·exact ⟨Nat.zero_le _, hlen, hwo, by simp, by simp [val], hz⟩
   ·exact il
   ·rintro ⟨j, o, c⟩ ⟨hj, hlo, hwo2, hcl, hvo, hzo⟩
    refine sx 4 ?_
    refine wp_c rfl (fun hc => ?_) (fun hc => ?_)
    ·have hc2 : j < b.length := by simp at hc; omega
     have gx := ha.getD i
     have gy := hb.getD j
     have go := hwo2.getD (i + j)
     have hxy := mul_fit1 gx gy
     have hfit := mul_fit gx gy go hcl
     refine wp_k ?_
     refine then_n ?_
     refine wp_s ?_
     refine wp_b ?_
     refine rr ?_
     refine om ?_
     refine oq (.indexAddrR (yf := by omega) (yg := by exact wds_at2 j (by omega) (by omega))) ?_
     refine oq .loadR ?_
     refine oa ?_
     refine oa ?_
     refine wo_nil ?_
     refine rr ?_
     refine om ?_
     refine oq (.convR (yf := by exact wrap_u64 (by omega))) ?_
     refine om ?_
     refine oq (.convR (yf := by exact wrap_u64 (by omega))) ?_
     refine oq (.arithR (yd := by exact (wrap_u64 (by omega)).trans (rfl : _ = ((a.getD i 0 * b.getD j 0 : Nat) : Int)))) ?_
     refine sx 33 ?_
     have hvs := val_set (w := (a.getD i 0 * b.getD j 0 + o.getD (i + j) 0 + c) % 4294967296) (show i + j < o.length by omega)
     rw [Nat.pow_add] at hvs
     have hstep := mul_step (y := b.getD j 0) (r := (a.getD i 0 * b.getD j 0 + o.getD (i + j) 0 + c) % 4294967296) (q := (a.getD i 0 * b.getD j 0 + o.getD (i + j) 0 + c) / 4294967296) (by omega) hvs hvo
     exact round_n (j + 1, o.set (i + j) ((a.getD i 0 * b.getD j 0 + o.getD (i + j) 0 + c) % 4294967296), (a.getD i 0 * b.getD j 0 + o.getD (i + j) 0 + c) / 4294967296) (by refine ⟨hc2, by simp [hlo], hwo2.set (by omega) _, by omega, ?_, fun k hk => by rw [getD_set_ne (by omega)]; exact hzo k hk⟩; rw [val_take_succ hc2, Nat.pow_succ]; exact Eq.trans (congrArg _ (congrArg _ (Nat.mul_assoc _ _ _).symm)) hstep) (by (simp only; omega)) (by exact imp_less ga (by repeat' (first | exact trivial | (refine And.intro (by exact geth rfl (wds_upd2 (i + j) (by omega) rfl)) ?_))) (by exact Nat.le_of_ble_eq_true rfl))
    ·obtain rfl : j = b.length := by simp at hc; omega
     refine sx 22 ?_
     have hvs := val_set (w := c % 4294967296) (show i + b.length < o.length by omega)
     rw [hzo (i + b.length) (by omega), Nat.mul_zero, Nat.add_zero, Nat.pow_add] at hvs
     exact round_n (i + 1, o.set (i + b.length) (c % 4294967296)) (by refine ⟨hci, by simp [hlo], hwo2.set (by omega) _, ?_, fun k hk => by rw [getD_set_ne (by omega)]; exact hzo k (by omega)⟩; rw [val_take_succ hci, hvs, Nat.mod_eq_of_lt hcl, Nat.mul_comm _ c, hvo, hv, List.take_length]; grind) (by (simp only; omega)) (by exact imp_less ga (by repeat' (first | exact trivial | (refine And.intro (by exact geth rfl (wds_upd2 (i + b.length) (by omega) rfl)) ?_))) (by exact Nat.le_of_ble_eq_true rfl))
  ·obtain rfl : i = a.length := by simp at hc; omega
   refine sx 5 ?_
   have hfin : out = padW (a.length + b.length) (val a * val b) := padW_eq hwo hlen (by rw [hv, List.take_length])
   refine wp_imp hK (imp_fz 5 (wds (padW (a.length + b.length) (val a * val b))) rfl rfl (by rw [hfin]) (by simp [wds, padW_len])) ?_
   refine sx 5 ?_
   exact ⟨.inr rfl, rfl, (by (refine res_t rfl ?_); (rfl)), trivial⟩
theorem sgn_mul {a b : Bool} {m n : Nat} : sgn (a != b) (m * n) = sgn a m * sgn b n := by
 cases a <;> cases b <;> simp [sgn, Int.neg_mul, Int.mul_neg]
theorem digits_len1 {m : Nat} (h : (digits m).length = 1) : m < 4294967296 ∧ (digits m).getD 0 0 = m := by
 have e := digits_one (m := m) (by omega)
 have := (digits_words m).getD 0
 omega
theorem num_IsI (a : Int) : FnP Tryz.prog tb F_num_Is [encI a] (.b true) := isW_enc a ▸ num_Is (decide (a < 0)) (digits a.natAbs)
theorem digits_abs0 {a : Int} (h : digits a.natAbs = []) : a = 0 := by rw [digits_nil] at h; omega
theorem num_Mul (a b : Int) (ha : Fi 16 a := by first | assumption | exact Fi.small (by omega) | (apply Fi.le; (focus (repeat' (first | assumption | apply Fi.mul | apply Fi.add | apply Fi.sub | apply Fi.neg | apply Fi.abs | apply Fi.gcd | apply Fi.div | exact Fi.one | exact Fi.zero | exact Fi.small (by omega)))); decide)) (hb : Fi 16 b := by first | assumption | exact Fi.small (by omega) | (apply Fi.le; (focus (repeat' (first | assumption | apply Fi.mul | apply Fi.add | apply Fi.sub | apply Fi.neg | apply Fi.abs | apply Fi.gcd | apply Fi.div | exact Fi.one | exact Fi.zero | exact Fi.small (by omega)))); decide)) : FnP Tryz.prog tb F_num_Mul [encI a, encI b] (encI (a * b)) := by
 refine fn1 Tryz.func130 fun G hG hK hF => ?_
 refine sx 13 ?_
 refine wp_c rfl (fun hc => ?_) (fun hc => ?_)
 ·simp at hc
 ·refine sx 3 ?_
  by_cases h1 : (digits a.natAbs).length = 1
  ·refine sx 12 ?_
   refine wp_c rfl (fun hc => ?_) (fun hc => ?_)
   ·have h2 : (digits b.natAbs).length = 1 := by simp at hc; omega
    obtain ⟨a1, a2⟩ := digits_len1 h1
    obtain ⟨b1, b2⟩ := digits_len1 h2
    have hab := mul_fit1 a1 b1
    refine sx 8 ?_
    refine dq (.indexAddrR (yf := by omega) (yg := by exact wds_at2 (ws := digits a.natAbs) 0 rfl (by omega))) ?_
    refine sx 1 ?_
    refine dq (.convR (yf := by exact (congrArg (fun n : Nat => IntKind.u64.wrap (n : Int)) a2).trans (wrap_u64 (by omega)))) ?_
    refine sx 2 ?_
    refine dq (.indexAddrR (yf := by omega) (yg := by exact wds_at2 (ws := digits b.natAbs) 0 rfl (by omega))) ?_
    refine sx 1 ?_
    refine dq (.convR (yf := by exact (congrArg (fun n : Nat => IntKind.u64.wrap (n : Int)) b2).trans (wrap_u64 (by omega)))) ?_
    refine dq (.arithR (yd := by exact (wrap_u64 (by omega)).trans (rfl : _ = ((a.natAbs * b.natAbs : Nat) : Int)))) ?_
    refine dq (.callR (yb := asc (.inl rfl) as1) (yc := num_natural _ (a.natAbs * b.natAbs) (by omega))) ?_
    refine sx 4 ?_
    exact ⟨.inr rfl, rfl, (by (refine res_c rfl rfl rfl rfl rfl ?_); (rw [sgn_mul, sgn_abs, sgn_abs])), trivial⟩
   ·refine sx 17 ?_
    skip
    have hv := val_padW ((digits a.natAbs).length + (digits b.natAbs).length) (val (digits a.natAbs) * val (digits b.natAbs)) (by rw [Nat.pow_add]; exact Nat.mul_lt_mul'' (val_lt (digits_words _)) (val_lt (digits_words _)))
    exact ⟨.inr rfl, rfl, (by (refine res_c rfl rfl rfl rfl rfl ?_); (rw [hv, val_digits, val_digits, sgn_mul, sgn_abs, sgn_abs])), trivial⟩
  ·refine sx 12 ?_
   refine wp_c rfl (fun hc => ?_) (fun hc => ?_)
   ·simp at hc
   ·refine sx 17 ?_
    skip
    have hv := val_padW ((digits a.natAbs).length + (digits b.natAbs).length) (val (digits a.natAbs) * val (digits b.natAbs)) (by rw [Nat.pow_add]; exact Nat.mul_lt_mul'' (val_lt (digits_words _)) (val_lt (digits_words _)))
    exact ⟨.inr rfl, rfl, (by (refine res_c rfl rfl rfl rfl rfl ?_); (rw [hv, val_digits, val_digits, sgn_mul, sgn_abs, sgn_abs])), trivial⟩
theorem num_Sign (a : Int) : FnP Tryz.prog tb F_num_Sign [encI a] (.i .i64 a.sign) := by
 refine fn1 Tryz.func113 fun G hG hK hF => ?_
 refine sx 18 ?_
 refine wp_c rfl (fun hc => ?_) (fun hc => ?_)
 ·have h0 : a = 0 := by simp at hc; exact digits_abs0 hc
  refine sx 6 ?_
  exact ⟨.inr rfl, rfl, (by (refine res_t rfl ?_); (subst h0; rfl)), trivial⟩
 ·have h0 : a ≠ 0 := by rintro rfl; simp at hc; exact hc rfl
  refine sx 5 ?_
  refine wp_c rfl (fun hc => ?_) (fun hc => ?_)
  ·have h1 : a < 0 := by simpa using hc
   refine sx 6 ?_
   exact ⟨.inr rfl, rfl, (by (refine res_t rfl ?_); (rw [Int.sign_eq_neg_one_of_neg h1])), trivial⟩
  ·have h1 : ¬ a < 0 := by simpa using hc
   refine sx 7 ?_
   exact ⟨.inr rfl, rfl, (by (refine res_t rfl ?_); (rw [Int.sign_eq_one_of_pos (by omega)])), trivial⟩
def cmpI (a b : Int) : Int := if a < b then -1 else if a = b then 0 else 1
theorem num_Cmp (a b : Int) : FnP Tryz.prog tb F_num_Cmp [encI a, encI b] (.i .i64 (cmpI a b)) := by
 refine fn1 Tryz.func132 fun G hG hK hF => ?_
 refine sx 13 ?_
 refine wp_c rfl (fun hc => ?_) (fun hc => ?_)
 ·simp at hc
 ·refine sx 10 ?_
  refine wp_c rfl (fun hc => ?_) (fun hc => ?_)
  ·have hs : decide (a < 0) ≠ decide (b < 0) := by simpa using hc
   refine sx 5 ?_
   refine wp_c rfl (fun hc => ?_) (fun hc => ?_)
   ·have h1 : a < 0 := by simpa using hc
    refine sx 6 ?_
    exact ⟨.inr rfl, rfl, (by (refine res_t rfl ?_); (rw [cmpI, if_pos (by simp [h1] at hs; omega)])), trivial⟩
   ·have h1 : ¬ a < 0 := by simpa using hc
    refine sx 7 ?_
    have h2 : b < 0 := by simp [h1] at hs; omega
    exact ⟨.inr rfl, rfl, (by (refine res_t rfl ?_); (rw [cmpI, if_neg (by omega), if_neg (by omega)])), trivial⟩
  ·have hs : decide (a < 0) = decide (b < 0) := by simpa using hc
   refine sx 7 ?_
   refine oq (.callR (yb := asc (.inl rfl) as1) (yc := num_compared a.natAbs b.natAbs)) ?_
   refine sx 7 ?_
   refine wp_c rfl (fun hc => ?_) (fun hc => ?_)
   ·have h1 : a < 0 := by simpa using hc
    have h2 : b < 0 := by simp [h1] at hs; exact hs
    refine sx 2 ?_
    refine oq (.negR (yb := by refine wrap_i64 ?_; unfold cmpN; split; omega; split <;> omega)) ?_
    refine sx 4 ?_
    exact ⟨.inr rfl, rfl, (by (refine res_t rfl ?_); (refine tri ?_; unfold cmpN cmpI; split; rw [if_neg (by omega), if_neg (by omega)]; rfl; split; rw [if_neg (by omega), if_pos (by omega)]; rfl; rw [if_pos (by omega)]; rfl)), trivial⟩
   ·have h1 : ¬ a < 0 := by simpa using hc
    have h2 : ¬ b < 0 := by simp [h1] at hs; omega
    refine sx 7 ?_
    exact ⟨.inr rfl, rfl, (by (refine res_t rfl ?_); (refine tri ?_; unfold cmpN cmpI; split; rw [if_pos (by omega)]; split; rw [if_neg (by omega), if_pos (by omega)]; rw [if_neg (by omega), if_neg (by omega)])), trivial⟩
def bl (x : Nat) : Nat := if x = 0 then 0 else x.log2 + 1
theorem bl_lt (x : Nat) : x < 2 ^ bl x := by
 unfold bl
 split
 ·omega
 ·rename_i h
  exact (Nat.log2_lt h).1 (by omega)
theorem bl_ge {x : Nat} (h : x ≠ 0) : 2 ^ (bl x - 1) ≤ x := by
 unfold bl
 rw [if_neg h, Nat.add_sub_cancel]
 exact Nat.log2_self_le h
theorem bl_unique {x n : Nat} (h1 : x < 2 ^ n) (h2 : 2 ^ (n - 1) ≤ x) : bl x = n := by
 have h0 : x ≠ 0 := by
  have : 0 < 2 ^ (n - 1) := Nat.two_pow_pos _
  omega
 have h3 := bl_lt x
 have h4 := bl_ge h0
 have a1 : bl x - 1 < n := (Nat.pow_lt_pow_iff_right (a := 2) (by decide)).1 (Nat.lt_of_le_of_lt h4 h1)
 have a2 : n - 1 < bl x := (Nat.pow_lt_pow_iff_right (a := 2) (by decide)).1 (Nat.lt_of_le_of_lt h2 h3)
 omega
theorem bl_pos {x : Nat} (h : x ≠ 0) : 0 < bl x := by simp [bl, h]
theorem bl_le {x n : Nat} (h : x < 2 ^ n) : bl x ≤ n := by
 by_cases h0 : x = 0
 ·simp [bl, h0]
 ·have h4 := bl_ge h0
  have a1 : bl x - 1 < n := (Nat.pow_lt_pow_iff_right (a := 2) (by decide)).1 (Nat.lt_of_le_of_lt h4 h)
  omega
theorem bl_shift {x k : Nat} (h : 2 ^ k ≤ x) : bl x = bl (x / 2 ^ k) + k := by
 have hk : 0 < 2 ^ k := Nat.two_pow_pos _
 have h0 : x / 2 ^ k ≠ 0 := by
  have := Nat.div_pos h hk
  omega
 have h3 := bl_lt (x / 2 ^ k)
 have h4 := bl_ge h0
 have hp := bl_pos h0
 refine bl_unique ?_ ?_
 ·rw [Nat.pow_add]
  exact (Nat.div_lt_iff_lt_mul hk).1 h3
 ·have e : bl (x / 2 ^ k) + k - 1 = bl (x / 2 ^ k) - 1 + k := by omega
  rw [e, Nat.pow_add]
  exact (Nat.le_div_iff_mul_le hk).1 h4
def tab8 : ByteArray := ⟨((List.range 256).map fun n => UInt8.ofNat (bl n)).toArray⟩
theorem tab8_at {n : Nat} (h : n < 256) : tab8[n]? = some (UInt8.ofNat (bl n)) := by
 have : tab8[n]? = ((List.range 256).map fun n => UInt8.ofNat (bl n))[n]? := by
  by_cases h2 : n < tab8.size
  ·have h3 : n < ((List.range 256).map fun n => UInt8.ofNat (bl n)).length := by simpa using h
   rw [List.getElem?_eq_getElem h3]
   rw [getElem?_pos tab8 n h2]
   rfl
  ·exact absurd (show n < tab8.size by simpa [tab8, ByteArray.size] using h) h2
 rw [this, List.getElem?_map, List.getElem?_range h]
 rfl
theorem shrn {a k n : Nat} (hk : k ≤ n) : ((a : Int)).fdiv (2 ^ (min k n)) = ((a / 2 ^ k : Nat) : Int) := by
 rw [Nat.min_eq_left hk, Int.fdiv_eq_ediv_of_nonneg _ (by exact_mod_cast Nat.zero_le (2 ^ k))]
 norm_cast
theorem wrapu8 {n : Int} (h : 0 ≤ n ∧ n < 256) : IntKind.u8.wrap n = n := by simp [IntKind.wrap, IntKind.signed, IntKind.bits]; omega
theorem bl8 {x : Nat} (h : x < 256) : bl x ≤ 8 := bl_le (n := 8) h
theorem bits_Len32 (x : Nat) (hx : x < 4294967296) : FnP Tryz.prog tb F_bits_Len32 [.i .u32 x] (.i .i64 (bl x)) := by
 refine fn1 Tryz.func180 fun G hG hK hF => ?_
 refine sx 3 ?_
 refine wp_j hK (fun ((y, n) : Nat × Nat) => ⟨[(0, .t (.i .u32 y)), (2, .t (.i .i64 n))], [], 0, 0⟩) (fun (y, n) => y < 65536 ∧ bl x = bl y + n ∧ n ≤ 16) (fun _ => rfl) ?_ ?_
 ·refine sx 4 ?_
  refine wp_c rfl (fun hc => ?_) (fun hc => ?_)
  ·have hc : 65536 ≤ x := by simp at hc; omega
   have hb : bl x = bl (x / 65536) + 16 := bl_shift (k := 16) hc
   refine sx 2 ?_
   refine oq (.shrR (yc := by omega) (yd := by exact (shrn (k := 16) (by decide)).trans rfl)) ?_
   refine sx 5 ?_
   exact join_n (x / 65536, 16) (by exact ⟨by omega, hb, by omega⟩) (by exact il)
  ·refine wp_k ?_
   exact join_n (x, 0) (by simp at hc; exact ⟨by omega, rfl, by omega⟩) (by exact il)
 ·rintro ⟨y, n⟩ ⟨hy, hb1, hn⟩
  refine wp_j hK (fun ((y, n) : Nat × Nat) => ⟨[(0, .t (.i .u32 y)), (2, .t (.i .i64 n))], [], 0, 0⟩) (fun (y, n) => y < 256 ∧ bl x = bl y + n ∧ n ≤ 24) (fun _ => rfl) ?_ ?_
  ·refine sx 4 ?_
   refine wp_c rfl (fun hc => ?_) (fun hc => ?_)
   ·have hc : 256 ≤ y := by simp at hc; omega
    have hb : bl y = bl (y / 256) + 8 := bl_shift (k := 8) hc
    refine sx 2 ?_
    refine oq (.shrR (yc := by omega) (yd := by exact (shrn (k := 8) (by decide)).trans rfl)) ?_
    refine sx 7 ?_
    exact join_n (y / 256, n + 8) (by exact ⟨by omega, by rw [hb1, hb]; omega, by omega⟩) (by exact il)
   ·refine wp_k ?_
    exact join_n (y, n) (by simp at hc; exact ⟨by omega, hb1, by omega⟩) (by exact il)
  ·rintro ⟨z, k⟩ ⟨hz, hb2, hk⟩
   have hz8 := bl8 hz
   refine sx 4 ?_
   refine oq (.indexSR (ye := by omega) (yf := by refine (congrArg (fun s : ByteArray => s[_]?) (by kernel_rfl : _ = tab8)).trans ?_; exact tab8_at hz)) ?_
   refine oq (.convR (yf := by exact (congrArg (fun n : Nat => IntKind.i64.wrap (n : Int)) (UInt8.toNat_ofNat_of_lt' (show bl z < 256 by omega))).trans (wrap_i64 (by omega)))) ?_
   refine sx 4 ?_
   exact ⟨.inr rfl, rfl, (by (refine res_t rfl ?_); (exact tri (by omega))), trivial⟩
theorem bl32 {x : Nat} (h : x < 4294967296) : bl x ≤ 32 := bl_le (n := 32) h
theorem bits_LeadingZeros32 (x : Nat) (hx : x < 4294967296) : FnP Tryz.prog tb F_bits_LeadingZeros32 [.i .u32 x] (.i .i64 (32 - bl x : Nat)) := by
 refine fn1 Tryz.func183 fun G hG hK hF => ?_
 have := bl32 hx
 refine sx 5 ?_
 refine oq (.callR (yb := as1) (yc := bits_Len32 x hx)) ?_
 refine sx 4 ?_
 exact ⟨.inr rfl, rfl, (by (refine res_t rfl ?_); (exact tri (by omega))), trivial⟩
theorem val_drop {ws : List Nat} {j : Nat} (h : j < ws.length) : val (ws.drop j) = ws.getD j 0 + 4294967296 * val (ws.drop (j + 1)) := by
 rw [List.drop_eq_getElem_cons h]
 simp [val, List.getD_eq_getElem?_getD, List.getElem?_eq_getElem h]
theorem getD_take {ws us : List Nat} {k j : Nat} (h : ws.take k = us.take k) (hj : j < k) : ws.getD j 0 = us.getD j 0 := by
 have : (ws.take k).getD j 0 = (us.take k).getD j 0 := by rw [h]
 simpa [List.getD_eq_getElem?_getD, List.getElem?_take, hj] using this
theorem div_fit {r w d : Nat} (hd : d < 4294967296) (hr : r < d) (hw : w < 4294967296) : 4294967296 * r + w < 18446744073709551616 ∧ (4294967296 * r + w) / d < 4294967296 := by
 refine ⟨by omega, (Nat.div_lt_iff_lt_mul (by omega)).2 ?_⟩
 have : 4294967296 * (r + 1) ≤ 4294967296 * d := Nat.mul_le_mul_left _ hr
 omega
theorem getD_set_self {ws : List Nat} {k w : Nat} (h : k < ws.length) : (ws.set k w).getD k 0 = w := by simp [List.getD_eq_getElem?_getD, h]
theorem take_le {a b : List Nat} {k : Nat} (h : a.take (k + 1) = b.take (k + 1)) (_ : k ≤ k + 1) : a.take k = b.take k := by
 have := congrArg (List.take k) h
 simpa [List.take_take] using this
theorem short_step {r w V d : Nat} (hd : 0 < d) : w + 4294967296 * (V * d + r) = ((4294967296 * r + w) / d + 4294967296 * V) * d + (4294967296 * r + w) % d := by
 have := Nat.div_add_mod (4294967296 * r + w) d
 generalize (4294967296 * r + w) / d = q at *
 generalize (4294967296 * r + w) % d = m at *
 grind
theorem short_mod {v V d r : Nat} (hr : r < d) (h : v = V * d + r) : v % d = r := by
 subst h; rw [Nat.mul_comm, Nat.mul_add_mod]; exact Nat.mod_eq_of_lt hr
theorem short_div {v V d r : Nat} (hr : r < d) (h : v = V * d + r) : V = v / d := by
 subst h; rw [Nat.mul_comm, Nat.mul_add_div (by omega), Nat.div_eq_of_lt hr]; rfl
theorem num_short (a : List Nat) (ha : Words a) (d : Nat) (hd : d < 4294967296) (hd0 : 0 < d) : FnH Tryz.prog tb F_num_short [.own T_uint32 0 0 a.length, .t (.i .u32 d)] [.arr T_uint32 ((wds a).map .t)] (.t (.i .u32 (val a % d : Nat))) [(0, some (.arr T_uint32 ((wds (padW a.length (val a / d))).map .t)))] 1 := by
 refine fnH_of tbOk Tryz.func182 rfl rfl (Nat.le_of_ble_eq_true rfl) fun G hG hK => ?_
 have hF : Wd Fence.wide := .inl rfl
 refine wp_boundO 0 rfl fun hb => ?_
 have hb : a.length * 4 ≤ 140737488355328 := hb
 refine sx 14 ?_
 refine wp_l hK (fun ((k, out, r) : Nat × List Nat × Nat) => ⟨[(0, .own T_uint32 0 0 a.length), (1, .t (.i .u32 d)), (5, .t (.i .u64 r)), (6, .t (.i .i64 ((k : Int) - 1)))], [(0, some (.arr T_uint32 ((wds out).map .t)))], 1, 0⟩) (fun (k, out, r) => k ≤ a.length ∧ out.length = a.length ∧ Words out ∧ r < d ∧ out.take k = a.take k ∧ val (a.drop k) = val (out.drop k) * d + r) (fun (k, _) => k) (a.length, a, 0) ?_ (fun _ => rfl) ?_ ?_
 ·exact ⟨Nat.le_refl _, rfl, ha, hd0, rfl, by simp [val]⟩
 ·exact il
 ·rintro ⟨k, out, r⟩ ⟨hk, hlen, hwo, hr, htk, hv⟩
  refine sx 5 ?_
  refine wp_c rfl (fun hc => ?_) (fun hc => ?_)
  ·obtain ⟨k, rfl⟩ : ∃ j, k = j + 1 := ⟨k - 1, by simp at hc; omega⟩
   have e : ((k + 1 : Nat) : Int) - 1 = (k : Int) := by omega
   rw [e]
   have hw := hwo.getD k
   have hak := getD_take htk (Nat.lt_succ_self k)
   obtain ⟨f1, f2⟩ := div_fit hd hr hw
   refine sx 10 ?_
   refine oq (.loadPR (yd := by (exact wds_own2 k (by omega) (by omega)))) ?_
   refine oq (.convR (yf := by exact wrap_u64 (by omega))) ?_
   refine oq (.bitsR (yc := or64 (by omega) hw)) ?_
   refine oa ?_
   refine wo_nil ?_
   refine rr ?_
   refine om ?_
   refine om ?_
   refine om ?_
   refine om ?_
   refine oq (.convR (yf := by exact wrap_u64 (by omega))) ?_
   refine oq (.quoR (yc := by omega) (yd := by exact tdivn f1)) ?_
   refine oq (.convR (yf := by exact w32n f2)) ?_
   refine oq (.indexAddrOR (yf := by omega) (yg := by omega)) ?_
   refine oe (.storeR (ye := by exact wds_idx (by omega)) (yg := .inl rfl)) ?_
   refine wo_nil ?_
   refine rr0 ?_
   refine om ?_
   refine om ?_
   refine oq (.convR (yf := by exact wrap_u64 (by omega))) ?_
   refine oq (.remR (yc := by omega) (yd := by exact tmodn)) ?_
   refine oa ?_
   refine wo_nil ?_
   refine blk_n ?_
   refine then_n ?_
   refine rr0 ?_
   refine om ?_
   refine oq (.arithR (yd := by exact wrap_i64 (by omega))) ?_
   refine oa ?_
   refine wo_nil ?_
   exact round_n (k, out.set k ((4294967296 * r + out.getD k 0) / d), (4294967296 * r + out.getD k 0) % d) (by refine ⟨by omega, by simp [hlen], hwo.set f2 _, Nat.mod_lt _ hd0, ?_, ?_⟩; rw [List.take_set_of_le (Nat.le_refl k)]; exact take_le htk (by omega); rw [val_drop (ws := a) (j := k) (by omega), val_drop (ws := out.set k _) (j := k) (by simp; omega), hv, ← hak, getD_set_self (by omega), List.drop_set_of_lt (by omega)]; exact short_step hd0) (by (simp only; omega)) (by exact imp_less (by repeat' (first | exact trivial | (refine And.intro (by rfl) ?_))) (by repeat' (first | exact trivial | (refine And.intro (by exact geth rfl (wds_upd2 k (by omega) rfl)) ?_))) (by exact Nat.le_of_ble_eq_true rfl))
  ·obtain rfl : k = 0 := by simp at hc; omega
   refine wp_x ?_
   refine then_exit ?_
   refine round_exit ?_
   refine blk_hit ?_
   refine then_n ?_
   refine rr ?_
   refine om ?_
   refine oq (.convR (yf := by exact wrap_u32 (by omega))) ?_
   refine oa ?_
   refine wo_nil ?_
   refine wp_rt ?_
   exact ⟨.inr rfl, rfl, _, Imp.refl _ _, Nat.le_of_ble_eq_true rfl, Nat.le_of_ble_eq_true rfl, (by repeat' (first | exact trivial | (refine And.intro (by exact geth rfl (by rw [padW_eq hwo hlen (short_div hr (by simpa using hv))])) ?_))), (by (refine .inl ⟨[_], rfl, ?_, trivial⟩; refine res_t rfl ?_; (exact tri (by rw [short_mod hr (by simpa using hv)]))))⟩
theorem shlw {w s : Nat} (hs : s ≤ 32) : IntKind.u32.wrap ((w : Int) * 2 ^ (min (Int.toNat (s : Int)) IntKind.u32.bits)) = ((w * 2 ^ s % 4294967296 : Nat) : Int) := by
 have e : min (Int.toNat (s : Int)) IntKind.u32.bits = s := Nat.min_eq_left hs
 rw [e, wrap_u32_mod, show ((w : Int) * 2 ^ s) = ((w * 2 ^ s : Nat) : Int) by rw [Int.natCast_mul, Int.natCast_pow]; rfl]
 rfl
theorem or32s {o y s : Nat} (ho : o < 2 ^ s) (hb : o < 4294967296) (hx : 2 ^ s * y < 4294967296) : bitsTr .or .u32 (o : Int) ((2 ^ s * y : Nat) : Int) = some ((2 ^ s * y + o : Nat) : Int) ∧ 2 ^ s * y + o < 4294967296 := by
 have h1 : 2 ^ s * y ||| o = 2 ^ s * y + o := (Nat.two_pow_add_eq_or_of_lt ho y).symm
 have h2 : 2 ^ s * y ||| o < 2 ^ 32 := Nat.or_lt_two_pow hx hb
 have h3 : 2 ^ s * y + o < 4294967296 := by rw [← h1]; exact h2
 refine ⟨?_, h3⟩
 show some (IntKind.u32.wrap (((BitVec.ofInt 32 (o : Int) ||| BitVec.ofInt 32 ((2 ^ s * y : Nat) : Int) : BitVec 32).toNat : Nat) : Int)) = _
 rw [ofInt_nat, ofInt_nat, BitVec.toNat_or, BitVec.toNat_ofNat, BitVec.toNat_ofNat, Nat.mod_eq_of_lt hb, Nat.mod_eq_of_lt hx, Nat.or_comm, h1]
 exact congrArg some (w32n h3)
theorem two32 {s : Nat} (hs : s ≤ 32) : 2 ^ s * 2 ^ (32 - s) = 4294967296 := by
 rw [← Nat.pow_add, show s + (32 - s) = 32 by omega]
theorem mul_mod_two {w s : Nat} (hs : s ≤ 32) : w * 2 ^ s % 4294967296 = 2 ^ s * (w % 2 ^ (32 - s)) := by
 rw [← two32 hs, Nat.mul_comm w, Nat.mul_mod_mul_left]
theorem mul_div_two {w s : Nat} (hs : s ≤ 32) : w * 2 ^ s / 4294967296 = w / 2 ^ (32 - s) := by
 rw [← two32 hs, Nat.mul_comm w, Nat.mul_div_mul_left _ _ (Nat.two_pow_pos s)]
theorem hi_lt {w s : Nat} (hs : s ≤ 32) (hw : w < 4294967296) : w / 2 ^ (32 - s) < 2 ^ s := by
 refine (Nat.div_lt_iff_lt_mul (Nat.two_pow_pos _)).2 ?_
 rw [two32 hs]; exact hw
theorem shrw {w s : Nat} (hs : s ≤ 32) : ((w : Int)).fdiv (2 ^ (min (Int.toNat (32 - (s : Int))) IntKind.u64.bits)) = ((w / 2 ^ (32 - s) : Nat) : Int) := by
 have e : min (Int.toNat (32 - (s : Int))) IntKind.u64.bits = min (32 - s) 64 := by
  have : Int.toNat (32 - (s : Int)) = 32 - s := by omega
  rw [this]; rfl
 rw [e]; exact shrn (by omega)
theorem shift_step {P v v1 v2 o w s x c : Nat} (hx : x + 4294967296 * c = w * 2 ^ s) (h1 : v1 + P * o = v + P * (x + o)) (h2 : v2 + P * 4294967296 * 0 = v1 + P * 4294967296 * c) {V : Nat} (hv : v = V * 2 ^ s) : v2 = (V + P * w) * 2 ^ s := by
 grind
theorem shifted_H (a : List Nat) (ha : Words a) (s : Nat) (hs : s < 32) (hsz : a.length < 35184372088832) : FnH Tryz.prog tb F_num_shifted [.t (.sl T_uint32 (wds a)), .t (.i .i64 s)] [] (.own T_uint32 0 0 (a.length + 1)) [(0, some (.arr T_uint32 ((wds (padW (a.length + 1) (val a * 2 ^ s))).map .t)))] 1 := by
 refine fnH_of tbOk Tryz.func184 rfl rfl (Nat.le_of_ble_eq_true rfl) fun G hG hK => ?_
 have hF : Wd Fence.wide := .inl rfl
 refine wp_wl 0 rfl fun hb => ?_
 refine sx 17 ?_
 refine wp_l hK (fun ((i, out) : Nat × List Nat) => ⟨[(1, .t (.i .i64 s)), (5, .own T_uint32 0 0 (a.length + 1)), (12, .t (.sl T_uint32 (wds a))), (13, .t (.i .i64 a.length)), (14, .t (.i .i64 i))], [(0, some (.arr T_uint32 ((wds out).map .t)))], 1, 0⟩) (fun (i, out) => i ≤ a.length ∧ out.length = a.length + 1 ∧ Words out ∧ val out = val (a.take i) * 2 ^ s ∧ (∀ j, i < j → out.getD j 0 = 0) ∧ out.getD i 0 < 2 ^ s) (fun (i, _) => a.length - i) (0, List.replicate (a.length + 1) 0) ?_ (fun _ => rfl) ?_ ?_
 ·exact ⟨Nat.zero_le _, by simp, fun w hw => by rw [List.eq_of_mem_replicate hw]; decide, by simp [val_zeros, val], fun k _ => by simp [List.getD_eq_getElem?_getD, List.getElem?_replicate]; split <;> rfl, by simp [List.getD_eq_getElem?_getD, List.replicate_succ]; exact Nat.two_pow_pos s⟩
 ·exact imp_less ga (by repeat' (first | exact trivial | (refine And.intro (by exact geth rfl (by simp [wds])) ?_))) (by exact Nat.le_of_ble_eq_true rfl)
 ·rintro ⟨i, out⟩ ⟨hi, hlen, hwo, hv, hz, ho⟩
  refine sx 4 ?_
  refine wp_c rfl (fun hc => ?_) (fun hc => ?_)
  ·have hci : i < a.length := by simp at hc; omega
   have hw := ha.getD i
   have hxm := mul_mod_two (w := a.getD i 0) (s := s) (by omega)
   have hxlt : 2 ^ s * (a.getD i 0 % 2 ^ (32 - s)) < 4294967296 := by rw [← hxm]; omega
   obtain ⟨hor, hol⟩ := or32s ho (hwo.getD i) hxlt
   have hhi := hi_lt (w := a.getD i 0) (s := s) (by omega) hw
   have hc32 : a.getD i 0 / 2 ^ (32 - s) < 4294967296 := Nat.lt_of_le_of_lt (Nat.div_le_self _ _) hw
   refine wp_k ?_
   refine then_n ?_
   refine wp_s ?_
   refine wp_b ?_
   refine rr ?_
   refine om ?_
   refine oq (.indexAddrR (yf := by omega) (yg := by exact wds_at2 i (by omega) (by omega))) ?_
   refine oq .loadR ?_
   refine oa ?_
   refine oa ?_
   refine wo_nil ?_
   refine wp_d tbOk hF mixed hG [] (by kernel_rfl) ?_
   refine dq .moveR ?_
   refine dq .moveR ?_
   refine dq (.indexAddrOR (yf := by omega) (yg := by omega)) ?_
   refine dq (.loadPR (yd := by (exact wds_own2 i (by omega) (by omega)))) ?_
   refine dq .moveR ?_
   refine dq .moveR ?_
   refine dq (.shlR (yc := by omega) (yd := by exact (shlw (by omega)).trans (congrArg Nat.cast hxm))) ?_
   refine dq (.bitsR (yc := hor)) ?_
   refine dq (.indexAddrOR (yf := by omega) (yg := by omega)) ?_
   refine wd_e rfl rfl rfl (.storeR (ye := by exact wds_idx (by omega)) (yg := .inl rfl)) (by exact trivial) ?_
   refine wd_nil ?_
   refine rr0 ?_
   refine om ?_
   refine om ?_
   refine oq (.arithR (yd := by exact wrap_i64 (by omega))) ?_
   refine om ?_
   refine oq (.convR (yf := by exact wrap_u64 (by omega))) ?_
   refine sx 2 ?_
   refine oq (.shrR (yc := by omega) (yd := by exact shrw (by omega))) ?_
   refine oq (.convR (yf := by exact w32n hc32)) ?_
   refine oq (.indexAddrOR (yf := by omega) (yg := by omega)) ?_
   refine oe (.storeR (ye := by (simp [wds]; omega)) (yg := .inl rfl)) ?_
   refine wo_nil ?_
   refine blk_n ?_
   refine then_n ?_
   refine rr0 ?_
   refine oq (.arithR (yd := by exact wrap_i64 (by omega))) ?_
   refine om ?_
   refine wo_nil ?_
   have h1 := val_set (w := 2 ^ s * (a.getD i 0 % 2 ^ (32 - s)) + out.getD i 0) (show i < out.length by omega)
   have h2 := val_set (w := a.getD i 0 / 2 ^ (32 - s)) (show i + 1 < (out.set i (2 ^ s * (a.getD i 0 % 2 ^ (32 - s)) + out.getD i 0)).length by simp; omega)
   rw [getD_set_ne (by omega), hz (i + 1) (by omega), Nat.pow_succ] at h2
   have h3 := shift_step (w := a.getD i 0) (s := s) (by rw [← hxm, ← mul_div_two (by omega)]; omega) h1 h2 hv
   exact round_n (i + 1, (out.set i (2 ^ s * (a.getD i 0 % 2 ^ (32 - s)) + out.getD i 0)).set (i + 1) (a.getD i 0 / 2 ^ (32 - s))) (by refine ⟨by omega, by simp [hlen], (hwo.set hol _).set hc32 _, by rw [val_take_succ hci]; exact h3, fun j hj => by rw [getD_set_ne (by omega), getD_set_ne (by omega)]; exact hz j (by omega), by rw [getD_set_self (by simp; omega)]; exact hhi⟩) (by (simp only; omega)) (by exact imp_less (by repeat' (first | exact trivial | (refine And.intro (by rfl) ?_))) (by repeat' (first | exact trivial | (refine And.intro (by exact geth rfl (wds_upd2' i (i + 1) (by omega) (by omega))) ?_))) (by exact Nat.le_of_ble_eq_true rfl))
  ·obtain rfl : i = a.length := by simp at hc; omega
   refine sx 10 ?_
   exact ⟨.inr rfl, rfl, _, Imp.refl _ _, Nat.le_of_ble_eq_true rfl, Nat.le_of_ble_eq_true rfl, (by repeat' (first | exact trivial | (refine And.intro (by exact geth rfl (by rw [padW_eq hwo hlen (by rw [hv, List.take_length])])) ?_))), (by exact .inr ⟨_, rfl, rfl⟩)⟩
theorem num_shifted (a : List Nat) (ha : Words a) (s : Nat) (hs : s < 32) (hsz : a.length < 35184372088832) : FnN Tryz.prog tb F_num_shifted [.sl T_uint32 (wds a), .i .i64 s] T_uint32 (wds (padW (a.length + 1) (val a * 2 ^ s))) :=
 fnN_of (fun t ht => by obtain ⟨w, _, rfl⟩ := List.mem_map.1 ht; exact ⟨_, _, rfl⟩) (by
  have e : (wds (padW (a.length + 1) (val a * 2 ^ s))).length = a.length + 1 := by rw [wds_len, padW_len]
  rw [e]; exact shifted_H a ha s hs hsz)
def guessN (t0 t1 t2 f s : Nat) : Nat := min (((t0 * 4294967296 + t1) * 4294967296 + t2) / (f * 4294967296 + s)) 4294967295
theorem guess_hi {q r f s high t2 : Nat} (hf : 0 < f) (h : q * f + r = high) (hc : q * s ≤ r * 4294967296 + t2) : q ≤ (high * 4294967296 + t2) / (f * 4294967296 + s) := by
 refine (Nat.le_div_iff_mul_le (by omega)).2 ?_
 subst h
 grind
theorem guess_lo {q r f s high t2 : Nat} (hf : 0 < f) (h : q * f + r = high) (hc : r * 4294967296 + t2 < q * s) : (high * 4294967296 + t2) / (f * 4294967296 + s) < q := by
 refine (Nat.div_lt_iff_lt_mul (by omega)).2 ?_
 subst h
 grind
theorem guess_q {q r f high t0 t1 : Nat} (h : q * f + r = high) (hh : high = t0 * 4294967296 + t1) (h1 : t1 < 4294967296) (h0 : t0 ≤ f) (hr : 4294967296 ≤ r) : q < 4294967296 := by
 rcases Nat.lt_or_ge q 4294967296 with hq | hq
 ·exact hq
 ·have a := Nat.mul_le_mul_right f hq
  have b := Nat.mul_le_mul_right 4294967296 h0
  have c : 4294967296 * f = f * 4294967296 := Nat.mul_comm _ _
  omega
theorem guess_s {q s r t2 : Nat} (hq : q < 4294967296) (hs : s < 4294967296) (hr : 4294967296 ≤ r) : q * s ≤ r * 4294967296 + t2 := by
 have := mul_fit1 hq hs
 omega
theorem dec_eq {q r f high : Nat} (h : q * f + r = high) (hq : 0 < q) : (q - 1) * f + (r + f) = high := by
 obtain ⟨p, rfl⟩ : ∃ p, q = p + 1 := ⟨q - 1, by omega⟩
 rw [Nat.add_sub_cancel]
 rw [Nat.add_mul] at h
 omega
theorem guess_init {t0 t1 t2 f s : Nat} (h2 : t2 < 4294967296) (hf0 : 0 < f) (hf : f < 4294967296) (hb : 4294967296 * t0 + t1 < 18446744073709551616) :
  (4294967296 * t0 + t1) / f * f + (4294967296 * t0 + t1) % f = t0 * 4294967296 + t1 ∧ (4294967296 * t0 + t1) % f < 4294967296 ∧ (4294967296 * t0 + t1) / f < 18446744073709551616 ∧ guessN t0 t1 t2 f s ≤ (4294967296 * t0 + t1) / f := by
 refine ⟨?_, Nat.lt_trans (Nat.mod_lt _ hf0) hf, Nat.lt_of_le_of_lt (Nat.div_le_self _ _) hb, Nat.le_trans (Nat.min_le_left _ _) ?_⟩
 ·have := Nat.div_add_mod (4294967296 * t0 + t1) f
  rw [Nat.mul_comm] at this
  omega
 ·refine (Nat.le_div_iff_mul_le hf0).2 ?_
  have h := Nat.div_mul_le_self ((t0 * 4294967296 + t1) * 4294967296 + t2) (f * 4294967296 + s)
  generalize ((t0 * 4294967296 + t1) * 4294967296 + t2) / (f * 4294967296 + s) = Q at *
  have e : Q * (f * 4294967296 + s) = Q * f * 4294967296 + Q * s := by grind
  rw [e] at h
  generalize Q * f = X at *
  omega
theorem num_guess (t0 t1 t2 f s : Nat) (h0 : t0 < 4294967296) (h1 : t1 < 4294967296) (h2 : t2 < 4294967296) (hf : f < 4294967296) (hs : s < 4294967296) (hf0 : 0 < f) (hle : t0 ≤ f) :
  FnP Tryz.prog tb F_num_guess [.ag [.i .u32 t0, .i .u32 t1, .i .u32 t2], .i .u32 f, .i .u32 s] (.i .u64 (guessN t0 t1 t2 f s)) := by
 refine fn1 Tryz.func185 fun G hG hK hF => ?_
 refine sx 12 ?_
 refine oq (.bitsR (yc := or64 h0 h1)) ?_
 refine sx 6 ?_
 refine dq (.quoR (yc := by omega) (yd := by exact tdivn (by omega))) ?_
 refine sx 9 ?_
 refine wp_l hK (fun ((q, r) : Nat × Nat) => ⟨[(1, .t (.i .u32 f)), (2, .t (.i .u32 s)), (3, .t (.pt (.ag [.i .u32 t0, .i .u32 t1, .i .u32 t2]))), (8, .t (.i .u64 q)), (9, .t (.i .u64 r))], [], 0, 0⟩) (fun (q, r) => q * f + r = t0 * 4294967296 + t1 ∧ r < 4294967296 ∧ q < 18446744073709551616 ∧ guessN t0 t1 t2 f s ≤ q) (fun (q, _) => q) ((4294967296 * t0 + t1) / f, (4294967296 * t0 + t1) % f) ?_ (fun _ => rfl) ?_ ?_
 ·exact guess_init h2 hf0 hf (by omega)
 ·exact il
 ·rintro ⟨q, r⟩ ⟨he, hr, hq64, hlo⟩
  refine wp_s ?_
  by_cases hq : 4294967296 ≤ q
  ·refine sx 17 ?_
   refine wp_c rfl (fun hc => ?_) (fun hc => ?_)
   ·have hlo' : guessN t0 t1 t2 f s ≤ q - 1 := Nat.le_trans (Nat.min_le_right _ _) (by omega)
    have hq0 : 0 < q := by omega
    refine wp_k ?_
    refine then_n ?_
    refine wp_b ?_
    refine rr ?_
    refine om ?_
    refine oq (.arithR (yd := by exact (wrap_u64 (by omega)).trans (by omega : _ = ((q - 1 : Nat) : Int)))) ?_
    refine oa ?_
    refine wo_nil ?_
    refine rr ?_
    refine om ?_
    refine om ?_
    refine oq (.convR (yf := by exact wrap_u64 (by omega))) ?_
    refine oq (.arithR (yd := by exact (wrap_u64 (by omega)).trans (rfl : _ = ((r + f : Nat) : Int)))) ?_
    refine oa ?_
    refine wo_nil ?_
    refine rr ?_
    refine om ?_
    refine oq .cmpR ?_
    refine wo_nil ?_
    refine wp_c rfl (fun hc => ?_) (fun hc => ?_)
    ·have hb : 4294967296 ≤ r + f := by simp at hc; omega
     have hd := dec_eq he hq0
     have hql := guess_q hd rfl h1 hle hb
     refine wp_x ?_
     refine blk_miss rfl ?_
     refine round_exit ?_
     refine blk_hit ?_
     refine then_n ?_
     refine rr ?_
     refine om ?_
     refine oa ?_
     refine wo_nil ?_
     refine wp_rt ?_
     exact ⟨.inr rfl, rfl, (by (refine res_t rfl ?_); (exact tri (congrArg Nat.cast (Nat.le_antisymm (Nat.le_min.2 ⟨guess_hi hf0 hd (guess_s hql hs hb), by omega⟩) hlo')))), trivial⟩
    ·have hb : r + f < 4294967296 := by simp at hc; omega
     refine wp_k ?_
     refine blk_n ?_
     exact round_n (q - 1, r + f) (by exact ⟨dec_eq he hq0, hb, by omega, hlo'⟩) (by (simp only; omega)) (by exact imp_less (by repeat' (first | exact trivial | (refine And.intro (by rfl) ?_))) (by repeat' (exact trivial)) (by exact Nat.le_of_ble_eq_true rfl))
   ·simp at hc
  ·refine sx 7 ?_
   refine gq (z := by (simp; omega)) (.arithR (yd := by exact (wrap_u64 (by have := mul_fit1 (show q < 4294967296 by omega) hs; omega)).trans (rfl : _ = ((q * s : Nat) : Int)))) ?_
   refine sx 5 ?_
   refine gq (z := by (simp; omega)) (.bitsR (yc := or64 hr h2)) ?_
   refine sx 3 ?_
   refine wp_c rfl (fun hc => ?_) (fun hc => ?_)
   ·have hgt : r * 4294967296 + t2 < q * s := by simp at hc; omega
    have hq0 : 0 < q := Nat.pos_of_ne_zero (by rintro rfl; omega)
    have hlo' : guessN t0 t1 t2 f s ≤ q - 1 := Nat.le_trans (Nat.min_le_left _ _) (by have := guess_lo hf0 he hgt; omega)
    refine wp_k ?_
    refine then_n ?_
    refine wp_b ?_
    refine rr ?_
    refine om ?_
    refine oq (.arithR (yd := by exact (wrap_u64 (by omega)).trans (by omega : _ = ((q - 1 : Nat) : Int)))) ?_
    refine oa ?_
    refine wo_nil ?_
    refine rr ?_
    refine om ?_
    refine om ?_
    refine oq (.convR (yf := by exact wrap_u64 (by omega))) ?_
    refine oq (.arithR (yd := by exact (wrap_u64 (by omega)).trans (rfl : _ = ((r + f : Nat) : Int)))) ?_
    refine oa ?_
    refine wo_nil ?_
    refine rr ?_
    refine om ?_
    refine oq .cmpR ?_
    refine wo_nil ?_
    refine wp_c rfl (fun hc => ?_) (fun hc => ?_)
    ·have hb : 4294967296 ≤ r + f := by simp at hc; omega
     have hd := dec_eq he hq0
     have hql := guess_q hd rfl h1 hle hb
     refine wp_x ?_
     refine blk_miss rfl ?_
     refine round_exit ?_
     refine blk_hit ?_
     refine then_n ?_
     refine rr ?_
     refine om ?_
     refine oa ?_
     refine wo_nil ?_
     refine wp_rt ?_
     exact ⟨.inr rfl, rfl, (by (refine res_t rfl ?_); (exact tri (congrArg Nat.cast (Nat.le_antisymm (Nat.le_min.2 ⟨guess_hi hf0 hd (guess_s hql hs hb), by omega⟩) hlo')))), trivial⟩
    ·have hb : r + f < 4294967296 := by simp at hc; omega
     refine wp_k ?_
     refine blk_n ?_
     exact round_n (q - 1, r + f) (by exact ⟨dec_eq he hq0, hb, by omega, hlo'⟩) (by (simp only; omega)) (by exact imp_less (by repeat' (first | exact trivial | (refine And.intro (by rfl) ?_))) (by repeat' (exact trivial)) (by exact Nat.le_of_ble_eq_true rfl))
   ·have hng : q * s ≤ r * 4294967296 + t2 := by simp at hc; omega
    refine sx 10 ?_
    exact ⟨.inr rfl, rfl, (by (refine res_t rfl ?_); (exact tri (congrArg Nat.cast (Nat.le_antisymm (Nat.le_min.2 ⟨guess_hi hf0 he hng, by omega⟩) hlo)))), trivial⟩
end Go.Proofs.YtacenhlcfeepgaaGreat
