/- The law is true whatever its arguments are, and these read behind the call as they read before (the row R8: what it needs beyond the files A; No conditions). -/
import Derived.Test.YtacenhlcfeepgaaGreatA6
import Derived.KernelRfl
set_option linter.unusedVariables false
set_option linter.unusedSimpArgs false
set_option linter.unusedSectionVars false
set_option maxHeartbeats 4000000
set_option maxRecDepth 100000
namespace Go.Proofs.YtacenhlcfeepgaaGreat.Eng
open Go
end Go.Proofs.YtacenhlcfeepgaaGreat.Eng
namespace Go.Proofs.YtacenhlcfeepgaaGreat.Eng
open Go
theorem getl {sl : Slots} {d e : Nat} {a b : List Tr} (h : get sl d = some (.t (.sl e a))) (k : a = b) : get sl d = some (.t (.sl e b)) := k ▸ h
end Go.Proofs.YtacenhlcfeepgaaGreat.Eng
namespace Go.Proofs.YtacenhlcfeepgaaGreat.Eng
open Go
inductive Topo (all : Array Oper) : (Nat → Prop) → List Nat → Prop
 | done (D) : (∀ i, i < all.size → D i) → Topo all D []
 | step (D i o l) : all[i]? = some o → ¬ D i → (∀ p ∈ preds all i, D p) → Topo all (addD D i) l → Topo all D (i :: l)
section
variable {P : Program} {tb : Tab} {G : Gh} {all : Array Oper} {lates : List Nat} {st : Nat → Sta} {hbs : Nat → Heap} {nw : Nat → Option (Nat × Obj)}
theorem wpO_topo {nt : Nat} (ok : DrawOk all nt lates) (hnt : nt = G.nt) (hT : TabOk P tb) (rd : RD P tb all lates st hbs nw) {F : Fence} {Q : Exit → Sta → Prop} (hQ : Q .normal (st all.size)) :
  ∀ (l : List Nat) (D : Nat → Prop) (m : Nat) (a : Act) (w : World) (φ : Phi) (S : Nat → Prop), Topo all D l → J P tb G all lates st hbs nw D m a w φ S → wpO P F all (WPost tb G Q) l a w := by
 have hend : ∀ (D : Nat → Prop) (m : Nat) (a : Act) (w : World) (φ : Phi) (S : Nat → Prop), (∀ i, i < all.size → D i) → J P tb G all lates st hbs nw D m a w φ S → WPost tb G Q .normal a w := by
  intro D m a w φ S hall j
  have hne : ∀ (k : Nat) (p : Oper), m ≤ k → k < all.size → all[k]? = some p → isEff p.op = false := fun k p h1 h2 h3 => j.quiet k (hall k h2) h1 k p h1 (Nat.le_refl _) h3
  obtain ⟨q1, q2, q3, q4, q5⟩ := quiet_to rd all.size (Nat.le_refl _) j.mle hne
  refine ⟨st all.size, φ, S, ⟨j.hp.hr (fun id ob hob => (q4 id ob hob).imp_right fun ⟨k, h1, h2, h3⟩ => ⟨k, h1, hall k h2, h3⟩) fun k hk => j.fr k (by omega) fun x ob hmx hx hnw => ?_, fun d v hv => ?_, j.nt, by rw [q3]; exact j.df, j.kp, j.nc⟩, hQ⟩
  ·have := q5 x k ob hmx (j.dlt x hx) hnw; omega
  ·rcases sl_at rd m d all.size (Nat.le_refl _) j.mle with ⟨h1, h2⟩ | ⟨k, p, h1, h2, h3, h4, h5⟩
   ·exact j.f2 d v (by rw [← h1]; exact hv) (fun k p hk hmk hkp => h2 k p hmk (j.dlt k hk) hkp) fun k p hk hnk _ => absurd (hall k (by have := j.mle; omega)) hnk
   ·exact j.f1 k p d v (hall k h2) h1 h3 h4 (by rw [← h5]; exact hv)
 intro l
 induction l with
 | nil =>
  intro D m a w φ S ht j
  cases ht with | done _ h => exact hend D m a w φ S h j
 | cons i l ih =>
  intro D m a w φ S ht j
  cases ht with
  | step _ _ o _ ho hD hp h =>
   exact ⟨o, ho, J.step ok hnt hT rd j ho hD hp _ fun m' a' w' φ' S' j' => ih _ m' a' w' φ' S' h j'⟩
theorem go_topo (hlt : ∀ (i k : Nat), k ∈ preds all i → k < i) : ∀ (fuel t : Nat) (listed : Array Bool), listed.size = all.size → unlisted listed ≤ fuel → Topo all (fun x => listed.getD x false = true) (Region.linearise.go .any all fuel t listed []) := by
 have hready : ∀ (listed : Array Bool), listed.size = all.size → Region.ready .any all listed = [] → ∀ i, i < all.size → listed.getD i false = true := by
  intro listed hsz hnil i
  induction i using Nat.strongRecOn with
  | _ i ih =>
   intro hi
   cases hl : listed.getD i false with
   | true => rfl
   | false =>
    exfalso
    have hmem : i ∈ Region.ready .any all listed := by
     refine mem_ready.2 ⟨?_, _, Array.getElem?_eq_getElem hi, fun e he hb => ?_⟩
     ·have hil : i < listed.size := by omega
      simp [hil] at hl ⊢; exact hl
     ·have hpk : e.on ∈ preds all i := by
       unfold preds
       rw [Array.getElem?_eq_getElem hi]
       exact List.mem_map.2 ⟨e, List.mem_filter.2 ⟨by simpa using he, hb⟩, rfl⟩
      have := hlt i _ hpk
      exact ih e.on this (by omega)
    rw [hnil] at hmem; cases hmem
 intro fuel
 induction fuel with
 | zero =>
  intro t listed hsz hun
  simp only [Region.linearise.go, List.reverse_nil]
  refine .done _ fun i hi => ?_
  cases hl : listed.getD i false with
  | true => rfl
  | false =>
   exfalso
   have hil : i < listed.size := by omega
   have := unlisted_set hil (by simp [hil] at hl ⊢; exact hl)
   omega
 | succ fuel ih =>
  intro t listed hsz hun
  simp only [Region.linearise.go]
  change Topo all _ (match (Region.ready .any all listed)[t % (Region.ready .any all listed).length]? with
   | some i => Region.linearise.go .any all fuel (t / (Region.ready .any all listed).length) (listed.setIfInBounds i true) [i]
   | none => [].reverse)
  cases hr : (Region.ready .any all listed)[t % (Region.ready .any all listed).length]? with
  | none =>
   have hnil : Region.ready .any all listed = [] := by
    cases hrr : Region.ready .any all listed with
    | nil => rfl
    | cons x xs =>
     rw [hrr] at hr
     have hlt : t % (x :: xs).length < (x :: xs).length := Nat.mod_lt _ (by simp)
     simp at hr
     simp at hlt
     omega
   simp only [List.reverse_nil]
   exact .done _ (hready listed hsz hnil)
  | some i =>
   simp only []
   rw [linearise_go_acc, List.reverse_singleton, List.singleton_append]
   obtain ⟨hli, o, ho, hedge⟩ := mem_ready.1 (List.mem_of_getElem? hr)
   have hi : i < all.size := (Array.getElem?_eq_some_iff.1 ho).1
   have hil : i < listed.size := by omega
   refine .step _ i o _ ho ?_ (fun p hp => ?_) ?_
   ·simp [hil] at hli ⊢; exact hli
   ·unfold preds at hp
    rw [ho] at hp
    obtain ⟨e, he, rfl⟩ := List.mem_map.1 hp
    obtain ⟨he1, he2⟩ := List.mem_filter.1 he
    exact hedge e (by simpa using he1) he2
   ·have hfun : (fun x => (listed.setIfInBounds i true).getD x false = true) = addD (fun x => listed.getD x false = true) i := funext fun x => propext (set_addD listed hil x)
    rw [← hfun]
    exact ih _ _ (by simpa using hsz) (by have := unlisted_set hil hli; omega)
end
def renO (pm : List Nat) (o : Oper) : Oper := { o with after := o.after.map fun e => { e with on := pm.idxOf e.on } }
def permOps (all : Array Oper) (pm : List Nat) : Array Oper := (pm.filterMap fun i => (all[i]?).map (renO pm)).toArray
structure PermOk (all : Array Oper) (pm : List Nat) : Prop where
 len : pm.length = all.size
 at_ : ∀ k, k < all.size → ∃ i, pm[k]? = some i ∧ i < all.size ∧ pm.idxOf i = k
 inv : ∀ i, i < all.size → pm.idxOf i < all.size ∧ pm[pm.idxOf i]? = some i
 gd : ∀ (i : Nat) (o : Oper), all[i]? = some o → o.guard = none
def permOk (all : Array Oper) (pm : List Nat) : Bool :=
 Nat.beq pm.length all.size && ((List.range all.size).all fun k => (match pm[k]? with | some i => Nat.blt i all.size && Nat.beq (pm.idxOf i) k | none => false)) &&
 ((List.range all.size).all fun i => Nat.blt (pm.idxOf i) all.size && pm[pm.idxOf i]? == some i) && all.toList.all fun o => o.guard.isNone
theorem permOk_spec {all : Array Oper} {pm : List Nat} (h : permOk all pm = true) : PermOk all pm := by
 unfold permOk at h
 simp only [Bool.and_eq_true, List.all_eq_true, List.mem_range] at h
 obtain ⟨⟨⟨h1, h2⟩, h3⟩, h4⟩ := h
 refine ⟨Nat.eq_of_beq_eq_true h1, fun k hk => ?_, fun i hi => ?_, fun i o ho => ?_⟩
 ·have := h2 k hk
  split at this
  ·rename_i i hi
   simp only [Bool.and_eq_true] at this
   exact ⟨i, hi, Nat.le_of_ble_eq_true this.1, Nat.eq_of_beq_eq_true this.2⟩
  ·cases this
 ·have := h3 i hi
  exact ⟨Nat.le_of_ble_eq_true this.1, by simpa using this.2⟩
 ·have := h4 o (by
   have h5 := List.mem_of_getElem? (l := all.toList) (i := i) (by simpa using ho)
   exact h5)
  simpa using this
theorem permOps_at {all : Array Oper} {pm : List Nat} (h : PermOk all pm) (k : Nat) : (permOps all pm)[k]? = (pm[k]?).bind fun i => (all[i]?).map (renO pm) := by
 have key : ∀ (l : List Nat), (∀ i ∈ l, i < all.size) → ∀ k : Nat, (l.filterMap fun i => (all[i]?).map (renO pm))[k]? = (l[k]?).bind fun i => (all[i]?).map (renO pm) := by
  intro l
  induction l with
  | nil => intro _ k; simp
  | cons x l ih =>
   intro hl k
   have hx := hl x (by simp)
   have e : (all[x]?).map (renO pm) = some (renO pm all[x]) := by rw [Array.getElem?_eq_getElem hx]; rfl
   have e2 : (x :: l).filterMap (fun i => (all[i]?).map (renO pm)) = renO pm all[x] :: l.filterMap (fun i => (all[i]?).map (renO pm)) := List.filterMap_cons_some (f := fun i => (all[i]?).map (renO pm)) e
   rw [e2]
   cases k with
   | zero => simp [e]
   | succ k => simpa using ih (fun i hi => hl i (by simp [hi])) k
 unfold permOps
 rw [List.getElem?_toArray]
 refine key pm (fun i hi => ?_) k
 obtain ⟨k, hk⟩ := List.mem_iff_getElem?.1 hi
 have hlt := (List.getElem?_eq_some_iff.1 hk).1
 obtain ⟨j, h1, h2, _⟩ := h.at_ k (by rw [← h.len]; exact hlt)
 rw [hk] at h1; injection h1 with h1; omega
theorem permOps_size {all : Array Oper} {pm : List Nat} (h : PermOk all pm) : (permOps all pm).size = all.size := by
 apply Nat.le_antisymm
 ·apply Nat.le_of_not_lt
  intro hn
  have h1 := permOps_at h all.size
  rw [Array.getElem?_eq_getElem hn, List.getElem?_eq_none (by rw [h.len]; exact Nat.le_refl _)] at h1
  cases h1
 ·apply Nat.le_of_not_lt
  intro hn
  obtain ⟨i, h1, h2, _⟩ := h.at_ _ hn
  have h3 := permOps_at h (permOps all pm).size
  rw [h1, Array.getElem?_eq_none (Nat.le_refl _)] at h3
  simp [h2] at h3
theorem permOps_inv {all : Array Oper} {pm : List Nat} (h : PermOk all pm) {i : Nat} {o : Oper} (ho : all[i]? = some o) : (permOps all pm)[pm.idxOf i]? = some (renO pm o) := by
 have hi := (Array.getElem?_eq_some_iff.1 ho).1
 rw [permOps_at h, (h.inv i hi).2, Option.bind_some, ho]; rfl
theorem topo_perm {all : Array Oper} {pm : List Nat} (h : PermOk all pm) : ∀ (l : List Nat) (D : Nat → Prop), (∀ i, D i → i < all.size) → Topo all D l → Topo (permOps all pm) (fun k => ∃ i, D i ∧ k = pm.idxOf i) (l.map fun i => pm.idxOf i)
 | [], D, hD, ht => by
  cases ht with
  | done _ hd =>
   refine .done _ fun k hk => ?_
   rw [permOps_size h] at hk
   obtain ⟨i, h1, h2, h3⟩ := h.at_ k hk
   exact ⟨i, hd i h2, h3.symm⟩
 | i :: l, D, hD, ht => by
  cases ht with
  | step _ _ o _ ho hn hp hr =>
   have hi := (Array.getElem?_eq_some_iff.1 ho).1
   have inj : ∀ j, j < all.size → pm.idxOf i = pm.idxOf j → i = j := fun j hj e => by
    have h1 := (h.inv i hi).2
    rw [e, (h.inv j hj).2] at h1
    injection h1 with h1; exact h1.symm
   refine .step _ _ (renO pm o) _ (permOps_inv h ho) ?_ (fun k hk => ?_) ?_
   ·rintro ⟨j, hj, e⟩
    exact hn ((inj j (hD j hj) e) ▸ hj)
   ·unfold preds at hk
    rw [permOps_inv h ho] at hk
    obtain ⟨e, he, rfl⟩ := List.mem_map.1 hk
    obtain ⟨he1, he2⟩ := List.mem_filter.1 he
    simp only [renO, Array.toList_map, List.mem_map] at he1
    obtain ⟨e0, h1, rfl⟩ := he1
    have hpk : e0.on ∈ preds all i := by
     unfold preds
     rw [ho]
     refine List.mem_map.2 ⟨e0, List.mem_filter.2 ⟨h1, ?_⟩, rfl⟩
     simpa [Region.binds] using he2
    exact ⟨e0.on, hp _ hpk, rfl⟩
   ·have hfun : addD (fun k => ∃ i, D i ∧ k = pm.idxOf i) (pm.idxOf i) = fun k => ∃ j, addD D i j ∧ k = pm.idxOf j := by
     funext k
     refine propext ⟨fun hk => ?_, fun hk => ?_⟩
     ·rcases hk with ⟨j, hj, e⟩ | e
      ·exact ⟨j, .inl hj, e⟩
      ·exact ⟨i, .inr rfl, e⟩
     ·obtain ⟨j, hj | hj, e⟩ := hk
      ·exact .inl ⟨j, hj, e⟩
      ·exact .inr (hj ▸ e)
    rw [hfun]
    exact topo_perm h l _ (fun j hj => by rcases hj with hj | hj; exact hD j hj; exact hj ▸ hi) hr
theorem wpO_perm {P : Program} {F : Fence} {all : Array Oper} {pm : List Nat} {Q : Exit → Act → World → Prop} (h : PermOk all pm) : ∀ (l : List Nat) (a : Act) (w : World), (∀ i ∈ l, i < all.size) → wpO P F (permOps all pm) Q (l.map fun i => pm.idxOf i) a w → wpO P F all Q l a w
 | [], a, w, _, hw => hw
 | i :: l, a, w, hl, hw => by
  have hi := hl i (by simp)
  have ho : all[i]? = some all[i] := Array.getElem?_eq_getElem hi
  obtain ⟨o', h1, h2⟩ := hw
  rw [permOps_inv h ho] at h1
  injection h1 with h1
  subst h1
  have hg := h.gd i _ ho
  have hw1 : ∀ (o : Oper) (y : Nat → Option Bool), o.guard = none → Region.wanted o y = true := fun o y hg => by simp [Region.wanted, hg]
  rw [hw1 _ _ (show (renO pm all[i]).guard = none from hg)] at h2
  refine ⟨all[i], ho, ?_⟩
  rw [hw1 _ _ hg]
  simp only [if_true] at h2 ⊢
  refine ⟨h2.1, ?_⟩
  have h3 := h2.2
  rw [show execOp a.eval (renO pm all[i]) = execOp a.eval all[i] from rfl] at h3
  have key : ∀ (r : Result Next), UponF P (fun v w' => wpO P F (permOps all pm) Q (l.map fun i => pm.idxOf i) (a.put (renO pm all[i]).dst v) w') r → UponF P (fun v w' => wpO P F all Q l (a.put all[i].dst v) w') r := fun r hr => by
   have hm : ∀ v w', wpO P F (permOps all pm) Q (l.map fun i => pm.idxOf i) (a.put (renO pm all[i]).dst v) w' → wpO P F all Q l (a.put all[i].dst v) w' := fun v w' hx => wpO_perm h l _ _ (fun j hj => hl j (by simp [hj])) hx
   unfold UponF at hr ⊢
   split at hr
   ·exact hm _ _ hr
   ·exact hm _ _ hr
   ·exact hr.mono fun e w'' ⟨v, h1, h2⟩ => ⟨v, h1, hm _ _ h2⟩
   ·exact hr.mono fun e w'' ⟨v, h1, h2⟩ => ⟨v, h1, hm _ _ h2⟩
   ·exact hr.elim
  exact key _ h3
theorem topo_lt {all : Array Oper} : ∀ {l : List Nat} {D : Nat → Prop}, Topo all D l → ∀ i ∈ l, i < all.size
 | [], _, _, i, hi => by simp at hi
 | j :: l, D, ht, i, hi => by
  cases ht with
  | step _ _ o _ ho _ _ h =>
   rcases List.mem_cons.1 hi with rfl | hi
   ·exact (Array.getElem?_eq_some_iff.1 ho).1
   ·exact topo_lt h i hi
def ordOk (all : Array Oper) : Bool := (List.range all.size).all fun i => (preds all i).all fun k => Nat.blt k i
theorem ordOk_spec {all : Array Oper} (h : ordOk all = true) : ∀ (i k : Nat), k ∈ preds all i → k < i := fun i k hk => by
 unfold ordOk at h
 simp only [List.all_eq_true, List.mem_range] at h
 have hi : i < all.size := by
  apply Classical.byContradiction
  intro hn
  unfold preds at hk
  rw [Array.getElem?_eq_none (by omega)] at hk
  simp at hk
 exact Nat.le_of_ble_eq_true (h i hi k hk)
theorem dp_core {P : Program} {tb : Tab} {G : Gh} {all : Array Oper} (pm : List Nat) (hT : TabOk P tb) {F : Fence} {s : Sta} {Q : Exit → Sta → Prop} (lates : List Nat) (hpm : permOk all pm = true) (hok : drawOk (permOps all pm) G.nt lates = true)
  (h : WOpsD P tb (permOps all pm) lates (permOps all pm).toList 0 (fun _ => True) s.h s (Q .normal))  {a : Act} {w : World} {φ : Phi} {S : Nat → Prop} (hr : Rel tb G w a φ S s) {D : Nat → Prop} {l : List Nat} (hD0 : ∀ x, D x → False) (htopo : Topo all D l) : wpO P F all (WPost tb G Q) l a w.drew := by
 obtain ⟨st, hbs, nw, h1, h2, h3, h4, _, h6⟩ := wopsD_data _ _ _ _ _ h trivial
 have rd : RD P tb (permOps all pm) lates st hbs nw := ⟨fun i o ho => h3 i o (by simpa using ho), fun i o ho hl => by
  obtain ⟨o', ho', hk, _⟩ := isLate_spec hl
  rw [ho] at ho'; injection ho' with ho'; subst ho'
  have hE := late_noeff (hk.imp (fun x => x) fun h => h.1)
  obtain ⟨z1, z2⟩ := (h3 i o (by simpa using ho)).late (hk.imp (fun x => x) fun h => h.1) hE
  refine ⟨hE, z1, fun k hik hks => ?_⟩
  rcases hk with hk | ⟨_, hk⟩
  ·exact z2 hk _
  ·have := h6 i o (by simpa using ho) (by unfold flag; rw [Nat.zero_add, hk, hE]; rfl) k hik (by simpa using hks)
   rw [z1] at this; exact this⟩
 have ok := drawOk_spec hok
 have hp := permOk_spec hpm
 have hlen : (permOps all pm).toList.length = (permOps all pm).size := by simp
 rw [hlen] at h4
 have hk : Keeps w w.drew φ φ S S := ⟨fun _ _ => rfl, fun _ h => h, fun _ _ h => h, fun _ _ cs ty _ h => ⟨cs, h, rfl⟩⟩
 have hr' : HR tb G w.drew φ S s.h s.nx := hr_val hr.hr (fr_drew _ _) (Gr.refl hr.hr.Slt (Nat.le_refl _))
 have hD1 : ∀ x, (∃ i, D i ∧ x = pm.idxOf i) → False := fun x ⟨i, hi, _⟩ => hD0 i hi
 refine wpO_perm hp _ _ _ (topo_lt htopo) (wpO_topo ok rfl hT rd h4 _ _ 0 a w.drew φ S (topo_perm hp _ _ (fun i hi => (hD0 i hi).elim) htopo) ?_)
 refine ⟨Nat.zero_le _, fun x hx => (hD1 x hx).elim, by rw [h1, h2], fun x hx => by omega, fun x hx => (hD1 x hx).elim, fun x hx => (hD1 x hx).elim, ?_, fun k hk' _ => ?_, hr.nt, ?_, ⟨hr.kp.hw, hr.kp.hS, hr.kp.hφ, hr.kp.hz⟩, hr.nc.trans (NC.of_fr (fr_drew _ _)), fun x _ _ _ hx => (hD1 x hx).elim, fun d v hv _ _ => ?_, fun d v hv _ => by rw [h1] at hv; exact (hr.sl d v hv).mono hk⟩
 ·rw [h1]
  exact (HP.of_hr hr').mono fun id ob h => by
   rcases h with h | ⟨k, _, hx, _⟩
   ·exact h
   ·exact (hD1 k hx).elim
 ·rw [h1] at hk'; exact hr'.fr k hk'
 ·rw [h1]; exact hr.df.keep (fun b o hb _ => hb)
 ·rw [h1] at hv; exact (hr.sl d v hv).mono hk
theorem rep_false {n : Nat} : ∀ x, (Array.replicate n false).getD x false = true → False := fun x hx => by
 simp [Array.getElem?_replicate] at hx
 split at hx <;> simp at hx
end Go.Proofs.YtacenhlcfeepgaaGreat.Eng
namespace Go.Proofs.YtacenhlcfeepgaaGreat.Eng
open Go
def addE (all : Array Oper) (i k : Nat) : Array Oper := (all.toList.mapIdx fun j o => if Nat.beq j i then { o with after := o.after.push { on := k, ground := .data } } else o).toArray
theorem addE_size (all : Array Oper) (i k : Nat) : (addE all i k).size = all.size := by simp [addE]
theorem addE_at (all : Array Oper) (i k j : Nat) : (addE all i k)[j]? = (all[j]?).map fun o => if Nat.beq j i then { o with after := o.after.push { on := k, ground := .data } } else o := by
 simp [addE]
theorem addE_preds {all : Array Oper} {i k j p : Nat} (h : p ∈ preds (addE all i k) j) : p ∈ preds all j ∨ (j = i ∧ p = k) := by
 unfold preds at h ⊢
 rw [addE_at] at h
 cases ho : all[j]? with
 | none => rw [ho] at h; simp at h
 | some o =>
  rw [ho] at h
  simp only [Option.map_some] at h
  obtain ⟨e, he, rfl⟩ := List.mem_map.1 h
  obtain ⟨he1, he2⟩ := List.mem_filter.1 he
  split at he1
  ·rename_i hb
   have hji := Nat.eq_of_beq_eq_true hb
   rw [Array.toList_push, List.mem_append] at he1
   rcases he1 with h1 | h1
   ·exact .inl (List.mem_map.2 ⟨e, List.mem_filter.2 ⟨h1, he2⟩, rfl⟩)
   ·rw [List.mem_singleton] at h1
    exact .inr ⟨hji, by rw [h1]⟩
  ·exact .inl (List.mem_map.2 ⟨e, List.mem_filter.2 ⟨he1, he2⟩, rfl⟩)
theorem topo_addE {all : Array Oper} {i k : Nat} : ∀ (l : List Nat) (D : Nat → Prop), D k → Topo all D l → Topo (addE all i k) D l
 | [], D, _, ht => by
  cases ht with | done _ h => exact .done _ fun j hj => h j (by rw [addE_size] at hj; exact hj)
 | j :: l, D, hk, ht => by
  cases ht with
  | step _ _ o _ ho hn hp h =>
   refine .step _ _ _ _ (by rw [addE_at, ho]; rfl) hn (fun p hpp => ?_) (topo_addE l _ (.inl hk) h)
   rcases addE_preds hpp with h1 | ⟨_, rfl⟩
   ·exact hp p h1
   ·exact hk
theorem topo_split {all : Array Oper} {u v : Nat} (huv : u ≠ v) : ∀ (l : List Nat) (D : Nat → Prop), ¬ D u → ¬ D v → Topo all D l → Topo (addE all u v) D l ∨ Topo (addE all v u) D l
 | [], D, hu, hv, ht => by
  cases ht with
  | done _ h =>
   refine .inl (.done _ fun j hj => h j (by rw [addE_size] at hj; exact hj))
 | j :: l, D, hu, hv, ht => by
  cases ht with
  | step _ _ o _ ho hn hp h =>
   by_cases h1 : j = u
   ·subst h1
    refine .inr (.step _ _ _ _ (by rw [addE_at, ho]; rfl) hn (fun p hpp => ?_) (topo_addE l _ (.inr rfl) h))
    rcases addE_preds hpp with h2 | ⟨e, _⟩
    ·exact hp p h2
    ·exact absurd e huv
   ·by_cases h2 : j = v
    ·subst h2
     refine .inl (.step _ _ _ _ (by rw [addE_at, ho]; rfl) hn (fun p hpp => ?_) (topo_addE l _ (.inr rfl) h))
     rcases addE_preds hpp with h3 | ⟨e, _⟩
     ·exact hp p h3
     ·exact absurd e.symm huv
    ·have hu' : ¬ addD D j u := by rintro (h3 | h3); exact hu h3; exact h1 h3.symm
     have hv' : ¬ addD D j v := by rintro (h3 | h3); exact hv h3; exact h2 h3.symm
     rcases topo_split huv l _ hu' hv' h with h3 | h3
     ·refine .inl (.step _ _ _ _ (by rw [addE_at, ho]; rfl) hn (fun p hpp => ?_) h3)
      rcases addE_preds hpp with h4 | ⟨e, _⟩
      ·exact hp p h4
      ·exact absurd e h1
     ·refine .inr (.step _ _ _ _ (by rw [addE_at, ho]; rfl) hn (fun p hpp => ?_) h3)
      rcases addE_preds hpp with h4 | ⟨e, _⟩
      ·exact hp p h4
      ·exact absurd e h2
theorem wpO_addE {P : Program} {F : Fence} {all : Array Oper} {i k : Nat} {Q : Exit → Act → World → Prop} (hg : ∀ (j : Nat) (o : Oper), all[j]? = some o → o.guard = none) : ∀ (l : List Nat) (a : Act) (w : World), wpO P F (addE all i k) Q l a w → wpO P F all Q l a w
 | [], a, w, hw => hw
 | j :: l, a, w, hw => by
  obtain ⟨o', h1, h2⟩ := hw
  rw [addE_at] at h1
  obtain ⟨o, ho, rfl⟩ := Option.map_eq_some_iff.1 h1
  have hw1 : ∀ (o : Oper) (y : Nat → Option Bool), o.guard = none → Region.wanted o y = true := fun o y hg => by simp [Region.wanted, hg]
  have hgo := hg j o ho
  have hop : ∀ (b : Bool) (X : Array Edge), (if b then { o with after := X } else o : Oper).op = o.op ∧ (if b then { o with after := X } else o : Oper).dst = o.dst ∧ (if b then { o with after := X } else o : Oper).guard = o.guard ∧ ∀ ρ, execOp ρ (if b then { o with after := X } else o : Oper) = execOp ρ o := fun b X => by cases b <;> exact ⟨rfl, rfl, rfl, fun ρ => rfl⟩
  obtain ⟨e1, e2, e3, e4⟩ := hop (Nat.beq j i) (o.after.push { on := k, ground := .data })
  rw [hw1 _ _ (e3.trans hgo), e4, e2] at h2
  simp only [if_true, e1] at h2
  refine ⟨o, ho, ?_⟩
  rw [hw1 _ _ hgo]
  simp only [if_true]
  refine ⟨h2.1, ?_⟩
  have hm : ∀ v w', wpO P F (addE all i k) Q l (a.put o.dst v) w' → wpO P F all Q l (a.put o.dst v) w' := fun v w' hx => wpO_addE hg l _ _ hx
  have key : ∀ (r : Result Next), UponF P (fun v w' => wpO P F (addE all i k) Q l (a.put o.dst v) w') r → UponF P (fun v w' => wpO P F all Q l (a.put o.dst v) w') r := fun r hr => by
   unfold UponF at hr ⊢
   split at hr
   ·exact hm _ _ hr
   ·exact hm _ _ hr
   ·exact hr.mono fun e w'' ⟨v, h1, h2⟩ => ⟨v, h1, hm _ _ h2⟩
   ·exact hr.mono fun e w'' ⟨v, h1, h2⟩ => ⟨v, h1, hm _ _ h2⟩
   ·exact hr.elim
  exact key _ h2.2
theorem wp_dq0 {P : Program} {tb : Tab} {G : Gh} {n id : Nat} {all : Array Oper} (u v : Nat) (pm1 pm2 : List Nat) (hT : TabOk P tb) {F : Fence} (hF : Wd F) (hm : P.follows .mixedOrders = true) (hG : G.nt = n) {s : Sta} {Q : Exit → Sta → Prop} (l1 l2 : List Nat) (huv : Nat.beq u v = false) (hord : ordOk all = true)
  (hp1 : permOk (addE all u v) pm1 = true) (hp2 : permOk (addE all v u) pm2 = true) (ho1 : drawOk (permOps (addE all u v) pm1) n l1 = true) (ho2 : drawOk (permOps (addE all v u) pm2) n l2 = true)
  (h1 : WOpsD P tb (permOps (addE all u v) pm1) l1 (permOps (addE all u v) pm1).toList 0 (fun _ => True) s.h s (Q .normal))
  (h2 : WOpsD P tb (permOps (addE all v u) pm2) l2 (permOps (addE all v u) pm2).toList 0 (fun _ => True) s.h s (Q .normal)) : WP P tb G F (.region id all true) s Q := by
 rw [← hG] at ho1 ho2
 intro n a w φ S hr
 refine wpO_region_draw hF fun t => ?_
 simp only [Region.schedule, hm, Bool.true_or, if_true]
 have hg : ∀ (j : Nat) (o : Oper), all[j]? = some o → o.guard = none := fun j o ho => by
  have := (permOk_spec hp1).gd j _ (by rw [addE_at, ho]; rfl)
  split at this <;> exact this
 have ht := go_topo (ordOk_spec hord) all.size t (Array.replicate all.size false) (by simp) (by unfold unlisted; exact Nat.le_trans List.countP_le_length (by simp))
 have hne : u ≠ v := fun e => by rw [e, Nat.beq_refl] at huv; cases huv
 rcases topo_split hne _ _ (fun h => rep_false _ h) (fun h => rep_false _ h) ht with h | h
 ·exact wpO_addE hg _ _ _ (dp_core pm1 hT l1 hp1 ho1 h1 hr rep_false h)
 ·exact wpO_addE hg _ _ _ (dp_core pm2 hT l2 hp2 ho2 h2 hr rep_false h)
end Go.Proofs.YtacenhlcfeepgaaGreat.Eng
namespace Go.Proofs.YtacenhlcfeepgaaGreat
open Go Eng
namespace Eng
end Eng
abbrev F_law03_QpolyRoots : Nat := 9
abbrev F_ref02_Neg : Nat := 52
abbrev F_ref02_Cmp : Nat := 67
abbrev F_ref01_Cmp : Nat := 137
end Go.Proofs.YtacenhlcfeepgaaGreat
namespace Go.Proofs.YtacenhlcfeepgaaGreat
namespace Poly
section
variable {R : Type} [i0 : CRing R] [DecidableEq R]
theorem cst_add (a b : R) : cst (a + b) = cst a + cst b := ext fun i => by rw [co_add, co_cst, co_cst, co_cst]; split <;> grind
theorem cst_one : cst (1 : R) = 1 := rfl
end
end Poly
example (p q : Poly Rat) : (p + q) * (p - q) = p * p - q * q := by grind
end Go.Proofs.YtacenhlcfeepgaaGreat
namespace Go.Proofs.YtacenhlcfeepgaaGreat
namespace Poly
section
variable {F : Type} [Fld F] [DecidableEq F]
theorem monic_ne {p : Poly F} (h : p ≠ 0) : monic p ≠ 0 := mul_ne (cst_ne (finv_ne (lead_ne h))) h
theorem one_ne : (1 : Poly F) ≠ 0 := cst_ne fone_ne
theorem gcd_mon {p q : Poly F} (h : ¬ (p = 0 ∧ q = 0)) : Mon (gcd p q) := by
 refine monic_Mon fun e => h ?_
 have : gcd p q = 0 := by rw [gcd, e, monic_zero]
 exact gcd_zero_iff.1 this
end
end Poly
end Go.Proofs.YtacenhlcfeepgaaGreat
namespace Go.Proofs.YtacenhlcfeepgaaGreat
namespace Poly
section
variable {R : Type} [i0 : CRing R] [DecidableEq R]
theorem eval_cst (a x : R) : (cst a).eval x = a := by rw [cst, eval_of, evalL, evalL]; grind
theorem eval_neg (p : Poly R) (x : R) : (-p).eval x = - p.eval x := by
 have h : (-p + p).eval x = 0 := by
  have : -p + p = 0 := by grind
  rw [this, eval_zero]
 rw [eval_add] at h; grind
theorem eval_sub (p q : Poly R) (x : R) : (p - q).eval x = p.eval x - q.eval x := by
 have : p - q = p + -q := by grind
 rw [this, eval_add, eval_neg]; grind
theorem deriv_add (p q : Poly R) : deriv (p + q) = deriv p + deriv q := ext fun i => by rw [co_deriv, co_add, co_add, co_deriv, co_deriv]; grind
theorem deriv_cX (a : R) (p : Poly R) : deriv (cst a + X * p) = p + X * deriv p := ext fun i => by
 rw [co_deriv, co_add, co_cst, co_X_mul, co_add, co_X_mul]
 rw [if_neg (by omega), if_neg (by omega), Nat.add_sub_cancel]
 cases i with
 | zero =>
  rw [if_pos rfl, nc_succ]
  have : (nc 0 : R) = 0 := rfl
  rw [this]; grind
 | succ i => rw [if_neg (by omega), Nat.add_sub_cancel, co_deriv, nc_succ (i + 1)]; grind
theorem deriv_cst (a : R) : deriv (cst a) = 0 := ext fun i => by rw [co_deriv, co_cst, if_neg (by omega), co_zero]; grind
theorem deriv_mul (p q : Poly R) : deriv (p * q) = deriv p * q + p * deriv q := by
 revert p
 apply ind
 ·rw [zero_mul', deriv_zero]; grind
 ·intro a p ih
  have e : (cst a + X * p) * q = cst a * q + (cst 0 + X * (p * q)) := by rw [cst_zero]; grind
  have e2 : deriv (cst a * q) = cst a * deriv q := ext fun i => by rw [co_deriv, cst_mul, cst_mul, co_deriv]; grind
  rw [e, deriv_add, deriv_cX, ih, e2, deriv_cX]; grind
end
end Poly
end Go.Proofs.YtacenhlcfeepgaaGreat
namespace Go.Proofs.YtacenhlcfeepgaaGreat
def choose : Nat → Nat → Nat
 | _, 0 => 1
 | 0, _ + 1 => 0
 | n + 1, k + 1 => choose n k + choose n (k + 1)
theorem choose_zero (n : Nat) : choose n 0 = 1 := by cases n <;> rfl
theorem choose_gt : ∀ (n k : Nat), n < k → choose n k = 0
 | 0, k + 1, _ => rfl
 | n + 1, k + 1, h => by rw [choose, choose_gt n k (by omega), choose_gt n (k + 1) (by omega)]
theorem choose_up : ∀ (n m : Nat), m ≤ n → (m + 1) * choose n (m + 1) = (n - m) * choose n m
  | 0, m, h => by obtain rfl : m = 0 := by omega
                  rfl
  | n + 1, 0, _ => by
    have := choose_up n 0 (Nat.zero_le _)
    show (0 + 1) * (choose n 0 + choose n (0 + 1)) = (n + 1 - 0) * choose (n + 1) 0
    rw [choose_zero] at this
    rw [choose_zero, choose_zero]
    omega
  | n + 1, m + 1, h => by
    rw [choose, choose]
    by_cases h1 : m + 1 ≤ n
    · have h2 := choose_up n m (by omega)
      have h3 := choose_up n (m + 1) h1
      obtain ⟨d, hd⟩ : ∃ d, n = m + 1 + d := ⟨n - (m + 1), by omega⟩
      rw [show n - m = d + 1 by omega] at h2
      rw [show n - (m + 1) = d by omega] at h3
      rw [show n + 1 - (m + 1) = d + 1 by omega]
      generalize choose n m = a at *
      generalize choose n (m + 1) = b at *
      generalize choose n (m + 1 + 1) = c at *
      rw [Nat.mul_add, Nat.mul_add, h3]
      have e : (m + 1 + 1) * b = (m + 1) * b + b := by rw [Nat.succ_mul]
      rw [e, h2, Nat.add_mul d 1 b]
      omega
    · obtain rfl : m = n := by omega
      rw [choose_gt m (m + 1) (by omega), choose_gt m (m + 1 + 1) (by omega)]
      simp
theorem choose_down (n m : Nat) (h : m ≤ n) : (n + 1) * choose n m = (n + 1 - m) * choose (n + 1) m := by
 cases m with
 | zero => rw [choose_zero, choose_zero]; omega
 | succ m =>
  rw [choose]
  have h2 := choose_up n m (by omega)
  obtain ⟨d, hd⟩ : ∃ d, n = m + 1 + d := ⟨n - (m + 1), by omega⟩
  rw [show n - m = d + 1 by omega] at h2
  rw [show n + 1 - (m + 1) = d + 1 by omega, Nat.mul_add, ← h2, show n + 1 = (m + 1) + (d + 1) by omega, Nat.add_mul]
theorem choose_dvd {L : Nat} : ∀ (m n : Nat), m + 1 ≤ n → (∀ k, 1 ≤ k → k ≤ n → k ∣ L) → (m + 1) * choose n (m + 1) ∣ L
 | 0, n, h, hL => by
  have := choose_up n 0 (Nat.zero_le _)
  rw [choose_zero] at this
  rw [show (0 + 1) * choose n (0 + 1) = n by omega]
  exact hL n (by omega) (Nat.le_refl _)
 | m + 1, n, h, hL => by
  obtain ⟨b, hb⟩ := choose_dvd m n (by omega) hL
  obtain ⟨r, hr⟩ : ∃ r, n = r + 1 := ⟨n - 1, by omega⟩
  subst hr
  obtain ⟨a, ha⟩ := choose_dvd m r (by omega) (fun k h1 h2 => hL k h1 (by omega))
  have h1 := choose_up (r + 1) (m + 1) (by omega)
  have h2 := choose_down r (m + 1) (by omega)
  -- h1: (m+2) C(r+1, m+2) = (r+1-(m+1)) C(r+1, m+1);  h2: (r+1) C(r, m+1) = (r+1-(m+1)) C(r+1,m+1)
  generalize choose (r + 1) (m + 1) = F at *
  generalize choose r (m + 1) = G at *
  generalize (m + 1 + 1) * choose (r + 1) (m + 1 + 1) = H at *
  obtain ⟨d, hd⟩ : ∃ d, r + 1 = (m + 1) + d := ⟨r + 1 - (m + 1), by omega⟩
  rw [show r + 1 - (m + 1) = d by omega] at h1 h2
  -- (m+1) H = d (m+1) F,  a (m+1) G = L, b (m+1) F = L
  have e1 : (m + 1) * (a * H) = (r + 1) * L := by
   rw [h1, ← h2, ha]; simp only [Nat.mul_comm, Nat.mul_left_comm, Nat.mul_assoc]
  have e2 : (m + 1) * (b * H) = d * L := by
   rw [h1, hb]; simp only [Nat.mul_comm, Nat.mul_left_comm, Nat.mul_assoc]
  rw [hd, Nat.add_mul (m + 1) d L, ← e2, ← Nat.mul_add] at e1
  have e3 := Nat.eq_of_mul_eq_mul_left (Nat.succ_pos m) e1
  refine ⟨a - b, ?_⟩
  rw [Nat.mul_sub, Nat.mul_comm H a, Nat.mul_comm H b]
  omega
theorem choose_big (t : Nat) : ∀ m : Nat, m < t → 3 * t * 2 ^ m ≤ (m + 1) * choose (3 * t) (m + 1)
 | 0, h => by
  have := choose_up (3 * t) 0 (Nat.zero_le _)
  rw [choose_zero] at this
  simp at this ⊢
  omega
 | m + 1, h => by
  have ih := choose_big t m (by omega)
  have h1 := choose_up (3 * t) (m + 1) (by omega)
  rw [h1]
  have h2 : 2 * (m + 1) ≤ 3 * t - (m + 1) := by omega
  have h3 := Nat.mul_le_mul_right (choose (3 * t) (m + 1)) h2
  rw [Nat.pow_succ]
  generalize choose (3 * t) (m + 1) = c at *
  generalize 2 ^ m = p at *
  have e : 3 * t * (p * 2) = 3 * t * p * 2 := by rw [Nat.mul_assoc, Nat.mul_assoc, Nat.mul_assoc]
  rw [e]
  rw [Nat.mul_assoc] at h3
  omega
def Prime (p : Nat) : Prop := 2 ≤ p ∧ ∀ d, 2 ≤ d → d < p → ¬ d ∣ p
theorem exists_prime : ∀ (n k : Nat), k ≤ n → 2 ≤ k → ∃ p, Prime p ∧ p ∣ k
 | 0, k, h, h2 => by omega
 | n + 1, k, h, h2 => by
  by_cases hp : Prime k
  ·exact ⟨k, hp, Nat.dvd_refl k⟩
  ·have : ∃ d, 2 ≤ d ∧ d < k ∧ d ∣ k := by
    apply Classical.byContradiction
    intro hn
    exact hp ⟨h2, fun d h3 h4 h5 => hn ⟨d, h3, h4, h5⟩⟩
   obtain ⟨d, h3, h4, h5⟩ := this
   obtain ⟨p, h6, h7⟩ := exists_prime n d (by omega) h3
   exact ⟨p, h6, Nat.dvd_trans h7 h5⟩
theorem dvd_pow_of {N B : Nat} (h : ∀ p, Prime p → p ≤ B → p ∣ N) : ∀ (e k : Nat), 1 ≤ k → k ≤ B → k < 2 ^ e → k ∣ N ^ e
  | 0, k, h1, h2, h3 => by obtain rfl : k = 1 := by simp at h3; omega
                           exact Nat.one_dvd _
  | e + 1, k, h1, h2, h3 => by
    by_cases hk : k = 1
    · subst hk; exact Nat.one_dvd _
    · obtain ⟨p, hp, r, hr⟩ := exists_prime k k (Nat.le_refl _) (by omega)
      have hp2 := hp.1
      have hr1 : 1 ≤ r := by
        rcases Nat.eq_zero_or_pos r with h0 | h0
        · rw [h0, Nat.mul_zero] at hr; omega
        · exact h0
      have hpk : p ≤ k := by rw [hr]; exact Nat.le_mul_of_pos_right _ hr1
      have h4 : 2 * r ≤ k := by rw [hr]; exact Nat.mul_le_mul_right r hp2
      rw [Nat.pow_succ] at h3
      have ih := dvd_pow_of h e r hr1 (by omega) (by omega)
      rw [Nat.pow_succ, hr, Nat.mul_comm p r]
      exact Nat.mul_dvd_mul ih (h p hp (by omega))
theorem prime_ndvd {N t e : Nat} (hN : N ≠ 0) (ht : 1 ≤ t) (he : 3 * t < 2 ^ e) (hs : N ^ e < 3 * t * 2 ^ (t - 1)) : ∃ p, Prime p ∧ p ≤ 3 * t ∧ ¬ p ∣ N := by
 apply Classical.byContradiction
 intro hn
 have h1 : ∀ p, Prime p → p ≤ 3 * t → p ∣ N := fun p hp hl => by
  apply Classical.byContradiction
  intro h2
  exact hn ⟨p, hp, hl, h2⟩
 have h2 := choose_dvd (L := N ^ e) (t - 1) (3 * t) (by omega) (fun k h3 h4 => dvd_pow_of h1 e k h3 h4 (by omega))
 have h3 := choose_big t (t - 1) (by omega)
 have h4 := Nat.le_of_dvd (Nat.pos_of_ne_zero (fun h0 => hN (Nat.pow_eq_zero.1 h0).1)) h2
 omega
end Go.Proofs.YtacenhlcfeepgaaGreat
namespace Go.Proofs.YtacenhlcfeepgaaGreat
theorem pigeon : ∀ (m n : Nat) (f : Nat → Nat), (∀ i, i < n → f i < m) → m < n → ∃ i j, i < j ∧ j < n ∧ f i = f j
 | 0, n, f, h, hn => by have := h 0 (by omega); omega
 | m + 1, n, f, h, hn => by
  obtain ⟨r, hr⟩ : ∃ r, n = r + 1 := ⟨n - 1, by omega⟩
  subst hr
  by_cases hex : ∃ i, i < r ∧ f i = f r
  ·obtain ⟨i, h1, h2⟩ := hex
   exact ⟨i, r, h1, by omega, h2⟩
  ·have hne : ∀ i, i < r → f i ≠ f r := fun i hi e => hex ⟨i, hi, e⟩
   have hl := h r (by omega)
   obtain ⟨i, j, h1, h2, h3⟩ := pigeon m r (fun i => if f r < f i then f i - 1 else f i) (fun i hi => by
    have h4 := h i (by omega)
    have h5 := hne i hi
    show (if f r < f i then f i - 1 else f i) < m
    split <;> omega) (by omega)
   refine ⟨i, j, h1, by omega, ?_⟩
   have h4 := hne i (by omega)
   have h5 := hne j h2
   split at h3 <;> split at h3 <;> omega
def encB (b : Nat) : Nat → (Nat → Nat) → Nat
 | 0, _ => 0
 | M + 1, y => y 0 + b * encB b M fun k => y (k + 1)
theorem encB_lt {b : Nat} (hb : 0 < b) : ∀ (M : Nat) (y : Nat → Nat), (∀ k, k < M → y k < b) → encB b M y < b ^ M
 | 0, y, _ => by simp [encB]
 | M + 1, y, h => by
  have h1 := encB_lt hb M (fun k => y (k + 1)) (fun k hk => h (k + 1) (by omega))
  have h2 := h 0 (by omega)
  rw [encB, Nat.pow_succ, Nat.mul_comm (b ^ M) b]
  have h3 : b * (encB b M (fun k => y (k + 1)) + 1) ≤ b * b ^ M := Nat.mul_le_mul_left b h1
  rw [Nat.mul_add] at h3
  omega
theorem encB_inj {b : Nat} : ∀ (M : Nat) (y z : Nat → Nat), (∀ k, k < M → y k < b) → (∀ k, k < M → z k < b) → encB b M y = encB b M z → ∀ k, k < M → y k = z k
 | 0, _, _, _, _, _, k, hk => by omega
 | M + 1, y, z, hy, hz, he, k, hk => by
  rw [encB, encB] at he
  have h1 := hy 0 (by omega)
  have h2 := hz 0 (by omega)
  have e1 := congrArg (· % b) he
  simp only [Nat.add_mul_mod_self_left, Nat.mod_eq_of_lt h1, Nat.mod_eq_of_lt h2] at e1
  cases k with
  | zero => exact e1
  | succ k =>
   rw [e1] at he
   have e2 := Nat.eq_of_mul_eq_mul_left (show 0 < b by omega) (Nat.add_left_cancel he)
   exact encB_inj M _ _ (fun k hk => hy (k + 1) (by omega)) (fun k hk => hz (k + 1) (by omega)) e2 k (by omega)
def digB (b c i : Nat) : Nat := c / b ^ i % b
theorem digB_succ (b c i : Nat) : digB b (c / b) i = digB b c (i + 1) := by
 rw [digB, digB, Nat.div_div_eq_div_mul, Nat.pow_succ, Nat.mul_comm b]
theorem digB_inj {b : Nat} (hb : 0 < b) : ∀ (N c d : Nat), c < b ^ N → d < b ^ N → (∀ i, i < N → digB b c i = digB b d i) → c = d
 | 0, c, d, h1, h2, _ => by simp at h1 h2; omega
 | N + 1, c, d, h1, h2, h => by
  have h0 := h 0 (by omega)
  rw [digB, digB, Nat.pow_zero, Nat.div_one, Nat.div_one] at h0
  have h3 := digB_inj hb N (c / b) (d / b) (by rw [Nat.div_lt_iff_lt_mul hb, ← Nat.pow_succ]; exact h1) (by rw [Nat.div_lt_iff_lt_mul hb, ← Nat.pow_succ]; exact h2) fun i hi => by
   rw [digB_succ, digB_succ]; exact h (i + 1) (by omega)
  rw [← Nat.div_add_mod c b, ← Nat.div_add_mod d b, h0, h3]
def sumI : Nat → (Nat → Int) → Int
 | 0, _ => 0
 | n + 1, f => sumI n f + f n
theorem sumI_sub (f g : Nat → Int) : ∀ n, sumI n (fun i => f i - g i) = sumI n f - sumI n g
 | 0 => rfl
 | n + 1 => by rw [sumI, sumI, sumI, sumI_sub f g n]; omega
theorem sumI_congr {f g : Nat → Int} : ∀ n, (∀ i, i < n → f i = g i) → sumI n f = sumI n g
 | 0, _ => rfl
 | n + 1, h => by rw [sumI, sumI, sumI_congr n (fun i hi => h i (by omega)), h n (by omega)]
theorem sumI_abs {f : Nat → Int} {C : Nat} : ∀ n, (∀ i, i < n → (f i).natAbs ≤ C) → (sumI n f).natAbs ≤ n * C
 | 0, _ => by simp [sumI]
 | n + 1, h => by
  have h1 := sumI_abs n (fun i hi => h i (by omega))
  have h2 := h n (by omega)
  rw [sumI, Nat.succ_mul]
  omega
theorem siegel {N M B : Nat} (A : Nat → Nat → Int) (hM : M < N) (hA : ∀ k i, (A k i).natAbs ≤ B) :
  ∃ x : Nat → Int, (∃ i, i < N ∧ x i ≠ 0) ∧ (∀ i, (x i).natAbs ≤ (2 * (N * B) + 1) ^ M) ∧ ∀ k, k < M → sumI N (fun i => A k i * x i) = 0 := by
 obtain ⟨H, hH⟩ : ∃ H, H = (2 * (N * B) + 1) ^ M := ⟨_, rfl⟩
 have hH1 : 1 ≤ H := by rw [hH]; exact Nat.one_le_pow _ _ (by omega)
 obtain ⟨T, hT⟩ : ∃ T, T = N * (B * H) := ⟨_, rfl⟩
 let v : Nat → Nat → Int := fun c k => sumI N fun i => A k i * (digB (H + 1) c i : Nat)
 have hd : ∀ c i, digB (H + 1) c i ≤ H := fun c i => by
  have := Nat.mod_lt (c / (H + 1) ^ i) (show H + 1 > 0 by omega)
  show c / (H + 1) ^ i % (H + 1) ≤ H
  omega
 have hv : ∀ c k, (v c k).natAbs ≤ T := fun c k => by
  rw [hT]
  refine sumI_abs N fun i _ => ?_
  rw [Int.natAbs_mul, Int.natAbs_natCast]
  exact Nat.mul_le_mul (hA k i) (hd c i)
 have hcount : (2 * T + 1) ^ M < (H + 1) ^ N := by
  have h1 : 2 * T + 1 ≤ (2 * (N * B) + 1) * H := by
   rw [hT, Nat.add_mul, ← Nat.mul_assoc N B H, Nat.mul_assoc 2 (N * B) H]; omega
  have h2 := Nat.pow_le_pow_left h1 M
  rw [Nat.mul_pow, ← hH] at h2
  have h3 : H * H ^ M = H ^ (M + 1) := by rw [Nat.pow_succ, Nat.mul_comm]
  rw [h3] at h2
  have h4 : H ^ (M + 1) ≤ H ^ N := Nat.pow_le_pow_right hH1 hM
  have h5 : H ^ N < (H + 1) ^ N := Nat.pow_lt_pow_left (by omega) (by omega)
  omega
 obtain ⟨c, d, h1, h2, h3⟩ := pigeon ((2 * T + 1) ^ M) ((H + 1) ^ N) (fun c => encB (2 * T + 1) M fun k => (v c k + T).toNat) (fun c _ => encB_lt (by omega) M _ fun k _ => by have := hv c k; omega) hcount
 have h4 := encB_inj M _ _ (fun k _ => by have := hv c k; omega) (fun k _ => by have := hv d k; omega) h3
 refine ⟨fun i => (digB (H + 1) c i : Int) - (digB (H + 1) d i : Int), ?_, fun i => ?_, fun k hk => ?_⟩
 ·apply Classical.byContradiction
  intro hn
  have := digB_inj (b := H + 1) (by omega) N c d (by omega) h2 fun i hi => by
   apply Classical.byContradiction
   intro hne
   exact hn ⟨i, hi, show (digB (H + 1) c i : Int) - (digB (H + 1) d i : Int) ≠ 0 by omega⟩
  omega
 ·have := hd c i
  have := hd d i
  rw [← hH]
  show ((digB (H + 1) c i : Int) - (digB (H + 1) d i : Int)).natAbs ≤ H
  omega
 ·have h5 := h4 k hk
  have h6 := hv c k
  have h7 := hv d k
  have h8 : v c k = v d k := by omega
  have h9 := sumI_sub (fun i => A k i * (digB (H + 1) c i : Nat)) (fun i => A k i * (digB (H + 1) d i : Nat)) N
  have h10 : sumI N (fun i => A k i * (digB (H + 1) c i : Nat)) = v c k := rfl
  have h11 : sumI N (fun i => A k i * (digB (H + 1) d i : Nat)) = v d k := rfl
  rw [h10, h11, h8, Int.sub_self] at h9
  rw [← h9]
  exact sumI_congr N fun i _ => by rw [Int.mul_sub]
end Go.Proofs.YtacenhlcfeepgaaGreat
namespace Go.Proofs.YtacenhlcfeepgaaGreat
open Go Eng
theorem ref01_Cmp (a b : Int) : FnP Tryz.prog tb F_ref01_Cmp [encI a, encI b] (.i .i64 (if a < b then -1 else if a = b then 0 else 1)) := by
 refine fn1 Tryz.func137 fun G hG hK hF => ?_
 refine sx 16 ?_
 refine wp_c rfl (fun hc => ?_) (fun hc => ?_)
 ·simp [isW_enc] at hc
 ·refine sx 10 ?_
  refine wp_c rfl (fun hc => ?_) (fun hc => ?_)
  ·have hs : ¬ (a < 0 ↔ b < 0) := by simpa using hc
   refine sx 5 ?_
   refine wp_c rfl (fun hc => ?_) (fun hc => ?_)
   ·have hn : a < 0 := by simpa using hc
    refine sx 6 ?_
    exact ⟨.inr rfl, rfl, (by (refine res_t rfl ?_); (rw [if_pos (by omega)])), trivial⟩
   ·have hn : ¬ a < 0 := by simpa using hc
    refine sx 7 ?_
    exact ⟨.inr rfl, rfl, (by (refine res_t rfl ?_); (rw [if_neg (by omega), if_neg (by omega)])), trivial⟩
  ·have hs : (a < 0 ↔ b < 0) := by simpa using hc
   refine sx 15 ?_
   refine wp_c rfl (fun hc => ?_) (fun hc => ?_)
   ·have hn : a < 0 := by simpa using hc
    refine sx 2 ?_
    refine oq (.negR (yb := by exact wrap_i64 (by unfold cmpN; split; decide; split <;> decide))) ?_
    refine sx 4 ?_
    exact ⟨.inr rfl, rfl, (by (refine res_t rfl ?_); (unfold cmpN; split; (rw [if_neg (by omega), if_neg (by omega)]; rfl); split; (rw [if_neg (by omega), if_pos (by omega)]; rfl); (rw [if_pos (by omega)]; rfl))), trivial⟩
   ·have hn : ¬ a < 0 := by simpa using hc
    refine sx 7 ?_
    exact ⟨.inr rfl, rfl, (by (refine res_t rfl ?_); (unfold cmpN; split; (rw [if_pos (by omega)]); split; (rw [if_neg (by omega), if_pos (by omega)]); (rw [if_neg (by omega), if_neg (by omega)]))), trivial⟩
end Go.Proofs.YtacenhlcfeepgaaGreat
namespace Go.Proofs.YtacenhlcfeepgaaGreat
open Go Eng
theorem ref02_Neg (p : Rat) : FnP Tryz.prog tb F_ref02_Neg [encQ p] (encQ (-p)) := by
 refine fn1 Tryz.func52 fun G hG hK hF => ?_
 refine sx 7 ?_
 refine dq (.callR (yb := as1) (yc := ref01_Neg p.num)) ?_
 refine sx 6 ?_
 exact ⟨.inr rfl, rfl, (by (refine res_c rfl rfl rfl rfl rfl ?_); (rfl)), trivial⟩
theorem ref02_Cmp (p q : Rat) (hp16 : Bq 274877906944 p := by first | assumption | (apply Bq.le; (focus (repeat' (first | assumption | apply Bq.mul | apply Bq.add | apply Bq.sub | apply Bq.neg | apply Bq.div | apply Bq.inv | exact Bq.zero | exact Bq.one | exact Bq.small (by omega)))); omega)) (hq16 : Bq 274877906944 q := by first | assumption | (apply Bq.le; (focus (repeat' (first | assumption | apply Bq.mul | apply Bq.add | apply Bq.sub | apply Bq.neg | apply Bq.div | apply Bq.inv | exact Bq.zero | exact Bq.one | exact Bq.small (by omega)))); omega)) : FnP Tryz.prog tb F_ref02_Cmp [encQ p, encQ q] (.i .i64 (cmpQ p q)) := by
 refine fn1 Tryz.func67 fun G hG hK hF => ?_
 obtain ⟨p1, p2⟩ := hp16.fi
 obtain ⟨q1, q2⟩ := hq16.fi
 refine sx 6 ?_
 by_cases h1 : (p.den : Int) = 1
 ·refine sx 10 ?_
  refine wp_c rfl (fun hc => ?_) (fun hc => ?_)
  ·have h2 : (q.den : Int) = 1 := by simpa using hc
   refine sx 5 ?_
   refine oq (.callR (yb := asc (.inl rfl) as1) (yc := ref01_Cmp p.num q.num)) ?_
   refine sx 4 ?_
   exact ⟨.inr rfl, rfl, (by (refine res_t rfl ?_); (rw [← cmpQ_eq, h1, h2, Int.mul_one, Int.mul_one]; rfl)), trivial⟩
  ·refine sx 17 ?_
   exact ⟨.inr rfl, rfl, (by (refine res_t rfl ?_); (rw [← cmpQ_eq]; rfl)), trivial⟩
 ·refine sx 10 ?_
  refine wp_cF rfl (by rfl) ?_
  refine sx 17 ?_
  exact ⟨.inr rfl, rfl, (by (refine res_t rfl ?_); (rw [← cmpQ_eq]; rfl)), trivial⟩
end Go.Proofs.YtacenhlcfeepgaaGreat
namespace Go.Proofs.YtacenhlcfeepgaaGreat
open Go Eng
theorem qpoly_RootsZ : FnP Tryz.prog tb F_qpoly_Roots [.sl T_Rat []] (.tu [.sl T_Rat [], .i .i64 5]) := by
 refine fnP_MT tbOk Tryz.func66 rfl rfl (Nat.le_of_ble_eq_true rfl) rfl fun G hG hK => ?_
 have hF : Wd Fence.wide := .inl rfl
 refine sx 11 ?_
 refine wp_cT rfl (by rfl) ?_
 refine sx 6 ?_
 exact ⟨.inr rfl, (by (refine res_nl rfl ?_); (rfl)), (by (refine res_t rfl ?_); (rfl)), trivial⟩
theorem qpoly_Roots1 (p : Pol) (hp : p.len = 1) (hs : sizeI (primN p) ≤ 4000) {w : Nat} (hpB : CDB w p) (hw : w ≤ 100) : FnP Tryz.prog tb F_qpoly_Roots [encP p] (.tu [.sl T_Rat [], .i .i64 0]) := by
 have hpl : p.len = p.c.length := rfl
 have hp0 : p ≠ 0 := fun e => by rw [e, Poly.len_zero] at hp; omega
 refine fnP_MT tbOk Tryz.func66 rfl rfl (Nat.le_of_ble_eq_true rfl) rfl fun G hG hK => ?_
 have hF : Wd Fence.wide := .inl rfl
 refine sx 11 ?_
 refine wp_cF rfl (by refine beq_false_of_ne ?_; omega) ?_
 refine sx 26 ?_
 refine wp_cF rfl (by refine decide_eq_false ?_; omega) ?_
 refine sx 8 ?_
 refine wp_cT rfl (by rw [hp]; rfl) ?_
 refine sx 6 ?_
 exact ⟨.inr rfl, (by (refine res_nl rfl ?_); (rfl)), (by (refine res_t rfl ?_); (rfl)), trivial⟩
end Go.Proofs.YtacenhlcfeepgaaGreat
namespace Go.Proofs.YtacenhlcfeepgaaGreat
open Go Eng
theorem gtF {p : Prop} [Decidable p] (h : ¬ p) : (decide p == false) = true := by simp [h]
theorem gtS' {p : Prop} [Decidable p] (h : p) : (decide p == false) = false := by simp [h]
end Go.Proofs.YtacenhlcfeepgaaGreat
namespace Go.Proofs.YtacenhlcfeepgaaGreat
open Go Eng
structure SB (n k : Nat) (p : Pol) : Prop where
 c : CDB n p
 l : p.len ≤ k
theorem SB.of {n k : Nat} {p : Pol} (h : PB n p) (hl : p.len ≤ k) : SB (k * (n + 2) + 1) k p := ⟨h.cdb.le (by have := Nat.mul_le_mul_right (n + 2) hl; omega), hl⟩
theorem rmulS {n k m l : Nat} {p q : Pol} (h : SB n k p) (g : SB m l q) (hs : 1 + k * (n + m + 1) ≤ 274877906944 := by decide) (hk : k + l ≤ 2199023255552 := by decide) : FnP Tryz.prog tb F_ref03_Mul [encP p, encP q] (encP (p * q)) :=
 ref03_Mul p q h.c.pb g.c.pb (by have := Nat.mul_le_mul_right (n + m + 1) h.l; omega) (by have := h.l; have := g.l; omega)
end Go.Proofs.YtacenhlcfeepgaaGreat
namespace Go.Proofs.YtacenhlcfeepgaaGreat
open Go Eng
theorem gcdIs_mul (l : List Int) (g : Int) : gcdIs (l.map (· * g)) = gcdIs l * g.natAbs := by
 suffices h : ∀ (l : List Int) (a : Int), (l.map (· * g)).foldl (fun a x => (Int.gcd a x : Int)) (a * g.natAbs) = l.foldl (fun a x => (Int.gcd a x : Int)) a * g.natAbs by
  have := h l 0
  rw [Int.zero_mul] at this; exact this
 intro l
 induction l with
 | nil => intro a; rfl
 | cons y l ih =>
  intro a
  rw [List.map_cons, List.foldl_cons, List.foldl_cons, ← ih]
  congr 1
  have : (a * (g.natAbs : Int)).gcd (y * g) = a.gcd y * g.natAbs := by
   show Nat.gcd (a * (g.natAbs : Int)).natAbs (y * g).natAbs = Nat.gcd a.natAbs y.natAbs * g.natAbs
   rw [Int.natAbs_mul, Int.natAbs_mul, Int.natAbs_natCast, Nat.gcd_mul_right]
  rw [this]; exact Int.natCast_mul _ _
theorem primG_abs (p : Pol) : (primG p).natAbs = (gcdIs (numsQ p.c)).natAbs := by
 unfold primG; split <;> simp
theorem primG_dvd {p : Pol} {x : Int} (h : x ∈ numsQ p.c) : primG p ∣ x := by
 rw [← Int.natAbs_dvd, primG_abs, Int.natAbs_dvd]; exact gcdIs_dvd _ x h
theorem numsQ_len (l : List Rat) : (numsQ l).length = l.length := by simp [numsQ]
theorem primN_at {p : Pol} {i : Nat} (hi : i < p.len) : (primN p)[i]? = some ((numsQ p.c).getD i 0 / primG p) := by
 have : i < p.c.length := hi
 simp [primN, this]
theorem numsQ_mem {l : List Rat} {i : Nat} (hi : i < l.length) : (numsQ l).getD i 0 ∈ numsQ l := by
 rw [List.getD_eq_getElem?_getD, List.getElem?_eq_getElem (by rw [numsQ_len]; exact hi)]
 exact List.getElem_mem _
theorem primN_mul {p : Pol} {i : Nat} {x : Int} (hx : (primN p)[i]? = some x) : x * primG p = (numsQ p.c).getD i 0 ∧ i < p.len := by
 have hi : i < p.len := by
  have := (List.getElem?_eq_some_iff.1 hx).1
  rw [primN_len] at this; exact this
 rw [primN_at hi] at hx
 injection hx with hx
 subst hx
 exact ⟨Int.ediv_mul_cancel (primG_dvd (numsQ_mem hi)), hi⟩
theorem numsQ_rat {l : List Rat} {i : Nat} {q : Rat} (h : l[i]? = some q) : (((numsQ l).getD i 0 : Int) : Rat) = q * (lcmQ l : Int) := by
 have e : (numsQ l).getD i 0 = q.num * (lcmQ l / q.den) := by simp [numsQ, List.getD_eq_getElem?_getD, h]
 obtain ⟨k, hk⟩ : ((q.den : Nat) : Int) ∣ lcmQ l := lcmI_dvd _ (List.mem_map.2 ⟨q, List.mem_of_getElem? h, rfl⟩)
 have hd : ((q.den : Nat) : Int) ≠ 0 := den_ne q
 have hq : q = (q.num : Rat) / ((q.den : Int) : Rat) := by rw [← Rat.divInt_eq_div]; exact (Rat.num_divInt_den q).symm
 have hd2 : ((q.den : Int) : Rat) ≠ 0 := fun e => hd (by have := congrArg Rat.num e; rw [Rat.num_intCast] at this; exact this)
 rw [e, hk, Int.mul_ediv_cancel_left _ hd, Rat.intCast_mul, Rat.intCast_mul]
 generalize ((q.den : Int) : Rat) = d at *
 generalize (q.num : Rat) = n at *
 rw [hq]; grind
theorem primC_mul {p : Pol} (hp : p ≠ 0) {i : Nat} {x : Int} {y : Rat} (hx : (primN p)[i]? = some x) (hy : p.c[i]? = some y) : primC p * (x : Rat) = y := by
 obtain ⟨h1, h2⟩ := primN_mul hx
 have h3 := numsQ_rat hy
 rw [← h1, Rat.intCast_mul] at h3
 have hL : (((lcmQ p.c : Int)) : Rat) ≠ 0 := fun e => by
  have := congrArg Rat.num e
  rw [Rat.num_intCast] at this
  have h := lcmQ_pos p.c
  rw [this] at h; exact absurd h (by decide)
 rw [primC, Rat.divInt_eq_div]
 generalize ((lcmQ p.c : Int) : Rat) = L at *
 generalize ((primG p : Int) : Rat) = G at *
 grind
theorem primN_nums (p : Pol) : (primN p).map (· * primG p) = numsQ p.c := by
 refine List.ext_getElem? fun i => ?_
 rw [List.getElem?_map]
 cases hx : (primN p)[i]? with
 | none =>
  have := List.getElem?_eq_none_iff.1 hx
  rw [List.getElem?_eq_none (by rw [numsQ_len]; rw [primN_len] at this; exact this)]; rfl
 | some x =>
  obtain ⟨h1, h2⟩ := primN_mul hx
  have h3 : i < (numsQ p.c).length := by rw [numsQ_len]; exact h2
  rw [List.getD_eq_getElem?_getD, List.getElem?_eq_getElem h3] at h1
  rw [List.getElem?_eq_getElem h3, Option.map_some, h1]; rfl
theorem gcdIs_nonneg (l : List Int) : 0 ≤ gcdIs l := by
 suffices h : ∀ (l : List Int) (a : Int), 0 ≤ a → 0 ≤ l.foldl (fun a x => (Int.gcd a x : Int)) a from h l 0 (Int.le_refl 0)
 intro l
 induction l with
 | nil => intro a h; exact h
 | cons y l ih => intro a _; exact ih _ (Int.natCast_nonneg _)
theorem primN_gcd {p : Pol} (hp : p ≠ 0) : gcdIs (primN p) = 1 := by
 have h := gcdIs_mul (primN p) (primG p)
 rw [primN_nums, primG_abs, Int.natAbs_of_nonneg (gcdIs_nonneg _)] at h
 have h0 := (primG_ne hp).1
 exact Int.eq_of_mul_eq_mul_right h0 (by omega)
theorem primN_pos {p : Pol} (hp : p ≠ 0) {x : Int} (hx : (primN p)[p.len - 1]? = some x) : 0 < x := by
 obtain ⟨h1, h2⟩ := primN_mul hx
 have h3 : p.c[p.c.length - 1]? = some p.lead := by
  have : p.c.length - 1 < p.c.length := by have : p.len = p.c.length := rfl; omega
  rw [cf_at this]; rfl
 have h4 := numsQ_ne h3 (Poly.lead_ne hp)
 have h5 := (primG_ne hp).1
 have h6 := gcdIs_nonneg (numsQ p.c)
 rw [show p.len = p.c.length from rfl] at h1
 apply Classical.byContradiction
 intro hn
 unfold primG at h1
 split at h1
 ·have := Int.mul_nonneg_of_nonpos_of_nonpos (show x ≤ 0 by omega) (show -gcdIs (numsQ p.c) ≤ 0 by omega)
  omega
 ·have := Int.mul_nonpos_of_nonpos_of_nonneg (show x ≤ 0 by omega) h6
  omega
theorem ref02_IsT (q : Rat) (h : Bq 4398046511104 q) : FnP Tryz.prog tb F_ref02_Is [encQ q] (.b true) := by
 have := ref02_Is (rawR q).1.1 (rawR q).2.1 (rawR q).1.2 (rawR q).2.2 (digits_words _) (digits_words _) h.1 h.2
 rw [show isQ (rawR q).1.1 (rawR q).1.2 (rawR q).2.1 (rawR q).2.2 = true from isR_raw q] at this; exact this
end Go.Proofs.YtacenhlcfeepgaaGreat
namespace Go.Proofs.YtacenhlcfeepgaaGreat
open Go Eng
def Cop (p q : Pol) : Prop := ∃ s t, s * p + t * q = 1
theorem Cop.symm {p q : Pol} (h : Cop p q) : Cop q p := by obtain ⟨s, t, h⟩ := h; exact ⟨t, s, by rw [← h]; grind⟩
theorem Cop.dvd {p q x : Pol} (h : Cop p q) (k : p ∣ q * x) : p ∣ x := by
 obtain ⟨s, t, h⟩ := h
 obtain ⟨r, hr⟩ := k
 refine ⟨s * x + t * r, ?_⟩
 have : x = (s * p + t * q) * x := by rw [h]; grind
 rw [this]; grind
theorem Cop.pow {p q : Pol} (h : Cop p q) : ∀ k : Nat, Cop p (q ^ k)
 | 0 => ⟨0, 1, by rw [Poly.pow_z]; grind⟩
 | k + 1 => by
  obtain ⟨s, t, h1⟩ := h
  obtain ⟨s', t', h2⟩ := Cop.pow ⟨s, t, h1⟩ k
  refine ⟨s * (s' * p + t' * q ^ k) + t * q * s', t * t', ?_⟩
  rw [Poly.pow_s]
  have : (1 : Pol) = (s * p + t * q) * (s' * p + t' * q ^ k) := by rw [h1, h2]; grind
  rw [this]; generalize q ^ k = Q at *; grind
theorem len_one {p : Pol} (h0 : p ≠ 0) (h : p.len ≤ 1) (hm : Poly.Mon p) : p = 1 := by
 have h1 := Poly.len_one_cst h
 have h2 : p.lead = p.co 0 := by rw [Poly.lead]; congr 1; omega
 rw [h1, ← h2, hm]; rfl
theorem cop_of_gcd {p q : Pol} (h0 : ¬ (p = 0 ∧ q = 0)) (h : (p.gcd q).len ≤ 1) : Cop p q := by
 have h1 := len_one (fun e => h0 (Poly.gcd_zero_iff.1 e)) h (Poly.gcd_mon h0)
 obtain ⟨u, v, h2⟩ := (Poly.gcd_is p q).comb
 exact ⟨u, v, by rw [← h2, h1]⟩
structure Irr (e : Pol) : Prop where
 l : 1 < e.len
 d : ∀ d, d ∣ e → d.len ≤ 1 ∨ e.len ≤ d.len
theorem Irr.ne {e : Pol} (h : Irr e) : e ≠ 0 := fun h0 => by have := h.l; rw [h0, Poly.len_zero] at this; omega
theorem exists_irr : ∀ (n : Nat) (p : Pol), p.len ≤ n → 1 < p.len → ∃ e, Irr e ∧ e ∣ p
 | 0, p, h, h1 => by omega
 | n + 1, p, h, h1 => by
  by_cases hd : ∃ d, d ∣ p ∧ 1 < d.len ∧ d.len < p.len
  ·obtain ⟨d, h2, h3, h4⟩ := hd
   obtain ⟨e, h5, h6⟩ := exists_irr n d (by omega) h3
   exact ⟨e, h5, Poly.dvd_trans h6 h2⟩
  ·refine ⟨p, ⟨h1, fun d hdp => ?_⟩, Poly.dvd_refl p⟩
   apply Classical.byContradiction
   intro hn
   exact hd ⟨d, hdp, by omega, by omega⟩
theorem Irr.cop {e x : Pol} (hi : Irr e) (h : ¬ e ∣ x) : Cop e x := by
 have hg := Poly.gcd_is e x
 rcases hi.d _ hg.left with h1 | h1
 ·exact cop_of_gcd (fun e => hi.ne e.1) h1
 ·exfalso
  obtain ⟨s, hs⟩ := hg.left
  have hg0 : e.gcd x ≠ 0 := fun e0 => hi.ne (Poly.gcd_zero_iff.1 e0).1
  have hs0 : s ≠ 0 := fun e0 => hi.ne (by rw [hs, e0, Poly.mul_z])
  have h2 := (Poly.len_mul hg0 hs0).1
  rw [← hs] at h2
  have h3 := Poly.len_pos hs0
  have h4 := Poly.len_pos hg0
  have h5 := Poly.len_one_cst (show s.len ≤ 1 by omega)
  have h6 : s.co 0 ≠ 0 := fun e0 => hs0 (by rw [h5, e0]; rfl)
  refine h (Poly.dvd_trans ⟨Poly.cst (1 / s.co 0), ?_⟩ hg.right)
  have h7 := Poly.cst_inv h6
  rw [h5] at hs
  have : e.gcd x = e.gcd x * (Poly.cst (1 / s.co 0) * Poly.cst (s.co 0)) := by rw [h7]; grind
  rw [this]
  generalize Poly.cst (1 / s.co 0) = c1 at *
  generalize Poly.cst (s.co 0) = c2 at *
  generalize e.gcd x = g at *
  subst hs
  grind
theorem rat_nat_ne {n : Nat} (h : n ≠ 0) : ((n : Nat) : Rat) ≠ 0 := fun e => by
 have := congrArg Rat.num e
 rw [Rat.num_natCast] at this
 exact h (Int.natCast_eq_zero.1 this)
theorem Irr.deriv {e : Pol} (hi : Irr e) : ¬ e ∣ e.deriv := fun h => by
 have hl := hi.l
 have h1 : e.deriv.co (e.len - 2) ≠ 0 := by
  rw [Poly.co_deriv, nc_rat, show e.len - 2 + 1 = e.len - 1 by omega]
  exact Poly.fmul_ne (rat_nat_ne (by omega)) (Poly.lead_ne hi.ne)
 have h2 : e.deriv ≠ 0 := fun e0 => h1 (by rw [e0, Poly.co_zero])
 have h3 := Poly.dvd_len h h2
 have h4 : e.deriv.len ≤ e.len - 1 := Poly.len_le fun i hi => by rw [Poly.co_deriv, Poly.co_ge (by omega)]; grind
 omega
theorem deriv_pow (e : Pol) : ∀ k : Nat, (e ^ (k + 1)).deriv = Poly.cst ((k + 1 : Nat) : Rat) * e ^ k * e.deriv
 | 0 => by rw [Poly.pow_s, Poly.pow_z, show (1 : Pol) * e = e by grind, show Poly.cst ((0 + 1 : Nat) : Rat) = (1 : Pol) from rfl]; grind
 | k + 1 => by
  rw [Poly.pow_s, Poly.deriv_mul, deriv_pow e k]
  have : Poly.cst ((k + 1 + 1 : Nat) : Rat) = Poly.cst ((k + 1 : Nat) : Rat) + 1 := by
   rw [← Poly.cst_one, ← Poly.cst_add]; congr 1
   rw [← nc_rat, Poly.nc_succ, nc_rat]
  rw [this, Poly.pow_s]
  generalize Poly.cst ((k + 1 : Nat) : Rat) = c
  generalize e ^ k = E
  grind
theorem exists_mult {e : Pol} (he : 1 < e.len) : ∀ (n : Nat) (f : Pol), f.len ≤ n → f ≠ 0 → ∃ (m : Nat) (h : Pol), f = e ^ m * h ∧ ¬ e ∣ h
 | 0, f, h, h0 => by have := Poly.len_pos h0; omega
 | n + 1, f, h, h0 => by
  by_cases hd : e ∣ f
  ·obtain ⟨s, hs⟩ := hd
   have hs0 : s ≠ 0 := fun e0 => h0 (by rw [hs, e0, Poly.mul_z])
   have he0 : e ≠ 0 := fun e0 => by rw [e0, Poly.len_zero] at he; omega
   have h2 := (Poly.len_mul he0 hs0).1
   rw [← hs] at h2
   obtain ⟨m, t, h3, h4⟩ := exists_mult he n s (by omega) hs0
   exact ⟨m + 1, t, by rw [hs, h3, Poly.pow_s]; generalize e ^ m = E; grind, h4⟩
  ·exact ⟨0, f, by rw [Poly.pow_z]; grind, hd⟩
theorem pow_ne {e : Pol} (h : e ≠ 0) : ∀ k : Nat, e ^ k ≠ 0
 | 0 => Poly.one_ne
 | k + 1 => by rw [Poly.pow_s]; exact Poly.mul_ne (pow_ne h k) h
section
variable {f g a : Pol}
structure Rad (f g a : Pol) : Prop where
 f0 : f ≠ 0
 m : a * g = f
 g : f.gcd f.deriv = g
theorem Rad.irr (h : Rad f g a) {e : Pol} (hi : Irr e) (hf : e ∣ f) : e ∣ a ∧ ¬ e * e ∣ a := by
 obtain ⟨m, t, h1, h2⟩ := exists_mult hi.l f.len f (Nat.le_refl _) h.f0
 cases m with
 | zero => rw [Poly.pow_z] at h1; exact absurd (by rw [h1, show (1 : Pol) * t = t by grind] at hf; exact hf) h2
 | succ k =>
  have hg := Poly.gcd_is f f.deriv
  rw [h.g] at hg
  have hd : f.deriv = e ^ k * (Poly.cst ((k + 1 : Nat) : Rat) * e.deriv * t + e * t.deriv) := by
   rw [h1, Poly.deriv_mul, deriv_pow, Poly.pow_s]
   generalize Poly.cst ((k + 1 : Nat) : Rat) = c
   generalize e ^ k = E
   grind
  have hk := pow_ne hi.ne k
  have hm := h.m
  refine ⟨?_, ?_⟩
  ·apply Classical.byContradiction
   intro hn
   have h3 : Cop (e ^ (k + 1)) a := (((hi.cop hn).symm).pow (k + 1)).symm
   have h4 : e ^ (k + 1) ∣ g := h3.dvd ⟨t, by rw [hm, h1]⟩
   obtain ⟨r, h5⟩ := Poly.dvd_trans h4 hg.right
   rw [hd, Poly.pow_s] at h5
   have h6 : e ^ k * (Poly.cst ((k + 1 : Nat) : Rat) * e.deriv * t + e * t.deriv) = e ^ k * (e * r) := by rw [h5]; generalize e ^ k = E; grind
   have h7 := Poly.mul_cancel hk h6
   have h8 : e ∣ t * (Poly.cst ((k + 1 : Nat) : Rat) * e.deriv) := ⟨r - t.deriv, by
    generalize Poly.cst ((k + 1 : Nat) : Rat) * e.deriv = X at *
    grind⟩
   have h9 := (hi.cop h2).dvd h8
   have h10 : Cop e (Poly.cst ((k + 1 : Nat) : Rat)) := ⟨0, Poly.cst (1 / ((k + 1 : Nat) : Rat)), by
    have := Poly.cst_inv (rat_nat_ne (show k + 1 ≠ 0 by omega))
    rw [this]; grind⟩
   exact hi.deriv (h10.dvd h9)
  ·rintro ⟨s, hs⟩
   obtain ⟨r, hr⟩ : e ^ k ∣ g := hg.dvd ⟨e * t, by rw [h1, Poly.pow_s]; generalize e ^ k = E; grind⟩ ⟨_, hd⟩
   rw [hs, hr, h1, Poly.pow_s] at hm
   have h6 : (e ^ k * e) * (e * (s * r)) = (e ^ k * e) * t := by rw [← hm]; generalize e ^ k = E; grind
   exact h2 ⟨s * r, (Poly.mul_cancel (Poly.mul_ne hk hi.ne) h6).symm⟩
theorem Rad.sqf (h : Rad f g a) : Cop a a.deriv := by
 have ha : a ≠ 0 := fun e => h.f0 (by rw [← h.m, e]; grind)
 refine cop_of_gcd (fun e => ha e.1) ?_
 apply Classical.byContradiction
 intro hn
 obtain ⟨e, hi, hd⟩ := exists_irr _ (a.gcd a.deriv) (Nat.le_refl _) (by omega)
 have hg := Poly.gcd_is a a.deriv
 have h1 := Poly.dvd_trans hd hg.left
 obtain ⟨h2, h3⟩ := h.irr hi (Poly.dvd_trans h1 ⟨g, h.m.symm⟩)
 obtain ⟨s, hs⟩ := h1
 obtain ⟨r, hr⟩ := Poly.dvd_trans hd hg.right
 have h4 : e ∣ e.deriv * s := ⟨r - s.deriv, by rw [hs, Poly.deriv_mul] at hr; grind⟩
 obtain ⟨q, hq⟩ := (hi.cop hi.deriv).dvd h4
 exact h3 ⟨q, by rw [hs, hq]; grind⟩
theorem Rad.pow (h : Rad f g a) : ∀ (n : Nat) (u : Pol), u.len ≤ n → u ∣ f → ∃ k : Nat, u ∣ a ^ k
 | 0, u, hl, hu => by
  have h0 := Poly.eq_zero_of_len (show u.len = 0 by omega)
  rw [h0] at hu
  exact absurd (Poly.zero_dvd hu) h.f0
 | n + 1, u, hl, hu => by
  by_cases h1 : u.len ≤ 1
  ·have h2 := Poly.len_one_cst h1
   have hu0 : u ≠ 0 := fun e => by rw [e] at hu; exact h.f0 (Poly.zero_dvd hu)
   have h3 : u.co 0 ≠ 0 := fun e => hu0 (by rw [h2, e]; rfl)
   exact ⟨0, Poly.cst (1 / u.co 0), by rw [Poly.pow_z, h2, Poly.co_cst, if_pos rfl, Poly.mul_comm', Poly.cst_inv h3]⟩
  ·obtain ⟨e, hi, s, hs⟩ := exists_irr _ u (Nat.le_refl _) (by omega)
   have hu0 : u ≠ 0 := fun e => by rw [e] at hu; exact h.f0 (Poly.zero_dvd hu)
   have hs0 : s ≠ 0 := fun e0 => hu0 (by rw [hs, e0, Poly.mul_z])
   have h2 := (Poly.len_mul hi.ne hs0).1
   rw [← hs] at h2
   have h3 := hi.l
   obtain ⟨h4, _⟩ := h.irr hi (Poly.dvd_trans ⟨s, hs⟩ hu)
   obtain ⟨k, q, hq⟩ := Rad.pow h n s (by omega) (Poly.dvd_trans ⟨e, by rw [hs]; grind⟩ hu)
   obtain ⟨r, hr⟩ := h4
   refine ⟨k + 1, q * r, ?_⟩
   rw [Poly.pow_s, hq, hs]
   generalize a ^ k = A at *
   rw [hr]; grind
end
structure Sq (a g : Pol) : Prop where
 s : Cop a a.deriv
 p : ∃ k : Nat, g ∣ a ^ k
 a : Poly.Mon a
 g : Poly.Mon g
theorem mon_div {a c : Pol} (ha : Poly.Mon a) (hc : Poly.Mon c) (h : c ∣ a) : Poly.Mon (a / c) ∧ a / c * c = a := by
 have h1 := Poly.div_mul_of_dvd hc.ne h
 refine ⟨?_, h1⟩
 have h2 : a / c ≠ 0 := fun e => ha.ne (by rw [← h1, e]; grind)
 have h3 := (Poly.len_mul h2 hc.ne).2
 rw [h1, hc, ha] at h3
 show (a / c).lead = 1
 grind
theorem Sq.step {a g : Pol} (h : Sq a g) : Sq (a.gcd g) (g / a.gcd g) ∧ Poly.Mon (a / a.gcd g) ∧ a / a.gcd g * a.gcd g = a ∧ g / a.gcd g * a.gcd g = g := by
 have hc := Poly.gcd_mon (p := a) (q := g) (fun e => h.a.ne e.1)
 have hg := Poly.gcd_is a g
 obtain ⟨d1, d2⟩ := mon_div h.a hc hg.left
 obtain ⟨e1, e2⟩ := mon_div h.g hc hg.right
 generalize a.gcd g = c at *
 generalize a / c = d at *
 generalize g / c = e at *
 obtain ⟨u, v, hs⟩ := h.s
 -- c and d are coprime
 have hcd : Cop c d := by
  refine cop_of_gcd (fun e => hc.ne e.1) ?_
  have k := Poly.gcd_is c d
  have k0 : c.gcd d ≠ 0 := fun e => hc.ne (Poly.gcd_zero_iff.1 e).1
  generalize c.gcd d = x at *
  obtain ⟨c1, hc1⟩ := k.left
  obtain ⟨d1, hd1⟩ := k.right
  have hx : x ∣ 1 := ⟨u * (d1 * x * c1) + v * (d1.deriv * x * c1 + d1 * (x.deriv * c1 + x.deriv * c1 + x * c1.deriv)), by
   rw [← hs, ← d2, hc1, hd1, Poly.deriv_mul, Poly.deriv_mul, Poly.deriv_mul]; grind⟩
  have := Poly.dvd_len hx Poly.one_ne
  rw [Poly.one_len] at this; exact this
 have hgd : Cop g d := by
  refine cop_of_gcd (fun e => h.g.ne e.1) ?_
  have k := Poly.gcd_is g d
  have k1 : g.gcd d ∣ c := hg.dvd (Poly.dvd_trans k.right ⟨c, d2.symm⟩) k.left
  obtain ⟨s, t, k2⟩ := hcd
  have k3 : g.gcd d ∣ 1 := by
   rw [← k2]; exact Poly.dvd_add (Poly.dvd_mul_left s k1) (Poly.dvd_mul_left t k.right)
  have := Poly.dvd_len k3 Poly.one_ne
  rw [Poly.one_len] at this; exact this
 refine ⟨⟨⟨u * d + v * d.deriv, v * d, by rw [← hs, ← d2, Poly.deriv_mul]; grind⟩, ?_, hc, e1⟩, d1, d2, e2⟩
 obtain ⟨k, hk⟩ := h.p
 have h1 : ∀ k : Nat, a ^ k = d ^ k * c ^ k := by
  intro k
  induction k with
  | zero => rw [Poly.pow_z, Poly.pow_z, Poly.pow_z]; grind
  | succ k ih => rw [Poly.pow_s, Poly.pow_s, Poly.pow_s, ih]; generalize d ^ k = D; generalize c ^ k = C; rw [← d2]; grind
 refine ⟨k, Poly.dvd_trans ⟨c, e2.symm⟩ ((hgd.pow k).dvd ?_)⟩
 rw [← h1]; exact hk
def prodL : List Pol → Pol
 | [] => 1
 | x :: l => x * prodL l
def prodP : List Pol → Nat → Pol
 | [], _ => 1
 | x :: l, s => x ^ (s + 1) * prodP l (s + 1)
theorem prodP_s : ∀ (l : List Pol) (s : Nat), prodP l (s + 1) = prodP l s * prodL l
 | [], s => by simp only [prodP, prodL]; grind
 | x :: l, s => by
  simp only [prodP, prodL]
  rw [prodP_s l (s + 1), Poly.pow_s x (s + 1)]
  generalize x ^ (s + 1) = X
  generalize prodP l (s + 1) = Y
  grind
structure SqL (a g : Pol) (l : List Pol) : Prop where
 m : ∀ x ∈ l, Poly.Mon x
 p : prodL l = a
 q : prodP l 0 = a * g
 z : ∀ x, l.getLast? = some x → 1 < x.len
theorem sqfAux_is : ∀ (n : Nat) (a g : Pol), Sq a g → a.len + g.len ≤ n → SqL a g (Poly.sqfAux n a g)
 | 0, a, g, h, hn => by have := Poly.len_pos h.a.ne; omega
 | n + 1, a, g, h, hn => by
  rw [Poly.sqfAux]
  split
  ·rename_i h1
   have ha := len_one h.a.ne h1 h.a
   have hg : g = 1 := by
    obtain ⟨k, hk⟩ := h.p
    have h2 : ∀ k : Nat, (1 : Pol) ^ k = 1 := by
     intro k
     induction k with
     | zero => rfl
     | succ k ih => rw [Poly.pow_s, ih]; grind
    rw [ha, h2] at hk
    have := Poly.dvd_len hk Poly.one_ne
    rw [Poly.one_len] at this
    exact len_one h.g.ne this h.g
   exact ⟨fun x hx => by simp at hx, by rw [ha]; rfl, by rw [ha, hg]; simp only [prodP]; grind, fun x hx => by simp at hx⟩
  ·rename_i h1
   obtain ⟨k1, k2, k3, k4⟩ := h.step
   obtain ⟨_, _, h5⟩ := Poly.sqf_step (show 1 < a.len by omega) h.g.ne
   have ih := sqfAux_is n _ _ k1 (by omega)
   generalize Poly.sqfAux n (a.gcd g) (g / a.gcd g) = l at *
   generalize a.gcd g = c at *
   generalize a / c = d at *
   generalize g / c = e at *
   refine ⟨fun x hx => ?_, ?_, ?_, fun x hx => ?_⟩
   ·rcases List.mem_cons.1 hx with rfl | hx
    ·exact k2
    ·exact ih.m x hx
   ·rw [prodL, ih.p, k3]
   ·rw [prodP, prodP_s, ih.q, ih.p, Poly.pow_s, Poly.pow_z, ← k3]
    have : (1 : Pol) * d * (c * e * c) = d * c * (e * c) := by grind
    rw [this, k4]
   ·cases l with
    | nil =>
     have h6 : (1 : Pol) = c := ih.p
     simp at hx
     subst hx
     rw [← h6, show d * 1 = d by grind] at k3
     rw [k3]; omega
    | cons y t => rw [List.getLast?_cons_cons] at hx; exact ih.z x hx
theorem sqf_is (p : Pol) (hp : p ≠ 0) : ∃ a g, SqL a g p.sqf ∧ a * g = p.monic ∧ Cop a a.deriv := by
 have hm0 := Poly.monic_ne hp
 have hmon := Poly.monic_Mon hp
 have hgc : p.gcd p.deriv = p.monic.gcd p.monic.deriv := by
  have h1 : p.monic.deriv = Poly.cst (1 / p.lead) * p.deriv := by rw [Poly.monic, Poly.deriv_mul, Poly.deriv_cst]; grind
  rw [h1]
  have hl := Poly.lead_ne hp
  have h2 := Poly.cst_inv hl
  refine (((Poly.gcd_is p p.deriv).assoc ⟨(Poly.monic_dvd p).2, (Poly.monic_dvd p).1⟩ ⟨⟨Poly.cst (1 / p.lead), by grind⟩, ⟨Poly.cst p.lead, ?_⟩⟩).unique).symm.trans ?_ |>.symm
  ·generalize Poly.cst (1 / p.lead) = c1 at *
   generalize Poly.cst p.lead = c2 at *
   have : p.deriv = (c1 * c2) * p.deriv := by rw [h2]; grind
   rw [this]; grind
  ·exact Poly.gcd_monic p p.deriv
 have hg := Poly.gcd_is p.monic p.monic.deriv
 rw [← hgc] at hg
 have hgm := Poly.gcd_mon (p := p) (q := p.deriv) (fun e => hp e.1)
 obtain ⟨h1, h2⟩ := mon_div hmon hgm hg.left
 have hR : Rad p.monic (p.gcd p.deriv) (p.monic / p.gcd p.deriv) := ⟨hm0, h2, hgc.symm⟩
 refine ⟨_, _, sqfAux_is _ _ _ ⟨hR.sqf, hR.pow _ _ (Nat.le_refl _) hg.left, h1, hgm⟩ ?_, h2, hR.sqf⟩
 have h3 := (Poly.len_mul h1.ne hgm.ne).1
 rw [h2, Poly.monic_len] at h3
 have h4 := Poly.len_pos h1.ne
 have h5 := Poly.len_pos hgm.ne
 omega
end Go.Proofs.YtacenhlcfeepgaaGreat
namespace Go.Proofs.YtacenhlcfeepgaaGreat
open Go Eng
def UP (x : Nat → Int) : Nat → Pol
 | 0 => 0
 | m + 1 => UP x m + Poly.mono (x m : Rat) m
theorem UP_co (x : Nat → Int) (i : Nat) : ∀ m, (UP x m).co i = if i < m then (x i : Rat) else 0
 | 0 => by rw [UP, Poly.co_zero, if_neg (by omega)]
 | m + 1 => by
  rw [UP, Poly.co_add, UP_co x i m, Poly.co_mono]
  by_cases h1 : i < m
  ·rw [if_pos h1, if_neg (by omega), if_pos (by omega)]; grind
  ·by_cases h2 : i = m
   ·subst h2; rw [if_neg (by omega), if_pos rfl, if_pos (by omega)]; grind
   ·rw [if_neg h1, if_neg h2, if_neg (by omega)]; grind
theorem UP_len (x : Nat → Int) (m : Nat) : (UP x m).len ≤ m := Poly.len_le fun i hi => by rw [UP_co, if_neg (by omega)]
theorem cast_sum (f : Nat → Int) (m : Nat) : ((sumI (m + 1) f : Int) : Rat) = ((sumI m f : Int) : Rat) + ((f m : Int) : Rat) := by rw [sumI, Rat.intCast_add]
theorem UP_mul (x α : Nat → Int) {a : Pol} (ha : ∀ i, a.co i = (α i : Rat)) (i : Nat) : ∀ m, (UP x m * a).co i = ((sumI m fun j => if i < j then 0 else x j * α (i - j) : Int) : Rat)
 | 0 => by rw [UP, Poly.zero_mul', Poly.co_zero]; rfl
 | m + 1 => by
  rw [UP, show (UP x m + Poly.mono (x m : Rat) m) * a = UP x m * a + Poly.mono (x m : Rat) m * a by grind, Poly.co_add, UP_mul x α ha i m, Poly.co_mono_mul, cast_sum]
  congr 1
  split
  ·rfl
  ·rw [ha, Rat.intCast_mul]
theorem sumI_add (f : Nat → Int) (m : Nat) : ∀ n, sumI (m + n) f = sumI m f + sumI n fun i => f (m + i)
 | 0 => by simp [sumI]
 | n + 1 => by rw [← Nat.add_assoc, sumI, sumI, sumI_add f m n]; omega
theorem small_comb {a b : Pol} {α β : Nat → Int} {B m n d M : Nat} (ha : ∀ i, a.co i = (α i : Rat)) (hb : ∀ i, b.co i = (β i : Rat)) (hαB : ∀ i, (α i).natAbs ≤ B) (hβB : ∀ i, (β i).natAbs ≤ B)
  (h1 : m + a.len ≤ d + M + 1) (h2 : n + b.len ≤ d + M + 1) (hM : M < m + n) :
  ∃ x y : Nat → Int, (∀ i, (x i).natAbs ≤ (2 * ((m + n) * B) + 1) ^ M) ∧ (∀ i, (y i).natAbs ≤ (2 * ((m + n) * B) + 1) ^ M) ∧ ¬ (UP x m = 0 ∧ UP y n = 0) ∧ (UP x m * a + UP y n * b).len ≤ d := by
 obtain ⟨z, ⟨i0, hi0, hz0⟩, hz, hs⟩ := siegel (N := m + n) (M := M) (B := B) (fun k j => if j < m then (if d + k < j then 0 else α (d + k - j)) else (if d + k < j - m then 0 else β (d + k - (j - m)))) hM (fun k j => by
  split <;> split <;> first | exact Nat.zero_le _ | exact hαB _ | exact hβB _)
 refine ⟨z, fun i => z (m + i), hz, fun i => hz _, fun ⟨e1, e2⟩ => ?_, Poly.len_le fun i hi => ?_⟩
 ·by_cases h : i0 < m
  ·have := UP_co z i0 m
   rw [e1, Poly.co_zero, if_pos h] at this
   exact hz0 (Rat.intCast_eq_zero_iff.1 this.symm)
  ·have := UP_co (fun i => z (m + i)) (i0 - m) n
   rw [e2, Poly.co_zero, if_pos (by omega), show m + (i0 - m) = i0 by omega] at this
   exact hz0 (Rat.intCast_eq_zero_iff.1 this.symm)
 ·by_cases hk : i < d + M
  ·have h3 := hs (i - d) (by omega)
   rw [Poly.co_add, UP_mul z α ha, UP_mul _ β hb, ← Rat.intCast_add, Rat.intCast_eq_zero_iff]
   refine Eq.trans ?_ h3
   rw [sumI_add]
   congr 1
   ·refine sumI_congr m fun j hj => ?_
    rw [if_pos hj, show d + (i - d) = i by omega]
    by_cases h : i < j
    ·rw [if_pos h, if_pos h, Int.zero_mul]
    ·rw [if_neg h, if_neg h, Int.mul_comm]
   ·refine sumI_congr n fun j hj => ?_
    rw [if_neg (show ¬ m + j < m by omega), show d + (i - d) = i by omega, show m + j - m = j by omega]
    by_cases h : i < j
    ·rw [if_pos h, if_pos h, Int.zero_mul]
    ·rw [if_neg h, if_neg h, Int.mul_comm]
  ·have h4 := UP_len z m
   have h5 := UP_len (fun i => z (m + i)) n
   have h6 := Poly.len_mul_le (UP z m) a
   have h7 := Poly.len_mul_le (UP (fun i => z (m + i)) n) b
   rw [Poly.co_add, Poly.co_ge (by omega), Poly.co_ge (by omega)]; grind
def castL (l : List Int) : Pol := Poly.of (l.map fun (z : Int) => (z : Rat))
def evI (l : List Int) (x : Int) : Int := l.foldr (fun a r => r * x + a) 0
def evD (l : List Int) (x : Int) : Int × Int := l.foldr (fun a r => (r.1 * x + a, r.2 * x + r.1)) (0, 0)
theorem evD_1 (x : Int) : ∀ l : List Int, (evD l x).1 = evI l x
 | [] => rfl
 | a :: l => by show (evD l x).1 * x + a = evI l x * x + a; rw [evD_1 x l]
theorem castL_cons (a : Int) (l : List Int) : castL (a :: l) = Poly.cst (a : Rat) + Poly.X * castL l := Poly.of_cons _ _
theorem castL_co (l : List Int) (i : Nat) : (castL l).co i = ((l.getD i 0 : Int) : Rat) := by
 rw [castL, Poly.co_of]
 by_cases h : i < l.length
 ·rw [cf_lt (by rw [List.length_map]; exact h), List.getElem_map, List.getD_eq_getElem?_getD, List.getElem?_eq_getElem h]; rfl
 ·rw [cf_ge (by rw [List.length_map]; omega), List.getD_eq_getElem?_getD, List.getElem?_eq_none (by omega)]; rfl
theorem eval_castL (x : Int) : ∀ l : List Int, (castL l).eval (x : Rat) = (evI l x : Rat) ∧ (castL l).deriv.eval (x : Rat) = ((evD l x).2 : Rat)
 | [] => by
  rw [show castL [] = 0 from Poly.of_nil, Poly.deriv_zero, Poly.eval_zero]; exact ⟨rfl, rfl⟩
 | a :: l => by
  obtain ⟨h1, h2⟩ := eval_castL x l
  rw [castL_cons]
  refine ⟨?_, ?_⟩
  ·rw [Poly.eval_cX, h1]
   show _ = ((evI l x * x + a : Int) : Rat)
   rw [Rat.intCast_add, Rat.intCast_mul]; grind
  ·rw [Poly.deriv_cX, Poly.eval_add, Poly.eval_mul, h1, h2]
   show _ = (((evD l x).2 * x + (evD l x).1 : Int) : Rat)
   have hX : Poly.eval Poly.X (x : Rat) = (x : Rat) := by
    have := Poly.eval_cX (0 : Rat) 1 (x : Rat)
    rw [show Poly.cst (0 : Rat) + Poly.X * 1 = Poly.X by rw [Poly.cst_zero]; grind, show (1 : Pol) = Poly.cst 1 from rfl, Poly.eval_cst] at this
    rw [this]; grind
   rw [evD_1, Rat.intCast_add, Rat.intCast_mul, hX]; grind
theorem valM_ev (x m : Int) : ∀ l : List Int, (valM l x m).1 = evI l x % m ∧ (valM l x m).2 = (evD l x).2 % m
 | [] => ⟨(Int.zero_emod m).symm, (Int.zero_emod m).symm⟩
 | a :: l => by
  obtain ⟨h1, h2⟩ := valM_ev x m l
  refine ⟨?_, ?_⟩
  ·show ((valM l x m).1 * x + a) % m = (evI l x * x + a) % m
   rw [h1]; simp [Int.add_emod, Int.mul_emod]
  ·show ((valM l x m).2 * x + (valM l x m).1) % m = ((evD l x).2 * x + (evD l x).1) % m
   rw [h1, h2, evD_1]; simp [Int.add_emod, Int.mul_emod]
theorem UP_eval (x : Nat → Int) (t : Int) : ∀ m, ∃ z : Int, (UP x m).eval (t : Rat) = (z : Rat)
 | 0 => ⟨0, by rw [UP, Poly.eval_zero]; rfl⟩
 | m + 1 => by
  obtain ⟨z, hz⟩ := UP_eval x t m
  have h : ∀ (n : Nat) (c : Int), ∃ w : Int, (Poly.mono (c : Rat) n).eval (t : Rat) = (w : Rat) := by
   intro n
   induction n with
   | zero => intro c; exact ⟨c, by rw [Poly.mono_zero, Poly.eval_cst]⟩
   | succ n ih =>
    intro c
    obtain ⟨w, hw⟩ := ih c
    have e : Poly.mono (c : Rat) (n + 1) = Poly.cst 0 + Poly.X * Poly.mono (c : Rat) n := by
     rw [Poly.cst_zero, Poly.X, Poly.mono_mul, Nat.add_comm 1 n]
     have : (1 : Rat) * (c : Rat) = (c : Rat) := by grind
     rw [this]; grind
    refine ⟨t * w, ?_⟩
    rw [e, Poly.eval_cX, hw, Rat.intCast_mul]; grind
  obtain ⟨w, hw⟩ := h m (x m)
  exact ⟨z + w, by rw [UP, Poly.eval_add, hz, hw, Rat.intCast_add]⟩
end Go.Proofs.YtacenhlcfeepgaaGreat
namespace Go.Proofs.YtacenhlcfeepgaaGreat
open Go Eng
theorem least {Q : Nat → Prop} : ∀ n, Q n → ∃ m, Q m ∧ ∀ k, k < m → ¬ Q k := by
 intro n
 induction n using Nat.strongRecOn with
 | ind n ih =>
  intro h
  by_cases hex : ∃ k, k < n ∧ Q k
  ·obtain ⟨k, h1, h2⟩ := hex
   exact ih k h1 h2
  ·exact ⟨n, h, fun k hk hq => hex ⟨k, hk, hq⟩⟩
theorem castL_len {l : List Int} (hl : l ≠ []) (h : lastI l ≠ 0) : (castL l).len = l.length := by
 have h0 := List.length_pos_iff.2 hl
 have := Poly.len_eq (p := castL l) (n := l.length - 1) (fun i hi => by
  rw [castL_co, List.getD_eq_getElem?_getD, List.getElem?_eq_none (by omega)]; rfl) (by
  rw [castL_co]; exact fun e => h (Rat.intCast_eq_zero_iff.1 e))
 omega
theorem getD_wl {l : List Int} {W : Nat} (h : ∀ x ∈ l, wl x.natAbs ≤ W) (i : Nat) : (l.getD i 0).natAbs < 4294967296 ^ W := by
 have hp : 0 < 4294967296 ^ W := Nat.pow_pos (by decide)
 rw [List.getD_eq_getElem?_getD]
 cases hi : l[i]? with
 | none => exact hp
 | some x =>
  have h1 := h x (List.mem_of_getElem? hi)
  exact Nat.lt_of_lt_of_le (lt_wl _) (Nat.pow_le_pow_right (by decide) h1)
theorem pow_le2 {a b n : Nat} (h : a ≤ 2 ^ b) : a ^ n ≤ 2 ^ (b * n) := by rw [Nat.pow_mul]; exact Nat.pow_le_pow_left h n
theorem mul_le2 {a b m n : Nat} (h : a ≤ 2 ^ m) (k : b ≤ 2 ^ n) : a * b ≤ 2 ^ (m + n) := by rw [Nat.pow_add]; exact Nat.mul_le_mul h k
theorem comb_exists {l : List Int} {W : Nat} (h2 : 2 ≤ l.length) (h13 : l.length ≤ 13) (hlast : lastI l ≠ 0) (hW : ∀ x ∈ l, wl x.natAbs ≤ W) (hsq : Cop (castL l) (castL l).deriv) :
  ∃ D : Int, D ≠ 0 ∧ D.natAbs ≤ 2 ^ (736 * W + 262) ∧ ∀ t : Int, ∃ u v : Int, u * evI l t + v * (evD l t).2 = D := by
 have hne : l ≠ [] := fun e => by rw [e] at h2; simp at h2
 have hal := castL_len hne hlast
 have ha := castL_co l
 have hb : ∀ i, (castL l).deriv.co i = (((i + 1 : Nat) : Int) * l.getD (i + 1) 0 : Int) := fun i => by
  rw [Poly.co_deriv, nc_rat, castL_co, Rat.intCast_mul]; rfl
 have hbl : (castL l).deriv.len ≤ l.length - 1 := Poly.len_le fun i hi => by
  rw [hb, List.getD_eq_getElem?_getD, List.getElem?_eq_none (by omega)]; simp
 have hp : 0 < 4294967296 ^ W := Nat.pow_pos (by decide)
 have hpe : (4294967296 : Nat) ^ W = 2 ^ (32 * W) := by rw [show (4294967296 : Nat) = 2 ^ 32 from rfl, ← Nat.pow_mul]
 obtain ⟨B, hB⟩ : ∃ B, B = 2 ^ (32 * W + 4) := ⟨_, rfl⟩
 have hB2 : B = 4294967296 ^ W * 16 := by rw [hB, hpe, Nat.pow_add]
 have haB : ∀ i, (l.getD i 0).natAbs ≤ B := fun i => by have := getD_wl hW i; omega
 have hbB : ∀ i, (((i + 1 : Nat) : Int) * l.getD (i + 1) 0 : Int).natAbs ≤ B := fun i => by
  by_cases hi : i + 1 < l.length
  ·have := getD_wl hW (i + 1)
   rw [Int.natAbs_mul, Int.natAbs_natCast]
   have h3 := Nat.mul_le_mul (show i + 1 ≤ 16 by omega) (Nat.le_of_lt this)
   rw [hB2, Nat.mul_comm _ 16]; exact h3
  ·rw [List.getD_eq_getElem?_getD, List.getElem?_eq_none (by omega)]; simp
 obtain ⟨x, y, hx, hy, h0, hlen⟩ := small_comb (m := l.length - 2) (n := l.length - 1) (d := 1) (M := 2 * l.length - 4) ha hb haB hbB (by rw [hal]; omega) (by omega) (by omega)
 obtain ⟨H, hH⟩ : ∃ H, H = (2 * ((l.length - 2 + (l.length - 1)) * B) + 1) ^ (2 * l.length - 4) := ⟨_, rfl⟩
 rw [← hH] at hx hy
 have hHs : H ≤ 2 ^ ((32 * W + 11) * 22) := by
  have h3 : 2 * ((l.length - 2 + (l.length - 1)) * B) + 1 ≤ 2 ^ (32 * W + 11) := by
   have h4 := Nat.mul_le_mul_right B (show l.length - 2 + (l.length - 1) ≤ 23 by omega)
   have h5 : 2 ^ (32 * W + 11) = B * 128 := by rw [hB, show 32 * W + 11 = 32 * W + 4 + 7 by omega, Nat.pow_add]
   omega
  have h4 := pow_le2 (n := 2 * l.length - 4) h3
  rw [← hH] at h4
  exact Nat.le_trans h4 (Nat.pow_le_pow_right (by decide) (Nat.mul_le_mul_left _ (by omega)))
 obtain ⟨D1, hD1⟩ : ∃ D1, D1 = sumI (l.length - 2) fun j => if 0 < j then 0 else x j * l.getD (0 - j) 0 := ⟨_, rfl⟩
 obtain ⟨D2, hD2⟩ : ∃ D2, D2 = sumI (l.length - 1) fun j => if 0 < j then 0 else y j * (((0 - j + 1 : Nat) : Int) * l.getD (0 - j + 1) 0) := ⟨_, rfl⟩
 have hco : (UP x (l.length - 2) * castL l + UP y (l.length - 1) * (castL l).deriv).co 0 = ((D1 + D2 : Int) : Rat) := by
  rw [Poly.co_add, UP_mul x _ ha, UP_mul y _ hb, Rat.intCast_add, hD1, hD2]
 have hcst := Poly.len_one_cst hlen
 rw [hco] at hcst
 have hD1s : D1.natAbs ≤ 16 * (H * B) := by
  rw [hD1]
  refine Nat.le_trans (sumI_abs (C := H * B) _ fun j _ => ?_) (Nat.mul_le_mul_right _ (by omega))
  split
  ·exact Nat.zero_le _
  ·rw [Int.natAbs_mul]; exact Nat.mul_le_mul (hx j) (haB _)
 have hD2s : D2.natAbs ≤ 16 * (H * B) := by
  rw [hD2]
  refine Nat.le_trans (sumI_abs (C := H * B) _ fun j _ => ?_) (Nat.mul_le_mul_right _ (by omega))
  split
  ·exact Nat.zero_le _
  ·rw [Int.natAbs_mul]; exact Nat.mul_le_mul (hy j) (hbB _)
 refine ⟨D1 + D2, fun hD => ?_, ?_, fun t => ?_⟩
 ·rw [hD] at hcst
  have hz : UP x (l.length - 2) * castL l + UP y (l.length - 1) * (castL l).deriv = 0 := hcst
  have hd : castL l ∣ (castL l).deriv * UP y (l.length - 1) := ⟨-UP x (l.length - 2), by grind⟩
  have hd2 := hsq.dvd hd
  have hv : UP y (l.length - 1) = 0 := by
   apply Classical.byContradiction
   intro hv
   have h3 := Poly.dvd_len hd2 hv
   have h4 := UP_len y (l.length - 1)
   omega
  rw [hv] at hz
  have hu : UP x (l.length - 2) * castL l = 0 := by rw [← hz]; grind
  rcases Poly.mul_eq_zero hu with h3 | h3
  ·exact h0 ⟨h3, hv⟩
  ·rw [h3, Poly.len_zero] at hal; omega
 ·have h3 := mul_le2 hHs (Nat.le_of_eq hB)
  have h4 : 2 ^ (736 * W + 262) = 2 ^ ((32 * W + 11) * 22 + (32 * W + 4)) * 2 ^ 16 := by
   rw [← Nat.pow_add]; congr 1; omega
  omega
 ·obtain ⟨u, hu⟩ := UP_eval x t (l.length - 2)
  obtain ⟨v, hv⟩ := UP_eval y t (l.length - 1)
  obtain ⟨e1, e2⟩ := eval_castL t l
  have h3 := congrArg (fun p => Poly.eval p (t : Rat)) hcst
  simp only [Poly.eval_add, Poly.eval_mul, Poly.eval_cst, hu, hv, e1, e2] at h3
  refine ⟨u, v, ?_⟩
  rw [← Rat.intCast_mul, ← Rat.intCast_mul, ← Rat.intCast_add] at h3
  exact Rat.intCast_inj.1 h3
theorem first_exists {l : List Int} {W : Nat} (h2 : 2 ≤ l.length) (h13 : l.length ≤ 13) (hlast : lastI l ≠ 0) (hW : ∀ x ∈ l, wl x.natAbs ≤ W) (hW2 : W ≤ 20000) (hsq : Cop (castL l) (castL l).deriv) : ∃ P, First l P := by
 obtain ⟨D, hD, hDs, hcomb⟩ := comb_exists h2 h13 hlast hW hsq
 have hls : (lastI l).natAbs ≤ 2 ^ (32 * W) := by
  have := getD_wl hW (l.length - 1)
  have hpe : (4294967296 : Nat) ^ W = 2 ^ (32 * W) := by rw [show (4294967296 : Nat) = 2 ^ 32 from rfl, ← Nat.pow_mul]
  rw [← hpe]; exact Nat.le_of_lt this
 have hN0 : 2 * (D.natAbs * (lastI l).natAbs) ≠ 0 := by
  have h3 := Nat.mul_pos (Int.natAbs_pos.2 hD) (Int.natAbs_pos.2 hlast)
  omega
 have hNs : 2 * (D.natAbs * (lastI l).natAbs) ≤ 2 ^ (768 * W + 263) := by
  have h3 := mul_le2 (a := 2) (m := 1) (by decide) (mul_le2 hDs hls)
  exact Nat.le_trans h3 (Nat.pow_le_pow_right (by decide) (by omega))
 obtain ⟨t, ht⟩ : ∃ t : Nat, t = 715827882 := ⟨_, rfl⟩
 obtain ⟨P, hP, hPl, hPd⟩ := prime_ndvd (N := 2 * (D.natAbs * (lastI l).natAbs)) (t := t) (e := 31) hN0 (by omega) (by rw [ht]; decide) (by
  have h3 := pow_le2 (n := 31) hNs
  have h4 : 2 ^ ((768 * W + 263) * 31) ≤ 2 ^ (t - 1) := Nat.pow_le_pow_right (by decide) (by omega)
  have h5 : 0 < 2 ^ (t - 1) := Nat.pow_pos (by decide)
  generalize 2 ^ (t - 1) = Z at *
  have h6 := Nat.mul_le_mul_right Z (show 2 ≤ 3 * t by omega)
  omega)
 have hP2 : P ≠ 2 := fun e => hPd (by rw [e]; exact Nat.dvd_mul_right ..)
 have hPDn : ¬ (P : Int) ∣ D := fun h => hPd (Nat.dvd_trans (show P ∣ _ by have h9 := Int.natAbs_dvd_natAbs.2 h; rw [Int.natAbs_natCast] at h9; exact h9) (Nat.dvd_trans (Nat.dvd_mul_right ..) (Nat.dvd_mul_left ..)))
 have hPl2 : ¬ (P : Int) ∣ lastI l := fun h => hPd (Nat.dvd_trans (show P ∣ _ by have h9 := Int.natAbs_dvd_natAbs.2 h; rw [Int.natAbs_natCast] at h9; exact h9) (Nat.dvd_trans (Nat.dvd_mul_left ..) (Nat.dvd_mul_left ..)))
 have hP3 := hP.1
 have hodd : P % 2 = 1 := by
  apply Classical.byContradiction
  intro hn
  exact hP.2 2 (by omega) (by omega) (Nat.dvd_of_mod_eq_zero (by omega))
 have hgood : 3 ≤ P ∧ P % 2 = 1 ∧ OddP P ∧ Simple l P := by
  refine ⟨by omega, hodd, fun d h3 h4 h5 h6 h7 => hP.2 d (by omega) h3 (Nat.dvd_of_mod_eq_zero h7), fun h3 => hPl2 (Int.dvd_of_emod_eq_zero h3), fun x hx => ?_⟩
  apply Classical.byContradiction
  intro hn
  unfold SimpleAt at hn
  obtain ⟨e1, e2⟩ := valM_ev x P l
  have h3 : evI l x % P = 0 := by rw [← e1]; apply Classical.byContradiction; intro h; exact hn (.inl h)
  have h4 : (evD l x).2 % P = 0 := by rw [← e2]; apply Classical.byContradiction; intro h; exact hn (.inr h)
  obtain ⟨u, v, h5⟩ := hcomb x
  refine hPDn ?_
  rw [← h5]
  exact Int.dvd_add (Int.dvd_mul_of_dvd_right (Int.dvd_of_emod_eq_zero h3)) (Int.dvd_mul_of_dvd_right (Int.dvd_of_emod_eq_zero h4))
 obtain ⟨Q, ⟨q1, q2, q3, q4⟩, hmin⟩ := least (Q := fun P => 3 ≤ P ∧ P % 2 = 1 ∧ OddP P ∧ Simple l P) P hgood
 have hQP : Q ≤ P := by
  apply Classical.byContradiction
  intro h
  exact hmin P (by omega) hgood
 exact ⟨Q, q1, q2, by omega, q3, q4, fun k h3 h4 h5 h6 h7 => hmin k h3 ⟨h4, h5, h6, h7⟩⟩
end Go.Proofs.YtacenhlcfeepgaaGreat
namespace Go.Proofs.YtacenhlcfeepgaaGreat
open Go Eng
theorem taylor (x h : Int) : ∀ l : List Int, (∃ q, evI l (x + h) = evI l x + h * (evD l x).2 + h * h * q) ∧ ∃ q, (evD l (x + h)).2 = (evD l x).2 + h * q
 | [] => ⟨⟨0, by show (0 : Int) = 0 + h * 0 + h * h * 0; simp⟩, ⟨0, by show (0 : Int) = 0 + h * 0; simp⟩⟩
 | a :: l => by
  obtain ⟨⟨q, hq⟩, r, hr⟩ := taylor x h l
  have e1 : evI (a :: l) (x + h) = evI l (x + h) * (x + h) + a := rfl
  have e2 : evI (a :: l) x = evI l x * x + a := rfl
  have e3 : (evD (a :: l) x).2 = (evD l x).2 * x + evI l x := by show (evD l x).2 * x + (evD l x).1 = _; rw [evD_1]
  have e4 : (evD (a :: l) (x + h)).2 = (evD l (x + h)).2 * (x + h) + evI l (x + h) := by show (evD l (x + h)).2 * (x + h) + (evD l (x + h)).1 = _; rw [evD_1]
  rw [e1, e2, e3, e4, hq, hr]
  generalize evI l x = E
  generalize (evD l x).2 = D
  exact ⟨⟨D + q * x + h * q, by grind⟩, D + r * x + r * h + D + h * q, by grind⟩
theorem emod_dvd (a w : Int) : w ∣ a % w - a := ⟨-(a / w), by have := Int.emod_add_mul_ediv a w; grind⟩
structure LI (l : List Int) (P : Nat) (x : Int) (s : Int × Int × Int) : Prop where
 w1 : 1 < s.2.1
 rt : s.2.1 ∣ evI l s.1
 cg : (P : Int) ∣ s.1 - x
 pw : ∃ k : Nat, s.2.1 = (P : Int) ^ k ∧ 1 ≤ k
 bk : ∃ v, (P : Int) ∣ v ∧ v ∣ s.2.1 ∧ s.2.1 ∣ v * v ∧ v ∣ s.2.2 * (evD l s.1).2 - 1
theorem lift_id (w α c2 c3 b D δ : Int) (h : b * D = 1 + w * δ) : w * α + w * (w * c2 - (α + w * c3) * b) * D = w * w * (c2 * D - c3 - δ * (α + w * c3)) := by
 have e : (α + w * c3) * b * D = (α + w * c3) * (1 + w * δ) := by rw [Int.mul_assoc, h]
 grind
theorem alg1 (w U Z q : Int) : w * w * Z + w * U * (w * U) * q = w * w * (Z + U * U * q) := by grind
theorem dvd_lin {P r x w : Int} (U : Int) (h : P ∣ r - x) (k : P ∣ w) : P ∣ r + w * U - x := by
 have := Int.dvd_add h (Int.dvd_mul_of_dvd_left (c := U) k)
 rw [show r + w * U - x = r - x + w * U by omega]; exact this
theorem LI.step {l : List Int} {P : Nat} {x : Int} {s : Int × Int × Int} (h : LI l P x s) : LI l P x (liftS l s) := by
 obtain ⟨r, w, b⟩ := s
 obtain ⟨v, p1, p2, p3, p4⟩ := h.bk
 have hw1 := h.w1
 have hrt := h.rt
 have hcg := h.cg
 obtain ⟨k, hk, hk1⟩ := h.pw
 simp only at hw1 hrt hcg hk p2 p3 p4
 obtain ⟨m1, m2⟩ := valM_ev r (w * w) l
 -- the new state
 have hW : 1 < w * w := by
  have := Int.mul_lt_mul_of_pos_left hw1 (show 0 < w by omega)
  omega
 have hwP : (P : Int) ∣ w := Int.dvd_trans p1 p2
 -- the new inverse
 obtain ⟨b', hb'⟩ : ∃ b', b' = (b * (2 - (valM l r (w * w)).2 * b)) % (w * w) := ⟨_, rfl⟩
 obtain ⟨r', hr'⟩ : ∃ r', r' = (r - (valM l r (w * w)).1 * b') % (w * w) := ⟨_, rfl⟩
 have hs : liftS l (r, w, b) = (r', w * w, b') := by
  rw [hr', hb']; rfl
 rw [hs]
 obtain ⟨c1, hc1⟩ := emod_dvd (b * (2 - (valM l r (w * w)).2 * b)) (w * w)
 rw [← hb'] at hc1
 obtain ⟨c2, hc2⟩ := emod_dvd (r - (valM l r (w * w)).1 * b') (w * w)
 rw [← hr'] at hc2
 obtain ⟨c3, hc3⟩ := emod_dvd (evI l r) (w * w)
 obtain ⟨c4, hc4⟩ := emod_dvd (evD l r).2 (w * w)
 rw [← m1] at hc3
 rw [← m2] at hc4
 generalize (valM l r (w * w)).1 = y at *
 generalize (valM l r (w * w)).2 = sl at *
 obtain ⟨α, hα⟩ := hrt
 obtain ⟨β, hβ⟩ := p4
 obtain ⟨γ, hγ⟩ := p3
 -- b' n'(r) = 1 modulo w
 have hbw : ∃ δ, b' * (evD l r).2 = 1 + w * δ := by
  have e1 : sl = (evD l r).2 + w * w * c4 := by omega
  have e2 : b' = b * (2 - sl * b) + w * w * c1 := by omega
  have e3 : b * (evD l r).2 = 1 + v * β := by omega
  generalize (evD l r).2 = D at *
  refine ⟨-(γ * β * β) - w * c4 * b * b * D + w * c1 * D, ?_⟩
  rw [e2, e1]
  have e4 : b * D * (b * D) = (1 + v * β) * (1 + v * β) := by rw [e3]
  grind
 obtain ⟨δ, hδ⟩ := hbw
 have hy : y = w * α + w * w * c3 := by omega
 have hr2 : r' = r + w * (w * c2 - (α + w * c3) * b') := by
  have : r' = r - y * b' + w * w * c2 := by omega
  rw [this, hy]; grind
 obtain ⟨⟨q, hq⟩, q2, hq2⟩ := taylor r (w * (w * c2 - (α + w * c3) * b')) l
 rw [← hr2] at hq hq2
 refine ⟨hW, ?_, ?_, ⟨k + k, by rw [Int.pow_add, ← hk], by omega⟩, w, hwP, ⟨w, rfl⟩, ⟨1, by show w * w = w * w * 1; omega⟩, ?_⟩
 ·show w * w ∣ evI l r'
  rw [hq, hα]
  have hT := lift_id w α c2 c3 b' (evD l r).2 δ hδ
  generalize w * c2 - (α + w * c3) * b' = U at *
  rw [hT]
  exact ⟨c2 * (evD l r).2 - c3 - δ * (α + w * c3) + U * U * q, alg1 _ _ _ _⟩
 ·show (P : Int) ∣ r' - x
  rw [hr2]
  exact dvd_lin _ hcg hwP
 ·show w ∣ b' * (evD l r').2 - 1
  rw [hq2]
  generalize w * c2 - (α + w * c3) * b' = U at *
  exact ⟨δ + b' * U * q2, by grind⟩
end Go.Proofs.YtacenhlcfeepgaaGreat
namespace Go.Proofs.YtacenhlcfeepgaaGreat
open Go Eng
theorem int_bez (a b : Nat) : ∃ u v : Int, u * a + v * b = (Nat.gcd a b : Int) := by
 induction a, b using Nat.gcd.induction with
 | H0 n => exact ⟨0, 1, by rw [Nat.gcd_zero_left]; simp⟩
 | H1 m n hm ih =>
  obtain ⟨u, v, h⟩ := ih
  refine ⟨v - u * (n / m : Nat), u, ?_⟩
  rw [Nat.gcd_rec m n, ← h]
  have e : (n : Int) = (m : Int) * (n / m : Nat) + (n % m : Nat) := by
   have := Nat.div_add_mod n m
   have h2 : ((m * (n / m) + n % m : Nat) : Int) = (n : Int) := by rw [this]
   rw [← h2]; simp
  generalize ((n / m : Nat) : Int) = q at *
  generalize ((n % m : Nat) : Int) = r at *
  rw [e]; grind
theorem oddP_prime {P : Nat} (h3 : 3 ≤ P) (ho : P % 2 = 1) (h : OddP P) : Prime P := by
 refine ⟨by omega, fun d h1 h2 hd => ?_⟩
 obtain ⟨e, he⟩ := hd
 have key : ∀ m n : Nat, 2 ≤ m → m ≤ n → P = m * n → False := fun m n hm hmn hP => by
  have h4 : m * m ≤ P := by rw [hP]; exact Nat.mul_le_mul_left m hmn
  have h5 : m % 2 = 1 := by
   rcases Nat.mod_two_eq_zero_or_one m with h0 | h0
   ·exfalso
    have : P % 2 = 0 := by rw [hP, Nat.mul_mod, h0]; simp
    omega
   ·exact h0
  have h6 : 2 * m ≤ m * m := Nat.mul_le_mul_right m hm
  exact h m (by omega) (by omega) h5 h4 (by rw [hP]; exact Nat.mul_mod_right m n)
 have he2 : 2 ≤ e := by
  apply Classical.byContradiction
  intro hn
  have : e = 0 ∨ e = 1 := by omega
  rcases this with rfl | rfl <;> omega
 rcases Nat.le_total d e with h4 | h4
 ·exact key d e h1 h4 he
 ·exact key e d he2 h4 (by rw [he, Nat.mul_comm])
theorem prime_inv {P a : Nat} (hP : Prime P) (h0 : 0 < a) (h1 : a < P) : ∃ b, 0 < b ∧ b < P ∧ a * b % P = 1 := by
 have hg : Nat.gcd a P = 1 := by
  have h2 := Nat.gcd_le_left P h0
  have h3 := Nat.gcd_pos_of_pos_left P h0
  apply Classical.byContradiction
  intro hn
  exact hP.2 _ (by omega) (by omega) (Nat.gcd_dvd_right a P)
 obtain ⟨u, v, h⟩ := int_bez a P
 rw [hg] at h
 have hp := hP.1
 have e1 := Int.emod_nonneg u (show (P : Int) ≠ 0 by omega)
 have e2 := Int.emod_lt_of_pos u (show (0 : Int) < P by omega)
 have e3 := Int.emod_add_mul_ediv u P
 obtain ⟨b, hb⟩ : ∃ b : Nat, (b : Int) = u % P := ⟨(u % P).toNat, Int.toNat_of_nonneg e1⟩
 have h4 : ((a * b % P : Nat) : Int) = 1 := by
  have h5 : ((a * b : Nat) : Int) = 1 + (P : Int) * (-v - a * (u / P)) := by
   rw [Int.natCast_mul, hb]
   have : u % P = u - P * (u / P) := by omega
   rw [this]
   generalize u / (P : Int) = q at *
   have h6 : (1 : Int) = u * a + v * P := h.symm
   rw [h6]; grind
  rw [Int.natCast_emod, h5, Int.add_mul_emod_self_left]
  exact Int.emod_eq_of_lt (by omega) (by omega)
 have h5 : a * b % P = 1 := by omega
 refine ⟨b, Nat.pos_of_ne_zero fun e => ?_, by omega, h5⟩
 rw [e] at h5; simp at h5
theorem invA_spec {a p : Nat} : ∀ (f b c : Nat), b ≤ c → c < p → a * c % p = 1 → c < b + f → a * invA a p f b % p = 1
 | 0, b, c, h1, h2, h3, h4 => by omega
 | f + 1, b, c, h1, h2, h3, h4 => by
  rw [invA, if_pos (by omega)]
  by_cases h : a * b % p = 1
  ·rw [if_pos h]; exact h
  ·rw [if_neg h]
   have : b ≠ c := fun e => h (by rw [e]; exact h3)
   exact invA_spec f (b + 1) c (by omega) h2 h3 (by omega)
theorem LI.init {l : List Int} {P x : Nat} (hP : Prime P) (hx : (valM l x P).1 = 0) (hs : SimpleAt l P x) : LI l P x (lift0 l x P) := by
 have hp := hP.1
 obtain ⟨m1, m2⟩ := valM_ev x P l
 have hs2 : (valM l x P).2 ≠ 0 := by rcases hs with h | h; exact absurd hx h; exact h
 have e1 := Int.emod_nonneg (evD l x).2 (show (P : Int) ≠ 0 by omega)
 have e2 := Int.emod_lt_of_pos (evD l x).2 (show (0 : Int) < P by omega)
 rw [m2] at hs2
 obtain ⟨a, ha⟩ : ∃ a : Nat, (a : Int) = (evD l x).2 % P := ⟨_, Int.toNat_of_nonneg e1⟩
 obtain ⟨c, h1, h2, h3⟩ := prime_inv hP (show 0 < a by omega) (by omega)
 have h4 := invA_spec P 1 c (by omega) h2 h3 (by omega)
 have e3 : ((valM l x P).2 % P).toNat = a := by rw [m2, Int.emod_emod, ← ha]; rfl
 refine ⟨by show (1 : Int) < P; omega, ?_, ⟨0, by show (x : Int) - x = _; omega⟩, ⟨1, by show (P : Int) = (P : Int) ^ 1; rw [Int.pow_succ, Int.pow_zero, Int.one_mul], by omega⟩, P, ⟨1, by omega⟩, ⟨1, by show (P : Int) = P * 1; omega⟩, ⟨P, rfl⟩, ?_⟩
 ·show (P : Int) ∣ evI l x
  rw [m1] at hx; exact Int.dvd_of_emod_eq_zero hx
 ·show (P : Int) ∣ (invA ((valM l x P).2 % P).toNat P P 1 : Nat) * (evD l x).2 - 1
  rw [e3]
  obtain ⟨g, hg⟩ := emod_dvd (evD l x).2 P
  rw [← ha] at hg
  have h5 : ((a * invA a P P 1 : Nat) : Int) = (P : Int) * (a * invA a P P 1 / P : Nat) + 1 := by
   have := Nat.div_add_mod (a * invA a P P 1) P
   rw [h4] at this
   have h6 : ((P * (a * invA a P P 1 / P) + 1 : Nat) : Int) = ((a * invA a P P 1 : Nat) : Int) := by rw [this]
   rw [← h6]; simp
  rw [Int.natCast_mul] at h5
  generalize ((a * invA a P P 1 / P : Nat) : Int) = k at *
  generalize ((invA a P P 1 : Nat) : Int) = b at *
  exact ⟨k - g * b, by
   have e4 : (evD l x).2 = a - P * g := by omega
   rw [e4]
   have e5 : b * (a - P * g) - 1 = a * b - 1 - P * (g * b) := by grind
   rw [e5, h5]; grind⟩
theorem LI.run {l : List Int} {P : Nat} {x : Int} {most : Int} : ∀ (f : Nat) (s : Int × Int × Int), LI l P x s → LI l P x (liftF l most f s)
 | 0, s, h => h
 | f + 1, s, h => by
  rw [liftF]
  split
  ·exact LI.run f _ h.step
  ·exact h
theorem liftF_above {l : List Int} {most : Int} : ∀ (f : Nat) (s : Int × Int × Int), 1 < s.2.1 → (most - s.2.1 + 1).toNat ≤ f → most < (liftF l most f s).2.1
 | 0, s, h, hf => by
  show most < s.2.1
  omega
 | f + 1, s, h, hf => by
  rw [liftF]
  split
  ·have := liftS_pow (l := l) h
   exact liftF_above f _ (by omega) (by omega)
  ·omega
theorem lifted_is {l : List Int} {P x : Nat} {most : Int} (hP : Prime P) (hx : (valM l x P).1 = 0) (hs : SimpleAt l P x) : LI l P x (lifted l x P most) ∧ most < (lifted l x P most).2.1 := by
 have h := LI.init hP hx hs
 have hp := hP.1
 exact ⟨LI.run _ _ h, liftF_above _ _ h.w1 (by show (most - (P : Int) + 1).toNat ≤ (most + 1).toNat; omega)⟩
theorem cop_pow {f P : Int} {u v : Int} (h : u * f + v * P = 1) : ∀ k : Nat, ∃ u' v', u' * f + v' * P ^ k = 1
 | 0 => ⟨0, 1, by simp⟩
 | k + 1 => by
  obtain ⟨u', v', h2⟩ := cop_pow h k
  refine ⟨u' + v' * P ^ k * u, v' * v, ?_⟩
  rw [Int.pow_succ]
  generalize P ^ k = Q at *
  have : u' * f + v' * Q * (u * f + v * P) = 1 := by rw [h, Int.mul_one]; exact h2
  rw [← this]; grind
theorem lift_unique {l : List Int} {P : Nat} {x z : Int} {s : Int × Int × Int} (h : LI l P x s) (hz : s.2.1 ∣ evI l z) (hc : (P : Int) ∣ z - x) : s.2.1 ∣ z - s.1 := by
 obtain ⟨r, w, b⟩ := s
 obtain ⟨v, p1, p2, p3, p4⟩ := h.bk
 have hrt := h.rt
 have hcg := h.cg
 obtain ⟨k, hk, hk1⟩ := h.pw
 simp only at hrt hcg hk p4 hz ⊢
 obtain ⟨⟨q, hq⟩, _⟩ := taylor r (z - r) l
 rw [show r + (z - r) = z by omega] at hq
 -- w divides (z - r) F with F = n'(r) + (z - r) q, and b F is 1 modulo P
 obtain ⟨F, hF⟩ : ∃ F, F = (evD l r).2 + (z - r) * q := ⟨_, rfl⟩
 have h1 : w ∣ (z - r) * F := by
  have : (z - r) * F = evI l z - evI l r := by rw [hq, hF]; grind
  rw [this]; exact Int.dvd_sub hz hrt
 have h2 : ∃ c, b * F + c * P = 1 := by
  obtain ⟨g, hg⟩ := Int.dvd_trans p1 p4
  obtain ⟨e, he⟩ := Int.dvd_sub hc hcg
  rw [show z - x - (r - x) = z - r by omega] at he
  refine ⟨-g - b * e * q, ?_⟩
  rw [hF, he]
  have : b * (evD l r).2 = 1 + P * g := by omega
  have e2 : b * ((evD l r).2 + P * e * q) = b * (evD l r).2 + b * (P * e * q) := by rw [Int.mul_add]
  rw [e2, this]; grind
 obtain ⟨c, h3⟩ := h2
 obtain ⟨u', v', h4⟩ := cop_pow h3 k
 rw [← hk] at h4
 obtain ⟨t, ht⟩ := h1
 refine ⟨u' * t + v' * (z - r), ?_⟩
 have : z - r = (z - r) * (u' * F + v' * w) := by rw [h4, Int.mul_one]
 rw [this]
 have e2 : (z - r) * (u' * F + v' * w) = u' * ((z - r) * F) + v' * w * (z - r) := by grind
 rw [e2, ht]
 generalize z - r = d at *
 grind
end Go.Proofs.YtacenhlcfeepgaaGreat
namespace Go.Proofs.YtacenhlcfeepgaaGreat
open Go Eng
def hv (a s : Int) : List Int → Int
 | [] => 0
 | c :: l => c * s ^ l.length + a * hv a s l
theorem hv_rat {a s : Int} (hs : s ≠ 0) : ∀ l : List Int, (s : Rat) * (hv a s l : Rat) = ((s ^ l.length : Int) : Rat) * (castL l).eval ((a : Rat) / (s : Rat))
 | [] => by rw [show castL [] = 0 from Poly.of_nil, Poly.eval_zero, hv]; simp
 | c :: l => by
  have ih := hv_rat (a := a) hs l
  have hs2 : (s : Rat) ≠ 0 := fun e => hs (Rat.intCast_eq_zero_iff.1 e)
  rw [castL_cons, Poly.eval_cX, hv, List.length_cons, Int.pow_succ, Rat.intCast_add, Rat.intCast_mul, Rat.intCast_mul, Rat.intCast_mul]
  generalize ((s ^ l.length : Int) : Rat) = p at *
  generalize (hv a s l : Rat) = h at *
  generalize (castL l).eval ((a : Rat) / (s : Rat)) = e at *
  generalize (s : Rat) = s' at *
  generalize (a : Rat) = a' at *
  have : s' * (a' * h) = a' * (s' * h) := by grind
  rw [show s' * ((c : Rat) * p + a' * h) = s' * (c : Rat) * p + a' * (s' * h) by grind, ih]
  have e2 : a' / s' * s' = a' := by grind
  have e3 : p * s' * ((c : Rat) + a' / s' * e) = p * s' * (c : Rat) + p * (a' / s' * s') * e := by grind
  rw [e3, e2]; grind
theorem hv_mod {a s w z : Int} (hz : w ∣ s * z - a) : ∀ l : List Int, w ∣ s * hv a s l - s ^ l.length * evI l z
 | [] => ⟨0, by show s * 0 - s ^ 0 * 0 = w * 0; simp⟩
 | c :: l => by
  obtain ⟨k, hk⟩ := hv_mod hz l
  obtain ⟨t, ht⟩ := hz
  refine ⟨a * k - s ^ l.length * t * evI l z, ?_⟩
  show s * (c * s ^ l.length + a * hv a s l) - s ^ (l.length + 1) * (evI l z * z + c) = _
  rw [Int.pow_succ]
  generalize s ^ l.length = p at *
  generalize evI l z = e at *
  generalize hv a s l = h at *
  have e1 : s * z = a + w * t := by omega
  have e2 : s * (c * p + a * h) - p * s * (e * z + c) = a * (s * h) - p * (s * z) * e := by grind
  have e3 : s * h = w * k + p * e := by omega
  rw [e2, e1, e3]; grind
def sumA : List Int → Nat
 | [] => 0
 | c :: l => c.natAbs + sumA l
theorem bndI_sum : ∀ (l : List Int) (b : Int), bndI l b = b + (sumA l : Nat)
 | [], b => by show b = b + ((0 : Nat) : Int); omega
 | c :: l, b => by
  show bndI l (b + (c.natAbs : Int)) = _
  rw [bndI_sum l, sumA]; omega
theorem hv_last {a s : Int} {M : Nat} (hM1 : a.natAbs ≤ M) (hM2 : s.natAbs ≤ M) : ∀ (l : List Int), l ≠ [] → ∃ R, hv a s l = a ^ (l.length - 1) * lastI l + s * R ∧ R.natAbs * M ≤ sumA l * M ^ (l.length - 1)
 | [], h => absurd rfl h
 | [c], _ => ⟨0, by show c * s ^ 0 + a * 0 = a ^ 0 * c + s * 0; simp, by simp⟩
 | c :: d :: l, _ => by
  obtain ⟨R, h1, h2⟩ := hv_last hM1 hM2 (d :: l) (by simp)
  have hlast : lastI (c :: d :: l) = lastI (d :: l) := rfl
  refine ⟨c * s ^ l.length + a * R, ?_, ?_⟩
  ·rw [hlast]
   show c * s ^ (l.length + 1) + a * hv a s (d :: l) = a ^ (l.length + 1) * lastI (d :: l) + _
   rw [h1]
   show c * s ^ (l.length + 1) + a * (a ^ l.length * lastI (d :: l) + s * R) = _
   rw [Int.pow_succ, Int.pow_succ]
   generalize s ^ l.length = p
   generalize a ^ l.length = q
   grind
  ·have h3 : (c * s ^ l.length + a * R).natAbs ≤ c.natAbs * M ^ l.length + M * R.natAbs := by
    refine Nat.le_trans (Int.natAbs_add_le _ _) ?_
    rw [Int.natAbs_mul, Int.natAbs_mul, Int.natAbs_pow]
    exact Nat.add_le_add (Nat.mul_le_mul_left _ (Nat.pow_le_pow_left hM2 _)) (Nat.mul_le_mul_right _ hM1)
   have h2' : R.natAbs * M ≤ sumA (d :: l) * M ^ l.length := h2
   have h4 := Nat.mul_le_mul_right M h3
   have h5 := Nat.mul_le_mul_left M h2'
   show _ ≤ (c.natAbs + sumA (d :: l)) * M ^ (l.length + 1)
   rw [Nat.pow_succ]
   generalize M ^ l.length = p at *
   generalize sumA (d :: l) = S at *
   generalize R.natAbs = r at *
   generalize c.natAbs = k at *
   have e1 : (k * p + M * r) * M = k * (p * M) + M * (r * M) := by rw [Nat.add_mul, Nat.mul_assoc, Nat.mul_assoc]
   have e2 : (k + S) * (p * M) = k * (p * M) + M * (S * p) := by rw [Nat.add_mul]; congr 1; rw [← Nat.mul_assoc, Nat.mul_comm]
   omega
theorem pow_cancel {a b : Nat} {c n : Nat} (hc : 0 < c) (h : a * c ^ n ≤ b * c ^ n) : a ≤ b := Nat.le_of_mul_le_mul_right h (Nat.pow_pos hc)
theorem root_parts {l : List Int} (hl : l ≠ []) {a : Int} {s : Nat} (hs : 0 < s) (hc : ∃ u v : Int, u * a + v * s = 1) (h0 : hv a s l = 0) : ∃ t : Int, lastI l = s * t ∧ (a * t).natAbs ≤ (lastI l).natAbs + sumA l := by
 obtain ⟨u, v, huv⟩ := hc
 obtain ⟨R, h1, h2⟩ := hv_last (a := a) (s := s) (M := max a.natAbs s) (by omega) (by rw [Int.natAbs_natCast]; omega) l hl
 rw [h0] at h1
 obtain ⟨u', v', h3⟩ := cop_pow (f := s) (P := a) (u := v) (v := u) (by rw [← huv]; omega) (l.length - 1)
 obtain ⟨t, ht⟩ : ∃ t, lastI l = s * t := ⟨u' * lastI l - v' * R, by
  have e1 : a ^ (l.length - 1) * lastI l = -(s * R) := by omega
  have e2 : lastI l = (u' * s + v' * a ^ (l.length - 1)) * lastI l := by rw [h3, Int.one_mul]
  have e3 : (u' * s + v' * a ^ (l.length - 1)) * lastI l = u' * s * lastI l + v' * (a ^ (l.length - 1) * lastI l) := by rw [Int.add_mul, Int.mul_assoc v']
  rw [e3, e1] at e2
  refine e2.trans ?_
  generalize lastI l = L
  grind⟩
 refine ⟨t, ht, ?_⟩
 by_cases hle : a.natAbs ≤ s
 ·rw [Int.natAbs_mul, ht, Int.natAbs_mul, Int.natAbs_natCast]
  have := Nat.mul_le_mul_right t.natAbs hle
  omega
 ·rw [Nat.max_eq_left (by omega)] at h2
  have e1 : (a ^ (l.length - 1) * lastI l).natAbs = (s * R).natAbs := by
   have : a ^ (l.length - 1) * lastI l = -(s * R) := by omega
   rw [this, Int.natAbs_neg]
  rw [Int.natAbs_mul, Int.natAbs_mul, Int.natAbs_pow, Int.natAbs_natCast, ht, Int.natAbs_mul, Int.natAbs_natCast] at e1
  have e2 := Nat.mul_le_mul_left s h2
  have e3 : a.natAbs ^ (l.length - 1) * (s * t.natAbs) * a.natAbs ≤ s * (sumA l * a.natAbs ^ (l.length - 1)) := by
   rw [e1, Nat.mul_assoc]; exact e2
  have e4 : (s * (t.natAbs * a.natAbs)) * a.natAbs ^ (l.length - 1) ≤ (s * sumA l) * a.natAbs ^ (l.length - 1) := by
   generalize a.natAbs ^ (l.length - 1) = p at *
   have e5 : p * (s * t.natAbs) * a.natAbs = (s * (t.natAbs * a.natAbs)) * p := by
    simp only [Nat.mul_comm, Nat.mul_left_comm, Nat.mul_assoc]
   rw [← e5, Nat.mul_assoc s]; exact e3
  have e6 := pow_cancel (by omega) e4
  have e7 := Nat.le_of_mul_le_mul_left e6 hs
  rw [Int.natAbs_mul, Nat.mul_comm]; omega
theorem root_cand {l : List Int} (hl : l ≠ []) (hlast : lastI l ≠ 0) {P : Nat} (hP : First l P) {y : Rat} (hy : (castL l).eval y = 0) : ∃ x, x ∈ rootsM l P P ∧ candQ l P x = y ∧ ∃ t : Int, lastI l = y.den * t ∧ (P : Int) ∣ y.den * (x : Int) - y.num := by
 have hp := oddP_prime hP.ge hP.odd hP.prime
 have hp2 := hp.1
 obtain ⟨a, ha⟩ : ∃ a, a = y.num := ⟨_, rfl⟩
 obtain ⟨s, hs⟩ : ∃ s, s = y.den := ⟨_, rfl⟩
 have hs0 : 0 < s := by rw [hs]; exact Nat.pos_of_ne_zero y.den_nz
 have hyq : y = (a : Rat) / ((s : Int) : Rat) := by rw [ha, hs, ← Rat.divInt_eq_div]; exact (Rat.num_divInt_den y).symm
 have hsI : (s : Int) ≠ 0 := by omega
 have hcop : ∃ u v : Int, u * a + v * s = 1 := by
  obtain ⟨u, v, h⟩ := int_bez a.natAbs s
  have hg : Nat.gcd a.natAbs s = 1 := by rw [ha, hs]; exact y.reduced
  rw [hg] at h
  rcases Int.natAbs_eq a with h1 | h1
  ·exact ⟨u, v, by rw [← h1] at h; exact h⟩
  ·refine ⟨-u, v, ?_⟩
   have : (a.natAbs : Int) = -a := by omega
   rw [this] at h
   rw [← Int.neg_mul_comm] at h; exact h
 have h0 : hv a s l = 0 := by
  have h1 := hv_rat (a := a) hsI l
  rw [← hyq, hy, Rat.mul_zero] at h1
  have h2 : ((s : Int) : Rat) ≠ 0 := fun e => hsI (Rat.intCast_eq_zero_iff.1 e)
  have h3 : (hv a s l : Rat) = 0 := by
   generalize (hv a s l : Rat) = h at *
   generalize ((s : Int) : Rat) = s' at *
   grind
  exact Rat.intCast_eq_zero_iff.1 h3
 obtain ⟨t, ht, htb⟩ := root_parts hl hs0 hcop h0
 -- s is invertible modulo P
 have hPs : ¬ P ∣ s := fun h => by
  refine hP.simple.1 (Int.emod_eq_zero_of_dvd ?_)
  rw [ht]; exact Int.dvd_mul_of_dvd_left (Int.natCast_dvd_natCast.2 h)
 have hgs : Nat.gcd s P = 1 := by
  apply Classical.byContradiction
  intro hn
  have h1 := Nat.gcd_dvd_right s P
  have h2 := Nat.le_of_dvd (by omega) h1
  have h3 := Nat.gcd_pos_of_pos_left P hs0
  by_cases h4 : Nat.gcd s P = P
  ·exact hPs (by rw [← h4]; exact Nat.gcd_dvd_left s P)
  ·exact hp.2 _ (by omega) (by omega) h1
 obtain ⟨u, v, huv⟩ := int_bez s P
 rw [hgs] at huv
 have huv : u * s + v * P = 1 := huv
 -- the root modulo P
 have e1 := Int.emod_nonneg (u * a) (show (P : Int) ≠ 0 by omega)
 have e2 := Int.emod_lt_of_pos (u * a) (show (0 : Int) < P by omega)
 obtain ⟨x, hx⟩ : ∃ x : Nat, (x : Int) = u * a % P := ⟨_, Int.toNat_of_nonneg e1⟩
 obtain ⟨g, hg⟩ := emod_dvd (u * a) P
 rw [← hx] at hg
 have hsx : (P : Int) ∣ s * (x : Int) - a := ⟨s * g - v * a, by
  have e3 : (x : Int) = u * a + P * g := by omega
  rw [e3]
  have e4 : (s : Int) * (u * a + P * g) - a = (u * s + v * P) * a - a + P * (s * g - v * a) := by grind
  rw [e4, huv]; grind⟩
 have evz : ∀ {w z : Int}, w ∣ s * z - a → (∃ u' v', u' * s + v' * w = 1) → w ∣ evI l z := fun {w z} h1 ⟨u', v', h2⟩ => by
  have h3 := hv_mod h1 l
  rw [h0] at h3
  obtain ⟨p, q, h4⟩ := cop_pow (f := w) (P := s) (u := v') (v := u') (by rw [← h2]; omega) l.length
  obtain ⟨k, hk⟩ := h3
  refine ⟨p * evI l z - q * k, ?_⟩
  have e5 : s ^ l.length * evI l z = -(w * k) := by omega
  have e6 : evI l z = p * w * evI l z + q * (s ^ l.length * evI l z) := by
   have : evI l z = (p * w + q * s ^ l.length) * evI l z := by rw [h4, Int.one_mul]
   rw [Int.add_mul, Int.mul_assoc q] at this; exact this
  rw [e5] at e6
  generalize evI l z = E at *
  have e7 : p * w * E + q * -(w * k) = w * (p * E - q * k) := by grind
  rw [e7] at e6; exact e6
 have hroot : (valM l x P).1 = 0 := by
  rw [(valM_ev x P l).1]
  exact Int.emod_eq_zero_of_dvd (evz hsx ⟨u, v, huv⟩)
 have hxP : x < P := by omega
 have hxm : x ∈ rootsM l P P := by
  unfold rootsM
  exact List.mem_filter.2 ⟨List.mem_range.2 hxP, decide_eq_true hroot⟩
 refine ⟨x, hxm, ?_, t, by rw [← hs]; exact ht, by rw [← hs, ← ha]; exact hsx⟩
 obtain ⟨hLI, hmost⟩ := lifted_is (most := mostI l) hp hroot (hP.simple.2 x hxP)
 obtain ⟨k, hk, hk1⟩ := hLI.pw
 unfold candQ aboveI above0
 generalize (lifted l x P (mostI l)) = st at *
 obtain ⟨r, w, b⟩ := st
 simp only at hmost hk ⊢
 obtain ⟨u', v', h3⟩ := cop_pow huv k
 rw [← hk] at h3
 have hz : w ∣ s * (u' * a) - a := ⟨-(v' * a), by
  have e4 : (s : Int) * (u' * a) - a = (u' * s + v' * w) * a - a + w * (-(v' * a)) := by grind
  rw [e4, h3]; grind⟩
 have hw1 : 1 < w := hLI.w1
 have hPw : (P : Int) ∣ w := by
  obtain ⟨m, hm⟩ : ∃ m, k = m + 1 := ⟨k - 1, by omega⟩
  rw [hk, hm, Int.pow_succ]; exact Int.dvd_mul_left ..
 have hzx : (P : Int) ∣ u' * a - x := by
  have h4 := Int.dvd_sub (Int.dvd_trans hPw hz) hsx
  rw [show (s : Int) * (u' * a) - a - (s * (x : Int) - a) = s * (u' * a - x) by grind] at h4
  obtain ⟨c, hc⟩ := h4
  refine ⟨u * c + v * (u' * a - x), ?_⟩
  have : u' * a - (x : Int) = (u * s + v * P) * (u' * a - x) := by rw [huv, Int.one_mul]
  rw [this]
  generalize u' * a - (x : Int) = d at *
  rw [show (u * (s : Int) + v * P) * d = u * (s * d) + v * P * d by grind, hc]
  have e5 : (u * (s : Int) + v * P) * d = d := by rw [huv, Int.one_mul]
  grind
 have huniq := lift_unique hLI (evz hz ⟨u', v', h3⟩) hzx
 simp only at huniq
 -- r last is A modulo w
 have hA : w ∣ r * lastI l - a * t := by
  obtain ⟨c1, hc1⟩ := huniq
  obtain ⟨c2, hc2⟩ := hz
  refine ⟨c2 * t - c1 * s * t, ?_⟩
  have e5 : r = u' * a - w * c1 := by omega
  have e6 : (s : Int) * (u' * a) = a + w * c2 := by omega
  rw [ht, e5]
  have e7 : (u' * a - w * c1) * (s * t) - a * t = (s * (u' * a)) * t - a * t - w * (c1 * s * t) := by grind
  rw [e7, e6]; grind
 have hb := bndI_sum l (((lastI l).natAbs : Int) + 1)
 have hmost2 : mostI l = (((lastI l).natAbs : Int) + 1 + (sumA l : Nat)) * 2 := by unfold mostI; rw [hb]
 rw [hmost2] at hmost
 have hmod : r * lastI l % w = (a * t) % w := Int.emod_eq_emod_iff_emod_sub_eq_zero.2 (Int.emod_eq_zero_of_dvd hA)
 rw [hmod]
 have hfin : (if cmpI (a * t % w * 2) w > 0 then a * t % w - w else a * t % w) = a * t := by
  have hc := cmpI_le (a * t % w * 2) w
  rcases Int.le_total 0 (a * t) with h5 | h5
  ·have h6 : a * t % w = a * t := Int.emod_eq_of_lt h5 (by omega)
   rw [h6] at hc ⊢
   rw [if_neg (by omega)]
  ·by_cases h7 : a * t = 0
   ·rw [h7] at hc ⊢
    rw [Int.zero_emod] at hc ⊢
    rw [if_neg (by omega)]
   ·have h6 : a * t % w = a * t + w := by
     rw [← Int.add_emod_right]
     exact Int.emod_eq_of_lt (by omega) (by omega)
    rw [h6] at hc ⊢
    rw [if_pos (by omega)]; omega
 rw [hfin, ht]
 have ht0 : t ≠ 0 := fun e => hlast (by rw [ht, e, Int.mul_zero])
 rw [Rat.divInt_mul_right ht0, ha, hs]
 exact Rat.num_divInt_den y
end Go.Proofs.YtacenhlcfeepgaaGreat
namespace Go.Proofs.YtacenhlcfeepgaaGreat
open Go Eng
def Asc (l : List Rat) : Prop := l.Pairwise (· < ·)
theorem asc_ext : ∀ {l m : List Rat}, Asc l → Asc m → (∀ y, y ∈ l ↔ y ∈ m) → l = m
 | [], [], _, _, _ => rfl
 | [], b :: m, _, _, h => absurd ((h b).2 (by simp)) (by simp)
 | a :: l, [], _, _, h => absurd ((h a).1 (by simp)) (by simp)
 | a :: l, b :: m, hl, hm, h => by
  have hl2 := List.pairwise_cons.1 hl
  have hm2 := List.pairwise_cons.1 hm
  have hab : a = b := by
   rcases List.mem_cons.1 ((h a).1 (by simp)) with h1 | h1
   ·exact h1
   ·rcases List.mem_cons.1 ((h b).2 (by simp)) with h2 | h2
    ·exact h2.symm
    ·have h3 := hm2.1 a h1
     have h4 := hl2.1 b h2
     exfalso; grind
  subst hab
  congr 1
  refine asc_ext hl2.2 hm2.2 fun y => ?_
  constructor
  ·intro hy
   rcases List.mem_cons.1 ((h y).1 (List.mem_cons_of_mem _ hy)) with h1 | h1
   ·subst h1; exact absurd (hl2.1 y hy) Rat.lt_irrefl
   ·exact h1
  ·intro hy
   rcases List.mem_cons.1 ((h y).2 (List.mem_cons_of_mem _ hy)) with h1 | h1
   ·subst h1; exact absurd (hm2.1 y hy) Rat.lt_irrefl
   ·exact h1
theorem asc_put {l : List Rat} {x : Rat} {p : Nat} (h : Asc l) (h1 : ∀ i y, i < p → l[i]? = some y → y < x) (h2 : ∀ i y, p ≤ i → l[i]? = some y → x < y) : Asc (sw x l p) := by
 rw [← List.take_append_drop p l] at h
 obtain ⟨k1, k2, k3⟩ := List.pairwise_append.1 h
 unfold sw
 refine List.pairwise_append.2 ⟨k1, List.pairwise_cons.2 ⟨fun y hy => ?_, k2⟩, fun y hy z hz => ?_⟩
 ·obtain ⟨i, hi⟩ := List.mem_iff_getElem?.1 hy
  rw [List.getElem?_drop] at hi
  exact h2 (p + i) y (by omega) hi
 ·have hyx : y < x := by
   obtain ⟨i, hi⟩ := List.mem_iff_getElem?.1 hy
   rw [List.getElem?_take] at hi
   split at hi
   ·exact h1 i y ‹_› hi
   ·cases hi
  rcases List.mem_cons.1 hz with rfl | hz
  ·exact hyx
  ·exact k3 y hy z hz
theorem asc_at {l : List Rat} (h : Asc l) {i j : Nat} {x y : Rat} (hij : i < j) (hi : l[i]? = some x) (hj : l[j]? = some y) : x < y := by
 obtain ⟨a1, a2⟩ := List.getElem?_eq_some_iff.1 hi
 obtain ⟨b1, b2⟩ := List.getElem?_eq_some_iff.1 hj
 have := List.pairwise_iff_getElem.1 h i j a1 b1 hij
 rw [a2, b2] at this; exact this
theorem cmpQ_lt {x y : Rat} : cmpQ x y < 0 ↔ x < y := by
 unfold cmpQ
 split
 ·simp [*]
 ·split <;> simp [*]
theorem insPos_spec {x : Rat} {s : List Rat} (h : Asc s) (hx : x ∉ s) : ∀ j, j ≤ s.length → insPos x s j ≤ j ∧ (∀ i y, i < insPos x s j → s[i]? = some y → y < x) ∧ (∀ i y, insPos x s j ≤ i → i < j → s[i]? = some y → x < y)
 | 0, _ => ⟨Nat.le_refl _, fun i y hi => absurd hi (Nat.not_lt_zero i), fun i y _ hi => absurd hi (Nat.not_lt_zero i)⟩
 | j + 1, hj => by
  have hat : s[j]? = some (s.getD j 0) := by rw [List.getD_eq_getElem?_getD, List.getElem?_eq_getElem (by omega)]; rfl
  rw [insPos]
  split
  ·rename_i hc
   obtain ⟨h1, h2, h3⟩ := insPos_spec h hx j (by omega)
   refine ⟨by omega, h2, fun i y hi hij hy => ?_⟩
   by_cases e : i = j
   ·subst e; rw [hat] at hy; injection hy with hy; rw [← hy]; exact cmpQ_lt.1 hc
   ·exact h3 i y hi (by omega) hy
  ·rename_i hc
   have h4 : s.getD j 0 < x := by
    have h5 : ¬ x < s.getD j 0 := fun e => hc (cmpQ_lt.2 e)
    have h6 : x ≠ s.getD j 0 := fun e => hx (by rw [e]; exact List.mem_of_getElem? hat)
    grind
   refine ⟨Nat.le_refl _, fun i y hi hy => ?_, fun i y hi hij => by omega⟩
   by_cases e : i = j
   ·subst e; rw [hat] at hy; injection hy with hy; rw [← hy]; exact h4
   ·have := asc_at h (show i < j by omega) hy hat
    grind
theorem mem_sw {x y : Rat} {s : List Rat} {j : Nat} : y ∈ sw x s j ↔ y = x ∨ y ∈ s := by
 refine ⟨sw_mem, fun h => ?_⟩
 unfold sw
 rcases h with rfl | h
 ·simp
 ·rw [← List.take_append_drop j s] at h
  rcases List.mem_append.1 h with h | h
  ·exact List.mem_append.2 (.inl h)
  ·exact List.mem_append.2 (.inr (List.mem_cons_of_mem _ h))
theorem insQ_asc {x : Rat} {s : List Rat} (h : Asc s) (hx : x ∉ s) : Asc (insQ s x) := by
 obtain ⟨h1, h2, h3⟩ := insPos_spec h hx s.length (Nat.le_refl _)
 exact asc_put h h2 fun i y hi hy => h3 i y hi (List.getElem?_eq_some_iff.1 hy).1 hy
theorem isort_asc : ∀ (l s : List Rat), Asc s → l.Nodup → (∀ y ∈ l, y ∉ s) → Asc (l.foldl insQ s) ∧ ∀ y, y ∈ l.foldl insQ s ↔ y ∈ l ∨ y ∈ s
 | [], s, hs, _, _ => ⟨hs, fun y => by simp⟩
 | x :: l, s, hs, hn, hd => by
  obtain ⟨n1, n2⟩ := List.nodup_cons.1 hn
  have hx := hd x (by simp)
  obtain ⟨h1, h2⟩ := isort_asc l (insQ s x) (insQ_asc hs hx) n2 fun y hy hm => by
   rcases mem_sw.1 hm with e | e
   ·subst e; exact n1 hy
   ·exact hd y (by simp [hy]) e
  refine ⟨h1, fun y => ?_⟩
  rw [List.foldl_cons, h2 y, insQ, mem_sw, List.mem_cons]
  constructor
  ·rintro (h | h | h)
   ·exact .inl (.inr h)
   ·exact .inl (.inl h)
   ·exact .inr h
  ·rintro ((h | h) | h)
   ·exact .inr (.inl h)
   ·exact .inl h
   ·exact .inr (.inr h)
theorem castL_prim {p : Pol} (hp : p ≠ 0) : Poly.cst (primC p) * castL (primN p) = p := Poly.ext fun i => by
 rw [Poly.cst_mul, castL_co]
 by_cases hi : i < p.len
 ·have hy : p.c[i]? = some (p.co i) := cf_at hi
  have hx := primN_at hi
  rw [List.getD_eq_getElem?_getD, hx]
  exact primC_mul hp hx hy
 ·rw [List.getD_eq_getElem?_getD, List.getElem?_eq_none (by rw [primN_len]; omega), Poly.co_ge (by omega)]; exact Rat.mul_zero _
theorem primN_scale {m : Pol} (hm : m ≠ 0) {c : Rat} (hc : c ≠ 0) : primN (Poly.cst c * m) = primN m := by
 have hp : Poly.cst c * m ≠ 0 := Poly.mul_ne (Poly.cst_ne hc) hm
 have hlen : (Poly.cst c * m).len = m.len := by
  have h1 := (Poly.len_mul (Poly.cst_ne hc) hm).1
  rw [Poly.len_cst_ne hc] at h1
  have := Poly.len_pos hm; omega
 have e1 := castL_prim hp
 have e2 := castL_prim hm
 have l1 := primN_len (Poly.cst c * m)
 have l2 := primN_len m
 have g1 := primN_gcd hp
 have g2 := primN_gcd hm
 have p1 : ∀ x, (primN (Poly.cst c * m))[m.len - 1]? = some x → 0 < x := fun x hx => primN_pos hp (by rw [hlen]; exact hx)
 have p2 : ∀ x, (primN m)[m.len - 1]? = some x → 0 < x := fun x hx => primN_pos hm hx
 have hC : primC (Poly.cst c * m) ≠ 0 := fun e => hp (by rw [← e1, e, Poly.cst_zero]; grind)
 have hC2 : primC m ≠ 0 := fun e => hm (by rw [← e2, e, Poly.cst_zero]; grind)
 obtain ⟨q, hq⟩ : ∃ q, q = c * primC m / primC (Poly.cst c * m) := ⟨_, rfl⟩
 have hco : ∀ i, (castL (primN (Poly.cst c * m))).co i = q * (castL (primN m)).co i := fun i => by
  have h3 := congrArg (fun p => Poly.co p i) e1
  have h4 := congrArg (fun p => Poly.co p i) e2
  simp only [Poly.cst_mul] at h3 h4
  rw [← h4] at h3
  rw [hq]
  generalize primC (Poly.cst c * m) = C at *
  generalize primC m = C2 at *
  generalize (castL (primN (Poly.cst c * m))).co i = a at *
  generalize (castL (primN m)).co i = b at *
  grind
 rw [hlen] at l1
 generalize primN (Poly.cst c * m) = A at *
 generalize primN m = B at *
 have hml := Poly.len_pos hm
 have hint : ∀ i, A.getD i 0 * q.den = B.getD i 0 * q.num := fun i => by
  have h3 := hco i
  rw [castL_co, castL_co] at h3
  have hqd : ((q.den : Int) : Rat) ≠ 0 := fun e => by
   have := Rat.intCast_eq_zero_iff.1 e
   have := q.den_nz; omega
  have hq2 : q * ((q.den : Int) : Rat) = (q.num : Rat) := by
   have : q = (q.num : Rat) / ((q.den : Int) : Rat) := by rw [← Rat.divInt_eq_div]; exact (Rat.num_divInt_den q).symm
   generalize ((q.den : Int) : Rat) = d at *
   generalize (q.num : Rat) = n at *
   rw [this]; grind
  refine Rat.intCast_inj.1 ?_
  rw [Rat.intCast_mul, Rat.intCast_mul, h3, ← hq2]; grind
 have hmap : A.map (· * (q.den : Int)) = B.map (· * q.num) := by
  refine List.ext_getElem? fun i => ?_
  rw [List.getElem?_map, List.getElem?_map]
  have h3 := hint i
  by_cases hi : i < m.len
  ·rw [List.getD_eq_getElem?_getD, List.getD_eq_getElem?_getD, List.getElem?_eq_getElem (by omega), List.getElem?_eq_getElem (by omega)] at h3
   rw [List.getElem?_eq_getElem (by omega), List.getElem?_eq_getElem (by omega)]
   exact congrArg some h3
  ·rw [List.getElem?_eq_none (by omega), List.getElem?_eq_none (by omega)]; rfl
 have hg := congrArg gcdIs hmap
 rw [gcdIs_mul, gcdIs_mul, g1, g2, Int.natAbs_natCast] at hg
 have hd := q.den_nz
 have hn : q.num = q.den := by
  have h3 := hint (m.len - 1)
  have h4 : A[m.len - 1]? = some (A.getD (m.len - 1) 0) := by rw [List.getD_eq_getElem?_getD, List.getElem?_eq_getElem (by omega)]; rfl
  have h5 : B[m.len - 1]? = some (B.getD (m.len - 1) 0) := by rw [List.getD_eq_getElem?_getD, List.getElem?_eq_getElem (by omega)]; rfl
  have h6 := p1 _ h4
  have h7 := p2 _ h5
  have h8 : 0 < A.getD (m.len - 1) 0 * (q.den : Int) := Int.mul_pos h6 (by omega)
  rw [h3] at h8
  have h9 : 0 < q.num := by
   apply Classical.byContradiction
   intro hn
   have := Int.mul_nonpos_of_nonneg_of_nonpos (Int.le_of_lt h7) (show q.num ≤ 0 by omega)
   omega
  omega
 refine List.ext_getElem? fun i => ?_
 by_cases hi : i < m.len
 ·have h3 := hint i
  rw [hn] at h3
  have h4 := Int.eq_of_mul_eq_mul_right (show (q.den : Int) ≠ 0 by omega) h3
  rw [List.getD_eq_getElem?_getD, List.getD_eq_getElem?_getD, List.getElem?_eq_getElem (by omega), List.getElem?_eq_getElem (by omega)] at h4
  rw [List.getElem?_eq_getElem (by omega), List.getElem?_eq_getElem (by omega)]
  exact congrArg some h4
 ·rw [List.getElem?_eq_none (by omega), List.getElem?_eq_none (by omega)]
end Go.Proofs.YtacenhlcfeepgaaGreat
namespace Go.Proofs.YtacenhlcfeepgaaGreat
open Go Eng
def lin (y : Rat) : Pol := Poly.X - Poly.cst y
theorem lin_co (y : Rat) (i : Nat) : (lin y).co i = if i = 0 then -y else if i = 1 then 1 else 0 := by
 rw [lin, Poly.co_sub, Poly.X, Poly.co_mono, Poly.co_cst]
 by_cases h0 : i = 0
 ·subst h0; simp; grind
 ·by_cases h1 : i = 1
  ·subst h1; simp; grind
  ·rw [if_neg h1, if_neg h0, if_neg h0]; grind
theorem lin_len (y : Rat) : (lin y).len = 2 := Poly.len_eq (n := 1) (fun i hi => by rw [lin_co, if_neg (by omega), if_neg (by omega)]) (by rw [lin_co, if_neg (by decide), if_pos rfl]; decide +kernel)
theorem lin_ne (y : Rat) : lin y ≠ 0 := fun e => by have := lin_len y; rw [e, Poly.len_zero] at this; omega
theorem lin_irr (y : Rat) : Irr (lin y) := ⟨by rw [lin_len]; omega, fun d _ => by rw [lin_len]; omega⟩
theorem eval_X (x : Rat) : Poly.eval Poly.X x = x := by
 have := Poly.eval_cX (0 : Rat) 1 x
 rw [show Poly.cst (0 : Rat) + Poly.X * 1 = Poly.X by rw [Poly.cst_zero]; grind, show (1 : Pol) = Poly.cst 1 from rfl, Poly.eval_cst] at this
 rw [this]; grind
theorem lin_eval (y x : Rat) : (lin y).eval x = x - y := by rw [lin, Poly.eval_sub, eval_X, Poly.eval_cst]
theorem root_dvd {p : Pol} {y : Rat} : p.eval y = 0 ↔ lin y ∣ p := by
 constructor
 ·intro h
  rw [Poly.dvd_iff_mod (lin_ne y)]
  have h1 := Poly.div_add_mod (p := p) (lin_ne y)
  have h2 := Poly.mod_len (p := p) (lin_ne y)
  rw [lin_len] at h2
  have h3 := Poly.len_one_cst (show (p % lin y).len ≤ 1 by omega)
  have h4 := congrArg (fun q => Poly.eval q y) h1
  simp only [Poly.eval_add, Poly.eval_mul, lin_eval, h] at h4
  rw [h3, Poly.eval_cst] at h4
  have h5 : (p % lin y).co 0 = 0 := by
   generalize (p % lin y).co 0 = z at *
   grind
  rw [h3, h5]; rfl
 ·rintro ⟨s, rfl⟩
  rw [Poly.eval_mul, lin_eval]; grind
theorem roots_few : ∀ (l : List Rat) (p : Pol), p ≠ 0 → l.Nodup → (∀ y ∈ l, p.eval y = 0) → l.length + 1 ≤ p.len
  | [], p, hp, _, _ => Poly.len_pos hp
  | y :: l, p, hp, hn, h => by
    obtain ⟨n1, n2⟩ := List.nodup_cons.1 hn
    obtain ⟨s, hs⟩ := root_dvd.1 (h y (by simp))
    have hs0 : s ≠ 0 := fun e => hp (by rw [hs, e, Poly.mul_z])
    have h1 := (Poly.len_mul (lin_ne y) hs0).1
    rw [← hs, lin_len] at h1
    have h2 := roots_few l s hs0 n2 fun z hz => by
      have h3 := h z (by simp [hz])
      rw [hs, Poly.eval_mul, lin_eval] at h3
      have h4 : z - y ≠ 0 := fun e => n1 (by have : z = y := by grind
                                             rw [← this]; exact hz)
      exact Classical.byContradiction fun h5 => Poly.fmul_ne h4 h5 h3
    rw [List.length_cons]; omega
theorem cop_scale {p : Pol} {c : Rat} (hc : c ≠ 0) (h : Cop p p.deriv) : Cop (Poly.cst c * p) (Poly.cst c * p).deriv := by
 obtain ⟨s, t, h⟩ := h
 refine ⟨Poly.cst (1 / c) * s, Poly.cst (1 / c) * t, ?_⟩
 have hi := Poly.cst_inv hc
 rw [Poly.deriv_mul, Poly.deriv_cst]
 generalize Poly.cst (1 / c) = c1 at *
 generalize Poly.cst c = c2 at *
 have : c1 * s * (c2 * p) + c1 * t * (0 * p + c2 * p.deriv) = (c1 * c2) * (s * p + t * p.deriv) := by grind
 rw [this, hi, h]; grind
theorem free_facts {q : Pol} (hq : q ≠ 0) {n : Nat} (hC : CDB n q) (hl : q.len ≤ 4000) : ∃ a : Pol, Poly.Mon a ∧ a ∣ q ∧ Cop a a.deriv ∧ primN (freeP q) = primN a ∧ (∀ y, q.eval y = 0 → a.eval y = 0) ∧ (1 < q.len → 2 ≤ a.len) := by
 have hm0 := Poly.monic_ne hq
 have hmon := Poly.monic_Mon hq
 obtain ⟨a, g, hS, hag, hcop⟩ := sqf_is q hq
 have hgc : q.gcd q.deriv = q.monic.gcd q.monic.deriv := by
  have h1 : q.monic.deriv = Poly.cst (1 / q.lead) * q.deriv := by rw [Poly.monic, Poly.deriv_mul, Poly.deriv_cst]; grind
  rw [h1]
  have h2 := Poly.cst_inv (Poly.lead_ne hq)
  refine (((Poly.gcd_is q q.deriv).assoc ⟨(Poly.monic_dvd q).2, (Poly.monic_dvd q).1⟩ ⟨⟨Poly.cst (1 / q.lead), by grind⟩, ⟨Poly.cst q.lead, ?_⟩⟩).unique).symm.trans ?_ |>.symm
  ·generalize Poly.cst (1 / q.lead) = c1 at *
   generalize Poly.cst q.lead = c2 at *
   have : q.deriv = (c1 * c2) * q.deriv := by rw [h2]; grind
   rw [this]; grind
  ·exact Poly.gcd_monic q q.deriv
 have hg := Poly.gcd_is q.monic q.monic.deriv
 rw [← hgc] at hg
 have hgm := Poly.gcd_mon (p := q) (q := q.deriv) (fun e => hq e.1)
 obtain ⟨h1, h2⟩ := mon_div hmon hgm hg.left
 have hR : Rad q.monic (q.gcd q.deriv) (q.monic / q.gcd q.deriv) := ⟨hm0, h2, hgc.symm⟩
 have hfree : freeP q = Poly.cst q.lead * (q.monic / q.gcd q.deriv) := by
  have h3 := Poly.div_mul_of_dvd hgm.ne (Poly.gcd_is q q.deriv).left
  have h4 : q / q.gcd q.deriv * q.gcd q.deriv = Poly.cst q.lead * (q.monic / q.gcd q.deriv) * q.gcd q.deriv := by
   rw [h3]
   have h5 : Poly.cst q.lead * q.monic = q := by have := Poly.cst_inv (Poly.lead_ne hq); rw [Poly.monic]; generalize Poly.cst (1 / q.lead) = c1 at *; generalize Poly.cst q.lead = c2 at *; grind
   have h6 : Poly.cst q.lead * (q.monic / q.gcd q.deriv) * q.gcd q.deriv = Poly.cst q.lead * (q.monic / q.gcd q.deriv * q.gcd q.deriv) := by grind
   rw [h6, h2, h5]
  have h7 : q.gcd q.deriv * (q / q.gcd q.deriv) = q.gcd q.deriv * (Poly.cst q.lead * (q.monic / q.gcd q.deriv)) := by
   generalize q / q.gcd q.deriv = A at *
   generalize q.monic / q.gcd q.deriv = B at *
   generalize q.gcd q.deriv = G at *
   grind
  exact Poly.mul_cancel hgm.ne h7
 refine ⟨_, h1, Poly.dvd_trans ⟨_, h2.symm⟩ (Poly.monic_dvd q).1, hR.sqf, by rw [hfree]; exact primN_scale h1.ne (Poly.lead_ne hq), fun y hy => ?_, fun hlen => ?_⟩
 ·have h3 := Poly.dvd_trans (root_dvd.1 hy) (Poly.monic_dvd q).2
  exact root_dvd.2 (hR.irr (lin_irr y) h3).1
 ·obtain ⟨e, hi, hd⟩ := exists_irr _ q (Nat.le_refl _) hlen
  have h3 := (hR.irr hi (Poly.dvd_trans hd (Poly.monic_dvd q).2)).1
  have h4 := Poly.dvd_len h3 h1.ne
  have := hi.l; omega
theorem sizeI_le {l : List Int} {n : Nat} (h : ∀ x ∈ l, wl x.natAbs ≤ n) : sizeI l ≤ 32 * n := by
 unfold sizeI
 suffices hh : ∀ (l : List Int) (m : Nat), m ≤ 32 * n → (∀ x ∈ l, wl x.natAbs ≤ n) → l.foldl (fun n a => max n (bl a.natAbs)) m ≤ 32 * n from hh l 0 (Nat.zero_le _) h
 intro l
 induction l with
 | nil => intro m hm _; exact hm
 | cons x l ih =>
  intro m hm hl
  refine ih _ ?_ fun y hy => hl y (by simp [hy])
  have h1 : bl x.natAbs ≤ 32 * n := bl_le (by
   have h2 := lt_wl x.natAbs
   have h3 : (4294967296 : Nat) ^ wl x.natAbs ≤ 4294967296 ^ n := Nat.pow_le_pow_right (by decide) (hl x (by simp))
   rw [show (4294967296 : Nat) ^ n = 2 ^ (32 * n) by rw [show (4294967296 : Nat) = 2 ^ 32 from rfl, ← Nat.pow_mul]] at h3
   omega)
  show max m (bl x.natAbs) ≤ 32 * n
  omega
theorem outs_mem {q : Pol} {l : List Int} {P : Nat} {xs : List Nat} {y : Rat} : y ∈ outsQ q l P xs ↔ ∃ x ∈ xs, candQ l P x = y ∧ q.eval y = 0 := by
 unfold outsQ
 rw [List.mem_flatMap]
 constructor
 ·rintro ⟨x, hx, hy⟩
  split at hy
  ·rename_i h0
   obtain rfl : y = candQ l P x := by simpa using hy
   exact ⟨x, hx, rfl, h0⟩
  ·simp at hy
 ·rintro ⟨x, hx, rfl, h0⟩
  exact ⟨x, hx, by rw [if_pos h0]; simp⟩
theorem outs_nodup {q : Pol} {l : List Int} {P : Nat} : ∀ {xs : List Nat}, xs.Nodup → (∀ x ∈ xs, ∀ x' ∈ xs, q.eval (candQ l P x) = 0 → candQ l P x = candQ l P x' → x = x') → (outsQ q l P xs).Nodup
 | [], _, _ => List.nodup_nil
 | x :: xs, hn, h => by
  obtain ⟨n1, n2⟩ := List.nodup_cons.1 hn
  have ih := outs_nodup (q := q) (l := l) (P := P) n2 fun a ha b hb => h a (by simp [ha]) b (by simp [hb])
  have e : outsQ q l P (x :: xs) = (if q.eval (candQ l P x) = 0 then [candQ l P x] else []) ++ outsQ q l P xs := rfl
  rw [e]
  split
  ·rename_i h0
   refine List.nodup_cons.2 ⟨fun hm => ?_, ih⟩
   obtain ⟨x', hx', h1, h2⟩ := outs_mem.1 hm
   have := h x (by simp) x' (by simp [hx']) h0 h1.symm
   subst this
   exact n1 hx'
  ·exact ih
theorem cand_res {l : List Int} (hl : l ≠ []) (hlast : lastI l ≠ 0) {P : Nat} (hP : First l P) {x : Nat} (hx : x ∈ rootsM l P P) : (P : Int) ∣ aboveI l P x - x * lastI l := by
 have hp := oddP_prime hP.ge hP.odd hP.prime
 have hxP := rootsM_lt hx
 have hroot : (valM l x P).1 = 0 := by unfold rootsM at hx; exact of_decide_eq_true (List.mem_filter.1 hx).2
 obtain ⟨hLI, _⟩ := lifted_is (most := mostI l) hp hroot (hP.simple.2 x hxP)
 obtain ⟨k, hk, hk1⟩ := hLI.pw
 have hcg := hLI.cg
 unfold aboveI above0
 generalize (lifted l x P (mostI l)) = st at *
 obtain ⟨r, w, b⟩ := st
 simp only at hk hcg ⊢
 have hPw : (P : Int) ∣ w := by
  obtain ⟨m, hm⟩ : ∃ m, k = m + 1 := ⟨k - 1, by omega⟩
  rw [hk, hm, Int.pow_succ]; exact Int.dvd_mul_left ..
 have h1 : (P : Int) ∣ r * lastI l % w - r * lastI l := Int.dvd_trans hPw (emod_dvd _ _)
 have h2 : (P : Int) ∣ r * lastI l - x * lastI l := by rw [← Int.sub_mul]; exact Int.dvd_mul_of_dvd_left hcg
 have h3 : (P : Int) ∣ r * lastI l % w - x * lastI l := by
  have := Int.dvd_add h1 h2
  rw [show r * lastI l % w - r * lastI l + (r * lastI l - x * lastI l) = r * lastI l % w - x * lastI l by omega] at this; exact this
 split
 ·have := Int.dvd_sub h3 hPw
  rw [show r * lastI l % w - x * lastI l - w = r * lastI l % w - w - x * lastI l by omega] at this; exact this
 ·exact h3
theorem prime_cancel {P : Nat} (hp : Prime P) {c d : Int} (h : ¬ (P : Int) ∣ c) (k : (P : Int) ∣ c * d) : (P : Int) ∣ d := by
 have hp2 := hp.1
 obtain ⟨u, v, huv⟩ := int_bez c.natAbs P
 have hg : Nat.gcd c.natAbs P = 1 := by
  apply Classical.byContradiction
  intro hn
  have h1 := Nat.gcd_dvd_right c.natAbs P
  have h2 := Nat.le_of_dvd (by omega) h1
  have h3 := Nat.gcd_pos_of_pos_right c.natAbs (show 0 < P by omega)
  by_cases h4 : Nat.gcd c.natAbs P = P
  ·refine h ?_
   have h5 := Nat.gcd_dvd_left c.natAbs P
   rw [h4] at h5
   exact Int.dvd_natAbs.1 (Int.natCast_dvd_natCast.2 h5)
  ·exact hp.2 _ (by omega) (by omega) h1
 rw [hg] at huv
 have h6 : (P : Int) ∣ (c.natAbs : Int) * d := by
  rcases Int.natAbs_eq c with h5 | h5
  ·rw [← h5]; exact k
  ·have : (c.natAbs : Int) = -c := by omega
   rw [this, Int.neg_mul]; exact Int.dvd_neg.2 k
 obtain ⟨e, he⟩ := h6
 refine ⟨u * e + v * d, ?_⟩
 have h7 : d = (u * (c.natAbs : Int) + v * P) * d := by rw [huv]; simp
 have h8 : (u * (c.natAbs : Int) + v * P) * d = u * ((c.natAbs : Int) * d) + P * (v * d) := by grind
 rw [h8, he] at h7
 rw [Int.mul_add]
 refine h7.trans ?_
 generalize v * d = Z
 grind
theorem roots_is {q : Pol} (hq : q ≠ 0) {n : Nat} (hC : CDB n q) (hn : n ≤ 100) (hl : q.len ≤ 13) : ∃ R : List Rat, FnP Tryz.prog tb F_qpoly_Roots [encP q] (.tu [encQs R, .i .i64 0]) ∧ (∀ y, y ∈ R ↔ q.eval y = 0) ∧ Asc R := by
 have hs : sizeI (primN q) ≤ 4000 := Nat.le_trans (sizeI_le (primN_wl hC)) (by omega)
 by_cases h1 : q.len = 1
 ·refine ⟨[], qpoly_Roots1 q h1 hs hC hn, fun y => ⟨fun h => absurd h (by simp), fun h => ?_⟩, List.Pairwise.nil⟩
  have h2 := Poly.dvd_len (root_dvd.1 h) hq
  rw [lin_len] at h2; omega
 ·have hlp := Poly.len_pos hq
  obtain ⟨a, am, ad, ac, ap, ar, ag⟩ := free_facts hq hC (by omega)
  have hlen2 := ag (by omega)
  have haC := hC.dvd hq (by omega) ad am
  have hal := Poly.dvd_len ad hq
  have hpn := primN_len a
  have hne : primN a ≠ [] := fun e => by rw [e] at hpn; simp at hpn; omega
  have hlast := primN_last am.ne
  have hpc : primC a ≠ 0 := fun e => am.ne (by rw [← castL_prim am.ne, e, Poly.cst_zero]; grind)
  have hcast : castL (primN a) = Poly.cst (1 / primC a) * a := by
   have h2 := castL_prim am.ne
   have h3 := Poly.cst_inv hpc
   generalize Poly.cst (1 / primC a) = c1 at *
   generalize Poly.cst (primC a) = c2 at *
   generalize castL (primN a) = N at *
   have : N = (c1 * c2) * N := by rw [h3]; grind
   rw [this, ← h2]; grind
  obtain ⟨P, hP⟩ := first_exists (l := primN a) (W := n + q.len * (2 * n + 5)) (by omega) (by omega) hlast (primN_wl haC) (by have := Nat.mul_le_mul hl (show 2 * n + 5 ≤ 205 by omega); omega) (by rw [hcast]; exact cop_scale (Poly.finv_ne hpc) ac)
  have hp := oddP_prime hP.ge hP.odd hP.prime
  have hPl : ¬ (P : Int) ∣ lastI (primN a) := fun h => hP.simple.1 (Int.emod_eq_zero_of_dvd h)
  have hmem : ∀ y, y ∈ outsQ q (primN a) P (rootsM (primN a) P P) ↔ q.eval y = 0 := fun y => by
   rw [outs_mem]
   constructor
   ·rintro ⟨x, _, _, h⟩; exact h
   ·intro h
    obtain ⟨x, hx, hc, _⟩ := root_cand hne hlast hP (y := y) (by rw [hcast, Poly.eval_mul, ar y h, Rat.mul_zero])
    exact ⟨x, hx, hc, h⟩
  have hnd : (outsQ q (primN a) P (rootsM (primN a) P P)).Nodup := by
   refine outs_nodup (List.Pairwise.filter _ List.nodup_range) fun x hx x' hx' _ he => ?_
   have hA : aboveI (primN a) P x = aboveI (primN a) P x' := by
    unfold candQ at he
    rw [Rat.divInt_eq_div, Rat.divInt_eq_div] at he
    have hl0 : ((lastI (primN a) : Int) : Rat) ≠ 0 := fun e => hlast (Rat.intCast_eq_zero_iff.1 e)
    refine Rat.intCast_inj.1 ?_
    generalize ((lastI (primN a) : Int) : Rat) = L at *
    generalize ((aboveI (primN a) P x : Int) : Rat) = A1 at *
    generalize ((aboveI (primN a) P x' : Int) : Rat) = A2 at *
    grind
   have r1 := cand_res hne hlast hP hx
   have r2 := cand_res hne hlast hP hx'
   rw [← hA] at r2
   have r3 := Int.dvd_sub r2 r1
   rw [show aboveI (primN a) P x - (x' : Int) * lastI (primN a) - (aboveI (primN a) P x - (x : Int) * lastI (primN a)) = lastI (primN a) * ((x : Int) - x') by grind] at r3
   obtain ⟨g, hg⟩ := prime_cancel hp hPl r3
   have b1 := rootsM_lt hx
   have b2 := rootsM_lt hx'
   rcases Int.lt_trichotomy g 0 with h2 | h2 | h2
   ·have := Int.mul_le_mul_of_nonneg_left (show g ≤ -1 by omega) (show (0 : Int) ≤ P by omega)
    omega
   ·rw [h2] at hg; omega
   ·have := Int.mul_le_mul_of_nonneg_left (show 1 ≤ g by omega) (show (0 : Int) ≤ P by omega)
    omega
  have h12 := roots_few _ q hq hnd fun y hy => (hmem y).1 hy
  have hR := qpoly_Roots q (by omega) hl hC hn hs P (by rw [ap]; exact hP) (by rw [ap]; omega)
  unfold rootsQ at hR
  rw [ap] at hR
  obtain ⟨s1, s2⟩ := isort_asc _ [] List.Pairwise.nil hnd (by simp)
  refine ⟨_, hR, fun y => ?_, s1⟩
  rw [← hmem y, isort, s2 y]; simp
end Go.Proofs.YtacenhlcfeepgaaGreat
namespace Go.Proofs.YtacenhlcfeepgaaGreat
open Go Eng
def atQ (R : List Rat) (a : Rat) : Nat → Nat
 | 0 => 0
 | i + 1 => if cmpQ (R.getD i 0) a < 0 then i + 1 else atQ R a i
theorem atQ_spec {R : List Rat} {a : Rat} (h : Asc R) (ha : a ∉ R) : ∀ i, i ≤ R.length → atQ R a i ≤ i ∧ (∀ k y, k < atQ R a i → R[k]? = some y → y < a) ∧ (∀ k y, atQ R a i ≤ k → k < i → R[k]? = some y → a < y)
 | 0, _ => ⟨Nat.le_refl _, fun k y hk => absurd hk (Nat.not_lt_zero k), fun k y _ hk => absurd hk (Nat.not_lt_zero k)⟩
 | i + 1, hi => by
  have hat : R[i]? = some (R.getD i 0) := by rw [List.getD_eq_getElem?_getD, List.getElem?_eq_getElem (by omega)]; rfl
  rw [atQ]
  split
  ·rename_i hc
   have h4 := cmpQ_lt.1 hc
   refine ⟨Nat.le_refl _, fun k y hk hy => ?_, fun k y hk hki => by omega⟩
   by_cases e : k = i
   ·subst e; rw [hat] at hy; injection hy with hy; rw [← hy]; exact h4
   ·have := asc_at h (show k < i by omega) hy hat
    grind
  ·rename_i hc
   obtain ⟨h1, h2, h3⟩ := atQ_spec h ha i (by omega)
   refine ⟨by omega, h2, fun k y hk hki hy => ?_⟩
   by_cases e : k = i
   ·subst e; rw [hat] at hy; injection hy with hy; rw [← hy]
    have h5 : ¬ R.getD k 0 < a := fun e => hc (cmpQ_lt.2 e)
    have h6 : a ≠ R.getD k 0 := fun e => ha (by rw [e]; exact List.mem_of_getElem? hat)
    grind
   ·exact h3 k y hk (by omega) hy
theorem lin_c (a : Rat) : (lin a).c = [-a, ((1 : Int) : Rat)] := by
 have h : lin a = Poly.of [-a, ((1 : Int) : Rat)] := Poly.ext fun i => by
  rw [lin_co, Poly.co_of]
  match i with
  | 0 => rfl
  | 1 => rfl
  | i + 2 => rw [if_neg (by omega), if_neg (by omega)]; rfl
 rw [h]
 exact trimZ_of_last (.inr (by show ((1 : Int) : Rat) ≠ 0; decide +kernel))
theorem sb_lin {a : Rat} (h : Bq 2 a) : SB 9 2 (lin a) := SB.of (n := 2) (k := 2) ⟨fun i => by
 rw [lin_co]
 split
 ·exact h.neg
 ·split
  ·exact Bq.one.le (by decide)
  ·exact Bq.zero.le (by decide)⟩ (by rw [lin_len]; omega)
theorem mulLin {p : Pol} {a : Rat} {n k : Nat} (h : SB n k p) (ha : Bq 2 a) (hs : 1 + k * (n + 9 + 1) ≤ 274877906944) (hk : k + 2 ≤ 2199023255552) : FnP Tryz.prog tb F_ref03_Mul [encP p, .sl T_Rat [encQ (-a), encQ ((1 : Int) : Rat)]] (encP (p * lin a)) := by
 have := rmulS h (sb_lin ha) hs hk
 rw [show encP (lin a) = .sl T_Rat [encQ (-a), encQ ((1 : Int) : Rat)] by show Tr.sl T_Rat ((lin a).c.map encQ) = _; rw [lin_c]; rfl] at this
 exact this
theorem roots0 {p : Pol} (h : p = 0) : FnP Tryz.prog tb F_qpoly_Roots [encP p] (.tu [.sl T_Rat [], .i .i64 5]) := by
 subst h; rw [encP_0]; exact qpoly_RootsZ
theorem evalE {p : Pol} {x y : Rat} {n k m : Nat} (h : SB n k p) (g : Bq m x) (hs : 1 + k * (n + m + 2) ≤ 274877906944) (he : p.eval x = y) : FnP Tryz.prog tb F_ref03_Eval [encP p, encQ x] (encQ y) := by
 rw [← he]; exact ref03_Eval p x h.c.pb g (by have := Nat.mul_le_mul_right (n + m + 2) h.l; omega)
theorem sign0 : FnP Tryz.prog tb F_ref02_Sign [encQ 0] (.i .i64 0) := ref02_Sign 0
theorem cmpL {x y : Rat} (h : x < y) (hx : Bq 274877906944 x) (hy : Bq 274877906944 y) : FnP Tryz.prog tb F_ref02_Cmp [encQ x, encQ y] (.i .i64 (-1)) := by
 have := ref02_Cmp x y hx hy
 rw [show cmpQ x y = -1 by unfold cmpQ; rw [if_pos h]] at this; exact this
theorem sameAllE {l m : List Rat} (h : l = m) : FnP Tryz.prog tb F_ref02_SameAll [encQs l, encQs m] (.b true) := by
 subst h; exact ref02_SameAllT l
theorem bq_root {p : Pol} (hp : p ≠ 0) {n : Nat} (hC : CDB n p) (hn : n ≤ 100) (hl : p.len ≤ 13) {y : Rat} (hy : p.eval y = 0) : Bq 3000 y := by
 have h1 := hC.dvd hp (by omega) (root_dvd.1 hy) (show (lin y).lead = 1 by
  rw [Poly.lead, lin_len, lin_co, if_neg (by decide), if_pos rfl])
 have h2 := (h1.pb.co 0).neg
 rw [lin_co, if_pos rfl] at h2
 have e : - -y = y := by grind
 rw [e] at h2
 exact h2.le (by have := Nat.mul_le_mul hl (show 2 * n + 5 ≤ 205 by omega); omega)
theorem want_eq {R : List Rat} {a : Rat} {k : Nat} (hk : k ≤ R.length) : ([] ++ List.drop (Int.toNat 0) (List.take ((k : Int)).toNat (R.map encQ)) ++ [encQ a]) ++ List.drop ((k : Int)).toNat (List.take (((R.map encQ).length : Nat) : Int).toNat (R.map encQ)) = (sw a R k).map encQ := by
 rw [Int.toNat_natCast, Int.toNat_natCast, List.take_length]
 simp [sw, List.map_take, List.map_drop]
theorem in_step {R : List Rat} {a y : Rat} {i : Nat} (hy : R[i]? = some y) (h : a ∈ R.take i) : true = decide (a ∈ R.take (i + 1)) := by
 rw [List.take_add_one, hy, decide_eq_true (List.mem_append.2 (.inl h))]
theorem in_step2 {R : List Rat} {a y : Rat} {i : Nat} (hy : R[i]? = some y) (h : ¬ a ∈ R.take i) : decide (y = a) = decide (a ∈ R.take (i + 1)) := by
 rw [List.take_add_one, hy, decide_eq_decide]
 constructor
 ·rintro rfl; exact List.mem_append.2 (.inr (by simp))
 ·intro h2
  rcases List.mem_append.1 h2 with h3 | h3
  ·exact absurd h3 h
  ·have : a = y := by simpa using h3
   exact this.symm
theorem at_step1 {R : List Rat} {a y : Rat} {i : Nat} (hy : R.getD i 0 = y) (h : decide (cmpQ y a < 0) = true) : (i : Int) + 1 = ((atQ R a (i + 1) : Nat) : Int) := by
 rw [atQ, hy, if_pos (of_decide_eq_true h)]; rfl
theorem at_step2 {R : List Rat} {a y : Rat} {i : Nat} (hy : R.getD i 0 = y) (h : decide (cmpQ y a < 0) = false) : ((atQ R a i : Nat) : Int) = ((atQ R a (i + 1) : Nat) : Int) := by
 rw [atQ, hy, if_neg (of_decide_eq_false h)]
theorem law_Roots (p : List RQ) (a : RQ) (hp : WR p) (ha1 : Words a.1.2) (ha2 : Words a.2.2) : FnP Tryz.prog tb F_law03_QpolyRoots [encRs p, encR a] (.b true) := by
 refine fn1 Tryz.func9 fun G hG hK hF => ?_
 refine rr ?_
 refine oq (.boxR (yb := .inl rfl)) ?_
 refine oa ?_
 refine wo_nil ?_
 refine wp_s ?_
 rcases bool2 (fewB p 10 3) (decide (fewR a 2) && isR a) with h1 | ⟨h1, h2⟩ | ⟨h1, h2⟩
 ·refine rr ?_
  refine om ?_
  refine oq (.callR (yb := asc (.inl rfl) as2) (yc := few_F p hp 10 3 (by decide) (by decide) h1)) ?_
  refine oq .notR ?_
  refine om ?_
  refine gs ?_
  refine gs ?_
  refine gs ?_
  refine oq (.pickT rfl (by rfl) rfl) ?_
  refine wo_nil ?_
  refine wp_cT rfl (by rfl) ?_
  refine rr ?_
  refine oq (.callR (yb := asn) (yc := law03_sane)) ?_
  refine oa ?_
  refine wo_nil ?_
  refine wp_rt ?_
  refine then_ret ?_
  exact ⟨.inr rfl, rfl, (by (refine res_t rfl ?_); (rfl)), trivial⟩
 ·obtain ⟨p, rfl, hpl, hpB⟩ := few_pol hp h1 (by decide)
  rw [encRs_raw]
  refine rr ?_
  refine om ?_
  refine oq (.callR (yb := asc (.inl rfl) as2) (yc := few_T p 10 3 (by decide) (by decide) h1)) ?_
  refine oq .notR ?_
  refine om ?_
  refine gq .loadR ?_
  refine gq (.callR (yb := asc (.inl rfl) as1) (yc := small_F a ha1 ha2 2 (by decide) h2)) ?_
  refine gq .notR ?_
  refine oq (.pickF rfl (by rfl) rfl) ?_
  refine wo_nil ?_
  refine wp_cT rfl (by rfl) ?_
  refine rr ?_
  refine oq (.callR (yb := asn) (yc := law03_sane)) ?_
  refine oa ?_
  refine wo_nil ?_
  refine wp_rt ?_
  refine then_ret ?_
  exact ⟨.inr rfl, rfl, (by (refine res_t rfl ?_); (rfl)), trivial⟩
 ·obtain ⟨p, rfl, hpl, hpB⟩ := few_pol hp h1 (by decide)
  obtain ⟨a, rfl, haB⟩ := small_rat ha1 ha2 h2
  rw [encRs_raw, encR_raw]
  have hpc : p.len = p.c.length := rfl
  refine rr ?_
  refine om ?_
  refine oq (.callR (yb := asc (.inl rfl) as2) (yc := few_T p 10 3 (by decide) (by decide) h1)) ?_
  refine oq .notR ?_
  refine om ?_
  refine gq .loadR ?_
  refine gq (.callR (yb := asc (.inl rfl) as1) (yc := small_T a 2 (by decide) h2)) ?_
  refine gq .notR ?_
  refine oq (.pickF rfl (by rfl) rfl) ?_
  refine wo_nil ?_
  refine wp_cF rfl (by rfl) ?_
  refine wp_k ?_
  refine then_n ?_
  rcases (show p = 0 ∨ p ≠ 0 from Classical.em _) with h0 | h0
  ·have hp0 : p.c.length = 0 := by rw [pol_nil.2 h0]; rfl
   refine rr ?_
   refine om ?_
   refine oq (.callR (yb := as1) (yc := roots0 h0)) ?_
   refine om ?_
   refine oq .extractR ?_
   refine oq .extractR ?_
   refine oa ?_
   refine oa ?_
   refine wo_nil ?_
   refine wp_s ?_
   refine rr ?_
   refine om ?_
   refine oq (.lenR (yc := .inl rfl) (yd := by exact encQs_len)) ?_
   refine oq .cmpR ?_
   refine wo_nil ?_
   refine wp_cT rfl (by exact beq_iff_eq.2 (by omega)) ?_
   refine rr ?_
   refine oq (.callR (yb := asn) (yc := law03_sane)) ?_
   refine om ?_
   refine gq .moveR ?_
   refine gq .cmpR ?_
   refine oq (.pickT rfl (by rfl) rfl) ?_
   refine oa ?_
   refine wo_nil ?_
   refine wp_rt ?_
   refine then_ret ?_
   exact ⟨.inr rfl, rfl, (by (refine res_t rfl ?_); (rfl)), trivial⟩
  ·have sp : SB 56 11 p := SB.of hpB hpl
   have sl := sb_lin haB
   have spl : SB 77 12 (p * lin a) := ⟨(sp.c.mul sl.c).le (by have := sp.l; omega), by have := (Poly.len_mul h0 (lin_ne a)).1; rw [lin_len] at this; omega⟩
   have hpl0 : p * lin a ≠ 0 := Poly.mul_ne h0 (lin_ne a)
   obtain ⟨R, hR, hRm, hRa⟩ := roots_is h0 sp.c (by decide) (by omega)
   obtain ⟨R2, hR2, hR2m, hR2a⟩ := roots_is hpl0 spl.c (by decide) (by have := spl.l; omega)
   have hpp := Poly.len_pos h0
   have hRl := roots_few R p h0 (hRa.imp fun h e => by subst e; exact Rat.lt_irrefl h) fun y hy => (hRm y).1 hy
   have hyB : ∀ y, y ∈ R → Bq 3000 y := fun y hy => bq_root h0 sp.c (by decide) (by omega) ((hRm y).1 hy)
   have hR2mem : ∀ y, y ∈ R2 ↔ y = a ∨ y ∈ R := fun y => by
    rw [hR2m, hRm, Poly.eval_mul, lin_eval]
    constructor
    ·intro h; by_cases e : y - a = 0; (exact .inl (by grind)); (exact .inr (Classical.byContradiction fun h9 => Poly.fmul_ne h9 e h))
    ·rintro (h | h); (rw [h]; grind); (rw [h]; grind)
   refine rr ?_
   refine om ?_
   refine oq (.callR (yb := as1) (yc := hR)) ?_
   refine om ?_
   refine oq .extractR ?_
   refine oq .extractR ?_
   refine oa ?_
   refine oa ?_
   refine wo_nil ?_
   refine wp_s ?_
   refine rr ?_
   refine om ?_
   refine oq (.lenR (yc := .inl rfl) (yd := by exact encQs_len)) ?_
   refine oq .cmpR ?_
   refine wo_nil ?_
   refine wp_cF rfl (by exact beq_eq_false_iff_ne.2 (by omega)) ?_
   refine wp_k ?_
   refine then_n ?_
   refine rr ?_
   refine om ?_
   refine oq .loadR ?_
   refine oq (.callR (yb := as1) (yc := ref02_Neg a)) ?_
   refine oq (.callR (yb := as1) (yc := ref02_Int 1 (by decide) (by decide))) ?_
   refine oq (.buildSliceR (ye := asc (.inl rfl) as1) (yg := by decide) (yj := by decide) (yk := by decide)) ?_
   refine oq (.callR (yb := asc (.inl rfl) as1) (yc := mulLin sp haB (by decide) (by decide))) ?_
   refine oq (.callR (yb := as1) (yc := hR2)) ?_
   refine om ?_
   refine oq .extractR ?_
   refine oq .extractR ?_
   refine oa ?_
   refine oa ?_
   refine wo_nil ?_
   refine wp_s ?_
   refine rr ?_
   refine om ?_
   refine oq .cmpR ?_
   refine om ?_
   refine gq .moveR ?_
   refine gq .cmpR ?_
   refine oq (.pickF rfl (by rfl) rfl) ?_
   refine om ?_
   refine gq .moveR ?_
   refine gq (.lenR (yc := .inl rfl) (yd := by exact encQs_len)) ?_
   refine gq .moveR ?_
   refine gq (.callR (yb := as1) (yc := ref03_Deg p)) ?_
   refine gq .cmpR ?_
   refine oq (.pickF rfl (by rfl) rfl) ?_
   refine wo_nil ?_
   refine wp_cF rfl (by exact decide_eq_false (by omega)) ?_
   refine wp_k ?_
   refine then_n ?_
   refine rr ?_
   refine oa ?_
   refine oa ?_
   refine wo_nil ?_
   refine wp_s ?_
   refine rr ?_
   refine oa ?_
   refine wo_nil ?_
   refine wp_b ?_
   refine wp_l2 hK (krc 0 rfl (krc 3 rfl (krc 5 rfl (krc 7 rfl krn)))) khn (fun sl' h' (i : Nat) => ⟨(9, .t (.b (decide (a ∈ R.take i)))) :: (10, .t (.i .i64 ((atQ R a i : Nat) : Int))) :: (11, .t (.i .i64 (i))) :: sl', h', 0, 0⟩) (fun i => i ≤ R.length) (fun i => R.length - i) 0 ?_ (fun _ => rfl) ?_ ?_
   ·exact Nat.zero_le _
   ·exact il
   ·intro i hi
    refine wp_s ?_
    refine rr ?_
    refine om ?_
    refine om ?_
    refine oq (.lenR (yc := .inl rfl) (yd := by exact encQs_len)) ?_
    refine oq .cmpR ?_
    refine wo_nil ?_
    refine wp_c rfl (fun hc => ?_) (fun hc => ?_)
    ·have hci : i < R.length := by simpa using hc
     obtain ⟨y, hy⟩ : ∃ y, R[i]? = some y := ⟨_, List.getElem?_eq_getElem hci⟩
     have hym := List.mem_of_getElem? hy
     have hyb := hyB y hym
     have hyd : R.getD i 0 = y := by rw [List.getD_eq_getElem?_getD, hy]; rfl
     refine wp_k ?_
     refine then_n ?_
     refine wp_s ?_
     refine wp_b ?_
     refine wp_s ?_
     rcases (show i = 0 ∨ 0 < i by omega) with g0 | g0
     ·refine wp_d tbOk hF mixed hG [] (by kernel_rfl) ?_
      refine dq .moveR ?_
      refine dq .moveR ?_
      refine dq (.indexAddrR (yf := by omega) (yg := by exact encQs_atn (i := i) rfl hy)) ?_
      refine dq .loadR ?_
      refine dq (.callR (yb := as1) (yc := ref02_IsT y (hyb.le (by decide)))) ?_
      refine dq .notR ?_
      refine dq .moveR ?_
      refine wd_gq rfl rfl rfl (by rfl) rfl rfl rfl .moveR ?_
      refine wd_gq rfl rfl rfl (by rfl) rfl rfl rfl .moveR ?_
      refine wd_gq rfl rfl rfl (by rfl) rfl rfl rfl .moveR ?_
      refine wd_gq rfl rfl rfl (by rfl) rfl rfl rfl (.indexAddrR (yf := by omega) (yg := by exact encQs_atn (i := i) rfl hy)) ?_
      refine wd_gq rfl rfl rfl (by rfl) rfl rfl rfl .loadR ?_
      refine wd_gq rfl rfl rfl (by rfl) rfl rfl rfl (.callR (yb := asc (.inl rfl) as1) (yc := evalE sp hyb (by decide) ((hRm y).1 hym))) ?_
      refine wd_gq rfl rfl rfl (by rfl) rfl rfl rfl (.callR (yb := as1) (yc := sign0)) ?_
      refine wd_gq rfl rfl rfl (by rfl) rfl rfl rfl .cmpR ?_
      refine dq (.pickF rfl (by rfl) rfl) ?_
      refine dq .moveR ?_
      refine wd_gq rfl rfl rfl (by rfl) rfl rfl rfl .moveR ?_
      refine wd_gq rfl rfl rfl (by rfl) rfl rfl rfl .cmpR ?_
      refine wd_gq rfl rfl rfl (by rfl) rfl rfl rfl .moveR ?_
      refine wd_gs rfl rfl rfl (by exact gtS (by omega)) rfl rfl rfl ?_
      refine wd_gs rfl rfl rfl (by exact gtS (by omega)) rfl rfl rfl ?_
      refine wd_gs rfl rfl rfl (by exact gtS (by omega)) rfl rfl rfl ?_
      refine wd_gs rfl rfl rfl (by exact gtS (by omega)) rfl rfl rfl ?_
      refine wd_gs rfl rfl rfl (by exact gtS (by omega)) rfl rfl rfl ?_
      refine wd_gs rfl rfl rfl (by exact gtS (by omega)) rfl rfl rfl ?_
      refine wd_gs rfl rfl rfl (by exact gtS (by omega)) rfl rfl rfl ?_
      refine wd_gs rfl rfl rfl (by exact gtS (by omega)) rfl rfl rfl ?_
      refine wd_gs rfl rfl rfl (by exact gtS (by omega)) rfl rfl rfl ?_
      refine wd_gs rfl rfl rfl (by exact gtS (by omega)) rfl rfl rfl ?_
      refine wd_gs rfl rfl rfl (by exact gtS (by omega)) rfl rfl rfl ?_
      refine wd_gq rfl rfl rfl (by rfl) rfl rfl rfl (.pickF rfl (by exact gtS (by omega)) rfl) ?_
      refine dq (.pickF rfl (by rfl) rfl) ?_
      refine wd_nil ?_
      refine wp_cF rfl (by rfl) ?_
      refine wp_k ?_
      refine then_n ?_
      rcases Classical.em (a ∈ R.take i) with g1 | g1
      ·refine wp_d tbOk hF mixed hG [] (by kernel_rfl) ?_
       refine dq .moveR ?_
       refine dq .moveR ?_
       refine wd_gs rfl rfl rfl (by exact gtS' g1) rfl rfl rfl ?_
       refine wd_gs rfl rfl rfl (by exact gtS' g1) rfl rfl rfl ?_
       refine wd_gs rfl rfl rfl (by exact gtS' g1) rfl rfl rfl ?_
       refine wd_gs rfl rfl rfl (by exact gtS' g1) rfl rfl rfl ?_
       refine wd_gs rfl rfl rfl (by exact gtS' g1) rfl rfl rfl ?_
       refine wd_gs rfl rfl rfl (by exact gtS' g1) rfl rfl rfl ?_
       refine dq (.pickT rfl (by exact gtT g1) rfl) ?_
       refine dq .assignR ?_
       refine wd_nil ?_
       refine wp_d tbOk hF mixed hG [] (by kernel_rfl) ?_
       refine dq .moveR ?_
       refine dq .moveR ?_
       refine dq (.indexAddrR (yf := by omega) (yg := by exact encQs_atn (i := i) rfl hy)) ?_
       refine dq .loadR ?_
       refine dq .loadR ?_
       refine dq (.callR (yb := asc (.inl rfl) as1) (yc := ref02_Cmp y a (hyb.le (by decide)) (haB.le (by decide)))) ?_
       refine dq .cmpR ?_
       refine wd_nil ?_
       refine wp_c rfl (fun hc => ?_) (fun hc => ?_)
       ·refine rr0 ?_
        refine om ?_
        refine oq (.arithR (yd := by exact wrap_i64 (by omega))) ?_
        refine oa ?_
        refine wo_nil ?_
        refine blk_n ?_
        refine then_n ?_
        refine rr0 ?_
        refine om ?_
        refine oq (.arithR (yd := by exact wrap_i64 (by omega))) ?_
        refine oa ?_
        refine wo_nil ?_
        exact round_n (i + 1) (by omega) (by omega) (by exact imp_less (by repeat' (first | exact trivial | (refine And.intro (by first | rfl | exact getb rfl (in_step hy g1) | exact geti rfl (at_step1 hyd hc)) ?_))) (by repeat' (exact trivial)) (by exact Nat.le_of_ble_eq_true rfl))
       ·refine wp_k ?_
        refine blk_n ?_
        refine then_n ?_
        refine rr0 ?_
        refine om ?_
        refine oq (.arithR (yd := by exact wrap_i64 (by omega))) ?_
        refine oa ?_
        refine wo_nil ?_
        exact round_n (i + 1) (by omega) (by omega) (by exact imp_less (by repeat' (first | exact trivial | (refine And.intro (by first | rfl | exact getb rfl (in_step hy g1) | exact geti rfl (at_step2 hyd hc)) ?_))) (by repeat' (exact trivial)) (by exact Nat.le_of_ble_eq_true rfl))
      ·refine wp_d tbOk hF mixed hG [] (by kernel_rfl) ?_
       refine dq .moveR ?_
       refine dq .moveR ?_
       refine wd_gq rfl rfl rfl (by exact gtF g1) rfl rfl rfl .moveR ?_
       refine wd_gq rfl rfl rfl (by exact gtF g1) rfl rfl rfl .moveR ?_
       refine wd_gq rfl rfl rfl (by exact gtF g1) rfl rfl rfl (.indexAddrR (yf := by omega) (yg := by exact encQs_atn (i := i) rfl hy)) ?_
       refine wd_gq rfl rfl rfl (by exact gtF g1) rfl rfl rfl .loadR ?_
       refine wd_gq rfl rfl rfl (by exact gtF g1) rfl rfl rfl .loadR ?_
       refine wd_gq rfl rfl rfl (by exact gtF g1) rfl rfl rfl (.callR (yb := asc (.inl rfl) as1) (yc := ref02_Same y a)) ?_
       refine dq (.pickF rfl (by exact gtS g1) rfl) ?_
       refine dq .assignR ?_
       refine wd_nil ?_
       refine wp_d tbOk hF mixed hG [] (by kernel_rfl) ?_
       refine dq .moveR ?_
       refine dq .moveR ?_
       refine dq (.indexAddrR (yf := by omega) (yg := by exact encQs_atn (i := i) rfl hy)) ?_
       refine dq .loadR ?_
       refine dq .loadR ?_
       refine dq (.callR (yb := asc (.inl rfl) as1) (yc := ref02_Cmp y a (hyb.le (by decide)) (haB.le (by decide)))) ?_
       refine dq .cmpR ?_
       refine wd_nil ?_
       refine wp_c rfl (fun hc => ?_) (fun hc => ?_)
       ·refine rr0 ?_
        refine om ?_
        refine oq (.arithR (yd := by exact wrap_i64 (by omega))) ?_
        refine oa ?_
        refine wo_nil ?_
        refine blk_n ?_
        refine then_n ?_
        refine rr0 ?_
        refine om ?_
        refine oq (.arithR (yd := by exact wrap_i64 (by omega))) ?_
        refine oa ?_
        refine wo_nil ?_
        exact round_n (i + 1) (by omega) (by omega) (by exact imp_less (by repeat' (first | exact trivial | (refine And.intro (by first | rfl | exact getb rfl (in_step2 hy g1) | exact geti rfl (at_step1 hyd hc)) ?_))) (by repeat' (exact trivial)) (by exact Nat.le_of_ble_eq_true rfl))
       ·refine wp_k ?_
        refine blk_n ?_
        refine then_n ?_
        refine rr0 ?_
        refine om ?_
        refine oq (.arithR (yd := by exact wrap_i64 (by omega))) ?_
        refine oa ?_
        refine wo_nil ?_
        exact round_n (i + 1) (by omega) (by omega) (by exact imp_less (by repeat' (first | exact trivial | (refine And.intro (by first | rfl | exact getb rfl (in_step2 hy g1) | exact geti rfl (at_step2 hyd hc)) ?_))) (by repeat' (exact trivial)) (by exact Nat.le_of_ble_eq_true rfl))
     ·obtain ⟨z, hz⟩ : ∃ z, R[i - 1]? = some z := ⟨_, List.getElem?_eq_getElem (by omega)⟩
      have hzb := hyB z (List.mem_of_getElem? hz)
      have hzy := asc_at hRa (show i - 1 < i by omega) hz hy
      refine wp_d tbOk hF mixed hG [] (by kernel_rfl) ?_
      refine dq .moveR ?_
      refine dq .moveR ?_
      refine dq (.indexAddrR (yf := by omega) (yg := by exact encQs_atn (i := i) rfl hy)) ?_
      refine dq .loadR ?_
      refine dq (.callR (yb := as1) (yc := ref02_IsT y (hyb.le (by decide)))) ?_
      refine dq .notR ?_
      refine dq .moveR ?_
      refine wd_gq rfl rfl rfl (by rfl) rfl rfl rfl .moveR ?_
      refine wd_gq rfl rfl rfl (by rfl) rfl rfl rfl .moveR ?_
      refine wd_gq rfl rfl rfl (by rfl) rfl rfl rfl .moveR ?_
      refine wd_gq rfl rfl rfl (by rfl) rfl rfl rfl (.indexAddrR (yf := by omega) (yg := by exact encQs_atn (i := i) rfl hy)) ?_
      refine wd_gq rfl rfl rfl (by rfl) rfl rfl rfl .loadR ?_
      refine wd_gq rfl rfl rfl (by rfl) rfl rfl rfl (.callR (yb := asc (.inl rfl) as1) (yc := evalE sp hyb (by decide) ((hRm y).1 hym))) ?_
      refine wd_gq rfl rfl rfl (by rfl) rfl rfl rfl (.callR (yb := as1) (yc := sign0)) ?_
      refine wd_gq rfl rfl rfl (by rfl) rfl rfl rfl .cmpR ?_
      refine dq (.pickF rfl (by rfl) rfl) ?_
      refine dq .moveR ?_
      refine wd_gq rfl rfl rfl (by rfl) rfl rfl rfl .moveR ?_
      refine wd_gq rfl rfl rfl (by rfl) rfl rfl rfl .cmpR ?_
      refine wd_gq rfl rfl rfl (by rfl) rfl rfl rfl .moveR ?_
      refine wd_gq rfl rfl rfl (by exact gtT (by omega)) rfl rfl rfl .moveR ?_
      refine wd_gq rfl rfl rfl (by exact gtT (by omega)) rfl rfl rfl .moveR ?_
      refine wd_gq rfl rfl rfl (by exact gtT (by omega)) rfl rfl rfl (.arithR (yd := by exact wrap_i64 (by omega))) ?_
      refine wd_gq rfl rfl rfl (by exact gtT (by omega)) rfl rfl rfl (.indexAddrR (yf := by omega) (yg := by exact encQs_atn (i := i - 1) (by omega) hz)) ?_
      refine wd_gq rfl rfl rfl (by exact gtT (by omega)) rfl rfl rfl .loadR ?_
      refine wd_gq rfl rfl rfl (by exact gtT (by omega)) rfl rfl rfl .moveR ?_
      refine wd_gq rfl rfl rfl (by exact gtT (by omega)) rfl rfl rfl .moveR ?_
      refine wd_gq rfl rfl rfl (by exact gtT (by omega)) rfl rfl rfl (.indexAddrR (yf := by omega) (yg := by exact encQs_atn (i := i) rfl hy)) ?_
      refine wd_gq rfl rfl rfl (by exact gtT (by omega)) rfl rfl rfl .loadR ?_
      refine wd_gq rfl rfl rfl (by exact gtT (by omega)) rfl rfl rfl (.callR (yb := asc (.inl rfl) as1) (yc := cmpL hzy (hzb.le (by decide)) (hyb.le (by decide)))) ?_
      refine wd_gq rfl rfl rfl (by exact gtT (by omega)) rfl rfl rfl .cmpR ?_
      refine wd_gq rfl rfl rfl (by rfl) rfl rfl rfl (.pickT rfl (by exact gtT (by omega)) rfl) ?_
      refine dq (.pickF rfl (by rfl) rfl) ?_
      refine wd_nil ?_
      refine wp_cF rfl (by rfl) ?_
      refine wp_k ?_
      refine then_n ?_
      rcases Classical.em (a ∈ R.take i) with g1 | g1
      ·refine wp_d tbOk hF mixed hG [] (by kernel_rfl) ?_
       refine dq .moveR ?_
       refine dq .moveR ?_
       refine wd_gs rfl rfl rfl (by exact gtS' g1) rfl rfl rfl ?_
       refine wd_gs rfl rfl rfl (by exact gtS' g1) rfl rfl rfl ?_
       refine wd_gs rfl rfl rfl (by exact gtS' g1) rfl rfl rfl ?_
       refine wd_gs rfl rfl rfl (by exact gtS' g1) rfl rfl rfl ?_
       refine wd_gs rfl rfl rfl (by exact gtS' g1) rfl rfl rfl ?_
       refine wd_gs rfl rfl rfl (by exact gtS' g1) rfl rfl rfl ?_
       refine dq (.pickT rfl (by exact gtT g1) rfl) ?_
       refine dq .assignR ?_
       refine wd_nil ?_
       refine wp_d tbOk hF mixed hG [] (by kernel_rfl) ?_
       refine dq .moveR ?_
       refine dq .moveR ?_
       refine dq (.indexAddrR (yf := by omega) (yg := by exact encQs_atn (i := i) rfl hy)) ?_
       refine dq .loadR ?_
       refine dq .loadR ?_
       refine dq (.callR (yb := asc (.inl rfl) as1) (yc := ref02_Cmp y a (hyb.le (by decide)) (haB.le (by decide)))) ?_
       refine dq .cmpR ?_
       refine wd_nil ?_
       refine wp_c rfl (fun hc => ?_) (fun hc => ?_)
       ·refine rr0 ?_
        refine om ?_
        refine oq (.arithR (yd := by exact wrap_i64 (by omega))) ?_
        refine oa ?_
        refine wo_nil ?_
        refine blk_n ?_
        refine then_n ?_
        refine rr0 ?_
        refine om ?_
        refine oq (.arithR (yd := by exact wrap_i64 (by omega))) ?_
        refine oa ?_
        refine wo_nil ?_
        exact round_n (i + 1) (by omega) (by omega) (by exact imp_less (by repeat' (first | exact trivial | (refine And.intro (by first | rfl | exact getb rfl (in_step hy g1) | exact geti rfl (at_step1 hyd hc)) ?_))) (by repeat' (exact trivial)) (by exact Nat.le_of_ble_eq_true rfl))
       ·refine wp_k ?_
        refine blk_n ?_
        refine then_n ?_
        refine rr0 ?_
        refine om ?_
        refine oq (.arithR (yd := by exact wrap_i64 (by omega))) ?_
        refine oa ?_
        refine wo_nil ?_
        exact round_n (i + 1) (by omega) (by omega) (by exact imp_less (by repeat' (first | exact trivial | (refine And.intro (by first | rfl | exact getb rfl (in_step hy g1) | exact geti rfl (at_step2 hyd hc)) ?_))) (by repeat' (exact trivial)) (by exact Nat.le_of_ble_eq_true rfl))
      ·refine wp_d tbOk hF mixed hG [] (by kernel_rfl) ?_
       refine dq .moveR ?_
       refine dq .moveR ?_
       refine wd_gq rfl rfl rfl (by exact gtF g1) rfl rfl rfl .moveR ?_
       refine wd_gq rfl rfl rfl (by exact gtF g1) rfl rfl rfl .moveR ?_
       refine wd_gq rfl rfl rfl (by exact gtF g1) rfl rfl rfl (.indexAddrR (yf := by omega) (yg := by exact encQs_atn (i := i) rfl hy)) ?_
       refine wd_gq rfl rfl rfl (by exact gtF g1) rfl rfl rfl .loadR ?_
       refine wd_gq rfl rfl rfl (by exact gtF g1) rfl rfl rfl .loadR ?_
       refine wd_gq rfl rfl rfl (by exact gtF g1) rfl rfl rfl (.callR (yb := asc (.inl rfl) as1) (yc := ref02_Same y a)) ?_
       refine dq (.pickF rfl (by exact gtS g1) rfl) ?_
       refine dq .assignR ?_
       refine wd_nil ?_
       refine wp_d tbOk hF mixed hG [] (by kernel_rfl) ?_
       refine dq .moveR ?_
       refine dq .moveR ?_
       refine dq (.indexAddrR (yf := by omega) (yg := by exact encQs_atn (i := i) rfl hy)) ?_
       refine dq .loadR ?_
       refine dq .loadR ?_
       refine dq (.callR (yb := asc (.inl rfl) as1) (yc := ref02_Cmp y a (hyb.le (by decide)) (haB.le (by decide)))) ?_
       refine dq .cmpR ?_
       refine wd_nil ?_
       refine wp_c rfl (fun hc => ?_) (fun hc => ?_)
       ·refine rr0 ?_
        refine om ?_
        refine oq (.arithR (yd := by exact wrap_i64 (by omega))) ?_
        refine oa ?_
        refine wo_nil ?_
        refine blk_n ?_
        refine then_n ?_
        refine rr0 ?_
        refine om ?_
        refine oq (.arithR (yd := by exact wrap_i64 (by omega))) ?_
        refine oa ?_
        refine wo_nil ?_
        exact round_n (i + 1) (by omega) (by omega) (by exact imp_less (by repeat' (first | exact trivial | (refine And.intro (by first | rfl | exact getb rfl (in_step2 hy g1) | exact geti rfl (at_step1 hyd hc)) ?_))) (by repeat' (exact trivial)) (by exact Nat.le_of_ble_eq_true rfl))
       ·refine wp_k ?_
        refine blk_n ?_
        refine then_n ?_
        refine rr0 ?_
        refine om ?_
        refine oq (.arithR (yd := by exact wrap_i64 (by omega))) ?_
        refine oa ?_
        refine wo_nil ?_
        exact round_n (i + 1) (by omega) (by omega) (by exact imp_less (by repeat' (first | exact trivial | (refine And.intro (by first | rfl | exact getb rfl (in_step2 hy g1) | exact geti rfl (at_step2 hyd hc)) ?_))) (by repeat' (exact trivial)) (by exact Nat.le_of_ble_eq_true rfl))
    ·have hci : i = R.length := by { have : ¬ i < R.length := (by simpa using hc); omega }
     rw [hci, List.take_length]
     refine wp_x ?_
     refine then_exit ?_
     refine round_exit ?_
     refine blk_hit ?_
     refine then_n ?_
     refine rr ?_
     refine om ?_
     refine oa ?_
     refine wo_nil ?_
     refine wp_j hK (fun _ : Unit => ⟨[(0, .t (encP p)), (3, .t (.pt (encQ a))), (7, .t (encQs R2)), (9, .t (.b (decide (a ∈ R)))), (12, .t (encQs (if a ∈ R then R else sw a R (atQ R a R.length))))], [], 9, 0⟩) (fun _ => True) (fun _ => rfl) ?_ ?_
     ·rcases Classical.em (a ∈ R) with g1 | g1
      ·rw [decide_eq_true g1, if_pos g1]
       refine rr ?_
       refine om ?_
       refine oq .notR ?_
       refine wo_nil ?_
       refine wp_cF rfl (by rfl) ?_
       refine wp_k ?_
       exact join_n () (by trivial) (by exact il)
      ·rw [decide_eq_false g1, if_neg g1]
       obtain ⟨k1, _⟩ := atQ_spec hRa g1 R.length (Nat.le_refl _)
       refine rr ?_
       refine om ?_
       refine oq .notR ?_
       refine wo_nil ?_
       refine wp_cT rfl (by rfl) ?_
       refine wp_dq0 6 4 [0, 1, 2, 8, 9, 10, 3, 5, 4, 6, 7, 11, 12] [0, 1, 2, 8, 9, 10, 3, 5, 6, 4, 7, 11, 12] tbOk hF mixed hG [7] [] rfl (by kernel_rfl) (by kernel_rfl) (by kernel_rfl) (by kernel_rfl) (by kernel_rfl) ?_ ?_
       ·refine wd_n rfl rfl rfl rfl (.buildSliceMR (ye := asn) (yg := by decide) (yj := by decide) (yk := by decide)) ?_
        refine dq .moveR ?_
        refine dq .moveR ?_
        refine dq .moveR ?_
        refine dq .moveR ?_
        refine dq (.sliceR (yd := .inl rfl) (ye := ⟨_, rfl⟩) (yg := by omega) (yh := by (rw [List.length_map]; omega)) (yi := by omega)) ?_
        refine dq (.sliceR (yd := .inl rfl) (yf := ⟨_, rfl⟩) (yg := by omega) (yh := by omega) (yi := by (rw [List.length_map]; omega))) ?_
        refine wd_ql rfl rfl rfl .loadR ?_
        refine wd_ed rfl rfl rfl (appendW rfl rfl rfl (by decide) (by decide) rfl rfl rfl rfl (by rfl) (.inl rfl) (by (simp only [← List.map_take, ← List.map_drop]; exact encQs_flat)) (by (simp [wds_len]; omega))) (by (repeat' (first | exact trivial | exact .load _ _ _ _ _ rfl rfl rfl | refine And.intro ?_ ?_))) ?_
        refine dq (.buildSliceR (ye := as1) (yg := by decide) (yj := by decide) (yk := by decide)) ?_
        refine wd_ed rfl rfl rfl (appendW rfl rfl rfl (by decide) (by decide) rfl rfl rfl rfl (by rfl) (.inl rfl) (by rfl) (by (simp [wds_len]; omega))) (by (repeat' (first | exact trivial | exact .load _ _ _ _ _ rfl rfl rfl | refine And.intro ?_ ?_))) ?_
        refine wd_ed rfl rfl rfl (.appendFR (yd := by decide) (ye := by decide) (yk := List.length_map _) (yl := .inl rfl) (ym := by (simp only [← List.map_take, ← List.map_drop]; exact encQs_flat)) (yn := by (simp [wds_len]; omega))) (by (repeat' (first | exact trivial | exact .load _ _ _ _ _ rfl rfl rfl | refine And.intro ?_ ?_))) ?_
        refine dq .assignR ?_
        refine wd_nil ?_
        exact join_n () (by trivial) (by exact imp_less (by repeat' (first | exact trivial | (refine And.intro (by first | rfl | exact getl rfl (want_eq k1)) ?_))) (by repeat' (exact trivial)) (by exact Nat.le_of_ble_eq_true rfl))
       ·refine wd_n rfl rfl rfl rfl (.buildSliceMR (ye := asn) (yg := by decide) (yj := by decide) (yk := by decide)) ?_
        refine dq .moveR ?_
        refine dq .moveR ?_
        refine dq .moveR ?_
        refine dq .moveR ?_
        refine dq (.sliceR (yd := .inl rfl) (ye := ⟨_, rfl⟩) (yg := by omega) (yh := by (rw [List.length_map]; omega)) (yi := by omega)) ?_
        refine dq (.sliceR (yd := .inl rfl) (yf := ⟨_, rfl⟩) (yg := by omega) (yh := by omega) (yi := by (rw [List.length_map]; omega))) ?_
        refine dq .loadR ?_
        refine dq (.buildSliceR (ye := as1) (yg := by decide) (yj := by decide) (yk := by decide)) ?_
        refine wd_ed rfl rfl rfl (appendW rfl rfl rfl (by decide) (by decide) rfl rfl rfl rfl (by rfl) (.inl rfl) (by (simp only [← List.map_take, ← List.map_drop]; exact encQs_flat)) (by (simp [wds_len]; omega))) (by exact trivial) ?_
        refine wd_ed rfl rfl rfl (appendW rfl rfl rfl (by decide) (by decide) rfl rfl rfl rfl (by rfl) (.inl rfl) (by rfl) (by (simp [wds_len]; omega))) (by exact trivial) ?_
        refine wd_ed rfl rfl rfl (.appendFR (yd := by decide) (ye := by decide) (yk := List.length_map _) (yl := .inl rfl) (ym := by (simp only [← List.map_take, ← List.map_drop]; exact encQs_flat)) (yn := by (simp [wds_len]; omega))) (by exact trivial) ?_
        refine dq .assignR ?_
        refine wd_nil ?_
        exact join_n () (by trivial) (by exact imp_less (by repeat' (first | exact trivial | (refine And.intro (by first | rfl | exact getl rfl (want_eq k1)) ?_))) (by repeat' (exact trivial)) (by exact Nat.le_of_ble_eq_true rfl))
     ·intro _ _
      rcases Classical.em (a ∈ R) with g2 | g2
      ·rw [decide_eq_true g2, if_pos g2]
       refine rr ?_
       refine oq (.callR (yb := asn) (yc := law03_sane)) ?_
       refine om ?_
       refine gq .moveR ?_
       refine gq .moveR ?_
       refine gq .loadR ?_
       refine gq (.callR (yb := asc (.inl rfl) as1) (yc := evalE sp haB (by decide) ((hRm a).1 g2))) ?_
       refine gq (.callR (yb := as1) (yc := sign0)) ?_
       refine gq .cmpR ?_
       refine gq .eqBR ?_
       refine oq (.pickT rfl (by rfl) rfl) ?_
       refine om ?_
       refine gq .moveR ?_
       refine gq .moveR ?_
       refine gq (.callR (yb := asc (.inl rfl) as1) (yc := sameAllE (asc_ext hR2a hRa fun y => by rw [hR2mem]; exact ⟨fun h => h.elim (fun e => by rw [e]; exact g2) id, .inr⟩))) ?_
       refine oq (.pickT rfl (by rfl) rfl) ?_
       refine oa ?_
       refine wo_nil ?_
       refine wp_rt ?_
       exact ⟨.inr rfl, rfl, (by (refine res_t rfl ?_); (rfl)), trivial⟩
      ·rw [decide_eq_false g2, if_neg g2]
       have he : p.eval a ≠ 0 := fun e => g2 ((hRm a).2 e)
       have hsg : ((p.eval a).num.sign == 0) = false := beq_eq_false_iff_ne.2 fun e => he (Rat.num_eq_zero.1 (Int.sign_eq_zero_iff_zero.1 e))
       obtain ⟨k1, k2, k3⟩ := atQ_spec hRa g2 R.length (Nat.le_refl _)
       refine rr ?_
       refine oq (.callR (yb := asn) (yc := law03_sane)) ?_
       refine om ?_
       refine gq .moveR ?_
       refine gq .moveR ?_
       refine gq .loadR ?_
       refine gq (.callR (yb := asc (.inl rfl) as1) (yc := evalE sp haB (by decide) rfl)) ?_
       refine gq (.callR (yb := as1) (yc := ref02_Sign _)) ?_
       refine gq .cmpR ?_
       refine gq .eqBR ?_
       refine oq (.pickT rfl (by rfl) rfl) ?_
       refine om ?_
       refine gq (z := by (rw [hsg]; rfl)) .moveR ?_
       refine gq (z := by (rw [hsg]; rfl)) .moveR ?_
       refine gq (z := by (rw [hsg]; rfl)) (.callR (yb := asc (.inl rfl) as1) (yc := sameAllE (asc_ext hR2a (asc_put hRa k2 fun i y hi hy => k3 i y hi (List.getElem?_eq_some_iff.1 hy).1 hy) fun y => by rw [hR2mem, mem_sw]))) ?_
       refine oq (.pickT rfl (by (rw [hsg]; rfl)) rfl) ?_
       refine oa ?_
       refine wo_nil ?_
       refine wp_rt ?_
       exact ⟨.inr rfl, rfl, (by (refine res_t rfl ?_); (rfl)), trivial⟩
end Go.Proofs.YtacenhlcfeepgaaGreat
