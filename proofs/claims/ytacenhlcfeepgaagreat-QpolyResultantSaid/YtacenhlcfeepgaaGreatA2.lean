/- The law is true whatever its arguments are, and these read behind the call as they read before (the row, part 2 of 9: our program logic, contracts of the functions, the law). No conditions. -/
import Derived.Test.YtacenhlcfeepgaaGreatA1
import Derived.RangeFuncLeaves
import Derived.Orders
set_option linter.unusedVariables false
set_option linter.unusedSimpArgs false
set_option linter.unusedSectionVars false
set_option maxHeartbeats 4000000
set_option maxRecDepth 100000
namespace Go.Proofs.YtacenhlcfeepgaaGreat.Eng
open Go
structure Sta where
 sl : Slots
 h : Heap
 nx : Nat
 df : Nat
 deriving Inhabited
def markOf (r : Nat) : Deferred := { target := .collected r, args := #[] }
def Marks (G : Gh) (w : World) (ds : List Deferred) (n : Nat) : Prop :=
 ∃ ms : List Nat, ds = ms.map markOf ∧ ms.Nodup ∧ ms.length = n ∧ ∀ r ∈ ms, w.heap[r]? = some (.deferred (some [])) ∧ G.w0.heap.size ≤ r
structure Rel (tb : Tab) (G : Gh) (w : World) (a : Act) (φ : Phi) (S : Nat → Prop) (s : Sta) : Prop where
 hr : HR tb G w φ S s.h s.nx
 sl : ∀ d v, get s.sl d = some v → RepV tb w φ S (a.tmps.getD d undef) v
 nt : a.tmps.size = G.nt
 df : Marks G w a.defers s.df
 kp : Keeps G.w0 w G.φ0 φ G.S0 S
 nc : NC G.w0 w
theorem Marks.keep {G : Gh} {w w' : World} {ds : List Deferred} {n : Nat} (h : Marks G w ds n) (k : NC w w') : Marks G w' ds n := by
 obtain ⟨ms, h1, h2, h3, h4⟩ := h
 exact ⟨ms, h1, h2, h3, fun r hr => ⟨k r _ (h4 r hr).1 rfl, (h4 r hr).2⟩⟩
def Wd (F : Fence) : Prop := F = Fence.wide ∨ ∃ l, F = Fence.wide.inRound l
theorem Wd.steps {F : Fence} (h : Wd F) {P : Program} {m m' : Machine} : StepsIn (Machine.fenced P F) P m m' ↔ Steps P m m' := by
 rcases h with rfl | ⟨l, rfl⟩ <;> exact stepsIn_wide
def UponF (P : Program) (N : Value → World → Prop) : Result Next → Prop
 | .ok (.value v) w' => N v w'
 | .ok .skip w' => N undef w'
 | .ok (.enter f args) w' => Calls P f args w' fun e w'' => ∃ v, e = .returned v ∧ N v w''
 | .ok (.round l f tmps assign body) w' => RoundIn Fence.wide 0 P l f tmps assign body w' fun e w'' => ∃ v, e = .returned v ∧ N v w''
 | _ => False
theorem UponU.f {P : Program} {N : Value → World → Prop} {r : Result Next} (h : UponU P N r) : UponF P N r := by
 unfold UponU at h
 split at h <;> first | exact h | exact h.elim
def WPost (tb : Tab) (G : Gh) (Q : Exit → Sta → Prop) : Exit → Act → World → Prop :=
 fun e a w => ∃ s φ S, Rel tb G w a φ S s ∧ Q e s
def WP (P : Program) (tb : Tab) (G : Gh) (F : Fence) (c : Code) (s : Sta) (Q : Exit → Sta → Prop) : Prop :=
 ∀ n a w φ S, Rel tb G w a φ S s → c.wpIn F n P (WPost tb G Q) a w
def Imp (K : Nat) (tb : Tab) (s s' : Sta) : Prop := ∀ (G : Gh) (w : World) (a : Act) (φ : Phi) (S : Nat → Prop), G.k0 = K → K ≤ s'.nx → Rel tb G w a φ S s → ∃ φ' S', Rel tb G w a φ' S' s'
theorem Imp.refl {K : Nat} (tb : Tab) (s : Sta) : Imp K tb s s := fun G w a φ S _ _ h => ⟨φ, S, h⟩
def jumpOf : Exit → Option (Option Code)
 | .normal => some none
 | .ret => some (some .ret)
 | .exit i => some (some (.exit i))
 | .goto t => some (some (.goto t))
 | _ => none
def putPs : List Tmp → List AV → Slots → Slots
 | p :: ps, x :: xs, sl => putPs ps xs ((p, x) :: sl)
 | _, _, sl => sl
def RoundF (P : Program) (tb : Tab) (id : Nat) (sl : Slots) (ps : Array Tmp) (asg body : Code) (nt : Nat) (xs : List AV) (h : Heap) (nx : Nat) (b : Bool) (h' : Heap) (nx' : Nat) : Prop :=
 ∀ (G : Gh) (F : Fence), Wd F → G.nt = nt → G.k0 = nx →
  WP P tb G F asg ⟨putPs ps.toList xs sl, h, nx, 0⟩ fun e s1 => e = .normal ∧ s1.df = 0 ∧ get s1.h id = some (some (.loop sl ps asg body nt .ready none)) ∧
   WP P tb G F body ⟨s1.sl, (id, some (.loop sl ps asg body nt .busy none)) :: s1.h, s1.nx, 0⟩ fun e s2 => s2.df = 0 ∧ get s2.h id = some (some (.loop sl ps asg body nt .busy none)) ∧ nx ≤ nx' ∧
    ∃ jump, jumpOf e = some jump ∧ b = jump.isNone ∧ Imp nx tb ⟨[], (id, some (.loop sl ps asg body nt (if jump.isNone then .ready else .done) jump)) :: s2.h, s2.nx, 0⟩ ⟨[], h', nx', 0⟩
theorem roundIn_out {P : Program} {l : Nat} {f : FuncId} {tmps : Array Value} {assign body : Code} {w : World} {R : Ending → World → Prop}
  (h : assign.wpIn (Fence.wide.inRound l) 0 P (fun e a₁ w₁ => e = .normal ∧ ∃ w₂, (Instr.beginRound l).run P w₁ = .ok () w₂ ∧ body.wpIn (Fence.wide.inRound l) 0 P (fun e a w => roundPost P l R e a w) a₁ w₂) { tmps := tmps, defers := [] } w) :
  RoundIn Fence.wide 0 P l f tmps assign body w R := by
 refine ⟨trivial, fun c cs hr => ?_⟩
 let b : Frame := { (default : Frame) with fn := f, kind := .normal, roundOf := some l }
 have hb0 : Frame.round l f tmps assign body .normal = b.atR { tmps := tmps, defers := [] } [.code assign, .beginRound, .code body] := by
  simp [Frame.round, Frame.atR, b]
 have hr' : (Fence.wide.inRound l).room ((c :: cs).length + 1 + 0) := hr
 have hF' : (Fence.wide.inRound l).fn b.fn := trivial
 obtain ⟨e, a₁, w₁, hq, harr⟩ := h b [.beginRound, .code body] (c :: cs) rfl hF' hr'
 rw [← hb0] at harr
 obtain ⟨rfl, w₂, hbr, hbody⟩ := hq
 ·have s1 : StepsIn (Machine.fenced P (Fence.wide.inRound l)) P (lone (b.atR a₁ [.beginRound, .code body]) (c :: cs) w₁) (lone (b.atR a₁ [.code body]) (c :: cs) w₂) :=
   .one (fenced_calm (fr := b.atR a₁ [.beginRound, .code body]) hF' hr' rfl) (stepR_beginRound rfl hbr)
  obtain ⟨e₂, a₂, w₃, hq₂, harr₂⟩ := hbody b [] (c :: cs) rfl hF' hr'
  ·cases e₂ with
   | normal =>
    obtain ⟨v, w₄, hend, hR⟩ := hq₂
    exact ⟨.returned v, w₄, hR, (StepsIn.trans harr s1).trans (StepsIn.trans harr₂ (.one (fenced_calm (fr := b.atR a₂ []) hF' hr' rfl) (stepR_round_end rfl rfl hend)))⟩
   | ret =>
    obtain ⟨v, w₄, hend, hR⟩ := hq₂
    obtain ⟨k₁, hs⟩ := harr₂.2 rfl
    exact ⟨.returned v, w₄, hR, (StepsIn.trans harr s1).trans (StepsIn.trans hs (.one (fenced_calm (fr := b.atR a₂ (.code .ret :: k₁)) hF' hr' rfl) (stepR_round_ret rfl rfl hend)))⟩
   | exit id =>
    obtain ⟨v, w₄, hend, hR⟩ := hq₂
    obtain ⟨k₁, hk, hs⟩ := harr₂.2 rfl rfl
    exact ⟨.returned v, w₄, hR, (StepsIn.trans harr s1).trans (StepsIn.trans hs (.one (fenced_calm (fr := b.atR a₂ (.code (.exit id) :: k₁)) hF' hr' rfl) (stepR_round_exit rfl rfl hk hend)))⟩
   | goto t =>
    obtain ⟨v, w₄, hend, hR⟩ := hq₂
    obtain ⟨k₁, hk, hs⟩ := harr₂.2 rfl rfl
    exact ⟨.returned v, w₄, hR, (StepsIn.trans harr s1).trans (StepsIn.trans hs (.one (fenced_calm (fr := b.atR a₂ (.code (.goto t) :: k₁)) hF' hr' rfl) (stepR_round_goto rfl rfl hk hend)))⟩
   | panic chain => exact hq₂.elim
   | outgrown => exact hq₂.elim
theorem hr_loop {w : World} {tb : Tab} {G : Gh} {φ : Phi} {S : Nat → Prop} {h : Heap} {nx id b : Nat} {sl : Slots} {ps : Array Tmp} {asg body : Code} {nt D : Nat} {st st' : LoopState} {pend pend' : Option Code} {fn : FuncId} {tmps : Array Value}
  (hr : HR tb G w φ S h nx) (hid : get h id = some (some (.loop sl ps asg body nt st pend))) (hb : φ id = some b) (hrec : w.heap[b]? = some (.loop { state := st, pending := pend, fn, tmps, params := ps, assign := asg, body, defers := D })) :
  ∀ w', w' = w.putObj b (.loop { state := st', pending := pend', fn, tmps, params := ps, assign := asg, body, defers := D }) →
  Keeps w w' φ φ S S ∧ HR tb G w' φ S ((id, some (.loop sl ps asg body nt st' pend')) :: h) nx ∧ NC w w' := by
 intro w' hw'
 obtain ⟨b', k1, k2, k3, k4⟩ := hr.hh id _ hid
 rw [hb] at k1
 injection k1 with k1
 subst k1
 have hoth : ∀ k, k ≠ b → w'.heap[k]? = w.heap[k]? := fun k hk => by rw [hw']; exact World.putObj_heap_other hk
 have hat : w'.heap[b]? = some (.loop { state := st', pending := pend', fn, tmps, params := ps, assign := asg, body, defers := D }) := by rw [hw']; exact World.putObj_heap_same k2
 have hhs : w'.heap.size = w.heap.size := by rw [hw']; exact World.putObj_size
 have hS : ∀ c, S c → c ≠ b := fun c hc e => k3 (e ▸ hc)
 have hk : Keeps w w' φ φ S S := ⟨fun c hc => hoth c (hS c hc), fun _ h => h, fun _ _ h => h, fun i c cs1 ty h1 h2 => by
  by_cases hc : c = b
  ·subst hc
   rw [hrec] at h2
   injection h2 with h2
   cases h2
  ·exact ⟨cs1, (hoth c hc).trans h2, rfl⟩⟩
 have hfr : Fr (fun c => c = b) w w' := ⟨by rw [hw']; rfl, by rw [hw']; rfl, by rw [hw']; rfl, by omega, fun i hi hx => hoth i hx⟩
 refine ⟨hk, ⟨fun i o' ho' => ?_, fun i j c hi hj => hr.inj i j c (?_) (?_), hr.fr, fun i c hc => by rw [hhs]; exact hr.φlt i c hc, hr.φX, fun c hc => by rw [hhs]; exact hr.Slt c hc, hr.SS, hr.Snew, hr.frame.trans hfr fun i hi hib => ?_⟩, fun c o' hc ho' => ?_⟩
 ·rw [get_cons] at ho'
  split at ho'
  ·rename_i e'
   subst e'
   injection ho' with ho'
   injection ho' with ho'
   subst ho'
   obtain ⟨fn', tmps', D', r1, r2, r3⟩ := k4
   rw [hrec] at r1
   injection r1 with r1
   injection r1 with r1
   injection r1 with _ _ _ ht
   subst ht
   exact ⟨b, hb, by rw [hhs]; exact k2, k3, ⟨fn, tmps, D, hat, r2, fun d v hv => (r3 d v hv).mono hk⟩⟩
  ·rename_i hne
   obtain ⟨c, j1, j2, j3, j4⟩ := hr.hh i o' ho'
   have hcb : c ≠ b := fun e' => hne (hr.inj id i b ⟨_, hid⟩ ⟨_, ho'⟩ hb (e' ▸ j1))
   exact ⟨c, j1, by rw [hhs]; exact j2, j3, j4.mono hk (hoth c hcb)⟩
 ·obtain ⟨o', ho'⟩ := hi
  rw [get_cons] at ho'
  split at ho'
  ·rename_i e'; subst e'; exact ⟨_, hid⟩
  ·exact ⟨o', ho'⟩
 ·obtain ⟨o', ho'⟩ := hj
  rw [get_cons] at ho'
  split at ho'
  ·rename_i e'; subst e'; exact ⟨_, hid⟩
  ·exact ⟨o', ho'⟩
 ·subst hib
  rcases hr.φX id i hb with h1 | h1
  ·exact h1
  ·exact absurd hi (by omega)
 ·have hcb : c ≠ b := fun e' => by
   subst e'
   rw [hrec] at hc
   injection hc with hc
   subst hc
   simp [isDef] at ho'
  exact (hoth c hcb).trans hc
theorem Rel.loop {w : World} {tb : Tab} {G : Gh} {a : Act} {φ : Phi} {S : Nat → Prop} {s : Sta} {id b : Nat} {sl : Slots} {ps : Array Tmp} {asg body : Code} {nt D : Nat} {st st' : LoopState} {pend pend' : Option Code} {fn : FuncId} {tmps : Array Value}
  (hr : Rel tb G w a φ S s) (hid : get s.h id = some (some (.loop sl ps asg body nt st pend))) (hb : φ id = some b) (hrec : w.heap[b]? = some (.loop { state := st, pending := pend, fn, tmps, params := ps, assign := asg, body, defers := D })) :
  Rel tb G (w.putObj b (.loop { state := st', pending := pend', fn, tmps, params := ps, assign := asg, body, defers := D })) a φ S ⟨s.sl, (id, some (.loop sl ps asg body nt st' pend')) :: s.h, s.nx, s.df⟩ := by
 obtain ⟨k1, k2, k3⟩ := hr_loop (st' := st') (pend' := pend') hr.hr hid hb hrec _ rfl
 exact ⟨k2, fun d v hv => (hr.sl d v hv).mono k1, hr.nt, hr.df.keep k3, hr.kp.trans k1, hr.nc.trans k3⟩
theorem putPs_rep {w : World} {tb : Tab} {φ : Phi} {S : Nat → Prop} {nt : Nat} : ∀ (ps : List Tmp) (xs : List AV) (vs : List Value) (sl : Slots) (tmps : Array Value), xs.length = ps.length → (ps.all fun p => Nat.blt p nt) = true → tmps.size = nt → RepVs tb w φ S vs xs → (∀ d v, get sl d = some v → RepV tb w φ S (tmps.getD d undef) v) →
  ((ps.zip vs).foldl (fun (tmps : Array Value) (x : Tmp × Value) => tmps.setIfInBounds x.1 x.2) tmps).size = nt ∧ ∀ d v, get (putPs ps xs sl) d = some v → RepV tb w φ S (((ps.zip vs).foldl (fun (tmps : Array Value) (x : Tmp × Value) => tmps.setIfInBounds x.1 x.2) tmps).getD d undef) v
 | [], [], vs, sl, tmps, _, _, ht, hv, h => by cases hv; exact ⟨ht, h⟩
 | p :: ps, x :: xs, vs, sl, tmps, hl, hp, ht, hv, h => by
  cases hv with
  | cons v t vs l h1 h2 =>
   simp only [List.all_cons, Bool.and_eq_true] at hp
   have hlt : p < tmps.size := by rw [ht]; exact Nat.le_of_ble_eq_true hp.1
   refine putPs_rep ps xs vs ((p, x) :: sl) (tmps.setIfInBounds p v) (by simpa using hl) hp.2 (by simpa using ht) h2 fun d u hu => ?_
   rw [get_cons] at hu
   rw [Array.getD_eq_getD_getElem?]
   by_cases hd : p = d
   ·subst hd
    rw [if_pos rfl] at hu; injection hu with hu; subst hu
    rw [Array.getElem?_setIfInBounds_self_of_lt hlt]; exact h1
   ·rw [if_neg hd] at hu
    rw [Array.getElem?_setIfInBounds_ne hd, ← Array.getD_eq_getD_getElem?]; exact h d u hu
 | [], _ :: _, _, _, _, hl, _, _, _, _ => by cases hl
 | _ :: _, [], _, _, _, hl, _, _, _, _ => by cases hl
theorem ok_yield {P : Program} {tb : Tab} {G : Gh} {w : World} {φ : Phi} {S : Nat → Prop} {N : Value → World → Prop} {ρ : Operand → Value} {o : Oper} {h : Heap} {nx : Nat} {g : Operand → Option AV} {fx : Operand} {args : Array Operand} {tys : Array TypeId} {id nt : Nat} {sl : Slots} {ps : Array Tmp} {asg body : Code} {xs : List AV} {b : Bool} {h' : Heap} {nx' : Nat}
  (hr : HR tb G w φ S h nx) (hg : ∀ x v, g x = some v → RepV tb w φ S (ρ x) v) (ho : o.op = .call { callee := .value fx, args := args, argTypes := tys }) (hf : g fx = some (.yld id)) (hx : AsAVN g args.toList xs) (hl : xs.length = ps.size) (hps : (ps.toList.all fun p => Nat.blt p nt) = true)
  (hid : get h id = some (some (.loop sl ps asg body nt .ready none))) (hR : RoundF P tb id sl ps asg body nt xs h nx b h' nx') (hN : After tb G w φ S N (.t (.b b)) h' nx') : UponF P N ((execOp ρ o).run P w) := by
 obtain ⟨blk, hb, h2, h3, fn, tmps, D, hrec, hnt, hsl⟩ := hr.hh id _ hid
 have hfv : ρ fx = .func (.yield blk) #[] #[] := by
  have := hg _ _ hf
  generalize ρ fx = v at this
  cases this with
  | yld id' b' h1 => rw [hb] at h1; injection h1 with h1; rw [h1]
 have hxs := hx.rep hg
 have hsz : (args.map ρ).size = ps.size := by
  have : ∀ (l : List AV) (us : List Value), RepVs tb w φ S us l → us.length = l.length := by
   intro l
   induction l with
   | nil => intro us h; cases h; rfl
   | cons a l ih => intro us h; cases h with | cons v t us l h1 h2 => simp [ih _ h2]
  have := this _ _ hxs
  rw [hl] at this; simpa using this
 have hrun : (execOp ρ o).run P w = .ok (.round blk fn ((ps.zip (args.map ρ)).foldl (fun tmps (t, a) => tmps.setIfInBounds t a) tmps) asg body) w := by
  have := run_yield (P := P) (args := args.map ρ) hrec hsz
  simp [execOp, ho, resolve, hfv, Deferred.ofValue, invoke, this]
 rw [hrun]
 show RoundIn Fence.wide 0 P blk fn _ asg body w _
 have hfold : ((ps.zip (args.map ρ)).foldl (fun tmps (t, a) => tmps.setIfInBounds t a) tmps) = (ps.toList.zip (args.toList.map ρ)).foldl (fun (tmps : Array Value) (x : Tmp × Value) => tmps.setIfInBounds x.1 x.2) tmps := by
  rw [← Array.foldl_toList, Array.toList_zip, Array.toList_map]
 rw [hfold]
 obtain ⟨hnt', hsl'⟩ := putPs_rep ps.toList xs (args.toList.map ρ) sl tmps (by simpa using hl) hps hnt hxs hsl
 generalize hT : (ps.toList.zip (args.toList.map ρ)).foldl (fun (tmps : Array Value) (x : Tmp × Value) => tmps.setIfInBounds x.1 x.2) tmps = T at *
 have hφ0 : ∀ i b, φ i = some b → i < nx := fun i b hb => by
  rcases Nat.lt_or_ge i nx with h | h
  ·exact h
  ·rw [hr.fr i h] at hb; cases hb
 let G' : Gh := { w0 := w, S0 := S, X := fun b => ∃ i, φ i = some b, nt := nt, k0 := nx, φ0 := φ, hφ0 := hφ0 }
 have hRel : Rel tb G' w { tmps := T, defers := [] } φ S ⟨putPs ps.toList xs sl, h, nx, 0⟩ :=
  ⟨⟨hr.hh, hr.inj, hr.fr, hr.φlt, fun i b hb => .inl ⟨i, hb⟩, hr.Slt, fun _ h => h, fun _ h => .inl h, Fr.refl _ _⟩, hsl', hnt', ⟨[], rfl, List.nodup_nil, rfl, fun r hr => by simp at hr⟩, Keeps.refl _ _ _, NC.refl _⟩
 refine roundIn_out (wpIn_mono (hR G' (Fence.wide.inRound blk) (.inr ⟨blk, rfl⟩) rfl rfl 0 _ w φ S hRel) fun e a1 w1 hp => ?_)
 obtain ⟨s1, φ1, S1, hr1, he, hdf1, hid1, hbody⟩ := hp
 ·have hb1 : φ1 id = some blk := hr1.kp.hφ _ _ hb
  obtain ⟨blk', hb1', _, _, fn1, tmps1, D1, hrec1, _, _⟩ := hr1.hr.hh id _ hid1
  rw [hb1] at hb1'; injection hb1' with hb1'; subst hb1'
  refine ⟨he, _, run_beginRound hrec1 rfl, ?_⟩
  have hr2 := hr1.loop (st' := .busy) (pend' := none) hid1 hb1 hrec1
  rw [hdf1] at hr2
  refine wpIn_mono (hbody 0 a1 _ φ1 S1 hr2) fun e2 a2 w2 hp2 => ?_
  obtain ⟨s2, φ2, S2, hr3, hdf2, hid2, hnx, jump, hj, hbj, himp⟩ := hp2
  ·have hb2 : φ2 id = some blk := hr3.kp.hφ _ _ hb
   obtain ⟨blk', hb2', _, _, fn2, tmps2, D2, hrec2, _, _⟩ := hr3.hr.hh id _ hid2
   rw [hb2] at hb2'; injection hb2' with hb2'; subst hb2'
   have hr4 := hr3.loop (st' := if jump.isNone then .ready else .done) (pend' := jump) hid2 hb2 hrec2
   obtain ⟨φ5, S5, hr5⟩ := himp G' _ a2 φ2 S2 rfl hnx ⟨hr4.hr, fun d v hv => by simp [get] at hv, hr4.nt, by rw [hdf2] at hr4; exact hr4.df, hr4.kp, hr4.nc⟩
   have hend := run_endRound (P := P) jump hrec2
   have hfin : ∃ v w', (Instr.endRound blk jump).run P w2 = .ok v w' ∧ ∃ v', Ending.returned v = .returned v' ∧ N v' w' := by
    refine ⟨_, _, hend, _, rfl, ?_⟩
    refine hN _ _ φ5 S5 hr5.kp ?_ hr5.nc (by rw [hbj]; exact .t _ _ (.b _))
    refine ⟨hr5.hr.hh, hr5.hr.inj, hr5.hr.fr, hr5.hr.φlt, fun i c hc => ?_, hr5.hr.Slt, fun c hc => hr5.hr.SS c (hr.SS c hc), fun c hc => ?_, hr.frame.trans hr5.hr.frame fun i hi hX => ?_⟩
    ·rcases hr5.hr.φX i c hc with ⟨j, hj⟩ | hx
     ·exact hr.φX j c hj
     ·exact .inr (Nat.le_trans hr.frame.size hx)
    ·rcases hr5.hr.Snew c hc with hx | hx | ⟨j, hj⟩
     ·exact hr.Snew c hx
     ·exact .inr (.inl (Nat.le_trans hr.frame.size hx))
     ·rcases hr.φX j c hj with hx | hx
      ·exact .inr (.inr hx)
      ·exact .inr (.inl hx)
    ·obtain ⟨j, hj⟩ := hX
     rcases hr.φX j i hj with hx | hx
     ·exact hx
     ·omega
   cases e2 <;> simp only [jumpOf] at hj <;> first | (cases hj; done) | (injection hj with hj; subst hj; exact hfin)
section
variable {P : Program} {tb : Tab} {G : Gh} {w : World} {φ : Phi} {S : Nat → Prop} {N : Value → World → Prop} {a : Act} {s : Sta}
theorem opAV_rep (h : Rel tb G w a φ S s) : ∀ x v, opAV s.sl x = some v → RepV tb w φ S (a.eval x) v := by
 intro x v hv
 cases x with
 | tmp t => exact h.sl t v hv
 | const c =>
  simp only [opAV] at hv
  unfold constAV at hv
  split at hv <;> first | (injection hv with hv; subst hv) | cases hv
  ·exact .t _ _ (.i _ _)
  ·exact .t _ _ (.b _)
  ·exact .t _ _ (.s _)
  ·exact .nilS
  ·exact .unk _
 | func f =>
  injection hv with hv; subst hv
  exact .t _ _ (by simpa [Act.eval] using RepT.fn (tb := tb) (w := w) (S := S) f [] [] .nil)
 | global g => cases hv
def ap (e id : Nat) (ts : List Tr) : AV := match ts with
 | [] => .nilS
 | _ :: _ => .own e id 0 ts.length
def apO (e : Nat) (ts : List Tr) : Option Obj := match ts with
 | [] => none
 | _ :: _ => some (.arr e (ts.map .t))
theorem HR.sub {h' : Heap} {nx : Nat} {h : Heap} (hr : HR tb G w φ S h nx) (hg : ∀ i o, get h' i = some (some o) → get h i = some (some o)) : HR tb G w φ S h' nx :=
 ⟨fun id o ho => hr.hh id o (hg _ _ ho), fun i j b ⟨o, ho⟩ ⟨o', ho'⟩ => hr.inj i j b ⟨o, hg _ _ ho⟩ ⟨o', hg _ _ ho'⟩, hr.fr, hr.φlt, hr.φX, hr.Slt, hr.SS, hr.Snew, hr.frame⟩
inductive EEv (P : Program) (tb : Tab) (g : Operand → Option AV) (h : Heap) (nx : Nat) : Op → TypeId → AV → Heap → Nat → Prop
 | store (T x y ty ti tie e id idx l t) : get tb T = some ti → get tb e = some tie → g x = some (.ptr e id idx 0) → get h id = some (some (.arr e l)) → idx < l.length → tie.sz = ti.sz → AsTr g y t → t.flat = true → t.cells.length = ti.sz →
   EEv P tb g h nx (.store T x y) ty .unk ((id, some (.arr e (l.set idx (.t t)))) :: h) nx
 | storeF (T x y ty ti tie e id idx off l t u) : get tb T = some ti → get tb e = some tie → g x = some (.ptr e id idx off) → get h id = some (some (.arr e l)) → l[idx]? = some (.t (.ag u)) → off + ti.sz ≤ u.length → AsTr g y t → t.flat = true → t.cells.length = ti.sz →
   EEv P tb g h nx (.store T x y) ty .unk ((id, some (.arr e (l.set idx (.t (.ag (u.take off ++ t.cells ++ u.drop (off + ti.sz))))))) :: h) nx
 | storeV (T x y ty ti tie e id idx l v) : get tb T = some ti → get tb e = some tie → g x = some (.ptr e id idx 0) → get h id = some (some (.arr e l)) → idx < l.length → tie.sz = 1 → ti.sz = 1 → g y = some v → (∀ t, v ≠ .t t) → v ≠ .unk → (∀ l, v ≠ .tu l) →
   EEv P tb g h nx (.store T x y) ty .unk ((id, some (.arr e (l.set idx v))) :: h) nx
 | appendO (T x y ty ti tie e id l ts us) (n m : Nat) : get tb T = some ti → ti.d = .slice e → get tb e = some tie → 0 < tie.sz → 0 < tie.by_ → tie.zero.zeroOk = true → tie.zero.cells.length = tie.sz → g x = some (.own e id 0 n) → get h id = some (some (.arr e l)) → l = List.map .t ts → l.length = n → AsTr g y (.sl e us) → us.all Tr.flat = true → n + us.length = m → m * tie.by_ ≤ 140737488355328 →
   EEv P tb g h nx (.call { callee := .builtin .append, args := #[x, y], argTypes := #[T, T] }) ty (.own e nx 0 m) ((nx, some (.arr e (l ++ us.map .t))) :: (id, none) :: h) (nx + 1)
 | appendN (T x y ty ti tie e us) (m : Nat) : get tb T = some ti → ti.d = .slice e → get tb e = some tie → 0 < tie.sz → 0 < tie.by_ → tie.zero.zeroOk = true → tie.zero.cells.length = tie.sz → g x = some .nilS → AsTr g y (.sl e us) → us.all Tr.flat = true → us ≠ [] → us.length = m → m * tie.by_ ≤ 140737488355328 →
   EEv P tb g h nx (.call { callee := .builtin .append, args := #[x, y], argTypes := #[T, T] }) ty (.own e nx 0 m) ((nx, some (.arr e (us.map .t))) :: h) (nx + 1)
 | appendA (T x y ty ti tie e id ts us) : get tb T = some ti → ti.d = .slice e → get tb e = some tie → 0 < tie.sz → 0 < tie.by_ → tie.zero.zeroOk = true → tie.zero.cells.length = tie.sz → g x = some (ap e id ts) → get h id = some (apO e ts) → AsTr g y (.sl e us) → us.all Tr.flat = true → (ts.length + us.length) * tie.by_ ≤ 140737488355328 →
   EEv P tb g h nx (.call { callee := .builtin .append, args := #[x, y], argTypes := #[T, T] }) ty (ap e nx (ts ++ us)) ((nx, apO e (ts ++ us)) :: (id, none) :: h) (nx + 1)
 | appendF (T x y ty ti tie e id l ts us) (n : Nat) : get tb T = some ti → ti.d = .slice e → get tb e = some tie → 0 < tie.sz → 0 < tie.by_ → tie.zero.zeroOk = true → tie.zero.cells.length = tie.sz → g x = some (.own e id 0 n) → get h id = some (some (.arr e l)) → l = List.map .t ts → l.length = n → AsTr g y (.sl e us) → us.all Tr.flat = true → (n + us.length) * tie.by_ ≤ 140737488355328 →
   EEv P tb g h nx (.call { callee := .builtin .append, args := #[x, y], argTypes := #[T, T] }) ty (.t (.sl e (ts ++ us))) ((nx, none) :: (id, none) :: h) (nx + 1)
 | copy (T T2 x y ty ti tie e id off len l us) : get tb T = some ti → ti.d = .slice e → get tb e = some tie → g x = some (.own e id off len) → get h id = some (some (.arr e l)) → off + len ≤ l.length → AsTr g y (.sl e us) → us.all Tr.flat = true →
   EEv P tb g h nx (.call { callee := .builtin .copy, args := #[x, y], argTypes := #[T, T2] }) ty (.t (.i .i64 (min us.length len : Nat))) ((id, some (.arr e (l.take off ++ (us.take len).map .t ++ l.drop (off + min us.length len)))) :: h) nx
 | callH (f fx args tys ty caps avs cargs objs ids t t' h1 h1' k1 nx') : FnH P tb f cargs objs t h1 k1 → IsFn (g fx) f caps → AsAVN g args.toList avs → avs ++ caps = AV.rens (rn ids nx) cargs → AV.lts objs.length cargs = true → ids.length = objs.length → ids.Nodup → ObjsIn h (rn ids nx) ids objs → (∀ ob ∈ objs, ob.lt objs.length) →
   (∀ i, i < objs.length → ∃ x, get h1 i = some x) → Outs (rn ids nx) h1 h1' → objs.length ≤ k1 → t.ren (rn ids nx) = t' → nx + (k1 - objs.length) = nx' → EEv P tb g h nx (.call { callee := .value fx, args := args, argTypes := tys }) ty t' (h1' ++ h) nx'
 | callY (fx args tys ty id sl ps asg body nt xs b h' nx') : g fx = some (.yld id) → AsAVN g args.toList xs → xs.length = ps.size → (ps.toList.all fun p => Nat.blt p nt) = true → get h id = some (some (.loop sl ps asg body nt .ready none)) →
   RoundF P tb id sl ps asg body nt xs h nx b h' nx' → EEv P tb g h nx (.call { callee := .value fx, args := args, argTypes := tys }) ty (.t (.b b)) h' nx'
def isEff : Op → Bool
 | .store .. => true
 | .call { callee := .builtin .append, .. } => true
 | .call { callee := .builtin .copy, .. } => true
 | _ => false
theorem EEv.after {o : Oper} {av : AV} {h' : Heap} {nx' : Nat} (hT : TabOk P tb) (hr : HR tb G w φ S s.h s.nx) {g : Operand → Option AV} {ρ : Operand → Value} (hg : ∀ x v, g x = some v → RepV tb w φ S (ρ x) v) (he : EEv P tb g s.h s.nx o.op o.type av h' nx')
  (hN : After tb G w φ S N av h' nx') : UponF P N ((execOp ρ o).run P w) := by
 suffices hs : UponU P N ((execOp ρ o).run P w) ∨ UponF P N ((execOp ρ o).run P w) from hs.elim (fun h => h.f) id
 generalize ho : o.op = op at he
 generalize hty : o.type = ty at he
 cases he with
 | callY fx args tys ty id sl ps asg body nt xs b h' nx' h1 h2 h3 h4 h5 h6 => exact .inr (ok_yield hr hg ho h1 h2 h3 h4 h5 h6 hN)
 | store T x y ty ti tie e id idx l t h1 h2 h3 h4 h5 h6 h7 h8 h9 => exact .inl (ok_store hT hr hg ho h1 h2 h3 h4 h5 h6 h7 h8 h9 hN)
 | storeF T x y ty ti tie e id idx off l t u h1 h2 h3 h4 h5 h6 h7 h8 h9 => exact .inl (ok_storeF hT hr hg ho h1 h2 h3 h4 h5 h6 h7 h8 h9 hN)
 | storeV T x y ty ti tie e id idx l v h1 h2 h3 h4 h5 h6 h7 h8 h9 h10 h11 => exact .inl (ok_storeV hT hr hg ho h1 h2 h3 h4 h5 h6 h7 h8 h9 h10 h11 hN)
 | appendO T x y ty ti tie e id l ts us n m h1 h2 h3 h4 h5 h6 h7 h8 h9 h10 hln h11 h12 hm hbg =>
  subst h10 hln hm
  rw [List.length_map] at h8 hbg
  obtain ⟨b, c, cs, k1, k2, k3, k4, k5, k6⟩ := own_of (hg _ _ h8)
  have hsrc : Src tb w φ S s.h e (ρ x) ts (some id) := by
   rw [k2, Nat.zero_mul]
   exact .own id b c cs ts h9 k1 k3 k4 k5 (by rw [Nat.zero_add] at k6; exact k6)
  left
  rcases append_core hT hr ho h1 h2 h3 h4 h5 h6 h7 hsrc (h11.rep hg) h12 (.inr (by simp)) hbg with ⟨v, w', φ', hx, hR⟩
  ·rw [hx]
   have hhr := hR.hr
   have hv := hR.v
   simp only [List.map_append] at hhr
   refine hN v w' φ' S hR.keeps hhr hR.nc (by rw [List.length_map]; exact hv)
 | appendF T x y ty ti tie e id l ts us n h1 h2 h3 h4 h5 h6 h7 h8 h9 h10 hln h11 h12 hbg =>
  subst h10 hln
  rw [List.length_map] at h8 hbg
  obtain ⟨b, c, cs, k1, k2, k3, k4, k5, k6⟩ := own_of (hg _ _ h8)
  have hsrc : Src tb w φ S s.h e (ρ x) ts (some id) := by
   rw [k2, Nat.zero_mul]
   exact .own id b c cs ts h9 k1 k3 k4 k5 (by rw [Nat.zero_add] at k6; exact k6)
  left
  rcases append_core hT hr ho h1 h2 h3 h4 h5 h6 h7 hsrc (h11.rep hg) h12 (.inr (by simp)) hbg with ⟨v, w', φ', hx, hR⟩
  ·rw [hx]
   have hhr := hR.hr
   have hv := hR.v
   have hgt : get ((s.nx, some (Obj.arr e ((ts ++ us).map .t))) :: (id, none) :: s.h) s.nx = some (some (Obj.arr e ((ts ++ us).map .t))) := by rw [get_cons, if_pos rfl]
   obtain ⟨b2, j1, j2, j3, j4⟩ := hhr.hh s.nx _ hgt
   obtain ⟨f1, f2⟩ := hr_freeze hhr hgt j1
   refine hN v w' φ' (fun c => S c ∨ c = b2) (hR.keeps.trans f2) (f1.sub fun i o hi => ?_) hR.nc ?_
   ·rw [get_cons] at hi ⊢
    split at hi
    ·injection hi with hi; cases hi
    ·rename_i hne
     rw [if_neg hne, get_cons, if_neg hne]; exact hi
   ·have := frozen_rep (S' := fun c => S c ∨ c = b2) hv j1 j4 (by simp) (Or.inr rfl) (fun _ h => Or.inl h)
    rw [List.drop_zero, List.take_of_length_le (by simp)] at this
    exact .t _ _ this
 | copy T T2 x y ty ti tie e id off len l us h1 h2 h3 h4 h5 h6 h7 h8 => exact .inl (ok_copy hT hr hg ho h1 h2 h3 h4 h5 h6 (h7.rep hg) h8 hN)
 | callH f fx args tys ty caps avs cargs objs ids t t' h1 h1' k1 nx' hF c1 c2 c3 c4 c5 c6 c7 c8 c9 c10 c11 c12 c13 =>
  subst c12 c13
  exact .inl (ok_callH hr hg ho c1 c2 c3 c4 c5 c6 c7 c8 hF c9 c10 c11 hN)
 | appendA T x y ty ti tie e id ts us h1 h2 h3 h4 h5 h6 h7 h8 h9 h10 h11 hbg =>
  left
  by_cases h12 : us = [] ∧ ts = []
  ·obtain ⟨rfl, rfl⟩ := h12
   have hsv : ρ x = .slice none 0 0 := by
    have := hg _ _ h8
    generalize ρ x = v at this
    cases this with | nilS => rfl
   obtain ⟨i, hi, hsz, hib, hz⟩ := (hT _ _ h3).info
   have hu := (hT _ _ h1).slice h2
   obtain ⟨ax, cx, hxv, hx1, hx2, hx3⟩ := sl_of (h10.rep hg)
   have hrun : (Builtin.append_ #[T, T] o.type #[.slice none 0 0, .slice ax 0 cx]).run P w = .ok (.slice none 0 0) w := by
    have hf : (Builtin.firstCells i.size 0 (.slice ax 0 cx)).run P w = .ok #[] w := by
     cases ax with
     | none => simp [Builtin.firstCells]
     | some a => simp [Builtin.firstCells, loadCells, loadCellsFrom]
    simp [Builtin.append_, run_underlying hu, sizeOf, typeInfo, hi, Builtin.lenOf, hf, storeCells]
   rw [exec_append ho hsv (by simpa using hxv) hrun]
   refine hN _ w φ S (Keeps.refl _ _ _) (HR.sub (h := s.h) ⟨hr.hh, hr.inj, fun i hi => hr.fr i (Nat.le_of_succ_le hi), hr.φlt, hr.φX, hr.Slt, hr.SS, hr.Snew, hr.frame⟩ fun i o hi => ?_) (NC.refl w) .nilS
   rw [get_cons] at hi
   split at hi
   ·injection hi with hi; cases hi
   ·rw [get_cons] at hi
    split at hi
    ·injection hi with hi; cases hi
    ·exact hi
  have hap : ∀ nx, ap e nx (ts ++ us) = .own e nx 0 (ts.length + us.length) ∧ apO e (ts ++ us) = some (.arr e ((ts ++ us).map .t)) := fun nx => by
   rw [← List.length_append]
   cases hq : ts ++ us with
   | nil => exact absurd ⟨(List.append_eq_nil_iff.1 hq).2, (List.append_eq_nil_iff.1 hq).1⟩ h12
   | cons a l => exact ⟨rfl, rfl⟩
  rw [(hap _).1, (hap s.nx).2] at hN
  cases ts with
  | nil =>
   have hsrc : Src tb w φ S s.h e (ρ x) [] none := by
    have := hg _ _ h8
    generalize ρ x = v at this
    cases this with | nilS => exact .nil
   rcases append_core hT hr ho h1 h2 h3 h4 h5 h6 h7 hsrc (h10.rep hg) h11 (.inl fun e => h12 ⟨e, rfl⟩) hbg with ⟨v, w', φ', hx, hR⟩
   ·rw [hx]
    refine hN v w' φ' S hR.keeps (hR.hr.sub fun i o hi => ?_) hR.nc hR.v
    rw [get_cons] at hi ⊢
    split at hi
    ·rename_i e1; rw [if_pos e1]; exact hi
    ·rename_i e1
     rw [if_neg e1]
     rw [get_cons] at hi
     split at hi
     ·injection hi with hi; cases hi
     ·exact hi
  | cons t ts =>
   obtain ⟨b, c, cs, k1, k2, k3, k4, k5, k6⟩ := own_of (hg _ _ h8)
   have hsrc : Src tb w φ S s.h e (ρ x) (t :: ts) (some id) := by
    rw [k2, Nat.zero_mul]
    exact .own id b c cs (t :: ts) h9 k1 k3 k4 k5 (by rw [Nat.zero_add] at k6; exact k6)
   rcases append_core hT hr ho h1 h2 h3 h4 h5 h6 h7 hsrc (h10.rep hg) h11 (.inr (by simp)) hbg with ⟨v, w', φ', hx, hR⟩
   ·rw [hx]
    exact hN v w' φ' S hR.keeps hR.hr hR.nc hR.v
 | appendN T x y ty ti tie e us m h1 h2 h3 h4 h5 h6 h7 h8 h9 h10 h11 hm hbg =>
  subst hm
  have hsrc : Src tb w φ S s.h e (ρ x) [] none := by
   have := hg _ _ h8
   generalize ρ x = v at this
   cases this with | nilS => exact .nil
  left
  rcases append_core hT hr ho h1 h2 h3 h4 h5 h6 h7 hsrc (h9.rep hg) h10 (.inl h11) (by simpa using hbg) with ⟨v, w', φ', hx, hR⟩
  ·rw [hx]
   have hhr := hR.hr
   have hv := hR.v
   simp only [List.nil_append, List.length_nil, Nat.zero_add] at hhr hv
   exact hN v w' φ' S hR.keeps hhr hR.nc hv
def putS (sl : Slots) (dst : Option Tmp) (v : AV) : Slots := match dst with
 | some d => (d, v) :: sl
 | none => sl
def Wanted (all : Array Oper) (sl : Slots) (o : Oper) (yes : Bool) : Prop := match o.guard with
 | none => yes = true
 | some (j, want) => ∃ d b, (all[j]?).bind (·.dst) = some d ∧ get sl d = some (.t (.b b)) ∧ (b == want) = yes
def dstOk (nt : Nat) (o : Oper) : Bool := match o.dst with
 | some d => Nat.blt d nt
 | none => true
inductive Ev (P : Program) (tb : Tab) (all : Array Oper) (s : Sta) (o : Oper) : Sta → Prop
 | skip : Wanted all s.sl o false → Ev P tb all s o { s with sl := putS s.sl o.dst .unk }
 | skipU : Wanted all s.sl o false → Ev P tb all s o { s with sl := putS s.sl o.dst (.tu []) }
 | skipD (j want d) : o.guard = some (j, want) → (all[j]?).bind (·.dst) = some d → get s.sl d = some (.tu []) → Ev P tb all s o { s with sl := putS s.sl o.dst (.tu []) }
 | q (r) : Wanted all s.sl o true → QEv P tb s.h (opAV s.sl) o.op o.type r → (∀ v id ob, r = .new v id ob → id = s.nx) → Ev P tb all s o { s with sl := putS s.sl o.dst (resH s.h s.nx r).1, h := (resH s.h s.nx r).2.1, nx := (resH s.h s.nx r).2.2 }
 | e (v h' nx') : Wanted all s.sl o true → EEv P tb (opAV s.sl) s.h s.nx o.op o.type v h' nx' → Ev P tb all s o { s with sl := putS s.sl o.dst v, h := h', nx := nx' }
theorem put_getD (a : Act) {d : Tmp} (v : Value) (hd : d < a.tmps.size) (i : Nat) : (a.put (some d) v).tmps.getD i undef = if i = d then v else a.tmps.getD i undef := by
 simp only [Act.put, Array.getD_eq_getD_getElem?]
 by_cases h : i = d
 ·subst h; simp [hd]
 ·rw [if_neg h, Array.getElem?_setIfInBounds_ne (Ne.symm h)]
theorem Rel.put {w' : World} {φ' : Phi} {S' : Nat → Prop} {dst : Option Tmp} {v : Value} {av : AV} {h' : Heap} {nx' : Nat} (h : Rel tb G w a φ S s) (hd : ∀ d, dst = some d → d < G.nt) (hk : Keeps w w' φ φ' S S') (hr : HR tb G w' φ' S' h' nx') (hnc : NC w w') (hv : RepV tb w' φ' S' v av) :
  Rel tb G w' (a.put dst v) φ' S' { s with sl := putS s.sl dst av, h := h', nx := nx' } := by
 refine ⟨hr, fun d u hu => ?_, ?_, ?_, h.kp.trans hk, h.nc.trans hnc⟩
 ·cases dst with
  | none => exact (h.sl d u hu).mono hk
  | some d' =>
   have hlt : d' < a.tmps.size := by rw [h.nt]; exact hd d' rfl
   rw [put_getD a v hlt]
   have hu : get ((d', av) :: s.sl) d = some u := hu
   rw [get_cons] at hu
   by_cases hdd : d' = d
   ·rw [if_pos hdd] at hu; injection hu with hu; subst hu
    rw [if_pos hdd.symm]; exact hv
   ·rw [if_neg hdd] at hu
    rw [if_neg (fun e => hdd e.symm)]
    exact (h.sl d u hu).mono hk
 ·cases dst with
  | none => exact h.nt
  | some d' => show (a.tmps.setIfInBounds d' v).size = _; rw [Array.size_setIfInBounds]; exact h.nt
 ·have : (a.put dst v).defers = a.defers := by cases dst <;> rfl
  rw [this]; exact h.df.keep hnc
theorem wanted_of {all : Array Oper} {o : Oper} {yes : Bool} (h : Rel tb G w a φ S s) (hw : Wanted all s.sl o yes) (hd : ∀ d, (∃ (j : Nat) (p : Oper), all[j]? = some p ∧ p.dst = some d) → d < G.nt) : Region.wanted o (yielded all a.tmps) = yes := by
 unfold Wanted at hw
 unfold Region.wanted
 split at hw
 ·rename_i hg; rw [hg]; exact hw.symm
 ·rename_i j want hg
  rw [hg]
  obtain ⟨d, b, h1, h2, h3⟩ := hw
  have hv := bool_of (h.sl d _ h2)
  have hlt : d < a.tmps.size := by
   rw [h.nt]
   obtain ⟨p, hp, hpd⟩ := Option.bind_eq_some_iff.1 h1
   exact hd d ⟨j, p, hp, hpd⟩
  have hget : a.tmps[d]? = some (.bool b) := by
   rw [Array.getD_eq_getD_getElem?, Array.getElem?_eq_getElem hlt] at hv
   rw [Array.getElem?_eq_getElem hlt]
   simpa using hv
  simp only [yielded, h1, Option.bind_some, hget]
  rw [← h3]
  cases b <;> cases want <;> rfl
theorem tu0_of {v : Value} (h : RepV tb w φ S v (.tu [])) : v = .tuple #[] := by
 cases h with | tu vs l h => cases h; rfl
theorem wanted_und {all : Array Oper} {o : Oper} {j : Nat} {want : Bool} {d : Tmp} (h : Rel tb G w a φ S s) (hg : o.guard = some (j, want)) (h1 : (all[j]?).bind (·.dst) = some d) (h2 : get s.sl d = some (.tu [])) (hd : ∀ d, (∃ (j : Nat) (p : Oper), all[j]? = some p ∧ p.dst = some d) → d < G.nt) : Region.wanted o (yielded all a.tmps) = false := by
 unfold Region.wanted
 rw [hg]
 have hv := tu0_of (h.sl d _ h2)
 have hlt : d < a.tmps.size := by
  rw [h.nt]
  obtain ⟨p, hp, hpd⟩ := Option.bind_eq_some_iff.1 h1
  exact hd d ⟨j, p, hp, hpd⟩
 have hget : a.tmps[d]? = some (.tuple #[]) := by
  rw [Array.getD_eq_getD_getElem?, Array.getElem?_eq_getElem hlt] at hv
  rw [Array.getElem?_eq_getElem hlt]
  simpa using hv
 simp only [yielded, h1, Option.bind_some, hget]
 cases want <;> rfl
end
section
variable {P : Program} {F : Fence} {ops : Array Oper} {Q : Exit → Act → World → Prop}
def wpO (P : Program) (F : Fence) (ops : Array Oper) (Q : Exit → Act → World → Prop) : List Nat → Act → World → Prop
  | [], a, w => Q .normal a w
  | i :: rest, a, w => ∃ o, ops[i]? = some o ∧
      (if Region.wanted o (yielded ops a.tmps) then (∀ c, o.op ≠ .defer c) ∧ UponF P (fun v w' => wpO P F ops Q rest (a.put o.dst v) w') ((execOp a.eval o).run P w)
       else wpO P F ops Q rest (a.put o.dst undef) w)
theorem wpO_sound (hF : Wd F) (l : List Nat) :
  ∀ (a : Act) (w : World), wpO P F ops Q l a w → ∀ (b : Frame) (k : List Item) (cs : List Frame),
   ∃ e a' w', Q e a' w' ∧ ArrivesIn (Machine.fenced P F) P (lone (b.atR a (.inRegion ops l :: k)) cs w) b k cs e a' w' := by
 induction l with
 | nil => exact fun a w h b k cs => ⟨.normal, a, w, h, hF.steps.2 (.one stepR_region_end)⟩
 | cons i rest ih =>
  intro a w h b k cs
  obtain ⟨o, ho, h⟩ := h
  have hfin : ∀ v, (b.atR a (.inRegion ops (i :: rest) :: k)).finish v = b.atR (a.put o.dst v) (.inRegion ops rest :: k) := by
   intro v; rw [Frame.finish_atR, ho]; rfl
  by_cases hw : Region.wanted o (yielded ops a.tmps) = true
  ·simp only [hw, if_true] at h
   obtain ⟨hd, h⟩ := h
   have hg := stepGR_op (P := P) (b := b) (k := k) (cs := cs) (w := w) (rest := rest) ho hw
   rw [Oper.semAt_eq _ _ _ hd] at hg
   unfold UponF at h
   split at h
   ·rename_i v w' hr
    obtain ⟨e, a', w'', hq, harr⟩ := ih _ _ h b k cs
    refine ⟨e, a', w'', hq, .of_steps (hF.steps.2 (.one (step_lone_go ?_))) harr⟩
    rw [hg, ← hfin]; simp [stepG.apply, hr]
   ·rename_i w' hr
    obtain ⟨e, a', w'', hq, harr⟩ := ih _ _ h b k cs
    refine ⟨e, a', w'', hq, .of_steps (hF.steps.2 (.one (step_lone_go ?_))) harr⟩
    rw [hg, ← hfin]; simp [stepG.apply, hr]
   ·rename_i f args w' hr
    obtain ⟨e, w'', fr, hR, hsteps, hfn, hleave⟩ := h (b.atR a (.inRegion ops (i :: rest) :: k) :: cs)
    have henter : step P (lone (b.atR a (.inRegion ops (i :: rest) :: k)) cs w) =
      .next (lone (Frame.enter P f args .normal) (b.atR a (.inRegion ops (i :: rest) :: k) :: cs) w') :=
     step_lone_go (by rw [hg]; simp [stepG.apply, hr, Frame.atR])
    obtain ⟨v, rfl, hN⟩ := hR
    ·obtain ⟨e, a', w₃, hq, harr⟩ := ih _ _ hN b k cs
     refine ⟨e, a', w₃, hq, .of_steps (hF.steps.2 (.head henter (hsteps.trans (.one ?_)))) harr⟩
     rw [← hfin]; exact step_leave_returned hleave
   ·rename_i l f tmps assign body w' hr
    obtain ⟨e, w'', hR, hsteps⟩ := h.2 (b.atR a (.inRegion ops (i :: rest) :: k)) cs (room_wide _)
    have henter : step P (lone (b.atR a (.inRegion ops (i :: rest) :: k)) cs w) =
      .next (lone (Frame.round l f tmps assign body .normal) (b.atR a (.inRegion ops (i :: rest) :: k) :: cs) w') :=
     step_lone_go (by rw [hg]; simp [stepG.apply, hr, Frame.atR])
    obtain ⟨v, rfl, hN⟩ := hR
    ·obtain ⟨e, a', w₃, hq, harr⟩ := ih _ _ hN b k cs
     refine ⟨e, a', w₃, hq, .of_steps (hF.steps.2 (.head henter ?_)) harr⟩
     rw [← hfin]; exact stepsIn_wide.1 hsteps
   ·exact h.elim
  ·simp only [hw, if_false, Bool.false_eq_true] at h
   obtain ⟨e, a', w', hq, harr⟩ := ih _ _ h b k cs
   have hs := stepR_op_skip (P := P) (b := b) (a := a) (k := k) (cs := cs) (w := w) (ops := ops) (i := i) (rest := rest)
    (by simp [ho]; simpa using hw)
   simp only [ho, Option.bind_some] at hs
   exact ⟨e, a', w', hq, .of_steps (hF.steps.2 (.one hs)) harr⟩
theorem wpO_region (hF : Wd F) {id n : Nat} {a : Act} {w : World} (h : wpO P F ops Q (List.range ops.size) a w) : (Code.region id ops false).wpIn F n P Q a w :=
 fun b k cs hro hb hr => let ⟨e, a', w', q, r⟩ := wpO_sound hF _ a w h b k cs; ⟨e, a', w', q, .of_steps (.one (fenced_calm hb hr rfl) stepR_region) r⟩
theorem wpO_region_draw (hF : Wd F) {id n : Nat} {a : Act} {w : World} (h : ∀ t, wpO P F ops Q (Region.schedule (P.follows .mixedOrders) ops t) a w.drew) : (Code.region id ops true).wpIn F n P Q a w :=
 fun b k cs hro hb hr => let ⟨e, a', w', q, r⟩ := wpO_sound hF _ a _ (h _) b k cs; ⟨e, a', w', q, .of_steps (.one (fenced_calm hb hr rfl) stepR_region_draw) r⟩
end
def WOps (P : Program) (tb : Tab) (all : Array Oper) : List Oper → Sta → (Sta → Prop) → Prop
 | [], s, Q => Q s
 | o :: os, s, Q => ∃ s', Ev P tb all s o s' ∧ WOps P tb all os s' Q
theorem QEv.noDefer {P : Program} {tb : Tab} {hb : Heap} {g : Operand → Option AV} {op : Op} {ty : TypeId} {r : Res} (h : QEv P tb hb g op ty r) : ∀ c, op ≠ .defer c := by
 intro c hc; subst hc; cases h
theorem EEv.noDefer {P : Program} {tb : Tab} {hb : Heap} {g : Operand → Option AV} {nx : Nat} {op : Op} {ty : TypeId} {v : AV} {h' : Heap} {nx' : Nat} (h : EEv P tb g hb nx op ty v h' nx') : ∀ c, op ≠ .defer c := by
 intro c hc; subst hc; cases h
section
variable {P : Program} {tb : Tab} {G : Gh} {F : Fence}
theorem ev_sound (hT : TabOk P tb) {all : Array Oper} {s s' : Sta} {o : Oper} {a : Act} {w : World} {φ : Phi} {S : Nat → Prop} (h : Rel tb G w a φ S s) (he : Ev P tb all s o s') (hd : dstOk G.nt o = true) (hall : (all.all fun o => dstOk G.nt o) = true) (K : Act → World → Prop)
  (hK : ∀ a' w' φ' S', Rel tb G w' a' φ' S' s' → K a' w') :
  (if Region.wanted o (yielded all a.tmps) then (∀ c, o.op ≠ .defer c) ∧ UponF P (fun v w' => K (a.put o.dst v) w') ((execOp a.eval o).run P w) else K (a.put o.dst undef) w) := by
 have hd' : ∀ d, o.dst = some d → d < G.nt := fun d hd2 => by rw [dstOk, hd2] at hd; exact Nat.le_of_ble_eq_true hd
 have hall' : ∀ d, (∃ (j : Nat) (p : Oper), all[j]? = some p ∧ p.dst = some d) → d < G.nt := by
  rintro d ⟨j, p, hp, hpd⟩
  have hj := Array.getElem?_eq_some_iff.1 hp
  have := Array.all_eq_true.1 hall j hj.1
  rw [hj.2, dstOk, hpd] at this
  exact Nat.le_of_ble_eq_true this
 have hop := opAV_rep h
 cases he with
 | skip hw =>
  rw [wanted_of h hw hall']
  exact hK _ _ φ S (h.put hd' (Keeps.refl w φ S) h.hr (NC.refl w) (.unk _))
 | skipU hw =>
  rw [wanted_of h hw hall']
  exact hK _ _ φ S (h.put hd' (Keeps.refl w φ S) h.hr (NC.refl w) (RepV.tu [] [] .nil))
 | skipD j want d hg h1 h2 =>
  rw [wanted_und h hg h1 h2 hall']
  exact hK _ _ φ S (h.put hd' (Keeps.refl w φ S) h.hr (NC.refl w) (RepV.tu [] [] .nil))
 | q r hw hq hid =>
  rw [wanted_of h hw hall']
  refine ⟨hq.noDefer, ?_⟩
  exact (hq.after (N := fun v w' => K (a.put o.dst v) w') hT h.hr hop hid fun v w' φ' S' k1 k2 k3 k4 => hK _ _ φ' S' (h.put hd' k1 k2 k3 k4)).f
 | e v h' nx' hw he =>
  rw [wanted_of h hw hall']
  refine ⟨he.noDefer, ?_⟩
  exact EEv.after (N := fun v w' => K (a.put o.dst v) w') hT h.hr hop he fun v w' φ' S' k1 k2 k3 k4 => hK _ _ φ' S' (h.put hd' k1 k2 k3 k4)
theorem wops_sound (hT : TabOk P tb) {all : Array Oper} (hall : (all.all fun o => dstOk G.nt o) = true) {Q : Exit → Sta → Prop} : ∀ (k i : Nat) (s : Sta) (a : Act) (w : World) (φ : Phi) (S : Nat → Prop), i + k = all.size → Rel tb G w a φ S s → WOps P tb all (all.toList.drop i) s (Q .normal) →
  wpO P F all (WPost tb G Q) (List.range' i k) a w
 | 0, i, s, a, w, φ, S, hi, hr, hw => by
  rw [List.drop_of_length_le (by simp; omega)] at hw
  exact ⟨s, φ, S, hr, hw⟩
 | k + 1, i, s, a, w, φ, S, hi, hr, hw => by
  have hlt : i < all.size := by omega
  have hlt' : i < all.toList.length := by simpa using hlt
  rw [List.drop_eq_getElem_cons hlt'] at hw
  obtain ⟨s', he, hw⟩ := hw
  simp only [Array.getElem_toList] at he
  refine ⟨all[i], Array.getElem?_eq_getElem hlt, ?_⟩
  have hd : dstOk G.nt all[i] = true := Array.all_eq_true.1 hall i hlt
  exact ev_sound hT hr he hd hall _ fun a' w' φ' S' hr' => wops_sound hT hall k (i + 1) s' a' w' φ' S' (by omega) hr' hw
theorem wp_region (hT : TabOk P tb) (hF : Wd F) {id : Nat} {all : Array Oper} {s : Sta} {Q : Exit → Sta → Prop} (hall : (all.all fun o => dstOk G.nt o) = true) (h : WOps P tb all all.toList s (Q .normal)) : WP P tb G F (.region id all false) s Q := by
 intro n a w φ S hr
 refine wpO_region hF ?_
 rw [List.range_eq_range']
 exact wops_sound hT hall all.size 0 s a w φ S (by omega) hr h
theorem wp_seq {x y : Code} {s : Sta} {Q : Exit → Sta → Prop} (h : WP P tb G F x s fun e s' => match e with | .normal => WP P tb G F y s' Q | e => Q e s') : WP P tb G F (.seq x y) s Q := by
 intro n a w φ S hr
 refine wpIn_seq (wpIn_mono (h n a w φ S hr) fun e a' w' hp => ?_)
 cases e with
 | normal =>
  obtain ⟨s', φ', S', h1, h2⟩ := hp
  ·exact h2 n a' w' φ' S' h1
 | _ =>
  obtain ⟨s', φ', S', h1, h2⟩ := hp
  ·exact ⟨s', φ', S', h1, h2⟩
theorem wp_skip {s : Sta} {Q : Exit → Sta → Prop} (h : Q .normal s) : WP P tb G F .skip s Q := fun n a w φ S hr => wpIn_skip ⟨s, φ, S, hr, h⟩
theorem wp_label {l : Nat} {s : Sta} {Q : Exit → Sta → Prop} (h : Q .normal s) : WP P tb G F (.label l) s Q := fun n a w φ S hr => wpIn_label ⟨s, φ, S, hr, h⟩
theorem wp_exit {id : Nat} {s : Sta} {Q : Exit → Sta → Prop} (h : Q (.exit id) s) : WP P tb G F (.exit id) s Q := fun n a w φ S hr => wpIn_exit ⟨s, φ, S, hr, h⟩
theorem wp_ret {s : Sta} {Q : Exit → Sta → Prop} (h : Q .ret s) : WP P tb G F .ret s Q := fun n a w φ S hr => wpIn_ret ⟨s, φ, S, hr, h⟩
theorem wp_block {id : Nat} {c : Code} {s : Sta} {Q : Exit → Sta → Prop} (h : WP P tb G F c s fun e s' => match e with | .exit i => (match Nat.beq i id with | true => Q .normal s' | false => Q (.exit i) s') | e => Q e s') : WP P tb G F (.block id c) s Q := by
 intro n a w φ S hr
 refine wpIn_block (wpIn_mono (h n a w φ S hr) fun e a' w' hp => ?_)
 cases e with
 | exit i =>
  obtain ⟨s', φ', S', h1, h2⟩ := hp
  ·simp only at h2
   simp only [Exit.inBlock]
   split at h2
   ·rename_i hb
    rw [if_pos (Nat.eq_of_beq_eq_true hb)]
    exact ⟨s', φ', S', h1, h2⟩
   ·rename_i hb
    rw [if_neg (fun e => by rw [e, Nat.beq_refl] at hb; cases hb)]
    exact ⟨s', φ', S', h1, h2⟩
 | _ =>
  obtain ⟨s', φ', S', h1, h2⟩ := hp
  ·exact ⟨s', φ', S', h1, h2⟩
theorem wp_cond {c : Operand} {x y : Code} {b : Bool} {s : Sta} {Q : Exit → Sta → Prop} (hc : opAV s.sl c = some (.t (.b b))) (h1 : b = true → WP P tb G F x s Q) (h2 : b = false → WP P tb G F y s Q) : WP P tb G F (.cond c x y) s Q := by
 intro n a w φ S hr
 have hv := bool_of (opAV_rep hr c _ hc)
 refine wpIn_cond hv ?_
 cases b
 ·exact h2 rfl n a w φ S hr
 ·exact h1 rfl n a w φ S hr
end
def trim (φ : Phi) (n : Nat) : Phi := fun i => if i < n then φ i else none
theorem trim_lt {φ : Phi} {n i b : Nat} (h : φ i = some b) (hi : Nat.blt i n = true) : trim φ n i = some b := by
 have : i < n := Nat.le_of_ble_eq_true hi
 simp [trim, this, h]
section
variable {P : Program} {tb : Tab} {G : Gh} {w : World} {φ : Phi} {S : Nat → Prop} {F : Fence} {K : Nat}
mutual
theorem RepV.trim {n : Nat} : ∀ {v : Value} {a : AV}, RepV tb w φ S v a → AV.lt n a = true → RepV tb w (Eng.trim φ n) S v a
 | _, _, .t v t h, _ => .t v t h
 | _, _, .nilS, _ => .nilS
 | _, _, .own e id off len b c cs h1 h2 h3 h4 h5, hl => .own e id off len b c cs (trim_lt h1 hl) h2 h3 h4 h5
 | _, _, .ptr e id idx off b h1, hl => .ptr e id idx off b (trim_lt h1 hl)
 | _, _, .clo f vs l h, hl => .clo f vs l (RepVs.trim h hl)
 | _, _, .tu vs l h, hl => .tu vs l (RepVs.trim h hl)
 | _, _, .yld id b h1, hl => .yld id b (trim_lt h1 hl)
 | _, _, .unk v, _ => .unk v
theorem RepVs.trim {n : Nat} : ∀ {vs : List Value} {l : List AV}, RepVs tb w φ S vs l → AV.lts n l = true → RepVs tb w (Eng.trim φ n) S vs l
 | _, _, .nil, _ => .nil
 | _, _, .cons v t vs l h1 h2, hl => by
  simp only [AV.lts, Bool.and_eq_true] at hl
  exact .cons v t vs l (RepV.trim h1 hl.1) (RepVs.trim h2 hl.2)
end
theorem RepO.trim {n b : Nat} {o : Obj} (h : RepO tb w φ S b o) (hl : o.lt n) : RepO tb w (Eng.trim φ n) S b o := by
 cases o with
 | arr e l =>
  refine ⟨h.1, fun i a ha => ?_⟩
  have hla := hl a (List.mem_of_getElem? ha)
  cases h.2 i a ha with
  | t t h1 h2 => exact .t t h1 h2
  | v v a h1 h2 h3 h4 => exact .v v a h1 h2 h3 (h4.trim hla)
 | loop sl ps asg body nt st pend =>
  obtain ⟨fn, tmps, D, h1, h2, h3⟩ := h
  exact ⟨fn, tmps, D, h1, h2, fun d v hv => (h3 d v hv).trim (slLt.spec hl d v hv)⟩
def GetAll (sl : Slots) : Slots → Prop
 | [] => True
 | (d, v) :: r => get sl d = some v ∧ GetAll sl r
def GetAllH (h : Heap) : Heap → Prop
 | [] => True
 | (d, v) :: r => get h d = some v ∧ GetAllH h r
theorem GetAll.spec {sl sl' : Slots} (h : GetAll sl sl') : ∀ d v, get sl' d = some v → get sl d = some v := by
 induction sl' with
 | nil => intro d v hv; simp [get] at hv
 | cons p r ih =>
  obtain ⟨k, u⟩ := p
  intro d v hv
  rw [get_cons] at hv
  split at hv
  ·rename_i e; subst e; injection hv with hv; subst hv; exact h.1
  ·exact ih h.2 d v hv
theorem GetAllH.spec {sl sl' : Heap} (h : GetAllH sl sl') : ∀ d v, get sl' d = some v → get sl d = some v := by
 induction sl' with
 | nil => intro d v hv; simp [get] at hv
 | cons p r ih =>
  obtain ⟨k, u⟩ := p
  intro d v hv
  rw [get_cons] at hv
  split at hv
  ·rename_i e; subst e; injection hv with hv; subst hv; exact h.1
  ·exact ih h.2 d v hv
theorem imp_less {s : Sta} {sl : Slots} {h : Heap} {nx : Nat} (h1 : GetAll s.sl sl) (h2 : GetAllH s.h h) (h3 : s.nx ≤ nx) : Imp K tb s ⟨sl, h, nx, s.df⟩ := by
 intro G w a φ S _ _ hr
 refine ⟨φ, S, ⟨⟨fun id o ho => hr.hr.hh id o (h2.spec _ _ ho), fun i j b hi hj => hr.hr.inj i j b ?_ ?_, fun i hi => hr.hr.fr i (Nat.le_trans h3 hi), hr.hr.φlt, hr.hr.φX, hr.hr.Slt, hr.hr.SS, hr.hr.Snew, hr.hr.frame⟩, fun d v hv => hr.sl d v (h1.spec _ _ hv), hr.nt, hr.df, hr.kp, hr.nc⟩⟩
 ·obtain ⟨o, ho⟩ := hi; exact ⟨o, h2.spec _ _ ho⟩
 ·obtain ⟨o, ho⟩ := hj; exact ⟨o, h2.spec _ _ ho⟩
def hLt (n : Nat) : Heap → Prop
 | [] => True
 | (id, some o) :: r => id < n ∧ o.lt n ∧ hLt n r
 | (_, none) :: r => hLt n r
theorem hLt.spec {n : Nat} {hp : Heap} (h : hLt n hp) : ∀ d o, get hp d = some (some o) → d < n ∧ o.lt n := by
 induction hp with
 | nil => intro d v hv; simp [get] at hv
 | cons p r ih =>
  obtain ⟨k, u⟩ := p
  intro d o hv
  rw [get_cons] at hv
  cases u with
  | none =>
   split at hv
   ·injection hv with hv; cases hv
   ·exact ih h d o hv
  | some u =>
   split at hv
   ·rename_i e; subst e; injection hv with hv; injection hv with hv; subst hv; exact ⟨h.1, h.2.1⟩
   ·exact ih h.2.2 d o hv
theorem imp_trim {s : Sta} {sl : Slots} {h : Heap} {nx : Nat} (h1 : GetAll s.sl sl) (h2 : GetAllH s.h h) (h3 : slLt nx sl = true) (h4 : hLt nx h) : Imp K tb s ⟨sl, h, nx, s.df⟩ := by
 intro G w a φ S hK0 hk0 hr
 have tr : ∀ i b, trim φ nx i = some b → φ i = some b := fun i b hb => by unfold trim at hb; split at hb; exact hb; cases hb
 refine ⟨trim φ nx, S, ⟨⟨fun id o ho => ?_, fun i j b hi hj k1 k2 => hr.hr.inj i j b ?_ ?_ (tr _ _ k1) (tr _ _ k2), fun i hi => ?_, fun i b hb => hr.hr.φlt i b (tr _ _ hb), fun i b hb => hr.hr.φX i b (tr _ _ hb), hr.hr.Slt, hr.hr.SS, hr.hr.Snew, hr.hr.frame⟩, fun d v hv => (hr.sl d v (h1.spec _ _ hv)).trim (slLt.spec h3 d v hv), hr.nt, hr.df, ⟨hr.kp.hw, hr.kp.hS, fun i b hb => trim_lt (hr.kp.hφ i b hb) (Nat.ble_eq ▸ Nat.lt_of_lt_of_le (G.hφ0 i b hb) (by rw [hK0]; exact hk0) : Nat.ble (i + 1) nx = true), hr.kp.hz⟩, hr.nc⟩⟩
 ·obtain ⟨k1, k2⟩ := h4.spec id o ho
  obtain ⟨b, j1, j2, j3, j4⟩ := hr.hr.hh id o (h2.spec _ _ ho)
  exact ⟨b, by simp [trim, k1, j1], j2, j3, j4.trim k2⟩
 ·obtain ⟨o, ho⟩ := hi; exact ⟨o, h2.spec _ _ ho⟩
 ·obtain ⟨o, ho⟩ := hj; exact ⟨o, h2.spec _ _ ho⟩
 ·have hi : nx ≤ i := hi
  unfold trim; rw [if_neg (by omega)]
theorem imp_freeze {s : Sta} (d : Nat) {e id off len : Nat} {l : List AV} (ts : List Tr) (h1 : get s.sl d = some (.own e id off len)) (h2 : get s.h id = some (some (.arr e l))) (hl : l = ts.map .t) (h3 : off + len ≤ ts.length) {r : List Tr} (hr' : (ts.drop off).take len = r) :
  Imp K tb s ⟨(d, .t (.sl e r)) :: s.sl, (id, none) :: s.h, s.nx, s.df⟩ := by
 subst hl hr'
 intro G w a φ S _ _ hr
 obtain ⟨b, k1, k2, k3, k4⟩ := hr.hr.hh id _ h2
 obtain ⟨f1, f2⟩ := hr_freeze hr.hr h2 k1
 refine ⟨φ, fun c => S c ∨ c = b, ⟨f1, fun d' v hv => ?_, hr.nt, hr.df, hr.kp.trans f2, hr.nc⟩⟩
 rw [get_cons] at hv
 split at hv
 ·rename_i e'; subst e'; injection hv with hv; subst hv
  exact .t _ _ (frozen_rep (hr.sl d _ h1) k1 k4 h3 (.inr rfl) fun _ h => .inl h)
 ·exact (hr.sl d' v hv).mono f2
theorem imp_freezePt {s : Sta} (d : Nat) {e id : Nat} {t : Tr} (h1 : get s.sl d = some (.ptr e id 0 0)) (h2 : get s.h id = some (some (.arr e [.t t]))) :
  Imp K tb s ⟨(d, .t (.pt t)) :: s.sl, (id, none) :: s.h, s.nx, s.df⟩ := by
 intro G w a φ S _ _ hr
 obtain ⟨b, k1, k2, k3, k4⟩ := hr.hr.hh id _ h2
 obtain ⟨f1, f2⟩ := hr_freeze hr.hr h2 k1
 refine ⟨φ, fun c => S c ∨ c = b, ⟨f1, fun d' v hv => ?_, hr.nt, hr.df, hr.kp.trans f2, hr.nc⟩⟩
 rw [get_cons] at hv
 split at hv
 ·rename_i e'; subst e'; injection hv with hv; subst hv
  exact .t _ _ (frozen_pt (hr.sl d _ h1) k1 k4 (.inr rfl) fun _ h => .inl h)
 ·exact (hr.sl d' v hv).mono f2
theorem wp_imp {s s' : Sta} {c : Code} {Q : Exit → Sta → Prop} (hK : G.k0 = K) (h : Imp K tb s s') (k : WP P tb G F c s' Q) (hk : Nat.ble K s'.nx = true := by rfl) : WP P tb G F c s Q := fun n a w φ S hr => by
 obtain ⟨φ', S', h1⟩ := h G w a φ S hK (Nat.le_of_ble_eq_true hk) hr
 exact k n a w φ' S' h1
theorem wp_mono {s : Sta} {c : Code} {Q Q' : Exit → Sta → Prop} (h : WP P tb G F c s Q) (k : ∀ e s', Q e s' → Q' e s') : WP P tb G F c s Q' := fun n a w φ S hr =>
 wpIn_mono (h n a w φ S hr) fun e a' w' ⟨s', φ', S', h1, h2⟩ => ⟨s', φ', S', h1, k _ _ h2⟩
theorem wp_bound {s : Sta} {c : Code} {Q : Exit → Sta → Prop} (d : Nat) {e : TypeId} {l : List Tr} (hd : get s.sl d = some (.t (.sl e l))) (h : l.length * byOf tb e ≤ 140737488355328 → WP P tb G F c s Q) : WP P tb G F c s Q := fun n a w φ S hr => by
 obtain ⟨b, c', h1, h2, h3, h4⟩ := sl_of (repT_of (hr.sl d _ hd))
 exact h h3 n a w φ S hr
theorem wp_boundO {s : Sta} {c : Code} {Q : Exit → Sta → Prop} (d : Nat) {e id off len : Nat} (hd : get s.sl d = some (.own e id off len)) (h : len * byOf tb e ≤ 140737488355328 → WP P tb G F c s Q) : WP P tb G F c s Q := fun n a w φ S hr => by
 obtain ⟨b, c', cs, h1, h2, h3, h4, h5⟩ := own_of (hr.sl d _ hd)
 exact h h4 n a w φ S hr
theorem tree_bound {v : Value} {t : Tr} {S : Nat → Prop} (h : RepT tb w S v t) {l : List Tr} {i : Nat} {e : TypeId} {m : List Tr} (ht : t.cells = l) (hi : l[i]? = some (.sl e m)) : m.length * byOf tb e ≤ 140737488355328 := by
 have := h.cells
 rw [ht] at this
 obtain ⟨u, h1, h2⟩ := this.at i hi
 obtain ⟨b, c', k1, k2, k3, k4⟩ := sl_of h2
 exact k3
theorem wp_boundF {s : Sta} {c : Code} {Q : Exit → Sta → Prop} (d i : Nat) {e : TypeId} {t : Tr} {l : List Tr} (hd : get s.sl d = some (.t t)) (hi : t.cells[i]? = some (.sl e l)) (h : l.length * byOf tb e ≤ 140737488355328 → WP P tb G F c s Q) : WP P tb G F c s Q := fun n a w φ S hr =>
 h (tree_bound (repT_of (hr.sl d _ hd)) rfl hi) n a w φ S hr
theorem wp_loop {c : Code} {s : Sta} {Q : Exit → Sta → Prop} {ι : Type} (st : ι → Sta) (Inv : ι → Prop) (μ : ι → Nat) (i : ι) (hK : G.k0 = K) (h0 : Inv i) (hk : ∀ i, K ≤ (st i).nx) (hs : Imp K tb s (st i))
  (round : ∀ i, Inv i → WP P tb G F c (st i) fun e s' => match e with | .normal => ∃ j, Inv j ∧ μ j < μ i ∧ Imp K tb s' (st j) | e => Q e s') : WP P tb G F (.loop c) s Q := by
 intro n a w φ S hr
 obtain ⟨φ0, S0, hr0⟩ := hs G w a φ S hK (hk _) hr
 intro b k cs hro hb hroom
 have key : ∀ (m : Nat) (i : ι) (a : Act) (w : World) (φ : Phi) (S : Nat → Prop), μ i = m → Inv i → Rel tb G w a φ S (st i) →
   ∃ e a' w', WPost tb G Q e a' w' ∧ ArrivesIn (Machine.fenced P F) P (lone (b.atR a (.code c :: .inLoop c :: k)) cs w) b k cs e a' w' := by
  intro m
  induction m using Nat.strongRecOn with
  | _ m ih =>
   intro i a w φ S hm hi hr
   obtain ⟨e, a', w', hq, harr⟩ := round i hi n a w φ S hr b (.inLoop c :: k) cs hro hb hroom
   obtain ⟨s', φ', S', k1, k2⟩ := hq
   ·cases e with
    | normal =>
     obtain ⟨j, j1, j2, j3⟩ := k2
     obtain ⟨φ2, S2, k3⟩ := j3 G w' a' φ' S' hK (hk _) k1
     obtain ⟨e2, a2, w2, hq2, harr2⟩ := ih (μ j) (hm ▸ j2) j a' w' φ2 S2 rfl j1 k3
     exact ⟨e2, a2, w2, hq2, .of_steps (StepsIn.trans harr (.one (fenced_calm hb hroom rfl) stepR_inLoop)) harr2⟩
    | outgrown => exact ⟨.outgrown, a', w', ⟨s', φ', S', k1, k2⟩, .pass (x := .inLoop c) rfl (fun _ _ => .inl (by simp)) harr⟩
    | exit id => exact ⟨_, a', w', ⟨s', φ', S', k1, k2⟩, .pass (x := .inLoop c) rfl (fun _ _ => .inl (by simp)) harr⟩
    | goto l => exact ⟨_, a', w', ⟨s', φ', S', k1, k2⟩, .pass (x := .inLoop c) rfl (fun _ _ => .inl (by simp)) harr⟩
    | ret => exact ⟨_, a', w', ⟨s', φ', S', k1, k2⟩, .pass (x := .inLoop c) rfl (fun _ _ => .inl (by simp)) harr⟩
    | panic ch => exact ⟨_, a', w', ⟨s', φ', S', k1, k2⟩, .pass (x := .inLoop c) rfl (fun _ _ => .inl (by simp)) harr⟩
 obtain ⟨e, a', w', hq, harr⟩ := key _ i a w φ0 S0 rfl h0 hr0
 exact ⟨e, a', w', hq, .of_steps (.one (fenced_calm hb hroom rfl) stepR_loop) harr⟩
def initSl : Nat → List AV → Slots
 | _, [] => []
 | i, v :: vs => (i, v) :: initSl (i + 1) vs
def ResIs (tb : Tab) (s : Sta) : List ResultVar → List Tr → Prop
 | [], [] => True
 | .tmp t :: rs, x :: xs => AsTr (opAV s.sl) (.tmp t) x ∧ ResIs tb s rs xs
 | .cell t T :: rs, x :: xs => (∃ ti, get tb T = some ti ∧ fits ti x = true ∧ (get s.sl t = some (.t (.pt x)) ∨ ∃ e id l, get s.sl t = some (.ptr e id 0 0) ∧ get s.h id = some (some (.arr e l)) ∧ l[0]? = some (.t x))) ∧ ResIs tb s rs xs
 | _, _ => False
def retT : List Tr → Tr
 | [t] => t
 | l => .tu l
def rvSem (tmps : Array Value) : ResultVar → Sem Value
 | .tmp t => pure (tmps.getD t undef)
 | .cell a t => do loadVar t (← asAddr (tmps.getD a undef))
theorem results_eq (fn : Func) (tmps : Array Value) : results fn tmps = (do
  let vs ← fn.results.mapM (rvSem tmps)
  pure (if h : vs.size = 1 then vs[0] else .tuple vs)) := rfl
theorem results_run (hT : TabOk P tb) {a : Act} {s : Sta} (hr : Rel tb G w a φ S s) : ∀ (rs : List ResultVar) (xs : List Tr), ResIs tb s rs xs →
  ∃ vs : List Value, (rs.mapM (rvSem a.tmps)).run P w = .ok vs w ∧ RepL tb w S vs xs
 | [], [], _ => ⟨[], by simp, .nil⟩
 | .tmp t :: rs, x :: xs, h => by
  obtain ⟨vs, h1, h2⟩ := results_run hT hr rs xs h.2
  have h0 : (rvSem a.tmps (.tmp t)).run P w = .ok (a.tmps.getD t undef) w := rfl
  exact ⟨a.tmps.getD t undef :: vs, by simp only [List.mapM_cons, Sem.run_bind, h0, Result.andThen_ok, h1, Sem.run_pure], .cons _ _ _ _ (h.1.rep (opAV_rep hr)) h2⟩
 | .cell t T :: rs, x :: xs, h => by
  obtain ⟨vs, h1, h2⟩ := results_run hT hr rs xs h.2
  obtain ⟨⟨ti, ht, hf, hc⟩, _⟩ := h
  have hl : ∃ v ad, a.tmps.getD t undef = .pointer (some ad) ∧ (loadVar T ad).run P w = .ok v w ∧ RepT tb w S v x := by
   rcases hc with hc | ⟨e, id, l, hc1, hc2, hc3⟩
   ·obtain ⟨b, o, k1, k2, k3⟩ := pt_of (hr.sl t _ hc)
    obtain ⟨v, k4, k5⟩ := run_loadVar_fits (hT _ _ ht) hf k3
    exact ⟨v, _, k1, k4, k5⟩
   ·obtain ⟨b, k1, k2⟩ := ptr_of (hr.sl t _ hc1)
    obtain ⟨b', j1, j2, j3, j4, j5⟩ := hr.hr.hh id _ hc2
    rw [k1] at j1; injection j1 with j1; subst j1
    have hE := j5 0 _ hc3
    cases hE with
    | t t h3 h4 =>
     obtain ⟨v, k4, k5⟩ := run_loadVar_fits (hT _ _ ht) hf h4
     exact ⟨v, _, by rw [k2, Nat.add_zero], k4, k5⟩
    | v v a h3 h4 => exact absurd rfl (h4 x)
  obtain ⟨v, ad, k1, k2, k3⟩ := hl
  have h0 : (rvSem a.tmps (.cell t T)).run P w = .ok v w := by
   unfold rvSem
   simp only [Sem.run_bind, k1, asAddr, Sem.run_pure, Result.andThen_ok, k2]
  exact ⟨v :: vs, by simp only [List.mapM_cons, Sem.run_bind, h0, Result.andThen_ok, h1, Sem.run_pure], .cons _ _ _ _ k3 h2⟩
 | [], _ :: _, h => h.elim
 | .tmp _ :: _, [], h => h.elim
 | .cell _ _ :: _, [], h => h.elim
def Ends (tb : Tab) (rs : List ResultVar) (xs : List Tr) : Exit → Sta → Prop := fun e s => (e = .normal ∨ e = .ret) ∧ s.df = 0 ∧ ResIs tb s rs xs
theorem fnP_of (hT : TabOk P tb) {f : FuncId} {fn : Func} {c : Code} {args xs : List Tr} (hf : P.funcs[f]? = some fn) (hb : fn.body = some c) (hname : (fn.name == "runtime.NumGoroutine") = false) (hn : args.length ≤ fn.ntmps)
  (h : ∀ G, G.nt = fn.ntmps → G.k0 = 0 → WP P tb G Fence.wide c ⟨initSl 0 (args.map .t), [], 0, 0⟩ (Ends tb fn.results.toList xs)) : FnP P tb f args (retT xs) := by
 intro w S vs N hrep hS hN
 have hrun : (callFunc f vs).run P w = .ok (.enter f vs) w := by
  have hname' : ¬ fn.name = "runtime.NumGoroutine" := by simpa using hname
  simp [callFunc, hf, hname', hb]
 rw [hrun]
 show Calls P f vs w _
 refine (callsIn_wide (n := 0)).1 (callsIn_of_wp hf hb trivial ?_)
 let G : Gh := { w0 := w, S0 := S, X := X0, nt := fn.ntmps, k0 := 0, φ0 := fun _ => none, hφ0 := fun _ _ h => by cases h }
 have hvl : vs.size = args.length := by have := hrep.length; simpa using this
 have hRel : Rel tb G w { tmps := vs ++ Array.replicate (fn.ntmps - vs.size) undef, defers := [] } (fun _ => none) S ⟨initSl 0 (args.map .t), [], 0, 0⟩ := by
  refine ⟨⟨fun id o ho => by simp [get] at ho, fun i j b hi => by obtain ⟨o, ho⟩ := hi; simp [get] at ho, fun _ _ => rfl, fun i b hb => by simp at hb, fun i b hb => by simp at hb, hS, fun _ h => h, fun _ h => .inl h, Fr.refl _ _⟩, ?_, by simp [G]; omega, ⟨[], rfl, List.nodup_nil, rfl, fun r hr => by simp at hr⟩, Keeps.refl _ _ _, NC.refl _⟩
  have key : ∀ (l : List Tr) (us : List Value) (i : Nat), RepL tb w S us l → (∀ j u, us[j]? = some u → (vs ++ Array.replicate (fn.ntmps - vs.size) undef).getD (i + j) undef = u) →
    ∀ d v, get (initSl i (l.map .t)) d = some v → RepV tb w (fun _ => none) S ((vs ++ Array.replicate (fn.ntmps - vs.size) undef).getD d undef) v := by
   intro l
   induction l with
   | nil => intro us i _ _ d v hv; simp [initSl, get] at hv
   | cons t l ih =>
    intro us i hu hat d v hv
    cases hu with
    | cons u t us l h1 h2 =>
     simp only [List.map_cons, initSl] at hv
     rw [get_cons] at hv
     split at hv
     ·rename_i e; subst e; injection hv with hv; subst hv
      have := hat 0 u rfl
      rw [Nat.add_zero] at this
      rw [this]; exact .t _ _ h1
     ·exact ih us (i + 1) h2 (fun j u hj => by have := hat (j + 1) u (by simpa using hj); rw [← this]; congr 1; omega) d v hv
  refine key args vs.toList 0 hrep fun j u hj => ?_
  have hj' : vs[j]? = some u := by simpa using hj
  have hlt := (Array.getElem?_eq_some_iff.1 hj').1
  rw [Nat.zero_add, Array.getD_eq_getD_getElem?, Array.getElem?_append_left hlt, hj']; rfl
 refine wpIn_mono (h G rfl rfl 0 _ w _ S hRel) ?_
 rintro e a' w' ⟨s', φ', S', h1, h2, h3, h4⟩
 ·have hdf : a'.defers = [] := by
   obtain ⟨ms, k1, k2, k3, k4⟩ := h1.df
   rw [h3] at k3
   rw [k1, List.length_eq_zero_iff.1 k3]; rfl
  obtain ⟨us, r1, r2⟩ := results_run hT h1 fn.results.toList xs h4
  have hres : ∃ v, (results fn a'.tmps).run P w' = .ok v w' ∧ RepT tb w' S' v (retT xs) := by
   have e1 : (results fn a'.tmps).run P w' = .ok (if h : us.length = 1 then us[0] else .tuple us.toArray) w' := by
    rw [results_eq]
    have r1' : (fn.results.mapM (rvSem a'.tmps)).run P w' = .ok us.toArray w' := by
     rw [Array.mapM_eq_mapM_toList]
     simp only [Sem.run_map, r1, Result.andThen_ok]
    simp only [Sem.run_bind, r1', Result.andThen_ok, Sem.run_pure]
    congr 1
   refine ⟨_, e1, ?_⟩
   have hl := r2.length
   cases r2 with
   | nil => simpa [retT] using RepT.tu (tb := tb) (w := w') (S := S') [] [] .nil
   | cons v t us l q1 q2 =>
    cases q2 with
    | nil => simpa [retT] using q1
    | cons v2 t2 us l q2 q3 => simpa [retT] using RepT.tu (tb := tb) (w := w') (S := S') _ _ (.cons _ _ _ _ q1 (.cons _ _ _ _ q2 q3))
  obtain ⟨v, hv1, hv2⟩ := hres
  have hN' := hN v w' S' hv2 h1.hr.frame ⟨h1.hr.SS, fun b hb => (h1.hr.Snew b hb).imp id fun h => h.elim id fun h => h.elim, h1.hr.Slt⟩
  rcases h2 with rfl | rfl
  ·exact ⟨hdf, v, hv1, v, rfl, hN'⟩
  ·exact ⟨hdf, v, hv1, v, rfl, hN'⟩
def ResH (tb : Tab) (s : Sta) (rs : List ResultVar) (t : AV) : Prop := (∃ xs, t = .t (retT xs) ∧ ResIs tb s rs xs) ∨ ∃ d, rs = [.tmp d] ∧ get s.sl d = some t
def EndsH (tb : Tab) (rs : List ResultVar) (t : AV) (K : Nat) (h1 : Heap) (k1 : Nat) : Exit → Sta → Prop := fun e s => (e = .normal ∨ e = .ret) ∧ s.df = 0 ∧ ∃ s2, Imp K tb s s2 ∧ K ≤ s2.nx ∧ s2.nx ≤ k1 ∧ GetAllH s2.h h1 ∧ ResH tb s2 rs t
theorem fnH_of (hT : TabOk P tb) {f : FuncId} {fn : Func} {c : Code} {args : List AV} {objs : List Obj} {t : AV} {h1 : Heap} {k1 : Nat} (hf : P.funcs[f]? = some fn) (hb : fn.body = some c) (hname : (fn.name == "runtime.NumGoroutine") = false) (hn : args.length ≤ fn.ntmps)
  (h : ∀ G, G.nt = fn.ntmps → G.k0 = objs.length → WP P tb G Fence.wide c ⟨initSl 0 args, mkH 0 objs, objs.length, 0⟩ (EndsH tb fn.results.toList t objs.length h1 k1)) : FnH P tb f args objs t h1 k1 := by
 intro w φ S vs N hrep hr hN
 have hrun : (callFunc f vs).run P w = .ok (.enter f vs) w := by
  have hname' : ¬ fn.name = "runtime.NumGoroutine" := by simpa using hname
  simp [callFunc, hf, hname', hb]
 rw [hrun]
 show Calls P f vs w _
 refine (callsIn_wide (n := 0)).1 (callsIn_of_wp hf hb trivial ?_)
 have hdom : ∀ i b, φ i = some b → i < objs.length := fun i b hb => by
  rcases Nat.lt_or_ge i objs.length with h | h
  ·exact h
  ·rw [hr.fr i h] at hb; cases hb
 let G : Gh := { w0 := w, S0 := S, X := fun b => ∃ i, φ i = some b, nt := fn.ntmps, k0 := objs.length, φ0 := φ, hφ0 := hdom }
 have hvl : vs.size = args.length := by
  have : ∀ (l : List AV) (us : List Value), RepVs tb w φ S us l → us.length = l.length := by
   intro l
   induction l with
   | nil => intro us h; cases h; rfl
   | cons a l ih => intro us h; cases h with | cons v t us l h1 h2 => simp [ih _ h2]
  simpa using this _ _ hrep
 have hRel : Rel tb G w { tmps := vs ++ Array.replicate (fn.ntmps - vs.size) undef, defers := [] } φ S ⟨initSl 0 args, mkH 0 objs, objs.length, 0⟩ := by
  refine ⟨⟨hr.hh, hr.inj, hr.fr, hr.φlt, hr.φX, hr.Slt, hr.SS, hr.Snew, hr.frame⟩, ?_, by simp [G]; omega, ⟨[], rfl, List.nodup_nil, rfl, fun r hr => by simp at hr⟩, Keeps.refl _ _ _, NC.refl _⟩
  have key : ∀ (l : List AV) (us : List Value) (i : Nat), RepVs tb w φ S us l → (∀ j u, us[j]? = some u → (vs ++ Array.replicate (fn.ntmps - vs.size) undef).getD (i + j) undef = u) →
    ∀ d v, get (initSl i l) d = some v → RepV tb w φ S ((vs ++ Array.replicate (fn.ntmps - vs.size) undef).getD d undef) v := by
   intro l
   induction l with
   | nil => intro us i _ _ d v hv; simp [initSl, get] at hv
   | cons t l ih =>
    intro us i hu hat d v hv
    cases hu with
    | cons u t us l h1 h2 =>
     simp only [initSl] at hv
     rw [get_cons] at hv
     split at hv
     ·rename_i e; subst e; injection hv with hv; subst hv
      have := hat 0 u rfl
      rw [Nat.add_zero] at this
      rw [this]; exact h1
     ·exact ih us (i + 1) h2 (fun j u hj => by have := hat (j + 1) u (by simpa using hj); rw [← this]; congr 1; omega) d v hv
  refine key args vs.toList 0 hrep fun j u hj => ?_
  have hj' : vs[j]? = some u := by simpa using hj
  have hlt := (Array.getElem?_eq_some_iff.1 hj').1
  rw [Nat.zero_add, Array.getD_eq_getD_getElem?, Array.getElem?_append_left hlt, hj']; rfl
 refine wpIn_mono (h G rfl rfl 0 _ w _ S hRel) ?_
 rintro e a' w' ⟨s', φ', S', r1, r2, r3, s2, r4, r5, r6, r7, r8⟩
 ·have hdf : a'.defers = [] := by
   obtain ⟨ms, k1, k2, k3, k4⟩ := r1.df
   rw [r3] at k3
   rw [k1, List.length_eq_zero_iff.1 k3]; rfl
  obtain ⟨φ2, S2, q⟩ := r4 G w' a' φ' S' rfl r5 r1
  have hres : ∃ v, (results fn a'.tmps).run P w' = .ok v w' ∧ RepV tb w' φ2 S2 v t := by
   rcases r8 with ⟨xs, rfl, hxs⟩ | ⟨d, hd1, hd2⟩
   ·obtain ⟨us, u1, u2⟩ := results_run hT q fn.results.toList xs hxs
    have e1 : (results fn a'.tmps).run P w' = .ok (if h : us.length = 1 then us[0] else .tuple us.toArray) w' := by
     rw [results_eq]
     have u1' : (fn.results.mapM (rvSem a'.tmps)).run P w' = .ok us.toArray w' := by
      rw [Array.mapM_eq_mapM_toList]
      simp only [Sem.run_map, u1, Result.andThen_ok]
     simp only [Sem.run_bind, u1', Result.andThen_ok, Sem.run_pure]
     congr 1
    refine ⟨_, e1, .t _ _ ?_⟩
    cases u2 with
    | nil => simpa [retT] using RepT.tu (tb := tb) (w := w') (S := S2) [] [] .nil
    | cons v t us l q1 q2 =>
     cases q2 with
     | nil => simpa [retT] using q1
     | cons v2 t2 us l q2 q3 => simpa [retT] using RepT.tu (tb := tb) (w := w') (S := S2) _ _ (.cons _ _ _ _ q1 (.cons _ _ _ _ q2 q3))
   ·refine ⟨a'.tmps.getD d undef, ?_, q.sl d t hd2⟩
    rw [results_eq]
    have u1' : (fn.results.mapM (rvSem a'.tmps)).run P w' = .ok #[a'.tmps.getD d undef] w' := by
     rw [Array.mapM_eq_mapM_toList, hd1]
     simp [rvSem]
    simp only [Sem.run_bind, u1', Result.andThen_ok, Sem.run_pure]
    rfl
  obtain ⟨v, hv1, hv2⟩ := hres
  have hhr : HR tb (calleeG w φ S) w' φ2 S2 h1 k1 :=
   ⟨fun id o ho => q.hr.hh id o (r7.spec _ _ ho), fun i j b hi hj => q.hr.inj i j b (by obtain ⟨o, ho⟩ := hi; exact ⟨o, r7.spec _ _ ho⟩) (by obtain ⟨o, ho⟩ := hj; exact ⟨o, r7.spec _ _ ho⟩), fun i hi => q.hr.fr i (Nat.le_trans r6 hi), q.hr.φlt, q.hr.φX, q.hr.Slt, q.hr.SS, q.hr.Snew, q.hr.frame⟩
  have hN' := hN v w' φ2 S2 q.kp hhr q.nc hv2
  rcases r2 with rfl | rfl
  ·exact ⟨hdf, v, hv1, v, rfl, hN'⟩
  ·exact ⟨hdf, v, hv1, v, rfl, hN'⟩
end
def preds (ops : Array Oper) (i : Nat) : List Nat := match ops[i]? with
 | some o => (o.after.toList.filter fun e => Region.binds .any e).map (·.on)
 | none => []
def isPre (ops : Array Oper) : Nat → Nat → Nat → Bool
 | 0, _, _ => false
 | f + 1, i, j => (preds ops i).any fun k => Nat.beq k j || isPre ops f k j
def tmpsOf (ops : Array Oper) (o : Oper) : List Tmp :=
 (o.op.operands.toList.filterMap fun | .tmp t => some t | _ => none) ++ (match o.guard with
  | some (j, _) => ((ops[j]?).bind (·.dst)).toList
  | none => [])
def ordered (ops : Array Oper) (i j : Nat) : Bool := Nat.beq i j || (Nat.blt j i && isPre ops 3 i j) || (Nat.blt i j && isPre ops 3 j i)
def pureOp : Op → Bool
 | .move .. => true
 | .assign .. => true
 | .pick .. => true
 | .field .. => true
 | .fieldAddr .. => true
 | .indexAddr .. => true
 | .slice .. => true
 | .binOp .. => true
 | .unOp .. => true
 | .convert .. => true
 | .extract .. => true
 | .call { callee := .builtin .len, .. } => true
 | _ => false
def isLoad : Op → Bool
 | .load .. => true
 | _ => false
def isLate (ops : Array Oper) (lates : List Nat) (j : Nat) : Bool := match ops[j]? with
 | none => false
 | some p => (pureOp p.op || (isLoad p.op && lates.contains j)) && (List.range ops.size).all fun k => Nat.ble k j || (match (ops[k]?).bind (·.dst) with
  | some d => !(tmpsOf ops p).contains d || isPre ops 3 k j
  | none => true)
def drawOk (ops : Array Oper) (nt : Nat) (lates : List Nat) : Bool :=
 (List.range ops.size).all fun i => match ops[i]? with
  | none => false
  | some o => dstOk nt o && (preds ops i).all (fun k => Nat.blt k i) &&
   (List.range ops.size).all fun j => match ops[j]? with
    | none => false
    | some p => (match p.dst with
      | none => true
      | some d => (Nat.beq i j || !(o.dst == some d)) && (!(tmpsOf ops o).contains d || (!(Nat.beq i j) && ordered ops i j))) &&
     (!isEff o.op || ordered ops i j || (Nat.blt j i && isLate ops lates j))
structure DrawOk (ops : Array Oper) (nt : Nat) (lates : List Nat) : Prop where
 dst : ∀ (i : Nat) (o : Oper), ops[i]? = some o → dstOk nt o = true
 lt : ∀ (i k : Nat), k ∈ preds ops i → k < i
 uniq : ∀ (i j : Nat) (o p : Oper) (d : Tmp), ops[i]? = some o → ops[j]? = some p → o.dst = some d → p.dst = some d → i = j
 reads : ∀ (i j : Nat) (o p : Oper) (d : Tmp), ops[i]? = some o → ops[j]? = some p → p.dst = some d → d ∈ tmpsOf ops o → (j < i ∧ isPre ops 3 i j = true) ∨ (i < j ∧ isPre ops 3 j i = true)
 eff : ∀ (i j : Nat) (o : Oper), ops[i]? = some o → j < ops.size → isEff o.op = true → i = j ∨ (j < i ∧ isPre ops 3 i j = true) ∨ (i < j ∧ isPre ops 3 j i = true) ∨ (j < i ∧ isLate ops lates j = true)
theorem ordered_spec {ops : Array Oper} {i j : Nat} (h : ordered ops i j = true) : i = j ∨ (j < i ∧ isPre ops 3 i j = true) ∨ (i < j ∧ isPre ops 3 j i = true) := by
 simp only [ordered, Bool.or_eq_true, Bool.and_eq_true] at h
 rcases h with (h | ⟨h1, h2⟩) | ⟨h1, h2⟩
 ·exact .inl (Nat.eq_of_beq_eq_true h)
 ·exact .inr (.inl ⟨Nat.le_of_ble_eq_true h1, h2⟩)
 ·exact .inr (.inr ⟨Nat.le_of_ble_eq_true h1, h2⟩)
theorem isLate_spec {ops : Array Oper} {lates : List Nat} {j : Nat} (h : isLate ops lates j = true) : ∃ p, ops[j]? = some p ∧ (pureOp p.op = true ∨ (isLoad p.op = true ∧ lates.contains j = true)) ∧ ∀ (k : Nat) (q : Oper) (d : Tmp), j < k → ops[k]? = some q → q.dst = some d → d ∉ tmpsOf ops p ∨ isPre ops 3 k j = true := by
 unfold isLate at h
 split at h
 ·cases h
 ·rename_i p hp
  simp only [Bool.and_eq_true, Bool.or_eq_true] at h
  refine ⟨p, hp, h.1, fun k q d hk hq hd => ?_⟩
  have hks : k < ops.size := (Array.getElem?_eq_some_iff.1 hq).1
  have := List.all_eq_true.1 h.2 k (List.mem_range.2 hks)
  rw [hq] at this
  simp only [Option.bind_some, hd, Bool.or_eq_true] at this
  rcases this with h2 | h2
  ·have := Nat.le_of_ble_eq_true h2; omega
  ·rcases h2 with h2 | h2
   ·exact .inl (by simpa using h2)
   ·exact .inr h2
theorem drawOk_spec {ops : Array Oper} {nt : Nat} {lates : List Nat} (h : drawOk ops nt lates = true) : DrawOk ops nt lates := by
 have h1 : ∀ (i : Nat) (o : Oper), ops[i]? = some o → dstOk nt o = true ∧ (∀ k ∈ preds ops i, k < i) ∧ ∀ (j : Nat) (p : Oper), ops[j]? = some p →
   (∀ d, p.dst = some d → (i = j ∨ ¬ o.dst = some d) ∧ (d ∈ tmpsOf ops o → i ≠ j ∧ ordered ops i j = true)) ∧ (isEff o.op = true → ordered ops i j = true ∨ (j < i ∧ isLate ops lates j = true)) := by
  intro i o ho
  have hi : i < ops.size := (Array.getElem?_eq_some_iff.1 ho).1
  have h2 := List.all_eq_true.1 h i (List.mem_range.2 hi)
  simp only [ho, Bool.and_eq_true] at h2
  refine ⟨h2.1.1, fun k hk => Nat.le_of_ble_eq_true (List.all_eq_true.1 h2.1.2 k hk), fun j p hp => ?_⟩
  have hj : j < ops.size := (Array.getElem?_eq_some_iff.1 hp).1
  have h3 := List.all_eq_true.1 h2.2 j (List.mem_range.2 hj)
  simp only [hp, Bool.and_eq_true] at h3
  refine ⟨fun d hd => ?_, fun he => by
   have := h3.2
   simp only [Bool.or_eq_true, Bool.and_eq_true, he, Bool.not_true, Bool.false_eq_true, false_or] at this
   exact this.imp id fun ⟨a, b⟩ => ⟨Nat.le_of_ble_eq_true a, b⟩⟩
  have h4 := h3.1
  rw [hd] at h4
  simp only [Bool.and_eq_true, Bool.or_eq_true] at h4
  refine ⟨h4.1.imp Nat.eq_of_beq_eq_true fun h => by simpa using h, fun hm => ?_⟩
  rcases h4.2 with h5 | h5
  ·simp [hm] at h5
  ·refine ⟨fun e => ?_, h5.2⟩
   have := h5.1
   rw [e, Nat.beq_refl] at this; cases this
 refine ⟨fun i o ho => (h1 i o ho).1, fun i k hk => ?_, fun i j o p d ho hp hod hpd => ?_, fun i j o p d ho hp hpd hm => ?_, fun i j o ho hj he => ?_⟩
 ·cases ho : ops[i]? with
  | none => simp [preds, ho] at hk
  | some o => exact (h1 i o ho).2.1 k hk
 ·rcases (((h1 i o ho).2.2 j p hp).1 d hpd).1 with h | h
  ·exact h
  ·exact absurd hod h
 ·have := (((h1 i o ho).2.2 j p hp).1 d hpd).2 hm
  rcases ordered_spec this.2 with h | h
  ·exact absurd h this.1
  ·exact h
 ·rcases ((h1 i o ho).2.2 j _ (Array.getElem?_eq_getElem hj)).2 he with h | h
  ·rcases ordered_spec h with h | h | h
   ·exact .inl h
   ·exact .inr (.inl h)
   ·exact .inr (.inr (.inl h))
  ·exact .inr (.inr (.inr h))
theorem isPre_closed {ops : Array Oper} {D : Nat → Prop} (hD : ∀ i, D i → ∀ p ∈ preds ops i, D p) : ∀ (f i j : Nat), (∀ p ∈ preds ops i, D p) → isPre ops f i j = true → D j
 | 0, _, _, _, h => by simp [isPre] at h
 | f + 1, i, j, hi, h => by
  simp only [isPre, List.any_eq_true, Bool.or_eq_true] at h
  obtain ⟨k, hk, h⟩ := h
  rcases h with h | h
  ·rw [← Nat.eq_of_beq_eq_true h]; exact hi k hk
  ·exact isPre_closed hD f k j (hD k (hi k hk)) h
inductive EvD (P : Program) (tb : Tab) (all : Array Oper) (hb : Heap) (s : Sta) (o : Oper) : Option (Nat × Obj) → Sta → Heap → Prop
 | skip : isEff o.op = false → Wanted all s.sl o false → EvD P tb all hb s o none { s with sl := putS s.sl o.dst .unk } hb
 | val (v) : isEff o.op = false → Wanted all s.sl o true → QEv P tb hb (opAV s.sl) o.op o.type (.val v) → EvD P tb all hb s o none { s with sl := putS s.sl o.dst v } hb
 | new (v ob) : isEff o.op = false → Wanted all s.sl o true → QEv P tb hb (opAV s.sl) o.op o.type (.new v s.nx ob) → EvD P tb all hb s o (some (s.nx, ob)) { s with sl := putS s.sl o.dst v, h := (s.nx, some ob) :: s.h, nx := s.nx + 1 } hb
 | e (v h' nx') : isEff o.op = true → Wanted all s.sl o true → EEv P tb (opAV s.sl) s.h s.nx o.op o.type v h' nx' → EvD P tb all hb s o none { s with sl := putS s.sl o.dst v, h := h', nx := nx' } h'
def flag (lates : List Nat) (i : Nat) (o : Oper) : Bool := lates.contains i && !isEff o.op
def WOpsD (P : Program) (tb : Tab) (all : Array Oper) (lates : List Nat) : List Oper → Nat → (Heap → Prop) → Heap → Sta → (Sta → Prop) → Prop
 | [], _, _, _, s, Q => Q s
 | o :: os, i, wl, hb, s, Q => ∃ nw s' hb', EvD P tb all hb s o nw s' hb' ∧ (isEff o.op = true → wl hb') ∧ WOpsD P tb all lates os (i + 1) (fun h => wl h ∧ (flag lates i o = true → EvD P tb all h s o nw s' h)) hb' s' Q
theorem EvD.same {P : Program} {tb : Tab} {all : Array Oper} {hb hb' : Heap} {s s' : Sta} {o : Oper} {n : Option (Nat × Obj)} (h : EvD P tb all hb s o n s' hb') (hq : isEff o.op = false) : hb' = hb := by
 cases h with
 | skip => rfl
 | val => rfl
 | new => rfl
 | e v h' nx' h1 => rw [hq] at h1; cases h1
theorem wopsD_data {P : Program} {tb : Tab} {all : Array Oper} {lates : List Nat} {Q : Sta → Prop} : ∀ (l : List Oper) (p : Nat) (wl : Heap → Prop) (hb : Heap) (s : Sta), WOpsD P tb all lates l p wl hb s Q → wl hb →
  ∃ (st : Nat → Sta) (hbs : Nat → Heap) (nw : Nat → Option (Nat × Obj)), st 0 = s ∧ hbs 0 = hb ∧ (∀ i o, l[i]? = some o → EvD P tb all (hbs i) (st i) o (nw i) (st (i + 1)) (hbs (i + 1))) ∧ Q (st l.length) ∧ (∀ k, k ≤ l.length → wl (hbs k)) ∧
   ∀ i o, l[i]? = some o → flag lates (p + i) o = true → ∀ k, i ≤ k → k ≤ l.length → EvD P tb all (hbs k) (st i) o (nw i) (st (i + 1)) (hbs k)
 | [], p, wl, hb, s, h, hw => ⟨fun _ => s, fun _ => hb, fun _ => none, rfl, rfl, fun i o ho => by simp at ho, h, fun _ _ => hw, fun i o ho => by simp at ho⟩
 | o :: os, p, wl, hb, s, h, hw => by
  obtain ⟨n0, s', hb', he, hwe, h⟩ := h
  have hw' : wl hb' := by
   cases hE : isEff o.op with
   | true => exact hwe hE
   | false => rw [he.same hE]; exact hw
  have hfl : flag lates p o = true → EvD P tb all hb' s o n0 s' hb' := fun hf => by
   have hE : isEff o.op = false := by
    unfold flag at hf
    simp only [Bool.and_eq_true, Bool.not_eq_true'] at hf
    exact hf.2
   have e := he.same hE
   subst e; exact he
  obtain ⟨st, hbs, nw, h1, h2, h3, h4, h5, h6⟩ := wopsD_data os (p + 1) _ hb' s' h ⟨hw', hfl⟩
  refine ⟨fun i => match i with | 0 => s | i + 1 => st i, fun i => match i with | 0 => hb | i + 1 => hbs i, fun i => match i with | 0 => n0 | i + 1 => nw i, rfl, rfl, fun i o' ho => ?_, h4, fun k hk => ?_, fun i o' ho hf k hik hk => ?_⟩
  ·cases i with
   | zero =>
    simp at ho; subst ho
    show EvD P tb all hb s o n0 (st 0) (hbs 0)
    rw [h1, h2]; exact he
   | succ i => exact h3 i o' (by simpa using ho)
  ·cases k with
   | zero => exact hw
   | succ k => exact (h5 k (by simpa using hk)).1
  ·cases i with
   | zero =>
    simp at ho; subst ho
    rw [Nat.add_zero] at hf
    cases k with
    | zero =>
     show EvD P tb all hb s o n0 (st 0) hb
     have hE : isEff o.op = false := by
      unfold flag at hf
      simp only [Bool.and_eq_true, Bool.not_eq_true'] at hf
      exact hf.2
     have e := he.same hE
     rw [h1]; subst e; exact he
    | succ k =>
     show EvD P tb all (hbs k) s o n0 (st 0) (hbs k)
     rw [h1]; exact (h5 k (by simpa using hk)).2 hf
   | succ i =>
    cases k with
    | zero => omega
    | succ k => exact h6 i o' (by simpa using ho) (by rw [show p + 1 + i = p + (i + 1) by omega]; exact hf) k (by omega) (by simpa using hk)
theorem AsTr.congr {g g' : Operand → Option AV} {x : Operand} {t : Tr} (h : AsTr g x t) (e : g' x = g x) : AsTr g' x t := by unfold AsTr at *; rw [e]; exact h
theorem AsTrs.congr {g g' : Operand → Option AV} {xs : List Operand} {ts : List Tr} (h : AsTrs g xs ts) (e : ∀ x ∈ xs, g' x = g x) : AsTrs g' xs ts := by
 induction xs generalizing ts with
 | nil => cases ts with | nil => trivial | cons _ _ => exact h.elim
 | cons x xs ih => cases ts with | nil => exact h.elim | cons t ts => exact ⟨h.1.congr (e x (by simp)), ih h.2 fun y hy => e y (by simp [hy])⟩
theorem AsAVs.congr {g g' : Operand → Option AV} {xs : List Operand} {ts : List AV} (h : AsAVs g xs ts) (e : ∀ x ∈ xs, g' x = g x) : AsAVs g' xs ts := by
 induction xs generalizing ts with
 | nil => cases ts with | nil => trivial | cons _ _ => exact h.elim
 | cons x xs ih => cases ts with | nil => exact h.elim | cons t ts => exact ⟨(e x (by simp)).trans h.1, ih h.2 fun y hy => e y (by simp [hy])⟩
theorem BdIs.congr {g g' : Operand → Option AV} {x : Option Operand} {n d : Int} (h : BdIs g x n d) (e : ∀ y, x = some y → g' y = g y) : BdIs g' x n d := by
 cases x with
 | none => exact h
 | some y => obtain ⟨k, hk⟩ := h; exact ⟨k, (e y rfl).trans hk⟩
theorem QEv.congr {P : Program} {tb : Tab} {hb : Heap} {g g' : Operand → Option AV} {op : Op} {ty : TypeId} {r : Res} (h : QEv P tb hb g op ty r) (e : ∀ x ∈ op.operands, g' x = g x) : QEv P tb hb g' op ty r := by
 cases h with
 | move x ty v h => exact .move _ _ _ ((e _ (by simp [Op.operands])).trans h)
 | assign x ty v h => exact .assign _ _ _ ((e _ (by simp [Op.operands])).trans h)
 | moveT x ty t h => exact .moveT _ _ _ (h.congr (e _ (by simp [Op.operands])))
 | assignT x ty t h => exact .assignT _ _ _ (h.congr (e _ (by simp [Op.operands])))
 | pick x a b ty cb v h1 h2 => exact .pick _ _ _ _ cb _ ((e _ (by simp [Op.operands])).trans h1) (by rw [e a (by simp [Op.operands]), e b (by simp [Op.operands])]; exact h2)
 | alloc T ty ti id h1 h2 h3 => exact .alloc _ _ _ _ h1 h2 h3
 | allocNil T ty ti id e' h1 h2 h3 h4 => exact .allocNil _ _ _ _ _ h1 h2 h3 h4
 | box T x ty ti t h1 h2 h3 => exact .box _ _ _ _ _ h1 (h2.congr (e _ (by simp [Op.operands]))) h3
 | boxM T x ty ti t id h1 h2 h3 => exact .boxM _ _ _ _ _ _ h1 (h2.congr (e _ (by simp [Op.operands]))) h3
 | boxV T x ty ti v id h1 h2 h3 h4 h5 h6 => exact .boxV _ _ _ _ _ _ h1 h2 ((e _ (by simp [Op.operands])).trans h3) h4 h5 h6
 | build T parts ty ti fs zl ts l h1 h2 h3 h4 h5 h6 h7 => exact .build _ _ _ _ _ _ _ _ h1 h2 h3 h4 h5 (h6.congr fun x hx => e x (by simpa [Op.operands] using hx)) h7
 | buildA T parts ty ti m e' tie zl ts l h1 h2 h3 h4 h5 h6 h7 => exact .buildA _ _ _ _ _ _ _ _ _ _ h1 h2 h3 h4 h5 (h6.congr fun x hx => e x (by simpa [Op.operands] using hx)) h7
 | indexS T x ix ty ti s k n b h1 h2 h3 h4 h5 h6 => exact .indexS _ _ _ _ _ _ _ _ _ h1 h2 ((e _ (by simp [Op.operands])).trans h3) ((e _ (by simp [Op.operands])).trans h4) h5 h6
 | buildSlice T n parts ty ti tie e' ts h1 h2 h3 h4 h5 h6 h7 h8 h9 h10 h11 => exact .buildSlice _ _ _ _ _ _ _ _ h1 h2 h3 h4 (h5.congr fun x hx => e x (by simpa [Op.operands] using hx)) h6 h7 h8 h9 h10 h11
 | buildSliceM T n parts ty ti tie e' ts id h1 h2 h3 h4 h5 h6 h7 h8 h9 h10 h11 => exact .buildSliceM _ _ _ _ _ _ _ _ _ h1 h2 h3 h4 (h5.congr fun x hx => e x (by simpa [Op.operands] using hx)) h6 h7 h8 h9 h10 h11
 | load T x ty ti t h1 h2 h3 => exact .load _ _ _ _ _ h1 ((e _ (by simp [Op.operands])).trans h2) h3
 | loadP T x ty ti e' id idx l t h1 h2 h3 h4 h5 => exact .loadP _ _ _ _ _ _ _ _ _ h1 ((e _ (by simp [Op.operands])).trans h2) h3 h4 h5
 | loadF T x ty ti e' id idx off l t u h1 h2 h3 h4 h5 h6 => exact .loadF _ _ _ _ _ _ _ _ _ _ _ h1 ((e _ (by simp [Op.operands])).trans h2) h3 h4 h5 h6
 | loadV T x ty ti e' id idx l v h1 h2 h3 h4 h5 h6 => exact .loadV _ _ _ _ _ _ _ _ _ h1 ((e _ (by simp [Op.operands])).trans h2) h3 h4 h5 h6
 | fieldAddr T x f ty t u h1 h2 => exact .fieldAddr _ _ _ _ _ _ ((e _ (by simp [Op.operands])).trans h1) h2
 | fieldAddrP T x f ty ti fs ft off p e' id idx tif h1 h2 h3 h4 h5 h6 => exact .fieldAddrP _ _ _ _ _ _ _ _ _ _ _ _ _ h1 h2 h3 h4 h5 ((e _ (by simp [Op.operands])).trans h6)
 | field T x f ty t u h1 h2 => exact .field _ _ _ _ _ _ (h1.congr (e _ (by simp [Op.operands]))) h2
 | indexAddr T x ix ty ti tie e' l k n t h1 h2 h3 h4 h5 h6 h7 => exact .indexAddr _ _ _ _ _ _ _ _ _ _ _ h1 h2 h3 ((e _ (by simp [Op.operands])).trans h4) ((e _ (by simp [Op.operands])).trans h5) h6 h7
 | indexAddrO T x ix ty ti tie e' id off len k n h1 h2 h3 h4 h5 h6 h7 => exact .indexAddrO _ _ _ _ _ _ _ _ _ _ _ _ h1 h2 h3 ((e _ (by simp [Op.operands])).trans h4) ((e _ (by simp [Op.operands])).trans h5) h6 h7
 | indexAddrA T x ix ty ti tie e' l k n m t h1 h2 h3 h4 h5 h6 h7 h8 h9 h10 h11 => exact .indexAddrA _ _ _ _ _ _ _ _ _ _ _ _ h1 h2 h3 h4 h5 ((e _ (by simp [Op.operands])).trans h6) h7 ((e _ (by simp [Op.operands])).trans h8) h9 h10 h11
 | slice T x lo hi ty ti tie e' l nl nh h1 h2 h3 h4 h5 h6 h7 h8 h9 =>
  exact .slice _ _ _ _ _ _ _ _ _ _ _ h1 h2 h3 (h4.congr (e _ (by simp [Op.operands]))) (h5.congr fun y hy => e y (by simp [Op.operands, hy])) (h6.congr fun y hy => e y (by simp [Op.operands, hy])) h7 h8 h9
 | sliceX T x lo y mx ty ti tie e' l ky km nl nh nm h1 h2 h3 h4 h5 h6 h7 h8 h9 h10 h11 =>
  exact .sliceX _ _ _ _ _ _ _ _ _ _ _ _ _ _ _ h1 h2 h3 (h4.congr (e _ (by simp [Op.operands]))) (h5.congr fun y hy => e y (by simp [Op.operands, hy])) ((e _ (by simp [Op.operands])).trans h6) ((e _ (by simp [Op.operands])).trans h7) h8 h9 h10 h11
 | sliceO T x lo hi ty ti tie e' id off len nl nh h1 h2 h3 h4 h5 h6 h7 h8 h9 h10 =>
  exact .sliceO _ _ _ _ _ _ _ _ _ _ _ _ _ h1 h2 h3 ((e _ (by simp [Op.operands])).trans h4) (h5.congr fun y hy => e y (by simp [Op.operands, hy])) (h6.congr fun y hy => e y (by simp [Op.operands, hy])) h7 h8 h9 h10
 | makeSlice0 T x y ty ti tie e' kx ky m id h1 h2 h3 h4 h5 h6 h7 h8 h9 h10 h11 => exact .makeSlice0 _ _ _ _ _ _ _ _ _ _ _ h1 h2 h3 h4 h5 h6 ((e _ (by simp [Op.operands])).trans h7) ((e _ (by simp [Op.operands])).trans h8) h9 h10 h11
 | makeSlice T x y ty ti tie e' kx ky n id h1 h2 h3 h4 h5 h6 h7 h8 h9 h10 h11 => exact .makeSlice _ _ _ _ _ _ _ _ _ _ _ h1 h2 h3 h4 h5 h6 ((e _ (by simp [Op.operands])).trans h7) ((e _ (by simp [Op.operands])).trans h8) h9 h10 h11
 | arith op T x y ty ty2 k a b r n h1 h2 h3 h4 => exact .arith _ _ _ _ _ _ _ _ _ _ _ ((e _ (by simp [Op.operands])).trans h1) ((e _ (by simp [Op.operands])).trans h2) h3 h4
 | cmp op T x y ty ty2 k a b r h1 h2 h3 => exact .cmp _ _ _ _ _ _ _ _ _ _ ((e _ (by simp [Op.operands])).trans h1) ((e _ (by simp [Op.operands])).trans h2) h3
 | quo T x y ty ty2 k a b n h1 h2 h3 h4 => exact .quo _ _ _ _ _ _ _ _ _ ((e _ (by simp [Op.operands])).trans h1) ((e _ (by simp [Op.operands])).trans h2) h3 h4
 | rem T x y ty ty2 k a b n h1 h2 h3 h4 => exact .rem _ _ _ _ _ _ _ _ _ ((e _ (by simp [Op.operands])).trans h1) ((e _ (by simp [Op.operands])).trans h2) h3 h4
 | bits op T x y ty ty2 k a b r n h1 h2 h3 h4 => exact .bits _ _ _ _ _ _ _ _ _ _ _ ((e _ (by simp [Op.operands])).trans h1) ((e _ (by simp [Op.operands])).trans h2) h3 h4
 | shl T x y ty ty2 k k2 a b n h1 h2 h3 h4 => exact .shl _ _ _ _ _ _ _ _ _ _ ((e _ (by simp [Op.operands])).trans h1) ((e _ (by simp [Op.operands])).trans h2) h3 h4
 | shr T x y ty ty2 k k2 a b n h1 h2 h3 h4 => exact .shr _ _ _ _ _ _ _ _ _ _ ((e _ (by simp [Op.operands])).trans h1) ((e _ (by simp [Op.operands])).trans h2) h3 h4
 | eqB T x y ty ty2 ti a b h1 h2 h3 h4 => exact .eqB _ _ _ _ _ _ _ _ h1 h2 ((e _ (by simp [Op.operands])).trans h3) ((e _ (by simp [Op.operands])).trans h4)
 | neB T x y ty ty2 ti a b h1 h2 h3 h4 => exact .neB _ _ _ _ _ _ _ _ h1 h2 ((e _ (by simp [Op.operands])).trans h3) ((e _ (by simp [Op.operands])).trans h4)
 | neg T x ty k a n h1 h2 => exact .neg _ _ _ _ _ _ ((e _ (by simp [Op.operands])).trans h1) h2
 | compl T x ty k a r n h1 h2 h3 => exact .compl _ _ _ _ _ _ _ ((e _ (by simp [Op.operands])).trans h1) h2 h3
 | not T x ty b h1 => exact .not _ _ _ _ ((e _ (by simp [Op.operands])).trans h1)
 | conv A B x ty ta tbi ka kb k a n h1 h2 h3 h4 h5 h6 => exact .conv _ _ _ _ _ _ _ _ _ _ _ h1 h2 h3 h4 ((e _ (by simp [Op.operands])).trans h5) h6
 | fn f caps ty ts h1 => exact .fn _ _ _ _ (h1.congr fun x hx => e x (by simpa [Op.operands] using hx))
 | clo f caps ty vs h1 => exact .clo _ _ _ _ (h1.congr fun x hx => e x (by simpa [Op.operands] using hx))
 | extract x ix ty l t h1 h2 => exact .extract _ _ _ _ _ ((e _ (by simp [Op.operands])).trans h1) h2
 | extractV x ix ty l v h1 h2 => exact .extractV _ _ _ _ _ ((e _ (by simp [Op.operands])).trans h1) h2
 | len T x ty ti e' l n h1 h2 h3 h4 => exact .len _ _ _ _ _ _ _ h1 h2 (h3.congr (e _ (by simp [Op.operands, Call.operands]))) h4
 | lenO T x ty ti e' e2 id off n h1 h2 h3 => exact .lenO _ _ _ _ _ _ _ _ _ h1 h2 ((e _ (by simp [Op.operands, Call.operands])).trans h3)
 | max ts ty x y k a b h1 h2 => exact .max _ _ _ _ _ _ _ ((e _ (by simp [Op.operands, Call.operands])).trans h1) ((e _ (by simp [Op.operands, Call.operands])).trans h2)
 | min ts ty x y k a b h1 h2 => exact .min _ _ _ _ _ _ _ ((e _ (by simp [Op.operands, Call.operands])).trans h1) ((e _ (by simp [Op.operands, Call.operands])).trans h2)
 | call f fx args tys ty caps ts t h1 h2 h3 => exact .call _ _ _ _ _ _ _ _ ((e _ (by simp [Op.operands, Call.operands])).trans h1) (h2.congr fun x hx => e x (by simp [Op.operands, Call.operands]; exact .inr (by simpa using hx))) h3
 | callN f fx args tys ty caps ts e' l n id h1 h2 h3 h4 => exact .callN _ _ _ _ _ _ _ _ _ _ _ ((e _ (by simp [Op.operands, Call.operands])).trans h1) (h2.congr fun x hx => e x (by simp [Op.operands, Call.operands]; exact .inr (by simpa using hx))) h3 h4
 | nilCheck x ty t h1 => exact .nilCheck _ _ _ ((e _ (by simp [Op.operands])).trans h1)
 | nilCheckP x ty e' id idx off h1 => exact .nilCheckP _ _ _ _ _ _ ((e _ (by simp [Op.operands])).trans h1)
theorem Wanted.congr {all : Array Oper} {sl sl' : Slots} {o : Oper} {yes : Bool} (h : Wanted all sl o yes) (e : ∀ j want d, o.guard = some (j, want) → (all[j]?).bind (·.dst) = some d → get sl' d = get sl d) : Wanted all sl' o yes := by
 unfold Wanted at *
 split at h
 ·exact h
 ·rename_i j want hg
  obtain ⟨d, b, h1, h2, h3⟩ := h
  exact ⟨d, b, h1, (e j want d hg h1).trans h2, h3⟩
theorem QEv.anyHeap {P : Program} {tb : Tab} {hb hb' : Heap} {g : Operand → Option AV} {op : Op} {ty : TypeId} {r : Res} (h : QEv P tb hb g op ty r) (hl : isLoad op = false) : QEv P tb hb' g op ty r := by
 cases h <;> first | (cases hl; done) | (apply QEv.move <;> assumption; done) | (apply QEv.sliceX <;> assumption; done) | (apply QEv.makeSlice0 <;> assumption; done) | (apply QEv.assign <;> assumption; done) | (apply QEv.moveT <;> assumption; done) | (apply QEv.assignT <;> assumption; done) | (apply QEv.pick <;> assumption; done) | (apply QEv.alloc <;> assumption; done) | (apply QEv.allocNil <;> assumption; done) | (apply QEv.box <;> assumption; done) | (apply QEv.boxM <;> assumption; done) | (apply QEv.boxV <;> assumption; done) | (apply QEv.build <;> assumption; done) | (apply QEv.buildA <;> assumption; done) | (apply QEv.indexS <;> assumption; done) | (apply QEv.buildSlice <;> assumption; done) | (apply QEv.buildSliceM <;> assumption; done) | (apply QEv.fieldAddr <;> assumption; done) | (apply QEv.fieldAddrP <;> assumption; done) | (apply QEv.field <;> assumption; done) | (apply QEv.indexAddr <;> assumption; done) | (apply QEv.indexAddrO <;> assumption; done) | (apply QEv.indexAddrA <;> assumption; done) | (apply QEv.slice <;> assumption; done) | (apply QEv.sliceO <;> assumption; done) | (apply QEv.makeSlice <;> assumption; done) | (apply QEv.arith <;> assumption; done) | (apply QEv.cmp <;> assumption; done) | (apply QEv.quo <;> assumption; done) | (apply QEv.rem <;> assumption; done) | (apply QEv.bits <;> assumption; done) | (apply QEv.shl <;> assumption; done) | (apply QEv.shr <;> assumption; done) | (apply QEv.eqB <;> assumption; done) | (apply QEv.neB <;> assumption; done) | (apply QEv.neg <;> assumption; done) | (apply QEv.compl <;> assumption; done) | (apply QEv.not <;> assumption; done) | (apply QEv.conv <;> assumption; done) | (apply QEv.fn <;> assumption; done) | (apply QEv.clo <;> assumption; done) | (apply QEv.extract <;> assumption; done) | (apply QEv.extractV <;> assumption; done) | (apply QEv.len <;> assumption; done) | (apply QEv.lenO <;> assumption; done) | (apply QEv.max <;> assumption; done) | (apply QEv.min <;> assumption; done) | (apply QEv.call <;> assumption; done) | (apply QEv.callN <;> assumption; done) | (apply QEv.nilCheck <;> assumption; done) | (apply QEv.nilCheckP <;> assumption; done)
theorem EEv.congr {P : Program} {tb : Tab} {g g' : Operand → Option AV} {h : Heap} {nx : Nat} {op : Op} {ty : TypeId} {v : AV} {h' : Heap} {nx' : Nat} (he : EEv P tb g h nx op ty v h' nx') (hE : isEff op = true) (e : ∀ x ∈ op.operands, g' x = g x) : EEv P tb g' h nx op ty v h' nx' := by
 cases he with
 | store T x y ty ti tie e' id idx l t h1 h2 h3 h4 h5 h6 h7 h8 h9 => exact .store _ _ _ _ _ _ _ _ _ _ _ h1 h2 ((e _ (by simp [Op.operands])).trans h3) h4 h5 h6 (h7.congr (e _ (by simp [Op.operands]))) h8 h9
 | storeF T x y ty ti tie e' id idx off l t u h1 h2 h3 h4 h5 h6 h7 h8 h9 => exact .storeF _ _ _ _ _ _ _ _ _ _ _ _ _ h1 h2 ((e _ (by simp [Op.operands])).trans h3) h4 h5 h6 (h7.congr (e _ (by simp [Op.operands]))) h8 h9
 | storeV T x y ty ti tie e' id idx l v h1 h2 h3 h4 h5 h6 h7 h8 h9 h10 h11 => exact .storeV _ _ _ _ _ _ _ _ _ _ _ h1 h2 ((e _ (by simp [Op.operands])).trans h3) h4 h5 h6 h7 ((e _ (by simp [Op.operands])).trans h8) h9 h10 h11
 | appendO T x y ty ti tie e' id l ts us n m h1 h2 h3 h4 h5 h6 h7 h8 h9 h10 hln h11 h12 hm hbg => exact .appendO _ _ _ _ _ _ _ _ _ _ _ _ _ h1 h2 h3 h4 h5 h6 h7 ((e _ (by simp [Op.operands, Call.operands])).trans h8) h9 h10 hln (h11.congr (e _ (by simp [Op.operands, Call.operands]))) h12 hm hbg
 | appendN T x y ty ti tie e' us m h1 h2 h3 h4 h5 h6 h7 h8 h9 h10 h11 hm hbg => exact .appendN _ _ _ _ _ _ _ _ _ h1 h2 h3 h4 h5 h6 h7 ((e _ (by simp [Op.operands, Call.operands])).trans h8) (h9.congr (e _ (by simp [Op.operands, Call.operands]))) h10 h11 hm hbg
 | appendF T x y ty ti tie e' id l ts us n h1 h2 h3 h4 h5 h6 h7 h8 h9 h10 hln h11 h12 hbg => exact .appendF _ _ _ _ _ _ _ _ _ _ _ _ h1 h2 h3 h4 h5 h6 h7 ((e _ (by simp [Op.operands, Call.operands])).trans h8) h9 h10 hln (h11.congr (e _ (by simp [Op.operands, Call.operands]))) h12 hbg
 | copy T T2 x y ty ti tie e' id off len l us h1 h2 h3 h4 h5 h6 h7 h8 => exact .copy _ _ _ _ _ _ _ _ _ _ _ _ _ h1 h2 h3 ((e _ (by simp [Op.operands, Call.operands])).trans h4) h5 h6 (h7.congr (e _ (by simp [Op.operands, Call.operands]))) h8
 | callH => cases hE
 | callY => cases hE
 | appendA T x y ty ti tie e' id ts us h1 h2 h3 h4 h5 h6 h7 h8 h9 h10 h11 hbg => exact .appendA _ _ _ _ _ _ _ _ _ _ h1 h2 h3 h4 h5 h6 h7 ((e _ (by simp [Op.operands, Call.operands])).trans h8) h9 (h10.congr (e _ (by simp [Op.operands, Call.operands]))) h11 hbg
theorem QEv.noNew {P : Program} {tb : Tab} {hb : Heap} {g : Operand → Option AV} {op : Op} {ty : TypeId} {v : AV} {id : Nat} {ob : Obj} (h : QEv P tb hb g op ty (.new v id ob)) (hl : pureOp op = true ∨ isLoad op = true) : False := by
 cases h <;> simp [pureOp, isLoad] at hl
theorem EvD.late {P : Program} {tb : Tab} {all : Array Oper} {hb hb' : Heap} {s s' : Sta} {o : Oper} {n : Option (Nat × Obj)} (h : EvD P tb all hb s o n s' hb') (hl : pureOp o.op = true ∨ isLoad o.op = true) (hE : isEff o.op = false) : n = none ∧ (pureOp o.op = true → ∀ h2, EvD P tb all h2 s o none s' h2) := by
 cases h with
 | skip h1 h2 => exact ⟨rfl, fun _ h3 => .skip h1 h2⟩
 | val v h1 h2 h3 => exact ⟨rfl, fun hp h4 => .val v h1 h2 (h3.anyHeap (by
   cases ho : o.op <;> rw [ho] at hp <;> first | rfl | cases hp))⟩
 | new v ob h1 h2 h3 => exact (h3.noNew hl).elim
 | e v h' nx' h1 => rw [hE] at h1; cases h1
structure HP (tb : Tab) (G : Gh) (w : World) (φ : Phi) (S : Nat → Prop) (hp : Nat → Obj → Prop) : Prop where
 hh : ∀ id o, hp id o → ∃ b, φ id = some b ∧ b < w.heap.size ∧ ¬ S b ∧ RepO tb w φ S b o
 inj : ∀ i j b o o', hp i o → hp j o' → φ i = some b → φ j = some b → i = j
 φlt : ∀ i b, φ i = some b → b < w.heap.size
 φX : ∀ i b, φ i = some b → G.X b ∨ G.w0.heap.size ≤ b
 Slt : ∀ b, S b → b < w.heap.size
 SS : ∀ b, G.S0 b → S b
 Snew : ∀ b, S b → G.S0 b ∨ G.w0.heap.size ≤ b ∨ G.X b
 frame : Fr G.X G.w0 w
section
variable {P : Program} {tb : Tab} {G : Gh} {w : World} {φ : Phi} {S : Nat → Prop} {hp : Nat → Obj → Prop}
theorem HP.of_hr {h : Heap} {nx : Nat} (hr : HR tb G w φ S h nx) : HP tb G w φ S fun id o => get h id = some (some o) :=
 ⟨hr.hh, fun i j b o o' hi hj => hr.inj i j b ⟨o, hi⟩ ⟨o', hj⟩, hr.φlt, hr.φX, hr.Slt, hr.SS, hr.Snew, hr.frame⟩
theorem HP.hr {h : Heap} {nx : Nat} (k : HP tb G w φ S hp) (hh : ∀ id o, get h id = some (some o) → hp id o) (hf : ∀ i, nx ≤ i → φ i = none) : HR tb G w φ S h nx :=
 ⟨fun id o ho => k.hh id o (hh id o ho), fun i j b hi hj => by obtain ⟨o, ho⟩ := hi; obtain ⟨o', ho'⟩ := hj; exact k.inj i j b o o' (hh _ _ ho) (hh _ _ ho'), hf, k.φlt, k.φX, k.Slt, k.SS, k.Snew, k.frame⟩
theorem HP.keeps {w' : World} {φ' : Phi} {S' : Nat → Prop} (k : HP tb G w φ S hp) (hf : Fr X0 w w') (hS : ∀ b, S b → S' b) (hφ : ∀ i b, φ i = some b → φ' i = some b) : Keeps w w' φ φ' S S' :=
 ⟨fun b hb => hf.blk b (k.Slt b hb) id, hS, hφ, fun id b cs ty h1 h2 => ⟨cs, by rw [hf.blk b (k.φlt id b h1) fun x => x]; exact h2, rfl⟩⟩
theorem HP.val {w' : World} {S' : Nat → Prop} (k : HP tb G w φ S hp) (hf : Fr X0 w w') (hg : Gr w w' S S') : HP tb G w' φ S' hp := by
 have hk := k.keeps hf hg.hS (fun _ _ h => h)
 refine ⟨fun id ob hob => ?_, k.inj, fun i b hb => Nat.lt_of_lt_of_le (k.φlt i b hb) hf.size, k.φX, hg.lt, fun b hb => hg.hS b (k.SS b hb), fun b hb => ?_, k.frame.trans hf fun _ _ => False.elim⟩
 ·obtain ⟨b, h1, h2, h3, h4⟩ := k.hh id ob hob
  refine ⟨b, h1, Nat.lt_of_lt_of_le h2 hf.size, fun hs => ?_, h4.mono hk (hf.blk b h2 fun x => x)⟩
  rcases hg.new b hs with hs | hs
  ·exact h3 hs
  ·omega
 ·rcases hg.new b hb with hs | hs
  ·exact k.Snew b hs
  ·exact .inr (.inl (Nat.le_trans k.frame.size hs))
theorem HP.add {w' : World} {id b : Nat} {ob : Obj} (k : HP tb G w φ S hp) (hid : φ id = none) (hf : Fr X0 w w') (h1 : w.heap.size ≤ b) (h2 : b < w'.heap.size)
  (ho : RepO tb w' (fun i => if i = id then some b else φ i) S b ob) : HP tb G w' (fun i => if i = id then some b else φ i) S fun i o => hp i o ∨ (i = id ∧ o = ob) := by
 have hφ : ∀ i c, φ i = some c → (if i = id then some b else φ i) = some c := fun i c hc => by
  rw [if_neg]; · exact hc
  ·intro e; subst e; rw [hid] at hc; cases hc
 have hk := k.keeps (S' := S) hf (fun _ h => h) hφ
 have hne : ∀ i o, hp i o → i ≠ id := fun i o ho e => by
  obtain ⟨c, h3, _⟩ := k.hh i o ho
  rw [e, hid] at h3; cases h3
 refine ⟨fun i o' ho' => ?_, fun i j c o o' hi hj h3 h4 => ?_, fun i c hc => ?_, fun i c hc => ?_, fun c hc => Nat.lt_of_lt_of_le (k.Slt c hc) hf.size, k.SS, k.Snew, k.frame.trans hf fun _ _ => False.elim⟩
 ·rcases ho' with ho' | ⟨rfl, rfl⟩
  ·obtain ⟨c, k1, k2, k3, k4⟩ := k.hh i o' ho'
   exact ⟨c, hφ _ _ k1, Nat.lt_of_lt_of_le k2 hf.size, k3, k4.mono hk (hf.blk c k2 fun x => x)⟩
  ·exact ⟨b, if_pos rfl, h2, fun hs => by have := k.Slt b hs; omega, ho⟩
 ·have h3 : (if i = id then some b else φ i) = some c := h3
  have h4 : (if j = id then some b else φ j) = some c := h4
  rcases hi with hi | ⟨rfl, _⟩ <;> rcases hj with hj | ⟨hj, _⟩
  ·rw [if_neg (hne i o hi)] at h3; rw [if_neg (hne j o' hj)] at h4
   exact k.inj i j c o o' hi hj h3 h4
  ·rw [if_neg (hne i o hi)] at h3; rw [if_pos hj] at h4
   injection h4 with h4; subst h4
   have := k.φlt i _ h3; omega
  ·rw [if_pos rfl] at h3; rw [if_neg (hne j o' hj)] at h4
   injection h3 with h3; subst h3
   have := k.φlt j _ h4; omega
  ·exact hj.symm
 ·have hc : (if i = id then some b else φ i) = some c := hc
  split at hc
  ·injection hc with hc; omega
  ·exact Nat.lt_of_lt_of_le (k.φlt i c hc) hf.size
 ·have hc : (if i = id then some b else φ i) = some c := hc
  split at hc
  ·injection hc with hc; subst hc; exact .inr (Nat.le_trans k.frame.size h1)
  ·exact k.φX i c hc
theorem HP.mono {hp' : Nat → Obj → Prop} (k : HP tb G w φ S hp) (h : ∀ i o, hp' i o → hp i o) : HP tb G w φ S hp' :=
 ⟨fun id o ho => k.hh id o (h id o ho), fun i j b o o' hi hj => k.inj i j b o o' (h _ _ hi) (h _ _ hj), k.φlt, k.φX, k.Slt, k.SS, k.Snew, k.frame⟩
end
structure RD (P : Program) (tb : Tab) (all : Array Oper) (lates : List Nat) (st : Nat → Sta) (hbs : Nat → Heap) (nw : Nat → Option (Nat × Obj)) : Prop where
 ev : ∀ (i : Nat) (o : Oper), all[i]? = some o → EvD P tb all (hbs i) (st i) o (nw i) (st (i + 1)) (hbs (i + 1))
 late : ∀ (i : Nat) (o : Oper), all[i]? = some o → isLate all lates i = true → isEff o.op = false ∧ nw i = none ∧ ∀ k, i ≤ k → k ≤ all.size → EvD P tb all (hbs k) (st i) o none (st (i + 1)) (hbs k)
structure J (P : Program) (tb : Tab) (G : Gh) (all : Array Oper) (lates : List Nat) (st : Nat → Sta) (hbs : Nat → Heap) (nw : Nat → Option (Nat × Obj)) (D : Nat → Prop) (m : Nat) (a : Act) (w : World) (φ : Phi) (S : Nat → Prop) : Prop where
 mle : m ≤ all.size
 dlt : ∀ i, D i → i < all.size
 hb : hbs m = (st m).h
 below : ∀ i, i < m → D i ∨ isLate all lates i = true
 quiet : ∀ i, D i → m ≤ i → ∀ (j : Nat) (o : Oper), m ≤ j → j ≤ i → all[j]? = some o → isEff o.op = false
 closed : ∀ i, D i → ∀ p ∈ preds all i, D p
 hp : HP tb G w φ S fun id o => get (st m).h id = some (some o) ∨ ∃ i, m ≤ i ∧ D i ∧ nw i = some (id, o)
 fr : ∀ j, (st m).nx ≤ j → (∀ i ob, m ≤ i → D i → nw i ≠ some (j, ob)) → φ j = none
 nt : a.tmps.size = G.nt
 df : Marks G w a.defers (st m).df
 kp : Keeps G.w0 w G.φ0 φ G.S0 S
 nc : NC G.w0 w
 f1 : ∀ (i : Nat) (o : Oper) (d : Tmp) (v : AV), D i → m ≤ i → all[i]? = some o → o.dst = some d → get (st (i + 1)).sl d = some v → RepV tb w φ S (a.tmps.getD d undef) v
 f2 : ∀ (d : Tmp) (v : AV), get (st m).sl d = some v → (∀ (i : Nat) (o : Oper), D i → m ≤ i → all[i]? = some o → o.dst ≠ some d) → (∀ (i : Nat) (o : Oper), i < m → ¬ D i → all[i]? = some o → o.dst ≠ some d) → RepV tb w φ S (a.tmps.getD d undef) v
 f3 : ∀ (d : Tmp) (v : AV), get (st 0).sl d = some v → (∀ (i : Nat) (o : Oper), D i → all[i]? = some o → o.dst ≠ some d) → RepV tb w φ S (a.tmps.getD d undef) v
section
variable {P : Program} {tb : Tab} {G : Gh} {all : Array Oper} {lates : List Nat} {st : Nat → Sta} {hbs : Nat → Heap} {nw : Nat → Option (Nat × Obj)}
theorem EvD.sl {hb hb' : Heap} {s s' : Sta} {o : Oper} {n : Option (Nat × Obj)} (h : EvD P tb all hb s o n s' hb') : ∃ v, s'.sl = putS s.sl o.dst v ∧ s'.df = s.df := by cases h <;> exact ⟨_, rfl, rfl⟩
def newH (n : Option (Nat × Obj)) (h : Heap) : Heap := match n with
 | some (id, ob) => (id, some ob) :: h
 | none => h
def newN (n : Option (Nat × Obj)) (a b : Nat) : Prop := match n with
 | some (id, _) => id = a ∧ b = a + 1
 | none => b = a
theorem EvD.quiet {hb hb' : Heap} {s s' : Sta} {o : Oper} {n : Option (Nat × Obj)} (h : EvD P tb all hb s o n s' hb') (hq : isEff o.op = false) :
  hb' = hb ∧ s'.h = newH n s.h ∧ newN n s.nx s'.nx := by
 cases h with
 | skip => exact ⟨rfl, rfl, rfl⟩
 | val v => exact ⟨rfl, rfl, rfl⟩
 | new v ob => exact ⟨rfl, rfl, rfl, rfl⟩
 | e v h' nx' h1 => rw [hq] at h1; cases h1
theorem EvD.eff {hb hb' : Heap} {s s' : Sta} {o : Oper} {n : Option (Nat × Obj)} (h : EvD P tb all hb s o n s' hb') (hq : isEff o.op = true) : n = none ∧ hb' = s'.h := by
 cases h with
 | skip h1 => rw [hq] at h1; cases h1
 | val v h1 => rw [hq] at h1; cases h1
 | new v ob h1 => rw [hq] at h1; cases h1
 | e => exact ⟨rfl, rfl⟩
theorem get_putS (sl : Slots) (dst : Option Tmp) (v : AV) (d : Nat) : get (putS sl dst v) d = if dst = some d then some v else get sl d := by
 cases dst with
 | none => simp [putS]
 | some k =>
  rw [putS, get_cons]
  by_cases h : k = d
  ·subst h; simp
  ·rw [if_neg h, if_neg (by simpa using h)]
theorem sl_at (rd : RD P tb all lates st hbs nw) (m d : Nat) : ∀ (i : Nat), i ≤ all.size → m ≤ i →
    (get (st i).sl d = get (st m).sl d ∧ ∀ (j : Nat) (o : Oper), m ≤ j → j < i → all[j]? = some o → o.dst ≠ some d) ∨ ∃ j o, m ≤ j ∧ j < i ∧ all[j]? = some o ∧ o.dst = some d ∧ get (st i).sl d = get (st (j + 1)).sl d := by
  intro i
  induction i with
  | zero => intro _ hm; have : m = 0 := by omega
            subst this; exact .inl ⟨rfl, fun j o h1 h2 => by omega⟩
  | succ i ih =>
    intro hi hm
    by_cases hmi : m = i + 1
    · subst hmi; exact .inl ⟨rfl, fun j o h1 h2 => by omega⟩
    · have hlt : i < all.size := by omega
      obtain ⟨v, hv, _⟩ := (rd.ev i _ (Array.getElem?_eq_getElem hlt)).sl
      by_cases hd : all[i].dst = some d
      · exact .inr ⟨i, _, by omega, by omega, Array.getElem?_eq_getElem hlt, hd, rfl⟩
      · have e : get (st (i + 1)).sl d = get (st i).sl d := by rw [hv, get_putS, if_neg hd]
        rcases ih (by omega) (by omega) with ⟨h1, h2⟩ | ⟨j, o, h1, h2, h3, h4, h5⟩
        · refine .inl ⟨e.trans h1, fun j o h3 h4 h5 => ?_⟩
          by_cases hj : j = i
          · subst hj; rw [Array.getElem?_eq_getElem hlt] at h5; injection h5 with h5; subst h5; exact hd
          · exact h2 j o h3 (by omega) h5
        · exact .inr ⟨j, o, h1, by omega, h3, h4, e.trans h5⟩
theorem quiet_to (rd : RD P tb all lates st hbs nw) {m : Nat} : ∀ (i : Nat), i ≤ all.size → m ≤ i → (∀ (j : Nat) (o : Oper), m ≤ j → j < i → all[j]? = some o → isEff o.op = false) →
    hbs i = hbs m ∧ (st m).nx ≤ (st i).nx ∧ (st i).df = (st m).df ∧ (∀ id o, get (st i).h id = some (some o) → get (st m).h id = some (some o) ∨ ∃ j, m ≤ j ∧ j < i ∧ nw j = some (id, o)) ∧ (∀ j id ob, m ≤ j → j < i → nw j = some (id, ob) → (st m).nx ≤ id ∧ id = (st j).nx ∧ id < (st i).nx) := by
  intro i
  induction i with
  | zero => intro _ hm _; have : m = 0 := by omega
            subst this; exact ⟨rfl, Nat.le_refl _, rfl, fun _ _ h => .inl h, fun j _ _ h1 h2 => by omega⟩
  | succ i ih =>
    intro hi hm hq
    by_cases hmi : m = i + 1
    · subst hmi; exact ⟨rfl, Nat.le_refl _, rfl, fun _ _ h => .inl h, fun j _ _ h1 h2 => by omega⟩
    · have hlt : i < all.size := by omega
      obtain ⟨h1, h2, h2', h3, h4⟩ := ih (by omega) (by omega) fun j o a b c => hq j o a (by omega) c
      have hev := rd.ev i _ (Array.getElem?_eq_getElem hlt)
      obtain ⟨q1, q2, q3⟩ := hev.quiet (hq i _ (by omega) (by omega) (Array.getElem?_eq_getElem hlt))
      obtain ⟨_, _, q4⟩ := hev.sl
      refine ⟨q1.trans h1, ?_, q4.trans h2', fun id o ho => ?_, fun j id ob a b c => ?_⟩
      · cases hn : nw i with
        | none => rw [hn] at q3; simp only [newN] at q3; omega
        | some p => obtain ⟨id, ob⟩ := p; rw [hn] at q3; simp only [newN] at q3; omega
      · rw [q2] at ho
        cases hn : nw i with
        | none =>
          rw [hn] at ho
          simp only [newH] at ho
          exact (h3 id o ho).imp_right fun ⟨j, a, b, c⟩ => ⟨j, a, by omega, c⟩
        | some p =>
          obtain ⟨id', ob'⟩ := p
          rw [hn] at ho
          simp only [newH] at ho
          rw [get_cons] at ho
          split at ho
          · rename_i e; subst e
            injection ho with ho; injection ho with ho; subst ho
            exact .inr ⟨i, by omega, by omega, hn⟩
          · exact (h3 id o ho).imp_right fun ⟨j, a, b, c⟩ => ⟨j, a, by omega, c⟩
      · by_cases hj : j = i
        · subst hj
          rw [c] at q3
          simp only [newN] at q3
          omega
        · obtain ⟨r1, r2, r3⟩ := h4 j id ob a (by omega) c
          refine ⟨r1, r2, ?_⟩
          cases hn : nw i with
          | none => rw [hn] at q3; simp only [newN] at q3; omega
          | some p => obtain ⟨id', ob'⟩ := p; rw [hn] at q3; simp only [newN] at q3; omega
theorem tmp_rep {nt : Nat} (ok : DrawOk all nt lates) (rd : RD P tb all lates st hbs nw) {D : Nat → Prop} {m i : Nat} {a : Act} {w : World} {φ : Phi} {S : Nat → Prop} {o : Oper} (j : J P tb G all lates st hbs nw D m a w φ S) (hi : all[i]? = some o) (hD : ¬ D i) (hp : ∀ p ∈ preds all i, D p) (hmi : m ≤ i)
  {d : Tmp} (hd : d ∈ tmpsOf all o) {v : AV} (hv : get (st i).sl d = some v) : RepV tb w φ S (a.tmps.getD d undef) v := by
 have hlt : i < all.size := (Array.getElem?_eq_some_iff.1 hi).1
 rcases sl_at rd m d i (by omega) hmi with ⟨h1, h2⟩ | ⟨k, p, h1, h2, h3, h4, h5⟩
 ·refine j.f2 d v (by rw [← h1]; exact hv) (fun k p hk hmk hkp hdst => ?_) fun k p hkm hnk hkp hdst => by
   rcases ok.reads i k o p d hi hkp hdst hd with ⟨_, hx⟩ | ⟨hx, _⟩
   ·exact hnk (isPre_closed j.closed 3 i k hp hx)
   ·omega
  rcases Nat.lt_trichotomy k i with hlt' | heq | hgt
  ·exact h2 k p hmk hlt' hkp hdst
  ·subst heq; exact hD hk
  ·rcases ok.reads i k o p d hi hkp hdst hd with ⟨hx, _⟩ | ⟨_, hx⟩
   ·omega
   ·exact hD (isPre_closed j.closed 3 k i (j.closed k hk) hx)
 ·have hDk : D k := by
   rcases ok.reads i k o p d hi h3 h4 hd with ⟨_, hx⟩ | ⟨hx, _⟩
   ·exact isPre_closed j.closed 3 i k hp hx
   ·omega
  exact j.f1 k p d v hDk h1 h3 h4 (by rw [← h5]; exact hv)
theorem no_eff {nt : Nat} (ok : DrawOk all nt lates) {D : Nat → Prop} {m i : Nat} {a : Act} {w : World} {φ : Phi} {S : Nat → Prop} (j : J P tb G all lates st hbs nw D m a w φ S) (hi : i < all.size) (hp : ∀ p ∈ preds all i, D p) :
  ∀ (e : Nat) (p : Oper), m ≤ e → e < i → all[e]? = some p → isEff p.op = false := by
 intro e p hme hei he
 cases hE : isEff p.op with
 | false => rfl
 | true =>
  have hDe : D e := by
   rcases ok.eff e i p he hi hE with h | ⟨h, _⟩ | ⟨_, h⟩ | ⟨h, _⟩
   ·omega
   ·omega
   ·exact isPre_closed j.closed 3 i e hp h
   ·omega
  have := j.quiet e hDe hme e p hme (Nat.le_refl _) he
  rw [hE] at this; cases this
def addD (D : Nat → Prop) (i : Nat) : Nat → Prop := fun x => D x ∨ x = i
theorem J.quietStep {nt : Nat} (ok : DrawOk all nt lates) (hnt : nt = G.nt) (rd : RD P tb all lates st hbs nw) {D : Nat → Prop} {m i : Nat} {a : Act} {w w' : World} {φ φ' : Phi} {S S' : Nat → Prop} {o : Oper} {v : Value} {av : AV} (j : J P tb G all lates st hbs nw D m a w φ S) (hi : all[i]? = some o) (hmi : m ≤ i) (hD : ¬ D i) (hp : ∀ p ∈ preds all i, D p)
  (hq : isEff o.op = false) (hsl : (st (i + 1)).sl = putS (st i).sl o.dst av) (hk : Keeps w w' φ φ' S S') (hnc : NC w w') (hv : RepV tb w' φ' S' v av)
  (hP : HP tb G w' φ' S' fun id ob => get (st m).h id = some (some ob) ∨ ∃ k, m ≤ k ∧ addD D i k ∧ nw k = some (id, ob))
  (hfr : ∀ k, (st m).nx ≤ k → (∀ x ob, m ≤ x → addD D i x → nw x ≠ some (k, ob)) → φ' k = none) :
  J P tb G all lates st hbs nw (addD D i) m (a.put o.dst v) w' φ' S' := by
 have hlt : i < all.size := (Array.getElem?_eq_some_iff.1 hi).1
 have hdl : ∀ d, o.dst = some d → d < a.tmps.size := fun d hd => by
  rw [j.nt, ← hnt]
  have := ok.dst i o hi
  rw [dstOk, hd] at this
  exact Nat.le_of_ble_eq_true this
 have hput : ∀ d, o.dst ≠ some d → (a.put o.dst v).tmps.getD d undef = a.tmps.getD d undef := fun d hd => by
  cases hod : o.dst with
  | none => rfl
  | some d' => rw [put_getD a v (hdl d' hod), if_neg]; intro e; subst e; exact hd hod
 refine ⟨j.mle, fun x hx => hx.elim (j.dlt x) fun e => e ▸ hlt, j.hb, fun x hx => (j.below x hx).imp .inl id, fun x hx hmx k p h1 h2 h3 => ?_, fun x hx p hpp => ?_, hP, hfr, ?_, ?_, j.kp.trans hk, j.nc.trans hnc, fun x p d u hx hmx hxp hpd hu => ?_, fun d u hu hno hpe => ?_, fun d u hu hno => by rw [hput d (hno i o (.inr rfl) hi)]; exact (j.f3 d u hu fun x p hx => hno x p (.inl hx)).mono hk⟩
 ·rcases hx with hx | rfl
  ·exact j.quiet x hx hmx k p h1 h2 h3
  ·by_cases hkx : k = x
   ·subst hkx; rw [hi] at h3; injection h3 with h3; subst h3; exact hq
   ·exact no_eff ok j hlt hp k p h1 (by omega) h3
 ·rcases hx with hx | rfl
  ·exact .inl (j.closed x hx p hpp)
  ·exact .inl (hp p hpp)
 ·cases o.dst with
  | none => exact j.nt
  | some d' => show (a.tmps.setIfInBounds d' v).size = _; rw [Array.size_setIfInBounds]; exact j.nt
 ·have : (a.put o.dst v).defers = a.defers := by cases o.dst <;> rfl
  rw [this]; exact j.df.keep hnc
 ·by_cases hxi : x = i
  ·subst hxi
   rw [hi] at hxp; injection hxp with hxp; subst hxp
   rw [hsl, get_putS, if_pos hpd] at hu
   injection hu with hu; subst hu
   rw [hpd, put_getD a v (hdl d hpd), if_pos rfl]
   exact hv
  ·have hxD : D x := hx.resolve_right hxi
   rw [hput d fun e => hxi (ok.uniq x i p o d hxp hi hpd e)]
   exact (j.f1 x p d u hxD hmx hxp hpd hu).mono hk
 ·rw [hput d fun e => hno i o (.inr rfl) hmi hi e]
  exact (j.f2 d u hu (fun x p hx hmx hxp => hno x p (.inl hx) hmx hxp) fun x p hx hnx hxp => hpe x p hx (fun h => h.elim hnx fun e => by omega) hxp).mono hk
theorem late_noeff {p : Op} (h : pureOp p = true ∨ isLoad p = true) : isEff p = false := by
 rcases h with h | h
 ·unfold pureOp at h
  split at h <;> first | rfl | cases h
 ·unfold isLoad at h
  split at h <;> first | rfl | cases h
theorem hide (ds : List Nat) (sl sl0 : Slots) : ∃ sl', ∀ d, get sl' d = if d ∈ ds then some ((get sl0 d).getD .unk) else get sl d := by
 induction ds with
 | nil => exact ⟨sl, fun d => by simp⟩
 | cons x ds ih =>
  obtain ⟨sl', h⟩ := ih
  refine ⟨(x, (get sl0 x).getD .unk) :: sl', fun d => ?_⟩
  rw [get_cons, h]
  by_cases hx : x = d
  ·subst hx; simp
  ·have : d ≠ x := fun e => hx e.symm
   simp [hx, this]
theorem tmp_repL {nt : Nat} (ok : DrawOk all nt lates) (rd : RD P tb all lates st hbs nw) {D : Nat → Prop} {m i : Nat} {a : Act} {w : World} {φ : Phi} {S : Nat → Prop} {o : Oper} (j : J P tb G all lates st hbs nw D m a w φ S) (hi : all[i]? = some o) (hl : isLate all lates i = true) (hDi : ¬ D i) (hp : ∀ p ∈ preds all i, D p) (hmi : i < m)
  {d : Tmp} (hd : d ∈ tmpsOf all o) {v : AV} (hv : get (st i).sl d = some v) : RepV tb w φ S (a.tmps.getD d undef) v := by
 obtain ⟨o', ho', _, hlw⟩ := isLate_spec hl
 rw [hi] at ho'; injection ho' with ho'; subst ho'
 have hself : o.dst ≠ some d := fun e => by
  rcases ok.reads i i o o d hi hi e hd with ⟨h, _⟩ | ⟨h, _⟩ <;> omega
 by_cases hw : ∃ (k : Nat) (q : Oper), i < k ∧ all[k]? = some q ∧ q.dst = some d
 ·obtain ⟨k, q, h1, h2, h3⟩ := hw
  have hpre := (hlw k q d h1 h2 h3).resolve_left fun h => h hd
  have hkD : ¬ D k := fun h => hDi (isPre_closed j.closed 3 k i (j.closed k h) hpre)
  refine j.f3 d v ?_ fun x p hx hxp hxd => hkD ((ok.uniq x k p q d hxp h2 hxd h3) ▸ hx)
  rcases sl_at rd 0 d i (by have := (Array.getElem?_eq_some_iff.1 hi).1; omega) (Nat.zero_le _) with ⟨h4, _⟩ | ⟨k', p, _, h5, h6, h7, _⟩
  ·rw [← h4]; exact hv
  ·have := ok.uniq k' k p q d h6 h2 h7 h3; omega
 ·have hlw' : ∀ (k : Nat) (q : Oper) (d' : Tmp), i < k → all[k]? = some q → q.dst = some d' → d' ≠ d := fun k q d' h1 h2 h3 e => hw ⟨k, q, h1, h2, e ▸ h3⟩
  have hget : get (st m).sl d = some v := by
   rcases sl_at rd i d m j.mle (by omega) with ⟨h1, _⟩ | ⟨k, p, h1, h2, h3, h4, _⟩
   ·rw [h1]; exact hv
   ·exfalso
    by_cases hk : k = i
    ·subst hk; rw [hi] at h3; injection h3 with h3; subst h3; exact hself h4
    ·exact hlw' k p d (by omega) h3 h4 rfl
  refine j.f2 d v hget (fun x p hx hmx hxp hdst => hlw' x p d (by omega) hxp hdst rfl) fun k p hkm hnk hkp hdst => ?_
  rcases ok.reads i k o p d hi hkp hdst hd with ⟨_, hx⟩ | ⟨hx, _⟩
  ·exact hnk (isPre_closed j.closed 3 i k hp hx)
  ·exact hlw' k p d hx hkp hdst rfl
theorem J.lateStep {nt : Nat} (ok : DrawOk all nt lates) (hnt : nt = G.nt) (rd : RD P tb all lates st hbs nw) {D : Nat → Prop} {m i : Nat} {a : Act} {w w' : World} {φ : Phi} {S S' : Nat → Prop} {o : Oper} {v : Value} {av : AV} (j : J P tb G all lates st hbs nw D m a w φ S) (hi : all[i]? = some o) (hmi : i < m) (hp : ∀ p ∈ preds all i, D p)
  (hsl : (st (i + 1)).sl = putS (st i).sl o.dst av) (hk : Keeps w w' φ φ S S') (hnc : NC w w') (hv : RepV tb w' φ S' v av)
  (hP : HP tb G w' φ S' fun id ob => get (st m).h id = some (some ob) ∨ ∃ k, m ≤ k ∧ D k ∧ nw k = some (id, ob)) :
  J P tb G all lates st hbs nw (addD D i) m (a.put o.dst v) w' φ S' := by
 have hlt : i < all.size := (Array.getElem?_eq_some_iff.1 hi).1
 have hdl : ∀ d, o.dst = some d → d < a.tmps.size := fun d hd => by
  rw [j.nt, ← hnt]
  have := ok.dst i o hi
  rw [dstOk, hd] at this
  exact Nat.le_of_ble_eq_true this
 have hput : ∀ d, o.dst ≠ some d → (a.put o.dst v).tmps.getD d undef = a.tmps.getD d undef := fun d hd => by
  cases hod : o.dst with
  | none => rfl
  | some d' => rw [put_getD a v (hdl d' hod), if_neg]; intro e; subst e; exact hd hod
 have hD : ∀ x, m ≤ x → addD D i x → D x := fun x hx h => h.elim id fun e => by omega
 refine ⟨j.mle, fun x hx => hx.elim (j.dlt x) fun e => e ▸ hlt, j.hb, fun x hx => (j.below x hx).imp .inl id, fun x hx hmx k p h1 h2 h3 => j.quiet x (hD x hmx hx) hmx k p h1 h2 h3, fun x hx p hpp => ?_, hP.mono fun id ob h => h.imp (fun x => x) fun ⟨k, h1, h2, h3⟩ => ⟨k, h1, hD k h1 h2, h3⟩, fun k hk hno => j.fr k hk fun x ob hmx hx => hno x ob hmx (.inl hx), ?_, ?_, j.kp.trans hk, j.nc.trans hnc, fun x p d u hx hmx hxp hpd hu => ?_, fun d u hu hno hpe => ?_, fun d u hu hno => by rw [hput d (hno i o (.inr rfl) hi)]; exact (j.f3 d u hu fun x p hx => hno x p (.inl hx)).mono hk⟩
 ·rcases hx with hx | rfl
  ·exact .inl (j.closed x hx p hpp)
  ·exact .inl (hp p hpp)
 ·cases o.dst with
  | none => exact j.nt
  | some d' => show (a.tmps.setIfInBounds d' v).size = _; rw [Array.size_setIfInBounds]; exact j.nt
 ·have : (a.put o.dst v).defers = a.defers := by cases o.dst <;> rfl
  rw [this]; exact j.df.keep hnc
 ·rw [hput d fun e => by have := ok.uniq x i p o d hxp hi hpd e; omega]
  exact (j.f1 x p d u (hD x hmx hx) hmx hxp hpd hu).mono hk
 ·by_cases hd : o.dst = some d
  ·have : get (st m).sl d = get (st (i + 1)).sl d := by
    rcases sl_at rd (i + 1) d m j.mle (by omega) with ⟨h1, _⟩ | ⟨k, p, h1, h2, h3, h4, _⟩
    ·exact h1
    ·have := ok.uniq k i p o d h3 hi h4 hd; omega
   rw [this, hsl, get_putS, if_pos hd] at hu
   injection hu with hu; subst hu
   rw [hd, put_getD a v (hdl d hd), if_pos rfl]
   exact hv
  ·rw [hput d hd]
   refine (j.f2 d u hu (fun x p hx hmx hxp => hno x p (.inl hx) hmx hxp) fun x p hx hnx hxp => ?_).mono hk
   by_cases hxi : x = i
   ·subst hxi; rw [hi] at hxp; injection hxp with hxp; subst hxp; exact hd
   ·exact hpe x p hx (fun h => h.elim hnx hxi) hxp
theorem op_rep {o : Oper} {a : Act} {w : World} {φ : Phi} {S : Nat → Prop} {sl : Slots} (trep : ∀ d ∈ tmpsOf all o, ∀ v, get sl d = some v → RepV tb w φ S (a.tmps.getD d undef) v) : ∀ x ∈ o.op.operands, ∀ v, opAV sl x = some v → RepV tb w φ S (a.eval x) v := by
 intro x hx v hv
 cases x with
 | tmp t => exact trep t (List.mem_append_left _ (List.mem_filterMap.2 ⟨.tmp t, by simpa using hx, rfl⟩)) v hv
 | const c =>
  simp only [opAV] at hv
  unfold constAV at hv
  split at hv <;> first | (injection hv with hv; subst hv) | cases hv
  ·exact .t _ _ (.i _ _)
  ·exact .t _ _ (.b _)
  ·exact .t _ _ (.s _)
  ·exact .nilS
  ·exact .unk _
 | func f =>
  injection hv with hv; subst hv
  exact .t _ _ (by simpa [Act.eval] using RepT.fn (tb := tb) (w := w) (S := S) f [] [] .nil)
 | global g => cases hv
theorem want_rep {nt : Nat} (ok : DrawOk all nt lates) (hnt : nt = G.nt) {o : Oper} {a : Act} {w : World} {φ : Phi} {S : Nat → Prop} {sl : Slots} (jnt : a.tmps.size = G.nt) (trep : ∀ d ∈ tmpsOf all o, ∀ v, get sl d = some v → RepV tb w φ S (a.tmps.getD d undef) v) : ∀ yes, Wanted all sl o yes → Region.wanted o (yielded all a.tmps) = yes := by
 intro yes hw
 unfold Wanted at hw
 unfold Region.wanted
 split at hw
 ·rename_i hg; rw [hg]; exact hw.symm
 ·rename_i k want hg
  rw [hg]
  obtain ⟨d, b, h1, h2, h3⟩ := hw
  have hv := bool_of (trep d (List.mem_append_right _ (by rw [hg]; simp [h1])) _ h2)
  have hltd : d < a.tmps.size := by
   rw [jnt, ← hnt]
   obtain ⟨p, hp1, hp2⟩ := Option.bind_eq_some_iff.1 h1
   have := ok.dst k p hp1
   rw [dstOk, hp2] at this
   exact Nat.le_of_ble_eq_true this
  have hget : a.tmps[d]? = some (.bool b) := by
   rw [Array.getD_eq_getD_getElem?, Array.getElem?_eq_getElem hltd] at hv
   rw [Array.getElem?_eq_getElem hltd]
   simpa using hv
  simp only [yielded, h1, Option.bind_some, hget]
  rw [← h3]
  cases b <;> cases want <;> rfl
theorem J.step {nt : Nat} (ok : DrawOk all nt lates) (hnt : nt = G.nt) (hT : TabOk P tb) (rd : RD P tb all lates st hbs nw) {D : Nat → Prop} {m i : Nat} {a : Act} {w : World} {φ : Phi} {S : Nat → Prop} {o : Oper} (j : J P tb G all lates st hbs nw D m a w φ S) (hi : all[i]? = some o) (hD : ¬ D i) (hp : ∀ p ∈ preds all i, D p) (K : Act → World → Prop)
  (hK : ∀ m' a' w' φ' S', J P tb G all lates st hbs nw (addD D i) m' a' w' φ' S' → K a' w') :
  (if Region.wanted o (yielded all a.tmps) then (∀ c, o.op ≠ .defer c) ∧ UponF P (fun v w' => K (a.put o.dst v) w') ((execOp a.eval o).run P w) else K (a.put o.dst undef) w) := by
 have hlt : i < all.size := (Array.getElem?_eq_some_iff.1 hi).1
 rcases Nat.lt_or_ge i m with him | hmi
 ·have hl : isLate all lates i = true := (j.below i him).resolve_left hD
  obtain ⟨hE, hnw, hlate⟩ := rd.late i o hi hl
  have hev := hlate m (by omega) j.mle
  have trep : ∀ d ∈ tmpsOf all o, ∀ v, get (st i).sl d = some v → RepV tb w φ S (a.tmps.getD d undef) v := fun d hd v hv => tmp_repL ok rd j hi hl hD hp him hd hv
  have hop := op_rep trep
  have hwant := want_rep ok hnt j.nt trep
  classical
  let g : Operand → Option AV := fun x => if x ∈ o.op.operands then opAV (st i).sl x else none
  have hctx : Ctx P tb w φ S (st m).h g a.eval := ⟨hT, (fun x v hv => by
   by_cases hx : x ∈ o.op.operands
   ·simp only [g, if_pos hx] at hv; exact hop x hx v hv
   ·simp only [g, if_neg hx] at hv; cases hv), fun id ob hob => j.hp.hh id ob (.inl hob), j.hp.Slt, j.hp.φlt⟩
  have hgc : ∀ x ∈ o.op.operands, g x = opAV (st i).sl x := fun x hx => if_pos hx
  have hhb : hbs m = (st m).h := j.hb
  generalize hs' : st (i + 1) = s' at hev
  generalize hh' : hbs m = h0 at hev
  generalize hn0 : (none : Option (Nat × Obj)) = n0 at hev
  cases hev with
  | e v h' nx' h1 => rw [hE] at h1; cases h1
  | skip h1 h2 =>
   rw [hwant _ h2]
   exact hK m _ _ φ S (j.lateStep ok hnt rd hi him hp (av := .unk) (by rw [hs']) (Keeps.refl w φ S) (NC.refl w) (.unk _) j.hp)
  | val v h1 h2 h3 =>
   rw [hwant _ h2]
   refine ⟨h3.noDefer, ?_⟩
   rw [← hh', hhb] at h3
   refine ((h3.congr hgc).ok hctx (fun _ _ _ e => by cases e) (N := fun v w' => K (a.put o.dst v) w') ?_).f
   intro u w' S' k1 k2 k3
   exact hK m _ _ φ S' (j.lateStep ok hnt rd hi him hp (av := v) (by rw [hs']) (j.hp.keeps k1 k2.hS fun _ _ h => h) (NC.of_fr k1) k3 (j.hp.val k1 k2))
  | new v ob h1 h2 h3 => cases hn0
 have hne := no_eff ok j hlt hp
 obtain ⟨q1, q2, q3, q4, q5⟩ := quiet_to rd i (by omega) hmi hne
 have hev := rd.ev i o hi
 cases hE : isEff o.op with
 | true =>
  -- all before it is done or may wait, nothing behind it
  have hall : ∀ k, k < i → D k ∨ isLate all lates k = true := fun k hk => by
   rcases ok.eff i k o hi (by omega) hE with h | ⟨_, h⟩ | ⟨h, _⟩ | ⟨_, h⟩
   ·omega
   ·exact .inl (isPre_closed j.closed 3 i k hp h)
   ·omega
   ·exact .inr h
  have hnew : ∀ k id ob, k < i → nw k = some (id, ob) → D k := fun k id ob hk hn => by
   rcases hall k hk with h | h
   ·exact h
   ·have := (rd.late k _ (Array.getElem?_eq_getElem (by omega)) h).2.1
    rw [this] at hn; cases hn
  have hbehind : ∀ k, D k → m ≤ k → k < i := fun k hk hmk => by
   rcases Nat.lt_trichotomy k i with h | h | h
   ·exact h
   ·subst h; exact absurd hk hD
   ·have := j.quiet k hk hmk i o hmi (by omega) hi
    rw [hE] at this; cases this
  classical
  -- the slots of what waits are hidden
  obtain ⟨sl', hsl'⟩ := hide ((List.range i).filterMap fun k => if D k then none else (all[k]?).bind (·.dst)) (st i).sl (st 0).sl
  have hds : ∀ d, d ∈ ((List.range i).filterMap fun k => if D k then none else (all[k]?).bind (·.dst)) ↔ ∃ k p, k < i ∧ ¬ D k ∧ all[k]? = some p ∧ p.dst = some d := fun d => by
   rw [List.mem_filterMap]
   constructor
   ·rintro ⟨k, h1, h2⟩
    by_cases hDk : D k
    ·rw [if_pos hDk] at h2; cases h2
    ·rw [if_neg hDk] at h2
     obtain ⟨p, h3, h4⟩ := Option.bind_eq_some_iff.1 h2
     exact ⟨k, p, List.mem_range.1 h1, hDk, h3, h4⟩
   ·rintro ⟨k, p, h1, h2, h3, h4⟩
    exact ⟨k, List.mem_range.2 h1, by rw [if_neg h2, h3]; exact h4⟩
  have hseen : ∀ d ∈ tmpsOf all o, get sl' d = get (st i).sl d := fun d hd => by
   rw [hsl', if_neg]
   intro hmem
   obtain ⟨k, p, h1, h2, h3, h4⟩ := (hds d).1 hmem
   rcases ok.reads i k o p d hi h3 h4 hd with ⟨_, hx⟩ | ⟨hx, _⟩
   ·exact h2 (isPre_closed j.closed 3 i k hp hx)
   ·omega
  have hrel : Rel tb G w a φ S { st i with sl := sl' } := by
   refine ⟨j.hp.hr (fun id ob hob => (q4 id ob hob).imp_right fun ⟨k, h1, h2, h3⟩ => ⟨k, h1, hnew k id ob h2 h3, h3⟩) fun k hk => j.fr k (by have hk : (st i).nx ≤ k := hk; omega) fun x ob hmx hx hnw => ?_, fun d v hv => ?_, j.nt, by show Marks G w a.defers (st i).df; rw [q3]; exact j.df, j.kp, j.nc⟩
   ·have hk : (st i).nx ≤ k := hk
    have := q5 x k ob hmx (hbehind x hx hmx) hnw; omega
   ·have hv : get sl' d = some v := hv
    rw [hsl'] at hv
    split at hv
    ·rename_i hm0
     injection hv with hv; subst hv
     obtain ⟨k, p, q1', q2', q3', q4'⟩ := (hds d).1 hm0
     cases hg0 : get (st 0).sl d with
     | none => exact .unk _
     | some v0 => exact j.f3 d v0 hg0 fun x p' hx hxp hxd => q2' ((ok.uniq x k p' p d hxp q3' hxd q4') ▸ hx)
    ·rename_i hnm
     have hno : ∀ (k : Nat) (p : Oper), k < i → ¬ D k → all[k]? = some p → p.dst ≠ some d := fun k p h1 h2 h3 h4 => hnm ((hds d).2 ⟨k, p, h1, h2, h3, h4⟩)
     rcases sl_at rd m d i (by omega) hmi with ⟨h1, h2⟩ | ⟨k, p, h1, h2, h3, h4, h5⟩
     ·exact j.f2 d v (by rw [← h1]; exact hv) (fun k p hk hmk hkp => h2 k p hmk (hbehind k hk hmk) hkp) fun k p hk hnk hkp => hno k p (by omega) hnk hkp
     ·have hDk : D k := Classical.byContradiction fun hn => hno k p h2 hn h3 h4
      exact j.f1 k p d v hDk h1 h3 h4 (by rw [← h5]; exact hv)
  obtain ⟨e1, e2⟩ := hev.eff hE
  obtain ⟨ve, he1, he2, he3, he4⟩ : ∃ v, Wanted all (st i).sl o true ∧ EEv P tb (opAV (st i).sl) (st i).h (st i).nx o.op o.type v (st (i + 1)).h (st (i + 1)).nx ∧ (st (i + 1)).sl = putS (st i).sl o.dst v ∧ (st (i + 1)).df = (st i).df := by
   generalize hs' : st (i + 1) = s' at hev
   generalize hh' : hbs (i + 1) = h0 at hev
   generalize hn0 : nw i = n0 at hev
   cases hev with
   | skip h1 => rw [hE] at h1; cases h1
   | val v h1 => rw [hE] at h1; cases h1
   | new v ob h1 => rw [hE] at h1; cases h1
   | e v h' nx' h1 h2 h3 => exact ⟨v, h2, h3, rfl, rfl⟩
  have hEv : Ev P tb all { st i with sl := sl' } o { st i with sl := putS sl' o.dst ve, h := (st (i + 1)).h, nx := (st (i + 1)).nx } :=
   .e ve _ _ (he1.congr fun k want d hg hb => hseen d (List.mem_append_right _ (by rw [hg]; simp [hb]))) (he2.congr hE fun x hx => by
    cases x with
    | tmp t => exact hseen t (List.mem_append_left _ (List.mem_filterMap.2 ⟨.tmp t, by simpa using hx, rfl⟩))
    | const c => rfl
    | func f => rfl
    | global g => rfl)
  have hallB : (all.all fun o => dstOk G.nt o) = true := Array.all_eq_true.2 fun k hk => by rw [← hnt]; exact ok.dst k _ (Array.getElem?_eq_getElem hk)
  refine ev_sound hT hrel hEv (by rw [← hnt]; exact ok.dst i o hi) hallB K fun a' w' φ' S' hr' => hK (i + 1) a' w' φ' S' ?_
  refine ⟨hlt, fun x hx => hx.elim (j.dlt x) fun e => e ▸ hlt, e2, fun x hx => ?_, fun x hx hmx => ?_, fun x hx p hpp => ?_, (HP.of_hr hr'.hr).mono fun id ob h => ?_, fun k hk _ => hr'.hr.fr k hk, hr'.nt, by rw [he4]; exact hr'.df, hr'.kp, hr'.nc, fun x p d u hx hmx => ?_, fun d u hu _ hpe => ?_, fun d u hu hno => ?_⟩
  ·by_cases h : x = i
   ·exact .inl (.inr h)
   ·exact (hall x (by omega)).imp .inl (fun h => h)
  ·rcases hx with hx | rfl
   ·have := hbehind x hx (by omega); omega
   ·omega
  ·rcases hx with hx | rfl
   ·exact .inl (j.closed x hx p hpp)
   ·exact .inl (hp p hpp)
  ·rcases h with h | ⟨k, h1, h2, h3⟩
   ·exact h
   ·rcases h2 with h2 | rfl
    ·have := hbehind k h2 (by omega); omega
    ·omega
  ·rcases hx with hx | rfl
   ·have := hbehind x hx (by omega); omega
   ·omega
  ·refine hr'.sl d u ?_
   show get (putS sl' o.dst ve) d = some u
   rw [he3, get_putS] at hu
   rw [get_putS]
   split at hu
   ·rename_i e; rw [if_pos e]; exact hu
   ·rename_i e
    rw [if_neg e, hsl', if_neg]
    ·exact hu
    ·intro hmem
     obtain ⟨k, p, h1, h2, h3, h4⟩ := (hds d).1 hmem
     exact hpe k p (by omega) (fun h => h.elim h2 fun e => by omega) h3 h4
  ·refine hr'.sl d u ?_
   show get (putS sl' o.dst ve) d = some u
   rw [get_putS, if_neg (hno i o (.inr rfl) hi), hsl']
   split
   ·rw [hu]; rfl
   ·rename_i hnm
    rcases sl_at rd 0 d i (by omega) (Nat.zero_le _) with ⟨h4, _⟩ | ⟨k', p, _, h5, h6, h7, _⟩
    ·rw [h4]; exact hu
    ·have hDk : D k' := Classical.byContradiction fun hn => hnm ((hds d).2 ⟨k', p, h5, hn, h6, h7⟩)
     exact absurd h7 (hno k' p (.inl hDk) h6)
 | false =>
  obtain ⟨r1, r2, r3⟩ := hev.quiet hE
  obtain ⟨av0, r4, r5⟩ := hev.sl
  have trep : ∀ d ∈ tmpsOf all o, ∀ v, get (st i).sl d = some v → RepV tb w φ S (a.tmps.getD d undef) v := fun d hd v hv => tmp_rep ok rd j hi hD hp hmi hd hv
  have hop := op_rep trep
  have hwant := want_rep ok hnt j.nt trep
  classical
  let g : Operand → Option AV := fun x => if x ∈ o.op.operands then opAV (st i).sl x else none
  have hctx : Ctx P tb w φ S (st m).h g a.eval := ⟨hT, (fun x v hv => by
   by_cases hx : x ∈ o.op.operands
   ·simp only [g, if_pos hx] at hv; exact hop x hx v hv
   ·simp only [g, if_neg hx] at hv; cases hv), fun id ob hob => j.hp.hh id ob (.inl hob), j.hp.Slt, j.hp.φlt⟩
  have hgc : ∀ x ∈ o.op.operands, g x = opAV (st i).sl x := fun x hx => if_pos hx
  have hhb : hbs i = (st m).h := q1.trans j.hb
  -- a world in which nothing has turned but what is new
  have sub : ∀ n0, nw i = n0 → (∀ id ob, n0 ≠ some (id, ob)) → ∀ id ob, (get (st m).h id = some (some ob) ∨ ∃ k, m ≤ k ∧ addD D i k ∧ nw k = some (id, ob)) → (get (st m).h id = some (some ob) ∨ ∃ k, m ≤ k ∧ D k ∧ nw k = some (id, ob)) := by
   rintro n0 hn0 hno id ob (h | ⟨k, h1, h2, h3⟩)
   ·exact .inl h
   ·rcases h2 with h2 | rfl
    ·exact .inr ⟨k, h1, h2, h3⟩
    ·rw [hn0] at h3; exact absurd h3 (hno id ob)
  generalize hs' : st (i + 1) = s' at hev
  generalize hh' : hbs (i + 1) = h0 at hev
  generalize hn0 : nw i = n0 at hev
  cases hev with
  | e v h' nx' h1 => rw [hE] at h1; cases h1
  | skip h1 h2 =>
   rw [hwant _ h2]
   refine hK m _ _ φ S (j.quietStep ok hnt rd hi hmi hD hp hE (av := .unk) (by rw [hs']) (Keeps.refl w φ S) (NC.refl w) (.unk _) (j.hp.mono (sub _ hn0 fun _ _ => by simp)) fun k hk hno => j.fr k hk fun x ob hmx hx => hno x ob hmx (.inl hx))
  | val v h1 h2 h3 =>
   rw [hwant _ h2]
   refine ⟨h3.noDefer, ?_⟩
   rw [hhb] at h3
   refine ((h3.congr hgc).ok hctx (fun _ _ _ e => by cases e) (N := fun v w' => K (a.put o.dst v) w') ?_).f
   intro u w' S' k1 k2 k3
   refine hK m _ _ φ S' (j.quietStep ok hnt rd hi hmi hD hp hE (av := v) (by rw [hs']) (j.hp.keeps k1 k2.hS fun _ _ h => h) (NC.of_fr k1) k3 ((j.hp.val k1 k2).mono (sub _ hn0 fun _ _ => by simp)) fun k hk hno => j.fr k hk fun x ob hmx hx => hno x ob hmx (.inl hx))
  | new v ob h1 h2 h3 =>
   rw [hwant _ h2]
   refine ⟨h3.noDefer, ?_⟩
   rw [hhb] at h3
   have hfree : φ (st i).nx = none := j.fr _ q2 fun x ob' hmx hx hnw => by
    rcases Nat.lt_trichotomy x i with h | h | h
    ·have := q5 x _ ob' hmx h hnw; omega
    ·subst h; exact hD hx
    ·have hxl : x < all.size := j.dlt x hx
     obtain ⟨s1, s2, s3, s4, s5⟩ := quiet_to rd (m := i + 1) x (by omega) (by omega) fun k p a1 a2 a3 => j.quiet x hx hmx k p (by omega) (by omega) a3
     have hx' := (rd.ev x _ (Array.getElem?_eq_getElem hxl)).quiet (j.quiet x hx hmx x _ hmx (Nat.le_refl _) (Array.getElem?_eq_getElem hxl))
     have hnx := hx'.2.2
     rw [hnw] at hnx
     simp only [newN] at hnx
     have := r3
     rw [hn0] at this
     simp only [newN] at this
     omega
   refine ((h3.congr hgc).ok hctx (fun _ id _ e => by injection e with _ e; rw [← e]; exact hfree) (N := fun v w' => K (a.put o.dst v) w') ?_).f
   intro u w' b k1 k2 k3 k4
   have hφ : ∀ x c, φ x = some c → (if x = (st i).nx then some b else φ x) = some c := fun x c hc => by
    rw [if_neg]; · exact hc
    ·intro e; subst e; rw [hfree] at hc; cases hc
   obtain ⟨z1, z2⟩ := k4 (fun x => if x = (st i).nx then some b else φ x) hφ (if_pos rfl)
   refine hK m _ _ _ S (j.quietStep ok hnt rd hi hmi hD hp hE (av := v) (by rw [hs']) (j.hp.keeps k1 (fun _ h => h) hφ) (NC.of_fr k1) z1 ((j.hp.add hfree k1 k2 k3 z2).mono fun id o' h => ?_) fun k hk hno => ?_)
   ·rcases h with h | ⟨k, h1', h2', h3'⟩
    ·exact .inl (.inl h)
    ·rcases h2' with h2' | rfl
     ·exact .inl (.inr ⟨k, h1', h2', h3'⟩)
     ·rw [hn0] at h3'
      injection h3' with h3'
      injection h3' with e1 e2
      exact .inr ⟨e1.symm, e2.symm⟩
   ·show (if k = (st i).nx then some b else φ k) = none
    rw [if_neg]
    ·exact j.fr k hk fun x ob' hmx hx => hno x ob' hmx (.inl hx)
    ·intro e
     exact hno i ob hmi (.inr rfl) (by rw [hn0, e])
theorem set_addD (listed : Array Bool) {i : Nat} (hi : i < listed.size) (x : Nat) : (listed.setIfInBounds i true).getD x false = true ↔ addD (fun x => listed.getD x false = true) i x := by
 unfold addD
 by_cases h : x = i
 ·subst h; simp [hi]
 ·simp [Array.getElem?_setIfInBounds_ne (Ne.symm h), h]
def unlisted (listed : Array Bool) : Nat := listed.toList.countP fun b => !b
theorem unlisted_set {listed : Array Bool} {i : Nat} (hi : i < listed.size) (h : listed.getD i true = false) : unlisted (listed.setIfInBounds i true) + 1 = unlisted listed := by
 unfold unlisted
 have hl : i < listed.toList.length := by simpa using hi
 have hv : listed.toList[i] = false := by simpa [hi] using h
 rw [Array.toList_setIfInBounds]
 have e1 : listed.toList = listed.toList.take i ++ listed.toList[i] :: listed.toList.drop (i + 1) := by
  rw [← List.drop_eq_getElem_cons hl, List.take_append_drop]
 have e2 : listed.toList.set i true = listed.toList.take i ++ true :: listed.toList.drop (i + 1) := by
  rw [List.set_eq_take_append_cons_drop, if_pos hl]
 rw [e2]
 conv => rhs; rw [e1]
 rw [List.countP_append, List.countP_append, List.countP_cons, List.countP_cons, hv]
 simp
 omega
theorem wpO_go {nt : Nat} (ok : DrawOk all nt lates) (hnt : nt = G.nt) (hT : TabOk P tb) (rd : RD P tb all lates st hbs nw) {F : Fence} {Q : Exit → Sta → Prop} (hQ : Q .normal (st all.size)) :
  ∀ (fuel t : Nat) (listed : Array Bool) (m : Nat) (a : Act) (w : World) (φ : Phi) (S : Nat → Prop), listed.size = all.size → unlisted listed ≤ fuel → J P tb G all lates st hbs nw (fun x => listed.getD x false = true) m a w φ S →
   wpO P F all (WPost tb G Q) (Region.linearise.go .any all fuel t listed []) a w := by
 -- where nothing is ready, all is done
 have hend : ∀ (listed : Array Bool) (m : Nat) (a : Act) (w : World) (φ : Phi) (S : Nat → Prop), listed.size = all.size → (∀ i, i < all.size → listed.getD i false = true) → J P tb G all lates st hbs nw (fun x => listed.getD x false = true) m a w φ S → WPost tb G Q .normal a w := by
  intro listed m a w φ S hsz hall j
  have hne : ∀ (k : Nat) (p : Oper), m ≤ k → k < all.size → all[k]? = some p → isEff p.op = false := fun k p h1 h2 h3 => j.quiet k (hall k h2) h1 k p h1 (Nat.le_refl _) h3
  obtain ⟨q1, q2, q3, q4, q5⟩ := quiet_to rd all.size (Nat.le_refl _) j.mle hne
  refine ⟨st all.size, φ, S, ⟨j.hp.hr (fun id ob hob => (q4 id ob hob).imp_right fun ⟨k, h1, h2, h3⟩ => ⟨k, h1, hall k h2, h3⟩) fun k hk => j.fr k (by omega) fun x ob hmx hx hnw => ?_, fun d v hv => ?_, j.nt, by rw [q3]; exact j.df, j.kp, j.nc⟩, hQ⟩
  ·have := q5 x k ob hmx (j.dlt x hx) hnw; omega
  ·rcases sl_at rd m d all.size (Nat.le_refl _) j.mle with ⟨h1, h2⟩ | ⟨k, p, h1, h2, h3, h4, h5⟩
   ·exact j.f2 d v (by rw [← h1]; exact hv) (fun k p hk hmk hkp => h2 k p hmk (j.dlt k hk) hkp) fun k p hk hnk _ => absurd (hall k (by have := j.mle; omega)) hnk
   ·exact j.f1 k p d v (hall k h2) h1 h3 h4 (by rw [← h5]; exact hv)
 have hready : ∀ (listed : Array Bool), listed.size = all.size → Region.ready .any all listed = [] → ∀ i, i < all.size → listed.getD i false = true := by
  intro listed hsz hnil i
  induction i using Nat.strongRecOn with
  | _ i ih =>
   intro hi
   cases hl : listed.getD i false with
   | true => rfl
   | false =>
    exfalso
    have hmem : i ∈ Region.ready .any all listed := by
     refine mem_ready.2 ⟨?_, _, Array.getElem?_eq_getElem hi, fun e he hb => ?_⟩
     ·have hil : i < listed.size := by omega
      simp [hil] at hl ⊢; exact hl
     ·have hpk : e.on ∈ preds all i := by
       unfold preds
       rw [Array.getElem?_eq_getElem hi]
       exact List.mem_map.2 ⟨e, List.mem_filter.2 ⟨by simpa using he, hb⟩, rfl⟩
      have := ok.lt i _ hpk
      exact ih e.on this (by omega)
    rw [hnil] at hmem; cases hmem
 intro fuel
 induction fuel with
 | zero =>
  intro t listed m a w φ S hsz hun j
  simp only [Region.linearise.go, List.reverse_nil, wpO]
  refine hend listed m a w φ S hsz (fun i hi => ?_) j
  cases hl : listed.getD i false with
  | true => rfl
  | false =>
   exfalso
   have hil : i < listed.size := by omega
   have := unlisted_set hil (by simp [hil] at hl ⊢; exact hl)
   omega
 | succ fuel ih =>
  intro t listed m a w φ S hsz hun j
  simp only [Region.linearise.go]
  change wpO P F all (WPost tb G Q) (match (Region.ready .any all listed)[t % (Region.ready .any all listed).length]? with
   | some i => Region.linearise.go .any all fuel (t / (Region.ready .any all listed).length) (listed.setIfInBounds i true) [i]
   | none => [].reverse) a w
  cases hr : (Region.ready .any all listed)[t % (Region.ready .any all listed).length]? with
  | none =>
   have hnil : Region.ready .any all listed = [] := by
    cases hrr : Region.ready .any all listed with
    | nil => rfl
    | cons x xs =>
     rw [hrr] at hr
     have hlt : t % (x :: xs).length < (x :: xs).length := Nat.mod_lt _ (by simp)
     simp at hr
     simp at hlt
     omega
   simp only [List.reverse_nil, wpO]
   exact hend listed m a w φ S hsz (hready listed hsz hnil) j
  | some i =>
   simp only []
   rw [linearise_go_acc, List.reverse_singleton, List.singleton_append]
   obtain ⟨hli, o, ho, hedge⟩ := mem_ready.1 (List.mem_of_getElem? hr)
   have hi : i < all.size := (Array.getElem?_eq_some_iff.1 ho).1
   have hil : i < listed.size := by omega
   refine ⟨o, ho, J.step ok hnt hT rd j ho ?_ (fun p hp => ?_) _ fun m' a' w' φ' S' j' => ih _ _ m' a' w' φ' S' (by simpa using hsz) (by have := unlisted_set hil hli; omega) ?_⟩
   ·simp [hil] at hli ⊢; exact hli
   ·unfold preds at hp
    rw [ho] at hp
    obtain ⟨e, he, rfl⟩ := List.mem_map.1 hp
    obtain ⟨he1, he2⟩ := List.mem_filter.1 he
    exact hedge e (by simpa using he1) he2
   ·have hfun : (fun x => (listed.setIfInBounds i true).getD x false = true) = addD (fun x => listed.getD x false = true) i := funext fun x => propext (set_addD listed hil x)
    rw [hfun]; exact j'
theorem wp_draw (hT : TabOk P tb) {F : Fence} (hF : Wd F) (hm : P.follows .mixedOrders = true) {id : Nat} {s : Sta} {Q : Exit → Sta → Prop} (lates : List Nat) (hok : drawOk all G.nt lates = true) (h : WOpsD P tb all lates all.toList 0 (fun _ => True) s.h s (Q .normal)) : WP P tb G F (.region id all true) s Q := by
 intro n a w φ S hr
 obtain ⟨st, hbs, nw, h1, h2, h3, h4, _, h6⟩ := wopsD_data _ _ _ _ _ h trivial
 have rd : RD P tb all lates st hbs nw := ⟨fun i o ho => h3 i o (by simpa using ho), fun i o ho hl => by
  obtain ⟨o', ho', hk, _⟩ := isLate_spec hl
  rw [ho] at ho'; injection ho' with ho'; subst ho'
  have hE := late_noeff (hk.imp (fun x => x) fun h => h.1)
  obtain ⟨z1, z2⟩ := (h3 i o (by simpa using ho)).late (hk.imp (fun x => x) fun h => h.1) hE
  refine ⟨hE, z1, fun k hik hks => ?_⟩
  rcases hk with hk | ⟨_, hk⟩
  ·exact z2 hk _
  ·have := h6 i o (by simpa using ho) (by unfold flag; rw [Nat.zero_add, hk, hE]; rfl) k hik (by simpa using hks)
   rw [z1] at this; exact this⟩
 have ok := drawOk_spec hok
 refine wpO_region_draw hF fun t => ?_
 simp only [Region.schedule, hm, Bool.true_or, if_true]
 have hlen : all.toList.length = all.size := by simp
 rw [hlen] at h4
 have hD0 : ∀ x, (Array.replicate all.size false).getD x false = true → False := fun x hx => by
  simp [Array.getElem?_replicate] at hx
  split at hx <;> simp at hx
 have hk : Keeps w w.drew φ φ S S := ⟨fun _ _ => rfl, fun _ h => h, fun _ _ h => h, fun _ _ cs ty _ h => ⟨cs, h, rfl⟩⟩
 have hr' : HR tb G w.drew φ S s.h s.nx := hr_val hr.hr (fr_drew _ _) (Gr.refl hr.hr.Slt (Nat.le_refl _))
 refine wpO_go ok rfl hT rd h4 all.size t _ 0 a w.drew φ S (by simp) ?_ ?_
 ·unfold unlisted
  exact Nat.le_trans List.countP_le_length (by simp)
 ·refine ⟨Nat.zero_le _, fun x hx => (hD0 x hx).elim, by rw [h1, h2], fun x hx => by omega, fun x hx => (hD0 x hx).elim, fun x hx => (hD0 x hx).elim, ?_, fun k hk' _ => ?_, hr.nt, ?_, ⟨hr.kp.hw, hr.kp.hS, hr.kp.hφ, hr.kp.hz⟩, hr.nc.trans (NC.of_fr (fr_drew _ _)), fun x _ _ _ hx => (hD0 x hx).elim, fun d v hv _ _ => ?_, fun d v hv _ => by rw [h1] at hv; exact (hr.sl d v hv).mono hk⟩
  ·rw [h1]
   exact (HP.of_hr hr').mono fun id ob h => by
    rcases h with h | ⟨k, _, hx, _⟩
    ·exact h
    ·exact (hD0 k hx).elim
  ·rw [h1] at hk'; exact hr'.fr k hk'
  ·rw [h1]; exact hr.df.keep (fun b o hb _ => hb)
  ·rw [h1] at hv; exact (hr.sl d v hv).mono hk
end
theorem wd_weak {P : Program} {tb : Tab} {all : Array Oper} {lates : List Nat} {Q : Sta → Prop} : ∀ {l : List Oper} {p : Nat} {wl wl' : Heap → Prop} {hb : Heap} {s : Sta}, (∀ h, wl h → wl' h) → WOpsD P tb all lates l p wl hb s Q → WOpsD P tb all lates l p wl' hb s Q
 | [], _, _, _, _, _, _, h => h
 | o :: os, p, wl, wl', hb, s, hi, h => by
  obtain ⟨n, s', hb', h1, h2, h3⟩ := h
  exact ⟨n, s', hb', h1, fun he => hi _ (h2 he), wd_weak (fun h hh => ⟨hi h hh.1, hh.2⟩) h3⟩
section
variable {P : Program} {tb : Tab} {G : Gh} {F : Fence} {all : Array Oper} {o : Oper} {os : List Oper} {sl : Slots} {h hb : Heap} {nx df : Nat} {Q : Sta → Prop}
theorem wo_nil {s : Sta} (hq : Q s) : WOps P tb all [] s Q := hq
theorem wo_q {d : Tmp} {v : AV} (hg : o.guard = none) (hd : o.dst = some d) (hq : QEv P tb h (opAV sl) o.op o.type (.val v)) (hw : WOps P tb all os ⟨(d, v) :: sl, h, nx, df⟩ Q) : WOps P tb all (o :: os) ⟨sl, h, nx, df⟩ Q := by
 refine ⟨_, .q (.val v) (by unfold Wanted; rw [hg]) hq (fun _ _ _ e => by cases e), ?_⟩
 rw [hd]; exact hw
theorem wo_n {d : Tmp} {v : AV} {ob : Obj} (hg : o.guard = none) (hd : o.dst = some d) (hq : QEv P tb h (opAV sl) o.op o.type (.new v nx ob)) (hw : WOps P tb all os ⟨(d, v) :: sl, (nx, some ob) :: h, nx + 1, df⟩ Q) : WOps P tb all (o :: os) ⟨sl, h, nx, df⟩ Q := by
 refine ⟨_, .q (.new v nx ob) (by unfold Wanted; rw [hg]) hq (fun _ _ _ e => by injection e with _ e; exact e.symm), ?_⟩
 rw [hd]; exact hw
theorem wo_e {v : AV} {h' : Heap} {nx' : Nat} (hg : o.guard = none) (hd : o.dst = none) (he : EEv P tb (opAV sl) h nx o.op o.type v h' nx') (hw : WOps P tb all os ⟨sl, h', nx', df⟩ Q) : WOps P tb all (o :: os) ⟨sl, h, nx, df⟩ Q := by
 refine ⟨_, .e v h' nx' (by unfold Wanted; rw [hg]) he, ?_⟩
 rw [hd]; exact hw
theorem wo_ed {d : Tmp} {v : AV} {h' : Heap} {nx' : Nat} (hg : o.guard = none) (hd : o.dst = some d) (he : EEv P tb (opAV sl) h nx o.op o.type v h' nx') (hw : WOps P tb all os ⟨(d, v) :: sl, h', nx', df⟩ Q) : WOps P tb all (o :: os) ⟨sl, h, nx, df⟩ Q := by
 refine ⟨_, .e v h' nx' (by unfold Wanted; rw [hg]) he, ?_⟩
 rw [hd]; exact hw
theorem wo_ged {d gd : Tmp} {j : Nat} {b want : Bool} {v : AV} {h' : Heap} {nx' : Nat} (hg : o.guard = some (j, want)) (hj : (all[j]?).bind (·.dst) = some gd) (hb : get sl gd = some (.t (.b b))) (hbw : (b == want) = true) (hd : o.dst = some d) (he : EEv P tb (opAV sl) h nx o.op o.type v h' nx') (hw : WOps P tb all os ⟨(d, v) :: sl, h', nx', df⟩ Q) : WOps P tb all (o :: os) ⟨sl, h, nx, df⟩ Q := by
 refine ⟨_, .e v h' nx' (by unfold Wanted; rw [hg]; exact ⟨gd, b, hj, hb, hbw⟩) he, ?_⟩
 rw [hd]; exact hw
theorem wo_gq {d gd : Tmp} {j : Nat} {b want : Bool} {v : AV} (hg : o.guard = some (j, want)) (hj : (all[j]?).bind (·.dst) = some gd) (hb : get sl gd = some (.t (.b b))) (hbw : (b == want) = true) (hd : o.dst = some d) (hq : QEv P tb h (opAV sl) o.op o.type (.val v)) (hw : WOps P tb all os ⟨(d, v) :: sl, h, nx, df⟩ Q) : WOps P tb all (o :: os) ⟨sl, h, nx, df⟩ Q := by
 refine ⟨_, .q (.val v) (by unfold Wanted; rw [hg]; exact ⟨gd, b, hj, hb, hbw⟩) hq (fun _ _ _ e => by cases e), ?_⟩
 rw [hd]; exact hw
theorem wo_gs {d gd : Tmp} {j : Nat} {b want : Bool} (hg : o.guard = some (j, want)) (hj : (all[j]?).bind (·.dst) = some gd) (hb : get sl gd = some (.t (.b b))) (hbw : (b == want) = false) (hd : o.dst = some d) (hw : WOps P tb all os ⟨(d, .unk) :: sl, h, nx, df⟩ Q) : WOps P tb all (o :: os) ⟨sl, h, nx, df⟩ Q := by
 refine ⟨_, .skip (by unfold Wanted; rw [hg]; exact ⟨gd, b, hj, hb, hbw⟩), ?_⟩
 rw [hd]; exact hw
theorem wo_gsU {d gd : Tmp} {j : Nat} {b want : Bool} (hg : o.guard = some (j, want)) (hj : (all[j]?).bind (·.dst) = some gd) (hb : get sl gd = some (.t (.b b))) (hbw : (b == want) = false) (hd : o.dst = some d) (hw : WOps P tb all os ⟨(d, .tu []) :: sl, h, nx, df⟩ Q) : WOps P tb all (o :: os) ⟨sl, h, nx, df⟩ Q := by
 refine ⟨_, .skipU (by unfold Wanted; rw [hg]; exact ⟨gd, b, hj, hb, hbw⟩), ?_⟩
 rw [hd]; exact hw
theorem wo_gsD {d gd : Tmp} {j : Nat} {want : Bool} (hg : o.guard = some (j, want)) (hj : (all[j]?).bind (·.dst) = some gd) (hb : get sl gd = some (.tu [])) (hd : o.dst = some d) (hw : WOps P tb all os ⟨(d, .tu []) :: sl, h, nx, df⟩ Q) : WOps P tb all (o :: os) ⟨sl, h, nx, df⟩ Q := by
 refine ⟨_, .skipD j want gd hg hj hb, ?_⟩
 rw [hd]; exact hw
variable {lates : List Nat} {p : Nat} {wl : Heap → Prop}
theorem wd_nil {s : Sta} (hq : Q s) : WOpsD P tb all lates [] p wl hb s Q := hq
theorem wd_q {d : Tmp} {v : AV} (hg : o.guard = none) (hd : o.dst = some d) (hE : isEff o.op = false) (hl : lates.contains p = false) (hq : QEv P tb hb (opAV sl) o.op o.type (.val v)) (hw : WOpsD P tb all lates os (p + 1) wl hb ⟨(d, v) :: sl, h, nx, df⟩ Q) : WOpsD P tb all lates (o :: os) p wl hb ⟨sl, h, nx, df⟩ Q := by
 refine ⟨_, _, _, .val v hE (by unfold Wanted; rw [hg]) hq, (fun h => by rw [hE] at h; cases h), ?_⟩
 rw [hd]; exact wd_weak (fun h hh => ⟨hh, fun hf => by unfold flag at hf; rw [hl] at hf; cases hf⟩) hw
theorem wd_ql {d : Tmp} {v : AV} (hg : o.guard = none) (hd : o.dst = some d) (hE : isEff o.op = false) (hq : QEv P tb hb (opAV sl) o.op o.type (.val v)) (hw : WOpsD P tb all lates os (p + 1) (fun h2 => wl h2 ∧ QEv P tb h2 (opAV sl) o.op o.type (.val v)) hb ⟨(d, v) :: sl, h, nx, df⟩ Q) : WOpsD P tb all lates (o :: os) p wl hb ⟨sl, h, nx, df⟩ Q := by
 refine ⟨_, _, _, .val v hE (by unfold Wanted; rw [hg]) hq, (fun h => by rw [hE] at h; cases h), ?_⟩
 rw [hd]; exact wd_weak (fun h2 hh => ⟨hh.1, fun _ => by
  have : EvD P tb all h2 ⟨sl, h, nx, df⟩ o none { (⟨sl, h, nx, df⟩ : Sta) with sl := putS sl o.dst v } h2 := .val v hE (by unfold Wanted; rw [hg]) hh.2
  rw [hd] at this; exact this⟩) hw
theorem wd_n {d : Tmp} {v : AV} {ob : Obj} (hg : o.guard = none) (hd : o.dst = some d) (hE : isEff o.op = false) (hl : lates.contains p = false) (hq : QEv P tb hb (opAV sl) o.op o.type (.new v nx ob)) (hw : WOpsD P tb all lates os (p + 1) wl hb ⟨(d, v) :: sl, (nx, some ob) :: h, nx + 1, df⟩ Q) : WOpsD P tb all lates (o :: os) p wl hb ⟨sl, h, nx, df⟩ Q := by
 refine ⟨_, _, _, .new v ob hE (by unfold Wanted; rw [hg]) hq, (fun h => by rw [hE] at h; cases h), ?_⟩
 rw [hd]; exact wd_weak (fun h hh => ⟨hh, fun hf => by unfold flag at hf; rw [hl] at hf; cases hf⟩) hw
theorem wd_e {v : AV} {h' : Heap} {nx' : Nat} (hg : o.guard = none) (hd : o.dst = none) (hE : isEff o.op = true) (he : EEv P tb (opAV sl) h nx o.op o.type v h' nx') (hwl : wl h') (hw : WOpsD P tb all lates os (p + 1) wl h' ⟨sl, h', nx', df⟩ Q) : WOpsD P tb all lates (o :: os) p wl hb ⟨sl, h, nx, df⟩ Q := by
 refine ⟨_, _, _, .e v h' nx' hE (by unfold Wanted; rw [hg]) he, (fun _ => hwl), ?_⟩
 rw [hd]; exact wd_weak (fun h hh => ⟨hh, fun hf => by unfold flag at hf; rw [hE, Bool.not_true, Bool.and_false] at hf; cases hf⟩) hw
theorem wd_ed {d : Tmp} {v : AV} {h' : Heap} {nx' : Nat} (hg : o.guard = none) (hd : o.dst = some d) (hE : isEff o.op = true) (he : EEv P tb (opAV sl) h nx o.op o.type v h' nx') (hwl : wl h') (hw : WOpsD P tb all lates os (p + 1) wl h' ⟨(d, v) :: sl, h', nx', df⟩ Q) : WOpsD P tb all lates (o :: os) p wl hb ⟨sl, h, nx, df⟩ Q := by
 refine ⟨_, _, _, .e v h' nx' hE (by unfold Wanted; rw [hg]) he, (fun _ => hwl), ?_⟩
 rw [hd]; exact wd_weak (fun h hh => ⟨hh, fun hf => by unfold flag at hf; rw [hE, Bool.not_true, Bool.and_false] at hf; cases hf⟩) hw
theorem wd_gq {d gd : Tmp} {j : Nat} {b want : Bool} {v : AV} (hg : o.guard = some (j, want)) (hj : (all[j]?).bind (·.dst) = some gd) (hbb : get sl gd = some (.t (.b b))) (hbw : (b == want) = true) (hd : o.dst = some d) (hE : isEff o.op = false) (hl : lates.contains p = false) (hq : QEv P tb hb (opAV sl) o.op o.type (.val v)) (hw : WOpsD P tb all lates os (p + 1) wl hb ⟨(d, v) :: sl, h, nx, df⟩ Q) : WOpsD P tb all lates (o :: os) p wl hb ⟨sl, h, nx, df⟩ Q := by
 refine ⟨_, _, _, .val v hE (by unfold Wanted; rw [hg]; exact ⟨gd, b, hj, hbb, hbw⟩) hq, (fun h => by rw [hE] at h; cases h), ?_⟩
 rw [hd]; exact wd_weak (fun h hh => ⟨hh, fun hf => by unfold flag at hf; rw [hl] at hf; cases hf⟩) hw
theorem wd_gs {d gd : Tmp} {j : Nat} {b want : Bool} (hg : o.guard = some (j, want)) (hj : (all[j]?).bind (·.dst) = some gd) (hbb : get sl gd = some (.t (.b b))) (hbw : (b == want) = false) (hd : o.dst = some d) (hE : isEff o.op = false) (hl : lates.contains p = false) (hw : WOpsD P tb all lates os (p + 1) wl hb ⟨(d, .unk) :: sl, h, nx, df⟩ Q) : WOpsD P tb all lates (o :: os) p wl hb ⟨sl, h, nx, df⟩ Q := by
 refine ⟨_, _, _, .skip hE (by unfold Wanted; rw [hg]; exact ⟨gd, b, hj, hbb, hbw⟩), (fun h => by rw [hE] at h; cases h), ?_⟩
 rw [hd]; exact wd_weak (fun h hh => ⟨hh, fun hf => by unfold flag at hf; rw [hl] at hf; cases hf⟩) hw
end
theorem QEv.pickT {P : Program} {tb : Tab} {hb : Heap} {g : Operand → Option AV} {c a b : Operand} {ty : TypeId} {cb : Bool} {v : AV} (h1 : g c = some (.t (.b cb))) (h2 : (cb == true) = true) (h3 : g a = some v) : QEv P tb hb g (.pick c a b) ty (.val v) := by
 have : cb = true := by simpa using h2
 subst this; exact .pick _ _ _ _ true _ h1 h3
theorem QEv.pickF {P : Program} {tb : Tab} {hb : Heap} {g : Operand → Option AV} {c a b : Operand} {ty : TypeId} {cb : Bool} {v : AV} (h1 : g c = some (.t (.b cb))) (h2 : (cb == true) = false) (h3 : g b = some v) : QEv P tb hb g (.pick c a b) ty (.val v) := by
 have : cb = false := by simpa using h2
 subst this; exact .pick _ _ _ _ false _ h1 h3
theorem wrap_i64 {n : Int} (h : -9223372036854775808 ≤ n ∧ n ≤ 9223372036854775807) : IntKind.i64.wrap n = n := by rw [IntKind.wrap_i64]; omega
theorem wrap_u32 {n : Int} (h : 0 ≤ n ∧ n < 4294967296) : IntKind.u32.wrap n = n := by simp [IntKind.wrap, IntKind.signed, IntKind.bits]; omega
theorem wrap_u32_mod {n : Int} : IntKind.u32.wrap n = n % 4294967296 := by simp [IntKind.wrap, IntKind.signed, IntKind.bits]
theorem wrap_u64 {n : Int} (h : 0 ≤ n ∧ n < 18446744073709551616) : IntKind.u64.wrap n = n := by simp [IntKind.wrap, IntKind.signed, IntKind.bits]; omega
theorem wrap_u64_mod {n : Int} : IntKind.u64.wrap n = n % 18446744073709551616 := by simp [IntKind.wrap, IntKind.signed, IntKind.bits]
section
variable {P : Program} {tb : Tab} {G : Gh} {F : Fence} {s : Sta} {Q : Exit → Sta → Prop} {K : Nat}
def Then (P : Program) (tb : Tab) (G : Gh) (F : Fence) (y : Code) (Q : Exit → Sta → Prop) : Exit → Sta → Prop := fun e s' => match e with
 | .normal => WP P tb G F y s' Q
 | e => Q e s'
def InBlk (id : Nat) (Q : Exit → Sta → Prop) : Exit → Sta → Prop := fun e s' => match e with
 | .exit i => (match Nat.beq i id with | true => Q .normal s' | false => Q (.exit i) s')
 | e => Q e s'
theorem wp_s {x y : Code} (h : WP P tb G F x s (Then P tb G F y Q)) : WP P tb G F (.seq x y) s Q := wp_seq h
theorem wp_b {id : Nat} {c : Code} (h : WP P tb G F c s (InBlk id Q)) : WP P tb G F (.block id c) s Q := wp_block h
theorem then_n {y : Code} (h : WP P tb G F y s Q) : Then P tb G F y Q .normal s := h
theorem then_ret {y : Code} (h : Q .ret s) : Then P tb G F y Q .ret s := h
theorem then_exit {y : Code} {i : Nat} (h : Q (.exit i) s) : Then P tb G F y Q (.exit i) s := h
theorem blk_n {id : Nat} (h : Q .normal s) : InBlk id Q .normal s := h
theorem blk_ret {id : Nat} (h : Q .ret s) : InBlk id Q .ret s := h
theorem blk_hit {id : Nat} (h : Q .normal s) : InBlk id Q (.exit id) s := by simp only [InBlk, Nat.beq_refl]; exact h
theorem blk_miss {id i : Nat} (hne : Nat.beq i id = false) (h : Q (.exit i) s) : InBlk id Q (.exit i) s := by simp only [InBlk, hne]; exact h
def Round {ι : Type} (K : Nat) (tb : Tab) (st : ι → Sta) (Inv : ι → Prop) (μ : ι → Nat) (i : ι) (Q : Exit → Sta → Prop) : Exit → Sta → Prop := fun e s' => match e with
 | .normal => ∃ j, Inv j ∧ μ j < μ i ∧ Imp K tb s' (st j)
 | e => Q e s'
theorem wp_l {c : Code} {ι : Type} (hK : G.k0 = K) (st : ι → Sta) (Inv : ι → Prop) (μ : ι → Nat) (i : ι) (h0 : Inv i) (hk : ∀ i, Nat.ble K (st i).nx = true) (hs : Imp K tb s (st i)) (round : ∀ i, Inv i → WP P tb G F c (st i) (Round K tb st Inv μ i Q)) : WP P tb G F (.loop c) s Q :=
 wp_loop st Inv μ i hK h0 (fun i => Nat.le_of_ble_eq_true (hk i)) hs round
theorem round_n {ι : Type} {st : ι → Sta} {Inv : ι → Prop} {μ : ι → Nat} {i : ι} (j : ι) (h1 : Inv j) (h2 : μ j < μ i) (h3 : Imp K tb s (st j)) : Round K tb st Inv μ i Q .normal s := ⟨j, h1, h2, h3⟩
theorem round_ret {ι : Type} {st : ι → Sta} {Inv : ι → Prop} {μ : ι → Nat} {i : ι} (h : Q .ret s) : Round K tb st Inv μ i Q .ret s := h
theorem round_exit {ι : Type} {st : ι → Sta} {Inv : ι → Prop} {μ : ι → Nat} {i : ι} {k : Nat} (h : Q (.exit k) s) : Round K tb st Inv μ i Q (.exit k) s := h
theorem wp_c {c : Operand} {x y : Code} {b : Bool} (hc : opAV s.sl c = some (.t (.b b))) (h1 : b = true → WP P tb G F x s Q) (h2 : b = false → WP P tb G F y s Q) : WP P tb G F (.cond c x y) s Q := Eng.wp_cond hc h1 h2
theorem wp_k (h : Q .normal s) : WP P tb G F .skip s Q := Eng.wp_skip h
theorem wp_lb {l : Nat} (h : Q .normal s) : WP P tb G F (.label l) s Q := Eng.wp_label h
theorem wp_x {id : Nat} (h : Q (.exit id) s) : WP P tb G F (.exit id) s Q := Eng.wp_exit h
theorem wp_rt (h : Q .ret s) : WP P tb G F .ret s Q := Eng.wp_ret h
def Join {ι : Type} (K : Nat) (tb : Tab) (st : ι → Sta) (Inv : ι → Prop) (Q : Exit → Sta → Prop) : Exit → Sta → Prop := fun e s' => match e with
 | .normal => ∃ j, Inv j ∧ Imp K tb s' (st j)
 | e => Q e s'
theorem join_n {ι : Type} {st : ι → Sta} {Inv : ι → Prop} (j : ι) (h1 : Inv j) (h3 : Imp K tb s (st j)) : Join K tb st Inv Q .normal s := ⟨j, h1, h3⟩
theorem join_ret {ι : Type} {st : ι → Sta} {Inv : ι → Prop} (h : Q .ret s) : Join K tb st Inv Q .ret s := h
theorem wp_j {x y : Code} {ι : Type} (hK : G.k0 = K) (st : ι → Sta) (Inv : ι → Prop) (hk : ∀ i, Nat.ble K (st i).nx = true) (h : WP P tb G F x s (Join K tb st Inv Q)) (k : ∀ i, Inv i → WP P tb G F y (st i) Q) : WP P tb G F (.seq x y) s Q :=
 wp_seq (wp_mono h fun e s' hq => by
  cases e with
  | normal => obtain ⟨j, h1, h2⟩ := hq; exact wp_imp hK h2 (k j h1) (hk j)
  | outgrown => exact hq
  | exit id => exact hq
  | goto l => exact hq
  | ret => exact hq
  | panic c => exact hq)
def dstsOk (n : Nat) (l : List Oper) : Bool := l.all (dstOk n)
theorem wp_r {n id : Nat} {all : Array Oper} {y : Code} (hT : TabOk P tb) (hF : Wd F) (hG : G.nt = n) (hall : dstsOk n all.toList = true) (h : WOps P tb all all.toList s fun s' => WP P tb G F y s' Q) : WP P tb G F (.seq (.region id all false) y) s Q :=
 wp_seq (wp_region hT hF (Array.all_eq_true.2 fun i hi => by rw [hG]; exact List.all_eq_true.1 hall _ (by simp)) h)
theorem wp_r0 {n id : Nat} {all : Array Oper} (hT : TabOk P tb) (hF : Wd F) (hG : G.nt = n) (hall : dstsOk n all.toList = true) (h : WOps P tb all all.toList s (Q .normal)) : WP P tb G F (.region id all false) s Q :=
 wp_region hT hF (Array.all_eq_true.2 fun i hi => by rw [hG]; exact List.all_eq_true.1 hall _ (by simp)) h
theorem wp_d {n id : Nat} {all : Array Oper} {y : Code} (hT : TabOk P tb) (hF : Wd F) (hm : P.follows .mixedOrders = true) (hG : G.nt = n) (lates : List Nat) (hok : drawOk all n lates = true) (h : WOpsD P tb all lates all.toList 0 (fun _ => True) s.h s fun s' => WP P tb G F y s' Q) : WP P tb G F (.seq (.region id all true) y) s Q :=
 wp_seq (wp_draw hT hF hm lates (by rw [hG]; exact hok) h)
theorem wp_d0 {n id : Nat} {all : Array Oper} (hT : TabOk P tb) (hF : Wd F) (hm : P.follows .mixedOrders = true) (hG : G.nt = n) (lates : List Nat) (hok : drawOk all n lates = true) (h : WOpsD P tb all lates all.toList 0 (fun _ => True) s.h s (Q .normal)) : WP P tb G F (.region id all true) s Q :=
 wp_draw hT hF hm lates (by rw [hG]; exact hok) h
end
theorem asn {g : Operand → Option AV} : AsTrs g [] [] := trivial
theorem asc {g : Operand → Option AV} {x : Operand} {xs : List Operand} {t : Tr} {ts : List Tr} (h : AsTr g x t) (k : AsTrs g xs ts) : AsTrs g (x :: xs) (t :: ts) := ⟨h, k⟩
theorem avn {g : Operand → Option AV} : AsAVs g [] [] := trivial
theorem avc {g : Operand → Option AV} {x : Operand} {xs : List Operand} {t : AV} {ts : List AV} (h : g x = some t) (k : AsAVs g xs ts) : AsAVs g (x :: xs) (t :: ts) := ⟨h, k⟩
theorem geti {sl : Slots} {d : Nat} {k : IntKind} {a b : Int} (h : get sl d = some (.t (.i k a))) (e : a = b) : get sl d = some (.t (.i k b)) := e ▸ h
theorem getb {sl : Slots} {d : Nat} {a b : Bool} (h : get sl d = some (.t (.b a))) (e : a = b) : get sl d = some (.t (.b b)) := e ▸ h
theorem gett {sl : Slots} {d : Nat} {a b : Tr} (h : get sl d = some (.t a)) (e : a = b) : get sl d = some (.t b) := e ▸ h
theorem geto {sl : Slots} {d e id o n m : Nat} (h : get sl d = some (.own e id o n)) (k : n = m) : get sl d = some (.own e id o m) := k ▸ h
theorem geth {hp : Heap} {d e : Nat} {a b : List AV} (h : get hp d = some (some (.arr e a))) (k : a = b) : get hp d = some (some (.arr e b)) := k ▸ h
theorem imp_fz {K : Nat} {tb : Tab} {s : Sta} (d : Nat) {e id len : Nat} {l : List AV} (ts : List Tr) (h1 : get s.sl d = some (.own e id 0 len)) (h2 : get s.h id = some (some (.arr e l))) (hl : l = ts.map .t) (h3 : ts.length = len) : Imp K tb s ⟨(d, .t (.sl e ts)) :: s.sl, (id, none) :: s.h, s.nx, s.df⟩ :=
 imp_freeze d ts h1 h2 hl (by omega) (by simp [List.take_of_length_le (Nat.le_of_eq h3)])
theorem han {g : Operand → Option AV} : AsAVN g [] [] := trivial
theorem hac {g : Operand → Option AV} {x : Operand} {xs : List Operand} {t : AV} {ts : List AV} (h : g x = some t) (k : AsAVN g xs ts) : AsAVN g (x :: xs) (t :: ts) := ⟨.inl h, k⟩
theorem oin {h : Heap} {r : Nat → Nat} : ObjsIn h r [] [] := trivial
theorem oic {h : Heap} {r : Nat → Nat} {i : Nat} {is : List Nat} {o o' : Obj} {os : List Obj} (h1 : get h i = some (some o')) (h2 : o.ren r = o') (k : ObjsIn h r is os) : ObjsIn h r (i :: is) (o :: os) := ⟨⟨o', h1, h2⟩, k⟩
theorem olts_n {n : Nat} : ∀ ob ∈ ([] : List Obj), ob.lt n := fun _ h => by simp at h
theorem olts_c {n : Nat} {o : Obj} {os : List Obj} (h : o.lt n) (k : ∀ ob ∈ os, ob.lt n) : ∀ ob ∈ o :: os, ob.lt n := fun ob hob => by
 rcases List.mem_cons.1 hob with rfl | hob
 ·exact h
 ·exact k ob hob
theorem olt_t {n : Nat} {e : TypeId} {ts : List Tr} : (Obj.arr e (ts.map .t)).lt n := fun a ha => by
 obtain ⟨t, _, rfl⟩ := List.mem_map.1 ha; rfl
theorem olt_l {n : Nat} {e : TypeId} {l : List AV} (h : AV.lts n l = true) : (Obj.arr e l).lt n := by
 induction l with
 | nil => intro a ha; simp at ha
 | cons x l ih =>
  simp only [AV.lts, Bool.and_eq_true] at h
  intro a ha
  rcases List.mem_cons.1 ha with rfl | ha
  ·exact h.1
  ·exact ih h.2 a ha
theorem outs_0 {r : Nat → Nat} : Outs r [] [] := trivial
theorem outs_s {r : Nat → Nat} {i j : Nat} {o o' : Obj} {a b : Heap} (h : j = r i) (h2 : o.ren r = o') (k : Outs r a b) : Outs r ((i, some o) :: a) ((j, some o') :: b) := ⟨h, h2, k⟩
section
variable {P : Program} {tb : Tab} {g : Operand → Option AV} {h : Heap} {nx : Nat}
theorem callh {f : FuncId} {fx : Operand} {args : Array Operand} {tys : Array TypeId} {ty : TypeId} {caps avs cargs : List AV} {objs : List Obj} (ids : List Nat) {t t' : AV} {h1 h1' : Heap} {k1 nx' : Nat} (hF : FnH P tb f cargs objs t h1 k1) (c1 : IsFn (g fx) f caps) (c2 : AsAVN g args.toList avs)
  (c3 : avs ++ caps = AV.rens (rn ids nx) cargs) (c4 : AV.lts objs.length cargs = true) (c5 : Nat.beq ids.length objs.length = true) (c6 : ids.Nodup) (c7 : ObjsIn h (rn ids nx) ids objs) (c8 : ∀ ob ∈ objs, ob.lt objs.length)
  (c9 : ((List.range objs.length).all fun i => (get h1 i).isSome) = true) (c10 : Outs (rn ids nx) h1 h1') (c11 : Nat.ble objs.length k1 = true) (c12 : t.ren (rn ids nx) = t') (c13 : nx + (k1 - objs.length) = nx') :
  EEv P tb g h nx (.call { callee := .value fx, args := args, argTypes := tys }) ty t' (h1' ++ h) nx' :=
 .callH f fx args tys ty caps avs cargs objs ids t t' h1 h1' k1 nx' hF c1 c2 c3 c4 (Nat.eq_of_beq_eq_true c5) c6 c7 c8 (fun i hi => Option.isSome_iff_exists.1 (List.all_eq_true.1 c9 i (List.mem_range.2 hi))) c10 (Nat.le_of_ble_eq_true c11) c12 c13
theorem fnN_of {f : FuncId} {args : List Tr} {e : TypeId} {l : List Tr} (hl : ∀ t ∈ l, ∃ k n, t = .i k n) (h : FnH P tb f (args.map .t) [] (.own e 0 0 l.length) [(0, some (.arr e (l.map .t)))] 1) : FnN P tb f args e l := by
 intro w S vs N hrep hS hN
 have hrv : ∀ {vs : List Value} {l : List Tr}, RepL tb w S vs l → RepVs tb w (fun _ => none) S vs (l.map .t) := fun h => h.vs
 refine h w (fun _ => none) S vs N (hrv hrep) ⟨fun id o ho => by simp [mkH, get] at ho, fun i j b hi => (by obtain ⟨o, ho⟩ := hi; simp [mkH, get] at ho), fun _ _ => rfl, fun i b hb => (by cases hb), fun i b hb => (by cases hb), hS, fun _ h => h, fun _ h => .inl h, Fr.refl _ _⟩ ?_
 intro v w' φ' S' hk hr hnc hv
 obtain ⟨b, h1, h2, h3, h4⟩ := hr.hh 0 _ rfl
 have hfr : Fr X0 w w' := hr.frame.mono fun i ⟨j, hj⟩ => by cases hj
 have hge : w.heap.size ≤ b := by
  rcases hr.φX 0 b h1 with ⟨j, hj⟩ | h
  ·cases hj
  ·exact h
 refine hN v w' b hfr hge h2 fun φ id hid => ⟨?_, h4.1, fun i a ha => ?_⟩
 ·cases hv with
  | own e id' off len b' c cs k1 k2 k3 k4 k5 =>
   rw [h1] at k1; injection k1 with k1; subst k1
   exact .own e id 0 _ b c cs hid k2 k3 k4 k5
 ·have := h4.2 i a ha
  rw [List.getElem?_map] at ha
  obtain ⟨t, ht1, ht2⟩ := Option.map_eq_some_iff.1 ha
  subst ht2
  obtain ⟨k, n, rfl⟩ := hl t (List.mem_of_getElem? ht1)
  cases this with
  | t t k1 k2 =>
   refine .t _ k1 ?_
   cases k2 with
   | cons b o v t l j1 j2 j3 =>
    cases j2 with | i k n =>
    cases j3 with | nil b o =>
    exact .cons _ _ _ _ _ j1 (.i k n) (.nil _ _)
  | v v a k1 k2 => exact absurd rfl (k2 _)
end
theorem res_t {s : Sta} {t : Tmp} {x y : Tr} (h : get s.sl t = some (.t y)) (e : y = x) : AsTr (opAV s.sl) (.tmp t) x := .inl (e ▸ h)
theorem res_nl {s : Sta} {t : Tmp} {T : TypeId} {l : List Tr} (h : get s.sl t = some .nilS) (e : [] = l) : AsTr (opAV s.sl) (.tmp t) (.sl T l) := .inr ⟨h, T, by rw [e]⟩
theorem res_c {tb : Tab} {s : Sta} {t : Tmp} {T e id : Nat} {ti : TI} {l : List AV} {x y : Tr} (h1 : get s.sl t = some (.ptr e id 0 0)) (h2 : get s.h id = some (some (.arr e l))) (h3 : l[0]? = some (.t y)) (ht : get tb T = some ti) (hf : fits ti y = true) (he : y = x) :
  ∃ ti, get tb T = some ti ∧ fits ti x = true ∧ (get s.sl t = some (.t (.pt x)) ∨ ∃ e id l, get s.sl t = some (.ptr e id 0 0) ∧ get s.h id = some (some (.arr e l)) ∧ l[0]? = some (.t x)) := by
 subst he; exact ⟨ti, ht, hf, .inr ⟨e, id, l, h1, h2, h3⟩⟩
theorem fnP_1 {P : Program} {tb : Tab} (hT : TabOk P tb) {f : FuncId} {fn : Func} {c : Code} {args : List Tr} {x : Tr} (hf : P.funcs[f]? = some fn) (hb : fn.body = some c) (hname : (fn.name == "runtime.NumGoroutine") = false) (hn : args.length ≤ fn.ntmps)
  (h : ∀ G, G.nt = fn.ntmps → G.k0 = 0 → WP P tb G Fence.wide c ⟨initSl 0 (args.map .t), [], 0, 0⟩ (Ends tb fn.results.toList [x])) : FnP P tb f args x := fnP_of hT hf hb hname hn h
theorem fnP_T {P : Program} {tb : Tab} (hT : TabOk P tb) {f : FuncId} {fn : Func} {c : Code} {args xs : List Tr} (hf : P.funcs[f]? = some fn) (hb : fn.body = some c) (hname : (fn.name == "runtime.NumGoroutine") = false) (hn : args.length ≤ fn.ntmps) (hx : retT xs = .tu xs)
  (h : ∀ G, G.nt = fn.ntmps → G.k0 = 0 → WP P tb G Fence.wide c ⟨initSl 0 (args.map .t), [], 0, 0⟩ (Ends tb fn.results.toList xs)) : FnP P tb f args (.tu xs) := by
 rw [← hx]; exact fnP_of hT hf hb hname hn h
section
variable {P : Program} {tb : Tab} {G : Gh} {F : Fence}
def RfPost (sl : Slots) (ps : Array Tmp) (asg body : Code) (nt id df : Nat) (Q : Exit → Sta → Prop) : Exit → Sta → Prop := fun e s2 =>
 (e = .normal ∨ e = .ret) ∧ s2.df = 0 ∧ id < s2.nx ∧ ∃ st pend, get s2.h id = some (some (.loop sl ps asg body nt st pend)) ∧ st ≠ .busy ∧
  match pend with
  | none => Q .normal ⟨sl, (id, none) :: s2.h, s2.nx, df + 1⟩
  | some c => (c = .ret ∧ Q .ret ⟨sl, (id, none) :: s2.h, s2.nx, df + 1⟩) ∨ ∃ i, c = .exit i ∧ Q (.exit i) ⟨sl, (id, none) :: s2.h, s2.nx, df + 1⟩
theorem wp_rangeFunc (hT : TabOk P tb) {g : Operand} {ps : Array Tmp} {asg body c : Code} {s : Sta} {Q : Exit → Sta → Prop} {f : FuncId} {fn : Func} {caps : List AV} {K : Nat} (hK : G.k0 = K) (hk : K ≤ s.nx)
  (hg : IsFn (opAV s.sl g) f caps) (hf : P.funcs[f]? = some fn) (hb : fn.body = some c) (hname : (fn.name == "runtime.NumGoroutine") = false) (hres : fn.results = #[]) (hn : caps.length + 1 ≤ fn.ntmps)
  (h : ∀ G', G'.nt = fn.ntmps → G'.k0 = s.nx + 1 → WP P tb G' Fence.wide c ⟨initSl 0 (.yld s.nx :: caps), (s.nx, some (.loop s.sl ps asg body G.nt .ready none)) :: s.h, s.nx + 1, 0⟩ (RfPost s.sl ps asg body G.nt s.nx s.df Q)) :
  WP P tb G Fence.wide (.rangeFunc g ps asg body) s Q := by
 intro n a w φ S hr
 refine wpIn_rangeFunc fun fr _ => ?_
 have hro : Fence.wide.round = none := rfl
 rw [hro]
 obtain ⟨x, hxg⟩ : ∃ x, opAV s.sl g = some x := by rcases hg with h | ⟨ts, h, _⟩ <;> exact ⟨_, h⟩
 rw [hxg] at hg
 obtain ⟨cvs, hfv, hcv⟩ := hg.rep (opAV_rep hr _ _ hxg)
 let w1 := w.alloc (.deferred (some []))
 let rc : Loop := { state := .ready, pending := none, fn := fr, tmps := a.tmps, params := ps, assign := asg, body, defers := w.heap.size }
 let w2 := w1.alloc (.loop rc)
 have hs1 : w1.heap.size = w.heap.size + 1 := World.size_alloc ..
 have hs2 : w2.heap.size = w.heap.size + 2 := by rw [show w2.heap.size = w1.heap.size + 1 from World.size_alloc .., hs1]
 have hr1 : HR tb G w1 φ S s.h s.nx := hr_val hr.hr (fr_alloc _ _ _) (Gr.refl hr.hr.Slt (by omega))
 have hk1 : Keeps w w1 φ φ S S := keeps_fr hr.hr (fr_alloc _ _ _) (fun _ h => h) fun _ _ h => h
 let φ2 : Phi := fun i => if i = s.nx then some (w.heap.size + 1) else φ i
 have hφ2 : ∀ i c, φ i = some c → φ2 i = some c := fun i c hc => by
  show (if i = s.nx then _ else φ i) = _
  rw [if_neg]; · exact hc
  ·intro e; subst e; rw [hr.hr.fr _ (Nat.le_refl _)] at hc; cases hc
 have hk2 : Keeps w1 w2 φ φ2 S S := keeps_fr hr1 (fr_alloc _ _ _) (fun _ h => h) hφ2
 have hrec : w2.heap[w.heap.size + 1]? = some (.loop rc) := by have := heap_alloc_at w1 (.loop rc); rw [hs1] at this; exact this
 have hr2 : HR tb G w2 φ2 S ((s.nx, some (.loop s.sl ps asg body G.nt .ready none)) :: s.h) (s.nx + 1) :=
  hr_new hr1 (fr_alloc _ _ _) (by omega) (by omega) ⟨fr, a.tmps, w.heap.size, hrec, hr.nt, fun d v hv => (hr.sl d v hv).mono (hk1.trans hk2)⟩
 have hD2 : w2.heap[w.heap.size]? = some (.deferred (some [])) := (heap_alloc_lt w1 _ (by omega)).trans (heap_alloc_at w _)
 have hnc : NC w w2 := (NC.of_fr (fr_alloc X0 w _)).trans (NC.of_fr (fr_alloc X0 w1 _))
 refine ⟨w.heap.size + 1, [markOf w.heap.size], w2, { target := .fn (.func f) cvs.toArray, args := #[Value.func (.yield (w.heap.size + 1)) #[] #[]] }, w2, f, #[Value.func (.yield (w.heap.size + 1)) #[] #[]] ++ cvs.toArray, w2, ?_, ?_, (fun _ _ => trivial), ?_, (fun h => by simp [Fence.wide] at h), ?_⟩
 ·exact run_enterLoop_outer _ _ _ _ _
 ·simp only [resolve, hfv]
  simp [Deferred.ofValue, Act.eval]
 ·have hname' : ¬ fn.name = "runtime.NumGoroutine" := by simpa using hname
  simp [invoke, callFunc, hf, hname', hb]
 ·refine callsIn_of_wp hf hb trivial ?_
  have hφ0 : ∀ i b, φ2 i = some b → i < s.nx + 1 := fun i b hb => by
   rcases Nat.lt_or_ge i (s.nx + 1) with h | h
   ·exact h
   ·rw [hr2.fr i h] at hb; cases hb
  let G' : Gh := { w0 := w2, S0 := S, X := fun b => ∃ i, φ2 i = some b, nt := fn.ntmps, k0 := s.nx + 1, φ0 := φ2, hφ0 := hφ0 }
  have hcl : cvs.length = caps.length := by
   have : ∀ (l : List AV) (us : List Value), RepVs tb w φ S us l → us.length = l.length := by
    intro l
    induction l with
    | nil => intro us h; cases h; rfl
    | cons a l ih => intro us h; cases h with | cons v t us l h1 h2 => simp [ih _ h2]
   exact this _ _ hcv
  have hcv2 : RepVs tb w2 φ2 S cvs caps := RepVs.mono (hk1.trans hk2) hcv
  have hall : RepVs tb w2 φ2 S (.func (.yield (w.heap.size + 1)) #[] #[] :: cvs) (.yld s.nx :: caps) := .cons _ _ _ _ (.yld s.nx _ (if_pos rfl)) hcv2
  have hRel : Rel tb G' w2 { tmps := #[Value.func (.yield (w.heap.size + 1)) #[] #[]] ++ cvs.toArray ++ Array.replicate (fn.ntmps - (#[Value.func (.yield (w.heap.size + 1)) #[] #[]] ++ cvs.toArray).size) undef, defers := [] } φ2 S ⟨initSl 0 (.yld s.nx :: caps), (s.nx, some (.loop s.sl ps asg body G.nt .ready none)) :: s.h, s.nx + 1, 0⟩ := by
   refine ⟨⟨hr2.hh, hr2.inj, hr2.fr, hr2.φlt, fun i b hb => .inl ⟨i, hb⟩, hr2.Slt, fun _ h => h, fun _ h => .inl h, Fr.refl _ _⟩, ?_, by simp [G', hcl]; omega, ⟨[], rfl, List.nodup_nil, rfl, fun r hr => by simp at hr⟩, Keeps.refl _ _ _, NC.refl _⟩
   generalize hvs : #[Value.func (.yield (w.heap.size + 1)) #[] #[]] ++ cvs.toArray = vs
   have hall' : RepVs tb w2 φ2 S vs.toList (.yld s.nx :: caps) := by rw [← hvs]; simpa using hall
   have key : ∀ (l : List AV) (us : List Value) (i : Nat), RepVs tb w2 φ2 S us l → (∀ j u, us[j]? = some u → (vs ++ Array.replicate (fn.ntmps - vs.size) undef).getD (i + j) undef = u) →
     ∀ d v, get (initSl i l) d = some v → RepV tb w2 φ2 S ((vs ++ Array.replicate (fn.ntmps - vs.size) undef).getD d undef) v := by
    intro l
    induction l with
    | nil => intro us i _ _ d v hv; simp [initSl, get] at hv
    | cons t l ih =>
     intro us i hu hat d v hv
     cases hu with
     | cons u t us l h1 h2 =>
      simp only [initSl] at hv
      rw [get_cons] at hv
      split at hv
      ·rename_i e; subst e; injection hv with hv; subst hv
       have := hat 0 u rfl
       rw [Nat.add_zero] at this
       rw [this]; exact h1
      ·exact ih us (i + 1) h2 (fun j u hj => by have := hat (j + 1) u (by simpa using hj); rw [← this]; congr 1; omega) d v hv
   refine key _ vs.toList 0 hall' fun j u hj => ?_
   have hj' : vs[j]? = some u := by simpa using hj
   have hlt := (Array.getElem?_eq_some_iff.1 hj').1
   rw [Nat.zero_add, Array.getD_eq_getD_getElem?, Array.getElem?_append_left hlt, hj']; rfl
  refine wpIn_mono (h G' rfl rfl (n - 1) _ w2 φ2 S hRel) ?_
  -- behind the function
  have fin : ∀ a' w3, WPost tb G' (RfPost s.sl ps asg body G.nt s.nx s.df Q) .normal a' w3 ∨ WPost tb G' (RfPost s.sl ps asg body G.nt s.nx s.df Q) .ret a' w3 → a'.defers = [] ∧ ∃ v, (results fn a'.tmps).run P w3 = .ok v w3 ∧ rangePost Fence.wide n P (w.heap.size + 1) (WPost tb G Q) { a with defers := [markOf w.heap.size] ++ a.defers } (.returned v) w3 := by
   intro a' w3 hp
   have hp' : ∃ s2 φ3 S3, Rel tb G' w3 a' φ3 S3 s2 ∧ ∃ e, RfPost s.sl ps asg body G.nt s.nx s.df Q e s2 := by
    rcases hp with ⟨s2, φ3, S3, h1, h2⟩ | ⟨s2, φ3, S3, h1, h2⟩
    ·exact ⟨s2, φ3, S3, h1, _, h2⟩
    ·exact ⟨s2, φ3, S3, h1, _, h2⟩
   obtain ⟨s2, φ3, S3, hr3, e, _, hdf, hlt, st, pend, hid, hst, hQ⟩ := hp'
   have hdf' : a'.defers = [] := by
    obtain ⟨ms, k1, k2, k3, k4⟩ := hr3.df
    rw [hdf] at k3
    rw [k1, List.length_eq_zero_iff.1 k3]; rfl
   refine ⟨hdf', .tuple #[], ?_, ?_⟩
   ·rw [results_eq, hres]; simp
   ·have hb3 : φ3 s.nx = some (w.heap.size + 1) := hr3.kp.hφ _ _ (if_pos rfl)
    obtain ⟨blk, hb3', hb4, hb5, fn3, tmps3, D3, hrec3, hnt3, hsl3⟩ := hr3.hr.hh _ _ hid
    rw [hb3] at hb3'; injection hb3' with hb3'; subst hb3'
    have hend := run_endLoop (P := P) hrec3 hst
    refine ⟨pend, _, hend, ?_⟩
    obtain ⟨k1, k2, k3⟩ := hr_loop (st' := .exhausted) (pend' := pend) hr3.hr hid hb3 hrec3 _ rfl
    generalize w3.putObj (w.heap.size + 1) (.loop { state := .exhausted, pending := pend, fn := fn3, tmps := tmps3, params := ps, assign := asg, body := body, defers := D3 }) = w4 at *
    have hkall : Keeps w w4 φ φ3 S S3 := (hk1.trans hk2).trans (hr3.kp.trans k1)
    have hncall : NC w w4 := hnc.trans (hr3.nc.trans k3)
    have key : Rel tb G w4 { a with defers := [markOf w.heap.size] ++ a.defers } φ3 S3 ⟨s.sl, (s.nx, none) :: s2.h, s2.nx, s.df + 1⟩ := by
     have hget : ∀ i o, get ((s.nx, none) :: s2.h) i = some (some o) → get ((s.nx, some (.loop s.sl ps asg body G.nt .exhausted pend)) :: s2.h) i = some (some o) := fun i o ho => by
      rw [get_cons] at ho ⊢
      split at ho
      ·injection ho with ho; cases ho
      ·rename_i hne; rw [if_neg hne]; exact ho
     refine ⟨⟨fun id o ho => k2.hh id o (hget id o ho), fun i j b ⟨o, ho⟩ ⟨o', ho'⟩ => k2.inj i j b ⟨o, hget _ _ ho⟩ ⟨o', hget _ _ ho'⟩, k2.fr, k2.φlt, fun i c hc => ?_, k2.Slt, fun c hc => k2.SS c (hr.hr.SS c hc), fun c hc => ?_, ?_⟩, fun d v hv => (hr.sl d v hv).mono hkall, hr.nt, ?_, hr.kp.trans hkall, hr.nc.trans hncall⟩
     ·rcases k2.φX i c hc with ⟨j, hj⟩ | hx
      ·exact hr2.φX j c hj
      ·exact .inr (Nat.le_trans (Nat.le_trans hr.hr.frame.size (show w.heap.size ≤ w2.heap.size by omega)) hx)
     ·rcases k2.Snew c hc with hx | hx | ⟨j, hj⟩
      ·exact hr.hr.Snew c hx
      ·exact .inr (.inl (Nat.le_trans (Nat.le_trans hr.hr.frame.size (show w.heap.size ≤ w2.heap.size by omega)) hx))
      ·rcases hr2.φX j c hj with hx | hx
       ·exact .inr (.inr hx)
       ·exact .inr (.inl hx)
     ·refine hr2.frame.trans k2.frame fun i hi hX => ?_
      obtain ⟨j, hj⟩ := hX
      rcases hr2.φX j i hj with hx | hx
      ·exact hx
      ·omega
     ·obtain ⟨ms, m1, m2, m3, m4⟩ := hr.df
      refine ⟨w.heap.size :: ms, by simp [m1], List.nodup_cons.2 ⟨fun hm => ?_, m2⟩, by simp [m3], fun r hrm => ?_⟩
      ·have := (m4 _ hm).1
       have := (Array.getElem?_eq_some_iff.1 this).1
       omega
      ·rcases List.mem_cons.1 hrm with rfl | hrm
       ·exact ⟨k3 _ _ (hr3.nc _ _ hD2 rfl) rfl, hr.hr.frame.size⟩
       ·exact ⟨hncall _ _ (m4 r hrm).1 rfl, (m4 r hrm).2⟩
    cases pend with
    | none => exact ⟨_, φ3, S3, key, hQ⟩
    | some c =>
     rcases hQ with ⟨rfl, hQ⟩ | ⟨i, rfl, hQ⟩
     ·exact wpIn_ret ⟨_, φ3, S3, key, hQ⟩
     ·exact wpIn_exit ⟨_, φ3, S3, key, hQ⟩
  rintro e a' w3 hp
  cases e with
  | normal => obtain ⟨h1, v, h2, h3⟩ := fin a' w3 (.inl hp); exact ⟨h1, v, h2, h3⟩
  | ret => obtain ⟨h1, v, h2, h3⟩ := fin a' w3 (.inr hp); exact ⟨h1, v, h2, h3⟩
  | outgrown =>
   obtain ⟨s2, φ3, S3, h1, h2, _⟩ := hp
   ·rcases h2 with h2 | h2 <;> cases h2
  | exit i =>
   obtain ⟨s2, φ3, S3, h1, h2, _⟩ := hp
   ·rcases h2 with h2 | h2 <;> cases h2
  | goto t =>
   obtain ⟨s2, φ3, S3, h1, h2, _⟩ := hp
   ·rcases h2 with h2 | h2 <;> cases h2
  | panic ch =>
   obtain ⟨s2, φ3, S3, h1, h2, _⟩ := hp
   ·rcases h2 with h2 | h2 <;> cases h2
end
def IsC (w : World) (b : Nat) : Prop := ∃ cs ty fr, w.heap[b]? = some (.cells cs ty fr)
section
variable {tb : Tab} {w : World} {S : Nat → Prop}
theorem SC.only {b : Nat} (h : SC w S b) : SC w (fun b => S b ∧ IsC w b) b := ⟨⟨h.1, h.2⟩, h.2⟩
mutual
theorem RepT.only : ∀ {v : Value} {t : Tr}, RepT tb w S v t → RepT tb w (fun b => S b ∧ IsC w b) v t
 | _, _, .i k n => .i k n
 | _, _, .b b => .b b
 | _, _, .s s => .s s
 | _, _, .ag vs l h => .ag vs l (RepL.only h)
 | _, _, .tu vs l h => .tu vs l (RepL.only h)
 | _, _, .fn f vs l h => .fn f vs l (RepL.only h)
 | _, _, .emp a c e => .emp a c e
 | _, _, .sl b o n c e l h1 h2 h3 h4 h5 => .sl b o n c e l h1 h2 h3 h4.only (RepEs.only h5)
 | _, _, .pt b o t h1 h2 => .pt b o t h1.only (RepCs.only h2)
theorem RepL.only : ∀ {vs : List Value} {l : List Tr}, RepL tb w S vs l → RepL tb w (fun b => S b ∧ IsC w b) vs l
 | _, _, .nil => .nil
 | _, _, .cons v t vs l h1 h2 => .cons v t vs l (RepT.only h1) (RepL.only h2)
theorem RepCs.only : ∀ {b o : Nat} {l : List Tr}, RepCs tb w S b o l → RepCs tb w (fun b => S b ∧ IsC w b) b o l
 | _, _, _, .nil _ _ => .nil _ _
 | b, _, _, .cons _ o v t l h1 h2 h3 => .cons b o v t l h1 (RepT.only h2) (RepCs.only h3)
theorem RepEs.only : ∀ {b o z : Nat} {l : List Tr}, RepEs tb w S b o z l → RepEs tb w (fun b => S b ∧ IsC w b) b o z l
 | _, _, _, _, .nil _ _ _ => .nil _ _ _
 | b, _, _, _, .cons _ o z t l h1 h2 h3 => .cons b o z t l h1 (RepCs.only h2) (RepEs.only h3)
end
end
def EndsM (tb : Tab) (rs : List ResultVar) (xs : List Tr) : Exit → Sta → Prop := fun e s => (e = .normal ∨ e = .ret) ∧ ResIs tb s rs xs
def shut : List Nat → World → World
 | [], w => w
 | r :: rs, w => shut rs (w.putObj r (.deferred none))
theorem shut_other {k : Nat} : ∀ {ms : List Nat} {w : World}, k ∉ ms → (shut ms w).heap[k]? = w.heap[k]?
 | [], w, _ => rfl
 | r :: rs, w, h => by
  rw [shut, shut_other (fun hk => h (List.mem_cons_of_mem _ hk))]
  exact World.putObj_heap_other (fun e => h (by simp [e]))
theorem shut_size : ∀ {ms : List Nat} {w : World}, (shut ms w).heap.size = w.heap.size
 | [], w => rfl
 | r :: rs, w => by rw [shut, shut_size]; exact World.putObj_size
theorem shut_rest : ∀ {ms : List Nat} {w : World}, (shut ms w).os = w.os ∧ (shut ms w).tape = w.tape ∧ (shut ms w).output = w.output
 | [], w => ⟨rfl, rfl, rfl⟩
 | r :: rs, w => by rw [shut]; exact shut_rest (ms := rs) (w := w.putObj r (.deferred none))
theorem leaves_marks {P : Program} {fn : Func} {tmps : Array Value} {R : Ending → World → Prop} : ∀ (ms : List Nat) (w : World), ms.Nodup → (∀ r ∈ ms, w.heap[r]? = some (.deferred (some []))) →
  (∃ v, (results fn tmps).run P (shut ms w) = .ok v (shut ms w) ∧ R (.returned v) (shut ms w)) → LeavesInM Fence.wide 0 P fn tmps R (ms.map markOf) .returning w
 | [], w, _, _, h => h
 | r :: rs, w, hn, hm, h => by
  refine ⟨by simp, .inl ⟨r, _, rfl, run_takeDeferred (hm r (by simp)), ?_⟩⟩
  have hn' := List.nodup_cons.1 hn
  exact leaves_marks rs _ hn'.2 (fun k hk => (World.putObj_heap_other (fun e => hn'.1 (by rw [← e]; exact hk))).trans (hm k (by simp [hk]))) h
section
variable {P : Program} {tb : Tab}
theorem RepCs.to {w w2 : World} {S S2 : Nat → Prop} (hc : ∀ a v, w.cell? a = some v → w2.cell? a = some v) (hw : ∀ b, (S b ∧ IsC w b) → w2.heap[b]? = w.heap[b]?) (hS : ∀ b, (S b ∧ IsC w b) → S2 b) {b : Nat} : ∀ {o : Nat} {l : List Tr}, RepCs tb w S b o l → RepCs tb w2 S2 b o l
 | _, _, .nil _ _ => .nil _ _
 | _, _, .cons _ o v t l h1 h2 h3 => .cons b o v t l (hc _ _ h1) (h2.only.mono hw hS) (RepCs.to hc hw hS h3)
theorem results_to {G : Gh} {w w2 : World} {φ : Phi} {S S2 : Nat → Prop} (hT : TabOk P tb) {a : Act} {s : Sta} (hr : Rel tb G w a φ S s) (hc : ∀ a v, w.cell? a = some v → w2.cell? a = some v) (hw : ∀ b, (S b ∧ IsC w b) → w2.heap[b]? = w.heap[b]?) (hS : ∀ b, (S b ∧ IsC w b) → S2 b) : ∀ (rs : List ResultVar) (xs : List Tr), ResIs tb s rs xs →
  ∃ vs : List Value, (rs.mapM (rvSem a.tmps)).run P w2 = .ok vs w2 ∧ RepL tb w2 S2 vs xs
 | [], [], _ => ⟨[], by simp, .nil⟩
 | .tmp t :: rs, x :: xs, h => by
  obtain ⟨vs, h1, h2⟩ := results_to hT hr hc hw hS rs xs h.2
  have h0 : (rvSem a.tmps (.tmp t)).run P w2 = .ok (a.tmps.getD t undef) w2 := rfl
  exact ⟨a.tmps.getD t undef :: vs, by simp only [List.mapM_cons, Sem.run_bind, h0, Result.andThen_ok, h1, Sem.run_pure], .cons _ _ _ _ ((h.1.rep (opAV_rep hr)).only.mono hw hS) h2⟩
 | .cell t T :: rs, x :: xs, h => by
  obtain ⟨vs, h1, h2⟩ := results_to hT hr hc hw hS rs xs h.2
  obtain ⟨⟨ti, ht, hf, hcl⟩, _⟩ := h
  have hl : ∃ v ad, a.tmps.getD t undef = .pointer (some ad) ∧ (loadVar T ad).run P w2 = .ok v w2 ∧ RepT tb w2 S2 v x := by
   rcases hcl with hcl | ⟨e, id, l, hc1, hc2, hc3⟩
   ·obtain ⟨b, o, k1, k2, k3⟩ := pt_of (hr.sl t _ hcl)
    obtain ⟨v, k4, k5⟩ := run_loadVar_fits (hT _ _ ht) hf (k3.to hc hw hS)
    exact ⟨v, _, k1, k4, k5⟩
   ·obtain ⟨b, k1, k2⟩ := ptr_of (hr.sl t _ hc1)
    obtain ⟨b', j1, j2, j3, j4, j5⟩ := hr.hr.hh id _ hc2
    rw [k1] at j1; injection j1 with j1; subst j1
    have hE := j5 0 _ hc3
    cases hE with
    | t t h3 h4 =>
     obtain ⟨v, k4, k5⟩ := run_loadVar_fits (hT _ _ ht) hf (h4.to hc hw hS)
     exact ⟨v, _, by rw [k2, Nat.add_zero], k4, k5⟩
    | v v a h3 h4 => exact absurd rfl (h4 x)
  obtain ⟨v, ad, k1, k2, k3⟩ := hl
  have h0 : (rvSem a.tmps (.cell t T)).run P w2 = .ok v w2 := by
   unfold rvSem
   simp only [Sem.run_bind, k1, asAddr, Sem.run_pure, Result.andThen_ok, k2]
  exact ⟨v :: vs, by simp only [List.mapM_cons, Sem.run_bind, h0, Result.andThen_ok, h1, Sem.run_pure], .cons _ _ _ _ k3 h2⟩
 | [], _ :: _, h => h.elim
 | .tmp _ :: _, [], h => h.elim
 | .cell _ _ :: _, [], h => h.elim
theorem fnP_M (hT : TabOk P tb) {f : FuncId} {fn : Func} {c : Code} {args xs : List Tr} {t : Tr} (hf : P.funcs[f]? = some fn) (hb : fn.body = some c) (hname : (fn.name == "runtime.NumGoroutine") = false) (hn : args.length ≤ fn.ntmps) (ht : retT xs = t)
  (h : ∀ G, G.nt = fn.ntmps → G.k0 = 0 → WP P tb G Fence.wide c ⟨initSl 0 (args.map .t), [], 0, 0⟩ (EndsM tb fn.results.toList xs)) : FnP P tb f args t := by
 subst ht
 intro w S vs N hrep hS hN
 have hrun : (callFunc f vs).run P w = .ok (.enter f vs) w := by
  have hname' : ¬ fn.name = "runtime.NumGoroutine" := by simpa using hname
  simp [callFunc, hf, hname', hb]
 rw [hrun]
 show Calls P f vs w _
 refine (callsIn_wide (n := 0)).1 (callsIn_of_wp_marks hf hb trivial ?_)
 let G : Gh := { w0 := w, S0 := S, X := X0, nt := fn.ntmps, k0 := 0, φ0 := fun _ => none, hφ0 := fun _ _ h => by cases h }
 have hvl : vs.size = args.length := by have := hrep.length; simpa using this
 have hRel : Rel tb G w { tmps := vs ++ Array.replicate (fn.ntmps - vs.size) undef, defers := [] } (fun _ => none) S ⟨initSl 0 (args.map .t), [], 0, 0⟩ := by
  refine ⟨⟨fun id o ho => by simp [get] at ho, fun i j b hi => by obtain ⟨o, ho⟩ := hi; simp [get] at ho, fun _ _ => rfl, fun i b hb => by simp at hb, fun i b hb => by simp at hb, hS, fun _ h => h, fun _ h => .inl h, Fr.refl _ _⟩, ?_, by simp [G]; omega, ⟨[], rfl, List.nodup_nil, rfl, fun r hr => by simp at hr⟩, Keeps.refl _ _ _, NC.refl _⟩
  have key : ∀ (l : List Tr) (us : List Value) (i : Nat), RepL tb w S us l → (∀ j u, us[j]? = some u → (vs ++ Array.replicate (fn.ntmps - vs.size) undef).getD (i + j) undef = u) →
    ∀ d v, get (initSl i (l.map .t)) d = some v → RepV tb w (fun _ => none) S ((vs ++ Array.replicate (fn.ntmps - vs.size) undef).getD d undef) v := by
   intro l
   induction l with
   | nil => intro us i _ _ d v hv; simp [initSl, get] at hv
   | cons t l ih =>
    intro us i hu hat d v hv
    cases hu with
    | cons u t us l h1 h2 =>
     simp only [List.map_cons, initSl] at hv
     rw [get_cons] at hv
     split at hv
     ·rename_i e; subst e; injection hv with hv; subst hv
      have := hat 0 u rfl
      rw [Nat.add_zero] at this
      rw [this]; exact .t _ _ h1
     ·exact ih us (i + 1) h2 (fun j u hj => by have := hat (j + 1) u (by simpa using hj); rw [← this]; congr 1; omega) d v hv
  refine key args vs.toList 0 hrep fun j u hj => ?_
  have hj' : vs[j]? = some u := by simpa using hj
  have hlt := (Array.getElem?_eq_some_iff.1 hj').1
  rw [Nat.zero_add, Array.getD_eq_getD_getElem?, Array.getElem?_append_left hlt, hj']; rfl
 refine wpIn_mono (h G rfl rfl 0 _ w _ S hRel) ?_
 rintro e a' w' ⟨s', φ', S', h1, h2, h4⟩
 ·obtain ⟨ms, k1, k2, k3, k4⟩ := h1.df
  -- the world with the blocks shut
  have hcell : ∀ b, IsC w' b → (shut ms w').heap[b]? = w'.heap[b]? := fun b ⟨cs, ty, fr, hc⟩ => shut_other fun hm => by rw [(k4 b hm).1] at hc; cases hc
  have hcc : ∀ ad v, w'.cell? ad = some v → (shut ms w').cell? ad = some v := fun ad v hv => by
   have hb : ad.block ∉ ms := fun hm => by
    unfold World.cell? at hv
    rw [(k4 _ hm).1] at hv; cases hv
   unfold World.cell? at hv ⊢
   rw [shut_other hb]; exact hv
  have hfin : ∃ v, (results fn a'.tmps).run P (shut ms w') = .ok v (shut ms w') ∧ RepT tb (shut ms w') (fun b => S b ∨ (S' b ∧ IsC w' b)) v (retT xs) := by
   obtain ⟨us, r1, r3⟩ := results_to (w2 := shut ms w') (S2 := fun b => S b ∨ (S' b ∧ IsC w' b)) hT h1 hcc (fun b hb => hcell b hb.2) (fun b hb => .inr hb) fn.results.toList xs h4
   have e1 : (results fn a'.tmps).run P (shut ms w') = .ok (if h : us.length = 1 then us[0] else .tuple us.toArray) (shut ms w') := by
    rw [results_eq]
    have r1' : (fn.results.mapM (rvSem a'.tmps)).run P (shut ms w') = .ok us.toArray (shut ms w') := by
     rw [Array.mapM_eq_mapM_toList]
     simp only [Sem.run_map, r1, Result.andThen_ok]
    simp only [Sem.run_bind, r1', Result.andThen_ok, Sem.run_pure]
    congr 1
   refine ⟨_, e1, ?_⟩
   cases r3 with
   | nil => simpa [retT] using RepT.tu (tb := tb) (w := shut ms w') (S := fun b => S b ∨ (S' b ∧ IsC w' b)) [] [] .nil
   | cons v t us l q1 q2 =>
    cases q2 with
    | nil => simpa [retT] using q1
    | cons v2 t2 us l q2 q3 => simpa [retT] using RepT.tu (tb := tb) (w := shut ms w') (S := fun b => S b ∨ (S' b ∧ IsC w' b)) _ _ (.cons _ _ _ _ q1 (.cons _ _ _ _ q2 q3))
  obtain ⟨v, hv1, hv2⟩ := hfin
  have hlt : ∀ r ∈ ms, w.heap.size ≤ r := fun r hr => (k4 r hr).2
  obtain ⟨o1, o2, o3⟩ := shut_rest (ms := ms) (w := w')
  have hN' := hN v (shut ms w') (fun b => S b ∨ (S' b ∧ IsC w' b)) hv2
   ⟨o1.trans h1.hr.frame.os, o2.trans h1.hr.frame.tape, o3.trans h1.hr.frame.output, by rw [shut_size]; exact h1.hr.frame.size, fun i hi hx => (shut_other fun hm => by have := hlt i hm; omega).trans (h1.hr.frame.blk i hi hx)⟩
   ⟨fun b hb => .inl hb, fun b hb => hb.elim .inl fun hb => (h1.hr.Snew b hb.1).imp id fun h => h.elim id fun h => h.elim, fun b hb => by
    rw [shut_size]
    rcases hb with hb | hb
    ·exact Nat.lt_of_lt_of_le (hS b hb) h1.hr.frame.size
    ·exact h1.hr.Slt b hb.1⟩
  have hL : LeavesInM Fence.wide 0 P fn a'.tmps (fun e w'' => ∃ v, e = .returned v ∧ N v w'') a'.defers .returning w' := by
   rw [k1]; exact leaves_marks ms w' k2 (fun r hr => (k4 r hr).1) ⟨v, hv1, v, rfl, hN'⟩
  rcases h2 with rfl | rfl <;> exact hL
end
inductive KeepR (sl : Slots) : Slots → Prop
 | nil : KeepR sl []
 | cons {d : Nat} {v : AV} {r : Slots} : get sl d = some v → KeepR sl r → KeepR sl ((d, v) :: r)
inductive KeepH (h : Heap) : Heap → Prop
 | nil : KeepH h []
 | cons {d : Nat} {v : Option Obj} {r : Heap} : get h d = some v → KeepH h r → KeepH h ((d, v) :: r)
theorem krn {sl : Slots} : KeepR sl [] := .nil
theorem krc {sl : Slots} (d : Nat) {v : AV} {r : Slots} (h : get sl d = some v) (k : KeepR sl r) : KeepR sl ((d, v) :: r) := .cons h k
theorem khn {h : Heap} : KeepH h [] := .nil
theorem khc {h : Heap} (d : Nat) {v : Option Obj} {r : Heap} (hv : get h d = some v) (k : KeepH h r) : KeepH h ((d, v) :: r) := .cons hv k
theorem KeepR.all {sl sl' : Slots} (h : KeepR sl sl') : GetAll sl sl' := by
 induction h with
 | nil => trivial
 | cons h _ ih => exact ⟨h, ih⟩
section
variable {P : Program} {tb : Tab} {G : Gh} {F : Fence} {s : Sta} {Q : Exit → Sta → Prop} {K : Nat} {sl : Slots} {h : Heap} {nx df : Nat}
theorem wp_l2 {c : Code} {ι : Type} (hK : G.k0 = K) {sl' : Slots} {h' : Heap} (e1 : KeepR sl sl') (e2 : KeepH h h') (st : Slots → Heap → ι → Sta) (Inv : ι → Prop) (μ : ι → Nat) (i : ι) (h0 : Inv i) (hk : ∀ i, Nat.ble K (st sl' h' i).nx = true) (hs : Imp K tb ⟨sl, h, nx, df⟩ (st sl' h' i))
  (round : ∀ i, Inv i → WP P tb G F c (st sl' h' i) (Round K tb (fun i => st sl' h' i) Inv μ i Q)) : WP P tb G F (.loop c) ⟨sl, h, nx, df⟩ Q :=
 wp_loop (st sl' h') Inv μ i hK h0 (fun i => Nat.le_of_ble_eq_true (hk i)) hs round
theorem wp_j2 {x y : Code} {ι : Type} (hK : G.k0 = K) {sl' : Slots} {h' : Heap} (e1 : KeepR sl sl') (e2 : KeepH h h') (st : Slots → Heap → ι → Sta) (Inv : ι → Prop) (hk : ∀ i, Nat.ble K (st sl' h' i).nx = true) (hx : WP P tb G F x ⟨sl, h, nx, df⟩ (Join K tb (fun i => st sl' h' i) Inv Q)) (k : ∀ i, Inv i → WP P tb G F y (st sl' h' i) Q) : WP P tb G F (.seq x y) ⟨sl, h, nx, df⟩ Q :=
 wp_j hK (st sl' h') Inv hk hx k
theorem wp_kp {c : Code} (hK : G.k0 = K) {sl' : Slots} (e1 : KeepR sl sl') (hk : Nat.ble K nx = true) (k : WP P tb G F c ⟨sl', h, nx, df⟩ Q) : WP P tb G F c ⟨sl, h, nx, df⟩ Q := by
 refine wp_imp (s' := ⟨sl', h, nx, df⟩) hK ?_ k hk
 intro G w a φ S _ _ hr
 exact ⟨φ, S, ⟨hr.hr, fun d v hv => hr.sl d v (e1.all.spec _ _ hv), hr.nt, hr.df, hr.kp, hr.nc⟩⟩
theorem wp_cT {c : Operand} {x y : Code} {b : Bool} (hc : opAV s.sl c = some (.t (.b b))) (hb : b = true) (h1 : WP P tb G F x s Q) : WP P tb G F (.cond c x y) s Q :=
 Eng.wp_cond hc (fun _ => h1) (fun h => by rw [hb] at h; cases h)
theorem wp_cF {c : Operand} {x y : Code} {b : Bool} (hc : opAV s.sl c = some (.t (.b b))) (hb : b = false) (h1 : WP P tb G F y s Q) : WP P tb G F (.cond c x y) s Q :=
 Eng.wp_cond hc (fun h => by rw [hb] at h; cases h) (fun _ => h1)
theorem wp_rf (hT : TabOk P tb) {g : Operand} {ps : Array Tmp} {asg body c : Code} {f : FuncId} {fn : Func} {caps : List AV} (hF : F = Fence.wide) (hK : G.k0 = K) {n : Nat} (hG : G.nt = n) (hk : Nat.ble K nx = true)
  (hg : IsFn (opAV sl g) f caps) (hf : P.funcs[f]? = some fn) (hb : fn.body = some c) (hname : (fn.name == "runtime.NumGoroutine") = false) (hres : fn.results = #[]) (hn : Nat.ble (caps.length + 1) fn.ntmps = true)
  (hw : ∀ G', G'.nt = fn.ntmps → G'.k0 = nx + 1 → WP P tb G' Fence.wide c ⟨initSl 0 (.yld nx :: caps), (nx, some (.loop sl ps asg body n .ready none)) :: h, nx + 1, 0⟩ (RfPost sl ps asg body n nx df Q)) :
  WP P tb G F (.rangeFunc g ps asg body) ⟨sl, h, nx, df⟩ Q := by
 subst hF
 refine wp_rangeFunc hT hK (Nat.le_of_ble_eq_true hk) hg hf hb hname hres (Nat.le_of_ble_eq_true hn) ?_
 rw [hG]; exact hw
theorem rf_n {ps : Array Tmp} {asg body : Code} {nt id : Nat} {e : Exit} {s2 : Sta} {st : LoopState} (he : e = .normal ∨ e = .ret) (hdf : s2.df = 0) (hid : Nat.blt id s2.nx = true) (hg : get s2.h id = some (some (.loop sl ps asg body nt st none))) (hst : st ≠ .busy) (hq : Q .normal ⟨sl, (id, none) :: s2.h, s2.nx, df + 1⟩) :
  RfPost sl ps asg body nt id df Q e s2 := ⟨he, hdf, Nat.le_of_ble_eq_true hid, st, none, hg, hst, hq⟩
theorem rf_x {ps : Array Tmp} {asg body : Code} {nt id i : Nat} {e : Exit} {s2 : Sta} {st : LoopState} (he : e = .normal ∨ e = .ret) (hdf : s2.df = 0) (hid : Nat.blt id s2.nx = true) (hg : get s2.h id = some (some (.loop sl ps asg body nt st (some (.exit i))))) (hst : st ≠ .busy) (hq : Q (.exit i) ⟨sl, (id, none) :: s2.h, s2.nx, df + 1⟩) :
  RfPost sl ps asg body nt id df Q e s2 := ⟨he, hdf, Nat.le_of_ble_eq_true hid, st, _, hg, hst, .inr ⟨i, rfl, hq⟩⟩
theorem rf_r {ps : Array Tmp} {asg body : Code} {nt id : Nat} {e : Exit} {s2 : Sta} {st : LoopState} (he : e = .normal ∨ e = .ret) (hdf : s2.df = 0) (hid : Nat.blt id s2.nx = true) (hg : get s2.h id = some (some (.loop sl ps asg body nt st (some .ret)))) (hst : st ≠ .busy) (hq : Q .ret ⟨sl, (id, none) :: s2.h, s2.nx, df + 1⟩) :
  RfPost sl ps asg body nt id df Q e s2 := ⟨he, hdf, Nat.le_of_ble_eq_true hid, st, _, hg, hst, .inl ⟨rfl, hq⟩⟩
def BodyPost (tb : Tab) (id : Nat) (sl : Slots) (ps : Array Tmp) (asg body : Code) (nt nx : Nat) (b : Bool) (h' : Heap) (nx' : Nat) : Exit → Sta → Prop := fun e s2 =>
 s2.df = 0 ∧ get s2.h id = some (some (.loop sl ps asg body nt .busy none)) ∧ nx ≤ nx' ∧
  ∃ jump, jumpOf e = some jump ∧ b = jump.isNone ∧ Imp nx tb ⟨[], (id, some (.loop sl ps asg body nt (if jump.isNone then .ready else .done) jump)) :: s2.h, s2.nx, 0⟩ ⟨[], h', nx', 0⟩
def AsgPost (P : Program) (tb : Tab) (G : Gh) (F : Fence) (id : Nat) (sl : Slots) (ps : Array Tmp) (asg body : Code) (nt nx : Nat) (b : Bool) (h' : Heap) (nx' : Nat) : Exit → Sta → Prop := fun e s1 =>
 e = .normal ∧ s1.df = 0 ∧ get s1.h id = some (some (.loop sl ps asg body nt .ready none)) ∧ WP P tb G F body ⟨s1.sl, (id, some (.loop sl ps asg body nt .busy none)) :: s1.h, s1.nx, 0⟩ (BodyPost tb id sl ps asg body nt nx b h' nx')
theorem asg_n {id : Nat} {ps : Array Tmp} {asg body : Code} {nt : Nat} {b : Bool} {h' : Heap} {nx' : Nat} (hdf : s.df = 0) (hg : get s.h id = some (some (.loop sl ps asg body nt .ready none))) (hw : WP P tb G F body ⟨s.sl, (id, some (.loop sl ps asg body nt .busy none)) :: s.h, s.nx, 0⟩ (BodyPost tb id sl ps asg body nt nx b h' nx')) :
  AsgPost P tb G F id sl ps asg body nt nx b h' nx' .normal s := ⟨rfl, hdf, hg, hw⟩
theorem body_n {id : Nat} {ps : Array Tmp} {asg body : Code} {nt : Nat} {h' : Heap} {nx' : Nat} (hdf : s.df = 0) (hg : get s.h id = some (some (.loop sl ps asg body nt .busy none))) (hn : Nat.ble nx nx' = true) (hi : Imp nx tb ⟨[], (id, some (.loop sl ps asg body nt .ready none)) :: s.h, s.nx, 0⟩ ⟨[], h', nx', 0⟩) :
  BodyPost tb id sl ps asg body nt nx true h' nx' .normal s := ⟨hdf, hg, Nat.le_of_ble_eq_true hn, none, rfl, rfl, hi⟩
theorem body_x {id i : Nat} {ps : Array Tmp} {asg body : Code} {nt : Nat} {h' : Heap} {nx' : Nat} (hdf : s.df = 0) (hg : get s.h id = some (some (.loop sl ps asg body nt .busy none))) (hn : Nat.ble nx nx' = true) (hi : Imp nx tb ⟨[], (id, some (.loop sl ps asg body nt .done (some (.exit i)))) :: s.h, s.nx, 0⟩ ⟨[], h', nx', 0⟩) :
  BodyPost tb id sl ps asg body nt nx false h' nx' (.exit i) s := ⟨hdf, hg, Nat.le_of_ble_eq_true hn, _, rfl, rfl, hi⟩
theorem body_r {id : Nat} {ps : Array Tmp} {asg body : Code} {nt : Nat} {h' : Heap} {nx' : Nat} (hdf : s.df = 0) (hg : get s.h id = some (some (.loop sl ps asg body nt .busy none))) (hn : Nat.ble nx nx' = true) (hi : Imp nx tb ⟨[], (id, some (.loop sl ps asg body nt .done (some .ret))) :: s.h, s.nx, 0⟩ ⟨[], h', nx', 0⟩) :
  BodyPost tb id sl ps asg body nt nx false h' nx' .ret s := ⟨hdf, hg, Nat.le_of_ble_eq_true hn, _, rfl, rfl, hi⟩
theorem ev_yT {g : Operand → Option AV} {fx : Operand} {args : Array Operand} {tys : Array TypeId} {ty : TypeId} {id nt : Nat} {ps : Array Tmp} {asg body : Code} {xs : List AV} (hf : g fx = some (.yld id)) (hx : AsAVN g args.toList xs) (hl : Nat.beq xs.length ps.size = true)
  (hid : get h id = some (some (.loop sl ps asg body nt .ready none))) (hps : (ps.toList.all fun p => Nat.blt p nt) = true) {h2 : Heap} (e2 : KeepH h h2) (st : Heap → Heap) (nx' : Nat)
  (hR : ∀ (G : Gh) (F : Fence), Wd F → G.nt = nt → G.k0 = nx → WP P tb G F asg ⟨putPs ps.toList xs sl, h, nx, 0⟩ (AsgPost P tb G F id sl ps asg body nt nx true ((id, some (.loop sl ps asg body nt .ready none)) :: st h2) nx')) :
  EEv P tb g h nx (.call { callee := .value fx, args := args, argTypes := tys }) ty (.t (.b true)) ((id, some (.loop sl ps asg body nt .ready none)) :: st h2) nx' :=
 .callY _ _ _ _ _ _ _ _ _ _ _ _ _ _ hf hx (Nat.eq_of_beq_eq_true hl) hps hid fun G F h1 h2 h3 => hR G F h1 h2 h3
theorem ev_yF {g : Operand → Option AV} {fx : Operand} {args : Array Operand} {tys : Array TypeId} {ty : TypeId} {id nt : Nat} {ps : Array Tmp} {asg body : Code} {xs : List AV} (jump : Code) (hf : g fx = some (.yld id)) (hx : AsAVN g args.toList xs) (hl : Nat.beq xs.length ps.size = true)
  (hid : get h id = some (some (.loop sl ps asg body nt .ready none))) (hps : (ps.toList.all fun p => Nat.blt p nt) = true) {h2 : Heap} (e2 : KeepH h h2) (st : Heap → Heap) (nx' : Nat)
  (hR : ∀ (G : Gh) (F : Fence), Wd F → G.nt = nt → G.k0 = nx → WP P tb G F asg ⟨putPs ps.toList xs sl, h, nx, 0⟩ (AsgPost P tb G F id sl ps asg body nt nx false ((id, some (.loop sl ps asg body nt .done (some jump))) :: st h2) nx')) :
  EEv P tb g h nx (.call { callee := .value fx, args := args, argTypes := tys }) ty (.t (.b false)) ((id, some (.loop sl ps asg body nt .done (some jump))) :: st h2) nx' :=
 .callY _ _ _ _ _ _ _ _ _ _ _ _ _ _ hf hx (Nat.eq_of_beq_eq_true hl) hps hid fun G F h1 h2 h3 => hR G F h1 h2 h3
theorem fnP_M1 (hT : TabOk P tb) {f : FuncId} {fn : Func} {c : Code} {args : List Tr} {x : Tr} (hf : P.funcs[f]? = some fn) (hb : fn.body = some c) (hname : (fn.name == "runtime.NumGoroutine") = false) (hn : args.length ≤ fn.ntmps)
  (h : ∀ G, G.nt = fn.ntmps → G.k0 = 0 → WP P tb G Fence.wide c ⟨initSl 0 (args.map .t), [], 0, 0⟩ (EndsM tb fn.results.toList [x])) : FnP P tb f args x := fnP_M hT hf hb hname hn rfl h
theorem fnP_MT (hT : TabOk P tb) {f : FuncId} {fn : Func} {c : Code} {args xs : List Tr} (hf : P.funcs[f]? = some fn) (hb : fn.body = some c) (hname : (fn.name == "runtime.NumGoroutine") = false) (hn : args.length ≤ fn.ntmps) (hx : retT xs = .tu xs)
  (h : ∀ G, G.nt = fn.ntmps → G.k0 = 0 → WP P tb G Fence.wide c ⟨initSl 0 (args.map .t), [], 0, 0⟩ (EndsM tb fn.results.toList xs)) : FnP P tb f args (.tu xs) := fnP_M hT hf hb hname hn hx h
end
theorem olt_loop {n : Nat} {sl : Slots} {ps : Array Tmp} {asg body : Code} {nt : Nat} {st : LoopState} {pend : Option Code} (h : slLt n sl = true) : (Obj.loop sl ps asg body nt st pend).lt n := h
section
variable {P : Program} {tb : Tab} {K : Nat}
theorem imp_aw {s : Sta} (d : Nat) {e id nx1 n n' : Nat} {ts ts' : List Tr} {sl' : Slots} {h' : Heap} (h1 : get s.sl d = some (.own e id 0 n)) (h2 : get s.h id = some (some (.arr e (ts.map .t)))) (he : ts = ts') (hn : n = n') (g1 : GetAll s.sl sl') (g2 : GetAllH s.h h') (l1 : slLt nx1 sl' = true) (l2 : hLt nx1 h') (hK : Nat.ble K nx1 = true) (hid : Nat.ble nx1 id = true) :
  Imp K tb s ⟨(d, .own e nx1 0 n') :: sl', (nx1, some (.arr e (ts'.map .t))) :: h', nx1 + 1, s.df⟩ := by
 subst he hn
 have hK := Nat.le_of_ble_eq_true hK
 have hid := Nat.le_of_ble_eq_true hid
 intro G w a φ S hK0 hk0 hr
 obtain ⟨φ1, S1, hr1⟩ := imp_trim (K := K) (tb := tb) g1 g2 l1 l2 G w a φ S hK0 hK hr
 obtain ⟨b, j1, j2, j3, j4⟩ := hr.hr.hh id _ h2
 let φ' : Phi := fun i => if i = nx1 then some b else if i < nx1 then φ i else none
 have hsub : ∀ i b, trim φ nx1 i = some b → φ' i = some b := fun i b hb => by
  unfold trim at hb
  split at hb
  ·rename_i hi
   show (if i = nx1 then _ else if i < nx1 then φ i else none) = some b
   rw [if_neg (by omega), if_pos hi]; exact hb
  ·cases hb
 have hk : Keeps w w (trim φ nx1) φ' S S := ⟨fun _ _ => rfl, fun _ h => h, hsub, fun id b cs ty _ h => ⟨cs, h, rfl⟩⟩
 have hb' : φ' nx1 = some b := if_pos rfl
 have old : ∀ i c, i ≠ nx1 → φ' i = some c → i < nx1 ∧ φ i = some c := fun i c hi hc => by
  have hc : (if i = nx1 then some b else if i < nx1 then φ i else none) = some c := hc
  rw [if_neg hi] at hc
  split at hc
  ·rename_i hlt; exact ⟨hlt, hc⟩
  ·cases hc
 have hobj : RepO tb w φ' S b (.arr e (ts.map .t)) := by
  refine ⟨j4.1, fun i x hx => ?_⟩
  have hE := j4.2 i x hx
  rw [List.getElem?_map] at hx
  obtain ⟨y, _, hy2⟩ := Option.map_eq_some_iff.1 hx
  subst hy2
  cases hE with
  | t t q1 q2 => exact .t _ q1 q2
  | v v a q1 q2 => exact absurd rfl (q2 _)
 have hvis : ∀ i, i ≠ nx1 → Vis ((nx1, some (Obj.arr e (ts.map .t))) :: h') i → Vis h' i := fun i hi ⟨o, ho⟩ => ⟨o, by rw [get_cons, if_neg (fun e => hi e.symm)] at ho; exact ho⟩
 have clash : ∀ j, j ≠ nx1 → Vis ((nx1, some (Obj.arr e (ts.map .t))) :: h') j → φ' j = some b → False := fun j hj hv hc => by
  obtain ⟨o, ho⟩ := hvis j hj hv
  obtain ⟨q1, q2⟩ := old j b hj hc
  have := hr.hr.inj j id b ⟨_, g2.spec _ _ ho⟩ ⟨_, h2⟩ q2 j1
  omega
 refine ⟨φ', S, ⟨⟨fun i o ho => ?_, fun i j c hi hj q1 q2 => ?_, fun i hi => ?_, fun i c hc => ?_, fun i c hc => ?_, hr.hr.Slt, hr.hr.SS, hr.hr.Snew, hr.hr.frame⟩, fun d' v hv => ?_, hr.nt, hr.df, ?_, hr.nc⟩⟩
 ·have ho2 : (if nx1 = i then some (some (Obj.arr e (ts.map .t))) else get h' i) = some (some o) := (get_cons nx1 (some (Obj.arr e (ts.map .t))) h' i).symm.trans ho
  by_cases e' : nx1 = i
  ·subst e'
   rw [if_pos rfl] at ho2
   injection ho2 with ho2
   injection ho2 with ho2; subst ho2
   exact ⟨b, hb', j2, j3, hobj⟩
  ·rw [if_neg e'] at ho2
   clear ho
   have ho := ho2
   have hlt := (l2.spec i o ho).1
   obtain ⟨c, q1, q2, q3, q4⟩ := hr.hr.hh i o (g2.spec _ _ ho)
   have hc : φ' i = some c := by
    show (if i = nx1 then _ else if i < nx1 then φ i else none) = some c
    rw [if_neg (by omega), if_pos hlt]; exact q1
   have q5 : RepO tb w (trim φ nx1) S c o := q4.trim (l2.spec i o ho).2
   exact ⟨c, hc, q2, q3, q5.mono hk rfl⟩
 ·by_cases hi' : i = nx1 <;> by_cases hj' : j = nx1
  ·omega
  ·subst hi'
   rw [hb'] at q1; injection q1 with q1; subst q1
   exact (clash j hj' hj q2).elim
  ·subst hj'
   rw [hb'] at q2; injection q2 with q2; subst q2
   exact (clash i hi' hi q1).elim
  ·obtain ⟨o, ho⟩ := hvis i hi' hi
   obtain ⟨o', ho'⟩ := hvis j hj' hj
   exact hr.hr.inj i j c ⟨_, g2.spec _ _ ho⟩ ⟨_, g2.spec _ _ ho'⟩ (old i c hi' q1).2 (old j c hj' q2).2
 ·have hi : nx1 + 1 ≤ i := hi
  show (if i = nx1 then _ else if i < nx1 then φ i else none) = none
  rw [if_neg (by omega), if_neg (by omega)]
 ·by_cases hi : i = nx1
  ·subst hi; rw [hb'] at hc; injection hc with hc; subst hc; exact j2
  ·exact hr.hr.φlt i c (old i c hi hc).2
 ·by_cases hi : i = nx1
  ·subst hi; rw [hb'] at hc; injection hc with hc; subst hc; exact hr.hr.φX id _ j1
  ·exact hr.hr.φX i c (old i c hi hc).2
 ·have hv2 : (if d = d' then some (.own e nx1 0 n) else get sl' d') = some v := (get_cons d (.own e nx1 0 n) sl' d').symm.trans hv
  by_cases e' : d = d'
  ·subst e'
   rw [if_pos rfl] at hv2
   injection hv2 with hv2; subst hv2
   have := hr.sl d _ h1
   obtain ⟨b', c, cs, k1, k2, k3, k4, k5, k6⟩ := own_of this
   rw [j1] at k1; injection k1 with k1; subst k1
   rw [k2]
   exact .own e nx1 0 _ b c cs hb' k3 k4 k5 k6
  ·rw [if_neg e'] at hv2
   exact ((hr.sl d' v (g1.spec _ _ hv2)).trim (slLt.spec l1 d' v hv2)).mono hk
 ·have hk1 := hr1.kp.hφ
  exact ⟨hr.kp.hw, hr.kp.hS, fun i c hc => by
   have hlt : i < G.k0 := G.hφ0 i c hc
   rw [hK0] at hlt
   have := hr.kp.hφ i c hc
   show (if i = nx1 then _ else if i < nx1 then φ i else none) = some c
   rw [if_neg (by omega), if_pos (by omega)]; exact this, hr.kp.hz⟩
theorem imp_ap {s : Sta} (d : Nat) {e id nx1 : Nat} {ts ts' : List Tr} {sl' : Slots} {h' : Heap} (h1 : get s.sl d = some (ap e id ts)) (h2 : get s.h id = some (apO e ts)) (he : ts = ts') (g1 : GetAll s.sl sl') (g2 : GetAllH s.h h') (l1 : slLt nx1 sl' = true) (l2 : hLt nx1 h') (hK : Nat.ble K nx1 = true) (hid : Nat.ble nx1 id = true) :
  Imp K tb s ⟨(d, ap e nx1 ts') :: sl', (nx1, apO e ts') :: h', nx1 + 1, s.df⟩ := by
 subst he
 have hK := Nat.le_of_ble_eq_true hK
 have hid := Nat.le_of_ble_eq_true hid
 intro G w a φ S hK0 hk0 hr
 -- the rest, with fewer names
 obtain ⟨φ1, S1, hr1⟩ := imp_trim (K := K) (tb := tb) g1 g2 l1 l2 G w a φ S hK0 hK hr
 cases ts with
 | nil =>
  refine ⟨φ1, S1, ⟨(hr1.hr.sub (h' := (nx1, none) :: h') fun i o hi => ?_) |> fun x => ⟨x.hh, x.inj, fun i hi => x.fr i (Nat.le_of_succ_le hi), x.φlt, x.φX, x.Slt, x.SS, x.Snew, x.frame⟩, fun d' v hv => ?_, hr1.nt, hr1.df, hr1.kp, hr1.nc⟩⟩
  ·rw [get_cons] at hi
   split at hi
   ·injection hi with hi; cases hi
   ·exact hi
  ·have hv2 : (if d = d' then some AV.nilS else get sl' d') = some v := (get_cons d AV.nilS sl' d').symm.trans hv
   by_cases e' : d = d'
   ·subst e'
    rw [if_pos rfl] at hv2
    injection hv2 with hv2; subst hv2
    have := hr.sl d _ h1
    generalize a.tmps.getD d undef = u at this ⊢
    cases this with | nilS => exact .nilS
   ·rw [if_neg e'] at hv2; exact hr1.sl d' v hv2
 | cons t ts =>
  obtain ⟨b, j1, j2, j3, j4⟩ := hr.hr.hh id _ h2
  let φ' : Phi := fun i => if i = nx1 then some b else if i < nx1 then φ i else none
  have hsub : ∀ i b, trim φ nx1 i = some b → φ' i = some b := fun i b hb => by
   unfold trim at hb
   split at hb
   ·rename_i hi
    show (if i = nx1 then _ else if i < nx1 then φ i else none) = some b
    rw [if_neg (by omega), if_pos hi]; exact hb
   ·cases hb
  have hk : Keeps w w (trim φ nx1) φ' S S := ⟨fun _ _ => rfl, fun _ h => h, hsub, fun id b cs ty _ h => ⟨cs, h, rfl⟩⟩
  have hb' : φ' nx1 = some b := if_pos rfl
  have old : ∀ i c, i ≠ nx1 → φ' i = some c → i < nx1 ∧ φ i = some c := fun i c hi hc => by
   have hc : (if i = nx1 then some b else if i < nx1 then φ i else none) = some c := hc
   rw [if_neg hi] at hc
   split at hc
   ·rename_i hlt; exact ⟨hlt, hc⟩
   ·cases hc
  have hobj : RepO tb w φ' S b (.arr e ((t :: ts).map .t)) := by
   refine ⟨j4.1, fun i x hx => ?_⟩
   have hE := j4.2 i x hx
   rw [List.getElem?_map] at hx
   obtain ⟨y, _, hy2⟩ := Option.map_eq_some_iff.1 hx
   subst hy2
   cases hE with
   | t t q1 q2 => exact .t _ q1 q2
   | v v a q1 q2 => exact absurd rfl (q2 _)
  have hvis : ∀ i, i ≠ nx1 → Vis ((nx1, apO e (t :: ts)) :: h') i → Vis h' i := fun i hi ⟨o, ho⟩ => ⟨o, by rw [get_cons, if_neg (fun e => hi e.symm)] at ho; exact ho⟩
  have clash : ∀ j, j ≠ nx1 → Vis ((nx1, apO e (t :: ts)) :: h') j → φ' j = some b → False := fun j hj hv hc => by
   obtain ⟨o, ho⟩ := hvis j hj hv
   obtain ⟨q1, q2⟩ := old j b hj hc
   have := hr.hr.inj j id b ⟨_, g2.spec _ _ ho⟩ ⟨_, h2⟩ q2 j1
   omega
  refine ⟨φ', S, ⟨⟨fun i o ho => ?_, fun i j c hi hj q1 q2 => ?_, fun i hi => ?_, fun i c hc => ?_, fun i c hc => ?_, hr.hr.Slt, hr.hr.SS, hr.hr.Snew, hr.hr.frame⟩, fun d' v hv => ?_, hr.nt, hr.df, ?_, hr.nc⟩⟩
  ·have ho2 : (if nx1 = i then some (some (Obj.arr e ((t :: ts).map .t))) else get h' i) = some (some o) := (get_cons nx1 (apO e (t :: ts)) h' i).symm.trans ho
   by_cases e' : nx1 = i
   ·subst e'
    rw [if_pos rfl] at ho2
    injection ho2 with ho2
    injection ho2 with ho2; subst ho2
    exact ⟨b, hb', j2, j3, hobj⟩
   ·rw [if_neg e'] at ho2
    clear ho
    have ho := ho2
    have hlt := (l2.spec i o ho).1
    obtain ⟨c, q1, q2, q3, q4⟩ := hr.hr.hh i o (g2.spec _ _ ho)
    have hc : φ' i = some c := by
     show (if i = nx1 then _ else if i < nx1 then φ i else none) = some c
     rw [if_neg (by omega), if_pos hlt]; exact q1
    have q5 : RepO tb w (trim φ nx1) S c o := q4.trim (l2.spec i o ho).2
    exact ⟨c, hc, q2, q3, q5.mono hk rfl⟩
  ·by_cases hi' : i = nx1 <;> by_cases hj' : j = nx1
   ·omega
   ·subst hi'
    rw [hb'] at q1; injection q1 with q1; subst q1
    exact (clash j hj' hj q2).elim
   ·subst hj'
    rw [hb'] at q2; injection q2 with q2; subst q2
    exact (clash i hi' hi q1).elim
   ·obtain ⟨o, ho⟩ := hvis i hi' hi
    obtain ⟨o', ho'⟩ := hvis j hj' hj
    exact hr.hr.inj i j c ⟨_, g2.spec _ _ ho⟩ ⟨_, g2.spec _ _ ho'⟩ (old i c hi' q1).2 (old j c hj' q2).2
  ·have hi : nx1 + 1 ≤ i := hi
   show (if i = nx1 then _ else if i < nx1 then φ i else none) = none
   rw [if_neg (by omega), if_neg (by omega)]
  ·by_cases hi : i = nx1
   ·subst hi; rw [hb'] at hc; injection hc with hc; subst hc; exact j2
   ·exact hr.hr.φlt i c (old i c hi hc).2
  ·by_cases hi : i = nx1
   ·subst hi; rw [hb'] at hc; injection hc with hc; subst hc; exact hr.hr.φX id _ j1
   ·exact hr.hr.φX i c (old i c hi hc).2
  ·have hv2 : (if d = d' then some (ap e nx1 (t :: ts)) else get sl' d') = some v := (get_cons d (ap e nx1 (t :: ts)) sl' d').symm.trans hv
   by_cases e' : d = d'
   ·subst e'
    rw [if_pos rfl] at hv2
    injection hv2 with hv2; subst hv2
    have := hr.sl d _ h1
    obtain ⟨b', c, cs, k1, k2, k3, k4, k5, k6⟩ := own_of this
    rw [j1] at k1; injection k1 with k1; subst k1
    rw [k2]
    exact .own e nx1 0 _ b c cs hb' k3 k4 k5 k6
   ·rw [if_neg e'] at hv2
    exact ((hr.sl d' v (g1.spec _ _ hv2)).trim (slLt.spec l1 d' v hv2)).mono hk
  ·have hk1 := hr1.kp.hφ
   exact ⟨hr.kp.hw, hr.kp.hS, fun i c hc => by
    have hlt : i < G.k0 := G.hφ0 i c hc
    rw [hK0] at hlt
    have := hr.kp.hφ i c hc
    show (if i = nx1 then _ else if i < nx1 then φ i else none) = some c
    rw [if_neg (by omega), if_pos (by omega)]; exact this, hr.kp.hz⟩
theorem imp_ap0 {s : Sta} (d : Nat) {e nx1 : Nat} {ts' : List Tr} {sl' : Slots} {h' : Heap} (h1 : get s.sl d = some .nilS) (he : [] = ts') (g1 : GetAll s.sl sl') (g2 : GetAllH s.h h') (l1 : slLt nx1 sl' = true) (l2 : hLt nx1 h') (hK : Nat.ble K nx1 = true) :
  Imp K tb s ⟨(d, ap e nx1 ts') :: sl', (nx1, apO e ts') :: h', nx1 + 1, s.df⟩ := by
 subst he
 have hK := Nat.le_of_ble_eq_true hK
 intro G w a φ S hK0 hk0 hr
 obtain ⟨φ1, S1, hr1⟩ := imp_trim (K := K) (tb := tb) g1 g2 l1 l2 G w a φ S hK0 hK hr
 refine ⟨φ1, S1, ⟨(hr1.hr.sub (h' := (nx1, none) :: h') fun i o hi => ?_) |> fun x => ⟨x.hh, x.inj, fun i hi => x.fr i (Nat.le_of_succ_le hi), x.φlt, x.φX, x.Slt, x.SS, x.Snew, x.frame⟩, fun d' v hv => ?_, hr1.nt, hr1.df, hr1.kp, hr1.nc⟩⟩
 ·rw [get_cons] at hi
  split at hi
  ·injection hi with hi; cases hi
  ·exact hi
 ·have hv2 : (if d = d' then some AV.nilS else get sl' d') = some v := (get_cons d AV.nilS sl' d').symm.trans hv
  by_cases e' : d = d'
  ·subst e'
   rw [if_pos rfl] at hv2
   injection hv2 with hv2; subst hv2
   have := hr.sl d _ h1
   generalize a.tmps.getD d undef = u at this ⊢
   cases this with | nilS => exact .nilS
  ·rw [if_neg e'] at hv2; exact hr1.sl d' v hv2
theorem imp_apF {s : Sta} (d : Nat) {e id : Nat} {ts ts' : List Tr} (h1 : get s.sl d = some (ap e id ts)) (h2 : get s.h id = some (apO e ts)) (he : ts = ts') : Imp K tb s ⟨(d, .t (.sl e ts')) :: s.sl, (id, none) :: s.h, s.nx, s.df⟩ := by
 subst he
 cases ts with
 | cons t ts => exact imp_fz d (t :: ts) h1 h2 rfl rfl
 | nil =>
  intro G w a φ S _ _ hr
  refine ⟨φ, S, ⟨hr_kill hr.hr id, fun d' v hv => ?_, hr.nt, hr.df, hr.kp, hr.nc⟩⟩
  have hv2 : (if d = d' then some (AV.t (.sl e [])) else get s.sl d') = some v := (get_cons d _ s.sl d').symm.trans hv
  by_cases e' : d = d'
  ·subst e'
   rw [if_pos rfl] at hv2
   injection hv2 with hv2; subst hv2
   have := hr.sl d _ h1
   generalize a.tmps.getD d undef = u at this ⊢
   cases this with | nilS => exact .t _ _ (.emp _ _ _)
  ·rw [if_neg e'] at hv2; exact hr.sl d' v hv2
theorem appendW {g : Operand → Option AV} {h : Heap} {nx : Nat} {T : TypeId} {x y : Operand} {ty : TypeId} {ti tie : TI} {e id n : Nat} {ts us : List Tr} (h1 : get tb T = some ti) (h2 : ti.d = .slice e) (h3 : get tb e = some tie) (h4 : 0 < tie.sz) (h5 : 0 < tie.by_) (h6 : tie.zero.zeroOk = true) (h7 : tie.zero.cells.length = tie.sz) (h8 : g x = some (.own e id 0 n)) (h9 : get h id = some (some (.arr e (ts.map .t)))) (hn : n = ts.length) (h10 : AsTr g y (.sl e us)) (h11 : us.all Tr.flat = true) (hbg : (ts ++ us).length * tie.by_ ≤ 140737488355328) :
  EEv P tb g h nx (.call { callee := .builtin .append, args := #[x, y], argTypes := #[T, T] }) ty (.own e nx 0 (ts ++ us).length) ((nx, some (.arr e ((ts ++ us).map .t))) :: (id, none) :: h) (nx + 1) := by
 have := EEv.appendO (P := P) (nx := nx) T x y ty ti tie e id (ts.map .t) ts us n (ts ++ us).length h1 h2 h3 h4 h5 h6 h7 h8 h9 rfl (by rw [List.length_map]; exact hn.symm) h10 h11 (by rw [List.length_append]; omega) hbg
 rw [← List.map_append] at this
 exact this
theorem ap_nt {e id : Nat} {ts : List Tr} : (∀ t, ap e id ts ≠ .t t) ∧ ap e id ts ≠ .unk ∧ ∀ l, ap e id ts ≠ .tu l := by
 cases ts <;> exact ⟨(fun _ h => by cases h), (fun h => by cases h), (fun _ h => by cases h)⟩
end
def ScopeP (Q : Exit → Sta → Prop) : Exit → Sta → Prop := fun e s => match e with
 | .goto _ => False
 | e => Q e s
section
variable {P : Program} {tb : Tab} {G : Gh} {F : Fence} {s : Sta} {Q : Exit → Sta → Prop}
theorem wp_scope {c : Code} (h : WP P tb G F c s (ScopeP Q)) : WP P tb G F (.scope c) s Q := by
 intro n a w φ S hr b k cs hro hb hroom
 have s0 : step P (lone (b.atR a (.code (.scope c) :: k)) cs w) = .next (lone (b.atR a (.code c :: .inScope c :: k)) cs w) := step_lone_go (by simp [stepG, stepG.exec, Frame.atR])
 have s1 : ∀ a w, step P (lone (b.atR a (.inScope c :: k)) cs w) = .next (lone (b.atR a k) cs w) := fun a w => step_lone_go (by simp [stepG, stepG.exec, Frame.atR])
 have i0 : ∀ {x : World} {y : Act} {z : List Item}, (b.atR y z).about P x = none → (lone (b.atR y z) cs x).fenced P F := fun h => fenced_calm hb hroom h
 obtain ⟨e, a₁, w₁, hq, harr⟩ := h n a w φ S hr b (.inScope c :: k) cs hro hb hroom
 have hgo : ∀ e, (WPost tb G (ScopeP Q)) e a₁ w₁ → (∀ l, e ≠ .goto l) → WPost tb G Q e a₁ w₁ := fun e hq hne => by
  obtain ⟨s', φ', S', h1, h2⟩ := hq
  ·refine ⟨s', φ', S', h1, ?_⟩
   cases e with
   | goto l => exact absurd rfl (hne l)
   | _ => exact h2
 cases e with
 | normal => exact ⟨.normal, a₁, w₁, hgo _ hq (fun _ h => by cases h), .head (i0 rfl) s0 (StepsIn.trans harr (.one (i0 rfl) (s1 _ _)))⟩
 | exit id =>
  refine ⟨.exit id, a₁, w₁, hgo _ hq (fun _ h => by cases h), .of_steps (.one (i0 rfl) s0) ?_⟩
  exact ⟨fun k' hk => harr.1 k' hk, fun hr hk => harr.2 hr hk⟩
 | goto l =>
  obtain ⟨s', φ', S', h1, h2⟩ := hq
  ·exact h2.elim
 | ret => exact ⟨_, a₁, w₁, hgo _ hq (fun _ h => by cases h), .of_steps (.one (i0 rfl) s0) harr⟩
 | panic ch => exact ⟨_, a₁, w₁, hgo _ hq (fun _ h => by cases h), .of_steps (.one (i0 rfl) s0) harr⟩
 | outgrown => exact ⟨_, a₁, w₁, hgo _ hq (fun _ h => by cases h), .of_steps (.one (i0 rfl) s0) harr⟩
theorem scope_ret (h : Q .ret s) : ScopeP Q .ret s := h
end
section
variable {P : Program} {tb : Tab} {K : Nat}
theorem GetAllH.cons' {h h' : Heap} {c : Nat} {o : Option Obj} (h1 : get h c = some o) (g : GetAllH h h') : GetAllH h ((c, o) :: h') := ⟨h1, g⟩
theorem imp_apC {s : Sta} (c : Nat) {e e' id nx1 : Nat} {ts ts' : List Tr} {sl' : Slots} {h' : Heap} (h1 : get s.h c = some (some (.arr e' [ap e id ts]))) (h2 : get s.h id = some (apO e ts)) (he : ts = ts') (g1 : GetAll s.sl sl') (g2 : GetAllH s.h h') (l1 : slLt nx1 sl' = true) (l2 : hLt nx1 h') (hcl : Nat.blt c nx1 = true) (hK : Nat.ble K nx1 = true) (hid : Nat.ble nx1 id = true) :
  Imp K tb s ⟨sl', (nx1, apO e ts') :: (c, some (.arr e' [ap e nx1 ts'])) :: h', nx1 + 1, s.df⟩ := by
 subst he
 have hK := Nat.le_of_ble_eq_true hK
 have hid := Nat.le_of_ble_eq_true hid
 have hcl : c < nx1 := Nat.le_of_ble_eq_true hcl
 intro G w a φ S hK0 hk0 hr
 cases ts with
 | nil =>
  have hN : ∀ a ∈ [AV.nilS], AV.lt nx1 a = true := by intro a ha; simp at ha; subst ha; rfl
  have l3 : hLt nx1 ((c, some (.arr e' [AV.nilS])) :: h') := ⟨hcl, hN, l2⟩
  obtain ⟨φ1, S1, hr1⟩ := imp_trim (K := K) (tb := tb) (nx := nx1) g1 (GetAllH.cons' h1 g2) l1 l3 G w a φ S hK0 hK hr
  refine ⟨φ1, S1, ⟨(hr1.hr.sub (h' := (nx1, none) :: (c, some (.arr e' [AV.nilS])) :: h') fun i o hi => ?_) |> fun x => ⟨x.hh, x.inj, fun i hi => x.fr i (Nat.le_of_succ_le hi), x.φlt, x.φX, x.Slt, x.SS, x.Snew, x.frame⟩, hr1.sl, hr1.nt, hr1.df, hr1.kp, hr1.nc⟩⟩
  rw [get_cons] at hi
  split at hi
  ·injection hi with hi; cases hi
  ·exact hi
 | cons t ts =>
  obtain ⟨φ1, S1, hr1⟩ := imp_trim (K := K) (tb := tb) g1 g2 l1 l2 G w a φ S hK0 hK hr
  obtain ⟨b, j1, j2, j3, j4⟩ := hr.hr.hh id _ h2
  let φ' : Phi := fun i => if i = nx1 then some b else if i < nx1 then φ i else none
  have hsub : ∀ i b, trim φ nx1 i = some b → φ' i = some b := fun i b hb => by
   unfold trim at hb
   split at hb
   ·rename_i hi
    show (if i = nx1 then _ else if i < nx1 then φ i else none) = some b
    rw [if_neg (by omega), if_pos hi]; exact hb
   ·cases hb
  have hk : Keeps w w (trim φ nx1) φ' S S := ⟨fun _ _ => rfl, fun _ h => h, hsub, fun id b cs ty _ h => ⟨cs, h, rfl⟩⟩
  have hb' : φ' nx1 = some b := if_pos rfl
  have old : ∀ i c, i ≠ nx1 → φ' i = some c → i < nx1 ∧ φ i = some c := fun i c hi hc => by
   have hc : (if i = nx1 then some b else if i < nx1 then φ i else none) = some c := hc
   rw [if_neg hi] at hc
   split at hc
   ·rename_i hlt; exact ⟨hlt, hc⟩
   ·cases hc
  have hlow : ∀ i b, i < nx1 → φ i = some b → φ' i = some b := fun i b hi hb => by
   show (if i = nx1 then _ else if i < nx1 then φ i else none) = some b
   rw [if_neg (by omega), if_pos hi]; exact hb
  have hobj : RepO tb w φ' S b (.arr e ((t :: ts).map .t)) := by
   refine ⟨j4.1, fun i x hx => ?_⟩
   have hE := j4.2 i x hx
   rw [List.getElem?_map] at hx
   obtain ⟨y, _, hy2⟩ := Option.map_eq_some_iff.1 hx
   subst hy2
   cases hE with
   | t t q1 q2 => exact .t _ q1 q2
   | v v a q1 q2 => exact absurd rfl (q2 _)
  obtain ⟨bc, c1, c2, c3, c4⟩ := hr.hr.hh c _ h1
  have hcell : RepO tb w φ' S bc (.arr e' [ap e nx1 (t :: ts)]) := by
   refine ⟨c4.1, fun i x hx => ?_⟩
   cases i with
   | succ i => simp at hx
   | zero =>
    have hx : ap e nx1 (t :: ts) = x := by simpa using hx
    subst hx
    have hE := c4.2 0 (ap e id (t :: ts)) rfl
    generalize hq : ap e id (t :: ts) = q at hE
    cases hE with
    | t t' q1 q2 => cases hq
    | v v a q1 q2 q3 q4 =>
     subst hq
     obtain ⟨b', cc, cs, k1, k2, k3, k4, k5, k6⟩ := own_of q4
     rw [j1] at k1; injection k1 with k1; subst k1
     refine .v v _ q1 (fun _ h => by cases h) q3 ?_
     rw [k2]
     exact .own e nx1 0 _ b cc cs hb' k3 k4 k5 k6
  have hvis : ∀ i, i ≠ nx1 → Vis ((nx1, apO e (t :: ts)) :: (c, some (Obj.arr e' [ap e nx1 (t :: ts)])) :: h') i → Vis s.h i := fun i hi ⟨o, ho⟩ => by
   rw [get_cons, if_neg (fun e => hi e.symm), get_cons] at ho
   split at ho
   ·rename_i hci; subst hci; exact ⟨_, h1⟩
   ·exact ⟨o, g2.spec _ _ ho⟩
  have clash : ∀ j, j ≠ nx1 → Vis ((nx1, apO e (t :: ts)) :: (c, some (Obj.arr e' [ap e nx1 (t :: ts)])) :: h') j → φ' j = some b → False := fun j hj hv hc => by
   obtain ⟨q1, q2⟩ := old j b hj hc
   have := hr.hr.inj j id b (hvis j hj hv) ⟨_, h2⟩ q2 j1
   omega
  refine ⟨φ', S, ⟨⟨fun i o ho => ?_, fun i j c hi hj q1 q2 => ?_, fun i hi => ?_, fun i c hc => ?_, fun i c hc => ?_, hr.hr.Slt, hr.hr.SS, hr.hr.Snew, hr.hr.frame⟩, fun d' v hv => ?_, hr.nt, hr.df, ?_, hr.nc⟩⟩
  ·have ho2 : (if nx1 = i then some (some (Obj.arr e ((t :: ts).map .t))) else get ((c, some (Obj.arr e' [ap e nx1 (t :: ts)])) :: h') i) = some (some o) := (get_cons nx1 (some (Obj.arr e ((t :: ts).map .t))) _ i).symm.trans ho
   by_cases e1 : nx1 = i
   ·subst e1
    rw [if_pos rfl] at ho2
    injection ho2 with ho2
    injection ho2 with ho2; subst ho2
    exact ⟨b, hb', j2, j3, hobj⟩
   ·rw [if_neg e1, get_cons] at ho2
    by_cases e2 : c = i
    ·subst e2
     rw [if_pos rfl] at ho2
     injection ho2 with ho2
     injection ho2 with ho2; subst ho2
     exact ⟨bc, hlow _ _ hcl c1, c2, c3, hcell⟩
    ·rw [if_neg e2] at ho2
     clear ho
     have ho := ho2
     have hlt := (l2.spec i o ho).1
     obtain ⟨c, q1, q2, q3, q4⟩ := hr.hr.hh i o (g2.spec _ _ ho)
     have q5 : RepO tb w (trim φ nx1) S c o := q4.trim (l2.spec i o ho).2
     exact ⟨c, hlow _ _ hlt q1, q2, q3, q5.mono hk rfl⟩
  ·by_cases hi' : i = nx1 <;> by_cases hj' : j = nx1
   ·omega
   ·subst hi'
    rw [hb'] at q1; injection q1 with q1; subst q1
    exact (clash j hj' hj q2).elim
   ·subst hj'
    rw [hb'] at q2; injection q2 with q2; subst q2
    exact (clash i hi' hi q1).elim
   ·exact hr.hr.inj i j c (hvis i hi' hi) (hvis j hj' hj) (old i c hi' q1).2 (old j c hj' q2).2
  ·have hi : nx1 + 1 ≤ i := hi
   show (if i = nx1 then _ else if i < nx1 then φ i else none) = none
   rw [if_neg (by omega), if_neg (by omega)]
  ·by_cases hi : i = nx1
   ·subst hi; rw [hb'] at hc; injection hc with hc; subst hc; exact j2
   ·exact hr.hr.φlt i c (old i c hi hc).2
  ·by_cases hi : i = nx1
   ·subst hi; rw [hb'] at hc; injection hc with hc; subst hc; exact hr.hr.φX id _ j1
   ·exact hr.hr.φX i c (old i c hi hc).2
  ·exact ((hr.sl d' v (g1.spec _ _ hv)).trim (slLt.spec l1 d' v hv)).mono hk
  ·have hk1 := hr1.kp.hφ
   exact ⟨hr.kp.hw, hr.kp.hS, fun i c hc => by
    have hlt : i < G.k0 := G.hφ0 i c hc
    rw [hK0] at hlt
    have := hr.kp.hφ i c hc
    exact hlow i c (by omega) this, hr.kp.hz⟩
theorem imp_apC0 {s : Sta} (c : Nat) {e e' nx1 : Nat} {ts' : List Tr} {sl' : Slots} {h' : Heap} (h1 : get s.h c = some (some (.arr e' [.nilS]))) (he : [] = ts') (g1 : GetAll s.sl sl') (g2 : GetAllH s.h h') (l1 : slLt nx1 sl' = true) (l2 : hLt nx1 h') (hcl : Nat.blt c nx1 = true) (hK : Nat.ble K nx1 = true) :
  Imp K tb s ⟨sl', (nx1, apO e ts') :: (c, some (.arr e' [ap e nx1 ts'])) :: h', nx1 + 1, s.df⟩ := by
 subst he
 have hK := Nat.le_of_ble_eq_true hK
 have hcl : c < nx1 := Nat.le_of_ble_eq_true hcl
 intro G w a φ S hK0 hk0 hr
 have hN : ∀ a ∈ [AV.nilS], AV.lt nx1 a = true := by intro a ha; simp at ha; subst ha; rfl
 have l3 : hLt nx1 ((c, some (.arr e' [AV.nilS])) :: h') := ⟨hcl, hN, l2⟩
 obtain ⟨φ1, S1, hr1⟩ := imp_trim (K := K) (tb := tb) (nx := nx1) g1 (GetAllH.cons' h1 g2) l1 l3 G w a φ S hK0 hK hr
 refine ⟨φ1, S1, ⟨(hr1.hr.sub (h' := (nx1, none) :: (c, some (.arr e' [AV.nilS])) :: h') fun i o hi => ?_) |> fun x => ⟨x.hh, x.inj, fun i hi => x.fr i (Nat.le_of_succ_le hi), x.φlt, x.φX, x.Slt, x.SS, x.Snew, x.frame⟩, hr1.sl, hr1.nt, hr1.df, hr1.kp, hr1.nc⟩⟩
 rw [get_cons] at hi
 split at hi
 ·injection hi with hi; cases hi
 ·exact hi
theorem Imp.trans {s1 s2 s3 : Sta} (h : Imp K tb s1 s2) (k : Imp K tb s2 s3) (h2 : Nat.ble K s2.nx = true) : Imp K tb s1 s3 := fun G w a φ S h0 h1 hr => by
 obtain ⟨φ', S', hr'⟩ := h G w a φ S h0 (Nat.le_of_ble_eq_true h2) hr
 exact k G w a φ' S' h0 h1 hr'
theorem imp_sub {sl : Slots} {h h' : Heap} {nx df : Nat} (hg : ∀ i o, get h' i = some (some o) → get h i = some (some o)) : Imp K tb ⟨sl, h, nx, df⟩ ⟨sl, h', nx, df⟩ := fun G w a φ S _ _ hr =>
 ⟨φ, S, ⟨hr.hr.sub hg, hr.sl, hr.nt, hr.df, hr.kp, hr.nc⟩⟩
theorem imp_apCl {s : Sta} (c k : Nat) {o : Option Obj} {e e' id nx1 : Nat} {ts ts' : List Tr} {sl' : Slots} {h' : Heap} (h1 : get s.h c = some (some (.arr e' [ap e id ts]))) (h2 : get s.h id = some (apO e ts)) (he : ts = ts') (g1 : GetAll s.sl sl') (g2 : GetAllH s.h ((k, o) :: h')) (l1 : slLt nx1 sl' = true) (l2 : hLt nx1 ((k, o) :: h')) (hcl : Nat.blt c nx1 = true) (hkl : Nat.blt k nx1 = true) (hck : Nat.beq c k = false) (hK : Nat.ble K nx1 = true) (hid : Nat.ble nx1 id = true) :
  Imp K tb s ⟨sl', (k, o) :: (nx1, apO e ts') :: (c, some (.arr e' [ap e nx1 ts'])) :: h', nx1 + 1, s.df⟩ := by
 have hkl : k < nx1 := Nat.le_of_ble_eq_true hkl
 have hck : c ≠ k := fun e => by rw [e, Nat.beq_refl] at hck; cases hck
 have hK' := Nat.le_of_ble_eq_true hK
 refine Imp.trans (imp_apC c h1 h2 he g1 g2 l1 l2 hcl hK hid) (imp_sub fun i o' ho => ?_) (Nat.ble_eq_true_of_le (Nat.le_succ_of_le hK'))
 rw [get_cons] at ho
 rw [get_cons, get_cons, get_cons]
 by_cases e1 : k = i
 ·subst e1
  rw [if_pos rfl] at ho
  rw [if_neg (by omega), if_neg hck, if_pos rfl]; exact ho
 ·rw [if_neg e1, get_cons, get_cons] at ho
  rw [if_neg e1]; exact ho
end
end Go.Proofs.YtacenhlcfeepgaaGreat.Eng
