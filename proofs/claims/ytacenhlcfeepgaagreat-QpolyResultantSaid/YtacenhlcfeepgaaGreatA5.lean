/- The law is true whatever its arguments are, and these read behind the call as they read before (the row, part 5 of 9: our program logic, contracts of the functions, the law). No conditions. -/
import Derived.Test.YtacenhlcfeepgaaGreatA4
set_option linter.unusedVariables false
set_option linter.unusedSimpArgs false
set_option linter.unusedSectionVars false
set_option maxHeartbeats 4000000
set_option maxRecDepth 100000
namespace Go.Proofs.YtacenhlcfeepgaaGreat
open Go Eng
def rows {α : Type} (f : α → Tr) (l : List α) : List AV := (l.map f).map .t
theorem rows_map {α : Type} {f : α → Tr} {l : List α} : rows f l = (l.map f).map .t := rfl
theorem rows_len {α : Type} {f : α → Tr} {l : List α} : (rows f l).length = l.length := by simp [rows]
theorem qpoly_mappedH (n : Nat) (hn : n ≤ 2199023255552) (f : FuncId) (caps : List Tr) (g : Nat → Rat) (hf : ∀ i, i < n → FnP Tryz.prog tb f (.i .i64 i :: caps) (encQ (g i))) :
  FnH Tryz.prog tb F_qpoly_mapped_api_Rat [.t (.i .i64 n), .t (.fn f caps)] [] (.own T_Rat 0 0 n) [(0, some (.arr T_Rat (rows encQ ((List.range n).map g))))] 1 := by
 refine fnH_of tbOk Tryz.func83 rfl rfl (Nat.le_of_ble_eq_true rfl) fun G hG hK => ?_
 have hF : Wd Fence.wide := .inl rfl
 refine sx 15 ?_
 refine wp_l2 hK (krc 1 rfl (krc 5 rfl (krc 10 rfl krn))) khn (fun sl' h' (i : Nat) => ⟨(11, .t (.i .i64 (i))) :: sl', (0, some (.arr T_Rat ((List.range i).map (fun k => .t (encQ (g k))) ++ List.replicate (n - i) (.t (encQI 0 0))))) :: h', 1, 0⟩) (fun i => i ≤ n) (fun i => n - i) 0 ?_ (fun _ => rfl) ?_ ?_
 ·omega
 ·exact imp_less (by repeat' (first | exact trivial | (refine And.intro rfl ?_))) (by refine And.intro (geth rfl (by rw [Nat.sub_zero]; rfl)) trivial) (by exact Nat.le_of_ble_eq_true rfl)
 ·intro i hi
  refine sx 4 ?_
  refine wp_c rfl (fun hc => ?_) (fun hc => ?_)
  ·have hci : i < n := by simpa using hc
   refine sx 23 ?_
   exact round_n (i + 1) (by omega) (by omega) (by exact imp_less ga (by repeat' (first | exact trivial | (refine And.intro (by exact geth rfl (by rw [show 0 + ((i : Nat) : Int).toNat = i by omega]; exact set_fill (f := fun k => AV.t (encQ (g k))) hci)) ?_))) (by exact Nat.le_of_ble_eq_true rfl))
  ·obtain rfl : i = n := by have : ¬ i < n := by { simpa using hc }; omega
   refine sx 10 ?_
   exact ⟨.inr rfl, rfl, _, Imp.refl _ _, Nat.le_of_ble_eq_true rfl, Nat.le_of_ble_eq_true rfl, (by repeat' (first | exact trivial | (refine And.intro (by exact geth rfl (by simp [rows])) ?_))), (by exact .inr ⟨_, rfl, rfl⟩)⟩
theorem qpoly_mapped (n : Nat) (hn : n ≤ 2199023255552) (f : FuncId) (caps : List Tr) (g : Nat → Rat) (hf : ∀ i, i < n → FnP Tryz.prog tb f (.i .i64 i :: caps) (encQ (g i))) :
  FnP Tryz.prog tb F_qpoly_mapped_api_Rat [.i .i64 n, .fn f caps] (encQs ((List.range n).map g)) := by
 have := qpoly_mappedH n hn f caps g hf
 rw [rows_map] at this
 have h2 := fnP_own (args := [.i .i64 n, .fn f caps]) (l := ((List.range n).map g).map encQ) (by simpa using this)
 exact h2
section
variable {P : Program} {G : Gh} {F : Fence} {s : Sta} {c : Code} {Q : Exit → Sta → Prop}
theorem wp_ql (d : Nat) {l : List Rat} (hd : Eng.get s.sl d = some (.t (encQs l))) (h : l.length ≤ 2199023255552 → WP P tb G F c s Q) : WP P tb G F c s Q :=
 wp_bound d hd fun hb => h (by
  have hb : (l.map encQ).length * 64 ≤ 140737488355328 := hb
  rw [encQs_len] at hb; omega)
end
theorem qpoly_mappedZ (z : Int) (n : Nat) (hz : z = n) (hn : n ≤ 2199023255552) (f : FuncId) (caps : List Tr) (g : Nat → Rat) (hf : ∀ i, i < n → FnP Tryz.prog tb f (.i .i64 i :: caps) (encQ (g i))) :
  FnP Tryz.prog tb F_qpoly_mapped_api_Rat [.i .i64 z, .fn f caps] (encQs ((List.range n).map g)) := by subst hz; exact qpoly_mapped n hn f caps g hf
theorem cf_range {R : Type} [CRing R] (n : Nat) (f : Nat → R) (i : Nat) : cf ((List.range n).map f) i = if i < n then f i else 0 := by
 by_cases h : i < n
 ·simp [cf, h]
 ·simp [cf, h]
theorem encP_eq {p : Pol} {l : List Rat} (h : ∀ i, p.co i = cf l i) : encP p = encQs (trimZ l) := by
 rw [encP, ← p.can, trimZ_congr h]
theorem qpoly_Const (c : Rat) : FnP Tryz.prog tb F_qpoly_Const [encQ c] (encP (Poly.cst c)) := by
 refine fn1 Tryz.func23 fun G hG hK hF => ?_
 refine sx 7 ?_
 refine oq (.callR (yb := as1) (yc := qpoly_trimmed [c])) ?_
 refine sx 3 ?_
 exact ⟨.inr rfl, rfl, (by (refine res_t rfl ?_); (rfl)), trivial⟩
theorem cf_at {l : List Rat} {i : Nat} (h : i < l.length) : l[i]? = some (cf l i) := by rw [cf_lt h, List.getElem?_eq_getElem h]
theorem qpoly_Scale1 (l : List Rat) (c : Rat) (i : Nat) (hi : i < l.length) (hl : Bq 274877906944 (cf l i)) (hc : Bq 274877906944 c) : FnP Tryz.prog tb F_qpoly_Scale_c1 [.i .i64 i, .pt (encQs l), .pt (encQ c)] (encQ (cf l i * c)) := by
 refine fn1 Tryz.func84 fun G hG hK hF => ?_
 refine sx 9 ?_
 refine dq (.callR (yb := asc (.inl rfl) as1) (yc := rat_Mul _ _)) ?_
 refine sx 3 ?_
 exact ⟨.inr rfl, rfl, (by (refine res_c rfl rfl rfl rfl rfl ?_); (rfl)), trivial⟩
theorem qpoly_Scale (p : Pol) (c : Rat) (hp : PB 274877906944 p := by first | assumption | (apply PB.le; (focus (repeat' (first | assumption | apply PB.add | apply PB.sub | apply PB.neg | apply PB.monic | apply PB.scale | exact PB.zero | exact PB.one | apply PB.cst | exact Bq.zero | exact Bq.one))); omega)) (hc : Bq 274877906944 c := by first | assumption | (apply Bq.le; (focus (repeat' (first | assumption | apply Bq.mul | apply Bq.add | apply Bq.sub | apply Bq.neg | apply Bq.div | apply Bq.inv | exact Bq.zero | exact Bq.one | exact Bq.small (by omega)))); omega)) : FnP Tryz.prog tb F_qpoly_Scale [encP p, encQ c] (encP (Poly.cst c * p)) := by
 refine fn1 Tryz.func25 fun G hG hK hF => ?_
 refine wp_ql (l := p.c) 0 rfl fun hb => ?_
 refine sx 9 ?_
 refine oq (.callR (yb := asc (.inl rfl) as1) (yc := qpoly_mapped p.c.length (by omega) F_qpoly_Scale_c1 _ (fun i => cf p.c i * c) (fun i hi => qpoly_Scale1 p.c c i hi (hp.cf i) hc))) ?_
 refine sx 4 ?_
 exact ⟨.inr rfl, rfl, (by (refine res_t rfl ?_); (refine (encP_eq fun i => ?_).symm; rw [Poly.cst_mul, cf_range]; split; exact Rat.mul_comm _ _; rw [Poly.co_ge (by show p.c.length ≤ i; omega), Rat.mul_zero])), trivial⟩
theorem qpoly_Add1 (l m : List Rat) (i : Nat) (hi : (i : Int) < 9223372036854775808) (hl : Bq 274877906944 (cf l i)) (hm : Bq 274877906944 (cf m i)) : FnP Tryz.prog tb F_qpoly_Add_c1 [.i .i64 i, .pt (encQs l), .pt (encQs m)] (encQ (cf l i + cf m i)) := by
 refine fn1 Tryz.func86 fun G hG hK hF => ?_
 refine sx 10 ?_
 refine dq (.callR (yb := asc (.inl rfl) as1) (yc := rat_Add _ _)) ?_
 refine sx 3 ?_
 exact ⟨.inr rfl, rfl, (by (refine res_c rfl rfl rfl rfl rfl ?_); (rfl)), trivial⟩
theorem qpoly_Sub1 (l m : List Rat) (i : Nat) (hi : (i : Int) < 9223372036854775808) (hl : Bq 274877906944 (cf l i)) (hm : Bq 274877906944 (cf m i)) : FnP Tryz.prog tb F_qpoly_Sub_c1 [.i .i64 i, .pt (encQs l), .pt (encQs m)] (encQ (cf l i - cf m i)) := by
 refine fn1 Tryz.func89 fun G hG hK hF => ?_
 refine sx 10 ?_
 refine dq (.callR (yb := asc (.inl rfl) as1) (yc := rat_Sub _ _)) ?_
 refine sx 3 ?_
 exact ⟨.inr rfl, rfl, (by (refine res_c rfl rfl rfl rfl rfl ?_); (rfl)), trivial⟩
theorem qpoly_Add (p q : Pol) (hp : PB 274877906944 p := by first | assumption | (apply PB.le; (focus (repeat' (first | assumption | apply PB.add | apply PB.sub | apply PB.neg | apply PB.monic | apply PB.scale | exact PB.zero | exact PB.one | apply PB.cst | exact Bq.zero | exact Bq.one))); omega)) (hq : PB 274877906944 q := by first | assumption | (apply PB.le; (focus (repeat' (first | assumption | apply PB.add | apply PB.sub | apply PB.neg | apply PB.monic | apply PB.scale | exact PB.zero | exact PB.one | apply PB.cst | exact Bq.zero | exact Bq.one))); omega)) : FnP Tryz.prog tb F_qpoly_Add [encP p, encP q] (encP (p + q)) := by
 refine fn1 Tryz.func27 fun G hG hK hF => ?_
 refine wp_ql (l := p.c) 0 rfl fun hb => ?_
 refine wp_ql (l := q.c) 1 rfl fun hb2 => ?_
 refine sx 12 ?_
 refine oq (.callR (yb := asc (.inl rfl) as1) (yc := qpoly_mappedZ _ (max p.len q.len) (by simp only [Poly.len]; omega) (by simp only [Poly.len]; omega) F_qpoly_Add_c1 _ (fun i => cf p.c i + cf q.c i) (fun i hi => qpoly_Add1 p.c q.c i (by simp only [Poly.len] at hi; omega) (hp.cf i) (hq.cf i)))) ?_
 refine sx 4 ?_
 exact ⟨.inr rfl, rfl, (by (refine res_t rfl ?_); (refine (encP_eq fun i => ?_).symm; rw [Poly.co_add, cf_range]; split; rfl; rw [Poly.co_ge (p := p) (by omega), Poly.co_ge (p := q) (by omega), Rat.add_zero])), trivial⟩
theorem qpoly_Sub (p q : Pol) (hp : PB 274877906944 p := by first | assumption | (apply PB.le; (focus (repeat' (first | assumption | apply PB.add | apply PB.sub | apply PB.neg | apply PB.monic | apply PB.scale | exact PB.zero | exact PB.one | apply PB.cst | exact Bq.zero | exact Bq.one))); omega)) (hq : PB 274877906944 q := by first | assumption | (apply PB.le; (focus (repeat' (first | assumption | apply PB.add | apply PB.sub | apply PB.neg | apply PB.monic | apply PB.scale | exact PB.zero | exact PB.one | apply PB.cst | exact Bq.zero | exact Bq.one))); omega)) : FnP Tryz.prog tb F_qpoly_Sub [encP p, encP q] (encP (p - q)) := by
 refine fn1 Tryz.func29 fun G hG hK hF => ?_
 refine wp_ql (l := p.c) 0 rfl fun hb => ?_
 refine wp_ql (l := q.c) 1 rfl fun hb2 => ?_
 refine sx 12 ?_
 refine oq (.callR (yb := asc (.inl rfl) as1) (yc := qpoly_mappedZ _ (max p.len q.len) (by simp only [Poly.len]; omega) (by simp only [Poly.len]; omega) F_qpoly_Sub_c1 _ (fun i => cf p.c i - cf q.c i) (fun i hi => qpoly_Sub1 p.c q.c i (by simp only [Poly.len] at hi; omega) (hp.cf i) (hq.cf i)))) ?_
 refine sx 4 ?_
 exact ⟨.inr rfl, rfl, (by (refine res_t rfl ?_); (refine (encP_eq fun i => ?_).symm; rw [Poly.co_sub, cf_range]; split; rfl; rw [Poly.co_ge (p := p) (by omega), Poly.co_ge (p := q) (by omega), Rat.sub_self])), trivial⟩
theorem qpoly_LeadP (p : Pol) : FnP Tryz.prog tb F_qpoly_Lead [encP p] (encQ p.lead) := qpoly_Lead p.c
theorem qpoly_DegP (p : Pol) : FnP Tryz.prog tb F_qpoly_Deg [encP p] (.i .i64 (p.len - 1)) := qpoly_Deg p.c
theorem pol_nil {p : Pol} : p.c = [] ↔ p = 0 := by
 constructor
 ·intro h; exact Poly.eq_zero_of_len (by rw [Poly.len, h]; rfl)
 ·intro h
  have := Poly.len_zero (R := Rat)
  rw [← h] at this
  exact List.length_eq_zero_iff.1 this
theorem encP_0 : encP 0 = .sl T_Rat [] := by
 have := (pol_nil (p := 0)).2 rfl
 rw [encP, this]; rfl
theorem qpoly_Monic (p : Pol) (hp : PB 274877906900 p := by first | assumption | (apply PB.le; (focus (repeat' (first | assumption | apply PB.add | apply PB.sub | apply PB.neg | apply PB.monic | apply PB.scale | exact PB.zero | exact PB.one | apply PB.cst | exact Bq.zero | exact Bq.one))); omega)) : FnP Tryz.prog tb F_qpoly_Monic [encP p] (encP p.monic) := by
 refine fn1 Tryz.func37 fun G hG hK hF => ?_
 refine wp_ql (l := p.c) 0 rfl fun hb => ?_
 refine sx 9 ?_
 refine wp_c rfl (fun hc => ?_) (fun hc => ?_)
 ·have h0 : p = 0 := pol_nil.1 (List.length_eq_zero_iff.1 (bz hc))
  refine sx 5 ?_
  exact ⟨.inr rfl, rfl, (by (refine res_nl rfl ?_); (subst h0; rw [Poly.monic_zero, pol_nil.2 rfl]; rfl)), trivial⟩
 ·have h0 : p ≠ 0 := fun e => bnz hc (by rw [pol_nil.2 e]; rfl)
  refine sx 6 ?_
  refine oq (.callR (yb := asc (.inl rfl) as1) (yc := rat_Div _ _ (Poly.lead_ne h0) (Bq.one.le (by decide)) (hp.lead.le (by decide)))) ?_
  refine sx 10 ?_
  refine oq (.callR (yb := asc (.inl rfl) as1) (yc := qpoly_Scale p _ (hp.le (by decide)) ((Bq.one.div hp.lead).le (by decide)))) ?_
  refine sx 3 ?_
  exact ⟨.inr rfl, rfl, (by (refine res_t rfl ?_); (rfl)), trivial⟩
theorem qpoly_mappedHZ (z : Int) (n : Nat) (hz : z = n) (hn : n ≤ 2199023255552) (f : FuncId) (caps : List Tr) (g : Nat → Rat) (hf : ∀ i, i < n → FnP Tryz.prog tb f (.i .i64 i :: caps) (encQ (g i))) :
  FnH Tryz.prog tb F_qpoly_mapped_api_Rat [.t (.i .i64 z), .t (.fn f caps)] [] (.own T_Rat 0 0 n) [(0, some (.arr T_Rat (rows encQ ((List.range n).map g))))] 1 := by subst hz; exact qpoly_mappedH n hn f caps g hf
theorem qpoly_Mul1 (i : Nat) : FnP Tryz.prog tb F_qpoly_Mul_c1 [.i .i64 i] (encQ 0) := by
 refine fn1 Tryz.func91 fun G hG hK hF => ?_
 refine sx 8 ?_
 exact ⟨.inr rfl, rfl, (by (refine res_c rfl rfl rfl rfl rfl ?_); (rfl)), trivial⟩
theorem of_zeros (n : Nat) : Poly.of ((List.range n).map fun _ => (0 : Rat)) = 0 := Poly.ext fun i => by rw [Poly.co_of, cf_range, Poly.co_zero]; split <;> rfl
theorem rows_at {l : List Rat} {j i : Nat} (e : j = i) (h : i < l.length) : (rows encQ l)[j]? = some (.t (encQ (cf l i))) := by
 subst e; rw [rows, List.getElem?_map, List.getElem?_map, cf_at h]; rfl
theorem rows_set {l : List Rat} {j i : Nat} {v : Rat} (e : j = i) : (rows encQ l).set j (.t (encQ v)) = rows encQ (l.set i v) := by subst e; simp [rows, List.map_set]
theorem rows_idx {l : List Rat} {j i : Nat} (e : j = i) (h : i < l.length) : j < (rows encQ l).length := by rw [rows_len, e]; exact h
theorem encP_of {l : List Rat} {p : Pol} (h : Poly.of l = p) (hl : p.len = l.length) : encQs l = encP p := by
 subst h
 rw [encP, Poly.of_can (Poly.trim_of_len hl)]
theorem pmul_step {L : List Rat} {A q' : Pol} {x y : Rat} {i j : Nat} (hL : Poly.of L = A + Poly.mono x i * q') (hk : i + j < L.length) : Poly.of (L.set (i + j) (cf L (i + j) + x * y)) = A + Poly.mono x i * (q' + Poly.mono y j) := by
 rw [Poly.of_set hk, hL]
 have e : cf L (i + j) + x * y - cf L (i + j) = x * y := by grind
 rw [e, ← Poly.mono_mul]; grind
theorem bq_set {n : Nat} {L : List Rat} {i : Nat} {x : Rat} (h : ∀ k, Bq n (cf L k)) (hx : Bq n x) : ∀ k, Bq n (cf (L.set i x) k) := by
 intro k
 by_cases hi : i < L.length
 ·rw [Poly.cf_set hi]
  split
  ·exact hx
  ·exact h k
 ·rw [List.set_eq_of_length_le (by omega)]; exact h k
theorem bq_set' {n : Nat} {L : List Rat} {i j : Nat} {x : Rat} (h : ∀ k, j ≤ k → Bq n (cf L k)) (hi : i < L.length) (hj : i < j) : ∀ k, j ≤ k → Bq n (cf (L.set i x) k) := by
 intro k hk
 rw [Poly.cf_set hi, if_neg (by omega)]; exact h k hk
theorem mul_le {a b c n : Nat} (h : 1 + b * c ≤ n) (hab : a ≤ b) : 1 + a * c ≤ n := by
 have := Nat.mul_le_mul_right c hab
 omega
theorem qpoly_Mul (p q : Pol) {n m : Nat} (hp : PB n p) (hq : PB m q) (hs : 1 + p.len * (n + m + 1) ≤ 274877906944) (hll : p.len + q.len ≤ 2199023255552) : FnP Tryz.prog tb F_qpoly_Mul [encP p, encP q] (encP (p * q)) := by
 refine fn1 Tryz.func31 fun G hG hK hF => ?_
 simp only [Poly.len] at hll
 refine wp_ql (l := p.c) 0 rfl fun hb => ?_
 refine wp_ql (l := q.c) 1 rfl fun hb2 => ?_
 refine sx 4 ?_
 by_cases hp0 : p = 0
 ·refine sx 5 ?_
  refine gs (z := by subst hp0; rw [pol_nil.2 rfl]; rfl) ?_
  refine gs (z := by subst hp0; rw [pol_nil.2 rfl]; rfl) ?_
  refine gs (z := by subst hp0; rw [pol_nil.2 rfl]; rfl) ?_
  refine oq (.pickT rfl (by subst hp0; rw [pol_nil.2 rfl]; rfl) rfl) ?_
  refine sx 1 ?_
  refine wp_cT rfl (by rfl) ?_
  refine sx 5 ?_
  exact ⟨.inr rfl, rfl, (by (refine res_nl rfl ?_); (subst hp0; rw [Poly.zero_mul', pol_nil.2 rfl]; rfl)), trivial⟩
 ·refine sx 8 ?_
  refine oq (.pickF rfl (by have h := mt pol_nil.1 hp0; (simp [h]; done)) rfl) ?_
  refine sx 1 ?_
  refine wp_c rfl (fun hc => ?_) (fun hc => ?_)
  ·have hq0 : q = 0 := pol_nil.1 (List.length_eq_zero_iff.1 (bz hc))
   refine sx 5 ?_
   exact ⟨.inr rfl, rfl, (by (refine res_nl rfl ?_); (subst hq0; rw [Poly.mul_z, pol_nil.2 rfl]; rfl)), trivial⟩
  ·have hq0 : q ≠ 0 := fun e => bnz hc (by rw [pol_nil.2 e]; rfl)
   have hpl := Poly.len_pos hp0
   have hql := Poly.len_pos hq0
   have hml := (Poly.len_mul hp0 hq0).1
   simp only [Poly.len] at hpl hql hml
   refine sx 9 ?_
   refine oed (callh [] (qpoly_mappedHZ _ (p.c.length + q.c.length - 1) (by omega) (by omega) F_qpoly_Mul_c1 [] (fun _ => 0) (fun i _ => qpoly_Mul1 i)) (.inr ⟨_, rfl, rfl⟩) (hac rfl (hac rfl han)) rfl rfl rfl (by decide) oin olts_n rfl (outs_s rfl (by exact ren_t) outs_0) rfl rfl rfl) ?_
   refine sx 9 ?_
   refine wp_l2 hK (krc 1 rfl (krc 5 rfl (krc 25 rfl (krc 26 rfl krn)))) khn (fun sl' h' ((i, L) : Nat × List Rat) => ⟨(27, .t (.i .i64 (i))) :: sl', (0, some (.arr T_Rat (rows encQ L))) :: h', 1, 0⟩) (fun (i, L) => i ≤ p.c.length ∧ L.length = p.c.length + q.c.length - 1 ∧ Poly.of L = Poly.of (p.c.take i) * q ∧ ∀ k, Bq (1 + i * (n + m + 1)) (cf L k)) (fun (i, _) => p.c.length - i) (0, (List.range (p.c.length + q.c.length - 1)).map fun _ => 0) ?_ (fun _ => rfl) ?_ ?_
   ·exact ⟨Nat.zero_le _, by simp, by rw [of_zeros, Poly.of_take_zero, Poly.zero_mul'], fun k => by rw [cf_range]; split <;> exact Bq.zero.le (by omega)⟩
   ·exact il
   ·rintro ⟨i, L⟩ ⟨hi, hlen, hL, hB⟩
    refine sx 4 ?_
    refine wp_c rfl (fun hc => ?_) (fun hc => ?_)
    ·have hci : i < p.c.length := by simpa using hc
     refine sx 18 ?_
     refine wp_l2 hK (krc 1 rfl (krc 5 rfl (krc 6 rfl (krc 7 rfl (krc 25 rfl (krc 26 rfl (krc 27 rfl (krc 32 rfl (krc 33 rfl krn))))))))) (khc 1 rfl khn) (fun sl' h' ((j, L) : Nat × List Rat) => ⟨(34, .t (.i .i64 (j))) :: sl', (0, some (.arr T_Rat (rows encQ L))) :: h', 2, 0⟩) (fun (j, L) => j ≤ q.c.length ∧ L.length = p.c.length + q.c.length - 1 ∧ Poly.of L = Poly.of (p.c.take i) * q + Poly.mono (cf p.c i) i * Poly.of (q.c.take j) ∧ (∀ k, Bq (1 + (i + 1) * (n + m + 1)) (cf L k)) ∧ ∀ k, i + j ≤ k → Bq (1 + i * (n + m + 1)) (cf L k)) (fun (j, _) => q.c.length - j) (0, L) ?_ (fun _ => rfl) ?_ ?_
     ·exact ⟨Nat.zero_le _, hlen, by rw [hL, Poly.of_take_zero]; grind, fun k => (hB k).le (by rw [Nat.succ_mul]; omega), fun k _ => hB k⟩
     ·exact il
     ·rintro ⟨j, M⟩ ⟨hj, hlenM, hM, hMB, hMC⟩
      refine sx 4 ?_
      refine wp_c rfl (fun hc => ?_) (fun hc => ?_)
      ·have hcj : j < q.c.length := by simpa using hc
       have hb1 : Bq (1 + i * (n + m + 1)) (cf M (i + j)) := hMC _ (Nat.le_refl _)
       have hb1' := hb1.le (mul_le hs (show i ≤ p.len by simp only [Poly.len]; omega))
       have hb2 : Bq (n + m) (cf p.c i * cf q.c j) := (hp.cf i).mul (hq.cf j)
       have hb3 : Bq (1 + (i + 1) * (n + m + 1)) (cf M (i + j) + cf p.c i * cf q.c j) := (hb1.add hb2).le (by rw [Nat.succ_mul]; omega)
       have hs1 := mul_le hs (show 1 ≤ p.len by simp only [Poly.len]; omega)
       have hb4 : Bq 274877906944 (cf p.c i) := (hp.cf i).le (by omega)
       have hb5 : Bq 274877906944 (cf q.c j) := (hq.cf j).le (by omega)
       have hb6 : Bq 274877906944 (cf p.c i * cf q.c j) := hb2.le (by omega)
       refine sx 12 ?_
       by_cases ha : cf p.c i = 0
       ·refine sx 10 ?_
        refine wp_cF rfl (by simp [ha]) ?_
        refine sx 7 ?_
        exact round_n (j + 1, M) (by refine ⟨by omega, hlenM, ?_⟩; rw [hM, Poly.of_take_succ (cf_at hcj), ha, Poly.mono_0]; exact ⟨by grind, hMB, fun k hk => hMC k (by omega)⟩) (by (simp only; omega)) (by exact imp_trim ga ga rfl (by repeat' (first | exact trivial | refine ⟨Nat.le_of_ble_eq_true rfl, by first | exact olt_t | exact olt_l rfl, ?_⟩)))
       ·refine sx 10 ?_
        refine wp_c rfl (fun hc => ?_) (fun hc => ?_)
        ·refine sx 10 ?_
         refine dq (.loadPR (yd := by (exact rows_at (i := i + j) (by omega) (by omega)))) ?_
         refine sx 2 ?_
         refine dq (.callR (yb := asc (.inl rfl) as1) (yc := rat_Mul (cf p.c i) (cf q.c j) hb4 hb5)) ?_
         refine dq (.callR (yb := asc (.inl rfl) as1) (yc := rat_Add (cf M (i + j)) (cf p.c i * cf q.c j) hb1' hb6)) ?_
         refine sx 1 ?_
         refine wd_e rfl rfl rfl (.storeR (ye := by (exact rows_idx (i := i + j) (by omega) (by omega))) (yg := .inl rfl)) (by exact trivial) ?_
         refine sx 7 ?_
         exact round_n (j + 1, M.set (i + j) (cf M (i + j) + cf p.c i * cf q.c j)) (by refine ⟨by omega, by simpa using hlenM, ?_⟩; rw [Poly.of_take_succ (cf_at hcj)]; exact ⟨pmul_step hM (by omega), bq_set hMB hb3, bq_set' (fun k hk => hMC k (by omega)) (by omega) (by omega)⟩) (by (simp only; omega)) (by exact imp_trim ga (by repeat' (first | exact trivial | (refine And.intro (by first | rfl | exact geth rfl (rows_set (by omega))) ?_))) rfl (by repeat' (first | exact trivial | refine ⟨Nat.le_of_ble_eq_true rfl, by first | exact olt_t | exact olt_l rfl, ?_⟩)))
        ·have hb0 : cf q.c j = 0 := by simpa using hc
         refine sx 7 ?_
         exact round_n (j + 1, M) (by refine ⟨by omega, hlenM, ?_⟩; rw [hM, Poly.of_take_succ (cf_at hcj), hb0, Poly.mono_0]; exact ⟨by grind, hMB, fun k hk => hMC k (by omega)⟩) (by (simp only; omega)) (by exact imp_trim ga ga rfl (by repeat' (first | exact trivial | refine ⟨Nat.le_of_ble_eq_true rfl, by first | exact olt_t | exact olt_l rfl, ?_⟩)))
      ·obtain rfl : j = q.c.length := by { have : ¬ j < q.c.length := by { simpa using hc }; omega }
       refine sx 10 ?_
       exact round_n (i + 1, M) (by refine ⟨by omega, hlenM, ?_⟩; rw [hM, Poly.of_take_succ (cf_at hci), List.take_of_length_le (Nat.le_refl _), Poly.of_c]; exact ⟨by grind, hMB⟩) (by (simp only; omega)) (by exact imp_trim ga ga rfl (by repeat' (first | exact trivial | refine ⟨Nat.le_of_ble_eq_true rfl, by exact olt_t, ?_⟩)))
    ·obtain rfl : i = p.c.length := by { have : ¬ i < p.c.length := by { simpa using hc }; omega }
     refine sx 5 ?_
     refine wp_imp hK (imp_fz 5 (L.map encQ) rfl rfl rows_map (by rw [List.length_map, hlen])) ?_
     refine sx 5 ?_
     exact ⟨.inr rfl, rfl, (by (refine res_t rfl ?_); (rw [List.take_of_length_le (Nat.le_refl _), Poly.of_c] at hL; exact encP_of hL (by show (p * q).c.length = _; rw [hml, hlen]))), trivial⟩
theorem qpoly_Div1 (l : List Rat) (i : Nat) (hi : i < l.length) : FnP Tryz.prog tb F_qpoly_Div_c1 [.i .i64 i, .pt (encQs l)] (encQ (cf l i)) := by
 refine fn1 Tryz.func93 fun G hG hK hF => ?_
 refine sx 11 ?_
 exact ⟨.inr rfl, rfl, (by (refine res_c rfl rfl rfl rfl rfl ?_); (rfl)), trivial⟩
theorem qpoly_Div2 (l : List Rat) (i : Nat) (hi : i < l.length) : FnP Tryz.prog tb F_qpoly_Div_c2 [.i .i64 i, .pt (encQs l)] (encQ (cf l i)) := by
 refine fn1 Tryz.func94 fun G hG hK hF => ?_
 refine sx 11 ?_
 exact ⟨.inr rfl, rfl, (by (refine res_c rfl rfl rfl rfl rfl ?_); (rfl)), trivial⟩
theorem qpoly_Div3 (i : Nat) : FnP Tryz.prog tb F_qpoly_Div_c3 [.i .i64 i] (encQ 0) := by
 refine fn1 Tryz.func95 fun G hG hK hF => ?_
 refine sx 8 ?_
 exact ⟨.inr rfl, rfl, (by (refine res_c rfl rfl rfl rfl rfl ?_); (rfl)), trivial⟩
theorem range_cf (l : List Rat) : (List.range l.length).map (fun i => cf l i) = l := by
 refine List.ext_getElem (by simp) fun i h1 h2 => ?_
 rw [List.getElem_map, List.getElem_range, cf_lt (by simpa using h1)]
theorem qpoly_DivZ (p : Pol) : FnP Tryz.prog tb F_qpoly_Div [encP p, .sl T_Rat []] (.tu [.sl T_Rat [], .sl T_Rat [], .i .i64 5]) := by
 refine fnP_T tbOk Tryz.func33 rfl rfl (Nat.le_of_ble_eq_true rfl) rfl fun G hG hK => ?_
 have hF : Wd Fence.wide := .inl rfl
 refine sx 12 ?_
 refine wp_cT rfl (by rfl) ?_
 refine sx 7 ?_
 exact ⟨.inr rfl, rfl, (by (refine res_nl rfl ?_); (rfl)), (by (refine res_nl rfl ?_); (rfl)), (by (refine res_t rfl ?_); (rfl)), trivial⟩
theorem div_step {Q M : List Rat} {p q : Pol} {c : Rat} {k : Nat} (h : Poly.of Q * q + Poly.of M = p) (hk : k < Q.length) (hz : cf Q k = 0) : Poly.of (Q.set k c) * q + (Poly.of M - Poly.mono c k * q) = p := by
 rw [Poly.of_set hk, hz]
 have : c - 0 = c := by grind
 rw [this]; grind
theorem sub_step {L : List Rat} {A q' : Pol} {x y : Rat} {i j : Nat} (hL : Poly.of L = A - Poly.mono x i * q') (hk : i + j < L.length) : Poly.of (L.set (i + j) (cf L (i + j) - x * y)) = A - Poly.mono x i * (q' + Poly.mono y j) := by
 rw [Poly.of_set hk, hL]
 have e : cf L (i + j) - x * y - cf L (i + j) = -(x * y) := by grind
 have e2 : Poly.mono (-(x * y)) (i + j) = - (Poly.mono x i * Poly.mono y j) := by
  rw [Poly.mono_mul]; exact Poly.ext fun k => by rw [Poly.co_neg, Poly.co_mono, Poly.co_mono]; split <;> grind
 rw [e, e2]; grind
theorem div_top {M : List Rat} {q : Pol} {k j : Nat} (hq : q ≠ 0) (hz : ∀ j, k + 1 + (q.len - 1) ≤ j → cf M j = 0) (hj : k + (q.len - 1) ≤ j) : (Poly.of M - Poly.mono (cf M (k + (q.len - 1)) / q.lead) k * q).co j = 0 := by
 have hl := Poly.len_pos hq
 rw [Poly.co_sub, Poly.co_mono_mul, Poly.co_of, if_neg (by omega)]
 by_cases e : j = k + (q.len - 1)
 ·subst e
  have h1 : q.co (k + (q.len - 1) - k) = q.lead := by rw [Poly.lead]; congr 1; omega
  have h2 := Poly.lead_ne hq
  rw [h1]; grind
 ·rw [hz j (by omega), Poly.co_ge (p := q) (by omega)]; grind
theorem qpoly_Div (p q : Pol) (hq : q ≠ 0) {n m : Nat} (hpB : CDB n p) (hqB : CDB m q) (hs : n + (p.len + 1 - q.len) * (m + 1) + m ≤ 137438953000) : FnP Tryz.prog tb F_qpoly_Div [encP p, encP q] (.tu [encP (p / q), encP (p % q), .i .i64 0]) := by
 have hql := Poly.len_pos hq
 refine fnP_T tbOk Tryz.func33 rfl rfl (Nat.le_of_ble_eq_true rfl) rfl fun G hG hK => ?_
 have hF : Wd Fence.wide := .inl rfl
 refine wp_ql (l := p.c) 0 rfl fun hb => ?_
 refine wp_ql (l := q.c) 1 rfl fun hb2 => ?_
 have hql2 : 0 < q.c.length := hql
 refine sx 12 ?_
 refine wp_cF rfl (by (have := mt pol_nil.1 hq; simp [this])) ?_
 refine sx 10 ?_
 refine wp_c rfl (fun hc => ?_) (fun hc => ?_)
 ·have hlt : p.c.length < q.c.length := by simpa using hc
  have hm := Poly.mod_of_lt (p := p) hq hlt
  refine sx 4 ?_
  refine oq (.callR (yb := asc (.inl rfl) as1) (yc := qpoly_mapped p.c.length (by omega) F_qpoly_Div_c1 _ (fun i => cf p.c i) (fun i hi => qpoly_Div1 p.c i hi))) ?_
  refine sx 6 ?_
  exact ⟨.inr rfl, rfl, (by (refine res_nl rfl ?_); (rw [hm.2, pol_nil.2 rfl]; rfl)), (by (refine res_t rfl ?_); (rw [range_cf, hm.1]; rfl)), (by (refine res_t rfl ?_); (rfl)), trivial⟩
 ·have hle : q.c.length ≤ p.c.length := by simpa using hc
  refine sx 6 ?_
  refine oed (callh [] (qpoly_mappedHZ _ p.c.length rfl (by omega) F_qpoly_Div_c2 [.pt (encP p)] (fun i => cf p.c i) (fun i hi => qpoly_Div2 p.c i hi)) (.inr ⟨_, rfl, rfl⟩) (hac rfl (hac rfl han)) rfl rfl rfl (by decide) oin olts_n rfl (outs_s rfl (by exact ren_t) outs_0) rfl rfl rfl) ?_
  refine sx 9 ?_
  refine oed (callh [] (qpoly_mappedHZ _ (p.c.length - q.c.length + 1) (by omega) (by omega) F_qpoly_Div_c3 [] (fun _ => 0) (fun i _ => qpoly_Div3 i)) (.inr ⟨_, rfl, rfl⟩) (hac rfl (hac rfl han)) rfl rfl rfl (by decide) oin olts_n rfl (outs_s rfl (by exact ren_t) outs_0) rfl rfl rfl) ?_
  refine sx 10 ?_
  refine wp_l2 hK (krc 1 rfl (krc 4 rfl (krc 5 rfl krn))) khn (fun sl' h' ((k, Q, M) : Nat × List Rat × List Rat) => ⟨(7, .t (.i .i64 ((k : Int) - 1))) :: sl', (0, some (.arr T_Rat (rows encQ M))) :: (1, some (.arr T_Rat (rows encQ Q))) :: h', 2, 0⟩) (fun (k, Q, M) => k ≤ p.c.length - q.c.length + 1 ∧ Q.length = p.c.length - q.c.length + 1 ∧ M.length = p.c.length ∧ Poly.of Q * q + Poly.of M = p ∧ (∀ j, j < k → cf Q j = 0) ∧ (∀ j, k + (q.len - 1) ≤ j → cf M j = 0) ∧ CDB (n + (p.c.length - q.c.length + 1 - k) * (m + 1)) (Poly.of M)) (fun (k, _) => k) (p.c.length - q.c.length + 1, (List.range (p.c.length - q.c.length + 1)).map (fun _ => 0), (List.range p.c.length).map (fun i => cf p.c i)) ?_ (fun _ => rfl) ?_ ?_
  ·refine ⟨Nat.le_refl _, by simp, by simp, ?_, fun j hj => ?_, fun j hj => ?_, by rw [range_cf, Poly.of_c]; exact hpB.le (Nat.le_add_right _ _)⟩; rw [of_zeros, range_cf, Poly.of_c]; grind; rw [cf_range, if_pos hj]; rw [range_cf]; exact cf_ge (by have : q.len = q.c.length := rfl; omega)
  ·exact il
  ·rintro ⟨k, Q, M⟩ ⟨hk, hQl, hMl, hp, hQ0, hM0, hMB⟩
   refine sx 5 ?_
   refine wp_c rfl (fun hc => ?_) (fun hc => ?_)
   ·obtain ⟨k, rfl⟩ : ∃ j, k = j + 1 := ⟨k - 1, by simp at hc; omega⟩
    have hqc : q.len = q.c.length := rfl
    have e : ((k + 1 : Nat) : Int) - 1 = (k : Int) := by omega
    rw [e]
    have hKK : p.len + 1 - q.len = p.c.length - q.c.length + 1 := by simp only [Poly.len]; omega
    rw [hKK] at hs
    have hnn := Nat.mul_le_mul_right (m + 1) (show p.c.length - q.c.length + 1 - (k + 1) ≤ p.c.length - q.c.length + 1 by omega)
    have hst := hMB.step hqB hq (k + (q.len - 1)) k
    have hc1 := hMB.pb.co (k + (q.len - 1))
    have hMc : ∀ i, Bq (n + (p.c.length - q.c.length + 1 - (k + 1)) * (m + 1)) (cf M i) := fun i => by have := hMB.pb.co i; rw [Poly.co_of] at this; exact this
    rw [Poly.co_of] at hst hc1
    have hq1 := hc1.div hqB.pb.lead
    have hql16 := hqB.pb.lead.le (show m ≤ 274877906943 by omega)
    have hml16 := hc1.le (show _ ≤ 274877906943 by omega)
    have hcq16 := hq1.le (show _ ≤ 274877906944 by omega)
    refine sx 12 ?_
    refine dq (.loadPR (yd := by (exact rows_at (i := k + (q.len - 1)) (by omega) (by omega)))) ?_
    refine sx 1 ?_
    refine dq (.callR (yb := as1) (yc := qpoly_LeadP q)) ?_
    refine dq (.callR (yb := asc (.inl rfl) as1) (yc := rat_Div _ _ (Poly.lead_ne hq) hml16 hql16)) ?_
    refine sx 12 ?_
    refine oe (.storeR (ye := by (exact rows_idx (i := k) (by omega) (by omega))) (yg := .inl rfl)) ?_
    refine sx 7 ?_
    refine wp_l2 hK (krc 1 rfl (krc 4 rfl (krc 5 rfl (krc 7 rfl (krc 8 rfl (krc 60 rfl (krc 61 rfl krn))))))) (khc 2 rfl khn) (fun sl' h' ((j, N) : Nat × List Rat) => ⟨(62, .t (.i .i64 (j))) :: sl', (0, some (.arr T_Rat (rows encQ N))) :: (1, some (.arr T_Rat (rows encQ (Q.set k (cf M (k + (q.len - 1)) / q.lead))))) :: h', 3, 0⟩) (fun (j, N) => j ≤ q.c.length ∧ N.length = p.c.length ∧ Poly.of N = Poly.of M - Poly.mono (cf M (k + (q.len - 1)) / q.lead) k * Poly.of (q.c.take j) ∧ ∀ i, k + j ≤ i → cf N i = cf M i) (fun (j, _) => q.c.length - j) (0, M) ?_ (fun _ => rfl) ?_ ?_
    ·exact ⟨Nat.zero_le _, hMl, by rw [Poly.of_take_zero]; grind, fun _ _ => rfl⟩
    ·exact imp_less ga (by repeat' (first | exact trivial | (refine And.intro (by first | rfl | exact geth rfl (rows_set (by omega))) ?_))) (by exact Nat.le_of_ble_eq_true rfl)
    ·rintro ⟨j, N⟩ ⟨hj, hNl, hN, hNM⟩
     refine sx 4 ?_
     refine wp_c rfl (fun hc => ?_) (fun hc => ?_)
     ·have hcj : j < q.c.length := by simpa using hc
      have hqj := (hqB.pb.cf j)
      have hqj16 := hqj.le (show m ≤ 274877906944 by omega)
      have hpr := (hq1.mul hqj).le (show _ ≤ 274877906944 by omega)
      have hNk : Bq 274877906944 (cf N (k + j)) := by rw [hNM _ (Nat.le_refl _)]; exact (hMc (k + j)).le (by omega)
      refine sx 22 ?_
      refine dq (.loadPR (yd := by (exact rows_at (i := k + j) (by omega) (by omega)))) ?_
      refine sx 2 ?_
      refine dq (.callR (yb := asc (.inl rfl) as1) (yc := rat_Mul (cf M (k + (q.len - 1)) / q.lead) (cf q.c j) hcq16 hqj16)) ?_
      refine dq (.callR (yb := asc (.inl rfl) as1) (yc := rat_Sub (cf N (k + j)) _ hNk hpr)) ?_
      refine sx 1 ?_
      refine wd_e rfl rfl rfl (.storeR (ye := by (exact rows_idx (i := k + j) (by omega) (by omega))) (yg := .inl rfl)) (by exact trivial) ?_
      refine sx 7 ?_
      exact round_n (j + 1, N.set (k + j) (cf N (k + j) - cf M (k + (q.len - 1)) / q.lead * cf q.c j)) (by refine ⟨by omega, by simpa using hNl, ?_⟩; rw [Poly.of_take_succ (cf_at hcj)]; exact ⟨sub_step hN (by omega), fun i hi => by rw [Poly.cf_set (by omega), if_neg (by omega)]; exact hNM i (by omega)⟩) (by (simp only; omega)) (by exact imp_trim ga (by repeat' (first | exact trivial | (refine And.intro (by first | rfl | exact geth rfl (rows_set (by omega))) ?_))) rfl (by repeat' (first | exact trivial | refine ⟨Nat.le_of_ble_eq_true rfl, by first | exact olt_t | exact olt_l rfl, ?_⟩)))
     ·obtain rfl : j = q.c.length := by { have : ¬ j < q.c.length := by { simpa using hc }; omega }
      refine sx 11 ?_
      exact round_n (k, Q.set k (cf M (k + (q.len - 1)) / q.lead), N) (by rw [List.take_of_length_le (Nat.le_refl _), Poly.of_c] at hN; refine ⟨by omega, by simpa using hQl, hNl, ?_, fun j hj => ?_, fun j hj => ?_, by rw [hN]; refine hst.le ?_; rw [show p.c.length - q.c.length + 1 - k = p.c.length - q.c.length + 1 - (k + 1) + 1 by omega, Nat.succ_mul]; omega⟩; rw [hN]; exact div_step hp (by omega) (hQ0 k (by omega)); rw [Poly.cf_set (by omega), if_neg (by omega)]; exact hQ0 j (by omega); rw [← Poly.co_of, hN]; exact div_top hq hM0 (by omega)) (by (simp only; omega)) (by exact imp_trim ga ga rfl (by repeat' (first | exact trivial | refine ⟨Nat.le_of_ble_eq_true rfl, by exact olt_t, ?_⟩)))
   ·obtain rfl : k = 0 := by simp at hc; omega
    refine sx 5 ?_
    have hlq : q.len = q.c.length := rfl
    have hdl := Poly.div_len (p := p) hq hle
    have hrl : (Poly.of M).len < q.len := Nat.lt_of_le_of_lt (Poly.len_le (n := q.len - 1) fun i hi => by rw [Poly.co_of]; exact hM0 i (by omega)) (by omega)
    obtain ⟨u1, u2⟩ := Poly.div_unique hq hp.symm hrl
    refine wp_imp hK (imp_fz 4 (Q.map encQ) rfl rfl rows_map (by rw [List.length_map, hQl])) ?_
    refine wp_imp hK (imp_fz 5 (M.map encQ) rfl rfl rows_map (by rw [List.length_map, hMl])) ?_
    refine sx 7 ?_
    refine oq (.callR (yb := as1) (yc := (show FnP Tryz.prog tb F_qpoly_trimmed [.sl T_Rat (((M.map encQ).take ((q.c.length : Int) - 1).toNat).drop (0 : Int).toNat)] (encQs (trimZ (M.take (q.len - 1)))) from by have h := qpoly_trimmed (M.take (q.len - 1)); rw [show ((q.c.length : Int) - 1).toNat = q.len - 1 by omega]; simpa [encQs] using h))) ?_
    refine sx 5 ?_
    exact ⟨.inr rfl, rfl, (by (refine res_t rfl ?_); (exact encP_of u1 (by rw [hQl]; exact hdl))), (by (refine res_t rfl ?_); (rw [trimZ_take fun i hi => hM0 i (by omega), ← u2]; rfl)), (by (refine res_t rfl ?_); (rfl)), trivial⟩
theorem imp_nil {K : Nat} {s : Sta} (d e : Nat) (h : Eng.get s.sl d = some .nilS) : Imp K tb s ⟨(d, .t (.sl e [])) :: s.sl, s.h, s.nx, s.df⟩ := by
 intro G w a φ S _ _ hr
 refine ⟨φ, S, ⟨hr.hr, fun d' v hv => ?_, hr.nt, hr.df, hr.kp, hr.nc⟩⟩
 have hv2 : (if d = d' then some (AV.t (.sl e [])) else Eng.get s.sl d') = some v := (get_cons d _ s.sl d').symm.trans hv
 by_cases e' : d = d'
 ·subst e'
  rw [if_pos rfl] at hv2
  injection hv2 with hv2; subst hv2
  have := hr.sl d _ h
  generalize a.tmps.getD d undef = u at this ⊢
  cases this with | nilS => exact .t _ _ (.emp _ _ _)
 ·rw [if_neg e'] at hv2; exact hr.sl d' v hv2
theorem drop_cf {l : List Rat} {k : Nat} (h : k < l.length) : l.drop k = cf l k :: l.drop (k + 1) := by rw [List.drop_eq_getElem_cons h, cf_lt h]
theorem qpoly_Eval (p : Pol) (x : Rat) {n m : Nat} (hp : PB n p) (hx : Bq m x) (hs : 1 + p.len * (n + m + 2) ≤ 274877906944) : FnP Tryz.prog tb F_qpoly_Eval [encP p, encQ x] (encQ (p.eval x)) := by
 refine fn1 Tryz.func42 fun G hG hK hF => ?_
 refine wp_ql (l := p.c) 0 rfl fun hb => ?_
 refine sx 17 ?_
 refine wp_l2 hK (krc 0 rfl (krc 3 rfl (krc 4 rfl (krc 5 rfl krn)))) (khc 0 rfl khn) (fun sl' h' ((k, o) : Nat × Rat) => ⟨(6, .t (.i .i64 ((k : Int) - 1))) :: sl', (1, some (.arr T_Rat [.t (encQ o)])) :: h', 2, 0⟩) (fun (k, o) => k ≤ p.c.length ∧ o = Poly.evalL (p.c.drop k) x ∧ Bq (1 + (p.c.length - k) * (n + m + 2)) o) (fun (k, _) => k) (p.c.length, 0) ?_ (fun _ => rfl) ?_ ?_
 ·exact ⟨Nat.le_refl _, by rw [List.drop_length]; rfl, Bq.zero.le (by omega)⟩
 ·exact il
 ·rintro ⟨k, o⟩ ⟨hk, ho, hB⟩
  refine sx 5 ?_
  refine wp_c rfl (fun hc => ?_) (fun hc => ?_)
  ·obtain ⟨k, rfl⟩ : ∃ j, k = j + 1 := ⟨k - 1, by simp at hc; omega⟩
   have e : ((k + 1 : Nat) : Int) - 1 = (k : Int) := by omega
   rw [e]
   have hnn := mul_le hs (show p.c.length - (k + 1) + 1 ≤ p.len by simp only [Poly.len]; omega)
   rw [Nat.succ_mul] at hnn
   have hb1 : Bq 274877906944 o := hB.le (by omega)
   have hb2 : Bq 274877906944 x := hx.le (by omega)
   have hb3 : Bq 274877906944 (o * x) := (hB.mul hx).le (by omega)
   have hb4 : Bq 274877906944 (cf p.c k) := (hp.cf k).le (by omega)
   have hb5 := ((hB.mul hx).add (hp.cf k))
   refine sx 7 ?_
   refine dq (.callR (yb := asc (.inl rfl) as1) (yc := rat_Mul o x hb1 hb2)) ?_
   refine sx 4 ?_
   refine dq (.callR (yb := asc (.inl rfl) as1) (yc := rat_Add (o * x) _ hb3 hb4)) ?_
   refine sx 9 ?_
   exact round_n (k, o * x + cf p.c k) (by refine ⟨by omega, ?_⟩; rw [drop_cf (by omega), Poly.evalL, ← ho]; exact ⟨by grind, hb5.le (by rw [show p.c.length - k = p.c.length - (k + 1) + 1 by omega, Nat.succ_mul]; omega)⟩) (by (simp only; omega)) (by exact il)
  ·obtain rfl : k = 0 := by simp at hc; omega
   refine sx 10 ?_
   exact ⟨.inr rfl, rfl, (by (refine res_c rfl rfl rfl rfl rfl ?_); (rw [ho]; rfl)), trivial⟩
theorem nc_rat (n : Nat) : (Poly.nc n : Rat) = (n : Rat) := by
 induction n with
 | zero => rfl
 | succ n ih => rw [Poly.nc_succ, ih]; grind
theorem qpoly_Deriv1 (l : List Rat) (i : Nat) (hi : i + 1 < l.length) (hb : l.length ≤ 2199023255552) (hB : Bq 274877906944 (cf l (i + 1))) : FnP Tryz.prog tb F_qpoly_Deriv_c1 [.i .i64 i, .pt (encQs l)] (encQ (((i + 1 : Nat) : Rat) * cf l (i + 1))) := by
 refine fn1 Tryz.func101 fun G hG hK hF => ?_
 refine sx 6 ?_
 refine dq (.callR (yb := as1) (yc := qpoly_whole ((i : Int) + 1) (by omega) (by omega))) ?_
 refine sx 3 ?_
 refine dq (.indexAddrR (yf := by omega) (yg := by exact encQs_atn (i := i + 1) rfl (cf_at hi))) ?_
 refine sx 1 ?_
 refine dq (.callR (yb := asc (.inl rfl) as1) (yc := rat_Mul ((((i : Int) + 1 : Int) : Rat)) (cf l (i + 1)) ((Bq.small (by omega)).le (by decide)) hB)) ?_
 refine sx 3 ?_
 exact ⟨.inr rfl, rfl, (by (refine res_c rfl rfl rfl rfl rfl ?_); (rfl)), trivial⟩
theorem qpoly_Deriv (p : Pol) (hp : PB 274877906944 p := by first | assumption | (apply PB.le; (focus (repeat' (first | assumption | apply PB.add | apply PB.sub | apply PB.neg | apply PB.monic | apply PB.scale | exact PB.zero | exact PB.one | apply PB.cst | exact Bq.zero | exact Bq.one))); omega)) : FnP Tryz.prog tb F_qpoly_Deriv [encP p] (encP p.deriv) := by
 refine fn1 Tryz.func44 fun G hG hK hF => ?_
 refine wp_ql (l := p.c) 0 rfl fun hb => ?_
 refine sx 10 ?_
 refine wp_c rfl (fun hc => ?_) (fun hc => ?_)
 ·have h0 : p = 0 := pol_nil.1 (List.length_eq_zero_iff.1 (bz hc))
  refine sx 5 ?_
  exact ⟨.inr rfl, rfl, (by (refine res_nl rfl ?_); (subst h0; rw [Poly.deriv_zero, pol_nil.2 rfl]; rfl)), trivial⟩
 ·have h0 : p.c.length ≠ 0 := bnz hc
  refine sx 7 ?_
  refine oq (.callR (yb := asc (.inl rfl) as1) (yc := qpoly_mappedZ _ (p.c.length - 1) (by omega) (by omega) F_qpoly_Deriv_c1 _ (fun i => ((i + 1 : Nat) : Rat) * cf p.c (i + 1)) (fun i hi => qpoly_Deriv1 p.c i (by omega) hb (hp.cf _)))) ?_
  refine sx 4 ?_
  exact ⟨.inr rfl, rfl, (by (refine res_t rfl ?_); (refine (encP_eq fun i => ?_).symm; rw [Poly.co_deriv, cf_range, nc_rat]; split; rfl; rw [Poly.co_ge (by show p.c.length ≤ i + 1; omega), Rat.mul_zero])), trivial⟩
theorem qpoly_Integral1 (l : List Rat) (i : Nat) (hi : i < l.length + 1) (hb : l.length ≤ 2199023255552) (hB : Bq 274877906943 (cf l (i - 1))) : FnP Tryz.prog tb F_qpoly_Integral_c1 [.i .i64 i, .pt (encQs l)] (encQ (if i = 0 then 0 else cf l (i - 1) / (i : Rat))) := by
 refine fn1 Tryz.func102 fun G hG hK hF => ?_
 refine sx 8 ?_
 refine wp_c rfl (fun hc => ?_) (fun hc => ?_)
 ·have h0 : i = 0 := bz hc
  refine sx 6 ?_
  exact ⟨.inr rfl, rfl, (by (refine res_c rfl rfl rfl rfl rfl ?_); (rw [if_pos h0]; rfl)), trivial⟩
 ·have h0 : i ≠ 0 := bnz hc
  have hne : ((i : Int) : Rat) ≠ 0 := fun e => h0 (by have := congrArg Rat.num e; rw [Rat.num_intCast] at this; simpa using this)
  refine sx 6 ?_
  refine dq (.indexAddrR (yf := by omega) (yg := by exact encQs_atn (i := i - 1) (by omega) (cf_at (by omega)))) ?_
  refine sx 2 ?_
  refine dq (.callR (yb := as1) (yc := qpoly_whole (i : Int) (by omega) (by omega))) ?_
  refine dq (.callR (yb := asc (.inl rfl) as1) (yc := rat_Div _ _ hne hB ((Bq.small (z := (i : Int)) (by omega)).le (by decide)))) ?_
  refine sx 12 ?_
  exact ⟨.inr rfl, rfl, (by (refine res_c rfl rfl rfl rfl rfl ?_); (rw [if_neg h0]; rfl)), trivial⟩
theorem integ_len {p : Pol} (h : p ≠ 0) : (Poly.integ p).len = p.len + 1 := by
 have hl := Poly.len_pos h
 refine Poly.len_eq (fun i hi => ?_) ?_
 ·rw [Poly.integ, Poly.co_of, cf_range, if_neg (by omega)]
 ·rw [Poly.integ, Poly.co_of, cf_range, if_pos (by omega), if_neg (by omega)]
  have h1 := Poly.lead_ne h
  have h2 : p.co (p.len - 1) = p.lead := rfl
  rw [h2]
  have hne : ((p.len : Nat) : Rat) ≠ 0 := fun e => by
   have := congrArg Rat.num e
   rw [Rat.num_natCast] at this
   have : (p.len : Int) = 0 := this
   omega
  grind
theorem qpoly_Integral (p : Pol) (hll : p.len < 2199023255552) (hp : PB 274877906943 p := by first | assumption | (apply PB.le; (focus (repeat' (first | assumption | apply PB.add | apply PB.sub | apply PB.neg | apply PB.monic | apply PB.scale | exact PB.zero | exact PB.one | apply PB.cst | exact Bq.zero | exact Bq.one))); omega)) : FnP Tryz.prog tb F_qpoly_Integral [encP p] (encP (Poly.integ p)) := by
 refine fn1 Tryz.func46 fun G hG hK hF => ?_
 refine wp_ql (l := p.c) 0 rfl fun hb => ?_
 refine sx 10 ?_
 refine wp_c rfl (fun hc => ?_) (fun hc => ?_)
 ·have h0 : p = 0 := pol_nil.1 (List.length_eq_zero_iff.1 (bz hc))
  refine sx 5 ?_
  exact ⟨.inr rfl, rfl, (by (refine res_nl rfl ?_); (subst h0; rw [show Poly.integ 0 = 0 from by rw [Poly.integ, Poly.len_zero]; decide +kernel, pol_nil.2 rfl]; rfl)), trivial⟩
 ·have h0 : p ≠ 0 := fun e => bnz hc (by rw [pol_nil.2 e]; rfl)
  refine sx 7 ?_
  refine oq (.callR (yb := asc (.inl rfl) as1) (yc := qpoly_mappedZ _ (p.c.length + 1) (by omega) (by simp only [Poly.len] at hll; omega) F_qpoly_Integral_c1 _ (fun i => if i = 0 then 0 else cf p.c (i - 1) / (i : Rat)) (fun i hi => qpoly_Integral1 p.c i hi hb (hp.cf _)))) ?_
  refine sx 3 ?_
  exact ⟨.inr rfl, rfl, (by (refine res_t rfl ?_); (exact encP_of rfl (by rw [integ_len h0]; simp [Poly.len]))), trivial⟩
theorem qpoly_Compose (p q : Pol) (hok : p.len ≤ 1 ∨ q.len ≤ 1 ∨ p.len - 1 ≤ 4000 / (q.len - 1)) {n m L : Nat} (hpB : PB n p) (hqB : CDB m q) (hL : p.len * q.len + 1 ≤ L) (hs : 1 + L * (p.len * (m + n + L + 2) + 2 * m + 2) ≤ 274877906944) : FnP Tryz.prog tb F_qpoly_Compose [encP p, encP q] (.tu [encP (p.comp q), .i .i64 0]) := by
 have hpl : p.len = p.c.length := rfl
 have hql : q.len = q.c.length := rfl
 refine fnP_T tbOk Tryz.func40 rfl rfl (Nat.le_of_ble_eq_true rfl) rfl fun G hG hK => ?_
 have hF : Wd Fence.wide := .inl rfl
 refine wp_ql (l := p.c) 0 rfl fun hb => ?_
 refine wp_ql (l := q.c) 1 rfl fun hb2 => ?_
 refine sx 5 ?_
 rcases (show p.len ≤ 1 ∨ (1 < p.len ∧ q.len ≤ 1) ∨ (1 < p.len ∧ 1 < q.len ∧ p.len - 1 ≤ 4000 / (q.len - 1)) by omega) with h1 | ⟨h1, h2⟩ | ⟨h1, h2, h3⟩
 ·refine sx 18 ?_
  refine wp_cF rfl (by rfl) ?_
  refine sx 13 ?_
  refine wp_imp hK (imp_nil 6 T_Rat rfl) ?_
  refine wp_l2 hK (krc 0 rfl (krc 1 rfl krn)) khn (fun sl' h' ((k, o) : Nat × Pol) => ⟨(6, .t (encP o)) :: (7, .t (.i .i64 ((k : Int) - 1))) :: sl', h', 0, 0⟩) (fun (k, o) => k ≤ p.c.length ∧ o = Poly.compL (p.c.drop k) q) (fun (k, _) => k) (p.c.length, 0) ?_ (fun _ => rfl) ?_ ?_
  ·exact ⟨Nat.le_refl _, by rw [List.drop_length]; rfl⟩
  ·exact il
  ·rintro ⟨k, o⟩ ⟨hk, ho⟩
   refine sx 5 ?_
   refine wp_c rfl (fun hc => ?_) (fun hc => ?_)
   ·obtain ⟨k, rfl⟩ : ∃ j, k = j + 1 := ⟨k - 1, by simp at hc; omega⟩
    have e : ((k + 1 : Nat) : Int) - 1 = (k : Int) := by omega
    rw [e]
    have hdl : (p.c.drop (k + 1)).length = p.c.length - (k + 1) := by rw [List.length_drop]
    have hmm := Nat.mul_le_mul_right q.len (show p.c.length - (k + 1) ≤ p.len by omega)
    obtain ⟨u1, u2⟩ := CDB.compL hqB (l := p.c.drop (k + 1)) (n := n) (L := L) (fun a ha => by obtain ⟨j, hj, rfl⟩ := List.mem_iff_getElem.1 (List.mem_of_mem_drop ha); have := hpB.co j; rw [show p.co j = p.c[j] from cf_lt hj] at this; exact this) (by rw [hdl]; omega)
    rw [← ho, hdl] at u1 u2
    have hm3 := Nat.mul_le_mul_right (m + n + L + 2) (show p.c.length - (k + 1) + 1 ≤ p.len by omega)
    rw [Nat.succ_mul] at hm3
    have hm4 := Nat.mul_le_mul (show 1 ≤ L by omega) (Nat.le_refl (p.len * (m + n + L + 2) + 2 * m + 2))
    have hm5 := Nat.mul_le_mul (show o.len ≤ L by omega) (show (p.c.length - (k + 1)) * (m + n + L + 2) + 1 + m + 1 ≤ p.len * (m + n + L + 2) + 2 * m + 2 by omega)
    have hcm := (u1.mul hqB).pb.le (show _ ≤ 274877906944 by omega)
    have hcc : PB 274877906944 (Poly.cst (cf p.c k)) := (PB.cst (hpB.cf k)).le (by omega)
    have hm6 := Nat.mul_le_mul (show 1 ≤ p.len by omega) (Nat.le_refl q.len)
    have hm7 : L ≤ 274877906944 := by have := Nat.mul_le_mul (Nat.le_refl L) (show 1 ≤ p.len * (m + n + L + 2) + 2 * m + 2 by omega); omega
    refine sx 23 ?_
    exact round_n (k, o * q + Poly.cst (cf p.c k)) (by refine ⟨by omega, ?_⟩; rw [drop_cf (by omega), Poly.compL, ← ho]) (by (simp only; omega)) (by exact il)
   ·obtain rfl : k = 0 := by simp at hc; omega
    refine sx 11 ?_
    exact ⟨.inr rfl, rfl, (by (refine res_t rfl ?_); (rw [ho]; rfl)), (by (refine res_t rfl ?_); (rfl)), trivial⟩
 ·refine sx 18 ?_
  refine wp_cF rfl (by rfl) ?_
  refine sx 13 ?_
  refine wp_imp hK (imp_nil 6 T_Rat rfl) ?_
  refine wp_l2 hK (krc 0 rfl (krc 1 rfl krn)) khn (fun sl' h' ((k, o) : Nat × Pol) => ⟨(6, .t (encP o)) :: (7, .t (.i .i64 ((k : Int) - 1))) :: sl', h', 0, 0⟩) (fun (k, o) => k ≤ p.c.length ∧ o = Poly.compL (p.c.drop k) q) (fun (k, _) => k) (p.c.length, 0) ?_ (fun _ => rfl) ?_ ?_
  ·exact ⟨Nat.le_refl _, by rw [List.drop_length]; rfl⟩
  ·exact il
  ·rintro ⟨k, o⟩ ⟨hk, ho⟩
   refine sx 5 ?_
   refine wp_c rfl (fun hc => ?_) (fun hc => ?_)
   ·obtain ⟨k, rfl⟩ : ∃ j, k = j + 1 := ⟨k - 1, by simp at hc; omega⟩
    have e : ((k + 1 : Nat) : Int) - 1 = (k : Int) := by omega
    rw [e]
    have hdl : (p.c.drop (k + 1)).length = p.c.length - (k + 1) := by rw [List.length_drop]
    have hmm := Nat.mul_le_mul_right q.len (show p.c.length - (k + 1) ≤ p.len by omega)
    obtain ⟨u1, u2⟩ := CDB.compL hqB (l := p.c.drop (k + 1)) (n := n) (L := L) (fun a ha => by obtain ⟨j, hj, rfl⟩ := List.mem_iff_getElem.1 (List.mem_of_mem_drop ha); have := hpB.co j; rw [show p.co j = p.c[j] from cf_lt hj] at this; exact this) (by rw [hdl]; omega)
    rw [← ho, hdl] at u1 u2
    have hm3 := Nat.mul_le_mul_right (m + n + L + 2) (show p.c.length - (k + 1) + 1 ≤ p.len by omega)
    rw [Nat.succ_mul] at hm3
    have hm4 := Nat.mul_le_mul (show 1 ≤ L by omega) (Nat.le_refl (p.len * (m + n + L + 2) + 2 * m + 2))
    have hm5 := Nat.mul_le_mul (show o.len ≤ L by omega) (show (p.c.length - (k + 1)) * (m + n + L + 2) + 1 + m + 1 ≤ p.len * (m + n + L + 2) + 2 * m + 2 by omega)
    have hcm := (u1.mul hqB).pb.le (show _ ≤ 274877906944 by omega)
    have hcc : PB 274877906944 (Poly.cst (cf p.c k)) := (PB.cst (hpB.cf k)).le (by omega)
    have hm6 := Nat.mul_le_mul (show 1 ≤ p.len by omega) (Nat.le_refl q.len)
    have hm7 : L ≤ 274877906944 := by have := Nat.mul_le_mul (Nat.le_refl L) (show 1 ≤ p.len * (m + n + L + 2) + 2 * m + 2 by omega); omega
    refine sx 23 ?_
    exact round_n (k, o * q + Poly.cst (cf p.c k)) (by refine ⟨by omega, ?_⟩; rw [drop_cf (by omega), Poly.compL, ← ho]) (by (simp only; omega)) (by exact il)
   ·obtain rfl : k = 0 := by simp at hc; omega
    refine sx 11 ?_
    exact ⟨.inr rfl, rfl, (by (refine res_t rfl ?_); (rw [ho]; rfl)), (by (refine res_t rfl ?_); (rfl)), trivial⟩
 ·refine sx 14 ?_
  refine gq (z := by (simp; omega)) (.quoR (yc := by omega) (yd := by exact (congrArg (fun x : Int => IntKind.i64.wrap ((4000 : Int).tdiv x)) (by omega : ((q.c.length : Int) - 1) = ((q.len - 1 : Nat) : Int))).trans ((congrArg IntKind.i64.wrap (Int.ofNat_tdiv 4000 (q.len - 1)).symm).trans (wrap_i64 (by have := Nat.div_le_self 4000 (q.len - 1); omega))))) ?_
  refine sx 3 ?_
  refine wp_cF rfl (by refine decide_eq_false ?_; generalize 4000 / (q.len - 1) = t at *; omega) ?_
  refine sx 13 ?_
  refine wp_imp hK (imp_nil 6 T_Rat rfl) ?_
  refine wp_l2 hK (krc 0 rfl (krc 1 rfl krn)) khn (fun sl' h' ((k, o) : Nat × Pol) => ⟨(6, .t (encP o)) :: (7, .t (.i .i64 ((k : Int) - 1))) :: sl', h', 0, 0⟩) (fun (k, o) => k ≤ p.c.length ∧ o = Poly.compL (p.c.drop k) q) (fun (k, _) => k) (p.c.length, 0) ?_ (fun _ => rfl) ?_ ?_
  ·exact ⟨Nat.le_refl _, by rw [List.drop_length]; rfl⟩
  ·exact il
  ·rintro ⟨k, o⟩ ⟨hk, ho⟩
   refine sx 5 ?_
   refine wp_c rfl (fun hc => ?_) (fun hc => ?_)
   ·obtain ⟨k, rfl⟩ : ∃ j, k = j + 1 := ⟨k - 1, by simp at hc; omega⟩
    have e : ((k + 1 : Nat) : Int) - 1 = (k : Int) := by omega
    rw [e]
    have hdl : (p.c.drop (k + 1)).length = p.c.length - (k + 1) := by rw [List.length_drop]
    have hmm := Nat.mul_le_mul_right q.len (show p.c.length - (k + 1) ≤ p.len by omega)
    obtain ⟨u1, u2⟩ := CDB.compL hqB (l := p.c.drop (k + 1)) (n := n) (L := L) (fun a ha => by obtain ⟨j, hj, rfl⟩ := List.mem_iff_getElem.1 (List.mem_of_mem_drop ha); have := hpB.co j; rw [show p.co j = p.c[j] from cf_lt hj] at this; exact this) (by rw [hdl]; omega)
    rw [← ho, hdl] at u1 u2
    have hm3 := Nat.mul_le_mul_right (m + n + L + 2) (show p.c.length - (k + 1) + 1 ≤ p.len by omega)
    rw [Nat.succ_mul] at hm3
    have hm4 := Nat.mul_le_mul (show 1 ≤ L by omega) (Nat.le_refl (p.len * (m + n + L + 2) + 2 * m + 2))
    have hm5 := Nat.mul_le_mul (show o.len ≤ L by omega) (show (p.c.length - (k + 1)) * (m + n + L + 2) + 1 + m + 1 ≤ p.len * (m + n + L + 2) + 2 * m + 2 by omega)
    have hcm := (u1.mul hqB).pb.le (show _ ≤ 274877906944 by omega)
    have hcc : PB 274877906944 (Poly.cst (cf p.c k)) := (PB.cst (hpB.cf k)).le (by omega)
    have hm6 := Nat.mul_le_mul (show 1 ≤ p.len by omega) (Nat.le_refl q.len)
    have hm7 : L ≤ 274877906944 := by have := Nat.mul_le_mul (Nat.le_refl L) (show 1 ≤ p.len * (m + n + L + 2) + 2 * m + 2 by omega); omega
    refine sx 23 ?_
    exact round_n (k, o * q + Poly.cst (cf p.c k)) (by refine ⟨by omega, ?_⟩; rw [drop_cf (by omega), Poly.compL, ← ho]) (by (simp only; omega)) (by exact il)
   ·obtain rfl : k = 0 := by simp at hc; omega
    refine sx 11 ?_
    exact ⟨.inr rfl, rfl, (by (refine res_t rfl ?_); (rw [ho]; rfl)), (by (refine res_t rfl ?_); (rfl)), trivial⟩
theorem pow_zero_pol (n : Nat) (h : n ≠ 0) : (0 : Pol) ^ n = 0 := by
 obtain ⟨k, rfl⟩ := Nat.exists_eq_succ_of_ne_zero h
 rw [Poly.pow_s]; grind
def powR (p : Pol) (n : Int) : Pol × Int := if n < 0 then (0, 1) else if 0 < p.len ∧ 4000 / p.len < n.toNat then (0, 2) else (p ^ n.toNat, 0)
theorem qpoly_Pow (p : Pol) (n : Int) (hn : n < 9223372036854775808) {m : Nat} (hpB : CDB m p) (hs : m ≤ 4000) : FnP Tryz.prog tb F_qpoly_Pow [encP p, .i .i64 n] (.tu [encP (powR p n).1, .i .i64 (powR p n).2]) := by
 have hpl : p.len = p.c.length := rfl
 have hnl : (0 < p.len ∧ ¬ 4000 / p.len < n.toNat) ∨ (n = 0 ∧ p.len = 0) → n.toNat * p.len ≤ 4000 := by
  rintro (⟨h1, h2⟩ | ⟨h1, h2⟩)
  ·exact Nat.le_trans (Nat.mul_le_mul_right _ (Nat.le_of_not_lt h2)) (Nat.div_mul_le_self 4000 p.len)
  ·rw [h2]; omega
 refine fnP_T tbOk Tryz.func48 rfl rfl (Nat.le_of_ble_eq_true rfl) rfl fun G hG hK => ?_
 have hF : Wd Fence.wide := .inl rfl
 refine wp_ql (l := p.c) 0 rfl fun hb => ?_
 refine sx 6 ?_
 rcases (show n < 0 ∨ (0 ≤ n ∧ 0 < p.len ∧ 4000 / p.len < n.toNat) ∨ (0 ≤ n ∧ 0 < p.len ∧ ¬ 4000 / p.len < n.toNat) ∨ (0 < n ∧ p.len = 0) ∨ (n = 0 ∧ p.len = 0) by omega) with h | ⟨h, h1, h2⟩ | ⟨h, h1, h2⟩ | ⟨h, h1⟩ | ⟨h, h1⟩
 ·refine sx 5 ?_
  refine wp_cT rfl (by (simp; omega)) ?_
  refine sx 7 ?_
  exact ⟨.inr rfl, rfl, (by (refine res_nl rfl ?_); (rw [powR, if_pos h, pol_nil.2 rfl]; rfl)), (by (refine res_t rfl ?_); (rw [powR, if_pos h])), trivial⟩
 ·refine sx 5 ?_
  refine wp_cF rfl (by (simp; omega)) ?_
  refine sx 13 ?_
  refine wp_cT rfl (by refine decide_eq_true ?_; rw [hpl] at h2; generalize 4000 / p.c.length = t at *; omega) ?_
  refine sx 7 ?_
  exact ⟨.inr rfl, rfl, (by (refine res_nl rfl ?_); (rw [powR, if_neg (by omega), if_pos ⟨h1, h2⟩, pol_nil.2 rfl]; rfl)), (by (refine res_t rfl ?_); (rw [powR, if_neg (by omega), if_pos ⟨h1, h2⟩])), trivial⟩
 ·refine sx 5 ?_
  refine wp_cF rfl (by (simp; omega)) ?_
  refine sx 13 ?_
  refine wp_cF rfl (by refine decide_eq_false ?_; rw [hpl] at h2; generalize 4000 / p.c.length = t at *; omega) ?_
  have hz : ((p.c.length : Int) == 0) = false := beq_eq_false_iff_ne.2 (by omega)
  refine sx 7 ?_
  refine oq (.pickF rfl (by rw [hz]; rfl) rfl) ?_
  refine sx 2 ?_
  refine wp_cF rfl (by rfl) ?_
  refine sx 14 ?_
  refine wp_l2 hK (krc 0 rfl (krc 31 rfl krn)) khn (fun sl' h' (k : Nat) => ⟨(6, .t (encP (p ^ k))) :: (32, .t (.i .i64 (k))) :: sl', h', 0, 0⟩) (fun k => (k : Int) ≤ n) (fun k => n.toNat - k) 0 ?_ (fun _ => rfl) ?_ ?_
  ·trivial
  ·exact il
  ·intro k hk
   refine sx 4 ?_
   refine wp_c rfl (fun hc => ?_) (fun hc => ?_)
   ·have hkn : (k : Int) < n := by simpa using hc
    have hnl2 := hnl (by exact .inl ⟨h1, h2⟩)
    have hk1 := Nat.mul_le_mul_right p.len (show k + 1 ≤ n.toNat by omega)
    have hpk : k * p.len + 1 ≤ 4001 := by rw [Nat.succ_mul] at hk1; omega
    have hk2 : k ≤ 4000 := by (have h7 := Nat.mul_le_mul (Nat.le_refl n.toNat) (show 1 ≤ p.len by omega); omega)
    have hcd := hpB.pow k (L := 4001) hpk
    have hlp := len_pow p k
    have hx1 := Nat.mul_le_mul hk2 (show m + 4001 ≤ 8001 by omega)
    have hx2 := Nat.mul_le_mul (show (p ^ k).len ≤ 4001 by omega) (show k * (m + 4001) + 2 + m + 1 ≤ 32008010 by omega)
    refine sx 7 ?_
    refine oq (.callR (yb := asc (.inl rfl) as1) (yc := qpoly_Mul (p ^ k) p hcd.pb hpB.pb (by omega) (by rw [Nat.succ_mul] at hk1; omega))) ?_
    refine sx 8 ?_
    exact round_n (k + 1) (by omega) (by omega) (by exact imp_less (by repeat' (first | exact trivial | (refine And.intro (by rfl) ?_))) (by repeat' (exact trivial)) (by exact Nat.le_of_ble_eq_true rfl))
   ·have hkn : n = (k : Int) := by { have : ¬ (k : Int) < n := by { simpa using hc }; omega }
    refine sx 11 ?_
    have e : powR p n = (p ^ k, 0) := by subst hkn; rw [powR, if_neg (by omega), if_neg (by omega)]; rfl
    exact ⟨.inr rfl, rfl, (by (refine res_t rfl ?_); (rw [e])), (by (refine res_t rfl ?_); (rw [e])), trivial⟩
 ·refine sx 5 ?_
  refine wp_cF rfl (by (simp; omega)) ?_
  refine sx 13 ?_
  refine wp_cF rfl (by rfl) ?_
  refine sx 10 ?_
  refine wp_cT rfl (by (simp; omega)) ?_
  refine sx 7 ?_
  exact ⟨.inr rfl, rfl, (by (refine res_nl rfl ?_); (rw [powR, if_neg (by omega), if_neg (by omega), Poly.eq_zero_of_len h1, pow_zero_pol _ (by omega), pol_nil.2 rfl]; rfl)), (by (refine res_t rfl ?_); (rw [powR, if_neg (by omega), if_neg (by omega)])), trivial⟩
 ·refine sx 5 ?_
  refine wp_cF rfl (by (simp; omega)) ?_
  refine sx 13 ?_
  refine wp_cF rfl (by rfl) ?_
  refine sx 10 ?_
  refine wp_cF rfl (by simp; omega) ?_
  refine sx 14 ?_
  refine wp_l2 hK (krc 0 rfl (krc 31 rfl krn)) khn (fun sl' h' (k : Nat) => ⟨(6, .t (encP (p ^ k))) :: (32, .t (.i .i64 (k))) :: sl', h', 0, 0⟩) (fun k => (k : Int) ≤ n) (fun k => n.toNat - k) 0 ?_ (fun _ => rfl) ?_ ?_
  ·omega
  ·exact il
  ·intro k hk
   refine sx 4 ?_
   refine wp_c rfl (fun hc => ?_) (fun hc => ?_)
   ·have hkn : (k : Int) < n := by simpa using hc
    have hnl2 := hnl (by exact .inr ⟨h, h1⟩)
    have hk1 := Nat.mul_le_mul_right p.len (show k + 1 ≤ n.toNat by omega)
    have hpk : k * p.len + 1 ≤ 4001 := by rw [Nat.succ_mul] at hk1; omega
    have hk2 : k ≤ 4000 := by (have h7 := Nat.mul_le_mul (Nat.le_refl n.toNat) (show 1 ≤ p.len by omega); omega)
    have hcd := hpB.pow k (L := 4001) hpk
    have hlp := len_pow p k
    have hx1 := Nat.mul_le_mul hk2 (show m + 4001 ≤ 8001 by omega)
    have hx2 := Nat.mul_le_mul (show (p ^ k).len ≤ 4001 by omega) (show k * (m + 4001) + 2 + m + 1 ≤ 32008010 by omega)
    refine sx 7 ?_
    refine oq (.callR (yb := asc (.inl rfl) as1) (yc := qpoly_Mul (p ^ k) p hcd.pb hpB.pb (by omega) (by rw [Nat.succ_mul] at hk1; omega))) ?_
    refine sx 8 ?_
    exact round_n (k + 1) (by omega) (by omega) (by exact imp_less (by repeat' (first | exact trivial | (refine And.intro (by rfl) ?_))) (by repeat' (exact trivial)) (by exact Nat.le_of_ble_eq_true rfl))
   ·have hkn : n = (k : Int) := by { have : ¬ (k : Int) < n := by { simpa using hc }; omega }
    refine sx 11 ?_
    have e : powR p n = (p ^ k, 0) := by subst hkn; rw [powR, if_neg (by omega), if_neg (by omega)]; rfl
    exact ⟨.inr rfl, rfl, (by (refine res_t rfl ?_); (rw [e])), (by (refine res_t rfl ?_); (rw [e])), trivial⟩
theorem qpoly_steps (p q : Pol) : FnH Tryz.prog tb F_qpoly_steps [.t (encP p), .t (encP q)] [] (.clo F_qpoly_steps_c1 [.ptr T_L_Rat 1 0 0, .ptr T_L_Rat 0 0 0]) [(1, some (.arr T_L_Rat [.t (encP q)])), (0, some (.arr T_L_Rat [.t (encP p)]))] 2 := by
 refine fnH_of tbOk Tryz.func98 rfl rfl (Nat.le_of_ble_eq_true rfl) fun G hG hK => ?_
 have hF : Wd Fence.wide := .inl rfl
 refine rr ?_
 refine on' (.boxMR (yb := .inl rfl)) ?_
 refine on' (.boxMR (yb := .inl rfl)) ?_
 refine sx 3 ?_
 refine oq (.cloR (ya := avc rfl (avc rfl (avn)))) ?_
 refine sx 3 ?_
 exact ⟨.inr rfl, rfl, _, Imp.refl _ _, Nat.le_of_ble_eq_true rfl, Nat.le_of_ble_eq_true rfl, ga, (by exact .inr ⟨_, rfl, rfl⟩)⟩
theorem pc_zero {p : Pol} (h : decide ((p.c.length : Int) > 0) = false) : p = 0 := pol_nil.1 (List.length_eq_zero_iff.1 (by simp at h; simp [h]))
theorem pc_ne {p : Pol} (h : decide ((p.c.length : Int) > 0) = true) : p ≠ 0 := fun e => by rw [pol_nil.2 e] at h; simp at h
theorem monic_monic (p : Pol) : p.monic.monic = p.monic := by
 by_cases h : p = 0
 ·rw [h, Poly.monic_zero, Poly.monic_zero]
 ·exact (Poly.monic_Mon h).monic
theorem qpoly_Gcd (p q : Pol) {K T : Nat} (hE : EB K T p.monic q.monic) (hKs : K ≤ 137438953000) (hpB : PB 274877906900 p := by first | assumption | (apply PB.le; (focus (repeat' (first | assumption | apply PB.add | apply PB.sub | apply PB.neg | apply PB.monic | apply PB.scale | exact PB.zero | exact PB.one | apply PB.cst | exact Bq.zero | exact Bq.one))); omega)) (hqB : PB 274877906900 q := by first | assumption | (apply PB.le; (focus (repeat' (first | assumption | apply PB.add | apply PB.sub | apply PB.neg | apply PB.monic | apply PB.scale | exact PB.zero | exact PB.one | apply PB.cst | exact Bq.zero | exact Bq.one))); omega)) : FnP Tryz.prog tb F_qpoly_Gcd [encP p, encP q] (encP (p.gcd q)) := by
 refine fnP_M1 tbOk Tryz.func39 rfl rfl (Nat.le_of_ble_eq_true rfl) fun G hG hK => ?_
 have hF : Wd Fence.wide := .inl rfl
 refine sx 14 ?_
 refine oed (callh [] (qpoly_steps p.monic q.monic) (.inr ⟨_, rfl, rfl⟩) (hac rfl (hac rfl han)) rfl rfl rfl (by decide) oin olts_n rfl (outs_s rfl (by exact ren_c) (outs_s rfl (by exact ren_c) outs_0)) rfl rfl rfl) ?_
 refine sx 2 ?_
 refine wp_kp hK (krc 5 rfl (krc 13 rfl krn)) rfl ?_
 refine wp_rf tbOk rfl hK hG rfl (by exact .inl rfl) Tryz.func150 rfl rfl rfl rfl ?_
 intro G1 hG1 hK1
 have hF1 : Wd Fence.wide := .inl rfl
 refine wp_b ?_
 refine wp_l2 hK1 (krc 0 rfl (krc 1 rfl (krc 2 rfl krn))) (khc 3 rfl khn) (fun sl' h' ((a, b, o) : Pol × Pol × Pol) => ⟨sl', (0, some (.arr T_L_Rat [.t (encP o)])) :: (1, some (.arr T_L_Rat [.t (encP a)])) :: (2, some (.arr T_L_Rat [.t (encP b)])) :: h', 4, 0⟩) (fun (a, b, o) => o.monic = a.monic ∧ a.gcd b = p.gcd q ∧ (∃ T, EB K T a b) ∧ PB 274877906900 o) (fun (_, b, _) => b.len) (p.monic, q.monic, p) ?_ (fun _ => rfl) ?_ ?_
 ·exact ⟨(monic_monic p).symm, Poly.gcd_monics p q, ⟨T, hE⟩, hpB⟩
 ·exact il
 ·rintro ⟨a, b, o⟩ ⟨ho, hg, ⟨T', hE'⟩, hoB⟩
  refine sx 6 ?_
  refine wp_c rfl (fun hc => ?_) (fun hc => ?_)
  ·have hb := pc_ne hc
   obtain ⟨n, m, e1, e2, e3⟩ := hE'.div hb
   refine sx 8 ?_
   refine oed (ev_yT rfl (hac rfl (hac rfl han)) rfl rfl rfl (khc 1 rfl (khc 2 rfl khn)) (fun h' => (0, some (.arr T_L_Rat [.t (encP b)])) :: h') 4 ?_) ?_
   ·intro G2 F2 hF2 hG2 hK2
    refine sx 3 ?_
    refine asg_n rfl rfl ?_
    refine sx 6 ?_
    exact body_n rfl rfl rfl (by exact il)
   refine sx 2 ?_
   refine wp_cF rfl (by rfl) ?_
   refine sx 21 ?_
   exact round_n (b, a % b, b) (by exact ⟨rfl, by rw [← hg, Poly.gcd_mod hb], ⟨_, hE'.step hb⟩, e2.pb.le (by omega)⟩) (by exact Poly.mod_len hb) (by exact il)
  ·have hb := pc_zero hc
   refine sx 4 ?_
   refine rf_n (.inl rfl) rfl rfl rfl (fun h => by cases h) ?_
   refine sx 4 ?_
   refine oq (.callR (yb := as1) (yc := qpoly_Monic _ hoB)) ?_
   refine sx 3 ?_
   exact ⟨.inr rfl, (by (refine res_t rfl ?_); (rw [ho, ← hg, hb, Poly.gcd_zero])), trivial⟩
theorem imp_nilH {K : Nat} {s : Sta} (id e e' : Nat) (h : Eng.get s.h id = some (some (.arr e [.nilS]))) (hz : Nat.beq (szOf tb e) 1 = true) : Imp K tb s ⟨s.sl, (id, some (.arr e [.t (.sl e' [])])) :: s.h, s.nx, s.df⟩ := by
 have hz := Nat.eq_of_beq_eq_true hz
 intro G w a φ S _ _ hr
 have hg : ∀ i, Vis ((id, some (Obj.arr e [.t (.sl e' [])])) :: s.h) i → Vis s.h i := fun i ⟨o, ho⟩ => by
  have ho2 : (if id = i then some (some (Obj.arr e [.t (.sl e' [])])) else Eng.get s.h i) = some (some o) := (get_cons id _ s.h i).symm.trans ho
  by_cases hi : id = i
  ·subst hi; exact ⟨_, h⟩
  ·rw [if_neg hi] at ho2; exact ⟨_, ho2⟩
 refine ⟨φ, S, ⟨⟨fun i o ho => ?_, fun i j b hi hj => hr.hr.inj i j b (hg i hi) (hg j hj), hr.hr.fr, hr.hr.φlt, hr.hr.φX, hr.hr.Slt, hr.hr.SS, hr.hr.Snew, hr.hr.frame⟩, hr.sl, hr.nt, hr.df, hr.kp, hr.nc⟩⟩
 have ho2 : (if id = i then some (some (Obj.arr e [.t (.sl e' [])])) else Eng.get s.h i) = some (some o) := (get_cons id _ s.h i).symm.trans ho
 by_cases hi : id = i
 ·subst hi
  rw [if_pos rfl] at ho2
  injection ho2 with ho2
  injection ho2 with ho2; subst ho2
  obtain ⟨b, h1, h2, h3, h4⟩ := hr.hr.hh id _ h
  refine ⟨b, h1, h2, h3, h4.1, fun k x hx => ?_⟩
  cases k with
  | zero =>
   have hx : AV.t (Tr.sl e' []) = x := by simpa using hx
   subst hx
   have hE := h4.2 0 .nilS rfl
   cases hE with
   | v v a k1 k2 k3 k4 =>
    cases k4 with
    | nilS => exact .t _ (by rw [hz]; rfl) (.cons _ _ _ _ _ k3 (.emp _ _ _) (.nil _ _))
  | succ k => simp at hx
 ·rw [if_neg hi] at ho2; exact hr.hr.hh i o ho2
theorem add_mul_le {a b c d e f : Nat} (h1 : b ≤ c) (h2 : d ≤ e) (h3 : a + c * (e + 1) + e ≤ f) : a + b * (d + 1) + d ≤ f := by
 have := Nat.mul_le_mul h1 (show d + 1 ≤ e + 1 by omega)
 omega
theorem CDB.mod' {n m X M N : Nat} {p q : Pol} (h : CDB n p) (k : CDB m q) (hq : q ≠ 0) (h1 : p.len + 1 - q.len ≤ X) (h2 : m ≤ M) (h3 : n + X * (M + 1) ≤ N) : CDB N (p % q) :=
 (h.mod k hq).le (by have := Nat.mul_le_mul h1 (show m + 1 ≤ M + 1 by omega); omega)
theorem CDB.div' {n m X M N : Nat} {p q : Pol} (h : CDB n p) (k : CDB m q) (hq : q ≠ 0) (h1 : p.len + 1 - q.len ≤ X) (h2 : m ≤ M) (h3 : X * (n + X * (M + 1) + M + 3) + 1 ≤ N) : CDB N (p / q) :=
 (h.div k hq).le (by
  have h4 := Nat.mul_le_mul h1 (show m + 1 ≤ M + 1 by omega)
  have h5 := Nat.mul_le_mul h1 (show n + (p.len + 1 - q.len) * (m + 1) + m + 3 ≤ n + X * (M + 1) + M + 3 by omega)
  omega)
theorem EB.n_le {K T : Nat} {a b : Pol} (h : EB K T a b) (hKs : K ≤ 2500000) : CDB 1250000 a ∧ CDB 1250000 b := by
 have h1 := h.le
 obtain ⟨n, m, h2, h3, h4, h5⟩ := h.ex
 exact ⟨h2.le (by omega), h3.le (by omega)⟩
theorem CB.v_le {K L : Nat} {a b s w : Pol} (h : CB K L a b s w) (hKs : K ≤ 2500000) (hLs : L ≤ 20) : CDB 155000000 s ∧ CDB 155000000 w := by
 obtain ⟨V, v1, v2, v3⟩ := h.ex
 have h1 := Nat.mul_le_mul (show 3 * L + 2 ≤ 62 by omega) hKs
 have h2 := Nat.mul_le_mul (Nat.le_refl V) (Nat.one_le_pow b.len 3 (by decide))
 exact ⟨v1.le (by omega), v2.le (by omega)⟩
theorem quo_sizes {K T L : Nat} {a b s w : Pol} (hE : EB K T a b) (h : CB K L a b s w) (hb : b ≠ 0) (hKs : K ≤ 2500000) (hLs : L ≤ 20) :
  PB 550001000 (a / b) ∧ PB 155000000 w ∧ 1 + (a / b).len * (550001000 + 155000000 + 1) ≤ 274877906944 ∧ PB 274877906944 (a / b * w) ∧ PB 274877906944 s ∧ (a / b).len + w.len ≤ 40 := by
 obtain ⟨h1, h2⟩ := hE.n_le hKs
 obtain ⟨v1, v2⟩ := h.v_le hKs hLs
 have hl := Poly.len_pos hb
 have hdl := div_len_le (a := a) hb
 have hL2 := h.l2
 have h3 := h1.div' h2 hb (X := 20) (M := 1250000) (N := 550001000) (by omega) (Nat.le_refl _) (by decide)
 have h4 := Nat.mul_le_mul (show (a / b).len ≤ 20 by omega) (Nat.le_refl (550001000 + 155000000 + 1))
 exact ⟨h3.pb, v2.pb, by omega, (h3.mul v2).pb.le (by omega), v1.pb.le (by omega), by omega⟩
theorem qpoly_Bezout (p q : Pol) {K T L : Nat} (hpB : PB 274877906900 p) (hE : q ≠ 0 → EB K T p q) (hKs : K ≤ 2500000) (hL : p.len + q.len + 1 ≤ L) (hLs : L ≤ 20) : FnP Tryz.prog tb F_qpoly_Bezout [encP p, encP q] (.tu [encP (p.bez q).1, encP (p.bez q).2.1, encP (p.bez q).2.2, .i .i64 0]) := by
 refine fnP_MT tbOk Tryz.func35 rfl rfl (Nat.le_of_ble_eq_true rfl) rfl fun G hG hK => ?_
 have hF : Wd Fence.wide := .inl rfl
 refine rr ?_
 refine on' .allocNilR ?_
 refine on' .allocNilR ?_
 refine oa ?_
 refine oa ?_
 refine wo_nil ?_
 refine wp_s ?_
 refine rr ?_
 refine om ?_
 refine oq (.lenR (yc := .inl rfl) (yd := by exact encQs_len)) ?_
 refine oq .cmpR ?_
 refine wo_nil ?_
 refine wp_c rfl (fun hc => ?_) (fun hc => ?_)
 ·have hq : q = 0 := pol_nil.1 (List.length_eq_zero_iff.1 (bz hc))
  subst hq
  refine wp_s ?_
  refine rr ?_
  refine om ?_
  refine oq (.lenR (yc := .inl rfl) (yd := by exact encQs_len)) ?_
  refine oq .cmpR ?_
  refine wo_nil ?_
  refine wp_c rfl (fun hc => ?_) (fun hc => ?_)
  ·have hp : p = 0 := pol_nil.1 (List.length_eq_zero_iff.1 (bz hc))
   have hb : p.bez 0 = (0, 0, 0) := by rw [Poly.bez, if_pos rfl, if_pos hp]
   refine rr ?_
   refine oe (.storeVR (ye := by decide) (yi := fun _ h => by cases h) (yj := fun h => by cases h) (yk := fun _ h => by cases h)) ?_
   refine oe (.storeVR (ye := by decide) (yi := fun _ h => by cases h) (yj := fun h => by cases h) (yk := fun _ h => by cases h)) ?_
   refine oa ?_
   refine oa ?_
   refine wo_nil ?_
   refine wp_imp hK (imp_nilH 0 T_L_Rat T_Rat rfl rfl) ?_
   refine wp_imp hK (imp_nilH 1 T_L_Rat T_Rat rfl rfl) ?_
   refine wp_rt ?_
   refine then_ret ?_
   refine then_ret ?_
   exact ⟨.inr rfl, (by (refine res_c rfl rfl rfl rfl rfl ?_); (rw [hb, encP_0])), (by (refine res_c rfl rfl rfl rfl rfl ?_); (rw [hb, encP_0])), (by (refine res_nl rfl ?_); (rw [hb, pol_nil.2 rfl]; rfl)), (by (refine res_t rfl ?_); (rfl)), trivial⟩
  ·have hp : p ≠ 0 := fun e => bnz hc (by rw [pol_nil.2 e]; rfl)
   have hb : p.bez 0 = (p.monic, Poly.cst (1 / p.lead), 0) := by rw [Poly.bez, if_pos rfl, if_neg hp]
   refine wp_k ?_
   refine then_n ?_
   refine rr ?_
   refine oq (.callR (yb := as1) (yc := qpoly_whole 1 (by decide) (by decide))) ?_
   refine om ?_
   refine oq (.callR (yb := as1) (yc := qpoly_LeadP p)) ?_
   refine oq (.callR (yb := asc (.inl rfl) as1) (yc := rat_Div _ _ (Poly.lead_ne hp) (Bq.one.le (by decide)) (hpB.lead.le (by decide)))) ?_
   refine om ?_
   refine oq .extractR ?_
   refine oq .extractR ?_
   refine on' .allocR ?_
   refine oe (.storeR (ye := by decide) (yg := .inl rfl)) ?_
   refine oa ?_
   refine wo_nil ?_
   refine wp_d tbOk hF mixed hG [] (by kernel_rfl) ?_
   refine dq .moveR ?_
   refine dq (.callR (yb := as1) (yc := qpoly_Monic p hpB)) ?_
   refine dq (.loadPR (yd := by rfl)) ?_
   refine dq (.callR (yb := as1) (yc := qpoly_Const _)) ?_
   refine wd_e rfl rfl rfl (.storeR (ye := by decide) (yg := .inl rfl)) (by exact trivial) ?_
   refine wd_e rfl rfl rfl (.storeR (ye := by decide) (yg := .inl rfl)) (by exact trivial) ?_
   refine dq .assignR ?_
   refine dq .assignR ?_
   refine wd_nil ?_
   refine wp_rt ?_
   refine then_ret ?_
   exact ⟨.inr rfl, (by (refine res_c rfl rfl rfl rfl rfl ?_); (rw [hb])), (by (refine res_c rfl rfl rfl rfl rfl ?_); (rw [hb]; rfl)), (by (refine res_nl rfl ?_); (rw [hb, pol_nil.2 rfl]; rfl)), (by (refine res_t rfl ?_); (rfl)), trivial⟩
 ·have hq : q ≠ 0 := fun e => bnz hc (by rw [pol_nil.2 e]; rfl)
  refine wp_k ?_
  refine then_n ?_
  refine rr ?_
  refine oq (.callR (yb := as1) (yc := qpoly_whole 1 (by decide) (by decide))) ?_
  refine oq (.callR (yb := as1) (yc := qpoly_Const _)) ?_
  refine on' .allocNilR ?_
  refine on' .allocNilR ?_
  refine oe (.storeR (ye := by decide) (yg := .inl rfl)) ?_
  refine oe (.storeVR (ye := by decide) (yi := fun _ h => by cases h) (yj := fun h => by cases h) (yk := fun _ h => by cases h)) ?_
  refine wo_nil ?_
  refine rr ?_
  refine om ?_
  refine oe (.storeR (ye := by decide) (yg := .inl rfl)) ?_
  refine wo_nil ?_
  refine wp_s ?_
  refine rr ?_
  refine om ?_
  refine om ?_
  refine oed (callh [] (qpoly_steps p q) (.inr ⟨_, rfl, rfl⟩) (hac rfl (hac rfl han)) rfl rfl rfl (by decide) oin olts_n rfl (outs_s rfl (by exact ren_c) (outs_s rfl (by exact ren_c) outs_0)) rfl rfl rfl) ?_
  refine wo_nil ?_
  refine wp_imp hK (imp_nilH 1 T_L_Rat T_Rat rfl rfl) ?_
  refine wp_imp hK (imp_nilH 3 T_L_Rat T_Rat rfl rfl) ?_
  refine wp_b ?_
  refine wp_kp hK (krc 0 rfl (krc 1 rfl (krc 4 rfl (krc 5 rfl (krc 10 rfl (krc 11 rfl (krc 44 rfl krn))))))) rfl ?_
  refine wp_rf tbOk rfl hK hG rfl (by exact .inl rfl) Tryz.func150 rfl rfl rfl rfl ?_
  intro G1 hG1 hK1
  have hF1 : Wd Fence.wide := .inl rfl
  refine wp_b ?_
  refine wp_l2 hK1 (krc 0 rfl (krc 1 rfl (krc 2 rfl krn))) (khc 6 rfl khn) (fun sl' h' ((a, b, g, u, s, w) : Pol × Pol × Pol × Pol × Pol × Pol) => ⟨sl', (0, some (.arr T_L_Rat [.t (encP g)])) :: (1, some (.arr T_L_Rat [.t (encP u)])) :: (2, some (.arr T_L_Rat [.t (encP s)])) :: (3, some (.arr T_L_Rat [.t (encP w)])) :: (4, some (.arr T_L_Rat [.t (encP a)])) :: (5, some (.arr T_L_Rat [.t (encP b)])) :: h', 7, 0⟩) (fun (a, b, g, u, s, w) => a.gcd b = p.gcd q ∧ (b = 0 → g = a ∧ u = s) ∧ (∃ T, EB K T a b) ∧ CB K L a b s w ∧ (∃ k, g = u * p + k * q) ∧ (∃ k, a = s * p + k * q) ∧ ∃ k, b = w * p + k * q) (fun (_, b, _) => b.len) (p, q, q, 0, 1, 0) ?_ (fun _ => rfl) ?_ ?_
  ·exact ⟨rfl, fun h => absurd h hq, ⟨T, hE hq⟩, CB.init (hE hq) hL, ⟨1, by grind⟩, ⟨0, by grind⟩, ⟨1, by grind⟩⟩
  ·exact il
  ·rintro ⟨a, b, g, u, s, w⟩ ⟨hg, hga, ⟨T', hE'⟩, hCB, hgu, ⟨k1, hs⟩, ⟨k2, hw⟩⟩
   refine wp_s ?_
   refine wp_r tbOk hF1 hG1 rfl ?_
   refine oq (.loadPR (yd := by rfl)) ?_
   refine oq (.lenR (yc := .inl rfl) (yd := by exact encQs_len)) ?_
   refine oq .cmpR ?_
   refine wo_nil ?_
   refine wp_c rfl (fun hc => ?_) (fun hc => ?_)
   ·have hb := pc_ne hc
    obtain ⟨n, m, e1, e2, e3⟩ := hE'.div hb
    have hKd := Nat.le_trans e3 (Nat.le_trans hKs (by decide : 2500000 ≤ 137438953000))
    obtain ⟨f1, f2, f3, f4, f5, f6⟩ := quo_sizes hE' hCB hb hKs hLs
    refine wp_k ?_
    refine then_n ?_
    refine wp_b ?_
    refine wp_s ?_
    refine wp_r tbOk hF1 hG1 rfl ?_
    refine om ?_
    refine oq (.loadPR (yd := by rfl)) ?_
    refine oq (.loadPR (yd := by rfl)) ?_
    refine oed (ev_yT rfl (hac rfl (hac rfl han)) rfl rfl rfl (khc 4 rfl (khc 5 rfl khn)) (fun h' => (0, some (.arr T_L_Rat [.t (encP b)])) :: (1, some (.arr T_L_Rat [.t (encP w)])) :: (2, some (.arr T_L_Rat [.t (encP w)])) :: (3, some (.arr T_L_Rat [.t (encP (s - a / b * w))])) :: h') 7 ?_) ?_
    ·intro G2 F2 hF2 hG2 hK2
     refine wp_r tbOk hF2 hG2 rfl ?_
     refine oa ?_
     refine wo_nil ?_
     refine wp_r0 tbOk hF2 hG2 rfl ?_
     refine oa ?_
     refine wo_nil ?_
     refine asg_n rfl rfl ?_
     refine wp_b ?_
     refine wp_d tbOk hF2 mixed hG2 [1] (by kernel_rfl) ?_
     refine dq .moveR ?_
     refine wd_ql rfl rfl rfl (.loadPR (yd := by rfl)) ?_
     refine wd_e rfl rfl rfl (.storeR (ye := by (simp; done)) (yg := .inl rfl)) (by (repeat' (first | exact trivial | exact .loadP _ _ _ _ _ _ _ _ _ rfl rfl rfl (by rfl) rfl | refine And.intro ?_ ?_))) ?_
     refine wd_e rfl rfl rfl (.storeR (ye := by (simp; done)) (yg := .inl rfl)) (by (repeat' (first | exact trivial | exact .loadP _ _ _ _ _ _ _ _ _ rfl rfl rfl (by rfl) rfl | refine And.intro ?_ ?_))) ?_
     refine wd_nil ?_
     refine wp_r tbOk hF2 hG2 rfl ?_
     refine om ?_
     refine om ?_
     refine oq (.callR (yb := asc (.inl rfl) as1) (yc := qpoly_Div a b hb e1 e2 hKd)) ?_
     refine om ?_
     refine oq .extractR ?_
     refine oq .extractR ?_
     refine oq .extractR ?_
     refine oa ?_
     refine oa ?_
     refine oa ?_
     refine wo_nil ?_
     refine wp_d0 tbOk hF2 mixed hG2 [] (by kernel_rfl) ?_
     refine dq (.loadPR (yd := by rfl)) ?_
     refine dq (.loadPR (yd := by rfl)) ?_
     refine dq .moveR ?_
     refine dq (.loadPR (yd := by rfl)) ?_
     refine dq (.callR (yb := asc (.inl rfl) as1) (yc := qpoly_Mul (a / b) w f1 f2 f3 (by omega))) ?_
     refine dq (.callR (yb := asc (.inl rfl) as1) (yc := qpoly_Sub s _ f5 f4)) ?_
     refine wd_e rfl rfl rfl (.storeR (ye := by (simp; done)) (yg := .inl rfl)) (by exact trivial) ?_
     refine wd_e rfl rfl rfl (.storeR (ye := by (simp; done)) (yg := .inl rfl)) (by exact trivial) ?_
     refine wd_nil ?_
     refine blk_n ?_
     exact body_n rfl rfl rfl (by exact il)
    refine oq .notR ?_
    refine wo_nil ?_
    refine wp_cF rfl (by rfl) ?_
    refine wp_k ?_
    refine then_n ?_
    refine wp_r tbOk hF1 hG1 rfl ?_
    refine oq (.loadPR (yd := by rfl)) ?_
    refine oq (.loadPR (yd := by rfl)) ?_
    refine oq (.callR (yb := asc (.inl rfl) as1) (yc := qpoly_Div a b hb e1 e2 hKd)) ?_
    refine om ?_
    refine oq .extractR ?_
    refine oq .extractR ?_
    refine oq .extractR ?_
    refine oa ?_
    refine oa ?_
    refine oa ?_
    refine wo_nil ?_
    refine wp_r0 tbOk hF1 hG1 rfl ?_
    refine oq (.loadPR (yd := by rfl)) ?_
    refine om ?_
    refine oe (.storeR (ye := by (simp; done)) (yg := .inl rfl)) ?_
    refine oe (.storeR (ye := by (simp; done)) (yg := .inl rfl)) ?_
    refine wo_nil ?_
    refine blk_n ?_
    exact round_n (b, a % b, b, w, w, s - a / b * w) (by refine ⟨by rw [← hg, Poly.gcd_mod hb], fun _ => ⟨rfl, rfl⟩, ⟨_, hE'.step hb⟩, hCB.step hE' hb, ⟨k2, hw⟩, ⟨k2, hw⟩, ⟨k1 - a / b * k2, ?_⟩⟩; have := Poly.div_add_mod (p := a) hb; generalize a / b = d at *; generalize a % b = r at *; grind) (by exact Poly.mod_len hb) (by exact il)
   ·have hb := pc_zero hc
    refine wp_x ?_
    refine then_exit ?_
    refine round_exit ?_
    refine blk_hit ?_
    refine rf_n (.inl rfl) rfl rfl rfl (fun h => by cases h) ?_
    refine blk_n ?_
    refine then_n ?_
    have hgm : g.monic = p.gcd q := by rw [(hga hb).1, ← hg, hb, Poly.gcd_zero]
    have hg0 : p.gcd q ≠ 0 := (Poly.per_ne hq).1
    have hgn : g ≠ 0 := fun e => hg0 (by rw [← hgm, e, Poly.monic_zero])
    have hbz : p.bez q = (p.gcd q, p.bezU q, p.bezV q) := by rw [Poly.bez, if_neg hq]
    have hgs : CDB 1250000 g := by rw [(hga hb).1]; exact (hE'.n_le hKs).1
    have hus : CDB 155000000 u := by rw [(hga hb).2]; exact (hCB.v_le hKs hLs).1
    have hul : u.len ≤ 20 := by have := hCB.l1; rw [(hga hb).2]; omega
    obtain ⟨hps, hqs⟩ := (hE hq).n_le hKs
    have hgl := Poly.len_pos hgn
    have hgms := hgs.monic
    have hcs : Bq 1250002 ((((1 : Int) : Rat)) / g.lead) := (Bq.one.div hgs.pb.lead).le (by decide)
    have hu2s := hus.scale hcs
    have hu2l : (Poly.cst ((((1 : Int) : Rat)) / g.lead) * u).len ≤ 20 := by have h1 := Poly.len_mul_le (Poly.cst ((((1 : Int) : Rat)) / g.lead)) u; have h2 := Poly.len_cst ((((1 : Int) : Rat)) / g.lead); omega
    refine wp_d tbOk hF mixed hG [] (by kernel_rfl) ?_
    refine dq (.callR (yb := as1) (yc := qpoly_whole 1 (by decide) (by decide))) ?_
    refine dq (.loadPR (yd := by rfl)) ?_
    refine dq (.callR (yb := as1) (yc := qpoly_LeadP g)) ?_
    refine dq (.callR (yb := asc (.inl rfl) as1) (yc := rat_Div _ _ (Poly.lead_ne hgn) (Bq.one.le (by decide)) (hgs.pb.lead.le (by decide)))) ?_
    refine dq .moveR ?_
    refine dq .extractR ?_
    refine dq .extractR ?_
    refine wd_n rfl rfl rfl rfl .allocR ?_
    refine wd_e rfl rfl rfl (.storeR (ye := by decide) (yg := .inl rfl)) (by exact trivial) ?_
    refine dq .assignR ?_
    refine wd_nil ?_
    refine wp_d tbOk hF mixed hG [] (by kernel_rfl) ?_
    refine dq (.loadPR (yd := by rfl)) ?_
    refine dq (.loadPR (yd := by rfl)) ?_
    refine dq (.callR (yb := asc (.inl rfl) as1) (yc := qpoly_Scale g _ (hgs.pb.le (by decide)) (hcs.le (by decide)))) ?_
    refine dq (.loadPR (yd := by rfl)) ?_
    refine dq (.loadPR (yd := by rfl)) ?_
    refine dq (.callR (yb := asc (.inl rfl) as1) (yc := qpoly_Scale u _ (hus.pb.le (by decide)) (hcs.le (by decide)))) ?_
    refine wd_e rfl rfl rfl (.storeR (ye := by (simp; done)) (yg := .inl rfl)) (by exact trivial) ?_
    refine wd_e rfl rfl rfl (.storeR (ye := by (simp; done)) (yg := .inl rfl)) (by exact trivial) ?_
    refine wd_nil ?_
    have hgm2 : Poly.cst ((((1 : Int) : Rat)) / g.lead) * g = p.gcd q := hgm
    rw [hgm2]
    have hu2 : ∃ k, p.gcd q = Poly.cst ((((1 : Int) : Rat)) / g.lead) * u * p + k * q := by
     obtain ⟨k, hk⟩ := hgu
     refine ⟨Poly.cst ((((1 : Int) : Rat)) / g.lead) * k, ?_⟩
     rw [← hgm2]; generalize Poly.cst ((((1 : Int) : Rat)) / g.lead) = c at *; grind
    generalize Poly.cst ((((1 : Int) : Rat)) / g.lead) * u = u2 at *
    have hu3 : u2 % (q / p.gcd q) = p.bezU q := by
     obtain ⟨k, hk⟩ := hu2
     obtain ⟨k3, hk3⟩ := Poly.bez_mod hq hk
     exact Poly.bezU_unique hq (Poly.mod_len (Poly.per_ne hq).2.1) hk3
    have hg2s : CDB 1250000 (p.gcd q) := by rw [← hgm]; exact hgms
    have hg2l : 0 < (p.gcd q).len := Poly.len_pos hg0
    have hper := hqs.div' hg2s hg0 (X := 20) (M := 1250000) (N := 550001000) (by omega) (Nat.le_refl _) (by decide)
    have hpl := Poly.len_pos (Poly.per_ne hq (p := p)).2.1
    have hpl2 := div_len_le (a := q) hg0
    have hu3s := hu2s.mod' hper (Poly.per_ne hq).2.1 (X := 20) (M := 550001000) (N := 11200000000) (by omega) (Nat.le_refl _) (by decide)
    rw [hu3] at hu3s
    have hu3l : (p.bezU q).len < (q / p.gcd q).len := by rw [← hu3]; exact Poly.mod_len (Poly.per_ne hq).2.1
    have hprod := (hu3s.mul hps).le (show _ ≤ 11202000000 by omega)
    have hsub := (hg2s.sub hprod).le (show _ ≤ 11204000000 by decide)
    have hsl := Poly.len_sub (p.gcd q) (p.bezU q * p)
    have hml := Poly.len_mul_le (p.bezU q) p
    have hgl2 := Poly.dvd_len (Poly.gcd_is p q).right hq
    have hm9 := Nat.mul_le_mul (show (p.bezU q).len ≤ 20 by omega) (Nat.le_refl (11200000000 + 1250000 + 1))
    refine rr ?_
    refine om ?_
    refine oq (.loadPR (yd := by rfl)) ?_
    refine oq (.callR (yb := asc (.inl rfl) as1) (yc := qpoly_Div q _ hg0 hqs hg2s (add_mul_le (c := 20) (e := 1250000) (by omega) (Nat.le_refl _) (by decide)))) ?_
    refine om ?_
    refine oq .extractR ?_
    refine oq .extractR ?_
    refine oq .extractR ?_
    refine oa ?_
    refine oa ?_
    refine oa ?_
    refine wo_nil ?_
    refine rr ?_
    refine oq (.loadPR (yd := by rfl)) ?_
    refine om ?_
    refine oq (.callR (yb := asc (.inl rfl) as1) (yc := qpoly_Div u2 _ (Poly.per_ne hq).2.1 hu2s hper (add_mul_le (c := 20) (e := 550001000) (by omega) (Nat.le_refl _) (by decide)))) ?_
    refine om ?_
    refine oq .extractR ?_
    refine oq .extractR ?_
    refine oq .extractR ?_
    refine oe (.storeR (ye := by (simp; done)) (yg := .inl rfl)) ?_
    refine wo_nil ?_
    rw [hu3]
    refine wp_d tbOk hF mixed hG [] (by kernel_rfl) ?_
    refine dq (.loadPR (yd := by rfl)) ?_
    refine dq (.loadPR (yd := by rfl)) ?_
    refine dq .moveR ?_
    refine dq (.callR (yb := asc (.inl rfl) as1) (yc := qpoly_Mul (p.bezU q) p hu3s.pb hps.pb (by omega) (by omega))) ?_
    refine dq (.callR (yb := asc (.inl rfl) as1) (yc := qpoly_Sub (p.gcd q) _ (hg2s.pb.le (by decide)) (hprod.pb.le (by decide)))) ?_
    refine dq .moveR ?_
    refine dq (.callR (yb := asc (.inl rfl) as1) (yc := qpoly_Div _ q hq hsub hqs (add_mul_le (c := 40) (e := 1250000) (by omega) (Nat.le_refl _) (by decide)))) ?_
    refine dq .moveR ?_
    refine dq .extractR ?_
    refine dq .extractR ?_
    refine dq .extractR ?_
    refine dq .assignR ?_
    refine wd_nil ?_
    refine wp_d tbOk hF mixed hG [1] (by kernel_rfl) ?_
    refine dq (.loadPR (yd := by rfl)) ?_
    refine wd_ql rfl rfl rfl (.loadPR (yd := by rfl)) ?_
    refine dq .moveR ?_
    refine wd_e rfl rfl rfl (.storeR (ye := by (simp; done)) (yg := .inl rfl)) (by (repeat' (first | exact trivial | exact .loadP _ _ _ _ _ _ _ _ _ rfl rfl rfl (by rfl) rfl | refine And.intro ?_ ?_))) ?_
    refine wd_e rfl rfl rfl (.storeR (ye := by (simp; done)) (yg := .inl rfl)) (by (repeat' (first | exact trivial | exact .loadP _ _ _ _ _ _ _ _ _ rfl rfl rfl (by rfl) rfl | refine And.intro ?_ ?_))) ?_
    refine dq .assignR ?_
    refine dq .assignR ?_
    refine wd_nil ?_
    refine wp_rt ?_
    exact ⟨.inr rfl, (by (refine res_c rfl rfl rfl rfl rfl ?_); (rw [hbz])), (by (refine res_c rfl rfl rfl rfl rfl ?_); (rw [hbz])), (by (refine res_t rfl ?_); (rw [hbz]; rfl)), (by (refine res_t rfl ?_); (rfl)), trivial⟩
theorem qpoly_Squarefree (p : Pol) (hp : p ≠ 0) {n : Nat} (hpB : CDB n p) (hn : n ≤ 100) (hpl13 : p.len ≤ 13) : FnP Tryz.prog tb F_qpoly_Squarefree [encP p] (.tu [encQ p.lead, .sl T_L_Rat (p.sqf.map encP), .i .i64 0]) := by
 have hpl : p.len = p.c.length := rfl
 have hpp := Poly.len_pos hp
 have hg0 : p.gcd p.deriv ≠ 0 := fun e => hp (Poly.gcd_zero_iff.1 e).1
 obtain ⟨T0, hT0⟩ := sq_eb hpB hp hn hpl13
 have hI0 := SqI.init hp
 have hdB := (hpB.deriv (by omega)).pb
 have hgB0 := (hI0.sizes hpB hp hn hpl13).2
 refine fnP_T tbOk Tryz.func56 rfl rfl (Nat.le_of_ble_eq_true rfl) rfl fun G hG hK => ?_
 have hF : Wd Fence.wide := .inl rfl
 refine wp_ql (l := p.c) 0 rfl fun hb => ?_
 refine sx 5 ?_
 refine wp_scope ?_
 refine sx 6 ?_
 refine wp_cF rfl (by have := mt pol_nil.1 hp; simp [this]) ?_
 refine sx 11 ?_
 refine oq (.callR (yb := as1) (yc := qpoly_Monic p (hpB.pb.le (by omega)))) ?_
 refine om ?_
 refine oq (.callR (yb := asc (.inl rfl) as1) (yc := qpoly_Div _ _ hg0 hpB.monic hgB0 (add_mul_le (c := 14) (e := 2765) (by rw [Poly.monic_len]; omega) (Nat.le_refl _) (by omega)))) ?_
 refine sx 11 ?_
 refine on' (.makeSlice0R (yf := by decide) (yi := by omega) (yj := by dsimp only; omega) (yk := by omega)) ?_
 refine sx 7 ?_
 refine wp_l2 hK (krc 0 rfl (krc 2 rfl krn)) (khc 0 rfl khn) (fun sl' h' ((a, g, l) : Pol × Pol × List Pol) => ⟨(9, .own T_L_Rat 1 0 (l.map encP).length) :: (5, .t (encP g)) :: (6, .t (encP a)) :: sl', (1, some (.arr T_L_Rat ((l.map encP).map .t))) :: h', 2, 0⟩) (fun (a, g, l) => g ≠ 0 ∧ SqI p a g ∧ l.length + (a.len + g.len) ≤ p.len + 1 ∧ ∀ n, a.len + g.len ≤ n → l ++ Poly.sqfAux n a g = p.sqf) (fun (a, g, _) => a.len + g.len) (p.monic / p.gcd p.deriv, p.gcd p.deriv, []) ?_ (fun _ => rfl) ?_ ?_
 ·refine ⟨hg0, hI0, by have := hI0.len; simp only [List.length_nil]; omega, fun n hn => ?_⟩; rw [List.nil_append, Poly.sqf]; refine Poly.sqfAux_fuel _ _ _ _ hg0 hn ?_; have hd := Poly.dvd_len (Poly.gcd_is p p.deriv).left hp; have h1 := Poly.div_len (p := p.monic) hg0 (by rw [Poly.monic_len]; exact hd); rw [Poly.monic_len] at h1; omega
 ·exact imp_aw 9 rfl rfl (by rfl) (by rfl) ga ga rfl (by repeat' (first | exact trivial | refine ⟨Nat.le_of_ble_eq_true rfl, by exact olt_l rfl, ?_⟩)) rfl rfl
 ·rintro ⟨a, g, l⟩ ⟨hg, hI, hll2, hinv⟩
  refine sx 7 ?_
  refine wp_c rfl (fun hc => ?_) (fun hc => ?_)
  ·have ha : 1 < a.len := by simp at hc; omega
   obtain ⟨h1, h2, h3⟩ := Poly.sqf_step ha hg
   have heb := hI.eb hpB hp hn hpl13 ha
   have hI2 := hI.step
   obtain ⟨s1, s2⟩ := hI.sizes hpB hp hn hpl13
   obtain ⟨s3, s4⟩ := hI2.sizes hpB hp hn hpl13
   have hll := hI.len
   refine sx 3 ?_
   refine oq (.callR (yb := asc (.inl rfl) as1) (yc := qpoly_Gcd a g heb (by decide) (s1.pb.le (by decide)) (s2.pb.le (by decide)))) ?_
   refine sx 5 ?_
   refine oq (.callR (yb := asc (.inl rfl) as1) (yc := qpoly_Div a _ h1 s1 s3 (add_mul_le (c := 15) (e := 2765) (by omega) (Nat.le_refl _) (by decide)))) ?_
   refine sx 22 ?_
   refine oq (.callR (yb := asc (.inl rfl) as1) (yc := qpoly_Div g _ h1 s2 s3 (add_mul_le (c := 15) (e := 2765) (by omega) (Nat.le_refl _) (by decide)))) ?_
   refine sx 9 ?_
   exact round_n (a.gcd g, g / a.gcd g, l ++ [a / a.gcd g]) (by refine ⟨h2, hI2, by simp only [List.length_append, List.length_cons, List.length_nil]; omega, fun n hn => ?_⟩; have := hinv (a.len + g.len + n + 1) (by omega); rw [Poly.sqfAux, if_neg (by omega)] at this; rw [← this, Poly.sqfAux_fuel n (a.len + g.len + n) _ _ h2 hn (by omega)]; simp) (by exact h3) (by exact imp_aw 9 rfl rfl (by (simp; done)) (by (simp; done)) ga ga rfl (by repeat' (first | exact trivial | refine ⟨Nat.le_of_ble_eq_true rfl, by exact olt_l rfl, ?_⟩)) rfl rfl)
  ·have ha : a.len ≤ 1 := by simp at hc; omega
   refine sx 3 ?_
   refine blk_miss rfl ?_
   refine sx 3 ?_
   have hfin : l = p.sqf := by have := hinv (a.len + g.len) (Nat.le_refl _); rw [← this]; generalize a.len + g.len = n; cases n with | zero => simp [Poly.sqfAux] | succ n => rw [Poly.sqfAux, if_pos ha, List.append_nil]
   refine wp_imp hK (imp_fz 9 (l.map encP) rfl rfl rfl rfl) ?_
   refine sx 8 ?_
   refine dq (.sliceXR (yd := .inl rfl) (yh := by omega) (yi := by omega) (yj := by omega) (yk := by omega)) ?_
   refine sx 5 ?_
   refine scope_ret ?_
   exact ⟨.inr rfl, rfl, (by (refine res_c rfl rfl rfl rfl rfl ?_); (rfl)), (by (refine res_t rfl ?_); (rw [hfin]; simp [List.take_of_length_le])), (by (refine res_t rfl ?_); (rfl)), trivial⟩
theorem qpoly_mappedI (n : Nat) (hn : n ≤ 4398046511104) (f : FuncId) (caps : List Tr) (g : Nat → Int) (hf : ∀ i, i < n → FnP Tryz.prog tb f (.i .i64 i :: caps) (encI (g i))) :
  FnP Tryz.prog tb F_qpoly_mapped_api_Int [.i .i64 n, .fn f caps] (encIs ((List.range n).map g)) := by
 refine fn1 Tryz.func115 fun G hG hK hF => ?_
 refine sx 15 ?_
 refine wp_l2 hK (krc 1 rfl (krc 5 rfl (krc 10 rfl krn))) khn (fun sl' h' (i : Nat) => ⟨(11, .t (.i .i64 (i))) :: sl', (0, some (.arr T_Int ((List.range i).map (fun k => .t (encI (g k))) ++ List.replicate (n - i) (.t (encI 0))))) :: h', 1, 0⟩) (fun i => i ≤ n) (fun i => n - i) 0 ?_ (fun _ => rfl) ?_ ?_
 ·omega
 ·exact imp_less (by repeat' (first | exact trivial | (refine And.intro rfl ?_))) (by refine And.intro (geth rfl (by rw [Nat.sub_zero]; rfl)) trivial) (by exact Nat.le_of_ble_eq_true rfl)
 ·intro i hi
  refine sx 4 ?_
  refine wp_c rfl (fun hc => ?_) (fun hc => ?_)
  ·have hci : i < n := by simpa using hc
   refine sx 23 ?_
   exact round_n (i + 1) (by omega) (by omega) (by exact imp_less ga (by repeat' (first | exact trivial | (refine And.intro (by exact geth rfl (by rw [show 0 + ((i : Nat) : Int).toNat = i by omega]; exact set_fill (f := fun k => AV.t (encI (g k))) hci)) ?_))) (by exact Nat.le_of_ble_eq_true rfl))
  ·obtain rfl : i = n := by have : ¬ i < n := by { simpa using hc }; omega
   refine sx 5 ?_
   refine wp_imp hK (imp_fz 5 (((List.range i).map g).map encI) rfl rfl (by simp) (by simp)) ?_
   refine sx 5 ?_
   exact ⟨.inr rfl, rfl, (by (refine res_t rfl ?_); (rfl)), trivial⟩
theorem encIs_len {l : List Int} : (l.map encI).length = l.length := List.length_map _
theorem encIs_atn {l : List Int} {n : Int} {i : Nat} {x : Int} (e : n.toNat = i) (h : l[i]? = some x) : (l.map encI)[n.toNat]? = some (encI x) := by rw [e]; exact encIs_at h
section
variable {P : Program} {G : Gh} {F : Fence} {s : Sta} {c : Code} {Q : Exit → Sta → Prop}
theorem wp_zl (d : Nat) {l : List Int} (hd : Eng.get s.sl d = some (.t (encIs l))) (h : l.length ≤ 4398046511104 → WP P tb G F c s Q) : WP P tb G F c s Q :=
 wp_bound d hd fun hb => h (by
  have hb : (l.map encI).length * 32 ≤ 140737488355328 := hb
  rw [encIs_len] at hb; omega)
end
theorem qpoly_Primitive1 (l : List Int) (g : Int) (i : Nat) (hi : i < l.length) (hg : g ≠ 0) (hl16 : Fi 16 (l.getD i 0)) (hg16 : Fi 16 g) : FnP Tryz.prog tb F_qpoly_Primitive_c1 [.i .i64 i, .pt (encIs l), .pt (encI g)] (encI (l.getD i 0 / g)) := by
 have hx : l[i]? = some (l.getD i 0) := by rw [List.getD_eq_getElem?_getD, List.getElem?_eq_getElem hi]; rfl
 refine fn1 Tryz.func116 fun G hG hK hF => ?_
 refine sx 9 ?_
 refine dq (.callR (yb := asc (.inl rfl) as1) (yc := num_Div _ g hg hl16 hg16)) ?_
 refine sx 15 ?_
 exact ⟨.inr rfl, rfl, (by (refine res_c rfl rfl rfl rfl rfl ?_); (rfl)), trivial⟩
def gcdIs (l : List Int) : Int := l.foldl (fun a x => (Int.gcd a x : Int)) 0
theorem gcdIs_take {l : List Int} {i : Nat} {x : Int} (h : l[i]? = some x) : gcdIs (l.take (i + 1)) = (Int.gcd (gcdIs (l.take i)) x : Int) := by
 rw [List.take_add_one, h]; simp [gcdIs]
def numsQ (l : List Rat) : List Int := l.map fun q => q.num * (lcmQ l / q.den)
def primG (p : Pol) : Int := if (numsQ p.c).getD (p.c.length - 1) 0 < 0 then - gcdIs (numsQ p.c) else gcdIs (numsQ p.c)
def primN (p : Pol) : List Int := (List.range p.c.length).map fun i => (numsQ p.c).getD i 0 / primG p
def primC (p : Pol) : Rat := Rat.divInt (primG p) (lcmQ p.c)
theorem numsQ_ne {l : List Rat} {i : Nat} {q : Rat} (h : l[i]? = some q) (hq : q ≠ 0) : (numsQ l).getD i 0 ≠ 0 := by
 have e : (numsQ l).getD i 0 = q.num * (lcmQ l / q.den) := by simp [numsQ, List.getD_eq_getElem?_getD, h]
 rw [e]
 refine Int.mul_ne_zero (fun e => hq (Rat.num_eq_zero.1 e)) ?_
 obtain ⟨k, hk⟩ : ((q.den : Nat) : Int) ∣ lcmQ l := lcmI_dvd _ (List.mem_map.2 ⟨q, List.mem_of_getElem? h, rfl⟩)
 have hd : ((q.den : Nat) : Int) ≠ 0 := den_ne q
 rw [hk, Int.mul_ediv_cancel_left _ hd]
 intro e0
 have := lcmQ_pos l
 rw [hk, e0] at this; omega
theorem gcdIs_zero {l : List Int} (h : gcdIs l = 0) : ∀ x ∈ l, x = 0 := by
 have key : ∀ (l : List Int) (a : Int), l.foldl (fun a x => (Int.gcd a x : Int)) a = 0 → a = 0 ∧ ∀ x ∈ l, x = 0 := by
  intro l
  induction l with
  | nil => intro a h; exact ⟨h, fun x hx => by simp at hx⟩
  | cons y l ih =>
   intro a h
   obtain ⟨h1, h2⟩ := ih _ h
   have h3 : Int.gcd a y = 0 := by simpa using h1
   have h4 := Int.gcd_eq_zero_iff.1 h3
   exact ⟨h4.1, fun x hx => by rcases List.mem_cons.1 hx with rfl | hx; exact h4.2; exact h2 x hx⟩
 exact (key l 0 h).2
theorem primG_ne {p : Pol} (hp : p ≠ 0) : gcdIs (numsQ p.c) ≠ 0 ∧ primG p ≠ 0 := by
 have hl := Poly.len_pos hp
 have h1 : p.c[p.c.length - 1]? = some p.lead := by
  have : p.c.length - 1 < p.c.length := by have : p.len = p.c.length := rfl; omega
  rw [cf_at this]; rfl
 have h2 := numsQ_ne h1 (Poly.lead_ne hp)
 have h3 : gcdIs (numsQ p.c) ≠ 0 := fun e => by
  have hm : (numsQ p.c).getD (p.c.length - 1) 0 ∈ numsQ p.c := by
   rw [List.getD_eq_getElem?_getD, List.getElem?_eq_getElem (by simp [numsQ]; have : p.len = p.c.length := rfl; omega)]
   exact List.getElem_mem _
  exact h2 (gcdIs_zero e _ hm)
 refine ⟨h3, ?_⟩
 unfold primG; split <;> omega
theorem fi16_of {z : Int} {n : Nat} (h : wl z.natAbs ≤ n) (hn : n ≤ 274877906944) : Fi 16 z := ⟨Nat.le_trans h (by omega)⟩
theorem gcdIs_wl {n : Nat} {l : List Int} (hl : ∀ x ∈ l, wl x.natAbs ≤ n) : wl (gcdIs l).natAbs ≤ n := by
 suffices h : ∀ (l : List Int) (a : Int), wl a.natAbs ≤ n → (∀ x ∈ l, wl x.natAbs ≤ n) → wl (l.foldl (fun a x => (Int.gcd a x : Int)) a).natAbs ≤ n from h l 0 (Nat.zero_le _) hl
 intro l
 induction l with
 | nil => intro a ha _; exact ha
 | cons x l ih => intro a ha hl; exact ih _ (wl_gcd _ _ ha (hl x (by simp))) fun y hy => hl y (by simp [hy])
theorem qpoly_Primitive (p : Pol) (hp : p ≠ 0) {n : Nat} (hpB : CDB n p) (hn : n ≤ 274877906944) : FnP Tryz.prog tb F_qpoly_Primitive [encP p] (.tu [encQ (primC p), encIs (primN p), .i .i64 0]) := by
 have hpl : p.len = p.c.length := rfl
 have hpp := Poly.len_pos hp
 obtain ⟨hg0, hG0⟩ := primG_ne hp
 have hnl : (numsQ p.c).length = p.c.length := by simp [numsQ]
 have hlast : (numsQ p.c)[p.c.length - 1]? = some ((numsQ p.c).getD (p.c.length - 1) 0) := by rw [List.getD_eq_getElem?_getD, List.getElem?_eq_getElem (by omega)]; rfl
 have hnums : ∀ x ∈ numsQ p.c, wl x.natAbs ≤ n := hpB.nums
 have hpre : ∀ i, Fi 16 (gcdIs ((numsQ p.c).take i)) := fun i => fi16_of (gcdIs_wl fun x hx => hnums x (List.mem_of_mem_take hx)) hn
 have hG16 : Fi 16 (primG p) := by
  have h1 := gcdIs_wl hnums
  unfold primG
  split
  ·exact fi16_of (by rw [Int.natAbs_neg]; exact h1) hn
  ·exact fi16_of h1 hn
 refine fnP_T tbOk Tryz.func58 rfl rfl (Nat.le_of_ble_eq_true rfl) rfl fun G hG hK => ?_
 have hF : Wd Fence.wide := .inl rfl
 refine wp_ql (l := p.c) 0 rfl fun hb => ?_
 refine sx 11 ?_
 refine wp_cF rfl (by have := mt pol_nil.1 hp; simp [this]) ?_
 refine sx 4 ?_
 refine oq (.callR (yb := as1) (yc := (rat_Common p.c (fun i _ => ⟨Nat.le_trans (hpB.lcm i) (by omega)⟩) (fun q hq => by { obtain ⟨j, hj, rfl⟩ := List.mem_iff_getElem.1 hq; have := hpB.pb.co j; rw [show p.co j = p.c[j] from cf_lt hj] at this; exact this.le (by omega) }) : FnP Tryz.prog tb F_rat_Common [encP p] (.tu [encIs (numsQ p.c), encI (lcmQ p.c), .i .i64 0])))) ?_
 refine sx 15 ?_
 refine wp_cF rfl (by rfl) ?_
 refine sx 3 ?_
 refine oq (.callR (yb := as1) (yc := num_Of 0 (by decide) (by decide))) ?_
 refine sx 10 ?_
 refine wp_l2 hK (krc 2 rfl (krc 5 rfl (krc 6 rfl (krc 7 rfl (krc 25 rfl (krc 26 rfl krn)))))) (khc 0 rfl (khc 1 rfl (khc 2 rfl khn))) (fun sl' h' (i : Nat) => ⟨(27, .t (.i .i64 (i))) :: sl', (3, some (.arr T_Int [.t (encI (gcdIs ((numsQ p.c).take i)))])) :: h', 4, 0⟩) (fun i => i ≤ p.c.length) (fun i => p.c.length - i) 0 ?_ (fun _ => rfl) ?_ ?_
 ·omega
 ·exact il
 ·intro i hi
  refine sx 4 ?_
  refine wp_c rfl (fun hc => ?_) (fun hc => ?_)
  ·have hci : i < p.c.length := by simpa using hc
   obtain ⟨x, hx⟩ : ∃ x, (numsQ p.c)[i]? = some x := ⟨_, List.getElem?_eq_getElem (by omega)⟩
   refine sx 13 ?_
   refine oq (.callR (yb := asc (.inl rfl) as1) (yc := num_Gcd _ x (hpre i) (fi16_of (hnums x (List.mem_of_getElem? hx)) hn))) ?_
   refine sx 8 ?_
   exact round_n (i + 1) (by omega) (by omega) (by exact imp_trim ga (by repeat' (first | exact trivial | (refine And.intro (by first | rfl | exact geth rfl (by rw [gcdIs_take hx]; rfl)) ?_))) rfl (by repeat' (first | exact trivial | refine ⟨Nat.le_of_ble_eq_true rfl, by exact olt_l rfl, ?_⟩)))
  ·obtain rfl : i = p.c.length := by { have : ¬ i < p.c.length := by { simpa using hc }; omega }
   refine sx 5 ?_
   refine wp_j2 hK (krc 2 rfl (krc 5 rfl (krc 6 rfl (krc 7 rfl krn)))) (khc 0 rfl (khc 1 rfl (khc 2 rfl khn))) (fun sl' h' (_ : Unit) => ⟨sl', (3, some (.arr T_Int [.t (encI (primG p))])) :: h', 4, 0⟩) (fun _ => True) (fun _ => rfl) ?_ ?_
   ·rw [List.take_of_length_le (Nat.le_of_eq hnl)]
    refine rr ?_
    refine oq (.loadPR (yd := by rfl)) ?_
    refine oq (.loadPR (yd := by rfl)) ?_
    refine oq (.lenR (yc := .inl rfl) (yd := by exact encIs_len.trans hnl)) ?_
    refine oq (.arithR (yd := by exact wrap_i64 (by omega))) ?_
    refine oq (.indexAddrR (yf := by omega) (yg := by exact encIs_atn (i := p.c.length - 1) (by omega) hlast)) ?_
    refine sx 4 ?_
    refine wp_c rfl (fun hc => ?_) (fun hc => ?_)
    ·have hneg : (numsQ p.c).getD (p.c.length - 1) 0 < 0 := Int.sign_neg_iff.1 (by simpa using hc)
     refine sx 2 ?_
     refine oq (.callR (yb := as1) (yc := num_Neg _)) ?_
     refine sx 2 ?_
     exact join_n () (by trivial) (by exact imp_less ga (by repeat' (first | exact trivial | (refine And.intro (by first | rfl | exact geth rfl (by rw [primG, if_pos hneg]; rfl)) ?_))) (by exact Nat.le_of_ble_eq_true rfl))
    ·have hneg : ¬ (numsQ p.c).getD (p.c.length - 1) 0 < 0 := fun h => by rw [Int.sign_eq_neg_one_of_neg h] at hc; simp at hc
     refine wp_k ?_
     exact join_n () (by trivial) (by exact imp_less ga (by repeat' (first | exact trivial | (refine And.intro (by first | rfl | exact geth rfl (by rw [primG, if_neg hneg])) ?_))) (by exact Nat.le_of_ble_eq_true rfl))
   ·intro i hi
    refine wp_imp hK (imp_freezePt 7 rfl rfl) ?_
    refine wp_imp hK (imp_freezePt 5 rfl rfl) ?_
    refine rr ?_
    refine oq .loadR ?_
    refine oq (.lenR (yc := .inl rfl) (yd := by exact encIs_len.trans hnl)) ?_
    refine oq (.fnR (ya := asc (.inl rfl) as1)) ?_
    refine oq (.callR (yb := asc (.inl rfl) as1) (yc := qpoly_mappedI p.c.length (by omega) F_qpoly_Primitive_c1 _ (fun i => (numsQ p.c).getD i 0 / primG p) (fun i hi => qpoly_Primitive1 (numsQ p.c) (primG p) i (by omega) hG0 (fi16_of (hnums _ (by { rw [List.getD_eq_getElem?_getD, List.getElem?_eq_getElem (show i < (numsQ p.c).length by omega)]; exact List.getElem_mem _ })) hn) hG16))) ?_
    refine sx 5 ?_
    refine oq (.callR (yb := asc (.inl rfl) as1) (yc := rat_Make _ _ (by have := lcmQ_pos p.c; omega) hG16 (fi16_of hpB.lcmQ hn))) ?_
    refine sx 15 ?_
    exact ⟨.inr rfl, rfl, (by (refine res_c rfl rfl rfl rfl rfl ?_); (rfl)), (by (refine res_t rfl ?_); (rfl)), (by (refine res_t rfl ?_); (rfl)), trivial⟩
theorem ref01_Is (neg : Bool) (ws : List Nat) : FnP Tryz.prog tb F_ref01_Is [rawI neg ws] (.b (isW neg ws)) := by
 refine fn1 Tryz.func61 fun G hG hK hF => ?_
 refine wp_il 0 rfl fun hb => ?_
 refine sx 15 ?_
 refine wp_c rfl (fun hc => ?_) (fun hc => ?_)
 ·have hc : ws.length = 0 := by simpa using hc
  refine sx 8 ?_
  exact ⟨.inr rfl, rfl, (by (refine res_t rfl ?_); (simp [isW, hc])), trivial⟩
 ·have hc : ws.length ≠ 0 := by simpa using hc
  refine sx 13 ?_
  exact ⟨.inr rfl, rfl, (by (refine res_t rfl ?_); (rw [show ((ws.length : Int) - 1).toNat = ws.length - 1 by omega]; simp [isW, hc, bne, BEq.beq])), trivial⟩
theorem ref01_trim (ws : List Nat) : FnP Tryz.prog tb F_ref01_trim [.sl T_uint32 (wds ws)] (.sl T_uint32 (wds (trimW ws))) := by
 refine fn1 Tryz.func164 fun G hG hK hF => ?_
 refine wp_wl 0 rfl fun hb => ?_
 refine sx 10 ?_
 refine wp_l2 hK (krc 0 rfl krn) khn (fun sl' h' (n : Nat) => ⟨(3, .t (.i .i64 (n))) :: sl', h', 0, 0⟩) (fun n => n ≤ ws.length ∧ ∀ i, n ≤ i → ws.getD i 0 = 0) (fun n => n) ws.length ?_ (fun _ => rfl) ?_ ?_
 ·exact ⟨Nat.le_refl _, fun i hi => by simp [List.getD_eq_getElem?_getD, List.getElem?_eq_none hi]⟩
 ·exact il
 ·rintro n ⟨hn, hz⟩
  refine wp_s ?_
  rcases n with _ | n
  ·refine sx 12 ?_
   refine wp_c rfl (fun hc => ?_) (fun hc => ?_)
   ·simp at hc
   ·have hv : ws.take 0 = trimW ws := by rw [← trimW_take hz]; rfl
    refine sx 12 ?_
    exact ⟨.inr rfl, rfl, (by (refine res_t rfl ?_); (rw [← hv]; rfl)), trivial⟩
  ·refine sx 7 ?_
   refine gq (z := by (simp; done)) (.indexAddrR (yf := by omega) (yg := by exact wds_at2 n (by omega) (by omega))) ?_
   refine sx 4 ?_
   refine wp_c rfl (fun hc => ?_) (fun hc => ?_)
   ·have hc : ws.getD n 0 = 0 := by simpa using hc
    refine sx 9 ?_
    exact round_n n (by exact ⟨by omega, fun i hi => by rcases Nat.eq_or_lt_of_le hi with rfl | h; exact hc; exact hz i h⟩) (by omega) (by exact imp_less (by repeat' (first | exact trivial | (refine And.intro (by first | rfl | exact geti rfl (by omega)) ?_))) gb (by exact Nat.le_of_ble_eq_true rfl))
   ·have hl : ws.getD n 0 ≠ 0 := by simpa using hc
    refine sx 8 ?_
    refine oq (.sliceR (yd := .inl rfl) (yf := ⟨_, rfl⟩) (yg := by omega) (yh := by omega) (yi := by (simp [wds_len]; omega))) ?_
    refine sx 3 ?_
    have hx : ws.take (n + 1) = trimW ws := by
     rw [← trimW_take hz]
     refine (trimW_of_last (.inr ?_)).symm
     rw [List.length_take, Nat.min_eq_left hn, List.getD_eq_getElem?_getD, List.getElem?_take]
     simpa [List.getD_eq_getElem?_getD] using hl
    exact ⟨.inr rfl, rfl, (by (refine res_t rfl ?_); (rw [← hx]; simp [wds])), trivial⟩
theorem digits_trimW {ws : List Nat} (hw : Words ws) : trimW ws = digits (val ws) := (digits_eq_trim hw).symm
theorem ref01_trimD (ws : List Nat) (hw : Words ws) : FnP Tryz.prog tb F_ref01_trim [.sl T_uint32 (wds ws)] (.sl T_uint32 (wds (digits (val ws)))) := by
 rw [← digits_trimW hw]; exact ref01_trim ws
theorem ref01_made (neg : Bool) (ws : List Nat) (hw : Words ws) : FnP Tryz.prog tb F_ref01_made [.b neg, .sl T_uint32 (wds ws)] (encI (sgn neg (val ws))) := by
 refine fn1 Tryz.func120 fun G hG hK hF => ?_
 refine sx 5 ?_
 refine oq (.callR (yb := as1) (yc := ref01_trimD ws hw)) ?_
 refine sx 8 ?_
 refine wp_c rfl (fun hc => ?_) (fun hc => ?_)
 ·have hv : val ws = 0 := digits_len.1 (bz hc)
  refine sx 6 ?_
  exact ⟨.inr rfl, rfl, (by (refine res_c rfl rfl rfl rfl rfl ?_); (rw [hv]; cases neg <;> rfl)), trivial⟩
 ·have hv : val ws ≠ 0 := fun h => bnz hc (digits_len.2 h)
  refine sx 2 ?_
  refine wp_wl 1 rfl fun hb => ?_
  refine sx 2 ?_
  refine on' (.buildSliceMR (ye := asn) (yg := by decide) (yj := by decide) (yk := by decide)) ?_
  refine om ?_
  refine oed (.appendFR (yd := by decide) (ye := by decide) (yl := .inl rfl) (ym := by exact wds_flat) (yn := by (simp [wds_len]; omega))) ?_
  refine sx 4 ?_
  exact ⟨.inr rfl, rfl, (by (refine res_c rfl rfl rfl rfl rfl ?_); (rw [encI_sgn hv]; rfl)), trivial⟩
theorem int_ext {a b : Int} (h1 : decide (a < 0) = decide (b < 0)) (h2 : digits a.natAbs = digits b.natAbs) : a = b := by
 have h := digits_inj h2
 have h3 : a < 0 ↔ b < 0 := by simpa using h1
 omega
theorem ref01_Same (a b : Int) : FnP Tryz.prog tb F_ref01_Same [encI a, encI b] (.b (decide (a = b))) := by
 refine fn1 Tryz.func64 fun G hG hK hF => ?_
 refine wp_il 0 rfl fun h0 => ?_
 refine wp_il 1 rfl fun h1 => ?_
 refine sx 6 ?_
 by_cases hs : decide (a < 0) = decide (b < 0)
 ·refine sx 16 ?_
  refine wp_c rfl (fun hc => ?_) (fun hc => ?_)
  ·have hne : (digits a.natAbs).length ≠ (digits b.natAbs).length := by simp at hc; omega
   refine sx 5 ?_
   exact ⟨.inr rfl, rfl, (by (refine res_t rfl ?_); (exact trb (by rw [eq_comm, decide_eq_false_iff_not]; rintro rfl; exact hne rfl))), trivial⟩
  ·have hle : (digits a.natAbs).length = (digits b.natAbs).length := by simp at hc; omega
   refine sx 7 ?_
   refine wp_l2 hK (krc 2 rfl (krc 3 rfl krn)) khn (fun sl' h' (i : Nat) => ⟨(5, .t (.i .i64 (i))) :: sl', h', 0, 0⟩) (fun i => i ≤ (digits a.natAbs).length ∧ ∀ j, j < i → (digits a.natAbs).getD j 0 = (digits b.natAbs).getD j 0) (fun i => (digits a.natAbs).length - i) 0 ?_ (fun _ => rfl) ?_ ?_
   ·exact ⟨Nat.zero_le _, fun j hj => by omega⟩
   ·exact il
   ·rintro i ⟨hi, he⟩
    refine sx 8 ?_
    refine wp_c rfl (fun hc => ?_) (fun hc => ?_)
    ·have hci : i < (digits a.natAbs).length := by simp at hc; omega
     refine sx 17 ?_
     refine wp_c rfl (fun hc => ?_) (fun hc => ?_)
     ·have hq : (digits a.natAbs).getD i 0 ≠ (digits b.natAbs).getD i 0 := by simp at hc; simp; omega
      refine sx 9 ?_
      exact ⟨.inr rfl, rfl, (by (refine res_t rfl ?_); (exact trb (by rw [eq_comm, decide_eq_false_iff_not]; rintro rfl; exact hq rfl))), trivial⟩
     ·have hq : (digits a.natAbs).getD i 0 = (digits b.natAbs).getD i 0 := by simp at hc; simp; omega
      refine sx 8 ?_
      exact round_n (i + 1) (by exact ⟨by omega, fun j hj => by rcases Nat.eq_or_lt_of_le (Nat.le_of_lt_succ hj) with rfl | h; exact hq; exact he j h⟩) (by omega) (by exact il)
    ·obtain rfl : i = (digits a.natAbs).length := by simp at hc; omega
     refine sx 9 ?_
     exact ⟨.inr rfl, rfl, (by (refine res_t rfl ?_); (exact trb (by rw [eq_comm, decide_eq_true_iff]; refine int_ext hs (getD_ext hle fun j => ?_); rcases Nat.lt_or_ge j (digits a.natAbs).length with h | h; exact he j h; rw [List.getD_eq_getElem?_getD, List.getD_eq_getElem?_getD, List.getElem?_eq_none h, List.getElem?_eq_none (by omega)]))), trivial⟩
 ·refine sx 16 ?_
  refine wp_cT rfl (by rfl) ?_
  refine sx 5 ?_
  exact ⟨.inr rfl, rfl, (by (refine res_t rfl ?_); (exact trb (by rw [eq_comm, decide_eq_false_iff_not]; rintro rfl; exact hs rfl))), trivial⟩
theorem ref01_cmpWords (m n : Nat) : FnP Tryz.prog tb F_ref01_cmpWords [.sl T_uint32 (wds (digits m)), .sl T_uint32 (wds (digits n))] (.i .i64 (cmpN m n)) := by
 refine fn1 Tryz.func175 fun G hG hK hF => ?_
 refine wp_wl 0 rfl fun h0 => ?_
 refine wp_wl 1 rfl fun h1 => ?_
 refine sx 11 ?_
 refine wp_c rfl (fun hc => ?_) (fun hc => ?_)
 ·have hne : (digits m).length ≠ (digits n).length := by simp at hc; omega
  refine sx 8 ?_
  refine wp_c rfl (fun hc => ?_) (fun hc => ?_)
  ·refine sx 6 ?_
   exact ⟨.inr rfl, rfl, (by (refine res_t rfl ?_); (rw [cmpN_lt (len_lt (by simp at hc; omega))])), trivial⟩
  ·refine sx 7 ?_
   exact ⟨.inr rfl, rfl, (by (refine res_t rfl ?_); (rw [cmpN_gt (len_lt (by simp at hc; omega))])), trivial⟩
 ·have hle : (digits m).length = (digits n).length := by simp at hc; omega
  refine sx 10 ?_
  refine wp_l2 hK (krc 0 rfl (krc 1 rfl krn)) khn (fun sl' h' (k : Nat) => ⟨(5, .t (.i .i64 ((k : Int) - 1))) :: sl', h', 0, 0⟩) (fun k => k ≤ (digits m).length ∧ ∀ j, k ≤ j → (digits m).getD j 0 = (digits n).getD j 0) (fun k => k) (digits m).length ?_ (fun _ => rfl) ?_ ?_
  ·exact ⟨Nat.le_refl _, fun j hj => by rw [List.getD_eq_getElem?_getD, List.getD_eq_getElem?_getD, List.getElem?_eq_none hj, List.getElem?_eq_none (by omega)]⟩
  ·exact il
  ·rintro k ⟨hk, he⟩
   refine sx 5 ?_
   refine wp_c rfl (fun hc => ?_) (fun hc => ?_)
   ·obtain ⟨k, rfl⟩ : ∃ j, k = j + 1 := ⟨k - 1, by simp at hc; omega⟩
    have e : ((k + 1 : Nat) : Int) - 1 = (k : Int) := by omega
    rw [e]
    refine sx 16 ?_
    refine wp_c rfl (fun hc => ?_) (fun hc => ?_)
    ·have hq : (digits m).getD k 0 < (digits n).getD k 0 := by simpa using hc
     refine sx 10 ?_
     exact ⟨.inr rfl, rfl, (by (refine res_t rfl ?_); (rw [cmpN_lt (by have := lt_at _ _ k hle (digits_words m) (digits_words n) (fun j hj => he j (by omega)) hq; simpa [val_digits] using this)])), trivial⟩
    ·have hq1 : ¬ (digits m).getD k 0 < (digits n).getD k 0 := by simpa using hc
     refine sx 13 ?_
     refine wp_c rfl (fun hc => ?_) (fun hc => ?_)
     ·have hq2 : (digits n).getD k 0 < (digits m).getD k 0 := by simpa using hc
      refine sx 9 ?_
      exact ⟨.inr rfl, rfl, (by (refine res_t rfl ?_); (rw [cmpN_gt (by have := lt_at _ _ k hle.symm (digits_words n) (digits_words m) (fun j hj => (he j (by omega)).symm) hq2; simpa [val_digits] using this)])), trivial⟩
     ·have hq2 : ¬ (digits n).getD k 0 < (digits m).getD k 0 := by simpa using hc
      have hq : (digits m).getD k 0 = (digits n).getD k 0 := by omega
      refine sx 8 ?_
      exact round_n k (by exact ⟨by omega, fun j hj => by rcases Nat.eq_or_lt_of_le hj with rfl | h; exact hq; exact he j h⟩) (by omega) (by exact il)
   ·obtain rfl : k = 0 := by simp at hc; omega
    refine sx 9 ?_
    exact ⟨.inr rfl, rfl, (by (refine res_t rfl ?_); (rw [cmpN_eq (digits_inj (getD_ext hle fun j => he j (by omega)))])), trivial⟩
theorem ref01_word (ws : List Nat) (hw : Words ws) (i : Nat) (hi : (i : Int) < 9223372036854775808) : FnP Tryz.prog tb F_ref01_word [.sl T_uint32 (wds ws), .i .i64 i] (.i .u64 (ws.getD i 0 : Nat)) := by
 refine fn1 Tryz.func165 fun G hG hK hF => ?_
 have hg := hw.getD i
 refine wp_wl 0 rfl fun hb => ?_
 refine sx 10 ?_
 refine wp_c rfl (fun hc => ?_) (fun hc => ?_)
 ·have hc : i < ws.length := by simpa using hc
  refine sx 5 ?_
  refine oq (.convR (yf := by exact wrap_u64 (by have e : ((i : Nat) : Int).toNat = i := rfl; rw [e]; omega))) ?_
  refine sx 4 ?_
  exact ⟨.inr rfl, rfl, (by (refine res_t rfl ?_); (rfl)), trivial⟩
 ·have hc : ws.length ≤ i := by simpa using hc
  refine sx 6 ?_
  exact ⟨.inr rfl, rfl, (by (refine res_t rfl ?_); (exact tri (by rw [List.getD_eq_getElem?_getD, List.getElem?_eq_none hc]; rfl))), trivial⟩
theorem val_snoc (w : List Nat) (x : Nat) : val (w ++ [x]) = val w + 4294967296 ^ w.length * x := by rw [val_append]; simp [val]
theorem getD_end {a : List Nat} {i : Nat} (h : a.length ≤ i) : a.getD i 0 = 0 := by rw [List.getD_eq_getElem?_getD, List.getElem?_eq_none h]; rfl
theorem take_val {a : List Nat} {i : Nat} : val (a.take (i + 1)) = val (a.take i) + 4294967296 ^ i * a.getD i 0 := by
 rcases Nat.lt_or_ge i a.length with h | h
 ·exact val_take_succ h
 ·rw [List.take_of_length_le (by omega), List.take_of_length_le h, getD_end h, Nat.mul_zero, Nat.add_zero]
theorem wds_snoc {w : List Nat} {x : Nat} : wds w ++ [.i .u32 (x : Int)] = wds (w ++ [x]) := by simp [wds]
theorem add_law {V A B P x y c s : Nat} (hs : x + y + c = s) (h : V + P * c = A + B) : V + P * (s % 4294967296) + P * 4294967296 * (s / 4294967296) = A + P * x + (B + P * y) := by
 have := Nat.div_add_mod s 4294967296
 generalize s / 4294967296 = d at *
 generalize s % 4294967296 = m at *
 subst hs
 grind
theorem sub_law {V A B P x y c s : Nat} (hs : x + 4294967296 - y - c = s) (hy : y + c ≤ 4294967296) (hs2 : s / 4294967296 ≤ 1) (h : V + B = A + P * c) : V + P * (s % 4294967296) + (B + P * y) = A + P * x + P * 4294967296 * (1 - s / 4294967296) := by
 have h1 := Nat.div_add_mod s 4294967296
 generalize s % 4294967296 = m at *
 have e : x + 4294967296 = 4294967296 * (s / 4294967296) + m + y + c := by omega
 generalize s / 4294967296 = d at *
 have e2 : x + 4294967296 * (1 - d) = m + y + c := by omega
 generalize 1 - d = f at *
 grind
theorem ref01_addWords (a b : List Nat) (ha : Words a) (hb : Words b) (hla : a.length < 35184372088832) (hlb : b.length < 35184372088832) : FnP Tryz.prog tb F_ref01_addWords [.sl T_uint32 (wds a), .sl T_uint32 (wds b)] (.sl T_uint32 (wds (digits (val a + val b)))) := by
 refine fn1 Tryz.func176 fun G hG hK hF => ?_
 refine wp_wl 0 rfl fun h0 => ?_
 refine wp_wl 1 rfl fun h1 => ?_
 refine sx 14 ?_
 refine wp_l2 hK (krc 0 rfl (krc 1 rfl krn)) khn (fun sl' h' ((i, w, c) : Nat × List Nat × Nat) => ⟨(5, ap T_uint32 0 (wds w)) :: (6, .t (.i .u64 (c))) :: (7, .t (.i .i64 (i))) :: sl', (0, apO T_uint32 (wds w)) :: h', 1, 0⟩) (fun (i, w, c) => i ≤ max a.length b.length ∧ w.length = i ∧ Words w ∧ c ≤ 1 ∧ val w + 4294967296 ^ i * c = val (a.take i) + val (b.take i)) (fun (i, _, _) => max a.length b.length - i) (0, [], 0) ?_ (fun _ => rfl) ?_ ?_
 ·exact ⟨Nat.zero_le _, rfl, .nil, by omega, rfl⟩
 ·exact imp_ap0 5 rfl (by rfl) ga gb rfl gb rfl
 ·rintro ⟨i, w, c⟩ ⟨hi, hl, hw, hc1, hv⟩
  refine wp_s ?_
  by_cases ht : i < a.length
  ·refine sx 12 ?_
   refine wp_cT rfl (by rfl) ?_
   refine sx 11 ?_
   refine oq (.arithR (yd := by exact (wrap_u64 (by have := ha.getD i; have := hb.getD i; omega)).trans (rfl : _ = ((a.getD i 0 + b.getD i 0 : Nat) : Int)))) ?_
   refine om ?_
   refine oq (.arithR (yd := by exact (wrap_u64 (by have := ha.getD i; have := hb.getD i; omega)).trans (rfl : _ = ((a.getD i 0 + b.getD i 0 + c : Nat) : Int)))) ?_
   refine sx 22 ?_
   have := ha.getD i
   have := hb.getD i
   exact round_n (i + 1, w ++ [(a.getD i 0 + b.getD i 0 + c) % 4294967296], (a.getD i 0 + b.getD i 0 + c) / 4294967296) (by refine ⟨by omega, by simp [hl], hw.append (.cons (by omega) .nil), by omega, ?_⟩; rw [val_snoc, take_val, take_val, hl, Nat.pow_succ]; exact add_law rfl hv) (by (dsimp only; omega)) (by exact imp_ap 5 rfl rfl (by exact wds_snoc) ga gb rfl gb rfl rfl)
  ·refine sx 12 ?_
   refine wp_c rfl (fun hc => ?_) (fun hc => ?_)
   ·have ht2 : i < b.length := by simpa using hc
    refine sx 11 ?_
    refine oq (.arithR (yd := by exact (wrap_u64 (by have := ha.getD i; have := hb.getD i; omega)).trans (rfl : _ = ((a.getD i 0 + b.getD i 0 : Nat) : Int)))) ?_
    refine om ?_
    refine oq (.arithR (yd := by exact (wrap_u64 (by have := ha.getD i; have := hb.getD i; omega)).trans (rfl : _ = ((a.getD i 0 + b.getD i 0 + c : Nat) : Int)))) ?_
    refine sx 22 ?_
    have := ha.getD i
    have := hb.getD i
    exact round_n (i + 1, w ++ [(a.getD i 0 + b.getD i 0 + c) % 4294967296], (a.getD i 0 + b.getD i 0 + c) / 4294967296) (by refine ⟨by omega, by simp [hl], hw.append (.cons (by omega) .nil), by omega, ?_⟩; rw [val_snoc, take_val, take_val, hl, Nat.pow_succ]; exact add_law rfl hv) (by (dsimp only; omega)) (by exact imp_ap 5 rfl rfl (by exact wds_snoc) ga gb rfl gb rfl rfl)
   ·have ht2 : b.length ≤ i := by simpa using hc
    refine sx 13 ?_
    refine wp_imp hK (imp_apF 5 rfl rfl (ts' := wds (w ++ [c % 4294967296])) wds_snoc) ?_
    refine sx 2 ?_
    refine oq (.callR (yb := as1) (yc := ref01_trimD _ (hw.append (.cons (by omega) .nil)))) ?_
    refine sx 3 ?_
    exact ⟨.inr rfl, rfl, (by (refine res_t rfl ?_); (rw [val_snoc, hl, Nat.mod_eq_of_lt (by omega), hv, List.take_of_length_le (by omega), List.take_of_length_le ht2])), trivial⟩
theorem ref01_subWords (m n : Nat) (hmn : n ≤ m) : FnP Tryz.prog tb F_ref01_subWords [.sl T_uint32 (wds (digits m)), .sl T_uint32 (wds (digits n))] (.sl T_uint32 (wds (digits (m - n)))) := by
 have ha := digits_words m
 have hb := digits_words n
 refine fn1 Tryz.func177 fun G hG hK hF => ?_
 refine wp_wl 0 rfl fun h0 => ?_
 refine wp_wl 1 rfl fun h1 => ?_
 refine sx 14 ?_
 refine wp_l2 hK (krc 0 rfl (krc 1 rfl krn)) khn (fun sl' h' ((i, w, c) : Nat × List Nat × Nat) => ⟨(5, ap T_uint32 0 (wds w)) :: (6, .t (.i .u64 (c))) :: (7, .t (.i .i64 (i))) :: sl', (0, apO T_uint32 (wds w)) :: h', 1, 0⟩) (fun (i, w, c) => i ≤ (digits m).length ∧ w.length = i ∧ Words w ∧ c ≤ 1 ∧ val w + val ((digits n).take i) = val ((digits m).take i) + 4294967296 ^ i * c) (fun (i, _, _) => (digits m).length - i) (0, [], 0) ?_ (fun _ => rfl) ?_ ?_
 ·exact ⟨Nat.zero_le _, rfl, .nil, by omega, rfl⟩
 ·exact imp_ap0 5 rfl (by rfl) ga gb rfl gb rfl
 ·rintro ⟨i, w, c⟩ ⟨hi, hl, hw, hc1, hv⟩
  have g1 := ha.getD i
  have g2 := hb.getD i
  refine sx 7 ?_
  refine wp_c rfl (fun hc => ?_) (fun hc => ?_)
  ·have hci : i < (digits m).length := by simpa using hc
   refine sx 7 ?_
   refine oq (.callR (yb := asc (.inl rfl) as1) (yc := ref01_word _ ha i (by omega))) ?_
   refine sx 3 ?_
   refine oq (.callR (yb := asc (.inl rfl) as1) (yc := ref01_word _ hb i (by omega))) ?_
   refine sx 2 ?_
   refine oq (.arithR (yd := by exact (wrap_u64 (by omega)).trans (by omega : _ = (((digits m).getD i 0 + 4294967296 - (digits n).getD i 0 - c : Nat) : Int)))) ?_
   refine sx 12 ?_
   refine oq (.shrR (yc := by omega) (yd := by exact (shr32.trans (by omega : _ = ((((digits m).getD i 0 + 4294967296 - (digits n).getD i 0 - c) / 4294967296 : Nat) : Int))))) ?_
   refine oq (.arithR (yd := by exact (wrap_u64 (by omega)).trans (by omega : _ = ((1 - ((digits m).getD i 0 + 4294967296 - (digits n).getD i 0 - c) / 4294967296 : Nat) : Int)))) ?_
   refine sx 9 ?_
   exact round_n (i + 1, w ++ [((digits m).getD i 0 + 4294967296 - (digits n).getD i 0 - c) % 4294967296], 1 - ((digits m).getD i 0 + 4294967296 - (digits n).getD i 0 - c) / 4294967296) (by refine ⟨by omega, by simp [hl], hw.append (.cons (by omega) .nil), by omega, ?_⟩; rw [val_snoc, take_val, take_val, hl, Nat.pow_succ]; exact sub_law rfl (by omega) (by omega) hv) (by (dsimp only; omega)) (by exact imp_ap 5 rfl rfl (by exact wds_snoc) ga gb rfl gb rfl rfl)
  ·obtain rfl : i = (digits m).length := by { have : ¬ i < (digits m).length := by { simpa using hc }; omega }
   refine sx 5 ?_
   have hvl := val_lt hw
   have hnm := len_le hmn
   rw [List.take_length, List.take_of_length_le hnm, val_digits, val_digits] at hv
   have hc0 : c = 0 := by rcases (show c = 0 ∨ c = 1 by omega) with rfl | rfl; rfl; rw [hl] at hvl; omega
   have hfin : val w = m - n := by rw [hc0] at hv; omega
   refine wp_imp hK (imp_apF 5 rfl rfl (ts' := wds w) rfl) ?_
   refine sx 2 ?_
   refine oq (.callR (yb := as1) (yc := ref01_trimD _ hw)) ?_
   refine sx 3 ?_
   exact ⟨.inr rfl, rfl, (by (refine res_t rfl ?_); (rw [hfin])), trivial⟩
theorem ref01_mulWords (a b : List Nat) (ha : Words a) (hb : Words b) (hlab : a.length + b.length ≤ 35184372088832) : FnP Tryz.prog tb F_ref01_mulWords [.sl T_uint32 (wds a), .sl T_uint32 (wds b)] (.sl T_uint32 (wds (digits (val a * val b)))) := by
 refine fn1 Tryz.func155 fun G hG hK hF => ?_
 refine wp_wl 0 rfl fun h0 => ?_
 refine wp_wl 1 rfl fun h1 => ?_
 refine sx 17 ?_
 refine wp_l2 hK (krc 0 rfl (krc 1 rfl krn)) khn (fun sl' h' ((q, u) : Nat × List Nat) => ⟨(5, .own T_uint32 0 0 (a.length + b.length)) :: (6, .t (.i .i64 (q))) :: sl', (0, some (.arr T_uint32 ((wds u).map .t))) :: h', 1, 0⟩) (fun (q, u) => q ≤ a.length ∧ u.length = a.length + b.length ∧ Words u ∧ val u = val (a.take q) * val b ∧ ∀ k, q + b.length ≤ k → u.getD k 0 = 0) (fun (q, _) => a.length - q) (0, List.replicate (a.length + b.length) 0) ?_ (fun _ => rfl) ?_ ?_
 ·exact ⟨Nat.zero_le _, by simp, fun w hw => by rw [List.eq_of_mem_replicate hw]; decide, by simp [val_zeros, val], fun k _ => by simp [List.getD_eq_getElem?_getD, List.getElem?_replicate]; split <;> rfl⟩
 ·exact imp_less ga (by repeat' (first | exact trivial | (refine And.intro (by exact geth rfl (by (simp [wds]; omega))) ?_))) (by exact Nat.le_of_ble_eq_true rfl)
 ·rintro ⟨i, out⟩ ⟨hi, hlen, hwo, hv, hz⟩
  refine sx 7 ?_
  refine wp_c rfl (fun hc => ?_) (fun hc => ?_)
  ·have hci : i < a.length := by simp at hc; omega
   refine sx 12 ?_
   refine wp_l2 hK (krc 0 rfl (krc 1 rfl (krc 6 rfl krn))) khn (fun sl' h' ((q, u, d) : Nat × List Nat × Nat) => ⟨(5, .own T_uint32 0 0 (a.length + b.length)) :: (7, .t (.i .u64 (d))) :: (8, .t (.i .i64 (q))) :: sl', (0, some (.arr T_uint32 ((wds u).map .t))) :: h', 1, 0⟩) (fun (q, u, d) => q ≤ b.length ∧ u.length = a.length + b.length ∧ Words u ∧ d < 4294967296 ∧ val u + d * (4294967296 ^ i * 4294967296 ^ q) = val out + a.getD i 0 * val (b.take q) * 4294967296 ^ i ∧ ∀ k, i + b.length ≤ k → u.getD k 0 = 0) (fun (q, _) => b.length - q) (0, out, 0) ?_ (fun _ => rfl) ?_ ?_
   ·exact ⟨Nat.zero_le _, hlen, hwo, by simp, by simp [val], hz⟩
   ·exact il
   ·rintro ⟨j, o, c⟩ ⟨hj, hlo, hwo2, hcl, hvo, hzo⟩
    refine sx 7 ?_
    refine wp_c rfl (fun hc => ?_) (fun hc => ?_)
    ·have hc2 : j < b.length := by simp at hc; omega
     have gx := ha.getD i
     have gy := hb.getD j
     have go := hwo2.getD (i + j)
     have hxy := mul_fit1 gx gy
     have hfit := mul_fit gx gy go hcl
     refine wp_k ?_
     refine then_n ?_
     refine wp_s ?_
     refine wp_b ?_
     refine wp_d tbOk hF mixed hG [] (by kernel_rfl) ?_
     refine dq .moveR ?_
     refine dq .moveR ?_
     refine dq (.indexAddrR (yf := by omega) (yg := by exact wds_at2 i (by omega) (by omega))) ?_
     refine dq .loadR ?_
     refine dq (.convR (yf := by exact wrap_u64 (by omega))) ?_
     refine dq .moveR ?_
     refine dq .moveR ?_
     refine dq (.indexAddrR (yf := by omega) (yg := by exact wds_at2 j (by omega) (by omega))) ?_
     refine dq .loadR ?_
     refine dq (.convR (yf := by exact wrap_u64 (by omega))) ?_
     refine dq (.arithR (yd := by exact (wrap_u64 (by omega)).trans (rfl : _ = ((a.getD i 0 * b.getD j 0 : Nat) : Int)))) ?_
     refine sx 34 ?_
     have hvs := val_set (w := (a.getD i 0 * b.getD j 0 + o.getD (i + j) 0 + c) % 4294967296) (show i + j < o.length by omega)
     rw [Nat.pow_add] at hvs
     have hstep := mul_step (y := b.getD j 0) (r := (a.getD i 0 * b.getD j 0 + o.getD (i + j) 0 + c) % 4294967296) (q := (a.getD i 0 * b.getD j 0 + o.getD (i + j) 0 + c) / 4294967296) (by omega) hvs hvo
     exact round_n (j + 1, o.set (i + j) ((a.getD i 0 * b.getD j 0 + o.getD (i + j) 0 + c) % 4294967296), (a.getD i 0 * b.getD j 0 + o.getD (i + j) 0 + c) / 4294967296) (by refine ⟨hc2, by simp [hlo], hwo2.set (by omega) _, by omega, ?_, fun k hk => by rw [getD_set_ne (by omega)]; exact hzo k hk⟩; rw [val_take_succ hc2, Nat.pow_succ]; exact Eq.trans (congrArg _ (congrArg _ (Nat.mul_assoc _ _ _).symm)) hstep) (by (dsimp only; omega)) (by exact imp_less ga (by repeat' (first | exact trivial | (refine And.intro (by exact geth rfl (wds_upd2 (i + j) (by omega) rfl)) ?_))) (by exact Nat.le_of_ble_eq_true rfl))
    ·obtain rfl : j = b.length := by simp at hc; omega
     refine sx 23 ?_
     have hvs := val_set (w := c % 4294967296) (show i + b.length < o.length by omega)
     rw [hzo (i + b.length) (by omega), Nat.mul_zero, Nat.add_zero, Nat.pow_add] at hvs
     exact round_n (i + 1, o.set (i + b.length) (c % 4294967296)) (by refine ⟨hci, by simp [hlo], hwo2.set (by omega) _, ?_, fun k hk => by rw [getD_set_ne (by omega)]; exact hzo k (by omega)⟩; rw [val_take_succ hci, hvs, Nat.mod_eq_of_lt hcl, Nat.mul_comm _ c, hvo, hv, List.take_length]; grind) (by (dsimp only; omega)) (by exact imp_less ga (by repeat' (first | exact trivial | (refine And.intro (by exact geth rfl (wds_upd2 (i + b.length) (by omega) rfl)) ?_))) (by exact Nat.le_of_ble_eq_true rfl))
  ·obtain rfl : i = a.length := by simp at hc; omega
   refine sx 5 ?_
   have hfin : out = padW (a.length + b.length) (val a * val b) := padW_eq hwo hlen (by rw [hv, List.take_length])
   refine wp_imp hK (imp_fz 5 (wds (padW (a.length + b.length) (val a * val b))) rfl rfl (by rw [hfin]) (by simp [wds, padW_len])) ?_
   refine sx 6 ?_
   exact ⟨.inr rfl, rfl, (by (refine res_t rfl ?_); (rw [val_padW _ _ (by rw [Nat.pow_add]; exact Nat.mul_lt_mul'' (val_lt ha) (val_lt hb))])), trivial⟩
theorem or64' {x y : Nat} (hx : x < 4294967296) (hy : y < 4294967296) : bitsTr .or .u64 (y : Int) ((x : Int) * 4294967296) = some ((4294967296 * x + y : Nat) : Int) := by
 have h1 : BitVec.ofInt 64 ((x : Int) * 4294967296) = BitVec.ofNat 64 (4294967296 * x) := by
  rw [show (x : Int) * 4294967296 = ((4294967296 * x : Nat) : Int) by omega, ofInt_nat]
 show some (IntKind.u64.wrap (((BitVec.ofInt 64 (y : Int) ||| BitVec.ofInt 64 ((x : Int) * 4294967296) : BitVec 64).toNat : Nat) : Int)) = _
 rw [h1, ofInt_nat, BitVec.toNat_or, BitVec.toNat_ofNat, BitVec.toNat_ofNat, Nat.mod_eq_of_lt (by omega), Nat.mod_eq_of_lt (by omega)]
 have : y ||| 4294967296 * x = 4294967296 * x + y := by rw [Nat.or_comm]; exact (Nat.two_pow_add_eq_or_of_lt (i := 32) (by omega) x).symm
 rw [this]
 exact congrArg some (wrap_u64 (by omega))
theorem digits_two {n : Nat} (h : (digits n).length ≤ 2) : 4294967296 * (digits n).getD 1 0 + (digits n).getD 0 0 = n := by
 have e := val_digits n
 generalize digits n = l at *
 match l, h with
 | [], _ => simpa [val] using e
 | [w], _ => simpa [val] using e
 | [w, v], _ => simp [val] at e; simp; omega
theorem len_two {n : Nat} (h : ¬ (digits n).length ≤ 2) : 18446744073709551616 ≤ n := by
 have h2 := getD_digits_last (n := n) (fun e => by rw [e] at h; simp at h)
 have := val_ge h2
 rw [val_digits] at this
 have h3 : 4294967296 ^ 2 ≤ 4294967296 ^ ((digits n).length - 1) := Nat.pow_le_pow_right (by decide) (by omega)
 have h4 : (4294967296 : Nat) ^ 2 = 18446744073709551616 := by decide
 rw [h4] at h3
 omega
theorem ref01_native (z : Int) : FnP Tryz.prog tb F_ref01_native [encI z] (.tu [.i .i64 (if z.natAbs < 4611686018427387904 then z else 0), .b (decide (z.natAbs < 4611686018427387904))]) := by
 refine fnP_T tbOk Tryz.func122 rfl rfl (Nat.le_of_ble_eq_true rfl) rfl fun G hG hK => ?_
 have hF : Wd Fence.wide := .inl rfl
 have g0 := (digits_words z.natAbs).getD 0
 have g1 := (digits_words z.natAbs).getD 1
 refine wp_il 0 rfl fun hb => ?_
 refine sx 8 ?_
 refine dq (.callR (yb := asc (.inl rfl) as1) (yc := ref01_word _ (digits_words z.natAbs) 0 (by decide))) ?_
 refine sx 2 ?_
 refine dq (.callR (yb := asc (.inl rfl) as1) (yc := ref01_word _ (digits_words z.natAbs) 1 (by decide))) ?_
 refine dq (.shlR (yc := by omega) (yd := by exact shl32 (by omega))) ?_
 refine dq (.bitsR (yc := or64' g1 g0)) ?_
 refine dq .assignR ?_
 refine wd_nil ?_
 refine wp_s ?_
 by_cases hl : (digits z.natAbs).length ≤ 2
 ·have hd := digits_two hl
  refine rr ?_
  refine oq .fieldAddrR ?_
  refine oq .loadR ?_
  refine oq (.lenR (yc := .inl rfl) (yd := by exact wds_len)) ?_
  refine oq .cmpR ?_
  refine om ?_
  refine gq (z := by simp; omega) .moveR ?_
  refine gq (z := by simp; omega) .cmpR ?_
  refine oq (.pickF rfl (by simp; omega) rfl) ?_
  refine wo_nil ?_
  refine wp_c rfl (fun hc => ?_) (fun hc => ?_)
  ·have hz : ¬ z.natAbs < 4611686018427387904 := by rw [← hd]; (have := of_decide_eq_true hc; omega)
   refine rr ?_
   refine oa ?_
   refine oa ?_
   refine wo_nil ?_
   refine wp_rt ?_
   refine then_ret ?_
   exact ⟨.inr rfl, rfl, (by (refine res_t rfl ?_); (simp [hz])), (by (refine res_t rfl ?_); (simp [hz])), trivial⟩
  ·have hz : z.natAbs < 4611686018427387904 := by rw [← hd]; (have := of_decide_eq_false hc; omega)
   refine wp_k ?_
   refine then_n ?_
   refine wp_s ?_
   refine rr ?_
   refine oq .fieldAddrR ?_
   refine oq .loadR ?_
   refine wo_nil ?_
   refine wp_c rfl (fun hc => ?_) (fun hc => ?_)
   ·have hn : z < 0 := by simpa using hc
    refine rr ?_
    refine om ?_
    refine oq (.convR (yf := by exact (wrap_i64 (by omega)).trans (by omega : _ = -z))) ?_
    refine oq (.negR (yb := by exact (wrap_i64 (by omega)).trans (by omega : _ = z))) ?_
    refine oa ?_
    refine oa ?_
    refine wo_nil ?_
    refine wp_rt ?_
    refine then_ret ?_
    exact ⟨.inr rfl, rfl, (by (refine res_t rfl ?_); (simp [hz])), (by (refine res_t rfl ?_); (simp [hz])), trivial⟩
   ·have hn : 0 ≤ z := by simpa using hc
    refine wp_k ?_
    refine then_n ?_
    refine rr ?_
    refine om ?_
    refine oq (.convR (yf := by exact (wrap_i64 (by omega)).trans (by omega : _ = z))) ?_
    refine sx 4 ?_
    exact ⟨.inr rfl, rfl, (by (refine res_t rfl ?_); (simp [hz])), (by (refine res_t rfl ?_); (simp [hz])), trivial⟩
 ·have hz : ¬ z.natAbs < 4611686018427387904 := by have := len_two hl; omega
  refine sx 10 ?_
  refine wp_cT rfl (by rfl) ?_
  refine sx 6 ?_
  exact ⟨.inr rfl, rfl, (by (refine res_t rfl ?_); (simp [hz])), (by (refine res_t rfl ?_); (simp [hz])), trivial⟩
theorem ref01_Of (z : Int) (h1 : -9223372036854775808 ≤ z) (h2 : z < 9223372036854775808) : FnP Tryz.prog tb F_ref01_Of [.i .i64 z] (encI z) := by
 refine fn1 Tryz.func60 fun G hG hK hF => ?_
 refine sx 5 ?_
 refine oq (.convR (yf := by exact wrap_u64_mod)) ?_
 refine sx 2 ?_
 refine wp_j2 hK (krc 0 rfl (krc 2 rfl krn)) (khc 0 rfl khn) (fun sl' h' (_ : Unit) => ⟨(3, .t (.i .u64 (z.natAbs))) :: sl', h', 1, 0⟩) (fun _ => True) (fun _ => rfl) ?_ ?_
 ·refine sx 4 ?_
  refine wp_c rfl (fun hc => ?_) (fun hc => ?_)
  ·have hc : z < 0 := by simpa using hc
   refine sx 5 ?_
   exact join_n () (by trivial) (by exact il)
  ·have hc : 0 ≤ z := by simpa using hc
   refine wp_k ?_
   exact join_n () (by trivial) (by exact imp_less (by repeat' (first | exact trivial | (refine And.intro (by first | rfl | exact geti rfl (by omega)) ?_))) ga (by exact Nat.le_of_ble_eq_true rfl))
 ·intro i hi
  refine sx 7 ?_
  refine oq (.convR (yf := by exact (wrap_u32_mod.trans (by omega : _ = ((z.natAbs / 4294967296 : Nat) : Int))))) ?_
  refine sx 1 ?_
  refine oq (.callR (yb := asc (.inl rfl) as1) (yc := ref01_made (decide (z < 0)) [z.natAbs % 4294967296, z.natAbs / 4294967296] (.cons (by omega) (.cons (by omega) .nil)))) ?_
  refine sx 3 ?_
  exact ⟨.inr rfl, rfl, (by (refine res_c rfl rfl rfl rfl rfl ?_); (rw [show val [z.natAbs % 4294967296, z.natAbs / 4294967296] = z.natAbs by simp [val]; omega, sgn_abs])), trivial⟩
theorem ref01_Sign (z : Int) : FnP Tryz.prog tb F_ref01_Sign [encI z] (.i .i64 z.sign) := by
 refine fn1 Tryz.func65 fun G hG hK hF => ?_
 refine sx 7 ?_
 refine oq (.callR (yb := as1) (yc := ref01_Is (decide (z < 0)) (digits z.natAbs))) ?_
 refine sx 8 ?_
 refine wp_c rfl (fun hc => ?_) (fun hc => ?_)
 ·have hz : z = 0 := by have : (digits z.natAbs).length = 0 := bz hc; rw [digits_len] at this; omega
  refine sx 5 ?_
  exact ⟨.inr rfl, rfl, (by (refine res_t rfl ?_); (rw [hz]; rfl)), trivial⟩
 ·have hz : z ≠ 0 := by rintro rfl; simp [digits_zero] at hc
  refine sx 7 ?_
  refine wp_c rfl (fun hc => ?_) (fun hc => ?_)
  ·have hn : z < 0 := by simpa using hc
   refine sx 5 ?_
   exact ⟨.inr rfl, rfl, (by (refine res_t rfl ?_); (rw [Int.sign_eq_neg_one_of_neg hn])), trivial⟩
  ·have hn : ¬ z < 0 := by simpa using hc
   refine sx 6 ?_
   exact ⟨.inr rfl, rfl, (by (refine res_t rfl ?_); (rw [Int.sign_eq_one_of_pos (by omega)])), trivial⟩
theorem ref01_Neg (a : Int) : FnP Tryz.prog tb F_ref01_Neg [encI a] (encI (-a)) := by
 refine fn1 Tryz.func106 fun G hG hK hF => ?_
 refine sx 10 ?_
 refine wp_c rfl (fun hc => ?_) (fun hc => ?_)
 ·simp [isW_enc] at hc
 ·refine sx 8 ?_
  refine oq (.callR (yb := asc (.inl rfl) as1) (yc := ref01_made (!decide (a < 0)) _ (digits_words a.natAbs))) ?_
  refine sx 3 ?_
  exact ⟨.inr rfl, rfl, (by (refine res_c rfl rfl rfl rfl rfl ?_); (rw [val_digits, sgn_not])), trivial⟩
theorem ref01_Abs (a : Int) : FnP Tryz.prog tb F_ref01_Abs [encI a] (encI a.natAbs) := by
 refine fn1 Tryz.func121 fun G hG hK hF => ?_
 refine sx 10 ?_
 refine wp_c rfl (fun hc => ?_) (fun hc => ?_)
 ·simp [isW_enc] at hc
 ·refine sx 5 ?_
  refine oq (.callR (yb := asc (.inl rfl) as1) (yc := ref01_made false _ (digits_words a.natAbs))) ?_
  refine sx 3 ?_
  exact ⟨.inr rfl, rfl, (by (refine res_c rfl rfl rfl rfl rfl ?_); (rw [val_digits]; rfl)), trivial⟩
theorem ref01_Mul (a b : Int) (ha16 : Fi 16 a := by first | assumption | exact Fi.small (by omega) | (apply Fi.le; (focus (repeat' (first | assumption | apply Fi.mul | apply Fi.add | apply Fi.sub | apply Fi.neg | apply Fi.abs | apply Fi.gcd | apply Fi.div | exact Fi.one | exact Fi.zero | exact Fi.small (by omega)))); decide)) (hb16 : Fi 16 b := by first | assumption | exact Fi.small (by omega) | (apply Fi.le; (focus (repeat' (first | assumption | apply Fi.mul | apply Fi.add | apply Fi.sub | apply Fi.neg | apply Fi.abs | apply Fi.gcd | apply Fi.div | exact Fi.one | exact Fi.zero | exact Fi.small (by omega)))); decide)) : FnP Tryz.prog tb F_ref01_Mul [encI a, encI b] (encI (a * b)) := by
 refine fn1 Tryz.func108 fun G hG hK hF => ?_
 refine sx 16 ?_
 refine wp_c rfl (fun hc => ?_) (fun hc => ?_)
 ·simp [isW_enc] at hc
 ·refine sx 12 ?_
  refine dq (.callR (yb := asc (.inl rfl) as1) (yc := ref01_mulWords _ _ (digits_words a.natAbs) (digits_words b.natAbs) (by have := ha16.wl; have := hb16.wl; omega))) ?_
  refine sx 4 ?_
  exact ⟨.inr rfl, rfl, (by (refine res_c rfl rfl rfl rfl rfl ?_); (rw [val_digits, val_digits, val_digits, sgn_mul, sgn_abs, sgn_abs])), trivial⟩
theorem ref01_Add (a b : Int) (ha16 : Fi 16 a := by first | assumption | exact Fi.small (by omega) | (apply Fi.le; (focus (repeat' (first | assumption | apply Fi.mul | apply Fi.add | apply Fi.sub | apply Fi.neg | apply Fi.abs | apply Fi.gcd | apply Fi.div | exact Fi.one | exact Fi.zero | exact Fi.small (by omega)))); decide)) (hb16 : Fi 16 b := by first | assumption | exact Fi.small (by omega) | (apply Fi.le; (focus (repeat' (first | assumption | apply Fi.mul | apply Fi.add | apply Fi.sub | apply Fi.neg | apply Fi.abs | apply Fi.gcd | apply Fi.div | exact Fi.one | exact Fi.zero | exact Fi.small (by omega)))); decide)) : FnP Tryz.prog tb F_ref01_Add [encI a, encI b] (encI (a + b)) := by
 refine fn1 Tryz.func138 fun G hG hK hF => ?_
 refine sx 16 ?_
 refine wp_c rfl (fun hc => ?_) (fun hc => ?_)
 ·simp [isW_enc] at hc
 ·refine sx 21 ?_
  by_cases hx : a.natAbs < 4611686018427387904
  ·refine sx 6 ?_
   refine wp_c rfl (fun hc => ?_) (fun hc => ?_)
   ·have hy : b.natAbs < 4611686018427387904 := by simpa using hc
    refine sx 3 ?_
    refine oq (.arithR (yd := by (refine (congrArg IntKind.i64.wrap (?_ : _ = a + b)).trans (wrap_i64 (by omega)); rw [if_pos hx, if_pos hy]))) ?_
    refine oq (.callR (yb := as1) (yc := ref01_Of (a + b) (by omega) (by omega))) ?_
    refine sx 4 ?_
    exact ⟨.inr rfl, rfl, (by (refine res_c rfl rfl rfl rfl rfl ?_); (rfl)), trivial⟩
   ·refine sx 10 ?_
    refine wp_c rfl (fun hc => ?_) (fun hc => ?_)
    ·have hs : decide (a < 0) = decide (b < 0) := by simpa using hc
     refine sx 13 ?_
     exact ⟨.inr rfl, rfl, (by (refine res_c rfl rfl rfl rfl rfl ?_); ((rw [val_digits, val_digits, val_digits, sgn_add, sgn_abs, hs, sgn_abs]; done))), trivial⟩
    ·have hs : decide (b < 0) = !decide (a < 0) := by cases h1 : decide (a < 0) <;> cases h2 : decide (b < 0) <;> simp [h1, h2] at hc <;> rfl
     refine sx 11 ?_
     refine wp_c rfl (fun hc => ?_) (fun hc => ?_)
     ·have hle : b.natAbs ≤ a.natAbs := by simp [cmpN] at hc; split at hc <;> omega
      refine sx 13 ?_
      exact ⟨.inr rfl, rfl, (by (refine res_c rfl rfl rfl rfl rfl ?_); ((rw [val_digits, sgn_sub hle, sgn_abs, ← hs, sgn_abs]; done))), trivial⟩
     ·have hle : a.natAbs ≤ b.natAbs := by simp [cmpN] at hc; omega
      refine sx 14 ?_
      exact ⟨.inr rfl, rfl, (by (refine res_c rfl rfl rfl rfl rfl ?_); ((rw [val_digits, sgn_sub hle, sgn_abs, hs, Bool.not_not, sgn_abs, Int.add_comm]; done))), trivial⟩
  ·refine sx 6 ?_
   refine wp_cF rfl (by rfl) ?_
   refine sx 10 ?_
   refine wp_c rfl (fun hc => ?_) (fun hc => ?_)
   ·have hs : decide (a < 0) = decide (b < 0) := by simpa using hc
    refine sx 13 ?_
    exact ⟨.inr rfl, rfl, (by (refine res_c rfl rfl rfl rfl rfl ?_); ((rw [val_digits, val_digits, val_digits, sgn_add, sgn_abs, hs, sgn_abs]; done))), trivial⟩
   ·have hs : decide (b < 0) = !decide (a < 0) := by cases h1 : decide (a < 0) <;> cases h2 : decide (b < 0) <;> simp [h1, h2] at hc <;> rfl
    refine sx 11 ?_
    refine wp_c rfl (fun hc => ?_) (fun hc => ?_)
    ·have hle : b.natAbs ≤ a.natAbs := by simp [cmpN] at hc; split at hc <;> omega
     refine sx 13 ?_
     exact ⟨.inr rfl, rfl, (by (refine res_c rfl rfl rfl rfl rfl ?_); ((rw [val_digits, sgn_sub hle, sgn_abs, ← hs, sgn_abs]; done))), trivial⟩
    ·have hle : a.natAbs ≤ b.natAbs := by simp [cmpN] at hc; omega
     refine sx 14 ?_
     exact ⟨.inr rfl, rfl, (by (refine res_c rfl rfl rfl rfl rfl ?_); ((rw [val_digits, sgn_sub hle, sgn_abs, hs, Bool.not_not, sgn_abs, Int.add_comm]; done))), trivial⟩
theorem imp_cut {K : Nat} {s : Sta} (id : Nat) {e : TypeId} {l l' : List AV} (k : Nat) (h : Eng.get s.h id = some (some (.arr e l))) (hl : l.take k = l') : Imp K tb s ⟨s.sl, (id, some (.arr e l')) :: s.h, s.nx, s.df⟩ := by
 subst hl
 intro G w a φ S _ _ hr
 have key : ∀ i o, Eng.get ((id, some (Eng.Obj.arr e (l.take k))) :: s.h) i = some (some o) → ∃ o', Eng.get s.h i = some (some o') ∧ (∀ b, RepO tb w φ S b o' → RepO tb w φ S b o) := by
  intro i o hi
  rw [get_cons] at hi
  split at hi
  ·rename_i e'
   subst e'
   injection hi with hi; injection hi with hi; subst hi
   refine ⟨_, h, fun b hb => ⟨hb.1, fun j v hv => hb.2 j v ?_⟩⟩
   rw [List.getElem?_take] at hv
   split at hv
   ·exact hv
   ·cases hv
  ·exact ⟨o, hi, fun _ hb => hb⟩
 refine ⟨φ, S, ⟨⟨fun i o ho => ?_, fun i j b ⟨o, ho⟩ ⟨o', ho'⟩ => ?_, hr.hr.fr, hr.hr.φlt, hr.hr.φX, hr.hr.Slt, hr.hr.SS, hr.hr.Snew, hr.hr.frame⟩, hr.sl, hr.nt, hr.df, hr.kp, hr.nc⟩⟩
 ·obtain ⟨o', h1, h2⟩ := key i o ho
  obtain ⟨b, k1, k2, k3, k4⟩ := hr.hr.hh i o' h1
  exact ⟨b, k1, k2, k3, h2 b k4⟩
 ·obtain ⟨q, h1, _⟩ := key i o ho
  obtain ⟨q', h1', _⟩ := key j o' ho'
  exact hr.hr.inj i j b ⟨q, h1⟩ ⟨q', h1'⟩
theorem ref01_trimH (ws : List Nat) (hw : Words ws) : FnH Tryz.prog tb F_ref01_trim [.own T_uint32 0 0 ws.length] [.arr T_uint32 ((wds ws).map .t)] (.own T_uint32 0 0 (digits (val ws)).length) [(0, some (.arr T_uint32 ((wds (digits (val ws))).map .t)))] 1 := by
 refine fnH_of tbOk Tryz.func164 rfl rfl (Nat.le_of_ble_eq_true rfl) fun G hG hK => ?_
 have hF : Wd Fence.wide := .inl rfl
 refine wp_boundO 0 rfl fun hb => ?_
 have hb : ws.length * 4 ≤ 140737488355328 := hb
 refine sx 10 ?_
 refine wp_l2 hK (krc 0 rfl krn) (khc 0 rfl khn) (fun sl' h' (n : Nat) => ⟨(3, .t (.i .i64 (n))) :: sl', h', 1, 0⟩) (fun n => n ≤ ws.length ∧ ∀ i, n ≤ i → ws.getD i 0 = 0) (fun n => n) ws.length ?_ (fun _ => rfl) ?_ ?_
 ·exact ⟨Nat.le_refl _, fun i hi => by simp [List.getD_eq_getElem?_getD, List.getElem?_eq_none hi]⟩
 ·exact il
 ·rintro n ⟨hn, hz⟩
  refine wp_s ?_
  rcases n with _ | n
  ·refine sx 12 ?_
   refine wp_c rfl (fun hc => ?_) (fun hc => ?_)
   ·simp at hc
   ·have hv : ws.take 0 = digits (val ws) := by rw [digits_eq_trim hw, ← trimW_take hz]; rfl
    have hl0 : (digits (val ws)).length = 0 := by rw [← hv]; rfl
    refine sx 11 ?_
    refine wp_imp hK (imp_cut 0 0 (l' := (wds (ws.take 0)).map .t) rfl (by simp [wds])) ?_
    refine sx 1 ?_
    exact ⟨.inr rfl, rfl, _, Imp.refl _ _, Nat.le_of_ble_eq_true rfl, Nat.le_of_ble_eq_true rfl, (by repeat' (first | exact trivial | (refine And.intro (by exact geth rfl (by rw [hv])) ?_))), (by exact .inr ⟨_, rfl, geto rfl (by omega)⟩)⟩
  ·refine sx 8 ?_
   refine gq (z := by (simp; done)) (.loadPR (yd := by (exact wds_own2 n (by omega) (by omega)))) ?_
   refine sx 3 ?_
   refine wp_c rfl (fun hc => ?_) (fun hc => ?_)
   ·have hc : ws.getD n 0 = 0 := by simpa using hc
    refine sx 9 ?_
    exact round_n n (by exact ⟨by omega, fun i hi => by rcases Nat.eq_or_lt_of_le hi with rfl | h; exact hc; exact hz i h⟩) (by omega) (by exact imp_less (by repeat' (first | exact trivial | (refine And.intro (by first | rfl | exact geti rfl (by omega)) ?_))) ga (by exact Nat.le_of_ble_eq_true rfl))
   ·have hl : ws.getD n 0 ≠ 0 := by simpa using hc
    have hx : ws.take (n + 1) = digits (val ws) := by
     rw [digits_eq_trim hw, ← trimW_take hz]
     refine (trimW_of_last (.inr ?_)).symm
     rw [List.length_take, Nat.min_eq_left hn, List.getD_eq_getElem?_getD, List.getElem?_take]
     simpa [List.getD_eq_getElem?_getD] using hl
    have hl1 : (digits (val ws)).length = n + 1 := by rw [← hx]; simp; omega
    refine sx 11 ?_
    refine wp_imp hK (imp_cut 0 (n + 1) (l' := (wds (ws.take (n + 1))).map .t) rfl (by simp [wds])) ?_
    refine sx 1 ?_
    exact ⟨.inr rfl, rfl, _, Imp.refl _ _, Nat.le_of_ble_eq_true rfl, Nat.le_of_ble_eq_true rfl, (by repeat' (first | exact trivial | (refine And.intro (by exact geth rfl (by rw [hx])) ?_))), (by exact .inr ⟨_, rfl, geto rfl (by omega)⟩)⟩
theorem shr1 {a : Int} : a.fdiv (2 ^ (min (Int.toNat 1) IntKind.u32.bits)) = a / 2 := by
 have : (2 : Int) ^ (min (Int.toNat 1) IntKind.u32.bits) = 2 := by decide
 rw [this, Int.fdiv_eq_ediv_of_nonneg _ (by decide)]
theorem bl_half {x : Nat} (h : x ≠ 0) : bl x = bl (x / 2) + 1 := by
 rcases Nat.lt_or_ge x 2 with h2 | h2
 ·obtain rfl : x = 1 := by omega
  rfl
 ·exact bl_shift (k := 1) (by simpa using h2)
theorem bl_zero : bl 0 = 0 := rfl
theorem ref01_bitsOf (n : Nat) (hn : n ≠ 0) : FnP Tryz.prog tb F_ref01_bitsOf [.sl T_uint32 (wds (digits n))] (.i .i64 (32 * ((digits n).length - 1) + bl ((digits n).getD ((digits n).length - 1) 0) : Nat)) := by
 have hl : 0 < (digits n).length := by rcases Nat.eq_zero_or_pos (digits n).length with h | h; exact absurd (digits_len.1 h) hn; exact h
 have ht := (digits_words n).getD ((digits n).length - 1)
 have hb32 := bl32 ht
 refine fn1 Tryz.func208 fun G hG hK hF => ?_
 refine wp_wl 0 rfl fun hb => ?_
 refine sx 9 ?_
 refine wp_cF rfl (by have : digits n ≠ [] := fun e => by { simp [e] at hl }; simp [this]) ?_
 refine wp_k ?_
 refine then_n ?_
 refine rr ?_
 refine om ?_
 refine oq (.lenR (yc := .inl rfl) (yd := by exact wds_len)) ?_
 refine oq (.arithR (yd := by exact wrap_i64 (by omega))) ?_
 refine oq (.arithR (yd := by exact wrap_i64 (by omega))) ?_
 refine oa ?_
 refine wo_nil ?_
 refine wp_s ?_
 refine rr ?_
 refine om ?_
 refine om ?_
 refine oq (.lenR (yc := .inl rfl) (yd := by exact wds_len)) ?_
 refine oq (.arithR (yd := by exact wrap_i64 (by omega))) ?_
 refine oq (.indexAddrR (yf := by omega) (yg := by exact wds_at2 ((digits n).length - 1) (by omega) (by omega))) ?_
 refine oq .loadR ?_
 refine oa ?_
 refine wo_nil ?_
 refine wp_b ?_
 refine wp_l2 hK krn khn (fun sl' h' ((x, k) : Nat × Nat) => ⟨(3, .t (.i .i64 (k))) :: (4, .t (.i .u32 (x))) :: sl', h', 0, 0⟩) (fun (x, k) => k + bl x = 32 * ((digits n).length - 1) + bl ((digits n).getD ((digits n).length - 1) 0)) (fun (x, _) => x) ((digits n).getD ((digits n).length - 1) 0, 32 * ((digits n).length - 1)) ?_ (fun _ => rfl) ?_ ?_
 ·rfl
 ·exact imp_less (by repeat' (first | exact trivial | (refine And.intro (by first | rfl | exact geti rfl (by omega)) ?_))) (by repeat' (exact trivial)) (by exact Nat.le_of_ble_eq_true rfl)
 ·rintro ⟨x, k⟩ hi
  refine sx 5 ?_
  refine wp_c rfl (fun hc => ?_) (fun hc => ?_)
  ·have hc : x ≠ 0 := by simpa using hc
   have hh := bl_half hc
   refine sx 13 ?_
   refine oq (.shrR (yc := by omega) (yd := by exact shr1)) ?_
   refine sx 2 ?_
   exact round_n (x / 2, k + 1) (by dsimp only at hi ⊢; omega) (by (dsimp only; omega)) (by exact il)
  ·obtain rfl : x = 0 := by simpa using hc
   refine sx 10 ?_
   exact ⟨.inr rfl, rfl, (by (refine res_t rfl ?_); (rw [← hi, bl_zero, Nat.add_zero])), trivial⟩
theorem digits_getD (n i : Nat) : (digits n).getD i 0 = n / 4294967296 ^ i % 4294967296 := by
 rcases Nat.lt_or_ge i (digits n).length with h | h
 ·have := padW_getD (digits n).length i n h
  have e : padW (digits n).length n = digits n := by
   have := padW_val (digits_words n); rw [val_digits] at this; exact this
  rw [e] at this; exact this
 ·rw [getD_end h]
  have h1 := lt_digits n
  have h2 : 4294967296 ^ (digits n).length ≤ 4294967296 ^ i := Nat.pow_le_pow_right (by decide) h
  rw [Nat.div_eq_of_lt (by omega)]
theorem padW_snoc : ∀ (i v : Nat), padW i v ++ [v / 4294967296 ^ i % 4294967296] = padW (i + 1) v
 | 0, v => by simp [padW]
 | i + 1, v => by
  rw [padW, List.cons_append, Nat.pow_succ, Nat.mul_comm, ← Nat.div_div_eq_div_mul, padW_snoc i]; rfl
theorem ref01_unshifted (ρ s : Nat) (hs : s < 32) : FnP Tryz.prog tb F_ref01_unshifted [.sl T_uint32 (wds (digits ρ)), .i .i64 s] (.sl T_uint32 (wds (digits (ρ / 2 ^ s)))) := by
 refine fn1 Tryz.func210 fun G hG hK hF => ?_
 refine wp_wl 0 rfl fun hb => ?_
 refine sx 11 ?_
 refine wp_l2 hK (krc 0 rfl (krc 1 rfl krn)) khn (fun sl' h' (i : Nat) => ⟨(5, ap T_uint32 0 (wds (padW i (ρ / 2 ^ s)))) :: (6, .t (.i .i64 (i))) :: sl', (0, apO T_uint32 (wds (padW i (ρ / 2 ^ s)))) :: h', 1, 0⟩) (fun i => i ≤ (digits ρ).length) (fun i => (digits ρ).length - i) 0 ?_ (fun _ => rfl) ?_ ?_
 ·omega
 ·exact imp_ap0 5 rfl (by rfl) ga gb rfl gb rfl
 ·intro i hi
  refine sx 7 ?_
  refine wp_c rfl (fun hc => ?_) (fun hc => ?_)
  ·have hci : i < (digits ρ).length := by simpa using hc
   have g0 := (digits_words ρ).getD i
   have g1 := (digits_words ρ).getD (i + 1)
   have hword := unshift_word (ρ := ρ) (i := i) hs
   rw [← digits_getD, ← digits_getD] at hword
   refine sx 8 ?_
   refine oq (.callR (yb := asc (.inl rfl) as1) (yc := ref01_word _ (digits_words ρ) i (by omega))) ?_
   refine sx 3 ?_
   refine oq (.callR (yb := asc (.inl rfl) as1) (yc := ref01_word _ (digits_words ρ) (i + 1) (by omega))) ?_
   refine oq (.shlR (yc := by omega) (yd := by exact shl32 (by omega))) ?_
   refine oq (.bitsR (yc := or64' g1 g0)) ?_
   refine om ?_
   refine oq (.shrR (yc := by omega) (yd := by exact shrn (k := s) (by show s ≤ 64; omega))) ?_
   refine oq (.convR (yf := by exact wrapn)) ?_
   refine oq (.buildSliceR (ye := as1) (yg := by decide) (yj := by decide) (yk := by decide)) ?_
   refine oed (.appendAR (yd := by decide) (ye := by decide) (yj := .inl rfl) (yk := by rfl) (yl := by (simp [wds_len, padW_len]; omega))) ?_
   refine oa ?_
   refine wo_nil ?_
   refine blk_n ?_
   refine then_n ?_
   refine rr0 ?_
   refine om ?_
   refine oq (.arithR (yd := by exact wrap_i64 (by omega))) ?_
   refine oa ?_
   refine wo_nil ?_
   exact round_n (i + 1) (by omega) (by omega) (by exact imp_ap 5 rfl rfl (by (rw [hword]; exact wds_snoc.trans (by rw [padW_snoc]))) (by repeat' (first | exact trivial | (refine And.intro (by rfl) ?_))) (by repeat' (exact trivial)) rfl (by repeat' (exact trivial)) rfl rfl)
  ·obtain rfl : i = (digits ρ).length := by { have : ¬ i < (digits ρ).length := by { simpa using hc }; omega }
   refine sx 5 ?_
   refine wp_imp hK (imp_apF 5 rfl rfl (ts' := wds (padW (digits ρ).length (ρ / 2 ^ s))) rfl) ?_
   refine sx 6 ?_
   exact ⟨.inr rfl, rfl, (by (refine res_t rfl ?_); (rw [val_padW _ _ (Nat.lt_of_le_of_lt (Nat.div_le_self _ _) (lt_digits ρ))])), trivial⟩
theorem ref01_byWord (m d : Nat) (hd : d < 4294967296) (hd0 : 0 < d) : FnP Tryz.prog tb F_ref01_byWord [.sl T_uint32 (wds (digits m)), .i .u64 d] (.tu [.sl T_uint32 (wds (digits (m / d))), .sl T_uint32 (wds (digits (m % d)))]) := by
 have ha := digits_words m
 refine fnP_T tbOk Tryz.func207 rfl rfl (Nat.le_of_ble_eq_true rfl) rfl fun G hG hK => ?_
 have hF : Wd Fence.wide := .inl rfl
 refine wp_wl 0 rfl fun hb => ?_
 refine sx 21 ?_
 refine wp_l2 hK (krc 0 rfl (krc 1 rfl krn)) khn (fun sl' h' ((k, out, r) : Nat × List Nat × Nat) => ⟨(4, .own T_uint32 0 0 (digits m).length) :: (6, .t (.i .u64 (r))) :: (7, .t (.i .i64 ((k : Int) - 1))) :: sl', (0, some (.arr T_uint32 ((wds out).map .t))) :: h', 1, 0⟩) (fun (k, out, r) => k ≤ (digits m).length ∧ out.length = (digits m).length ∧ Words out ∧ r < d ∧ val ((digits m).drop k) = val (out.drop k) * d + r) (fun (k, _) => k) ((digits m).length, List.replicate (digits m).length 0, 0) ?_ (fun _ => rfl) ?_ ?_
 ·exact ⟨Nat.le_refl _, by simp, fun w hw => by rw [List.eq_of_mem_replicate hw]; decide, hd0, by rw [List.drop_length, List.drop_of_length_le (by simp)]; simp [val]⟩
 ·exact imp_less ga (by repeat' (first | exact trivial | (refine And.intro (by exact geth rfl (by simp [wds])) ?_))) (by exact Nat.le_of_ble_eq_true rfl)
 ·rintro ⟨k, out, r⟩ ⟨hk, hlen, hwo, hr, hv⟩
  refine sx 5 ?_
  refine wp_c rfl (fun hc => ?_) (fun hc => ?_)
  ·obtain ⟨k, rfl⟩ : ∃ j, k = j + 1 := ⟨k - 1, by simp at hc; omega⟩
   have e : ((k + 1 : Nat) : Int) - 1 = (k : Int) := by omega
   rw [e]
   have hw := ha.getD k
   obtain ⟨f1, f2⟩ := div_fit hd hr hw
   refine sx 9 ?_
   refine oq (.indexAddrR (yf := by omega) (yg := by exact wds_at2 k (by omega) (by omega))) ?_
   refine oq .loadR ?_
   refine oq (.convR (yf := by exact wrap_u64 (by omega))) ?_
   refine oq (.bitsR (yc := or64 (by omega) hw)) ?_
   refine oa ?_
   refine wo_nil ?_
   refine rr ?_
   refine om ?_
   refine om ?_
   refine om ?_
   refine om ?_
   refine oq (.quoR (yc := by omega) (yd := by exact tdivn f1)) ?_
   refine oq (.convR (yf := by exact w32n f2)) ?_
   refine oq (.indexAddrOR (yf := by omega) (yg := by omega)) ?_
   refine oe (.storeR (ye := by exact wds_idx (by omega)) (yg := .inl rfl)) ?_
   refine wo_nil ?_
   refine rr0 ?_
   refine om ?_
   refine om ?_
   refine oq (.remR (yc := by omega) (yd := by exact tmodn)) ?_
   refine oa ?_
   refine wo_nil ?_
   refine blk_n ?_
   refine then_n ?_
   refine rr0 ?_
   refine om ?_
   refine oq (.arithR (yd := by exact wrap_i64 (by omega))) ?_
   refine oa ?_
   refine wo_nil ?_
   exact round_n (k, out.set k ((4294967296 * r + (digits m).getD k 0) / d), (4294967296 * r + (digits m).getD k 0) % d) (by refine ⟨by omega, by simp [hlen], hwo.set f2 _, Nat.mod_lt _ hd0, ?_⟩; rw [val_drop (ws := digits m) (j := k) (by omega), val_drop (ws := out.set k _) (j := k) (by simp; omega), hv, getD_set_self (by omega), List.drop_set_of_lt (by omega)]; exact short_step hd0) (by (dsimp only; omega)) (by exact imp_less (by repeat' (first | exact trivial | (refine And.intro (by rfl) ?_))) (by repeat' (first | exact trivial | (refine And.intro (by exact geth rfl (wds_upd2 k (by omega) rfl)) ?_))) (by exact Nat.le_of_ble_eq_true rfl))
  ·obtain rfl : k = 0 := by simp at hc; omega
   refine sx 5 ?_
   rw [List.drop_zero, List.drop_zero, val_digits] at hv
   refine wp_imp hK (imp_fz 4 (wds out) rfl rfl rfl (by rw [wds_len, hlen])) ?_
   refine sx 2 ?_
   refine oq (.callR (yb := as1) (yc := ref01_trimD out hwo)) ?_
   refine om ?_
   refine oq (.convR (yf := by exact w32n (Nat.lt_trans hr hd))) ?_
   refine sx 1 ?_
   refine oq (.callR (yb := as1) (yc := ref01_trimD [r] (.cons (Nat.lt_trans hr hd) .nil))) ?_
   refine sx 4 ?_
   exact ⟨.inr rfl, rfl, (by (refine res_t rfl ?_); (rw [short_div hr hv])), (by (refine res_t rfl ?_); (rw [short_mod hr hv]; simp [val])), trivial⟩
theorem shlq {w s : Nat} (hw : w < 4294967296) (hs : s < 32) : IntKind.u64.wrap ((w : Int) * 2 ^ (min (Int.toNat (s : Int)) IntKind.u64.bits)) = ((w * 2 ^ s : Nat) : Int) ∧ w * 2 ^ s < 18446744073709551616 := by
 have e : min (Int.toNat (s : Int)) IntKind.u64.bits = s := Nat.min_eq_left (by show s ≤ 64; omega)
 have h1 : w * 2 ^ s < 18446744073709551616 := by
  have h2 : 2 ^ s ≤ 2 ^ 31 := Nat.pow_le_pow_right (by decide) (by omega)
  have h3 : w * 2 ^ s ≤ 4294967295 * 2 ^ 31 := Nat.mul_le_mul (by omega) h2
  have h4 : (4294967295 : Nat) * 2 ^ 31 < 18446744073709551616 := by decide
  omega
 refine ⟨?_, h1⟩
 rw [e, show ((w : Int) * 2 ^ s) = ((w * 2 ^ s : Nat) : Int) by rw [Int.natCast_mul, Int.natCast_pow]; rfl]
 exact w64n h1
theorem quo32 {s : Nat} (hs : s < 32) : IntKind.i64.wrap ((s : Int).tdiv 32) = 0 := by
 have : (s : Int).tdiv 32 = ((s / 32 : Nat) : Int) := (Int.ofNat_tdiv s 32).symm
 rw [this, Nat.div_eq_of_lt hs]; decide
theorem rem32 {s : Nat} (hs : s < 32) : (s : Int).tmod 32 = (s : Int) := by
 have : (s : Int).tmod 32 = ((s % 32 : Nat) : Int) := (Int.ofNat_tmod s 32).symm
 rw [this, Nat.mod_eq_of_lt hs]
theorem ref01_shiftedH (a : List Nat) (ha : Words a) (s : Nat) (hs : s < 32) (hla : a.length < 35184372088832) : FnH Tryz.prog tb F_ref01_shifted [.t (.sl T_uint32 (wds a)), .t (.i .i64 s)] [] (.own T_uint32 0 0 (digits (val a * 2 ^ s)).length) [(0, some (.arr T_uint32 ((wds (digits (val a * 2 ^ s))).map .t)))] 1 := by
 refine fnH_of tbOk Tryz.func209 rfl rfl (Nat.le_of_ble_eq_true rfl) fun G hG hK => ?_
 have hF : Wd Fence.wide := .inl rfl
 refine wp_wl 0 rfl fun hb => ?_
 refine sx 18 ?_
 refine wp_l2 hK (krc 0 rfl (krc 1 rfl krn)) khn (fun sl' h' ((i, out) : Nat × List Nat) => ⟨(5, .own T_uint32 0 0 (a.length + 1)) :: (6, .t (.i .i64 (i))) :: sl', (0, some (.arr T_uint32 ((wds out).map .t))) :: h', 1, 0⟩) (fun (i, out) => i ≤ a.length ∧ out.length = a.length + 1 ∧ Words out ∧ val out = val (a.take i) * 2 ^ s ∧ (∀ j, i < j → out.getD j 0 = 0) ∧ out.getD i 0 < 2 ^ s) (fun (i, _) => a.length - i) (0, List.replicate (a.length + 1) 0) ?_ (fun _ => rfl) ?_ ?_
 ·exact ⟨Nat.zero_le _, by simp, fun w hw => by rw [List.eq_of_mem_replicate hw]; decide, by simp [val_zeros, val], fun k _ => by simp [List.getD_eq_getElem?_getD, List.getElem?_replicate]; split <;> rfl, by simp [List.getD_eq_getElem?_getD, List.replicate_succ]; exact Nat.two_pow_pos s⟩
 ·exact imp_less (by repeat' (first | exact trivial | (refine And.intro (by first | rfl | exact geto rfl (by omega)) ?_))) (by repeat' (first | exact trivial | (refine And.intro (by exact geth rfl (by simp [wds])) ?_))) (by exact Nat.le_of_ble_eq_true rfl)
 ·rintro ⟨i, out⟩ ⟨hi, hlen, hwo, hv, hz, ho⟩
  refine sx 7 ?_
  refine wp_c rfl (fun hc => ?_) (fun hc => ?_)
  ·have hci : i < a.length := by simp at hc; omega
   have hw := ha.getD i
   obtain ⟨hsl, hsl2⟩ := shlq hw hs
   have hxm := mul_mod_two (w := a.getD i 0) (s := s) (by omega)
   have hxd := mul_div_two (w := a.getD i 0) (s := s) (by omega)
   have hxlt : 2 ^ s * (a.getD i 0 % 2 ^ (32 - s)) < 4294967296 := by rw [← hxm]; omega
   obtain ⟨hor, hol⟩ := or32s ho (hwo.getD i) hxlt
   have hhi := hi_lt (w := a.getD i 0) (s := s) (by omega) hw
   have hc32 : a.getD i 0 / 2 ^ (32 - s) < 4294967296 := Nat.lt_of_le_of_lt (Nat.div_le_self _ _) hw
   refine wp_k ?_
   refine then_n ?_
   refine wp_s ?_
   refine wp_b ?_
   refine rr ?_
   refine om ?_
   refine om ?_
   refine oq (.indexAddrR (yf := by omega) (yg := by exact wds_at2 i (by omega) (by omega))) ?_
   refine oq .loadR ?_
   refine oq (.convR (yf := by exact wrap_u64 (by omega))) ?_
   refine om ?_
   refine oq (.remR (yc := by omega) (yd := by exact rem32 hs)) ?_
   refine oq (.shlR (yc := by omega) (yd := by exact hsl)) ?_
   refine sx 16 ?_
   refine oq (.convR (yf := by exact wrapn.trans (congrArg Nat.cast hxm))) ?_
   refine oq (.bitsR (yc := hor)) ?_
   refine oq (.indexAddrOR (yf := by omega) (yg := by omega)) ?_
   refine oe (.storeR (ye := by exact wds_idx (by omega)) (yg := .inl rfl)) ?_
   refine wo_nil ?_
   refine rr0 ?_
   refine om ?_
   refine om ?_
   refine om ?_
   refine oq (.quoR (yc := by omega) (yd := by exact quo32 hs)) ?_
   refine oq (.arithR (yd := by exact wrap_i64 (by omega))) ?_
   refine oq (.arithR (yd := by exact wrap_i64 (by omega))) ?_
   refine om ?_
   refine oq (.shrR (yc := by omega) (yd := by exact shr32.trans (by rw [← hxd]; omega : _ = ((a.getD i 0 / 2 ^ (32 - s) : Nat) : Int)))) ?_
   refine oq (.convR (yf := by exact w32n hc32)) ?_
   refine oq (.indexAddrOR (yf := by omega) (yg := by omega)) ?_
   refine oe (.storeR (ye := by (simp [wds]; omega)) (yg := .inl rfl)) ?_
   refine wo_nil ?_
   refine blk_n ?_
   refine then_n ?_
   refine rr0 ?_
   refine om ?_
   refine oq (.arithR (yd := by exact wrap_i64 (by omega))) ?_
   refine oa ?_
   refine wo_nil ?_
   have h1 := val_set (w := 2 ^ s * (a.getD i 0 % 2 ^ (32 - s)) + out.getD i 0) (show i < out.length by omega)
   have h2 := val_set (w := a.getD i 0 / 2 ^ (32 - s)) (show i + 1 < (out.set i (2 ^ s * (a.getD i 0 % 2 ^ (32 - s)) + out.getD i 0)).length by simp; omega)
   rw [getD_set_ne (by omega), hz (i + 1) (by omega), Nat.pow_succ] at h2
   have h3 := shift_step (w := a.getD i 0) (s := s) (by rw [← hxm, ← mul_div_two (by omega)]; omega) h1 h2 hv
   exact round_n (i + 1, (out.set i (2 ^ s * (a.getD i 0 % 2 ^ (32 - s)) + out.getD i 0)).set (i + 1) (a.getD i 0 / 2 ^ (32 - s))) (by refine ⟨by omega, by simp [hlen], (hwo.set hol _).set hc32 _, by rw [val_take_succ hci]; exact h3, fun j hj => by rw [getD_set_ne (by omega), getD_set_ne (by omega)]; exact hz j (by omega), by rw [getD_set_self (by simp; omega)]; exact hhi⟩) (by (dsimp only; omega)) (by exact imp_less (by repeat' (first | exact trivial | (refine And.intro (by rfl) ?_))) (by repeat' (first | exact trivial | (refine And.intro (by exact geth rfl (wds_upd2' i (i + 1) (by omega) (by omega))) ?_))) (by exact Nat.le_of_ble_eq_true rfl))
  ·obtain rfl : i = a.length := by simp at hc; omega
   refine sx 5 ?_
   rw [List.take_length] at hv
   have hT := ref01_trimH out hwo
   rw [hlen, hv] at hT
   refine sx 2 ?_
   refine oed (callh [0] (hT) (.inr ⟨_, rfl, rfl⟩) (hac rfl han) rfl rfl rfl (by decide) (oic rfl (by exact ren_t) oin) (olts_c (by exact olt_t) olts_n) rfl (outs_s rfl (by exact ren_t) outs_0) rfl rfl rfl) ?_
   refine sx 3 ?_
   exact ⟨.inr rfl, rfl, _, Imp.refl _ _, Nat.le_of_ble_eq_true rfl, Nat.le_of_ble_eq_true rfl, ga, (by exact .inr ⟨_, rfl, rfl⟩)⟩
theorem ref01_shiftedN (m : Nat) (s : Nat) (hs : s < 32) (hla : (digits m).length < 35184372088832) : FnN Tryz.prog tb F_ref01_shifted [.sl T_uint32 (wds (digits m)), .i .i64 s] T_uint32 (wds (digits (m * 2 ^ s))) :=
 fnN_of (fun t ht => by obtain ⟨w, _, rfl⟩ := List.mem_map.1 ht; exact ⟨_, _, rfl⟩) (by
  have := ref01_shiftedH (digits m) (digits_words m) s hs hla
  rw [val_digits] at this
  rw [wds_len]; exact this)
theorem ref01_shifted (m : Nat) (s : Nat) (hs : s < 32) (hla : (digits m).length < 35184372088832) : FnP Tryz.prog tb F_ref01_shifted [.sl T_uint32 (wds (digits m)), .i .i64 s] (.sl T_uint32 (wds (digits (m * 2 ^ s)))) := by
 have := ref01_shiftedH (digits m) (digits_words m) s hs hla
 rw [val_digits] at this
 exact fnP_own (args := [.sl T_uint32 (wds (digits m)), .i .i64 s]) (l := wds (digits (m * 2 ^ s))) (by rw [wds_len]; exact this)
theorem ref_guess {ρ V i e : Nat} (hVlt : V < 4294967296 ^ (e + 1)) (hVge : 4294967296 ^ e ≤ V) (hρ : ρ < V * 4294967296 ^ (i + 1)) :
  ρ / (4294967296 ^ i * V) < 4294967296 ∧ 4294967296 * (ρ / 4294967296 ^ (i + e + 1) % 4294967296) + ρ / 4294967296 ^ (i + e) % 4294967296 < 18446744073709551616 ∧
  0 < V / 4294967296 ^ e % 4294967296 ∧ ρ / (4294967296 ^ i * V) ≤ (4294967296 * (ρ / 4294967296 ^ (i + e + 1) % 4294967296) + ρ / 4294967296 ^ (i + e) % 4294967296) / (V / 4294967296 ^ e % 4294967296) ∧ ρ < 4294967296 ^ (i + e + 2) := by
 have hPi : 0 < 4294967296 ^ i := Nat.pow_pos (by decide)
 have hPe : 0 < 4294967296 ^ e := Nat.pow_pos (by decide)
 have hV0 : 0 < V := by omega
 have hq : ρ / (4294967296 ^ i * V) < 4294967296 := by
  refine (Nat.div_lt_iff_lt_mul (Nat.mul_pos hPi hV0)).2 ?_
  have : V * 4294967296 ^ (i + 1) = 4294967296 * (4294967296 ^ i * V) := by rw [Nat.pow_succ]; grind
  omega
 have hρ2 : ρ < 4294967296 ^ (i + e + 2) := by
  refine Nat.lt_of_lt_of_le hρ ?_
  have h1 := Nat.mul_le_mul_right (4294967296 ^ (i + 1)) (Nat.le_of_lt hVlt)
  rw [← Nat.pow_add, show e + 1 + (i + 1) = i + e + 2 by omega] at h1
  exact h1
 have hW : ρ / 4294967296 ^ (i + e) < 4294967296 * 4294967296 := by
  refine (Nat.div_lt_iff_lt_mul (Nat.pow_pos (by decide))).2 ?_
  have : 4294967296 ^ (i + e + 2) = 4294967296 * 4294967296 * 4294967296 ^ (i + e) := by rw [Nat.pow_succ, Nat.pow_succ, Nat.mul_comm, Nat.mul_comm (4294967296 ^ (i + e)), Nat.mul_assoc]
  omega
 have hu1 : V / 4294967296 ^ e < 4294967296 := by
  refine (Nat.div_lt_iff_lt_mul hPe).2 ?_
  rw [Nat.pow_succ, Nat.mul_comm] at hVlt; exact hVlt
 have hu0 : 0 < V / 4294967296 ^ e := Nat.div_pos hVge hPe
 have hm := Nat.div_mul_le_self ρ (4294967296 ^ i * V)
 have hv := Nat.div_mul_le_self V (4294967296 ^ e)
 have hqu : ρ / (4294967296 ^ i * V) * (V / 4294967296 ^ e) ≤ ρ / 4294967296 ^ (i + e) := by
  refine (Nat.le_div_iff_mul_le (Nat.pow_pos (by decide))).2 (Nat.le_trans ?_ hm)
  rw [Nat.pow_add]
  have h1 := Nat.mul_le_mul_left (ρ / (4294967296 ^ i * V) * 4294967296 ^ i) hv
  generalize ρ / (4294967296 ^ i * V) = q at *
  generalize V / 4294967296 ^ e = u at *
  calc q * u * (4294967296 ^ i * 4294967296 ^ e) = q * 4294967296 ^ i * (u * 4294967296 ^ e) := by grind
   _ ≤ q * 4294967296 ^ i * V := h1
   _ = q * (4294967296 ^ i * V) := by grind
 have e1 : ρ / 4294967296 ^ (i + e + 1) = ρ / 4294967296 ^ (i + e) / 4294967296 := div_succ ρ (i + e)
 rw [e1, Nat.mod_eq_of_lt hu1]
 have f1 := split2 hW
 refine ⟨hq, by omega, hu0, ?_, hρ2⟩
 rw [Nat.mul_comm 4294967296, f1]
 exact (Nat.le_div_iff_mul_le hu0).2 hqu
theorem ref_top {v : Nat} (hv : v ≠ 0) : ∃ e, (digits v).length = e + 1 ∧ v < 4294967296 ^ (e + 1) ∧ 4294967296 ^ e ≤ v := by
 have hne : digits v ≠ [] := fun e => hv (digits_nil.1 e)
 have hl : 0 < (digits v).length := List.length_pos_iff.2 hne
 refine ⟨(digits v).length - 1, by omega, ?_, ?_⟩
 ·rw [show (digits v).length - 1 + 1 = (digits v).length by omega]; exact lt_digits v
 ·have := val_ge (getD_digits_last hne); rw [val_digits] at this; exact this
theorem ref_q {ρ V P g x : Nat} (hV : 0 < V) (hP : 0 < P) (hq : ρ / (P * V) ≤ g) (h : x + P * (g * V) = ρ) : g = ρ / (P * V) ∧ x = ρ - P * (ρ / (P * V) * V) ∧ x < V * P := by
 have h0 : 0 < P * V := Nat.mul_pos hP hV
 have e : P * (g * V) = g * (P * V) := by grind
 have h1 : g ≤ ρ / (P * V) := (Nat.le_div_iff_mul_le h0).2 (by omega)
 have h2 : g = ρ / (P * V) := Nat.le_antisymm h1 hq
 refine ⟨h2, by rw [← h2]; omega, ?_⟩
 have h3 := Nat.div_add_mod ρ (P * V)
 have h4 := Nat.mod_lt ρ h0
 rw [← h2] at h3
 rw [Nat.mul_comm V P]
 have : P * V * g = g * (P * V) := Nat.mul_comm _ _
 omega
theorem ref_qlt {ρ V P g x M : Nat} (hx : x < M) (hV : 0 < V) (hP : 0 < P) (h : x + P * (g * V) = ρ + M) : ρ / (P * V) < g := by
 have h0 : 0 < P * V := Nat.mul_pos hP hV
 have e : P * (g * V) = g * (P * V) := by grind
 exact (Nat.div_lt_iff_lt_mul h0).2 (by omega)
theorem ref_back {x o M PV g P V ρ c : Nat} (hc : c ≤ 1) (hg : 0 < g) (h : o + P * (g * V) = ρ + M) (h2 : x + M * c = o + P * V) : x + P * ((g - 1) * V) = ρ + M * (1 - c) := by
 obtain ⟨k, rfl⟩ : ∃ k, g = k + 1 := ⟨g - 1, by omega⟩
 rw [Nat.add_sub_cancel]
 have e : P * ((k + 1) * V) = P * (k * V) + P * V := by grind
 rw [e] at h
 rcases (show c = 0 ∨ c = 1 by omega) with rfl | rfl <;> omega
theorem sub_word2 {x y b : Nat} (hx : x < 4294967296) (hy : y < 4294967296) (hb : b ≤ 1) : (x + 4294967296 - y - b) % 4294967296 + y + b = x + 4294967296 * (1 - (x + 4294967296 - y - b) / 4294967296) := by omega
theorem take_all {v k : Nat} (h : (digits v).length ≤ k) : val ((digits v).take k) = v := by rw [List.take_of_length_le h, val_digits]
theorem ref01_divWords (m n : Nat) (hn : n ≠ 0) (hla : (digits m).length ≤ 17592186044416) (hlc : (digits n).length ≤ 17592186044416) : FnP Tryz.prog tb F_ref01_divWords [.sl T_uint32 (wds (digits m)), .sl T_uint32 (wds (digits n))] (.tu [.sl T_uint32 (wds (digits (m / n))), .sl T_uint32 (wds (digits (m % n)))]) := by
 refine fnP_T tbOk Tryz.func190 rfl rfl (Nat.le_of_ble_eq_true rfl) rfl fun G hG hK => ?_
 have hF : Wd Fence.wide := .inl rfl
 refine wp_wl 0 rfl fun h0 => ?_
 refine wp_wl 1 rfl fun h1 => ?_
 have hlb : 0 < (digits n).length := by rcases Nat.eq_zero_or_pos (digits n).length with h | h; exact absurd (digits_len.1 h) hn; exact h
 refine sx 8 ?_
 refine oq (.callR (yb := asc (.inl rfl) as1) (yc := ref01_cmpWords m n)) ?_
 refine sx 2 ?_
 refine wp_c rfl (fun hc => ?_) (fun hc => ?_)
 ·have hlt : m < n := cmpN_neg.1 (by simpa using hc)
  refine sx 7 ?_
  exact ⟨.inr rfl, rfl, (by (refine res_nl rfl ?_); (rw [Nat.div_eq_of_lt hlt]; rfl)), (by (refine res_t rfl ?_); (rw [Nat.mod_eq_of_lt hlt])), trivial⟩
 ·have hge : n ≤ m := Nat.le_of_not_lt fun h => by simp [cmpN_neg.2 h] at hc
  refine sx 8 ?_
  refine wp_c rfl (fun hc => ?_) (fun hc => ?_)
  ·have h3 : (digits n).length = 1 := by simp at hc; omega
   obtain ⟨hn32, hn0⟩ := digits_len1 h3
   refine rr ?_
   refine om ?_
   refine om ?_
   refine oq (.indexAddrR (yf := by omega) (yg := by exact (wds_at2 (ws := digits n) 0 rfl (by omega)).trans (by rw [hn0]))) ?_
   refine oq .loadR ?_
   refine oq (.convR (yf := by exact wrap_u64 (by omega))) ?_
   refine oq (.callR (yb := asc (.inl rfl) as1) (yc := ref01_byWord m n hn32 (by omega))) ?_
   refine sx 7 ?_
   exact ⟨.inr rfl, rfl, (by (refine res_t rfl ?_); (rfl)), (by (refine res_t rfl ?_); (rfl)), trivial⟩
  ·have htop := getD_digits_last (n := n) (fun e => hn (digits_nil.1 e))
   have htop32 := bl32 ((digits_words n).getD ((digits n).length - 1))
   have hbt := bl_pos htop
   obtain ⟨s, hs⟩ : ∃ s, s = 32 - bl ((digits n).getD ((digits n).length - 1) 0) := ⟨_, rfl⟩
   have hs32 : s < 32 := by omega
   refine sx 7 ?_
   refine oq (.callR (yb := as1) (yc := ref01_bitsOf n hn)) ?_
   refine oq (.arithR (yd := by exact (wrap_i64 (by omega)).trans (by omega : _ = ((s : Nat) : Int)))) ?_
   refine sx 2 ?_
   have hcd := ref01_shifted n s hs32 (by omega)
   have hcr := ref01_shiftedN m s hs32 (by omega)
   obtain ⟨V, hV⟩ : ∃ V, V = n * 2 ^ s := ⟨_, rfl⟩
   obtain ⟨U, hU⟩ : ∃ U, U = m * 2 ^ s := ⟨_, rfl⟩
   have h2s := Nat.two_pow_pos s
   have hV0 : V ≠ 0 := by rw [hV]; exact Nat.mul_ne_zero hn (by omega)
   have hUV : V ≤ U := by rw [hV, hU]; exact Nat.mul_le_mul_right _ hge
   rw [← hV] at hcd
   rw [← hU] at hcr
   obtain ⟨e, hle, hVlt, hVge⟩ := ref_top hV0
   have hdv := digits_words V
   have hUlt := lt_digits U
   have hUl := len_le hUV
   have hPi : ∀ i, 0 < 4294967296 ^ i := fun i => Nat.pow_pos (by decide)
   have hUlen : (digits U).length ≤ 17592186044417 := by
    have h9 := wl_mul m (2 ^ s)
    have h10 : wl (2 ^ s) ≤ 1 := wl_le (by rw [Nat.pow_one]; exact Nat.pow_lt_pow_right (by decide) hs32)
    have h11 : wl m ≤ 17592186044416 := hla
    have h12 : wl U ≤ 17592186044417 := by rw [hU]; omega
    exact h12
   refine sx 3 ?_
   refine oq (.callR (yb := asc (.inl rfl) as1) (yc := hcd)) ?_
   refine sx 5 ?_
   refine on' (.callNR (yb := asc (.inl rfl) as1) (yc := hcr) (yd := by rfl)) ?_
   refine sx 4 ?_
   have hb5 : (wds (digits U) ++ [Tr.i .u32 0, Tr.i .u32 0]).length * 4 ≤ 140737488355328 := by simp [wds]; omega
   have hl5 : (wds (digits U) ++ [Tr.i .u32 0, Tr.i .u32 0]).length = (digits U).length + 2 := by simp [wds]
   obtain ⟨R0, hR0⟩ : ∃ R0, R0 = (digits U).length + 2 := ⟨_, rfl⟩
   have hw5 : Words (digits U ++ [0, 0]) := (digits_words U).append (.cons (by decide) (.cons (by decide) .nil))
   refine sx 23 ?_
   refine wp_l2 hK (krc 6 rfl (krc 7 rfl krn)) (khc 0 rfl khn) (fun sl' h' ((k, r, qs) : Nat × List Nat × List Nat) => ⟨(4, .own T_uint32 2 0 (R0 - (e + 1))) :: (5, .own T_uint32 1 0 R0) :: (8, .t (.i .i64 ((e + 1 : Nat)))) :: (9, .t (.i .i64 ((k : Int) - 1))) :: sl', (1, some (.arr T_uint32 ((wds r).map .t))) :: (2, some (.arr T_uint32 ((wds qs).map .t))) :: h', 3, 0⟩) (fun (k, r, qs) => k ≤ R0 - (e + 1) ∧ r.length = R0 ∧ Words r ∧ qs.length = R0 - (e + 1) ∧ Words qs ∧ val r < V * 4294967296 ^ k ∧ U = val qs * V + val r ∧ ∀ j, j < k → qs.getD j 0 = 0) (fun (k, _, _) => k) (R0 - (e + 1), digits U ++ [0, 0], List.replicate (R0 - (e + 1)) 0) ?_ (fun _ => rfl) ?_ ?_
   ·refine ⟨Nat.le_refl _, by simp [hR0], hw5, by simp, fun w hw => by rw [List.eq_of_mem_replicate hw]; decide, ?_, by rw [val_zeros, val_append]; simp [val, val_digits], fun j _ => by simp [List.getD_eq_getElem?_getD, List.getElem?_replicate]; split <;> rfl⟩; rw [val_append, val_digits]; simp only [val, Nat.mul_zero, Nat.add_zero]; refine Nat.lt_of_lt_of_le hUlt (Nat.le_trans ?_ (Nat.mul_le_mul_right _ hVge)); rw [← Nat.pow_add]; exact Nat.pow_le_pow_right (by decide) (by omega)
   ·exact imp_less (by repeat' (first | exact trivial | (refine And.intro (by first | rfl | exact geti rfl (by omega) | exact geto rfl (by omega)) ?_))) (by repeat' (first | exact trivial | (refine And.intro (by first | rfl | exact geth rfl (by first | (simp [wds]; done) | (simp [wds]; omega))) ?_))) (by exact Nat.le_of_ble_eq_true rfl)
   ·rintro ⟨k, r, qs⟩ ⟨hk, hrl, hrw, hql, hqw, hρ, hm, hqz⟩
    refine sx 5 ?_
    refine wp_c rfl (fun hc => ?_) (fun hc => ?_)
    ·obtain ⟨i, rfl⟩ : ∃ j, k = j + 1 := ⟨k - 1, by simp at hc; omega⟩
     have e1 : ((i + 1 : Nat) : Int) - 1 = (i : Int) := by omega
     rw [e1]
     obtain ⟨ρ, hρe⟩ : ∃ ρ, ρ = val r := ⟨_, rfl⟩
     rw [← hρe] at hρ hm
     have hG := ref_guess hVlt hVge hρ
     have d1 : r.getD (i + e + 1) 0 = ρ / 4294967296 ^ (i + e + 1) % 4294967296 := by rw [hρe, ← padW_getD R0 _ _ (by omega), ← hrl, padW_val hrw]
     have d0 : r.getD (i + e) 0 = ρ / 4294967296 ^ (i + e) % 4294967296 := by rw [hρe, ← padW_getD R0 _ _ (by omega), ← hrl, padW_val hrw]
     rw [← d1, ← d0, ← digits_getD] at hG
     obtain ⟨hq1, hq2, hq3, hq4, hρ2⟩ := hG
     have hr1 := hrw.getD (i + e + 1)
     have hr0 := hrw.getD (i + e)
     have hu := hdv.getD e
     obtain ⟨q, hq⟩ : ∃ q, q = ρ / (4294967296 ^ i * V) := ⟨_, rfl⟩
     rw [← hq] at hq1 hq4
     obtain ⟨g, hg⟩ : ∃ g, g = min ((4294967296 * r.getD (i + e + 1) 0 + r.getD (i + e) 0) / (digits V).getD e 0) 4294967295 := ⟨_, rfl⟩
     have hgq : q ≤ g := by rw [hg]; omega
     have hg32 : g < 4294967296 := by rw [hg]; omega
     have hrz := zeros_of_lt hrw (m := i + e + 2) (by rw [← hρe]; exact hρ2)
     refine sx 10 ?_
     refine dq (.loadPR (yd := by (exact wds_own2 (i + e + 1) (by omega) (by omega)))) ?_
     refine sx 8 ?_
     refine dq (.loadPR (yd := by (exact wds_own2 (i + e) (by omega) (by omega)))) ?_
     refine sx 1 ?_
     refine dq (.bitsR (yc := or64 hr1 hr0)) ?_
     refine sx 7 ?_
     refine oq (.indexAddrR (yf := by omega) (yg := by exact wds_at2 e (by omega) (by omega))) ?_
     refine sx 2 ?_
     refine oq (.quoR (yc := by omega) (yd := by exact tdivn hq2)) ?_
     refine sx 2 ?_
     refine wp_j2 hK (krc 4 rfl (krc 5 rfl (krc 6 rfl (krc 7 rfl (krc 8 rfl (krc 9 rfl krn)))))) (khc 0 rfl (khc 1 rfl (khc 2 rfl khn))) (fun sl' h' (_ : Unit) => ⟨(11, .t (.i .u64 (g))) :: sl', h', 3, 0⟩) (fun _ => True) (fun _ => rfl) ?_ ?_
     ·refine sx 4 ?_
      refine wp_c rfl (fun hc => ?_) (fun hc => ?_)
      ·have hc : 4294967295 < (4294967296 * r.getD (i + e + 1) 0 + r.getD (i + e) 0) / (digits V).getD e 0 := by have := of_decide_eq_true hc; omega
       refine sx 3 ?_
       exact join_n () (by trivial) (by exact imp_less (by repeat' (first | exact trivial | (refine And.intro (by first | rfl | exact geti rfl (by omega)) ?_))) ga (by exact Nat.le_of_ble_eq_true rfl))
      ·have hc : (4294967296 * r.getD (i + e + 1) 0 + r.getD (i + e) 0) / (digits V).getD e 0 ≤ 4294967295 := by have := of_decide_eq_false hc; omega
       refine wp_k ?_
       exact join_n () (by trivial) (by exact imp_less (by repeat' (first | exact trivial | (refine And.intro (by first | rfl | exact geti rfl (by omega)) ?_))) ga (by exact Nat.le_of_ble_eq_true rfl))
     ·intro _ _
      refine sx 9 ?_
      refine wp_l2 hK (krc 4 rfl (krc 5 rfl (krc 6 rfl (krc 7 rfl (krc 8 rfl (krc 9 rfl (krc 11 rfl krn))))))) (khc 0 rfl (khc 2 rfl khn)) (fun sl' h' ((j, o, c, b) : Nat × List Nat × Nat × Nat) => ⟨(12, .t (.i .u64 (c))) :: (13, .t (.i .u64 (b))) :: (14, .t (.i .i64 (j))) :: sl', (1, some (.arr T_uint32 ((wds o).map .t))) :: h', 3, 0⟩) (fun (j, o, c, b) => j ≤ e + 2 ∧ o.length = R0 ∧ Words o ∧ c < 4294967296 ∧ b ≤ 1 ∧ (∀ k, i + e + 2 ≤ k → o.getD k 0 = 0) ∧ val o + 4294967296 ^ i * (g * val ((digits V).take j)) = ρ + (4294967296 ^ i * 4294967296 ^ j) * (c + b) ∧ (e + 1 < j → c = 0)) (fun (j, _) => e + 2 - j) (0, r, 0, 0) ?_ (fun _ => rfl) ?_ ?_
      ·exact ⟨Nat.zero_le _, hrl, hrw, by decide, by decide, hrz, by simp [val, hρe], fun h => by omega⟩
      ·exact il
      ·rintro ⟨j, o, c, b⟩ ⟨hj, hol, how, hc32, hb1, hoz, hov, hcz⟩
       refine sx 6 ?_
       refine wp_c rfl (fun hc => ?_) (fun hc => ?_)
       ·have hcj : j ≤ e + 1 := by simp at hc; omega
        have gd := hdv.getD j
        have go := how.getD (i + j)
        have gm := mul_fit1 gd hg32
        refine sx 9 ?_
        refine oq (.arithR (yd := by exact (wrap_u64 (by omega)).trans (rfl : _ = (((digits V).getD j 0 * g : Nat) : Int)))) ?_
        refine om ?_
        refine oq (.arithR (yd := by exact (wrap_u64 (by omega)).trans (rfl : _ = (((digits V).getD j 0 * g + c : Nat) : Int)))) ?_
        refine sx 4 ?_
        refine oq (.shrR (yc := by omega) (yd := by exact (shr32.trans (rfl : _ = ((((digits V).getD j 0 * g + c) / 4294967296 : Nat) : Int))))) ?_
        refine oa ?_
        refine wo_nil ?_
        refine rr ?_
        refine om ?_
        refine om ?_
        refine om ?_
        refine oq (.arithR (yd := by exact wrap_i64 (by omega))) ?_
        refine oq (.indexAddrOR (yf := by omega) (yg := by omega)) ?_
        refine oq (.loadPR (yd := by (exact wds_own2 (i + j) (by omega) (by omega)))) ?_
        refine oq (.convR (yf := by exact wrap_u64 (by omega))) ?_
        refine oq (.arithR (yd := by exact wrap_u64 (by omega))) ?_
        refine om ?_
        refine oq (.bitsR (yc := and32 (by omega))) ?_
        refine oq (.arithR (yd := by exact wrap_u64 (by omega))) ?_
        refine om ?_
        refine oq (.arithR (yd := by exact (wrap_u64 (by omega)).trans (by omega : _ = ((o.getD (i + j) 0 + 4294967296 - ((digits V).getD j 0 * g + c) % 4294967296 - b : Nat) : Int)))) ?_
        refine sx 14 ?_
        refine oq (.shrR (yc := by omega) (yd := by exact (shr32.trans (by omega : _ = (((o.getD (i + j) 0 + 4294967296 - ((digits V).getD j 0 * g + c) % 4294967296 - b) / 4294967296 : Nat) : Int))))) ?_
        refine oq (.arithR (yd := by exact (wrap_u64 (by omega)).trans (by omega : _ = ((1 - (o.getD (i + j) 0 + 4294967296 - ((digits V).getD j 0 * g + c) % 4294967296 - b) / 4294967296 : Nat) : Int)))) ?_
        refine sx 9 ?_
        have g1 := val_set (w := (o.getD (i + j) 0 + 4294967296 - ((digits V).getD j 0 * g + c) % 4294967296 - b) % 4294967296) (show i + j < o.length by omega)
        have g3 := take_step (e := 1 - (o.getD (i + j) 0 + 4294967296 - ((digits V).getD j 0 * g + c) % 4294967296 - b) / 4294967296) (q := g) (w := (digits V).getD j 0) (cy := c) (c := ((digits V).getD j 0 * g + c) / 4294967296) g1 (sub_word2 go (Nat.mod_lt _ (by decide)) hb1) (by rw [Nat.mul_comm g]; exact Nat.mod_add_div _ _) (Nat.pow_add _ i j) (by rw [Nat.pow_add]; exact hov)
        exact round_n (j + 1, o.set (i + j) ((o.getD (i + j) 0 + 4294967296 - ((digits V).getD j 0 * g + c) % 4294967296 - b) % 4294967296), ((digits V).getD j 0 * g + c) / 4294967296, 1 - (o.getD (i + j) 0 + 4294967296 - ((digits V).getD j 0 * g + c) % 4294967296 - b) / 4294967296) (by refine ⟨by omega, by simp [hol], how.set (Nat.mod_lt _ (by decide)) _, by omega, by omega, fun k hk => by rw [getD_set_ne (by omega)]; exact hoz k hk, by rw [take_val, g3, pw], fun h => by have hje : j = e + 1 := by { omega }; rw [getD_end (by omega), Nat.zero_mul, Nat.zero_add, Nat.div_eq_of_lt hc32]⟩) (by (dsimp only; omega)) (by exact imp_less ga (by repeat' (first | exact trivial | (refine And.intro (by first | rfl | exact geth rfl (wds_upd2 (i + j) (by omega) rfl)) ?_))) (by exact Nat.le_of_ble_eq_true rfl))
       ·obtain rfl : j = e + 2 := by simp at hc; omega
        refine sx 7 ?_
        refine wp_l2 hK (krc 4 rfl (krc 5 rfl (krc 6 rfl (krc 7 rfl (krc 8 rfl (krc 9 rfl krn)))))) (khc 0 rfl (khc 2 rfl khn)) (fun sl' h' ((g, o, b) : Nat × List Nat × Nat) => ⟨(11, .t (.i .u64 (g))) :: (13, .t (.i .u64 (b))) :: sl', (1, some (.arr T_uint32 ((wds o).map .t))) :: h', 3, 0⟩) (fun (g, o, b) => q ≤ g ∧ g < 4294967296 ∧ o.length = R0 ∧ Words o ∧ b ≤ 1 ∧ (∀ k, i + e + 2 ≤ k → o.getD k 0 = 0) ∧ val o + 4294967296 ^ i * (g * V) = ρ + 4294967296 ^ (i + e + 2) * b) (fun (g, _) => g) (g, o, b) ?_ (fun _ => rfl) ?_ ?_
        ·refine ⟨hgq, hg32, hol, how, hb1, hoz, ?_⟩; rw [hcz (by omega), take_all (by omega), ← Nat.pow_add, Nat.zero_add] at hov; exact hov
        ·exact il
        ·rintro ⟨g2, o2, b2⟩ ⟨hgq2, hg2, hol2, how2, hb2, hoz2, hov2⟩
         refine sx 5 ?_
         refine wp_c rfl (fun hc => ?_) (fun hc => ?_)
         ·obtain rfl : b2 = 1 := by simp at hc; omega
          have hlt2 := lt_of_zeros how2 hoz2
          rw [Nat.mul_one] at hov2
          have hgl : q < g2 := by rw [hq]; exact ref_qlt hlt2 (Nat.pos_of_ne_zero hV0) (hPi i) hov2
          refine sx 5 ?_
          refine oq (.arithR (yd := by exact (wrap_u64 (by omega)).trans (by omega : _ = ((g2 - 1 : Nat) : Int)))) ?_
          refine sx 10 ?_
          refine wp_l2 hK (krc 4 rfl (krc 5 rfl (krc 6 rfl (krc 7 rfl (krc 8 rfl (krc 9 rfl (krc 11 rfl (krc 13 rfl krn)))))))) (khc 0 rfl (khc 2 rfl khn)) (fun sl' h' ((j, o, c) : Nat × List Nat × Nat) => ⟨(12, .t (.i .u64 (c))) :: (17, .t (.i .i64 (j))) :: sl', (1, some (.arr T_uint32 ((wds o).map .t))) :: h', 3, 0⟩) (fun (j, o, c) => j ≤ e + 2 ∧ o.length = R0 ∧ Words o ∧ c ≤ 1 ∧ (∀ k, i + e + 2 ≤ k → o.getD k 0 = 0) ∧ val o + (4294967296 ^ i * 4294967296 ^ j) * c = val o2 + 4294967296 ^ i * val ((digits V).take j)) (fun (j, _) => e + 2 - j) (0, o2, 0) ?_ (fun _ => rfl) ?_ ?_
          ·exact ⟨Nat.zero_le _, hol2, how2, by decide, hoz2, by simp [val]⟩
          ·exact il
          ·rintro ⟨j, o3, c3⟩ ⟨hj3, hol3, how3, hc3, hoz3, hov3⟩
           refine sx 6 ?_
           refine wp_c rfl (fun hc => ?_) (fun hc => ?_)
           ·have hcj : j ≤ e + 1 := by simp at hc; omega
            have gd := hdv.getD j
            have go := how3.getD (i + j)
            refine sx 15 ?_
            refine dq (.arithR (yd := by exact (wrap_u64 (by omega)).trans (rfl : _ = ((o3.getD (i + j) 0 + (digits V).getD j 0 : Nat) : Int)))) ?_
            refine sx 1 ?_
            refine dq (.arithR (yd := by exact (wrap_u64 (by omega)).trans (rfl : _ = ((o3.getD (i + j) 0 + (digits V).getD j 0 + c3 : Nat) : Int)))) ?_
            refine sx 14 ?_
            refine oq (.shrR (yc := by omega) (yd := by exact (shr32.trans (rfl : _ = (((o3.getD (i + j) 0 + (digits V).getD j 0 + c3) / 4294967296 : Nat) : Int))))) ?_
            refine sx 9 ?_
            have g1 := val_set (w := (o3.getD (i + j) 0 + (digits V).getD j 0 + c3) % 4294967296) (show i + j < o3.length by omega)
            have g3 := add_step (w := (digits V).getD j 0) (c := c3) (c' := (o3.getD (i + j) 0 + (digits V).getD j 0 + c3) / 4294967296) g1 (Nat.mod_add_div _ _) (Nat.pow_add _ i j) (by rw [Nat.pow_add]; exact hov3)
            exact round_n (j + 1, o3.set (i + j) ((o3.getD (i + j) 0 + (digits V).getD j 0 + c3) % 4294967296), (o3.getD (i + j) 0 + (digits V).getD j 0 + c3) / 4294967296) (by refine ⟨by omega, by simp [hol3], how3.set (Nat.mod_lt _ (by decide)) _, by omega, fun k hk => by rw [getD_set_ne (by omega)]; exact hoz3 k hk, ?_⟩; rw [take_val, ← g3, pw]) (by (dsimp only; omega)) (by exact imp_less ga (by repeat' (first | exact trivial | (refine And.intro (by first | rfl | exact geth rfl (wds_upd2 (i + j) (by omega) rfl)) ?_))) (by exact Nat.le_of_ble_eq_true rfl))
           ·obtain rfl : j = e + 2 := by simp at hc; omega
            refine sx 8 ?_
            refine oq (.arithR (yd := by exact (wrap_u64 (by omega)).trans (by omega : _ = ((1 - c3 : Nat) : Int)))) ?_
            refine sx 3 ?_
            have g5 := hov3
            rw [take_all (by omega), ← Nat.pow_add] at g5
            exact round_n (g2 - 1, o3, 1 - c3) (by exact ⟨by omega, by omega, hol3, how3, by omega, hoz3, ref_back (PV := 0) hc3 (by omega) hov2 g5⟩) (by (dsimp only; omega)) (by exact il)
         ·obtain rfl : b2 = 0 := by simp at hc; omega
          rw [Nat.mul_zero, Nat.add_zero] at hov2
          obtain ⟨k1, k2, k3⟩ := ref_q (Nat.pos_of_ne_zero hV0) (hPi i) (by rw [← hq]; exact hgq2) hov2
          rw [← hq] at k1 k2
          refine sx 9 ?_
          refine oq (.convR (yf := by exact w32n hg2)) ?_
          refine sx 10 ?_
          have hqs := val_set (ws := qs) (k := i) (w := g2) (by omega)
          rw [hqz i (by omega), Nat.mul_zero, Nat.add_zero] at hqs
          exact round_n (i, o2, qs.set i g2) (by refine ⟨by omega, hol2, how2, by simp [hql], hqw.set hg2 _, k3, ?_, fun j hj => by rw [getD_set_ne (by omega)]; exact hqz j (by omega)⟩; rw [hqs, Nat.add_mul, Nat.mul_assoc]; omega) (by (dsimp only; omega)) (by exact imp_less ga (by repeat' (first | exact trivial | (refine And.intro (by first | rfl | exact geth rfl (wds_upd2 i (by omega) rfl)) ?_))) (by exact Nat.le_of_ble_eq_true rfl))
    ·obtain rfl : k = 0 := by simp at hc; omega
     rw [Nat.pow_zero, Nat.mul_one] at hρ
     obtain ⟨r1, r2, r3⟩ := fin_div (s := s) hn (by rw [hV, hU] at hm; exact hm) (by rw [hV] at hρ; exact hρ)
     refine sx 5 ?_
     refine wp_imp hK (imp_fz 4 (wds qs) rfl rfl rfl (by rw [wds_len, hql])) ?_
     refine wp_imp hK (imp_fz 5 (wds r) rfl rfl rfl (by rw [wds_len, hrl])) ?_
     refine sx 2 ?_
     refine oq (.callR (yb := as1) (yc := ref01_trimD qs hqw)) ?_
     refine om ?_
     refine oq (.callR (yb := as1) (yc := ref01_trimD r hrw)) ?_
     refine om ?_
     refine oq (.callR (yb := asc (.inl rfl) as1) (yc := ref01_unshifted _ s hs32)) ?_
     refine sx 4 ?_
     exact ⟨.inr rfl, rfl, (by (refine res_t rfl ?_); (rw [r1])), (by (refine res_t rfl ?_); (rw [r3])), trivial⟩
theorem small_div {a b : Int} (hb : b ≠ 0) : (0 ≤ a.tmod b → a.tdiv b = a / b ∧ a.tmod b = a % b) ∧ (a.tmod b < 0 → a.tmod b + max b (0 - b) = a % b ∧ (a - a % b).tdiv b = a / b) ∧ (a.tmod b).natAbs < b.natAbs ∧ (a.tdiv b).natAbs ≤ a.natAbs ∧ (a / b).natAbs ≤ a.natAbs + 1 := by
 have h1 := Int.mul_tdiv_add_tmod a b
 have h2 : (a.tmod b).natAbs < b.natAbs := by rw [Int.natAbs_tmod]; exact Nat.mod_lt _ (by omega)
 have h3 : (a.tdiv b).natAbs ≤ a.natAbs := by rw [Int.natAbs_tdiv]; exact Nat.div_le_self _ _
 generalize a.tdiv b = S at *
 generalize a.tmod b = T at *
 rcases Int.lt_or_le T 0 with hT | hT
 ·rcases Int.lt_or_gt_of_ne hb with hn | hp
  ·obtain ⟨e1, e2⟩ := idiv (a := a) (q := S + 1) (r := T - b) hb (by rw [Int.mul_add, Int.mul_one]; omega) (by omega) (by omega)
   rw [e1, e2]
   refine ⟨fun h => by omega, fun _ => ⟨by omega, ?_⟩, h2, h3, by omega⟩
   rw [show a - (T - b) = b * (S + 1) by rw [Int.mul_add, Int.mul_one]; omega]
   exact Int.mul_tdiv_cancel_left _ hb
  ·obtain ⟨e1, e2⟩ := idiv (a := a) (q := S - 1) (r := T + b) hb (by rw [Int.mul_sub, Int.mul_one]; omega) (by omega) (by omega)
   rw [e1, e2]
   refine ⟨fun h => by omega, fun _ => ⟨by omega, ?_⟩, h2, h3, by omega⟩
   rw [show a - (T + b) = b * (S - 1) by rw [Int.mul_sub, Int.mul_one]; omega]
   exact Int.mul_tdiv_cancel_left _ hb
 ·obtain ⟨e1, e2⟩ := idiv (a := a) (q := S) (r := T) hb h1.symm hT (by omega)
  exact ⟨fun _ => ⟨e1.symm, e2.symm⟩, fun h => by omega, h2, h3, by omega⟩
theorem sgn_fsub {m n : Nat} (h : m ≤ n) : sgn false (n - m) = (n : Int) - (m : Int) := by simp [sgn]; omega
theorem ref01_Div (a b : Int) (hb : b ≠ 0) (ha16 : Fi 16 a := by first | assumption | exact Fi.small (by omega) | (apply Fi.le; (focus (repeat' (first | assumption | apply Fi.mul | apply Fi.add | apply Fi.sub | apply Fi.neg | apply Fi.abs | apply Fi.gcd | apply Fi.div | exact Fi.one | exact Fi.zero | exact Fi.small (by omega)))); decide)) (hb16 : Fi 16 b := by first | assumption | exact Fi.small (by omega) | (apply Fi.le; (focus (repeat' (first | assumption | apply Fi.mul | apply Fi.add | apply Fi.sub | apply Fi.neg | apply Fi.abs | apply Fi.gcd | apply Fi.div | exact Fi.one | exact Fi.zero | exact Fi.small (by omega)))); decide)) : FnP Tryz.prog tb F_ref01_Div [encI a, encI b] (.tu [encI (a / b), encI (a % b), .i .i64 0]) := by
 have hn : b.natAbs ≠ 0 := by omega
 obtain ⟨d1, d2, d3⟩ := div_parts (a := a) hb
 obtain ⟨s1, s2, s3, s4, s5⟩ := small_div (a := a) hb
 have hrm := Int.emod_nonneg a hb
 have hrm2 := Int.emod_lt a hb
 have hne : digits b.natAbs ≠ [] := fun h => hn (digits_nil.1 h)
 refine fnP_T tbOk Tryz.func166 rfl rfl (Nat.le_of_ble_eq_true rfl) rfl fun G hG hK => ?_
 have hF : Wd Fence.wide := .inl rfl
 refine sx 18 ?_
 refine wp_c rfl (fun hc => ?_) (fun hc => ?_)
 ·simp [isW_enc] at hc
 ·refine sx 9 ?_
  refine wp_cF rfl (by simp [hne]) ?_
  refine sx 21 ?_
  by_cases hx : a.natAbs < 4611686018427387904
  ·refine sx 6 ?_
   refine wp_c rfl (fun hc => ?_) (fun hc => ?_)
   ·have hy : b.natAbs < 4611686018427387904 := by simpa using hc
    rw [if_pos hx, if_pos hy]
    refine sx 3 ?_
    refine dq (.quoR (yc := by omega) (yd := by exact wrap_i64 (by omega))) ?_
    refine sx 2 ?_
    refine dq (.remR (yc := by omega) (yd := by rfl)) ?_
    refine sx 3 ?_
    refine wp_j2 hK (krc 4 rfl (krc 5 rfl krn)) (khc 0 rfl (khc 1 rfl khn)) (fun sl' h' (_ : Unit) => ⟨(11, .t (.i .i64 (a / b))) :: (12, .t (.i .i64 (a % b))) :: sl', h', 2, 0⟩) (fun _ => True) (fun _ => rfl) ?_ ?_
    ·refine sx 4 ?_
     refine wp_c rfl (fun hc => ?_) (fun hc => ?_)
     ·have hT : a.tmod b < 0 := by simpa using hc
      obtain ⟨t1, t2⟩ := s2 hT
      refine sx 6 ?_
      refine oq (.arithR (yd := by exact (wrap_i64 (by omega)).trans t1)) ?_
      refine sx 7 ?_
      refine oq (.quoR (yc := by omega) (yd := by exact (wrap_i64 (by rw [t2]; omega)).trans t2)) ?_
      refine sx 2 ?_
      exact join_n () (by trivial) (by exact il)
     ·have hT : ¬ a.tmod b < 0 := by simpa using hc
      obtain ⟨t1, t2⟩ := s1 (by omega)
      refine wp_k ?_
      exact join_n () (by trivial) (by exact imp_less (by repeat' (first | exact trivial | (refine And.intro (by first | rfl | exact geti rfl (by omega)) ?_))) ga (by exact Nat.le_of_ble_eq_true rfl))
    ·intro _ _
     refine sx 2 ?_
     refine oq (.callR (yb := as1) (yc := ref01_Of (a / b) (by omega) (by omega))) ?_
     refine om ?_
     refine oq (.callR (yb := as1) (yc := ref01_Of (a % b) (by omega) (by omega))) ?_
     refine sx 6 ?_
     exact ⟨.inr rfl, rfl, (by (refine res_c rfl rfl rfl rfl rfl ?_); (rfl)), (by (refine res_c rfl rfl rfl rfl rfl ?_); (rfl)), (by (refine res_t rfl ?_); (rfl)), trivial⟩
   ·refine wp_k ?_
    refine then_n ?_
    refine rr ?_
    refine oq .fieldAddrR ?_
    refine oq .loadR ?_
    refine oq .fieldAddrR ?_
    refine oq .loadR ?_
    refine oq (.callR (yb := asc (.inl rfl) as1) (yc := ref01_divWords _ _ hn (by have := ha16.wl; omega) (by have := hb16.wl; omega))) ?_
    refine om ?_
    refine oq .extractR ?_
    refine oq .extractR ?_
    refine oa ?_
    refine oa ?_
    refine wo_nil ?_
    refine wp_s ?_
    by_cases ha : a < 0
    ·refine rr ?_
     refine oq .fieldAddrR ?_
     refine oq .loadR ?_
     refine om ?_
     refine gq (z := by simp [ha]) .moveR ?_
     refine gq (z := by simp [ha]) (.lenR (yc := .inl rfl) (yd := by exact wds_len)) ?_
     refine gq (z := by simp [ha]) .cmpR ?_
     refine oq (.pickT rfl (by simp [ha]) rfl) ?_
     refine wo_nil ?_
     refine wp_c rfl (fun hc => ?_) (fun hc => ?_)
     ·have hr0 : a.natAbs % b.natAbs ≠ 0 := by have := of_decide_eq_true hc; exact fun h => by { rw [h] at this; simp [digits_zero] at this }
      obtain ⟨e1, e2⟩ := d3 ha hr0
      refine wp_d0 tbOk hF mixed hG [] (by kernel_rfl) ?_
      refine dq .moveR ?_
      refine dq (.buildSliceR (ye := as1) (yg := by decide) (yj := by decide) (yk := by decide)) ?_
      refine dq (.callR (yb := asc (.inl rfl) as1) (yc := ref01_addWords (digits (a.natAbs / b.natAbs)) [1] (digits_words _) (.cons (by decide) .nil) (by have h1 := ha16.wl; have h2 := wl_mono (Nat.div_le_self a.natAbs b.natAbs); simp only [wl] at h2; omega) (by decide))) ?_
      refine dq .fieldAddrR ?_
      refine dq .loadR ?_
      refine dq .moveR ?_
      refine dq (.callR (yb := asc (.inl rfl) as1) (yc := ref01_subWords b.natAbs (a.natAbs % b.natAbs) (Nat.le_of_lt (Nat.mod_lt _ (by omega))))) ?_
      refine dq .assignR ?_
      refine dq .assignR ?_
      refine wd_nil ?_
      refine then_n ?_
      refine rr ?_
      refine oq .fieldAddrR ?_
      refine oq .loadR ?_
      refine oq .fieldAddrR ?_
      refine oq .loadR ?_
      refine oq .neBR ?_
      refine om ?_
      refine oq (.callR (yb := asc (.inl rfl) as1) (yc := ref01_made _ _ (digits_words _))) ?_
      refine om ?_
      refine oq (.callR (yb := asc (.inl rfl) as1) (yc := ref01_made false _ (digits_words _))) ?_
      refine oe (.storeR (ye := by decide) (yg := .inl rfl)) ?_
      refine oe (.storeR (ye := by decide) (yg := .inl rfl)) ?_
      refine oa ?_
      refine wo_nil ?_
      refine wp_rt ?_
      exact ⟨.inr rfl, rfl, (by (refine res_c rfl rfl rfl rfl rfl ?_); ((rw [val_digits, val_digits, sgn_add, show val [1] = 1 from rfl, e1]; done))), (by (refine res_c rfl rfl rfl rfl rfl ?_); ((rw [val_digits, ← e2]; exact congrArg encI (sgn_fsub (Nat.le_of_lt (Nat.mod_lt a.natAbs (show 0 < b.natAbs by omega))))))), (by (refine res_t rfl ?_); (rfl)), trivial⟩
     ·have hr0 : a.natAbs % b.natAbs = 0 := by have := of_decide_eq_false hc; exact digits_len.1 (by omega)
      obtain ⟨e1, e2⟩ := d2 ha hr0
      refine sx 17 ?_
      exact ⟨.inr rfl, rfl, (by (refine res_c rfl rfl rfl rfl rfl ?_); ((rw [val_digits, e1]; done))), (by (refine res_c rfl rfl rfl rfl rfl ?_); ((rw [val_digits]; exact congrArg encI e2))), (by (refine res_t rfl ?_); (rfl)), trivial⟩
    ·refine rr ?_
     refine oq .fieldAddrR ?_
     refine oq .loadR ?_
     refine om ?_
     refine gs (z := by simp [ha]) ?_
     refine gs (z := by simp [ha]) ?_
     refine gs (z := by simp [ha]) ?_
     refine oq (.pickF rfl (by simp [ha]) rfl) ?_
     refine wo_nil ?_
     refine wp_cF rfl (by rfl) ?_
     refine sx 2 ?_
     obtain ⟨e1, e2⟩ := d1 (by omega)
     refine sx 15 ?_
     exact ⟨.inr rfl, rfl, (by (refine res_c rfl rfl rfl rfl rfl ?_); ((rw [val_digits, e1]; done))), (by (refine res_c rfl rfl rfl rfl rfl ?_); ((rw [val_digits]; exact congrArg encI e2))), (by (refine res_t rfl ?_); (rfl)), trivial⟩
  ·refine sx 6 ?_
   refine wp_cF rfl (by rfl) ?_
   refine wp_k ?_
   refine then_n ?_
   refine rr ?_
   refine oq .fieldAddrR ?_
   refine oq .loadR ?_
   refine oq .fieldAddrR ?_
   refine oq .loadR ?_
   refine oq (.callR (yb := asc (.inl rfl) as1) (yc := ref01_divWords _ _ hn (by have := ha16.wl; omega) (by have := hb16.wl; omega))) ?_
   refine om ?_
   refine oq .extractR ?_
   refine oq .extractR ?_
   refine oa ?_
   refine oa ?_
   refine wo_nil ?_
   refine wp_s ?_
   by_cases ha : a < 0
   ·refine rr ?_
    refine oq .fieldAddrR ?_
    refine oq .loadR ?_
    refine om ?_
    refine gq (z := by simp [ha]) .moveR ?_
    refine gq (z := by simp [ha]) (.lenR (yc := .inl rfl) (yd := by exact wds_len)) ?_
    refine gq (z := by simp [ha]) .cmpR ?_
    refine oq (.pickT rfl (by simp [ha]) rfl) ?_
    refine wo_nil ?_
    refine wp_c rfl (fun hc => ?_) (fun hc => ?_)
    ·have hr0 : a.natAbs % b.natAbs ≠ 0 := by have := of_decide_eq_true hc; exact fun h => by { rw [h] at this; simp [digits_zero] at this }
     obtain ⟨e1, e2⟩ := d3 ha hr0
     refine wp_d0 tbOk hF mixed hG [] (by kernel_rfl) ?_
     refine dq .moveR ?_
     refine dq (.buildSliceR (ye := as1) (yg := by decide) (yj := by decide) (yk := by decide)) ?_
     refine dq (.callR (yb := asc (.inl rfl) as1) (yc := ref01_addWords (digits (a.natAbs / b.natAbs)) [1] (digits_words _) (.cons (by decide) .nil) (by have h1 := ha16.wl; have h2 := wl_mono (Nat.div_le_self a.natAbs b.natAbs); simp only [wl] at h2; omega) (by decide))) ?_
     refine dq .fieldAddrR ?_
     refine dq .loadR ?_
     refine dq .moveR ?_
     refine dq (.callR (yb := asc (.inl rfl) as1) (yc := ref01_subWords b.natAbs (a.natAbs % b.natAbs) (Nat.le_of_lt (Nat.mod_lt _ (by omega))))) ?_
     refine dq .assignR ?_
     refine dq .assignR ?_
     refine wd_nil ?_
     refine then_n ?_
     refine rr ?_
     refine oq .fieldAddrR ?_
     refine oq .loadR ?_
     refine oq .fieldAddrR ?_
     refine oq .loadR ?_
     refine oq .neBR ?_
     refine om ?_
     refine oq (.callR (yb := asc (.inl rfl) as1) (yc := ref01_made _ _ (digits_words _))) ?_
     refine om ?_
     refine oq (.callR (yb := asc (.inl rfl) as1) (yc := ref01_made false _ (digits_words _))) ?_
     refine oe (.storeR (ye := by decide) (yg := .inl rfl)) ?_
     refine oe (.storeR (ye := by decide) (yg := .inl rfl)) ?_
     refine oa ?_
     refine wo_nil ?_
     refine wp_rt ?_
     exact ⟨.inr rfl, rfl, (by (refine res_c rfl rfl rfl rfl rfl ?_); ((rw [val_digits, val_digits, sgn_add, show val [1] = 1 from rfl, e1]; done))), (by (refine res_c rfl rfl rfl rfl rfl ?_); ((rw [val_digits, ← e2]; exact congrArg encI (sgn_fsub (Nat.le_of_lt (Nat.mod_lt a.natAbs (show 0 < b.natAbs by omega))))))), (by (refine res_t rfl ?_); (rfl)), trivial⟩
    ·have hr0 : a.natAbs % b.natAbs = 0 := by have := of_decide_eq_false hc; exact digits_len.1 (by omega)
     obtain ⟨e1, e2⟩ := d2 ha hr0
     refine sx 17 ?_
     exact ⟨.inr rfl, rfl, (by (refine res_c rfl rfl rfl rfl rfl ?_); ((rw [val_digits, e1]; done))), (by (refine res_c rfl rfl rfl rfl rfl ?_); ((rw [val_digits]; exact congrArg encI e2))), (by (refine res_t rfl ?_); (rfl)), trivial⟩
   ·refine rr ?_
    refine oq .fieldAddrR ?_
    refine oq .loadR ?_
    refine om ?_
    refine gs (z := by simp [ha]) ?_
    refine gs (z := by simp [ha]) ?_
    refine gs (z := by simp [ha]) ?_
    refine oq (.pickF rfl (by simp [ha]) rfl) ?_
    refine wo_nil ?_
    refine wp_cF rfl (by rfl) ?_
    refine sx 2 ?_
    obtain ⟨e1, e2⟩ := d1 (by omega)
    refine sx 15 ?_
    exact ⟨.inr rfl, rfl, (by (refine res_c rfl rfl rfl rfl rfl ?_); ((rw [val_digits, e1]; done))), (by (refine res_c rfl rfl rfl rfl rfl ?_); ((rw [val_digits]; exact congrArg encI e2))), (by (refine res_t rfl ?_); (rfl)), trivial⟩
theorem ref01_Quo (a b : Int) (hb : b ≠ 0) (ha16 : Fi 16 a := by first | assumption | exact Fi.small (by omega) | (apply Fi.le; (focus (repeat' (first | assumption | apply Fi.mul | apply Fi.add | apply Fi.sub | apply Fi.neg | apply Fi.abs | apply Fi.gcd | apply Fi.div | exact Fi.one | exact Fi.zero | exact Fi.small (by omega)))); decide)) (hb16 : Fi 16 b := by first | assumption | exact Fi.small (by omega) | (apply Fi.le; (focus (repeat' (first | assumption | apply Fi.mul | apply Fi.add | apply Fi.sub | apply Fi.neg | apply Fi.abs | apply Fi.gcd | apply Fi.div | exact Fi.one | exact Fi.zero | exact Fi.small (by omega)))); decide)) : FnP Tryz.prog tb F_ref01_Quo [encI a, encI b] (encI (a / b)) := by
 refine fn1 Tryz.func154 fun G hG hK hF => ?_
 refine sx 24 ?_
 exact ⟨.inr rfl, rfl, (by (refine res_c rfl rfl rfl rfl rfl ?_); (rfl)), trivial⟩
theorem ref01_Mod (a b : Int) (hb : b ≠ 0) (ha16 : Fi 16 a := by first | assumption | exact Fi.small (by omega) | (apply Fi.le; (focus (repeat' (first | assumption | apply Fi.mul | apply Fi.add | apply Fi.sub | apply Fi.neg | apply Fi.abs | apply Fi.gcd | apply Fi.div | exact Fi.one | exact Fi.zero | exact Fi.small (by omega)))); decide)) (hb16 : Fi 16 b := by first | assumption | exact Fi.small (by omega) | (apply Fi.le; (focus (repeat' (first | assumption | apply Fi.mul | apply Fi.add | apply Fi.sub | apply Fi.neg | apply Fi.abs | apply Fi.gcd | apply Fi.div | exact Fi.one | exact Fi.zero | exact Fi.small (by omega)))); decide)) : FnP Tryz.prog tb F_ref01_Mod [encI a, encI b] (encI (a % b)) := by
 refine fn1 Tryz.func123 fun G hG hK hF => ?_
 refine sx 24 ?_
 exact ⟨.inr rfl, rfl, (by (refine res_c rfl rfl rfl rfl rfl ?_); (rfl)), trivial⟩
theorem ref01_Gcd (a b : Int) (ha16 : Fi 16 a := by first | assumption | exact Fi.small (by omega) | (apply Fi.le; (focus (repeat' (first | assumption | apply Fi.mul | apply Fi.add | apply Fi.sub | apply Fi.neg | apply Fi.abs | apply Fi.gcd | apply Fi.div | exact Fi.one | exact Fi.zero | exact Fi.small (by omega)))); decide)) (hb16 : Fi 16 b := by first | assumption | exact Fi.small (by omega) | (apply Fi.le; (focus (repeat' (first | assumption | apply Fi.mul | apply Fi.add | apply Fi.sub | apply Fi.neg | apply Fi.abs | apply Fi.gcd | apply Fi.div | exact Fi.one | exact Fi.zero | exact Fi.small (by omega)))); decide)) : FnP Tryz.prog tb F_ref01_Gcd [encI a, encI b] (encI (Int.gcd a b)) := by
 refine fn1 Tryz.func63 fun G hG hK hF => ?_
 refine sx 16 ?_
 refine wp_c rfl (fun hc => ?_) (fun hc => ?_)
 ·simp [isW_enc] at hc
 ·refine sx 4 ?_
  refine dq (.callR (yb := as1) (yc := ref01_Abs a)) ?_
  refine sx 1 ?_
  refine dq (.callR (yb := as1) (yc := ref01_Abs b)) ?_
  refine sx 7 ?_
  refine wp_l2 hK (krc 4 rfl (krc 5 rfl (krc 6 rfl krn))) khn (fun sl' h' ((x, y) : Nat × Nat) => ⟨sl', (0, some (.arr T_Int [.t (encI 0)])) :: (1, some (.arr T_Int [.t (encI x)])) :: (2, some (.arr T_Int [.t (encI y)])) :: h', 3, 0⟩) (fun (x, y) => Nat.gcd x y = Int.gcd a b ∧ Fi 16 (x : Int) ∧ Fi 16 (y : Int)) (fun (_, y) => y) (a.natAbs, b.natAbs) ?_ (fun _ => rfl) ?_ ?_
  ·exact ⟨rfl, ha16.abs, hb16.abs⟩
  ·exact il
  ·rintro ⟨x, y⟩ ⟨hg, hx16, hy16⟩
   refine sx 7 ?_
   refine wp_c rfl (fun hc => ?_) (fun hc => ?_)
   ·have hy : y ≠ 0 := by rintro rfl; simp [digits_zero] at hc
    refine sx 5 ?_
    refine oq (.callR (yb := as1) (yc := ref01_native (x : Int))) ?_
    refine sx 8 ?_
    refine oq (.callR (yb := as1) (yc := ref01_native (y : Int))) ?_
    refine sx 7 ?_
    by_cases hx : ((x : Int)).natAbs < 4611686018427387904
    ·refine sx 6 ?_
     refine wp_c rfl (fun hc => ?_) (fun hc => ?_)
     ·have hy2 : ((y : Int)).natAbs < 4611686018427387904 := by simpa using hc
      rw [if_pos hx, if_pos hy2]
      refine sx 2 ?_
      refine wp_l2 hK (krc 4 rfl krn) (khc 0 rfl (khc 1 rfl (khc 2 rfl khn))) (fun sl' h' ((p, q) : Nat × Nat) => ⟨(7, .t (.i .i64 (p))) :: (9, .t (.i .i64 (q))) :: sl', h', 3, 0⟩) (fun (p, q) => Nat.gcd p q = Int.gcd a b ∧ p < 4611686018427387904 ∧ q < 4611686018427387904) (fun (_, q) => q) (x, y) ?_ (fun _ => rfl) ?_ ?_
      ·exact ⟨hg, by omega, by omega⟩
      ·exact il
      ·rintro ⟨p, q⟩ ⟨hg2, hp64, hq64⟩
       refine sx 5 ?_
       refine wp_c rfl (fun hc => ?_) (fun hc => ?_)
       ·have hq0 : 0 < q := by simp at hc; omega
        refine sx 12 ?_
        exact round_n (q, p % q) (by exact ⟨by rw [← hg2, Nat.gcd_comm p q, Nat.gcd_rec q p, Nat.gcd_comm], hq64, Nat.lt_of_le_of_lt (Nat.mod_le _ _) hp64⟩) (by exact Nat.mod_lt _ hq0) (by exact il)
       ·have hq0 : q = 0 := by simp at hc; omega
        refine sx 7 ?_
        refine oq (.callR (yb := as1) (yc := ref01_Of (p : Int) (by omega) (by omega))) ?_
        refine sx 8 ?_
        exact ⟨.inr rfl, rfl, (by (refine res_c rfl rfl rfl rfl rfl ?_); (subst hq0; rw [← hg2, Nat.gcd_zero_right])), trivial⟩
     ·refine sx 11 ?_
      exact round_n (y, x % y) (by exact ⟨by show Nat.gcd y (x % y) = _; rw [← hg, Nat.gcd_comm x y, Nat.gcd_rec y x, Nat.gcd_comm], hy16, hx16.mono (by rw [Int.natAbs_natCast, Int.natAbs_natCast]; exact Nat.mod_le ..)⟩) (by exact Nat.mod_lt _ (Nat.pos_of_ne_zero hy)) (by exact il)
    ·refine sx 6 ?_
     refine wp_cF rfl (by rfl) ?_
     refine sx 11 ?_
     exact round_n (y, x % y) (by exact ⟨by show Nat.gcd y (x % y) = _; rw [← hg, Nat.gcd_comm x y, Nat.gcd_rec y x, Nat.gcd_comm], hy16, hx16.mono (by rw [Int.natAbs_natCast, Int.natAbs_natCast]; exact Nat.mod_le ..)⟩) (by exact Nat.mod_lt _ (Nat.pos_of_ne_zero hy)) (by exact il)
   ·have hy : y = 0 := by simp at hc; exact digits_nil.1 hc
    refine sx 10 ?_
    exact ⟨.inr rfl, rfl, (by (refine res_c rfl rfl rfl rfl rfl ?_); (subst hy; rw [← hg, Nat.gcd_zero_right])), trivial⟩
theorem ref02_one : FnP Tryz.prog tb F_ref02_one [] (encI 1) := by
 refine fn1 Tryz.func119 fun G hG hK hF => ?_
 refine sx 4 ?_
 refine oq (.callR (yb := as1) (yc := ref01_Of 1 (by decide) (by decide))) ?_
 refine sx 3 ?_
 exact ⟨.inr rfl, rfl, (by (refine res_c rfl rfl rfl rfl rfl ?_); (rfl)), trivial⟩
theorem ref02_isOne (z : Int) : FnP Tryz.prog tb F_ref02_isOne [encI z] (.b (decide (z = 1))) := by
 refine fn1 Tryz.func136 fun G hG hK hF => ?_
 refine sx 4 ?_
 rcases isOne_cases z with ⟨h1, h2⟩ | ⟨h1, h2, h3⟩ | ⟨h1, h2, h3⟩
 ·refine sx 20 ?_
  exact ⟨.inr rfl, rfl, (by (refine res_t rfl ?_); (simp [h2])), trivial⟩
 ·refine rr ?_
  refine oq .fieldAddrR ?_
  refine oq .loadR ?_
  refine oq (.lenR (yc := .inl rfl) (yd := by exact wds_len)) ?_
  refine oq .cmpR ?_
  refine om ?_
  refine gq (z := by (simp [h1]; done)) .fieldAddrR ?_
  refine gq (z := by (simp [h1]; done)) .loadR ?_
  refine gq (z := by (simp [h1]; done)) (.indexAddrR (yf := by omega) (yg := by exact wds_at2 0 rfl (by omega))) ?_
  refine gq (z := by (simp [h1]; done)) .loadR ?_
  refine gq (z := by (simp [h1]; done)) .cmpR ?_
  refine oq (.pickT rfl (by (simp [h1]; done)) rfl) ?_
  refine om ?_
  refine gs (z := by (rw [show ((((digits z.natAbs).getD 0 0 : Nat) : Int) == 1) = false from beq_eq_false_iff_ne.2 (by omega)]; rfl)) ?_
  refine gs (z := by (rw [show ((((digits z.natAbs).getD 0 0 : Nat) : Int) == 1) = false from beq_eq_false_iff_ne.2 (by omega)]; rfl)) ?_
  refine sx 5 ?_
  exact ⟨.inr rfl, rfl, (by (refine res_t rfl ?_); (simp [h3])), trivial⟩
 ·refine rr ?_
  refine oq .fieldAddrR ?_
  refine oq .loadR ?_
  refine oq (.lenR (yc := .inl rfl) (yd := by exact wds_len)) ?_
  refine oq .cmpR ?_
  refine om ?_
  refine gq (z := by (simp [h1]; done)) .fieldAddrR ?_
  refine gq (z := by (simp [h1]; done)) .loadR ?_
  refine gq (z := by (simp [h1]; done)) (.indexAddrR (yf := by omega) (yg := by exact wds_at2 0 rfl (by omega))) ?_
  refine gq (z := by (simp [h1]; done)) .loadR ?_
  refine gq (z := by (simp [h1]; done)) .cmpR ?_
  refine oq (.pickT rfl (by (simp [h1]; done)) rfl) ?_
  refine om ?_
  refine gq (z := by (rw [show ((((digits z.natAbs).getD 0 0 : Nat) : Int) == 1) = true from beq_iff_eq.2 (by omega)]; rfl)) .fieldAddrR ?_
  refine gq (z := by (rw [show ((((digits z.natAbs).getD 0 0 : Nat) : Int) == 1) = true from beq_iff_eq.2 (by omega)]; rfl)) .loadR ?_
  refine gq (z := by (rw [show ((((digits z.natAbs).getD 0 0 : Nat) : Int) == 1) = true from beq_iff_eq.2 (by omega)]; rfl)) .notR ?_
  refine sx 4 ?_
  exact ⟨.inr rfl, rfl, (by (refine res_t rfl ?_); (exact trb (by by_cases h : z < 0 <;> simp [h] <;> omega))), trivial⟩
theorem ref02_Whole (n : Int) : FnP Tryz.prog tb F_ref02_Whole [encI n] (encQ n) := by
 rw [encQ_int]
 refine fn1 Tryz.func62 fun G hG hK hF => ?_
 refine sx 11 ?_
 exact ⟨.inr rfl, rfl, (by (refine res_c rfl rfl rfl rfl rfl ?_); (rfl)), trivial⟩
theorem ref02_Int (n : Int) (h1 : -9223372036854775808 ≤ n) (h2 : n < 9223372036854775808) : FnP Tryz.prog tb F_ref02_Int [.i .i64 n] (encQ n) := by
 refine fn1 Tryz.func53 fun G hG hK hF => ?_
 refine sx 6 ?_
 refine oq (.callR (yb := as1) (yc := ref02_Whole n)) ?_
 refine sx 3 ?_
 exact ⟨.inr rfl, rfl, (by (refine res_c rfl rfl rfl rfl rfl ?_); (rfl)), trivial⟩
theorem ref02_SignI (n d : Int) : FnP Tryz.prog tb F_ref02_Sign [encQI n d] (.i .i64 n.sign) := by
 refine fn1 Tryz.func54 fun G hG hK hF => ?_
 refine sx 7 ?_
 refine oq (.callR (yb := as1) (yc := ref01_Sign n)) ?_
 refine sx 3 ?_
 exact ⟨.inr rfl, rfl, (by (refine res_t rfl ?_); (rfl)), trivial⟩
theorem ref02_over (n d : Int) (hd : d ≠ 0) (hn16 : Fi 16 n := by first | assumption | exact Fi.small (by omega) | (apply Fi.le; (focus (repeat' (first | assumption | apply Fi.mul | apply Fi.add | apply Fi.sub | apply Fi.neg | apply Fi.abs | apply Fi.gcd | apply Fi.div | exact Fi.one | exact Fi.zero | exact Fi.small (by omega)))); decide)) (hd16 : Fi 16 d := by first | assumption | exact Fi.small (by omega) | (apply Fi.le; (focus (repeat' (first | assumption | apply Fi.mul | apply Fi.add | apply Fi.sub | apply Fi.neg | apply Fi.abs | apply Fi.gcd | apply Fi.div | exact Fi.one | exact Fi.zero | exact Fi.small (by omega)))); decide)) : FnP Tryz.prog tb F_ref02_over [encI n, encI d] (encQ (Rat.divInt n d)) := by
 have hg0 : Int.gcd n d ≠ 0 := fun h => hd (Int.gcd_eq_zero_iff.1 h).2
 have hgf : Fi 16 (Int.gcd n d : Int) := hd16.gcdr n hd
 refine fn1 Tryz.func107 fun G hG hK hF => ?_
 refine sx 8 ?_
 refine oq (.callR (yb := as1) (yc := ref02_isOne d)) ?_
 refine sx 1 ?_
 refine wp_c rfl (fun hc => ?_) (fun hc => ?_)
 ·have h1 : d = 1 := by simpa using hc
  refine sx 8 ?_
  exact ⟨.inr rfl, rfl, (by (refine res_c rfl rfl rfl rfl rfl ?_); (rw [divInt_one (n := n) (d := d) (by omega) (by rw [h1]; exact Int.gcd_one)]; rfl)), trivial⟩
 ·refine sx 5 ?_
  refine oq (.callR (yb := asc (.inl rfl) as1) (yc := ref01_Gcd n d)) ?_
  refine sx 4 ?_
  by_cases hg : Int.gcd n d = 1
  ·refine sx 9 ?_
   refine wp_c rfl (fun hc => ?_) (fun hc => ?_)
   ·have hp : ¬ d < 0 := by simpa using hc
    refine sx 8 ?_
    exact ⟨.inr rfl, rfl, (by (refine res_c rfl rfl rfl rfl rfl ?_); (rw [divInt_one (by omega) hg]; rfl)), trivial⟩
   ·refine sx 2 ?_
    refine wp_j2 hK (krc 2 rfl (krc 3 rfl (krc 4 rfl (krc 5 rfl krn)))) (khc 0 rfl khn) (fun sl' h' (g : Int) => ⟨sl', (1, some (.arr T_Int [.t (encI g)])) :: h', 2, 0⟩) (fun g => g = if d < 0 then -(Int.gcd n d : Int) else Int.gcd n d) (fun _ => rfl) ?_ ?_
    ·refine sx 5 ?_
     refine wp_c rfl (fun hc => ?_) (fun hc => ?_)
     ·have hn : d < 0 := Int.sign_neg_iff.1 (by simpa using hc)
      refine sx 5 ?_
      exact join_n (-(Int.gcd n d : Int)) (by rw [if_pos hn]) (by exact il)
     ·have hn : ¬ d < 0 := fun h => by simp [Int.sign_eq_neg_one_of_neg h] at hc
      refine wp_k ?_
      exact join_n ((Int.gcd n d : Nat) : Int) (by rw [if_neg hn]) (by exact il)
    ·rintro g hg'
     have hgz : g ≠ 0 := by subst hg'; split <;> omega
     have hgf16 : Fi 16 g := by subst hg'; split; exact hgf.neg; exact hgf
     refine sx 11 ?_
     have heq : encQ (Rat.divInt n d) = encQI (n / g) (d / g) := by
      by_cases hn : d < 0
      ·rw [divInt_neg hn, hg', if_pos hn]
      ·rw [divInt_pos (by omega), hg', if_neg hn]
     exact ⟨.inr rfl, rfl, (by (refine res_c rfl rfl rfl rfl rfl ?_); (rw [heq]; rfl)), trivial⟩
  ·refine sx 9 ?_
   refine wp_cF rfl (by rfl) ?_
   refine sx 2 ?_
   refine wp_j2 hK (krc 2 rfl (krc 3 rfl (krc 4 rfl (krc 5 rfl krn)))) (khc 0 rfl khn) (fun sl' h' (g : Int) => ⟨sl', (1, some (.arr T_Int [.t (encI g)])) :: h', 2, 0⟩) (fun g => g = if d < 0 then -(Int.gcd n d : Int) else Int.gcd n d) (fun _ => rfl) ?_ ?_
   ·refine sx 5 ?_
    refine wp_c rfl (fun hc => ?_) (fun hc => ?_)
    ·have hn : d < 0 := Int.sign_neg_iff.1 (by simpa using hc)
     refine sx 5 ?_
     exact join_n (-(Int.gcd n d : Int)) (by rw [if_pos hn]) (by exact il)
    ·have hn : ¬ d < 0 := fun h => by simp [Int.sign_eq_neg_one_of_neg h] at hc
     refine wp_k ?_
     exact join_n ((Int.gcd n d : Nat) : Int) (by rw [if_neg hn]) (by exact il)
   ·rintro g hg'
    have hgz : g ≠ 0 := by subst hg'; split <;> omega
    have hgf16 : Fi 16 g := by subst hg'; split; exact hgf.neg; exact hgf
    refine sx 11 ?_
    have heq : encQ (Rat.divInt n d) = encQI (n / g) (d / g) := by
     by_cases hn : d < 0
     ·rw [divInt_neg hn, hg', if_pos hn]
     ·rw [divInt_pos (by omega), hg', if_neg hn]
    exact ⟨.inr rfl, rfl, (by (refine res_c rfl rfl rfl rfl rfl ?_); (rw [heq]; rfl)), trivial⟩
theorem ref02_Mul (p q : Rat) (hp16 : Bq 274877906944 p := by first | assumption | (apply Bq.le; (focus (repeat' (first | assumption | apply Bq.mul | apply Bq.add | apply Bq.sub | apply Bq.neg | apply Bq.div | apply Bq.inv | exact Bq.zero | exact Bq.one | exact Bq.small (by omega)))); omega)) (hq16 : Bq 274877906944 q := by first | assumption | (apply Bq.le; (focus (repeat' (first | assumption | apply Bq.mul | apply Bq.add | apply Bq.sub | apply Bq.neg | apply Bq.div | apply Bq.inv | exact Bq.zero | exact Bq.one | exact Bq.small (by omega)))); omega)) : FnP Tryz.prog tb F_ref02_Mul [encQ p, encQ q] (encQ (p * q)) := by
 refine fn1 Tryz.func55 fun G hG hK hF => ?_
 obtain ⟨p1, p2⟩ := hp16.fi
 obtain ⟨q1, q2⟩ := hq16.fi
 refine sx 10 ?_
 refine dq (.callR (yb := asc (.inl rfl) as1) (yc := ref01_Mul p.num q.num)) ?_
 refine sx 5 ?_
 refine dq (.callR (yb := asc (.inl rfl) as1) (yc := ref02_over (p.num * q.num) (p.den * q.den) (mul_den p q))) ?_
 refine sx 3 ?_
 exact ⟨.inr rfl, rfl, (by (refine res_c rfl rfl rfl rfl rfl ?_); (rw [← Rat.divInt_mul_divInt, Rat.num_divInt_den, Rat.num_divInt_den])), trivial⟩
theorem ref02_Add (p q : Rat) (hp16 : Bq 274877906944 p := by first | assumption | (apply Bq.le; (focus (repeat' (first | assumption | apply Bq.mul | apply Bq.add | apply Bq.sub | apply Bq.neg | apply Bq.div | apply Bq.inv | exact Bq.zero | exact Bq.one | exact Bq.small (by omega)))); omega)) (hq16 : Bq 274877906944 q := by first | assumption | (apply Bq.le; (focus (repeat' (first | assumption | apply Bq.mul | apply Bq.add | apply Bq.sub | apply Bq.neg | apply Bq.div | apply Bq.inv | exact Bq.zero | exact Bq.one | exact Bq.small (by omega)))); omega)) : FnP Tryz.prog tb F_ref02_Add [encQ p, encQ q] (encQ (p + q)) := by
 refine fn1 Tryz.func69 fun G hG hK hF => ?_
 obtain ⟨p1, p2⟩ := hp16.fi
 obtain ⟨q1, q2⟩ := hq16.fi
 refine sx 6 ?_
 by_cases h1 : (p.den : Int) = 1
 ·refine sx 10 ?_
  refine wp_c rfl (fun hc => ?_) (fun hc => ?_)
  ·have h2 : (q.den : Int) = 1 := by simpa using hc
   refine sx 5 ?_
   refine dq (.callR (yb := asc (.inl rfl) as1) (yc := ref01_Add p.num q.num)) ?_
   refine sx 7 ?_
   have heq : encQ (p + q) = encQI (p.num + q.num) 1 := by
    rw [← add_divInt, h1, h2, divInt_one (by decide) (by simp)]; simp
   exact ⟨.inr rfl, rfl, (by (refine res_c rfl rfl rfl rfl rfl ?_); (rw [heq, h1]; rfl)), trivial⟩
  ·refine sx 23 ?_
   exact ⟨.inr rfl, rfl, (by (refine res_c rfl rfl rfl rfl rfl ?_); (rw [add_divInt])), trivial⟩
 ·refine sx 10 ?_
  refine wp_cF rfl (by rfl) ?_
  refine sx 23 ?_
  exact ⟨.inr rfl, rfl, (by (refine res_c rfl rfl rfl rfl rfl ?_); (rw [add_divInt])), trivial⟩
theorem div_divInt (p q : Rat) : Rat.divInt (p.num * q.den) (p.den * q.num) = p / q := by
 have h := Rat.divInt_mul_divInt p.num (q.den : Int) (d₁ := (p.den : Int)) (d₂ := q.num)
 rw [← h, Rat.num_divInt_den, Rat.div_def, show Rat.divInt (q.den : Int) q.num = q⁻¹ by conv => { rhs; rw [← Rat.num_divInt_den q, Rat.inv_divInt] }]
theorem ref02_Div (p q : Rat) (hq : q ≠ 0) (hp16 : Bq 274877906943 p := by first | assumption | (apply Bq.le; (focus (repeat' (first | assumption | apply Bq.mul | apply Bq.add | apply Bq.sub | apply Bq.neg | apply Bq.div | apply Bq.inv | exact Bq.zero | exact Bq.one | exact Bq.small (by omega)))); omega)) (hq16 : Bq 274877906943 q := by first | assumption | (apply Bq.le; (focus (repeat' (first | assumption | apply Bq.mul | apply Bq.add | apply Bq.sub | apply Bq.neg | apply Bq.div | apply Bq.inv | exact Bq.zero | exact Bq.one | exact Bq.small (by omega)))); omega)) : FnP Tryz.prog tb F_ref02_Div [encQ p, encQ q] (.tu [encQ (p / q), .i .i64 0]) := by
 have hn : q.num ≠ 0 := fun h => hq (Rat.num_eq_zero.1 h)
 refine fnP_T tbOk Tryz.func149 rfl rfl (Nat.le_of_ble_eq_true rfl) rfl fun G hG hK => ?_
 have hF : Wd Fence.wide := .inl rfl
 obtain ⟨p1, p2⟩ := (hp16.le (by decide : _ ≤ 274877906944)).fi
 obtain ⟨q1, q2⟩ := (hq16.le (by decide : _ ≤ 274877906944)).fi
 refine sx 9 ?_
 refine oq (.callR (yb := as1) (yc := ref02_SignI q.num q.den)) ?_
 refine sx 2 ?_
 refine wp_c rfl (fun hc => ?_) (fun hc => ?_)
 ·simp at hc; exact absurd hc hq
 ·refine sx 12 ?_
  refine dq (.callR (yb := asc (.inl rfl) as1) (yc := ref01_Mul p.den q.num)) ?_
  refine dq (.callR (yb := asc (.inl rfl) as1) (yc := ref02_over (p.num * q.den) (p.den * q.num) (Int.mul_ne_zero (den_ne p) hn))) ?_
  refine sx 4 ?_
  exact ⟨.inr rfl, rfl, (by (refine res_c rfl rfl rfl rfl rfl ?_); (rw [div_divInt])), (by (refine res_t rfl ?_); (rfl)), trivial⟩
theorem ref02_Quo (p q : Rat) (hq : q ≠ 0) (hp16 : Bq 274877906943 p := by first | assumption | (apply Bq.le; (focus (repeat' (first | assumption | apply Bq.mul | apply Bq.add | apply Bq.sub | apply Bq.neg | apply Bq.div | apply Bq.inv | exact Bq.zero | exact Bq.one | exact Bq.small (by omega)))); omega)) (hq16 : Bq 274877906943 q := by first | assumption | (apply Bq.le; (focus (repeat' (first | assumption | apply Bq.mul | apply Bq.add | apply Bq.sub | apply Bq.neg | apply Bq.div | apply Bq.inv | exact Bq.zero | exact Bq.one | exact Bq.small (by omega)))); omega)) : FnP Tryz.prog tb F_ref02_Quo [encQ p, encQ q] (encQ (p / q)) := by
 refine fn1 Tryz.func97 fun G hG hK hF => ?_
 refine sx 8 ?_
 refine oq (.callR (yb := asc (.inl rfl) as1) (yc := ref02_Div p q hq)) ?_
 refine sx 12 ?_
 exact ⟨.inr rfl, rfl, (by (refine res_c rfl rfl rfl rfl rfl ?_); (rfl)), trivial⟩
theorem ref02_Make (n d : Int) (hd : d ≠ 0) (hn16 : Fi 16 n := by first | assumption | exact Fi.small (by omega) | (apply Fi.le; (focus (repeat' (first | assumption | apply Fi.mul | apply Fi.add | apply Fi.sub | apply Fi.neg | apply Fi.abs | apply Fi.gcd | apply Fi.div | exact Fi.one | exact Fi.zero | exact Fi.small (by omega)))); decide)) (hd16 : Fi 16 d := by first | assumption | exact Fi.small (by omega) | (apply Fi.le; (focus (repeat' (first | assumption | apply Fi.mul | apply Fi.add | apply Fi.sub | apply Fi.neg | apply Fi.abs | apply Fi.gcd | apply Fi.div | exact Fi.one | exact Fi.zero | exact Fi.small (by omega)))); decide)) : FnP Tryz.prog tb F_ref02_Make [encI n, encI d] (.tu [encQ (Rat.divInt n d), .i .i64 0]) := by
 refine fnP_T tbOk Tryz.func178 rfl rfl (Nat.le_of_ble_eq_true rfl) rfl fun G hG hK => ?_
 have hF : Wd Fence.wide := .inl rfl
 refine sx 9 ?_
 refine oq (.callR (yb := as1) (yc := ref01_Is (decide (n < 0)) (digits n.natAbs))) ?_
 refine sx 3 ?_
 refine gq (z := by simp [isW_enc]) (.callR (yb := as1) (yc := ref01_Is (decide (d < 0)) (digits d.natAbs))) ?_
 refine sx 3 ?_
 refine wp_c rfl (fun hc => ?_) (fun hc => ?_)
 ·simp [isW_enc] at hc
 ·refine sx 8 ?_
  refine wp_c rfl (fun hc => ?_) (fun hc => ?_)
  ·simp at hc; exact absurd hc hd
  ·refine sx 5 ?_
   refine oq (.callR (yb := asc (.inl rfl) as1) (yc := ref02_over n d hd)) ?_
   refine sx 4 ?_
   exact ⟨.inr rfl, rfl, (by (refine res_c rfl rfl rfl rfl rfl ?_); (rfl)), (by (refine res_t rfl ?_); (rfl)), trivial⟩
theorem ref02_Of (n d : Int) (h1 : -9223372036854775808 ≤ n) (h2 : n < 9223372036854775808) (h3 : -9223372036854775808 ≤ d) (h4 : d < 9223372036854775808) (hd : d ≠ 0) : FnP Tryz.prog tb F_ref02_Of [.i .i64 n, .i .i64 d] (.tu [encQ (Rat.divInt n d), .i .i64 0]) := by
 refine fnP_T tbOk Tryz.func141 rfl rfl (Nat.le_of_ble_eq_true rfl) rfl fun G hG hK => ?_
 have hF : Wd Fence.wide := .inl rfl
 refine sx 8 ?_
 refine oq (.callR (yb := as1) (yc := ref01_Of d h3 h4)) ?_
 refine oq (.callR (yb := asc (.inl rfl) as1) (yc := ref02_Make n d hd)) ?_
 refine sx 6 ?_
 exact ⟨.inr rfl, rfl, (by (refine res_c rfl rfl rfl rfl rfl ?_); (rfl)), (by (refine res_t rfl ?_); (rfl)), trivial⟩
theorem ref02_Same (p q : Rat) : FnP Tryz.prog tb F_ref02_Same [encQ p, encQ q] (.b (decide (p = q))) := by
 refine fn1 Tryz.func19 fun G hG hK hF => ?_
 refine sx 5 ?_
 by_cases h1 : p.num = q.num
 ·refine sx 11 ?_
  refine gq (z := by simp [h1]) (.callR (yb := asc (.inl rfl) as1) (yc := ref01_Same p.den q.den)) ?_
  refine sx 4 ?_
  exact ⟨.inr rfl, rfl, (by (refine res_t rfl ?_); (refine trb (decide_eq_decide.2 ⟨fun h => Rat.ext h1 (by omega), fun h => by rw [h]⟩))), trivial⟩
 ·refine sx 16 ?_
  exact ⟨.inr rfl, rfl, (by (refine res_t rfl ?_); (exact trb (by rw [eq_comm, decide_eq_false_iff_not]; rintro rfl; exact h1 rfl))), trivial⟩
theorem list_ext_cf {l m : List Rat} (hl : l.length = m.length) (h : ∀ i, i < l.length → cf l i = cf m i) : l = m := by
 refine List.ext_getElem hl fun i h1 h2 => ?_
 have := h i h1
 rw [cf_lt h1, cf_lt h2] at this; exact this
theorem ref02_SameAll (l m : List Rat) : FnP Tryz.prog tb F_ref02_SameAll [encQs l, encQs m] (.b (decide (l = m))) := by
 refine fn1 Tryz.func68 fun G hG hK hF => ?_
 refine wp_ql (l := l) 0 rfl fun h0 => ?_
 refine wp_ql (l := m) 1 rfl fun h1 => ?_
 refine sx 11 ?_
 refine wp_c rfl (fun hc => ?_) (fun hc => ?_)
 ·have hne : l.length ≠ m.length := by simp at hc; omega
  refine sx 5 ?_
  exact ⟨.inr rfl, rfl, (by (refine res_t rfl ?_); (exact trb (by rw [eq_comm, decide_eq_false_iff_not]; rintro rfl; exact hne rfl))), trivial⟩
 ·have hle : l.length = m.length := by simp at hc; omega
  refine sx 7 ?_
  refine wp_l2 hK (krc 0 rfl (krc 1 rfl krn)) khn (fun sl' h' (i : Nat) => ⟨(5, .t (.i .i64 (i))) :: sl', h', 0, 0⟩) (fun i => i ≤ l.length ∧ ∀ j, j < i → cf l j = cf m j) (fun i => l.length - i) 0 ?_ (fun _ => rfl) ?_ ?_
  ·exact ⟨Nat.zero_le _, fun j hj => by omega⟩
  ·exact il
  ·rintro i ⟨hi, he⟩
   refine sx 7 ?_
   refine wp_c rfl (fun hc => ?_) (fun hc => ?_)
   ·have hci : i < l.length := by simp at hc; omega
    refine sx 7 ?_
    refine dq (.indexAddrR (yf := by omega) (yg := by exact encQs_atn (l := l) (i := i) rfl (cf_at hci))) ?_
    refine sx 5 ?_
    refine dq (.callR (yb := asc (.inl rfl) as1) (yc := ref02_Same (cf l i) (cf m i))) ?_
    refine sx 2 ?_
    refine wp_c rfl (fun hc => ?_) (fun hc => ?_)
    ·have hq : cf l i ≠ cf m i := by simpa using hc
     refine sx 9 ?_
     exact ⟨.inr rfl, rfl, (by (refine res_t rfl ?_); (exact trb (by rw [eq_comm, decide_eq_false_iff_not]; rintro rfl; exact hq rfl))), trivial⟩
    ·have hq : cf l i = cf m i := by simpa using hc
     refine sx 8 ?_
     exact round_n (i + 1) (by exact ⟨by omega, fun j hj => by rcases Nat.eq_or_lt_of_le (Nat.le_of_lt_succ hj) with rfl | h; exact hq; exact he j h⟩) (by omega) (by exact il)
   ·obtain rfl : i = l.length := by simp at hc; omega
    refine sx 9 ?_
    exact ⟨.inr rfl, rfl, (by (refine res_t rfl ?_); (exact trb (decide_eq_true (list_ext_cf hle he)).symm)), trivial⟩
theorem ref02_Is (n1 n2 : Bool) (w1 w2 : List Nat) (h1 : Words w1) (h2 : Words w2) (hw1 : w1.length ≤ 4398046511104) (hw2 : w2.length ≤ 4398046511104) : FnP Tryz.prog tb F_ref02_Is [rawQ n1 w1 n2 w2] (.b (isQ n1 w1 n2 w2)) := by
 refine fn1 Tryz.func59 fun G hG hK hF => ?_
 refine sx 4 ?_
 rcases (show isW n1 w1 = false ∨ (isW n1 w1 = true ∧ isW n2 w2 = false) ∨ (isW n1 w1 = true ∧ isW n2 w2 = true ∧ ¬ 0 < sgn n2 (val w2)) ∨ (isW n1 w1 = true ∧ isW n2 w2 = true ∧ 0 < sgn n2 (val w2)) by cases isW n1 w1 <;> cases isW n2 w2 <;> simp <;> omega) with c1 | ⟨c1, c2⟩ | ⟨c1, c2, c3⟩ | ⟨c1, c2, c3⟩
 ·refine sx 27 ?_
  exact ⟨.inr rfl, rfl, (by (refine res_t rfl ?_); (rw [isQ, c1]; rfl)), trivial⟩
 ·refine sx 27 ?_
  exact ⟨.inr rfl, rfl, (by (refine res_t rfl ?_); (rw [isQ, c1, c2]; rfl)), trivial⟩
 ·refine sx 27 ?_
  exact ⟨.inr rfl, rfl, (by (refine res_t rfl ?_); (rw [isQ, c1, c2]; refine trb ?_; have h := mt Int.sign_pos_iff.1 c3; simp [c3]; try omega)), trivial⟩
 ·refine sx 20 ?_
  refine gq (z := by (simp; omega)) (.callR (yb := asc (.inl rfl) as1) (yc := raw_enc h1 c1 ▸ raw_enc h2 c2 ▸ ref01_Gcd (sgn n1 (val w1)) (sgn n2 (val w2)) (fi_sgn h1 hw1) (fi_sgn h2 hw2))) ?_
  refine sx 1 ?_
  refine gq (z := by (simp; omega)) (.callR (yb := asc (.inl rfl) as1) (yc := ref01_Same _ 1)) ?_
  refine sx 4 ?_
  exact ⟨.inr rfl, rfl, (by (refine res_t rfl ?_); (rw [isQ, c1, c2]; refine trb ?_; simp [c3]; omega)), trivial⟩
end Go.Proofs.YtacenhlcfeepgaaGreat
