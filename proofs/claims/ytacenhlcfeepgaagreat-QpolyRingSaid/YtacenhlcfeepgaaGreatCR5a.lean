/- The law is true whatever its arguments are, and these read behind the call as they read before (the row R5: what it needs beyond the files A; No conditions). -/
import Derived.Test.YtacenhlcfeepgaaGreatA6
import Derived.KernelRfl
set_option linter.unusedVariables false
set_option linter.unusedSimpArgs false
set_option linter.unusedSectionVars false
set_option maxHeartbeats 4000000
set_option maxRecDepth 100000
namespace Go.Proofs.YtacenhlcfeepgaaGreat.Eng
open Go
theorem sy (n : Nat) {A B : Prop} (hA : A) (f : Fu n → Hd A → B := by
  intro f h
  repeat
    refine fuS f (fun f => ?_)
    first
    | with_reducible refine wo_nil ?_
    | with_reducible refine wd_nil ?_
    | with_reducible refine then_n ?_
    | with_reducible refine then_ret ?_
    | with_reducible refine then_exit ?_
    | with_reducible refine blk_n ?_
    | with_reducible refine blk_hit ?_
    | with_reducible refine blk_ret ?_
    | with_reducible refine round_exit ?_
    | with_reducible refine round_ret ?_
    | (with_reducible refine isWP ?_
       first
       | refine rr ?_
       | refine rr0 ?_
       | refine wp_r tbOk hF2 hG2 rfl ?_
       | refine wp_r tbOk hF1 hG1 rfl ?_
       | refine wp_r0 tbOk hF2 hG2 rfl ?_
       | refine wp_r0 tbOk hF1 hG1 rfl ?_
       | refine wp_d tbOk hF mixed hG [] (by kernel_rfl) ?_
       | refine wp_d0 tbOk hF mixed hG [] (by kernel_rfl) ?_
       | refine wp_s ?_
       | refine wp_k ?_
       | refine wp_b ?_
       | refine wp_rt ?_
       | refine wp_x ?_
       | refine wp_lb ?_)
    | refine om ?_
    | refine oa ?_
    | ((first
        | refine wqE rfl rfl ?_
        | refine dqE rfl rfl rfl rfl ?_
        | (refine isGO (by rfl) ?_
           first
           | refine wo_gs rfl rfl rfl rfl rfl ?_
           | refine gqE rfl rfl rfl rfl rfl ?_
           | refine wo_gs rfl rfl rfl (by rfl) rfl ?_
           | refine gqE rfl rfl rfl (by rfl) rfl ?_
           | refine wo_gs rfl rfl rfl (by exact gtT (by omega)) rfl ?_
           | refine gqE rfl rfl rfl (by exact gtT (by omega)) rfl ?_
           | refine wo_gs rfl rfl rfl (by exact gtS (by omega)) rfl ?_
           | refine gqE rfl rfl rfl (by exact gtS (by omega)) rfl ?_)
        | (refine isGD (by rfl) ?_
           first
           | refine wd_gs rfl rfl rfl rfl rfl rfl rfl ?_
           | refine dgE rfl rfl rfl rfl rfl rfl rfl ?_
           | refine wd_gs rfl rfl rfl (by rfl) rfl rfl rfl ?_
           | refine dgE rfl rfl rfl (by rfl) rfl rfl rfl ?_
           | refine wd_gs rfl rfl rfl (by exact gtT (by omega)) rfl rfl rfl ?_
           | refine dgE rfl rfl rfl (by exact gtT (by omega)) rfl rfl rfl ?_
           | refine wd_gs rfl rfl rfl (by exact gtS (by omega)) rfl rfl rfl ?_
           | refine dgE rfl rfl rfl (by exact gtS (by omega)) rfl rfl rfl ?_))
       first
       | (with_reducible refine isQX ?_
          first
          | refine qx .moveR ?_
          | refine qx .extractR ?_
          | refine qx (.boxR (yb := .inl rfl)) ?_
          | refine qx .notR ?_
          | refine qx .assignR ?_
          | (refine qload ?_
             first
             | refine qx .loadR ?_
             | refine qx (.loadPR (yd := by rfl)) ?_)
          | (refine qbin ?_
             first
             | refine qx .cmpR ?_
             | refine qx (.arithR (yd := by exact wrap_i64 (by omega))) ?_)
          | (refine qpick ?_
             first
             | refine qx (.pickT rfl (by rfl) rfl) ?_
             | refine qx (.pickF rfl (by rfl) rfl) ?_
             | refine qx (.pickT rfl (by exact gtT (by omega)) rfl) ?_
             | refine qx (.pickF rfl (by exact gtS (by omega)) rfl) ?_)
          | (refine qcall ?_
             first
             | refine qx (.lenR (yc := .inl rfl) (yd := by exact encQs_len)) ?_
             | refine qx (.callR (yb := asc (.inl rfl) as1) (yc := same_P _ _ rfl)) ?_
             | refine qx (.callR (yb := asn) (yc := law03_sane)) ?_
             | refine qx (.callR (yb := as1) (yc := qpoly_DegP p)) ?_
             | refine qx (.lenR (yc := .inl rfl) (yd := by rfl)) ?_
             | refine qx (.callR (yb := asc (.inl rfl) as2) (yc := few_T p 4 2 (by decide) (by decide) h1)) ?_
             | refine qx (.callR (yb := asc (.inl rfl) as2) (yc := few_T q 4 2 (by decide) (by decide) h2)) ?_
             | refine qx (.callR (yb := as1) (yc := qpoly_Integral p (by omega) (hpB.le (by decide)))) ?_
             | refine qx (.callR (yb := asc (.inl rfl) as2) (yc := few_T r 4 2 (by decide) (by decide) h3)) ?_
             | refine qx (.callR (yb := asc (.inl rfl) as1) (yc := mulS sp sr)) ?_
             | refine qx (.callR (yb := asc (.inl rfl) as1) (yc := same_P _ _ (by grind))) ?_
             | refine qx (.callR (yb := as1) (yc := derivS sp)) ?_
             | refine qx (.callR (yb := as1) (yc := derivS sq)) ?_))
       | with_reducible refine isWO ?_
       | with_reducible refine isWD ?_)
    | ((first
        | refine eE rfl rfl ?_
        | refine edE rfl rfl ?_)
       first
         | refine exx (.storeR (ye := by decide) (yg := .inl rfl)) ?_
         | fail)
    | (refine deE rfl rfl rfl ?_
       (first
         | refine exx (.storeR (ye := by decide) (yg := .inl rfl)) ?_
         | fail)
       first
         | refine ⟨(by exact trivial), ?_⟩
         | fail)
    | ((first
        | refine nE rfl rfl ?_
        | refine dnE rfl rfl rfl rfl ?_)
       first
         | refine nxx .allocR ?_
         | fail)
  exact fu0 f h) : B := f .m ⟨hA⟩end Go.Proofs.YtacenhlcfeepgaaGreat.Eng
namespace Go.Proofs.YtacenhlcfeepgaaGreat
open Go Eng
namespace Eng
end Eng
abbrev F_law03_QpolyRing : Nat := 10
end Go.Proofs.YtacenhlcfeepgaaGreat
namespace Go.Proofs.YtacenhlcfeepgaaGreat
namespace Poly
section
variable {R : Type} [i0 : CRing R] [DecidableEq R]
theorem cst_add (a b : R) : cst (a + b) = cst a + cst b := ext fun i => by rw [co_add, co_cst, co_cst, co_cst]; split <;> grind
end
end Poly
example (p q : Poly Rat) : (p + q) * (p - q) = p * p - q * q := by grind
end Go.Proofs.YtacenhlcfeepgaaGreat
namespace Go.Proofs.YtacenhlcfeepgaaGreat
namespace Poly
section
variable {F : Type} [Fld F] [DecidableEq F]
theorem mul_div {p q : Poly F} (hq : q ≠ 0) : p * q / q = p := ((div_unique (p := p * q) (s := p) (r := 0) hq (by grind) (by rw [len_zero]; exact len_pos hq)).1).symm
theorem gcd_mon {p q : Poly F} (h : ¬ (p = 0 ∧ q = 0)) : Mon (gcd p q) := by
 refine monic_Mon fun e => h ?_
 have : gcd p q = 0 := by rw [gcd, e, monic_zero]
 exact gcd_zero_iff.1 this
theorem gcd_mul (p q r : Poly F) : gcd (p * r) (q * r) = gcd p q * monic r := by
 have h := gcd_is p q
 have h1 : IsGcd (gcd p q * r) (p * r) (q * r) := by
  obtain ⟨s, hs⟩ := h.left
  obtain ⟨t, ht⟩ := h.right
  obtain ⟨u, v, huv⟩ := h.comb
  refine ⟨⟨s, ?_⟩, ⟨t, ?_⟩, u, v, ?_⟩ <;> grind
 rw [← h1.unique]
 by_cases h0 : gcd p q = 0
 ·rw [h0]
  have a : (0 : Poly F) * r = 0 := by grind
  have b : (0 : Poly F) * monic r = 0 := by grind
  rw [a, b, monic_zero]
 ·by_cases hr : r = 0
  ·subst hr
   have a : gcd p q * 0 = 0 := by grind
   rw [monic_zero, a, monic_zero]
  ·have hm : Mon (gcd p q) := gcd_mon fun e => h0 (gcd_zero_iff.2 e)
   rw [monic, (len_mul h0 hr).2, hm, monic]
   have : (1 : F) * r.lead = r.lead := by grind
   rw [this]; grind
end
end Poly
end Go.Proofs.YtacenhlcfeepgaaGreat
namespace Go.Proofs.YtacenhlcfeepgaaGreat
namespace Poly
section
variable {R : Type} [i0 : CRing R] [DecidableEq R]
theorem eval_cst (a x : R) : (cst a).eval x = a := by rw [cst, eval_of, evalL, evalL]; grind
theorem compL_zero {l : List R} (h : ∀ i, cf l i = 0) (q : Poly R) : compL l q = 0 := by
 induction l with
 | nil => rfl
 | cons a l ih =>
  have h0 := h 0
  rw [cf_zero] at h0
  rw [compL, ih fun i => by rw [← cf_succ a]; exact h (i + 1), h0, cst_zero]; grind
theorem compL_congr {l m : List R} (h : ∀ i, cf l i = cf m i) (q : Poly R) : compL l q = compL m q := by
 induction l generalizing m with
 | nil => rw [compL_zero (l := m) fun i => by rw [← h, cf_nil]]; rfl
 | cons a l ih =>
  cases m with
  | nil => rw [compL_zero (l := a :: l) fun i => by rw [h, cf_nil]]; rfl
  | cons b m =>
   have h0 := h 0
   rw [cf_zero, cf_zero] at h0
   rw [compL, compL, h0, ih (m := m) fun i => by have := h (i + 1); rwa [cf_succ, cf_succ] at this]
theorem comp_of (l : List R) (q : Poly R) : comp (of l) q = compL l q := compL_congr (fun i => trimZ_cf l i) q
theorem comp_zero (q : Poly R) : comp 0 q = 0 := by
 rw [← of_nil, comp_of, of_nil]; rfl
theorem comp_cX (a : R) (p q : Poly R) : comp (cst a + X * p) q = cst a + q * comp p q := by
 rw [← of_c p, ← of_cons, comp_of, compL, comp_of]; grind
theorem eval_comp (p q : Poly R) (x : R) : (comp p q).eval x = p.eval (q.eval x) := by
 revert p
 apply ind
 ·rw [comp_zero, eval_zero, eval_zero]
 ·intro a p ih
  rw [comp_cX, eval_add, eval_cst, eval_mul, ih, eval_cX]
theorem deriv_add (p q : Poly R) : deriv (p + q) = deriv p + deriv q := ext fun i => by rw [co_deriv, co_add, co_add, co_deriv, co_deriv]; grind
theorem deriv_cX (a : R) (p : Poly R) : deriv (cst a + X * p) = p + X * deriv p := ext fun i => by
 rw [co_deriv, co_add, co_cst, co_X_mul, co_add, co_X_mul]
 rw [if_neg (by omega), if_neg (by omega), Nat.add_sub_cancel]
 cases i with
 | zero =>
  rw [if_pos rfl, nc_succ]
  have : (nc 0 : R) = 0 := rfl
  rw [this]; grind
 | succ i => rw [if_neg (by omega), Nat.add_sub_cancel, co_deriv, nc_succ (i + 1)]; grind
theorem deriv_cst (a : R) : deriv (cst a) = 0 := ext fun i => by rw [co_deriv, co_cst, if_neg (by omega), co_zero]; grind
theorem deriv_mul (p q : Poly R) : deriv (p * q) = deriv p * q + p * deriv q := by
 revert p
 apply ind
 ·rw [zero_mul', deriv_zero]; grind
 ·intro a p ih
  have e : (cst a + X * p) * q = cst a * q + (cst 0 + X * (p * q)) := by rw [cst_zero]; grind
  have e2 : deriv (cst a * q) = cst a * deriv q := ext fun i => by rw [co_deriv, cst_mul, cst_mul, co_deriv]; grind
  rw [e, deriv_add, deriv_cX, ih, e2, deriv_cX]; grind
theorem deriv_comp (p q : Poly R) : deriv (comp p q) = comp (deriv p) q * deriv q := by
 have cadd : ∀ (p r : Poly R), comp (p + r) q = comp p q + comp r q := by
  intro p
  apply ind (M := fun p => ∀ r, comp (p + r) q = comp p q + comp r q)
  ·intro r
   have : (0 : Poly R) + r = r := by grind
   rw [this, comp_zero]; grind
  ·intro a p ih r
   revert r
   apply ind
   ·have : cst a + X * p + 0 = cst a + X * p := by grind
    rw [this, comp_zero]; grind
   ·intro b r _
    have : cst a + X * p + (cst b + X * r) = cst (a + b) + X * (p + r) := by rw [cst_add]; grind
    rw [this, comp_cX, comp_cX, comp_cX, ih, cst_add]; grind
 have cX : ∀ r : Poly R, comp (X * r) q = q * comp r q := fun r => by
  have : X * r = cst 0 + X * r := by rw [cst_zero]; grind
  rw [this, comp_cX, cst_zero]; grind
 revert p
 apply ind
 ·rw [comp_zero, deriv_zero, comp_zero]; grind
 ·intro a p ih
  rw [comp_cX, deriv_add, deriv_cst, deriv_mul, ih, deriv_cX, cadd, cX]; grind
end
end Poly
end Go.Proofs.YtacenhlcfeepgaaGreat
namespace Go.Proofs.YtacenhlcfeepgaaGreat
namespace Poly
section
variable {F : Type} [Fld F] [DecidableEq F]
theorem bezV_spec {p q : Poly F} (hq : q ≠ 0) : gcd p q = bezU p q * p + bezV p q * q := by
 obtain ⟨_, w, h⟩ := bezU_spec (p := p) hq
 have : gcd p q - bezU p q * p = w * q := by grind
 rw [bezV, this, mul_div hq]; exact h
theorem bez_comb (p q : Poly F) : gcd p q = (bez p q).2.1 * p + (bez p q).2.2 * q := by
 unfold bez
 split
 ·rename_i h; subst h
  split
  ·rename_i h; subst h; rw [gcd_zero, monic_zero]; grind
  ·rw [gcd_zero, monic]; grind
 ·rename_i h; exact bezV_spec h
end
end Poly
end Go.Proofs.YtacenhlcfeepgaaGreat
namespace Go.Proofs.YtacenhlcfeepgaaGreat
open Go Eng
structure SB (n k : Nat) (p : Pol) : Prop where
 c : CDB n p
 l : p.len ≤ k
theorem SB.le {n k m l : Nat} {p : Pol} (h : SB n k p) (h1 : n ≤ m) (h2 : k ≤ l) : SB m l p := ⟨h.c.le h1, Nat.le_trans h.l h2⟩
theorem SB.add {n k m l : Nat} {p q : Pol} (h : SB n k p) (g : SB m l q) : SB (n + m + 1) (max k l) (p + q) := ⟨h.c.add g.c, by have := Poly.len_add p q; have := h.l; have := g.l; omega⟩
theorem SB.mul {n k m l : Nat} {p q : Pol} (h : SB n k p) (g : SB m l q) : SB (n + m + k) (k + l) (p * q) := ⟨(h.c.mul g.c).le (by have := h.l; omega), by have := Poly.len_mul_le p q; have := h.l; have := g.l; omega⟩
theorem SB.deriv {n k : Nat} {p : Pol} (h : SB n k p) (hk : k ≤ 4000000000) : SB (n + 1) k p.deriv := ⟨h.c.deriv (Nat.le_trans h.l hk), Poly.len_le fun i hi => by rw [Poly.co_deriv, Poly.co_ge (by have := h.l; omega)]; grind⟩
theorem SB.comp {n k m l L : Nat} {p q : Pol} (h : SB n k p) (g : SB m l q) (hL : k * l + 1 ≤ L) : SB (k * (m + n + L + 2) + 1) (k * l + 1) (p.comp q) := by
 have h0 := Nat.mul_le_mul h.l g.l
 have h1 := CDB.compL (n := n) (L := L) g.c (l := p.c) (fun a ha => pc_bq h.c.pb a ha) (by show p.len * q.len + 1 ≤ L; omega)
 have h2 : p.c.length * (m + n + L + 2) ≤ k * (m + n + L + 2) := Nat.mul_le_mul_right _ h.l
 have h3 : p.c.length * q.len ≤ k * l := h0
 exact ⟨h1.1.le (by omega), by show (Poly.compL p.c q).len ≤ _; omega⟩
theorem SB.monic {n k : Nat} {p : Pol} (h : SB n k p) : SB n k p.monic := ⟨h.c.monic, by rw [Poly.monic_len]; exact h.l⟩
theorem SB.cst {n : Nat} {c : Rat} (h : Bq n c) : SB (n + 1) 1 (Poly.cst c) := ⟨CDB.cst h, Poly.len_cst c⟩
theorem comp_cst (p : Pol) (x : Rat) : p.comp (Poly.cst x) = Poly.cst (p.eval x) := by
 induction p using Poly.ind with
 | h0 => rw [Poly.comp_zero, Poly.eval_zero]; rfl
 | h a p ih => rw [Poly.comp_cX, Poly.eval_cX, ih, Poly.cst_add, Poly.cst_mul_cst]
theorem SB.eval {n k m L : Nat} {p : Pol} {x : Rat} (h : SB n k p) (hx : Bq m x) (hL : k * 1 + 1 ≤ L) : Bq (k * (m + 1 + n + L + 2) + 1) (p.eval x) := by
 have h1 := ((h.comp (SB.cst hx) hL).c.pb).co 0
 rw [comp_cst, Poly.co_cst, if_pos rfl] at h1; exact h1
theorem SB.of {n k : Nat} {p : Pol} (h : PB n p) (hl : p.len ≤ k) : SB (k * (n + 2) + 1) k p := ⟨h.cdb.le (by have := Nat.mul_le_mul_right (n + 2) hl; omega), hl⟩
theorem mulS {n k m l : Nat} {p q : Pol} (h : SB n k p) (g : SB m l q) (hs : 1 + k * (n + m + 1) ≤ 274877906944 := by decide) (hk : k + l ≤ 2199023255552 := by decide) : FnP Tryz.prog tb F_qpoly_Mul [encP p, encP q] (encP (p * q)) :=
 qpoly_Mul p q h.c.pb g.c.pb (by have := Nat.mul_le_mul_right (n + m + 1) h.l; omega) (by have := h.l; have := g.l; omega)
theorem addS {n k m l : Nat} {p q : Pol} (h : SB n k p) (g : SB m l q) (hs : n ≤ 274877906944 := by decide) (hk : m ≤ 274877906944 := by decide) : FnP Tryz.prog tb F_qpoly_Add [encP p, encP q] (encP (p + q)) := qpoly_Add p q (h.c.pb.le hs) (g.c.pb.le hk)
theorem subS {n k m l : Nat} {p q : Pol} (h : SB n k p) (g : SB m l q) (hs : n ≤ 274877906944 := by decide) (hk : m ≤ 274877906944 := by decide) : FnP Tryz.prog tb F_qpoly_Sub [encP p, encP q] (encP (p - q)) := qpoly_Sub p q (h.c.pb.le hs) (g.c.pb.le hk)
theorem derivS {n k : Nat} {p : Pol} (h : SB n k p) (hs : n ≤ 274877906944 := by decide) : FnP Tryz.prog tb F_qpoly_Deriv [encP p] (encP p.deriv) := qpoly_Deriv p (h.c.pb.le hs)
theorem evalS {n k m : Nat} {p : Pol} {x : Rat} (h : SB n k p) (g : Bq m x) (hs : 1 + k * (n + m + 2) ≤ 274877906944 := by decide) : FnP Tryz.prog tb F_qpoly_Eval [encP p, encQ x] (encQ (p.eval x)) :=
 qpoly_Eval p x h.c.pb g (by have := Nat.mul_le_mul_right (n + m + 2) h.l; omega)
theorem deriv_integ (p : Pol) : (Poly.integ p).deriv = p := Poly.ext fun i => by
 rw [Poly.co_deriv, Poly.integ, Poly.co_of, cf_range, nc_rat]
 by_cases h : i < p.len
 ·rw [if_pos (by omega), if_neg (by omega), Nat.add_sub_cancel]
  have hne : (((i + 1 : Nat)) : Rat) ≠ 0 := fun e => by
   have := congrArg Rat.num e
   rw [Rat.num_natCast] at this
   have : ((i + 1 : Nat) : Int) = 0 := this
   omega
  grind
 ·rw [if_neg (by omega), Poly.co_ge (by omega), Rat.mul_zero]
theorem integ_pb {n : Nat} {p : Pol} (h : PB n p) (hl : p.len ≤ 1000) : PB (n + 9) (Poly.integ p) := ⟨fun i => by
 rw [Poly.integ, Poly.co_of, cf_range]
 have hn : 1 ≤ n := PB.pos h
 split
 ·split
  ·exact Bq.zero.le (by omega)
  ·exact ((h.co (i - 1)).div (Bq.small (z := (i : Int)) (by omega))).le (by omega)
 ·exact Bq.zero.le (by omega)⟩
theorem bez_end {K L : Nat} {p q : Pol} : ∀ (n : Nat) (a b s w : Pol), b.len < n → a.gcd b = p.gcd q → (∃ T, EB K T a b) → CB K L a b s w → (∃ k, a = s * p + k * q) → (∃ k, b = w * p + k * q) →
  ∃ g u w, g.monic = p.gcd q ∧ (∃ k, g = u * p + k * q) ∧ (∃ T, EB K T g 0) ∧ CB K L g 0 u w
 | 0, a, b, s, w, h, _, _, _, _, _ => by omega
 | n + 1, a, b, s, w, h, hg, ⟨T, hE⟩, hC, ⟨k1, hs⟩, ⟨k2, hw⟩ => by
  by_cases hb : b = 0
  ·subst hb
   exact ⟨a, s, w, by rw [← hg, Poly.gcd_zero], ⟨k1, hs⟩, ⟨T, hE⟩, hC⟩
  ·refine bez_end n b (a % b) w (s - a / b * w) (by have := Poly.mod_len (p := a) hb; omega) (by rw [← hg, Poly.gcd_mod hb]) ⟨_, hE.step hb⟩ (hC.step hE hb) ⟨k2, hw⟩ ⟨k1 - a / b * k2, ?_⟩
   have := Poly.div_add_mod (p := a) hb
   generalize a / b = d at *
   generalize a % b = r at *
   grind
theorem bez_sizes {p q : Pol} (hp : SB 21 5 p) (hq : SB 21 5 q) (hq0 : q ≠ 0) : SB 6000 5 (p.gcd q) ∧ SB 40000000 6 (p.bezU q) ∧ SB 500000000 10 (p.bezV q) := by
 have hpl := hp.l
 have hql := hq.l
 have hE : EB 10692 (max 21 21 + 1) p q := EB.init hp.c hq.c (by
  have h2 : ∀ a, a < 6 → ∀ b, b < 6 → (a - b + 2) * 3 ^ b ≤ 486 := by decide +kernel
  have := h2 p.len (by omega) q.len (by omega)
  rw [Nat.mul_assoc]
  exact Nat.le_trans (Nat.mul_le_mul_left 22 this) (by decide))
 obtain ⟨g, u, w, h1, ⟨k, h2⟩, ⟨T, h3⟩, h4⟩ := bez_end (K := 10692) (L := 11) (q.len + 1) p q 1 0 (Nat.lt_succ_self _) rfl ⟨_, hE⟩ (CB.init hE (by omega)) ⟨0, by grind⟩ ⟨1, by grind⟩
 have hg0 : p.gcd q ≠ 0 := (Poly.per_ne hq0).1
 have hgn : g ≠ 0 := fun e => hg0 (by rw [← h1, e, Poly.monic_zero])
 have hgs : CDB 5346 g := by
  have h6 := h3.le
  obtain ⟨n, m, e1, e2, e3, e4⟩ := h3.ex
  exact e1.le (by omega)
 have hus : CDB 374220 u := by
  obtain ⟨V, v1, v2, v3⟩ := h4.ex
  rw [Poly.len_zero] at v3
  exact v1.le (by omega)
 have hul := h4.l1
 rw [Poly.len_zero] at hul
 have hgl := Poly.len_pos hgn
 have hgms : CDB 5346 (p.gcd q) := by rw [← h1]; exact hgs.monic
 have hgl2 : (p.gcd q).len ≤ 5 := Nat.le_trans (Poly.dvd_len (Poly.gcd_is p q).right hq0) hql
 have hgl3 := Poly.len_pos hg0
 have hcs : Bq 5348 ((((1 : Int) : Rat)) / g.lead) := (Bq.one.div hgs.pb.lead).le (by decide)
 have hu2s := hus.scale hcs
 have hgm2 : Poly.cst ((((1 : Int) : Rat)) / g.lead) * g = p.gcd q := h1
 have hu2l : (Poly.cst ((((1 : Int) : Rat)) / g.lead) * u).len ≤ 11 := by have h1 := Poly.len_mul_le (Poly.cst ((((1 : Int) : Rat)) / g.lead)) u; have h2 := Poly.len_cst ((((1 : Int) : Rat)) / g.lead); omega
 have hu2 : ∃ k, p.gcd q = Poly.cst ((((1 : Int) : Rat)) / g.lead) * u * p + k * q := by
  refine ⟨Poly.cst ((((1 : Int) : Rat)) / g.lead) * k, ?_⟩
  rw [← hgm2]; generalize Poly.cst ((((1 : Int) : Rat)) / g.lead) = c at *; grind
 generalize Poly.cst ((((1 : Int) : Rat)) / g.lead) * u = u2 at *
 have hu3 : u2 % (q / p.gcd q) = p.bezU q := by
  obtain ⟨k, hk⟩ := hu2
  obtain ⟨k3, hk3⟩ := Poly.bez_mod hq0 hk
  exact Poly.bezU_unique hq0 (Poly.mod_len (Poly.per_ne hq0).2.1) hk3
 have hdl := div_len_le (a := q) hg0
 have hpl2 := Poly.len_pos (Poly.per_ne hq0 (p := p)).2.1
 have hper := hq.c.div' hgms hg0 (X := 5) (M := 5346) (N := 161000) (by omega) (Nat.le_refl _) (by decide)
 have hu3s := hu2s.mod' hper (Poly.per_ne hq0).2.1 (X := 11) (M := 161000) (N := 2200000) (by omega) (Nat.le_refl _) (by decide)
 rw [hu3] at hu3s
 have hu3l : (p.bezU q).len < (q / p.gcd q).len := by rw [← hu3]; exact Poly.mod_len (Poly.per_ne hq0).2.1
 have hprod := hu3s.mul hp.c
 have hsub := (hgms.sub hprod).le (show _ ≤ 2300000 by omega)
 have hsl := Poly.len_sub (p.gcd q) (p.bezU q * p)
 have hml := Poly.len_mul_le (p.bezU q) p
 have hvl := div_len_le (a := p.gcd q - p.bezU q * p) hq0
 have hq1 := Poly.len_pos hq0
 have hv := hsub.div' hq.c hq0 (X := 10) (M := 21) (N := 24000000) (by omega) (Nat.le_refl _) (by decide)
 refine ⟨⟨hgms.le (by decide), hgl2⟩, ⟨hu3s.le (by decide), by omega⟩, ⟨hv.le (by decide), ?_⟩⟩
 show ((p.gcd q - p.bezU q * p) / q).len ≤ 10
 omega
end Go.Proofs.YtacenhlcfeepgaaGreat
namespace Go.Proofs.YtacenhlcfeepgaaGreat
open Go Eng
theorem bool4 (a b c d : Bool) : a = false ∨ (a = true ∧ b = false) ∨ (a = true ∧ b = true ∧ c = false) ∨ (a = true ∧ b = true ∧ c = true ∧ d = false) ∨ (a = true ∧ b = true ∧ c = true ∧ d = true) := by cases a <;> cases b <;> cases c <;> cases d <;> simp
theorem composeS {n k m l L : Nat} {p q : Pol} (h : SB n k p) (g : SB m l q) (hk : k ≤ 7) (hl : l ≤ 7) (hL : k * l + 1 ≤ L) (hs : 1 + L * (k * (m + n + L + 2) + 2 * m + 2) ≤ 274877906944) : FnP Tryz.prog tb F_qpoly_Compose [encP p, encP q] (.tu [encP (p.comp q), .i .i64 0]) :=
 qpoly_Compose p q (comp_fit (Nat.le_trans h.l hk) (Nat.le_trans g.l hl)) h.c.pb g.c (L := L) (by have := Nat.mul_le_mul h.l g.l; omega) (by
  have h1 := Nat.mul_le_mul_right (m + n + L + 2) h.l
  have h2 := Nat.mul_le_mul_left L (show p.len * (m + n + L + 2) + 2 * m + 2 ≤ k * (m + n + L + 2) + 2 * m + 2 by omega)
  omega)
theorem gcdS {n k m l : Nat} {p q : Pol} (h : SB n k p) (g : SB m l q) (hK : (max n m + 1) * (k + 2) * 3 ^ l ≤ 137438953000) (hn : n ≤ 274877906900) (hm : m ≤ 274877906900) : FnP Tryz.prog tb F_qpoly_Gcd [encP p, encP q] (encP (p.gcd q)) :=
 qpoly_Gcd p q (EB.init (K := (max n m + 1) * (k + 2) * 3 ^ l) h.c.monic g.c.monic (by
  rw [Poly.monic_len, Poly.monic_len]
  have h1 := h.l
  exact Nat.mul_le_mul (Nat.mul_le_mul_left _ (by omega)) (Nat.pow_le_pow_right (by decide) g.l))) hK (h.c.pb.le hn) (g.c.pb.le hm)
theorem divD {p g : Pol} {n k m l : Nat} (h : SB n k p) (hg : SB m l g) (h0 : g ≠ 0) (hd : g ∣ p) (hs : n + (k + 1) * (m + 1) + m ≤ 137438953000) : FnP Tryz.prog tb F_qpoly_Div [encP p, encP g] (.tu [encP (p / g), .sl T_Rat [], .i .i64 0]) := by
 have := qpoly_Div p g h0 h.c hg.c (by have := Nat.mul_le_mul_right (m + 1) (show p.len + 1 - g.len ≤ k + 1 by have := h.l; omega); omega)
 rw [(Poly.dvd_iff_mod h0).1 hd, encP_0] at this; exact this
theorem divE {p q r : Pol} {n k m l : Nat} (h : SB n k (p * q + r)) (hq : SB m l q) (hl : r.len < q.len) (hs : n + (k + 1) * (m + 1) + m ≤ 137438953000) : FnP Tryz.prog tb F_qpoly_Div [encP (p * q + r), encP q] (.tu [encP p, encP r, .i .i64 0]) := by
 have h0 : q ≠ 0 := fun e => by rw [e, Poly.len_zero] at hl; omega
 have := qpoly_Div (p * q + r) q h0 h.c hq.c (by have := Nat.mul_le_mul_right (m + 1) (show (p * q + r).len + 1 - q.len ≤ k + 1 by have := h.l; omega); omega)
 obtain ⟨e1, e2⟩ := Poly.div_unique h0 (rfl : p * q + r = p * q + r) hl
 rw [← e1, ← e2] at this; exact this
theorem bez_SB {p q : Pol} (hp : SB 21 5 p) (hq : SB 21 5 q) : SB 6000 5 (p.bez q).1 ∧ SB 40000000 6 (p.bez q).2.1 ∧ SB 500000000 10 (p.bez q).2.2 := by
 by_cases h : q = 0
 ·subst h
  rw [Poly.bez, if_pos rfl]
  by_cases h : p = 0
  ·subst h; rw [if_pos rfl]
   have h0 : SB 1 0 (0 : Pol) := ⟨CDB.zero, by rw [Poly.len_zero]; omega⟩
   exact ⟨h0.le (by decide) (by decide), h0.le (by decide) (by decide), h0.le (by decide) (by decide)⟩
  ·rw [if_neg h]
   have h0 : SB 1 0 (0 : Pol) := ⟨CDB.zero, by rw [Poly.len_zero]; omega⟩
   exact ⟨hp.monic.le (by decide) (by decide), (SB.cst ((Bq.one.div hp.c.pb.lead))).le (by decide) (by decide), h0.le (by decide) (by decide)⟩
 ·rw [Poly.bez, if_neg h]; exact bez_sizes hp hq h
theorem bez_call {p q : Pol} (hp : SB 21 5 p) (hq : SB 21 5 q) : FnP Tryz.prog tb F_qpoly_Bezout [encP p, encP q] (.tu [encP (p.bez q).1, encP (p.bez q).2.1, encP (p.bez q).2.2, .i .i64 0]) := by
 have h1 := hp.l
 have h2 := hq.l
 exact qpoly_Bezout p q (L := 11) (hp.c.pb.le (by decide)) (fun _ => EB.init (K := 10692) hp.c hq.c (by
  have h2 : ∀ a, a < 6 → ∀ b, b < 6 → (a - b + 2) * 3 ^ b ≤ 486 := by decide +kernel
  have := h2 p.len (by omega) q.len (by omega)
  rw [Nat.mul_assoc]
  exact Nat.le_trans (Nat.mul_le_mul_left 22 this) (by decide))) (by decide) (by omega) (by decide)
theorem law_Ring (p q r : List RQ) (x : RQ) (hp : WR p) (hq : WR q) (hr : WR r) (hx1 : Words x.1.2) (hx2 : Words x.2.2) : FnP Tryz.prog tb F_law03_QpolyRing [encRs p, encRs q, encRs r, encR x] (.b true) := by
 refine fn1 Tryz.func10 fun G hG hK hF => ?_
 refine sy 5 ?_
 rcases bool4 (fewB p 4 2) (fewB q 4 2) (fewB r 4 2) (decide (fewR x 2) && isR x) with h1 | ⟨h1, h2⟩ | ⟨h1, h2, h3⟩ | ⟨h1, h2, h3, h4⟩ | ⟨h1, h2, h3, h4⟩
 ·refine sy 2 ?_
  refine oq (.callR (yb := asc (.inl rfl) as2) (yc := few_F p hp 4 2 (by decide) (by decide) h1)) ?_
  refine sy 17 ?_
  refine wp_cT rfl (by rfl) ?_
  refine sy 6 ?_
  exact ⟨.inr rfl, rfl, (by (refine res_t rfl ?_); (rfl)), trivial⟩
 ·obtain ⟨p, rfl, hpl, hpB⟩ := few_pol hp h1 (by decide)
  rw [encRs_raw]
  refine sy 6 ?_
  refine gq (.callR (yb := asc (.inl rfl) as2) (yc := few_F q hq 4 2 (by decide) (by decide) h2)) ?_
  refine sy 13 ?_
  refine wp_cT rfl (by rfl) ?_
  refine sy 6 ?_
  exact ⟨.inr rfl, rfl, (by (refine res_t rfl ?_); (rfl)), trivial⟩
 ·obtain ⟨p, rfl, hpl, hpB⟩ := few_pol hp h1 (by decide)
  obtain ⟨q, rfl, hql, hqB⟩ := few_pol hq h2 (by decide)
  rw [encRs_raw, encRs_raw]
  refine sy 11 ?_
  refine gq (.callR (yb := asc (.inl rfl) as2) (yc := few_F r hr 4 2 (by decide) (by decide) h3)) ?_
  refine sy 8 ?_
  refine wp_cT rfl (by rfl) ?_
  refine sy 6 ?_
  exact ⟨.inr rfl, rfl, (by (refine res_t rfl ?_); (rfl)), trivial⟩
 ·obtain ⟨p, rfl, hpl, hpB⟩ := few_pol hp h1 (by decide)
  obtain ⟨q, rfl, hql, hqB⟩ := few_pol hq h2 (by decide)
  obtain ⟨r, rfl, hrl, hrB⟩ := few_pol hr h3 (by decide)
  rw [encRs_raw, encRs_raw, encRs_raw]
  refine sy 16 ?_
  refine gq (.callR (yb := asc (.inl rfl) as1) (yc := small_F x hx1 hx2 2 (by decide) h4)) ?_
  refine sy 3 ?_
  refine wp_cT rfl (by rfl) ?_
  refine sy 6 ?_
  exact ⟨.inr rfl, rfl, (by (refine res_t rfl ?_); (rfl)), trivial⟩
 ·obtain ⟨p, rfl, hpl, hpB⟩ := few_pol hp h1 (by decide)
  obtain ⟨q, rfl, hql, hqB⟩ := few_pol hq h2 (by decide)
  obtain ⟨r, rfl, hrl, hrB⟩ := few_pol hr h3 (by decide)
  obtain ⟨x, rfl, hxB⟩ := small_rat hx1 hx2 h4
  rw [encRs_raw, encRs_raw, encRs_raw, encR_raw]
  have sp : SB 21 5 p := SB.of hpB hpl
  have sq : SB 21 5 q := SB.of hqB hql
  have sr : SB 21 5 r := SB.of hrB hrl
  have spq := sp.mul sq
  have sqr := sq.mul sr
  have ss := sp.add sq
  have spr := sp.mul sr
  have sdp := sp.deriv (by decide)
  have sdq := sq.deriv (by decide)
  have sc := sp.comp sq (L := 26) (by decide)
  have sd := sdp.comp sq (L := 26) (by decide)
  have ba := sp.eval hxB (L := 6) (by decide)
  have bb := sq.eval hxB (L := 6) (by decide)
  obtain ⟨sg, su, sv⟩ := bez_SB sp sq
  have hpc : p.len = p.c.length := rfl
  have hqc : q.len = q.c.length := rfl
  have hrc : r.len = r.c.length := rfl
  refine sy 16 ?_
  refine gq (.callR (yb := asc (.inl rfl) as1) (yc := small_T x 2 (by decide) h4)) ?_
  refine sy 3 ?_
  refine wp_cF rfl (by rfl) ?_
  refine sy 5 ?_
  refine oq (.callR (yb := asc (.inl rfl) as1) (yc := mulS sp sq)) ?_
  refine sy 2 ?_
  refine oq (.callR (yb := asc (.inl rfl) as1) (yc := mulS sq sr)) ?_
  refine sy 2 ?_
  refine oq (.callR (yb := asc (.inl rfl) as1) (yc := addS sp sq)) ?_
  refine sy 8 ?_
  refine oq (.callR (yb := asc (.inl rfl) as1) (yc := mulS sq sp)) ?_
  refine oq (.callR (yb := asc (.inl rfl) as1) (yc := same_P _ _ (Poly.mul_comm' p q))) ?_
  refine sy 3 ?_
  refine gq (.callR (yb := asc (.inl rfl) as1) (yc := mulS spq sr)) ?_
  refine sy 2 ?_
  refine gq (.callR (yb := asc (.inl rfl) as1) (yc := mulS sp sqr)) ?_
  refine gq (.callR (yb := asc (.inl rfl) as1) (yc := same_P _ _ (Poly.mul_assoc' p q r))) ?_
  refine sy 4 ?_
  refine gq (.callR (yb := asc (.inl rfl) as1) (yc := mulS ss sr)) ?_
  refine sy 4 ?_
  refine gq (.callR (yb := asc (.inl rfl) as1) (yc := addS spr sqr)) ?_
  refine sy 6 ?_
  refine gq (.callR (yb := asc (.inl rfl) as1) (yc := addS sq sp)) ?_
  refine gq (.callR (yb := asc (.inl rfl) as1) (yc := same_P _ _ (Poly.add_comm' p q))) ?_
  refine sy 4 ?_
  refine gq (.callR (yb := asc (.inl rfl) as1) (yc := subS ss sq)) ?_
  refine sy 5 ?_
  refine wp_j hK (fun _ : Unit => ⟨[(0, .t (encP p)), (1, .t (encP q)), (2, .t (encP r)), (7, .t (.pt (encQ x))), (9, .t (encP (p * q))), (10, .t (encP (q * r))), (11, .t (encP (p + q))), (12, .t (.b true))], [], 0, 0⟩) (fun _ => True) (fun _ => rfl) ?_ ?_
  ·rcases (show p.c.length = 0 ∨ (p.c.length ≠ 0 ∧ q.c.length = 0) ∨ (p.c.length ≠ 0 ∧ q.c.length ≠ 0) by omega) with g1 | ⟨g1, g2⟩ | ⟨g1, g2⟩
   ·refine sy 10 ?_
    refine wp_cF rfl (by rfl) ?_
    refine wp_k ?_
    exact join_n () (by trivial) (by exact il)
   ·refine sy 10 ?_
    refine wp_cF rfl (by exact decide_eq_false (by omega)) ?_
    refine wp_k ?_
    exact join_n () (by trivial) (by exact il)
   ·refine sy 10 ?_
    refine wp_cT rfl (by exact decide_eq_true (by omega)) ?_
    refine sy 4 ?_
    refine gq (.callR (yb := as1) (yc := qpoly_DegP (p * q))) ?_
    refine sy 3 ?_
    refine gq (.callR (yb := as1) (yc := qpoly_DegP q)) ?_
    refine sy 5 ?_
    exact join_n () (by trivial) (by exact imp_less (by repeat' (first | exact trivial | (refine And.intro (by first | rfl | exact getb rfl (by have := (Poly.len_mul (p := p) (q := q) (fun e => g1 (by rw [e]; rfl)) (fun e => g2 (by rw [e]; rfl))).1; rw [beq_iff_eq]; omega)) ?_))) gb (by exact Nat.le_of_ble_eq_true rfl))
  ·intro _ _
   refine sy 2 ?_
   refine oq (.callR (yb := as1) (yc := derivS spq)) ?_
   refine sy 3 ?_
   refine oq (.callR (yb := asc (.inl rfl) as1) (yc := mulS sdp sq)) ?_
   refine sy 3 ?_
   refine oq (.callR (yb := asc (.inl rfl) as1) (yc := mulS sp sdq)) ?_
   refine oq (.callR (yb := asc (.inl rfl) as1) (yc := addS (sdp.mul sq) (sp.mul sdq))) ?_
   refine oq (.callR (yb := asc (.inl rfl) as1) (yc := same_P _ _ (Poly.deriv_mul p q))) ?_
   refine sy 3 ?_
   refine gq (.callR (yb := as1) (yc := qpoly_Deriv (Poly.integ p) ((integ_pb hpB (by omega)).le (by decide)))) ?_
   refine sy 1 ?_
   refine gq (.callR (yb := asc (.inl rfl) as1) (yc := same_P _ _ (deriv_integ p))) ?_
   refine sy 6 ?_
   refine dq (.callR (yb := asc (.inl rfl) as1) (yc := evalS sp hxB)) ?_
   refine sy 2 ?_
   refine dq (.callR (yb := asc (.inl rfl) as1) (yc := evalS sq hxB)) ?_
   refine sy 8 ?_
   refine oq (.callR (yb := asc (.inl rfl) as1) (yc := composeS sp sq (by decide) (by decide) (L := 26) (by decide) (by decide))) ?_
   refine sy 10 ?_
   refine oq (.callR (yb := asc (.inl rfl) as1) (yc := composeS sdp sq (by decide) (by decide) (L := 26) (by decide) (by decide))) ?_
   refine sy 19 ?_
   refine wd_gq rfl rfl rfl (by rfl) rfl rfl rfl (.callR (yb := asc (.inl rfl) as1) (yc := evalS sc hxB)) ?_
   refine sy 2 ?_
   refine wd_gq rfl rfl rfl (by rfl) rfl rfl rfl (.callR (yb := asc (.inl rfl) as1) (yc := evalS sp bb)) ?_
   refine wd_gq rfl rfl rfl (by rfl) rfl rfl rfl (.callR (yb := asc (.inl rfl) as1) (yc := same_Q _ _ (Poly.eval_comp p q x))) ?_
   refine sy 4 ?_
   refine wd_gq rfl rfl rfl (by rfl) rfl rfl rfl (.callR (yb := asc (.inl rfl) as1) (yc := evalS spq hxB)) ?_
   refine sy 2 ?_
   refine wd_gq rfl rfl rfl (by rfl) rfl rfl rfl (.callR (yb := asc (.inl rfl) as1) (yc := ref02_Mul _ _ (ba.le (by decide)) (bb.le (by decide)))) ?_
   refine wd_gq rfl rfl rfl (by rfl) rfl rfl rfl (.callR (yb := asc (.inl rfl) as1) (yc := same_Q _ _ (Poly.eval_mul p q x))) ?_
   refine sy 4 ?_
   refine wd_gq rfl rfl rfl (by rfl) rfl rfl rfl (.callR (yb := asc (.inl rfl) as1) (yc := evalS ss hxB)) ?_
   refine sy 2 ?_
   refine wd_gq rfl rfl rfl (by rfl) rfl rfl rfl (.callR (yb := asc (.inl rfl) as1) (yc := ref02_Add _ _ (ba.le (by decide)) (bb.le (by decide)))) ?_
   refine wd_gq rfl rfl rfl (by rfl) rfl rfl rfl (.callR (yb := asc (.inl rfl) as1) (yc := same_Q _ _ (Poly.eval_add p q x))) ?_
   refine sy 3 ?_
   refine wd_gq rfl rfl rfl (by rfl) rfl rfl rfl (.callR (yb := as1) (yc := derivS sc)) ?_
   refine sy 3 ?_
   refine wd_gq rfl rfl rfl (by rfl) rfl rfl rfl (.callR (yb := asc (.inl rfl) as1) (yc := mulS sd sdq)) ?_
   refine wd_gq rfl rfl rfl (by rfl) rfl rfl rfl (.callR (yb := asc (.inl rfl) as1) (yc := same_P _ _ (Poly.deriv_comp p q))) ?_
   refine sy 6 ?_
   refine oq (.callR (yb := asc (.inl rfl) as1) (yc := bez_call sp sq)) ?_
   refine sy 20 ?_
   refine gq (.callR (yb := asc (.inl rfl) as1) (yc := gcdS sp sq (by decide) (by decide) (by decide))) ?_
   refine gq (.callR (yb := asc (.inl rfl) as1) (yc := same_P _ _ (Poly.bez_gcd p q))) ?_
   refine sy 5 ?_
   refine gq (.callR (yb := asc (.inl rfl) as1) (yc := mulS su sp)) ?_
   refine sy 2 ?_
   refine gq (.callR (yb := asc (.inl rfl) as1) (yc := mulS sv sq)) ?_
   refine gq (.callR (yb := asc (.inl rfl) as1) (yc := addS (su.mul sp) (sv.mul sq))) ?_
   refine gq (.callR (yb := asc (.inl rfl) as1) (yc := same_P _ _ ((Poly.bez_gcd p q).trans (Poly.bez_comb p q)))) ?_
   refine sy 10 ?_
   refine gq (.callR (yb := asc (.inl rfl) as1) (yc := gcdS spr sqr (by decide) (by decide) (by decide))) ?_
   refine sy 2 ?_
   refine gq (.callR (yb := as1) (yc := qpoly_Monic r (hrB.le (by decide)))) ?_
   refine gq (.callR (yb := asc (.inl rfl) as1) (yc := mulS sg sr.monic)) ?_
   refine gq (.callR (yb := asc (.inl rfl) as1) (yc := same_P _ _ (by rw [Poly.bez_gcd, Poly.gcd_mul]))) ?_
   refine sy 3 ?_
   refine wp_j hK (fun _ : Unit => ⟨[(0, .t (encP p)), (1, .t (encP q)), (2, .t (encP r)), (9, .t (encP (p * q))), (12, .t (.b true)), (13, .t (.b true))], [], 2, 0⟩) (fun _ => True) (fun _ => rfl) ?_ ?_
   ·refine sy 5 ?_
    refine wp_c rfl (fun hc => ?_) (fun hc => ?_)
    ·have hg0 : (p.bez q).1 ≠ 0 := fun e => by { rw [e] at hc; revert hc; decide }
     have hgd := Poly.gcd_is p q
     rw [← Poly.bez_gcd] at hgd
     refine sy 3 ?_
     refine oq (.callR (yb := asc (.inl rfl) as1) (yc := divD sp sg hg0 hgd.left (by decide))) ?_
     refine sy 11 ?_
     refine oq (.callR (yb := asc (.inl rfl) as1) (yc := divD sq sg hg0 hgd.right (by decide))) ?_
     refine sy 30 ?_
     exact join_n () (by trivial) (by exact il)
    ·refine wp_k ?_
     exact join_n () (by trivial) (by exact il)
   ·intro _ _
    refine wp_s ?_
    rcases (show q.c.length ≤ r.c.length ∨ r.c.length < q.c.length by omega) with g1 | g1
    ·refine sy 15 ?_
     refine wp_cT rfl (by exact decide_eq_true (by omega)) ?_
     refine sy 12 ?_
     exact ⟨.inr rfl, rfl, (by (refine res_t rfl ?_); (rfl)), trivial⟩
    ·refine sy 15 ?_
     refine wp_cF rfl (by exact decide_eq_false (by omega)) ?_
     refine sy 5 ?_
     refine oq (.callR (yb := asc (.inl rfl) as1) (yc := addS spq sr)) ?_
     refine om ?_
     refine oq (.callR (yb := asc (.inl rfl) as1) (yc := divE (spq.add sr) sq g1 (by decide))) ?_
     refine sy 27 ?_
     exact ⟨.inr rfl, rfl, (by (refine res_t rfl ?_); (rfl)), trivial⟩
end Go.Proofs.YtacenhlcfeepgaaGreat
