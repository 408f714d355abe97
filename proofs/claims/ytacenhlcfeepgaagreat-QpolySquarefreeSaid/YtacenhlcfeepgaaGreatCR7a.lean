/- The law is true whatever its arguments are, and these read behind the call as they read before (the row R7: what it needs beyond the files A; No conditions). -/
import Derived.Test.YtacenhlcfeepgaaGreatA6
import Derived.KernelRfl
set_option linter.unusedVariables false
set_option linter.unusedSimpArgs false
set_option linter.unusedSectionVars false
set_option maxHeartbeats 4000000
set_option maxRecDepth 100000
namespace Go.Proofs.YtacenhlcfeepgaaGreat.Eng
open Go
theorem sy (n : Nat) {A B : Prop} (hA : A) (f : Fu n → Hd A → B := by
  intro f h
  repeat
    refine fuS f (fun f => ?_)
    first
    | with_reducible refine wo_nil ?_
    | with_reducible refine wd_nil ?_
    | with_reducible refine then_n ?_
    | with_reducible refine then_ret ?_
    | with_reducible refine then_exit ?_
    | with_reducible refine blk_n ?_
    | with_reducible refine blk_hit ?_
    | with_reducible refine blk_ret ?_
    | with_reducible refine round_exit ?_
    | with_reducible refine round_ret ?_
    | (with_reducible refine isWP ?_
       first
       | refine rr ?_
       | refine rr0 ?_
       | refine wp_r tbOk hF2 hG2 rfl ?_
       | refine wp_r tbOk hF1 hG1 rfl ?_
       | refine wp_r0 tbOk hF2 hG2 rfl ?_
       | refine wp_r0 tbOk hF1 hG1 rfl ?_
       | refine wp_d tbOk hF mixed hG [] (by kernel_rfl) ?_
       | refine wp_d0 tbOk hF mixed hG [] (by kernel_rfl) ?_
       | refine wp_s ?_
       | refine wp_k ?_
       | refine wp_b ?_
       | refine wp_rt ?_
       | refine wp_x ?_
       | refine wp_lb ?_)
    | refine om ?_
    | refine oa ?_
    | ((first
        | refine wqE rfl rfl ?_
        | refine dqE rfl rfl rfl rfl ?_
        | (refine isGO (by rfl) ?_
           first
           | refine wo_gs rfl rfl rfl (by first | ((simp; omega)) | fail) rfl ?_
           | refine gqE rfl rfl rfl (by first | ((simp; omega)) | fail) rfl ?_
           | refine wo_gs rfl rfl rfl rfl rfl ?_
           | refine gqE rfl rfl rfl rfl rfl ?_)
        | (refine isGD (by rfl) ?_
           first
           | refine wd_gs rfl rfl rfl (by first | ((simp; omega)) | fail) rfl rfl rfl ?_
           | refine dgE rfl rfl rfl (by first | ((simp; omega)) | fail) rfl rfl rfl ?_
           | refine wd_gs rfl rfl rfl rfl rfl rfl rfl ?_
           | refine dgE rfl rfl rfl rfl rfl rfl rfl ?_))
       first
       | (with_reducible refine isQX ?_
          first
          | refine qx .moveR ?_
          | refine qx .extractR ?_
          | refine qx (.boxR (yb := .inl rfl)) ?_
          | refine qx .assignR ?_
          | (refine qload ?_
             first
             | refine qx .loadR ?_
             | refine qx (.loadPR (yd := by rfl)) ?_)
          | (refine qbin ?_
             first
             | refine qx .cmpR ?_
             | refine qx (.arithR (yd := by exact wrap_i64 (by omega))) ?_)
          | (refine qpick ?_
             first
             | refine qx (.pickF rfl (by rfl) rfl) ?_
             | refine qx (.pickF rfl (by first | ((simp; omega)) | fail) rfl) ?_
             | refine qx (.pickT rfl (by first | ((simp; omega)) | fail) rfl) ?_)
          | (refine qix ?_
             first
             | refine qx (.indexAddrR (yf := by omega) (yg := by exact encQs_atn (i := k) rfl (cf_at (by omega)))) ?_)
          | (refine qbs ?_
             first
             | refine qx (.buildSliceR (ye := as1) (yg := by decide) (yj := by decide) (yk := by decide)) ?_)
          | (refine qbd ?_
             first
             | refine qx (.buildR (yf := asn)) ?_)
          | (refine qcall ?_
             first
             | refine qx (.lenR (yc := .inl rfl) (yd := by exact encQs_len)) ?_
             | refine qx (.callR (yb := as1) (yc := ref03_Const _)) ?_
             | refine qx (.callR (yb := as1) (yc := ref02_Int 1 (by decide) (by decide))) ?_
             | refine qx (.callR (yb := as1) (yc := ref02_Int 0 (by decide) (by decide))) ?_
             | refine qx (.callR (yb := as1) (yc := ref03_Trim _)) ?_
             | refine qx (.callR (yb := as1) (yc := ref03_Deg p)) ?_
             | refine qx (.callR (yb := as1) (yc := qpoly_LeadP p)) ?_
             | refine qx (.callR (yb := as1) (yc := qpoly_DegP a)) ?_
             | refine qx (.callR (yb := as1) (yc := ref03_Lead p)) ?_
             | refine qx (.callR (yb := asc (.inl rfl) as1) (yc := ref03_Mul o q u1.pb hqB.pb (by omega) (by omega))) ?_
             | refine qx (.callR (yb := asc (.inl rfl) as1) (yc := ref03_Add _ _ hcm hcc)) ?_
             | refine qx (.callR (yb := as1) (yc := ref03_Deg q)) ?_
             | refine qx (.lenR (yc := .inl rfl) (yd := by rfl)) ?_
             | refine qx (.callR (yb := as1) (yc := qpoly_Deriv p (hpB.pb.le (by omega)))) ?_
             | refine qx (.callR (yb := asc (.inl rfl) as1) (yc := qpoly_Gcd p _ hT0 (by decide) (hpB.pb.le (by omega)) (hdB.le (by omega)))) ?_
             | refine qx (.callR (yb := asc (.inl rfl) as1) (yc := ref03_Div p q hq hpB hqB X hX hs)) ?_
             | refine qx (.callR (yb := as1) (yc := ref03_Monic p hpB)) ?_))
       | with_reducible refine isWO ?_
       | with_reducible refine isWD ?_)
    | ((first
        | refine eE rfl rfl ?_
        | refine edE rfl rfl ?_)
       first
         | refine exx (.storeR (ye := by decide) (yg := .inl rfl)) ?_
         | refine exx (.storeR (ye := by first | ((simp; done)) | fail) (yg := .inl rfl)) ?_
         | refine exx (appendW rfl rfl rfl (by decide) (by decide) rfl rfl rfl rfl (by rfl) (.inl rfl) (by rfl) (by first | ((simp [wds_len]; omega)) | fail)) ?_
         | fail)
    | (refine deE rfl rfl rfl ?_
       (first
         | refine exx (.storeR (ye := by decide) (yg := .inl rfl)) ?_
         | refine exx (.storeR (ye := by first | ((simp; done)) | fail) (yg := .inl rfl)) ?_
         | refine exx (appendW rfl rfl rfl (by decide) (by decide) rfl rfl rfl rfl (by rfl) (.inl rfl) (by rfl) (by first | ((simp [wds_len]; omega)) | fail)) ?_
         | fail)
       first
         | refine ⟨(by exact trivial), ?_⟩
         | fail)
    | ((first
        | refine nE rfl rfl ?_
        | refine dnE rfl rfl rfl rfl ?_)
       first
         | refine nxx .allocR ?_
         | fail)
  exact fu0 f h) : B := f .m ⟨hA⟩end Go.Proofs.YtacenhlcfeepgaaGreat.Eng
namespace Go.Proofs.YtacenhlcfeepgaaGreat
open Go Eng
namespace Eng
end Eng
abbrev F_law03_QpolySquarefree : Nat := 7
abbrev F_ref03_IsSquarefree : Nat := 57
abbrev F_ref03_Gcd : Nat := 109
end Go.Proofs.YtacenhlcfeepgaaGreat
namespace Go.Proofs.YtacenhlcfeepgaaGreat
namespace Poly
section
variable {R : Type} [i0 : CRing R] [DecidableEq R]
theorem cst_add (a b : R) : cst (a + b) = cst a + cst b := ext fun i => by rw [co_add, co_cst, co_cst, co_cst]; split <;> grind
theorem cst_one : cst (1 : R) = 1 := rfl
end
end Poly
example (p q : Poly Rat) : (p + q) * (p - q) = p * p - q * q := by grind
end Go.Proofs.YtacenhlcfeepgaaGreat
namespace Go.Proofs.YtacenhlcfeepgaaGreat
namespace Poly
section
variable {F : Type} [Fld F] [DecidableEq F]
theorem monic_ne {p : Poly F} (h : p ≠ 0) : monic p ≠ 0 := mul_ne (cst_ne (finv_ne (lead_ne h))) h
theorem one_ne : (1 : Poly F) ≠ 0 := cst_ne fone_ne
theorem Mon.one : Mon (1 : Poly F) := lead_cst 1
theorem Mon.mul {p q : Poly F} (hp : Mon p) (hq : Mon q) : Mon (p * q) := by
 rw [Mon, (len_mul hp.ne hq.ne).2, hp, hq]; grind
theorem gcd_mon {p q : Poly F} (h : ¬ (p = 0 ∧ q = 0)) : Mon (gcd p q) := by
 refine monic_Mon fun e => h ?_
 have : gcd p q = 0 := by rw [gcd, e, monic_zero]
 exact gcd_zero_iff.1 this
end
end Poly
end Go.Proofs.YtacenhlcfeepgaaGreat
namespace Go.Proofs.YtacenhlcfeepgaaGreat
namespace Poly
section
variable {R : Type} [i0 : CRing R] [DecidableEq R]
theorem deriv_add (p q : Poly R) : deriv (p + q) = deriv p + deriv q := ext fun i => by rw [co_deriv, co_add, co_add, co_deriv, co_deriv]; grind
theorem deriv_cX (a : R) (p : Poly R) : deriv (cst a + X * p) = p + X * deriv p := ext fun i => by
 rw [co_deriv, co_add, co_cst, co_X_mul, co_add, co_X_mul]
 rw [if_neg (by omega), if_neg (by omega), Nat.add_sub_cancel]
 cases i with
 | zero =>
  rw [if_pos rfl, nc_succ]
  have : (nc 0 : R) = 0 := rfl
  rw [this]; grind
 | succ i => rw [if_neg (by omega), Nat.add_sub_cancel, co_deriv, nc_succ (i + 1)]; grind
theorem deriv_cst (a : R) : deriv (cst a) = 0 := ext fun i => by rw [co_deriv, co_cst, if_neg (by omega), co_zero]; grind
theorem deriv_mul (p q : Poly R) : deriv (p * q) = deriv p * q + p * deriv q := by
 revert p
 apply ind
 ·rw [zero_mul', deriv_zero]; grind
 ·intro a p ih
  have e : (cst a + X * p) * q = cst a * q + (cst 0 + X * (p * q)) := by rw [cst_zero]; grind
  have e2 : deriv (cst a * q) = cst a * deriv q := ext fun i => by rw [co_deriv, cst_mul, cst_mul, co_deriv]; grind
  rw [e, deriv_add, deriv_cX, ih, e2, deriv_cX]; grind
end
end Poly
end Go.Proofs.YtacenhlcfeepgaaGreat
namespace Go.Proofs.YtacenhlcfeepgaaGreat
open Go Eng
theorem EB.rdiv {K T : Nat} {a b : Pol} (h : EB K T a b) (hb : b ≠ 0) : ∃ n m, CDB n a ∧ CDB m b ∧ 1 + (a.len + 1 - b.len) * (n + (a.len + 1 - b.len) * (m + 1) + 2 * m + 5) ≤ 1 + a.len * (K + 5) := by
 obtain ⟨n, m, h1, h2, h3, h4⟩ := h.ex
 refine ⟨n, m, h1, h2, ?_⟩
 have hl := Poly.len_pos hb
 have e1 : (a.len + 1 - b.len) * (m + 1) ≤ (a.len - b.len + 1) * T := Nat.mul_le_mul (by omega) h4
 have e2 : T * (a.len - b.len + 2) = (a.len - b.len + 1) * T + T := by rw [show a.len - b.len + 2 = a.len - b.len + 1 + 1 by omega, Nat.mul_succ, Nat.mul_comm]
 have h5 := h.pot
 have h6 : 3 ^ 1 ≤ 3 ^ b.len := Nat.pow_le_pow_right (by decide) hl
 have h7 := Nat.mul_le_mul_left (T * (a.len - b.len + 2)) h6
 have h8 : T ≤ (a.len - b.len + 1) * T := Nat.le_mul_of_pos_left _ (by omega)
 have h9 := Nat.mul_le_mul (show a.len + 1 - b.len ≤ a.len by omega) (show n + (a.len + 1 - b.len) * (m + 1) + 2 * m + 5 ≤ K + 5 by omega)
 omega
theorem EB.monic {K T : Nat} {a b : Pol} (h : EB K T a b) : EB K T a b.monic := by
 obtain ⟨n, m, h1, h2, h3, h4⟩ := h.ex
 exact ⟨⟨n, m, h1, h2.monic, h3, h4⟩, by rw [Poly.monic_len]; exact h.pot⟩
end Go.Proofs.YtacenhlcfeepgaaGreat
namespace Go.Proofs.YtacenhlcfeepgaaGreat
open Go Eng
theorem qpoly_SquarefreeZ : FnP Tryz.prog tb F_qpoly_Squarefree [.sl T_Rat []] (.tu [encQI 0 0, .sl T_L_Rat [], .i .i64 5]) := by
 refine fnP_T tbOk Tryz.func56 rfl rfl (Nat.le_of_ble_eq_true rfl) rfl fun G hG hK => ?_
 have hF : Wd Fence.wide := .inl rfl
 refine sy 5 ?_
 refine wp_scope ?_
 refine sy 6 ?_
 refine wp_cT rfl (by rfl) ?_
 refine sy 8 ?_
 refine scope_ret ?_
 exact ⟨.inr rfl, rfl, (by (refine res_c rfl rfl rfl rfl rfl ?_); (rfl)), (by (refine res_nl rfl ?_); (rfl)), (by (refine res_t rfl ?_); (rfl)), trivial⟩
end Go.Proofs.YtacenhlcfeepgaaGreat
namespace Go.Proofs.YtacenhlcfeepgaaGreat
open Go Eng
theorem ref03_Gcd (p q : Pol) {K T : Nat} (hE : EB K T p.monic q.monic) (L : Nat) (hpL : p.len ≤ L) (hqL : q.len ≤ L) (hKs : 1 + L * (K + 5) ≤ 274877906944) (hKt : K ≤ 274877906900) (hpB : PB 274877906900 p := by first | assumption | (apply PB.le; (focus (repeat' (first | assumption | apply PB.add | apply PB.sub | apply PB.neg | apply PB.monic | apply PB.scale | exact PB.zero | exact PB.one | apply PB.cst | exact Bq.zero | exact Bq.one))); omega)) (hqB : PB 274877906900 q := by first | assumption | (apply PB.le; (focus (repeat' (first | assumption | apply PB.add | apply PB.sub | apply PB.neg | apply PB.monic | apply PB.scale | exact PB.zero | exact PB.one | apply PB.cst | exact Bq.zero | exact Bq.one))); omega)) : FnP Tryz.prog tb F_ref03_Gcd [encP p, encP q] (encP (p.gcd q)) := by
 refine fn1 Tryz.func109 fun G hG hK hF => ?_
 refine sy 7 ?_
 refine oq (.callR (yb := as1) (yc := ref03_Monic q hqB)) ?_
 refine sy 5 ?_
 refine wp_l2 hK krn khn (fun sl' h' ((a, b) : Pol × Pol) => ⟨(5, .t (encP a)) :: (6, .t (encP b)) :: sl', h', 0, 0⟩) (fun (a, b) => a.monic = a ∧ b.monic = b ∧ a.gcd b = p.gcd q ∧ (∃ T, EB K T a b) ∧ a.len ≤ L ∧ b.len ≤ L) (fun (_, b) => b.len) (p.monic, q.monic) ?_ (fun _ => rfl) ?_ ?_
 ·exact ⟨monic_monic p, monic_monic q, Poly.gcd_monics p q, ⟨T, hE⟩, by rw [Poly.monic_len]; exact hpL, by rw [Poly.monic_len]; exact hqL⟩
 ·exact il
 ·rintro ⟨a, b⟩ ⟨ha, hb, hg, ⟨T', hE'⟩, haL, hbL⟩
  refine sy 6 ?_
  refine wp_c rfl (fun hc => ?_) (fun hc => ?_)
  ·have hb0 := pc_ne hc
   obtain ⟨n, m, e1, e2, e3⟩ := hE'.rdiv hb0
   have e4 := Nat.mul_le_mul_right (K + 5) haL
   have hE2 := hE'.step hb0
   have hml := Poly.mod_len (p := a) hb0
   have hmB : PB 274877906900 (a % b) := by obtain ⟨_, k, _, f1, _, f2⟩ := hE2.ex; have f3 := hE2.le; exact f1.pb.le (by omega)
   refine sy 7 ?_
   refine oq (.callR (yb := asc (.inl rfl) as1) (yc := ref03_Mod a b hb0 e1 e2 (a.len + 1 - b.len) (Nat.le_refl _) (by omega))) ?_
   refine oq (.callR (yb := as1) (yc := ref03_Monic _ hmB)) ?_
   refine sy 4 ?_
   exact round_n (b, (a % b).monic) (by refine ⟨hb, monic_monic _, ?_, ⟨_, hE2.monic⟩, hbL, by rw [Poly.monic_len]; omega⟩; rw [← hg, Poly.gcd_mod hb0]; have h := Poly.gcd_monics b (a % b); rw [hb] at h; exact h) (by (dsimp only; rw [Poly.monic_len]; exact Poly.mod_len hb0)) (by exact il)
  ·have hb0 := pc_zero hc
   refine sy 10 ?_
   exact ⟨.inr rfl, rfl, (by (refine res_t rfl ?_); (rw [← hg, hb0, Poly.gcd_zero, ha])), trivial⟩
theorem ref03_IsSquarefree (p : Pol) (d : Pol) (hd : FnP Tryz.prog tb F_ref03_Deriv [encP p] (encP d)) {K T : Nat} (hE : EB K T p.monic d.monic) (L : Nat) (hpL : p.len ≤ L) (hdL : d.len ≤ L) (hKs : 1 + L * (K + 5) ≤ 274877906944) (hKt : K ≤ 274877906900) (hpB : PB 274877906900 p) (hdB : PB 274877906900 d) : FnP Tryz.prog tb F_ref03_IsSquarefree [encP p] (.b (decide ((p.gcd d).len = 1))) := by
 refine fn1 Tryz.func57 fun G hG hK hF => ?_
 refine sy 6 ?_
 refine oq (.callR (yb := as1) (yc := hd)) ?_
 refine oq (.callR (yb := asc (.inl rfl) as1) (yc := ref03_Gcd p d hE L hpL hdL hKs hKt hpB hdB)) ?_
 refine oq (.callR (yb := as1) (yc := ref03_Deg _)) ?_
 refine sy 4 ?_
 exact ⟨.inr rfl, rfl, (by (refine res_t rfl ?_); (refine trb ?_; rw [Bool.eq_iff_iff, beq_iff_eq, decide_eq_true_iff]; omega)), trivial⟩
end Go.Proofs.YtacenhlcfeepgaaGreat
namespace Go.Proofs.YtacenhlcfeepgaaGreat
open Go Eng
theorem gtF {p : Prop} [Decidable p] (h : ¬ p) : (decide p == false) = true := by simp [h]
end Go.Proofs.YtacenhlcfeepgaaGreat
namespace Go.Proofs.YtacenhlcfeepgaaGreat
open Go Eng
structure SB (n k : Nat) (p : Pol) : Prop where
 c : CDB n p
 l : p.len ≤ k
theorem SB.deriv {n k : Nat} {p : Pol} (h : SB n k p) (hk : k ≤ 4000000000) : SB (n + 1) k p.deriv := ⟨h.c.deriv (Nat.le_trans h.l hk), Poly.len_le fun i hi => by rw [Poly.co_deriv, Poly.co_ge (by have := h.l; omega)]; grind⟩
theorem SB.of {n k : Nat} {p : Pol} (h : PB n p) (hl : p.len ≤ k) : SB (k * (n + 2) + 1) k p := ⟨h.cdb.le (by have := Nat.mul_le_mul_right (n + 2) hl; omega), hl⟩
theorem rmulS {n k m l : Nat} {p q : Pol} (h : SB n k p) (g : SB m l q) (hs : 1 + k * (n + m + 1) ≤ 274877906944 := by decide) (hk : k + l ≤ 2199023255552 := by decide) : FnP Tryz.prog tb F_ref03_Mul [encP p, encP q] (encP (p * q)) :=
 ref03_Mul p q h.c.pb g.c.pb (by have := Nat.mul_le_mul_right (n + m + 1) h.l; omega) (by have := h.l; have := g.l; omega)
end Go.Proofs.YtacenhlcfeepgaaGreat
namespace Go.Proofs.YtacenhlcfeepgaaGreat
open Go Eng
theorem bool1 (a : Bool) : a = false ∨ a = true := by cases a <;> simp
end Go.Proofs.YtacenhlcfeepgaaGreat
namespace Go.Proofs.YtacenhlcfeepgaaGreat
open Go Eng
def Cop (p q : Pol) : Prop := ∃ s t, s * p + t * q = 1
theorem Cop.symm {p q : Pol} (h : Cop p q) : Cop q p := by obtain ⟨s, t, h⟩ := h; exact ⟨t, s, by rw [← h]; grind⟩
theorem Cop.dvd {p q x : Pol} (h : Cop p q) (k : p ∣ q * x) : p ∣ x := by
 obtain ⟨s, t, h⟩ := h
 obtain ⟨r, hr⟩ := k
 refine ⟨s * x + t * r, ?_⟩
 have : x = (s * p + t * q) * x := by rw [h]; grind
 rw [this]; grind
theorem Cop.pow {p q : Pol} (h : Cop p q) : ∀ k : Nat, Cop p (q ^ k)
 | 0 => ⟨0, 1, by rw [Poly.pow_z]; grind⟩
 | k + 1 => by
  obtain ⟨s, t, h1⟩ := h
  obtain ⟨s', t', h2⟩ := Cop.pow ⟨s, t, h1⟩ k
  refine ⟨s * (s' * p + t' * q ^ k) + t * q * s', t * t', ?_⟩
  rw [Poly.pow_s]
  have : (1 : Pol) = (s * p + t * q) * (s' * p + t' * q ^ k) := by rw [h1, h2]; grind
  rw [this]; generalize q ^ k = Q at *; grind
theorem len_one {p : Pol} (h0 : p ≠ 0) (h : p.len ≤ 1) (hm : Poly.Mon p) : p = 1 := by
 have h1 := Poly.len_one_cst h
 have h2 : p.lead = p.co 0 := by rw [Poly.lead]; congr 1; omega
 rw [h1, ← h2, hm]; rfl
theorem cop_of_gcd {p q : Pol} (h0 : ¬ (p = 0 ∧ q = 0)) (h : (p.gcd q).len ≤ 1) : Cop p q := by
 have h1 := len_one (fun e => h0 (Poly.gcd_zero_iff.1 e)) h (Poly.gcd_mon h0)
 obtain ⟨u, v, h2⟩ := (Poly.gcd_is p q).comb
 exact ⟨u, v, by rw [← h2, h1]⟩
theorem Cop.gcd {p q : Pol} (h : Cop p q) : p.gcd q = 1 := by
 obtain ⟨s, t, h⟩ := h
 have h1 : Poly.IsGcd 1 p q := ⟨⟨p, by grind⟩, ⟨q, by grind⟩, s, t, h.symm⟩
 rw [← h1.unique]; exact Poly.Mon.one.monic
structure Irr (e : Pol) : Prop where
 l : 1 < e.len
 d : ∀ d, d ∣ e → d.len ≤ 1 ∨ e.len ≤ d.len
theorem Irr.ne {e : Pol} (h : Irr e) : e ≠ 0 := fun h0 => by have := h.l; rw [h0, Poly.len_zero] at this; omega
theorem exists_irr : ∀ (n : Nat) (p : Pol), p.len ≤ n → 1 < p.len → ∃ e, Irr e ∧ e ∣ p
 | 0, p, h, h1 => by omega
 | n + 1, p, h, h1 => by
  by_cases hd : ∃ d, d ∣ p ∧ 1 < d.len ∧ d.len < p.len
  ·obtain ⟨d, h2, h3, h4⟩ := hd
   obtain ⟨e, h5, h6⟩ := exists_irr n d (by omega) h3
   exact ⟨e, h5, Poly.dvd_trans h6 h2⟩
  ·refine ⟨p, ⟨h1, fun d hdp => ?_⟩, Poly.dvd_refl p⟩
   apply Classical.byContradiction
   intro hn
   exact hd ⟨d, hdp, by omega, by omega⟩
theorem Irr.cop {e x : Pol} (hi : Irr e) (h : ¬ e ∣ x) : Cop e x := by
 have hg := Poly.gcd_is e x
 rcases hi.d _ hg.left with h1 | h1
 ·exact cop_of_gcd (fun e => hi.ne e.1) h1
 ·exfalso
  obtain ⟨s, hs⟩ := hg.left
  have hg0 : e.gcd x ≠ 0 := fun e0 => hi.ne (Poly.gcd_zero_iff.1 e0).1
  have hs0 : s ≠ 0 := fun e0 => hi.ne (by rw [hs, e0, Poly.mul_z])
  have h2 := (Poly.len_mul hg0 hs0).1
  rw [← hs] at h2
  have h3 := Poly.len_pos hs0
  have h4 := Poly.len_pos hg0
  have h5 := Poly.len_one_cst (show s.len ≤ 1 by omega)
  have h6 : s.co 0 ≠ 0 := fun e0 => hs0 (by rw [h5, e0]; rfl)
  refine h (Poly.dvd_trans ⟨Poly.cst (1 / s.co 0), ?_⟩ hg.right)
  have h7 := Poly.cst_inv h6
  rw [h5] at hs
  have : e.gcd x = e.gcd x * (Poly.cst (1 / s.co 0) * Poly.cst (s.co 0)) := by rw [h7]; grind
  rw [this]
  generalize Poly.cst (1 / s.co 0) = c1 at *
  generalize Poly.cst (s.co 0) = c2 at *
  generalize e.gcd x = g at *
  subst hs
  grind
theorem rat_nat_ne {n : Nat} (h : n ≠ 0) : ((n : Nat) : Rat) ≠ 0 := fun e => by
 have := congrArg Rat.num e
 rw [Rat.num_natCast] at this
 exact h (Int.natCast_eq_zero.1 this)
theorem Irr.deriv {e : Pol} (hi : Irr e) : ¬ e ∣ e.deriv := fun h => by
 have hl := hi.l
 have h1 : e.deriv.co (e.len - 2) ≠ 0 := by
  rw [Poly.co_deriv, nc_rat, show e.len - 2 + 1 = e.len - 1 by omega]
  exact Poly.fmul_ne (rat_nat_ne (by omega)) (Poly.lead_ne hi.ne)
 have h2 : e.deriv ≠ 0 := fun e0 => h1 (by rw [e0, Poly.co_zero])
 have h3 := Poly.dvd_len h h2
 have h4 : e.deriv.len ≤ e.len - 1 := Poly.len_le fun i hi => by rw [Poly.co_deriv, Poly.co_ge (by omega)]; grind
 omega
theorem deriv_pow (e : Pol) : ∀ k : Nat, (e ^ (k + 1)).deriv = Poly.cst ((k + 1 : Nat) : Rat) * e ^ k * e.deriv
 | 0 => by rw [Poly.pow_s, Poly.pow_z, show (1 : Pol) * e = e by grind, show Poly.cst ((0 + 1 : Nat) : Rat) = (1 : Pol) from rfl]; grind
 | k + 1 => by
  rw [Poly.pow_s, Poly.deriv_mul, deriv_pow e k]
  have : Poly.cst ((k + 1 + 1 : Nat) : Rat) = Poly.cst ((k + 1 : Nat) : Rat) + 1 := by
   rw [← Poly.cst_one, ← Poly.cst_add]; congr 1
   rw [← nc_rat, Poly.nc_succ, nc_rat]
  rw [this, Poly.pow_s]
  generalize Poly.cst ((k + 1 : Nat) : Rat) = c
  generalize e ^ k = E
  grind
theorem exists_mult {e : Pol} (he : 1 < e.len) : ∀ (n : Nat) (f : Pol), f.len ≤ n → f ≠ 0 → ∃ (m : Nat) (h : Pol), f = e ^ m * h ∧ ¬ e ∣ h
 | 0, f, h, h0 => by have := Poly.len_pos h0; omega
 | n + 1, f, h, h0 => by
  by_cases hd : e ∣ f
  ·obtain ⟨s, hs⟩ := hd
   have hs0 : s ≠ 0 := fun e0 => h0 (by rw [hs, e0, Poly.mul_z])
   have he0 : e ≠ 0 := fun e0 => by rw [e0, Poly.len_zero] at he; omega
   have h2 := (Poly.len_mul he0 hs0).1
   rw [← hs] at h2
   obtain ⟨m, t, h3, h4⟩ := exists_mult he n s (by omega) hs0
   exact ⟨m + 1, t, by rw [hs, h3, Poly.pow_s]; generalize e ^ m = E; grind, h4⟩
  ·exact ⟨0, f, by rw [Poly.pow_z]; grind, hd⟩
theorem pow_ne {e : Pol} (h : e ≠ 0) : ∀ k : Nat, e ^ k ≠ 0
 | 0 => Poly.one_ne
 | k + 1 => by rw [Poly.pow_s]; exact Poly.mul_ne (pow_ne h k) h
section
variable {f g a : Pol}
structure Rad (f g a : Pol) : Prop where
 f0 : f ≠ 0
 m : a * g = f
 g : f.gcd f.deriv = g
theorem Rad.irr (h : Rad f g a) {e : Pol} (hi : Irr e) (hf : e ∣ f) : e ∣ a ∧ ¬ e * e ∣ a := by
 obtain ⟨m, t, h1, h2⟩ := exists_mult hi.l f.len f (Nat.le_refl _) h.f0
 cases m with
 | zero => rw [Poly.pow_z] at h1; exact absurd (by rw [h1, show (1 : Pol) * t = t by grind] at hf; exact hf) h2
 | succ k =>
  have hg := Poly.gcd_is f f.deriv
  rw [h.g] at hg
  have hd : f.deriv = e ^ k * (Poly.cst ((k + 1 : Nat) : Rat) * e.deriv * t + e * t.deriv) := by
   rw [h1, Poly.deriv_mul, deriv_pow, Poly.pow_s]
   generalize Poly.cst ((k + 1 : Nat) : Rat) = c
   generalize e ^ k = E
   grind
  have hk := pow_ne hi.ne k
  have hm := h.m
  refine ⟨?_, ?_⟩
  ·apply Classical.byContradiction
   intro hn
   have h3 : Cop (e ^ (k + 1)) a := (((hi.cop hn).symm).pow (k + 1)).symm
   have h4 : e ^ (k + 1) ∣ g := h3.dvd ⟨t, by rw [hm, h1]⟩
   obtain ⟨r, h5⟩ := Poly.dvd_trans h4 hg.right
   rw [hd, Poly.pow_s] at h5
   have h6 : e ^ k * (Poly.cst ((k + 1 : Nat) : Rat) * e.deriv * t + e * t.deriv) = e ^ k * (e * r) := by rw [h5]; generalize e ^ k = E; grind
   have h7 := Poly.mul_cancel hk h6
   have h8 : e ∣ t * (Poly.cst ((k + 1 : Nat) : Rat) * e.deriv) := ⟨r - t.deriv, by
    generalize Poly.cst ((k + 1 : Nat) : Rat) * e.deriv = X at *
    grind⟩
   have h9 := (hi.cop h2).dvd h8
   have h10 : Cop e (Poly.cst ((k + 1 : Nat) : Rat)) := ⟨0, Poly.cst (1 / ((k + 1 : Nat) : Rat)), by
    have := Poly.cst_inv (rat_nat_ne (show k + 1 ≠ 0 by omega))
    rw [this]; grind⟩
   exact hi.deriv (h10.dvd h9)
  ·rintro ⟨s, hs⟩
   obtain ⟨r, hr⟩ : e ^ k ∣ g := hg.dvd ⟨e * t, by rw [h1, Poly.pow_s]; generalize e ^ k = E; grind⟩ ⟨_, hd⟩
   rw [hs, hr, h1, Poly.pow_s] at hm
   have h6 : (e ^ k * e) * (e * (s * r)) = (e ^ k * e) * t := by rw [← hm]; generalize e ^ k = E; grind
   exact h2 ⟨s * r, (Poly.mul_cancel (Poly.mul_ne hk hi.ne) h6).symm⟩
theorem Rad.sqf (h : Rad f g a) : Cop a a.deriv := by
 have ha : a ≠ 0 := fun e => h.f0 (by rw [← h.m, e]; grind)
 refine cop_of_gcd (fun e => ha e.1) ?_
 apply Classical.byContradiction
 intro hn
 obtain ⟨e, hi, hd⟩ := exists_irr _ (a.gcd a.deriv) (Nat.le_refl _) (by omega)
 have hg := Poly.gcd_is a a.deriv
 have h1 := Poly.dvd_trans hd hg.left
 obtain ⟨h2, h3⟩ := h.irr hi (Poly.dvd_trans h1 ⟨g, h.m.symm⟩)
 obtain ⟨s, hs⟩ := h1
 obtain ⟨r, hr⟩ := Poly.dvd_trans hd hg.right
 have h4 : e ∣ e.deriv * s := ⟨r - s.deriv, by rw [hs, Poly.deriv_mul] at hr; grind⟩
 obtain ⟨q, hq⟩ := (hi.cop hi.deriv).dvd h4
 exact h3 ⟨q, by rw [hs, hq]; grind⟩
theorem Rad.pow (h : Rad f g a) : ∀ (n : Nat) (u : Pol), u.len ≤ n → u ∣ f → ∃ k : Nat, u ∣ a ^ k
 | 0, u, hl, hu => by
  have h0 := Poly.eq_zero_of_len (show u.len = 0 by omega)
  rw [h0] at hu
  exact absurd (Poly.zero_dvd hu) h.f0
 | n + 1, u, hl, hu => by
  by_cases h1 : u.len ≤ 1
  ·have h2 := Poly.len_one_cst h1
   have hu0 : u ≠ 0 := fun e => by rw [e] at hu; exact h.f0 (Poly.zero_dvd hu)
   have h3 : u.co 0 ≠ 0 := fun e => hu0 (by rw [h2, e]; rfl)
   exact ⟨0, Poly.cst (1 / u.co 0), by rw [Poly.pow_z, h2, Poly.co_cst, if_pos rfl, Poly.mul_comm', Poly.cst_inv h3]⟩
  ·obtain ⟨e, hi, s, hs⟩ := exists_irr _ u (Nat.le_refl _) (by omega)
   have hu0 : u ≠ 0 := fun e => by rw [e] at hu; exact h.f0 (Poly.zero_dvd hu)
   have hs0 : s ≠ 0 := fun e0 => hu0 (by rw [hs, e0, Poly.mul_z])
   have h2 := (Poly.len_mul hi.ne hs0).1
   rw [← hs] at h2
   have h3 := hi.l
   obtain ⟨h4, _⟩ := h.irr hi (Poly.dvd_trans ⟨s, hs⟩ hu)
   obtain ⟨k, q, hq⟩ := Rad.pow h n s (by omega) (Poly.dvd_trans ⟨e, by rw [hs]; grind⟩ hu)
   obtain ⟨r, hr⟩ := h4
   refine ⟨k + 1, q * r, ?_⟩
   rw [Poly.pow_s, hq, hs]
   generalize a ^ k = A at *
   rw [hr]; grind
end
structure Sq (a g : Pol) : Prop where
 s : Cop a a.deriv
 p : ∃ k : Nat, g ∣ a ^ k
 a : Poly.Mon a
 g : Poly.Mon g
theorem mon_div {a c : Pol} (ha : Poly.Mon a) (hc : Poly.Mon c) (h : c ∣ a) : Poly.Mon (a / c) ∧ a / c * c = a := by
 have h1 := Poly.div_mul_of_dvd hc.ne h
 refine ⟨?_, h1⟩
 have h2 : a / c ≠ 0 := fun e => ha.ne (by rw [← h1, e]; grind)
 have h3 := (Poly.len_mul h2 hc.ne).2
 rw [h1, hc, ha] at h3
 show (a / c).lead = 1
 grind
theorem Sq.step {a g : Pol} (h : Sq a g) : Sq (a.gcd g) (g / a.gcd g) ∧ Poly.Mon (a / a.gcd g) ∧ a / a.gcd g * a.gcd g = a ∧ g / a.gcd g * a.gcd g = g := by
 have hc := Poly.gcd_mon (p := a) (q := g) (fun e => h.a.ne e.1)
 have hg := Poly.gcd_is a g
 obtain ⟨d1, d2⟩ := mon_div h.a hc hg.left
 obtain ⟨e1, e2⟩ := mon_div h.g hc hg.right
 generalize a.gcd g = c at *
 generalize a / c = d at *
 generalize g / c = e at *
 obtain ⟨u, v, hs⟩ := h.s
 -- c and d are coprime
 have hcd : Cop c d := by
  refine cop_of_gcd (fun e => hc.ne e.1) ?_
  have k := Poly.gcd_is c d
  have k0 : c.gcd d ≠ 0 := fun e => hc.ne (Poly.gcd_zero_iff.1 e).1
  generalize c.gcd d = x at *
  obtain ⟨c1, hc1⟩ := k.left
  obtain ⟨d1, hd1⟩ := k.right
  have hx : x ∣ 1 := ⟨u * (d1 * x * c1) + v * (d1.deriv * x * c1 + d1 * (x.deriv * c1 + x.deriv * c1 + x * c1.deriv)), by
   rw [← hs, ← d2, hc1, hd1, Poly.deriv_mul, Poly.deriv_mul, Poly.deriv_mul]; grind⟩
  have := Poly.dvd_len hx Poly.one_ne
  rw [Poly.one_len] at this; exact this
 have hgd : Cop g d := by
  refine cop_of_gcd (fun e => h.g.ne e.1) ?_
  have k := Poly.gcd_is g d
  have k1 : g.gcd d ∣ c := hg.dvd (Poly.dvd_trans k.right ⟨c, d2.symm⟩) k.left
  obtain ⟨s, t, k2⟩ := hcd
  have k3 : g.gcd d ∣ 1 := by
   rw [← k2]; exact Poly.dvd_add (Poly.dvd_mul_left s k1) (Poly.dvd_mul_left t k.right)
  have := Poly.dvd_len k3 Poly.one_ne
  rw [Poly.one_len] at this; exact this
 refine ⟨⟨⟨u * d + v * d.deriv, v * d, by rw [← hs, ← d2, Poly.deriv_mul]; grind⟩, ?_, hc, e1⟩, d1, d2, e2⟩
 obtain ⟨k, hk⟩ := h.p
 have h1 : ∀ k : Nat, a ^ k = d ^ k * c ^ k := by
  intro k
  induction k with
  | zero => rw [Poly.pow_z, Poly.pow_z, Poly.pow_z]; grind
  | succ k ih => rw [Poly.pow_s, Poly.pow_s, Poly.pow_s, ih]; generalize d ^ k = D; generalize c ^ k = C; rw [← d2]; grind
 refine ⟨k, Poly.dvd_trans ⟨c, e2.symm⟩ ((hgd.pow k).dvd ?_)⟩
 rw [← h1]; exact hk
def prodL : List Pol → Pol
 | [] => 1
 | x :: l => x * prodL l
def prodP : List Pol → Nat → Pol
 | [], _ => 1
 | x :: l, s => x ^ (s + 1) * prodP l (s + 1)
theorem prodP_s : ∀ (l : List Pol) (s : Nat), prodP l (s + 1) = prodP l s * prodL l
 | [], s => by simp only [prodP, prodL]; grind
 | x :: l, s => by
  simp only [prodP, prodL]
  rw [prodP_s l (s + 1), Poly.pow_s x (s + 1)]
  generalize x ^ (s + 1) = X
  generalize prodP l (s + 1) = Y
  grind
structure SqL (a g : Pol) (l : List Pol) : Prop where
 m : ∀ x ∈ l, Poly.Mon x
 p : prodL l = a
 q : prodP l 0 = a * g
 z : ∀ x, l.getLast? = some x → 1 < x.len
theorem sqfAux_is : ∀ (n : Nat) (a g : Pol), Sq a g → a.len + g.len ≤ n → SqL a g (Poly.sqfAux n a g)
 | 0, a, g, h, hn => by have := Poly.len_pos h.a.ne; omega
 | n + 1, a, g, h, hn => by
  rw [Poly.sqfAux]
  split
  ·rename_i h1
   have ha := len_one h.a.ne h1 h.a
   have hg : g = 1 := by
    obtain ⟨k, hk⟩ := h.p
    have h2 : ∀ k : Nat, (1 : Pol) ^ k = 1 := by
     intro k
     induction k with
     | zero => rfl
     | succ k ih => rw [Poly.pow_s, ih]; grind
    rw [ha, h2] at hk
    have := Poly.dvd_len hk Poly.one_ne
    rw [Poly.one_len] at this
    exact len_one h.g.ne this h.g
   exact ⟨fun x hx => by simp at hx, by rw [ha]; rfl, by rw [ha, hg]; simp only [prodP]; grind, fun x hx => by simp at hx⟩
  ·rename_i h1
   obtain ⟨k1, k2, k3, k4⟩ := h.step
   obtain ⟨_, _, h5⟩ := Poly.sqf_step (show 1 < a.len by omega) h.g.ne
   have ih := sqfAux_is n _ _ k1 (by omega)
   generalize Poly.sqfAux n (a.gcd g) (g / a.gcd g) = l at *
   generalize a.gcd g = c at *
   generalize a / c = d at *
   generalize g / c = e at *
   refine ⟨fun x hx => ?_, ?_, ?_, fun x hx => ?_⟩
   ·rcases List.mem_cons.1 hx with rfl | hx
    ·exact k2
    ·exact ih.m x hx
   ·rw [prodL, ih.p, k3]
   ·rw [prodP, prodP_s, ih.q, ih.p, Poly.pow_s, Poly.pow_z, ← k3]
    have : (1 : Pol) * d * (c * e * c) = d * c * (e * c) := by grind
    rw [this, k4]
   ·cases l with
    | nil =>
     have h6 : (1 : Pol) = c := ih.p
     simp at hx
     subst hx
     rw [← h6, show d * 1 = d by grind] at k3
     rw [k3]; omega
    | cons y t => rw [List.getLast?_cons_cons] at hx; exact ih.z x hx
theorem sqf_is (p : Pol) (hp : p ≠ 0) : ∃ a g, SqL a g p.sqf ∧ a * g = p.monic ∧ Cop a a.deriv := by
 have hm0 := Poly.monic_ne hp
 have hmon := Poly.monic_Mon hp
 have hgc : p.gcd p.deriv = p.monic.gcd p.monic.deriv := by
  have h1 : p.monic.deriv = Poly.cst (1 / p.lead) * p.deriv := by rw [Poly.monic, Poly.deriv_mul, Poly.deriv_cst]; grind
  rw [h1]
  have hl := Poly.lead_ne hp
  have h2 := Poly.cst_inv hl
  refine (((Poly.gcd_is p p.deriv).assoc ⟨(Poly.monic_dvd p).2, (Poly.monic_dvd p).1⟩ ⟨⟨Poly.cst (1 / p.lead), by grind⟩, ⟨Poly.cst p.lead, ?_⟩⟩).unique).symm.trans ?_ |>.symm
  ·generalize Poly.cst (1 / p.lead) = c1 at *
   generalize Poly.cst p.lead = c2 at *
   have : p.deriv = (c1 * c2) * p.deriv := by rw [h2]; grind
   rw [this]; grind
  ·exact Poly.gcd_monic p p.deriv
 have hg := Poly.gcd_is p.monic p.monic.deriv
 rw [← hgc] at hg
 have hgm := Poly.gcd_mon (p := p) (q := p.deriv) (fun e => hp e.1)
 obtain ⟨h1, h2⟩ := mon_div hmon hgm hg.left
 have hR : Rad p.monic (p.gcd p.deriv) (p.monic / p.gcd p.deriv) := ⟨hm0, h2, hgc.symm⟩
 refine ⟨_, _, sqfAux_is _ _ _ ⟨hR.sqf, hR.pow _ _ (Nat.le_refl _) hg.left, h1, hgm⟩ ?_, h2, hR.sqf⟩
 have h3 := (Poly.len_mul h1.ne hgm.ne).1
 rw [h2, Poly.monic_len] at h3
 have h4 := Poly.len_pos h1.ne
 have h5 := Poly.len_pos hgm.ne
 omega
end Go.Proofs.YtacenhlcfeepgaaGreat
namespace Go.Proofs.YtacenhlcfeepgaaGreat
open Go Eng
theorem mon_pow {x : Pol} (h : Poly.Mon x) : ∀ k : Nat, Poly.Mon (x ^ k)
 | 0 => Poly.Mon.one
 | k + 1 => by rw [Poly.pow_s]; exact (mon_pow h k).mul h
theorem pow_add' (x : Pol) (a : Nat) : ∀ b : Nat, x ^ (a + b) = x ^ a * x ^ b
 | 0 => by rw [Poly.pow_z, Nat.add_zero]; grind
 | b + 1 => by rw [← Nat.add_assoc, Poly.pow_s, pow_add' x a b, Poly.pow_s]; generalize x ^ a = A; generalize x ^ b = B; grind
theorem mon_prodL : ∀ {l : List Pol}, (∀ x ∈ l, Poly.Mon x) → Poly.Mon (prodL l)
 | [], _ => Poly.Mon.one
 | x :: l, h => (h x (by simp)).mul (mon_prodL fun y hy => h y (by simp [hy]))
theorem mon_prodP : ∀ {l : List Pol} {s : Nat}, (∀ x ∈ l, Poly.Mon x) → Poly.Mon (prodP l s)
 | [], _, _ => Poly.Mon.one
 | x :: l, s, h => (mon_pow (h x (by simp)) _).mul (mon_prodP fun y hy => h y (by simp [hy]))
theorem prodL_app : ∀ (l m : List Pol), prodL (l ++ m) = prodL l * prodL m
 | [], m => by simp only [prodL, List.nil_append]; grind
 | x :: l, m => by simp only [prodL, List.cons_append]; rw [prodL_app l m]; grind
theorem prodP_app : ∀ (l m : List Pol) (s : Nat), prodP (l ++ m) s = prodP l s * prodP m (s + l.length)
 | [], m, s => by simp only [prodP, List.nil_append, List.length_nil, Nat.add_zero]; grind
 | x :: l, m, s => by
  simp only [prodP, List.cons_append, List.length_cons]
  rw [prodP_app l m (s + 1), show s + 1 + l.length = s + (l.length + 1) by omega]
  generalize x ^ (s + 1) = X
  grind
theorem take_x {l : List Pol} {i : Nat} {x : Pol} (h : l[i]? = some x) : l.take (i + 1) = l.take i ++ [x] := by rw [List.take_add_one, h]; rfl
theorem prodL_take {l : List Pol} {i : Nat} {x : Pol} (h : l[i]? = some x) : prodL (l.take (i + 1)) = prodL (l.take i) * x := by
 rw [take_x h, prodL_app]; simp only [prodL]; grind
theorem prodP_take {l : List Pol} {i : Nat} {x : Pol} (h : l[i]? = some x) : prodP (l.take (i + 1)) 0 = prodP (l.take i) 0 * x ^ (i + 1) := by
 have hi := (List.getElem?_eq_some_iff.1 h).1
 rw [take_x h, prodP_app]
 simp only [prodP]
 rw [List.length_take, Nat.min_eq_left (Nat.le_of_lt hi), Nat.zero_add]
 generalize x ^ (i + 1) = X
 grind
theorem prodL_dvd {l : List Pol} (i : Nat) : prodL (l.take i) ∣ prodL l := ⟨prodL (l.drop i), by rw [← prodL_app, List.take_append_drop]⟩
theorem mem_dvd {l : List Pol} {i : Nat} {x : Pol} (h : l[i]? = some x) : x ∣ prodL l := by
 refine Poly.dvd_trans ⟨prodL (l.take i), ?_⟩ (prodL_dvd (l := l) (i + 1))
 rw [prodL_take h]; grind
theorem prodP_dvd {l : List Pol} {i k : Nat} {x : Pol} (h : l[i]? = some x) (hk : k ≤ i + 1) : prodP (l.take i) 0 * x ^ k ∣ prodP l 0 := by
 refine Poly.dvd_trans (q := prodP (l.take (i + 1)) 0) ⟨x ^ (i + 1 - k), ?_⟩ ⟨prodP (l.drop (i + 1)) (i + 1), ?_⟩
 ·rw [prodP_take h, show i + 1 = k + (i + 1 - k) by omega, pow_add', show k + (i + 1 - k) - k = i + 1 - k by omega]
  generalize x ^ k = A; generalize x ^ (i + 1 - k) = B; grind
 ·have hi := (List.getElem?_eq_some_iff.1 h).1
  have := prodP_app (l.take (i + 1)) (l.drop (i + 1)) 0
  rw [List.take_append_drop, List.length_take, Nat.min_eq_left (by omega), Nat.zero_add] at this; exact this
theorem pow_len {x : Pol} (h : 1 < x.len) : ∀ k : Nat, k + 1 ≤ (x ^ k).len
 | 0 => by rw [Poly.pow_z, Poly.one_len]; omega
 | k + 1 => by
  have hx : x ≠ 0 := fun e => by rw [e, Poly.len_zero] at h; omega
  rw [Poly.pow_s, (Poly.len_mul (pow_ne hx k) hx).1]
  have := pow_len h k
  omega
theorem prodP_len : ∀ {l : List Pol} {s : Nat}, l ≠ [] → (∀ x ∈ l, Poly.Mon x) → (∀ x, l.getLast? = some x → 1 < x.len) → s + l.length + 1 ≤ (prodP l s).len
 | [], s, h, _, _ => absurd rfl h
 | [x], s, _, hm, hl => by
  have h1 := pow_len (hl x rfl) (s + 1)
  simp only [prodP, List.length_cons, List.length_nil]
  rw [show x ^ (s + 1) * (1 : Pol) = x ^ (s + 1) by generalize x ^ (s + 1) = X; grind]
  omega
 | x :: y :: l, s, _, hm, hl => by
  have h1 := prodP_len (l := y :: l) (s := s + 1) (by simp) (fun z hz => hm z (by simp [List.mem_cons.1 hz])) (fun z hz => hl z (by rw [List.getLast?_cons_cons]; exact hz))
  have h2 := mon_prodP (l := y :: l) (s := s + 1) (fun z hz => hm z (by simp [List.mem_cons.1 hz]))
  have h3 := (mon_pow (hm x (by simp)) (s + 1)).ne
  rw [prodP, (Poly.len_mul h3 h2.ne).1]
  have h4 := Poly.len_pos h3
  simp only [List.length_cons] at h1 ⊢
  omega
theorem sb_dvd {p f : Pol} (hp : SB 66 13 p) (p0 : p ≠ 0) (hf : f ∣ p) (hm : Poly.Mon f) : SB 1847 13 f :=
 ⟨(hp.c.dvd p0 (by have := hp.l; omega) hf hm).le (by have := hp.l; omega), Nat.le_trans (Poly.dvd_len hf p0) hp.l⟩
theorem pot13 : ∀ a, a < 14 → ∀ b, b < 14 → (a - b + 2) * 3 ^ b ≤ 3188646 := by decide +kernel
theorem isSqT {a : Pol} (h : SB 1847 13 a) (hc : Cop a a.deriv) : FnP Tryz.prog tb F_ref03_IsSquarefree [encP a] (.b true) := by
 have hd := h.deriv (by decide)
 have hl := h.l
 have hdl := hd.l
 have := ref03_IsSquarefree a a.deriv (ref03_Deriv a (h.c.pb.le (by decide))) (K := 1849 * 3188646) (EB.init h.c.monic hd.c.monic (by
  rw [Poly.monic_len, Poly.monic_len, Nat.mul_assoc]
  exact Nat.mul_le_mul (by decide) (pot13 a.len (by omega) a.deriv.len (by omega)))) 13 hl hdl (by decide) (by decide) (h.c.pb.le (by decide)) (hd.c.pb.le (by decide))
 rw [hc.gcd, decide_eq_true (Poly.one_len)] at this; exact this
theorem ref03_IsP (p : Pol) (hB : PB 274877906944 p) : FnP Tryz.prog tb F_ref03_Is [encP p] (.b true) := by
 have := ref03_Is p.c (pc_bq hB)
 rw [decide_eq_true p.can] at this; exact this
theorem encPs_atn {l : List Pol} {n : Int} {i : Nat} {x : Pol} (e : n.toNat = i) (h : l[i]? = some x) : (l.map encP)[n.toNat]? = some (encP x) := by rw [e]; simp [h]
theorem encPs_len {l : List Pol} : (l.map encP).length = l.length := List.length_map _
theorem gbF {a b : Int} (h : a ≠ b) : ((a == b) == true) = false := by rw [beq_eq_false_iff_ne.2 h]; rfl
theorem gbG {a b : Int} (h : a ≠ b) : ((a == b) == false) = true := by rw [beq_eq_false_iff_ne.2 h]; rfl
theorem squarefree0 {p : Pol} (h : p = 0) : FnP Tryz.prog tb F_qpoly_Squarefree [encP p] (.tu [encQI 0 0, .sl T_L_Rat [], .i .i64 5]) := by
 subst h; rw [encP_0]; exact qpoly_SquarefreeZ
theorem law_Squarefree (p : List RQ) (hp : WR p) : FnP Tryz.prog tb F_law03_QpolySquarefree [encRs p] (.b true) := by
 refine fn1 Tryz.func7 fun G hG hK hF => ?_
 refine rr ?_
 refine oa ?_
 refine wo_nil ?_
 refine wp_s ?_
 rcases bool1 (fewB p 12 3) with h1 | h1
 ·refine rr ?_
  refine om ?_
  refine oq (.callR (yb := asc (.inl rfl) as2) (yc := few_F p hp 12 3 (by decide) (by decide) h1)) ?_
  refine oq .notR ?_
  refine wo_nil ?_
  refine wp_cT rfl (by rfl) ?_
  refine rr ?_
  refine oq (.callR (yb := asn) (yc := law03_sane)) ?_
  refine oa ?_
  refine wo_nil ?_
  refine wp_rt ?_
  refine then_ret ?_
  exact ⟨.inr rfl, rfl, (by (refine res_t rfl ?_); (rfl)), trivial⟩
 ·obtain ⟨p, rfl, hpl, hpB⟩ := few_pol hp h1 (by decide)
  rw [encRs_raw]
  have hpc : p.len = p.c.length := rfl
  refine rr ?_
  refine om ?_
  refine oq (.callR (yb := asc (.inl rfl) as2) (yc := few_T p 12 3 (by decide) (by decide) h1)) ?_
  refine oq .notR ?_
  refine wo_nil ?_
  refine wp_cF rfl (by rfl) ?_
  refine wp_k ?_
  refine then_n ?_
  rcases (show p = 0 ∨ p ≠ 0 from Classical.em _) with h0 | h0
  ·have hp0 : p.c.length = 0 := by rw [pol_nil.2 h0]; rfl
   refine rr ?_
   refine om ?_
   refine oq (.callR (yb := as1) (yc := squarefree0 h0)) ?_
   refine om ?_
   refine oq .extractR ?_
   refine oq .extractR ?_
   refine oq .extractR ?_
   refine on' .allocR ?_
   refine oe (.storeR (ye := by decide) (yg := .inl rfl)) ?_
   refine oa ?_
   refine oa ?_
   refine wo_nil ?_
   refine wp_s ?_
   refine rr ?_
   refine om ?_
   refine oq (.lenR (yc := .inl rfl) (yd := by exact encQs_len)) ?_
   refine oq .cmpR ?_
   refine wo_nil ?_
   refine wp_cT rfl (by exact beq_iff_eq.2 (by omega)) ?_
   refine rr ?_
   refine oq (.callR (yb := asn) (yc := law03_sane)) ?_
   refine om ?_
   refine gq .moveR ?_
   refine gq .cmpR ?_
   refine oq (.pickT rfl (by rfl) rfl) ?_
   refine oa ?_
   refine wo_nil ?_
   refine wp_rt ?_
   refine then_ret ?_
   exact ⟨.inr rfl, rfl, (by (refine res_t rfl ?_); (rfl)), trivial⟩
  ·have sp : SB 66 13 p := SB.of hpB hpl
   have hcall := qpoly_Squarefree p h0 sp.c (by decide) sp.l
   obtain ⟨a, g, hS, hag, hcop⟩ := sqf_is p h0
   generalize p.sqf = L at *
   have hpp := Poly.len_pos h0
   have hlead : Poly.cst p.lead * p.monic = p := by have := Poly.cst_inv (Poly.lead_ne h0); rw [Poly.monic]; generalize Poly.cst (1 / p.lead) = c1 at *; generalize Poly.cst p.lead = c2 at *; grind
   have hmd := (Poly.monic_dvd p).1
   have had : a ∣ p := Poly.dvd_trans ⟨g, hag.symm⟩ hmd
   have hqd : prodP L 0 ∣ p := by rw [hS.q, hag]; exact hmd
   have hLl : (L.length : Int) ≤ p.len - 1 := by
    by_cases hL : L = []
    ·subst hL; simp; omega
    ·have h9 := prodP_len (s := 0) hL hS.m hS.z; have h8 := Poly.dvd_len hqd h0; omega
   have hmt : ∀ i, ∀ x ∈ L.take i, Poly.Mon x := fun i x hx => hS.m x (List.mem_of_mem_take hx)
   have hbl : Bq 3 p.lead := hpB.lead
   refine rr ?_
   refine om ?_
   refine oq (.callR (yb := as1) (yc := hcall)) ?_
   refine om ?_
   refine oq .extractR ?_
   refine oq .extractR ?_
   refine oq .extractR ?_
   refine on' .allocR ?_
   refine oe (.storeR (ye := by decide) (yg := .inl rfl)) ?_
   refine oa ?_
   refine oa ?_
   refine wo_nil ?_
   refine wp_s ?_
   refine rr ?_
   refine om ?_
   refine oq (.lenR (yc := .inl rfl) (yd := by exact encQs_len)) ?_
   refine oq .cmpR ?_
   refine wo_nil ?_
   refine wp_cF rfl (by exact beq_eq_false_iff_ne.2 (by omega)) ?_
   refine wp_k ?_
   refine then_n ?_
   refine wp_s ?_
   refine wp_d tbOk hF mixed hG [] (by kernel_rfl) ?_
   refine dq .moveR ?_
   refine dq .cmpR ?_
   refine dq .moveR ?_
   refine wd_gq rfl rfl rfl (by rfl) rfl rfl rfl (.loadPR (yd := by rfl)) ?_
   refine wd_gq rfl rfl rfl (by rfl) rfl rfl rfl .moveR ?_
   refine wd_gq rfl rfl rfl (by rfl) rfl rfl rfl (.callR (yb := as1) (yc := ref03_Lead p)) ?_
   refine wd_gq rfl rfl rfl (by rfl) rfl rfl rfl (.callR (yb := asc (.inl rfl) as1) (yc := same_Q _ _ rfl)) ?_
   refine wd_gq rfl rfl rfl (by rfl) rfl rfl rfl .notR ?_
   refine dq (.pickF rfl (by rfl) rfl) ?_
   refine dq .moveR ?_
   refine wd_gq rfl rfl rfl (by rfl) rfl rfl rfl .moveR ?_
   refine wd_gq rfl rfl rfl (by rfl) rfl rfl rfl (.lenR (yc := .inl rfl) (yd := by exact encPs_len)) ?_
   refine wd_gq rfl rfl rfl (by rfl) rfl rfl rfl .moveR ?_
   refine wd_gq rfl rfl rfl (by rfl) rfl rfl rfl (.callR (yb := as1) (yc := ref03_Deg p)) ?_
   refine wd_gq rfl rfl rfl (by rfl) rfl rfl rfl .cmpR ?_
   refine dq (.pickF rfl (by rfl) rfl) ?_
   refine wd_nil ?_
   refine wp_cF rfl (by exact decide_eq_false (by omega)) ?_
   refine wp_k ?_
   refine then_n ?_
   refine wp_d tbOk hF mixed hG [] (by kernel_rfl) ?_
   refine dq (.callR (yb := as1) (yc := ref02_Int 1 (by decide) (by decide))) ?_
   refine dq (.callR (yb := as1) (yc := ref03_Const _)) ?_
   refine dq (.loadPR (yd := by rfl)) ?_
   refine dq (.callR (yb := as1) (yc := ref03_Const p.lead)) ?_
   refine dq .assignR ?_
   refine dq .assignR ?_
   refine wd_nil ?_
   refine wp_s ?_
   refine rr ?_
   refine oa ?_
   refine wo_nil ?_
   refine wp_b ?_
   refine wp_l2 hK (krc 0 rfl (krc 4 rfl krn)) (khc 0 rfl khn) (fun sl' h' (i : Nat) => ⟨(6, .t (encP (prodL (L.take i)))) :: (7, .t (encP (Poly.cst p.lead * prodP (L.take i) 0))) :: (8, .t (.i .i64 (i))) :: sl', h', 1, 0⟩) (fun i => i ≤ L.length) (fun i => L.length - i) 0 ?_ (fun _ => rfl) ?_ ?_
   ·exact Nat.zero_le _
   ·exact imp_less (by repeat' (first | exact trivial | (refine And.intro (by first | rfl | exact gett rfl (congrArg encP (show Poly.cst p.lead = Poly.cst p.lead * (1 : Pol) by grind))) ?_))) ga (by exact Nat.le_of_ble_eq_true rfl)
   ·intro i hi
    refine wp_s ?_
    refine rr ?_
    refine om ?_
    refine om ?_
    refine oq (.lenR (yc := .inl rfl) (yd := by exact encPs_len)) ?_
    refine oq .cmpR ?_
    refine wo_nil ?_
    refine wp_c rfl (fun hc => ?_) (fun hc => ?_)
    ·have hci : i < L.length := by simpa using hc
     obtain ⟨x, hx⟩ : ∃ x, L[i]? = some x := ⟨_, List.getElem?_eq_getElem hci⟩
     have hxm := hS.m x (List.mem_of_getElem? hx)
     have hxd : x ∣ p := Poly.dvd_trans (by have := mem_dvd hx; rw [hS.p] at this; exact this) had
     have sx := sb_dvd sp h0 hxd hxm
     have sall := sb_dvd sp h0 (Poly.dvd_trans (by have := prodL_dvd (l := L) i; rw [hS.p] at this; exact this) had) (mon_prodL (hmt i))
     have hxl := Poly.dvd_len hxd h0
     have hx0 := Poly.len_pos hxm.ne
     have hxc : x.len = x.c.length := rfl
     refine wp_k ?_
     refine then_n ?_
     refine wp_s ?_
     refine wp_b ?_
     refine wp_s ?_
     refine rr ?_
     refine om ?_
     refine om ?_
     refine oq (.indexAddrR (yf := by omega) (yg := by exact encPs_atn (i := i) rfl hx)) ?_
     refine oq .loadR ?_
     refine oq (.callR (yb := as1) (yc := ref03_IsP x (sx.c.pb.le (by decide)))) ?_
     refine oq .notR ?_
     refine om ?_
     refine gq .moveR ?_
     refine gq .moveR ?_
     refine gq (.indexAddrR (yf := by omega) (yg := by exact encPs_atn (i := i) rfl hx)) ?_
     refine gq .loadR ?_
     refine gq (.lenR (yc := .inl rfl) (yd := by exact encQs_len)) ?_
     refine gq .cmpR ?_
     refine oq (.pickF rfl (by rfl) rfl) ?_
     refine om ?_
     refine gq (z := by exact gbG (by omega)) .moveR ?_
     refine gq (z := by exact gbG (by omega)) .moveR ?_
     refine gq (z := by exact gbG (by omega)) (.indexAddrR (yf := by omega) (yg := by exact encPs_atn (i := i) rfl hx)) ?_
     refine gq (z := by exact gbG (by omega)) .loadR ?_
     refine gq (z := by exact gbG (by omega)) (.lenR (yc := .inl rfl) (yd := by exact encQs_len)) ?_
     refine gq (z := by exact gbG (by omega)) .moveR ?_
     refine gq (z := by exact gbG (by omega)) (.lenR (yc := .inl rfl) (yd := by exact encQs_len)) ?_
     refine gq (z := by exact gbG (by omega)) .cmpR ?_
     refine oq (.pickF rfl (by exact gbF (by omega)) rfl) ?_
     refine om ?_
     refine gq (z := by exact gtF (by omega)) .moveR ?_
     refine gq (z := by exact gtF (by omega)) .moveR ?_
     refine gq (z := by exact gtF (by omega)) (.indexAddrR (yf := by omega) (yg := by exact encPs_atn (i := i) rfl hx)) ?_
     refine gq (z := by exact gtF (by omega)) .loadR ?_
     refine gq (z := by exact gtF (by omega)) (.callR (yb := as1) (yc := ref03_Lead x)) ?_
     refine gq (z := by exact gtF (by omega)) (.callR (yb := as1) (yc := ref02_Int 1 (by decide) (by decide))) ?_
     refine gq (z := by exact gtF (by omega)) (.callR (yb := asc (.inl rfl) as1) (yc := same_Q _ _ hxm)) ?_
     refine gq (z := by exact gtF (by omega)) .notR ?_
     refine oq (.pickF rfl (by exact gtS (by omega)) rfl) ?_
     refine wo_nil ?_
     refine wp_cF rfl (by rfl) ?_
     refine wp_k ?_
     refine then_n ?_
     refine rr ?_
     refine om ?_
     refine om ?_
     refine om ?_
     refine oq (.indexAddrR (yf := by omega) (yg := by exact encPs_atn (i := i) rfl hx)) ?_
     refine oq .loadR ?_
     refine oq (.callR (yb := asc (.inl rfl) as1) (yc := rmulS sall sx)) ?_
     refine oa ?_
     refine wo_nil ?_
     refine rr ?_
     refine oa ?_
     refine wo_nil ?_
     refine wp_b ?_
     refine wp_l2 hK (krc 0 rfl (krc 4 rfl (krc 6 rfl (krc 8 rfl krn)))) (khc 0 rfl khn) (fun sl' h' (k : Nat) => ⟨(7, .t (encP (Poly.cst p.lead * (prodP (L.take i) 0 * x ^ k)))) :: (9, .t (.i .i64 (k))) :: sl', h', 1, 0⟩) (fun k => k ≤ i + 1) (fun k => i + 1 - k) 0 ?_ (fun _ => rfl) ?_ ?_
     ·exact Nat.zero_le _
     ·exact imp_less (by repeat' (first | exact trivial | (refine And.intro (by first | rfl | exact gett rfl (congrArg encP (show Poly.cst p.lead * prodP (L.take i) 0 = Poly.cst p.lead * (prodP (L.take i) 0 * (1 : Pol)) by grind))) ?_))) ga (by exact Nat.le_of_ble_eq_true rfl)
     ·rintro k hk
      refine wp_s ?_
      refine rr ?_
      refine om ?_
      refine om ?_
      refine oq .cmpR ?_
      refine wo_nil ?_
      refine wp_c rfl (fun hc => ?_) (fun hc => ?_)
      ·have hck : k ≤ i := by simpa using hc
       have hprd : ∀ k, k ≤ i + 1 → SB 1850 13 (Poly.cst p.lead * (prodP (L.take i) 0 * x ^ k)) := fun k hk => by
        have h9 := sb_dvd sp h0 (Poly.dvd_trans (prodP_dvd hx hk) hqd) ((mon_prodP (hmt i)).mul (mon_pow hxm k))
        refine ⟨h9.c.scale hbl, ?_⟩
        rw [(Poly.len_mul (Poly.cst_ne (Poly.lead_ne h0)) ((mon_prodP (hmt i)).mul (mon_pow hxm k)).ne).1, Poly.len_cst_ne (Poly.lead_ne h0)]
        have := h9.l; omega
       have hnx : Poly.cst p.lead * (prodP (L.take i) 0 * x ^ k) * x = Poly.cst p.lead * (prodP (L.take i) 0 * x ^ (k + 1)) := by rw [Poly.pow_s]; generalize x ^ k = X; grind
       have hnl : (Poly.cst p.lead * (prodP (L.take i) 0 * x ^ (k + 1))).len ≤ p.len := by
        have h9 := Poly.dvd_len (Poly.dvd_trans (prodP_dvd hx (show k + 1 ≤ i + 1 by omega)) hqd) h0
        rw [(Poly.len_mul (Poly.cst_ne (Poly.lead_ne h0)) ((mon_prodP (hmt i)).mul (mon_pow hxm (k + 1))).ne).1, Poly.len_cst_ne (Poly.lead_ne h0)]
        omega
       have hnc : (Poly.cst p.lead * (prodP (L.take i) 0 * x ^ (k + 1))).len = (Poly.cst p.lead * (prodP (L.take i) 0 * x ^ (k + 1))).c.length := rfl
       refine wp_k ?_
       refine then_n ?_
       refine wp_s ?_
       refine wp_b ?_
       refine rr ?_
       refine om ?_
       refine om ?_
       refine om ?_
       refine oq (.indexAddrR (yf := by omega) (yg := by exact encPs_atn (i := i) rfl hx)) ?_
       refine oq .loadR ?_
       refine oq (.callR (yb := asc (.inl rfl) as1) (yc := rmulS (hprd k hk) sx)) ?_
       refine oa ?_
       refine wo_nil ?_
       rw [hnx]
       refine rr ?_
       refine om ?_
       refine oq (.lenR (yc := .inl rfl) (yd := by exact encQs_len)) ?_
       refine om ?_
       refine oq (.lenR (yc := .inl rfl) (yd := by exact encQs_len)) ?_
       refine oq .cmpR ?_
       refine wo_nil ?_
       refine wp_cF rfl (by exact decide_eq_false (by omega)) ?_
       refine wp_k ?_
       refine blk_n ?_
       refine then_n ?_
       refine rr0 ?_
       refine om ?_
       refine oq (.arithR (yd := by exact wrap_i64 (by omega))) ?_
       refine oa ?_
       refine wo_nil ?_
       exact round_n (k + 1) (by omega) (by omega) (by exact il)
      ·have hck : k = i + 1 := by { have : ¬ k ≤ i := (by simpa using hc); omega }
       subst hck
       refine wp_x ?_
       refine then_exit ?_
       refine round_exit ?_
       refine blk_hit ?_
       refine blk_n ?_
       refine then_n ?_
       refine rr0 ?_
       refine om ?_
       refine oq (.arithR (yd := by exact wrap_i64 (by omega))) ?_
       refine oa ?_
       refine wo_nil ?_
       exact round_n (i + 1) (by omega) (by omega) (by exact imp_less (by repeat' (first | exact trivial | (refine And.intro (by first | rfl | exact gett rfl (by rw [prodL_take hx]) | exact gett rfl (by rw [prodP_take hx])) ?_))) (by repeat' (first | exact trivial | (refine And.intro (by rfl) ?_))) (by exact Nat.le_of_ble_eq_true rfl))
    ·have hci : i = L.length := by { have : ¬ i < L.length := (by simpa using hc); omega }
     rw [hci, List.take_length, hS.p, hS.q, hag, hlead]
     refine wp_x ?_
     refine then_exit ?_
     refine round_exit ?_
     refine blk_hit ?_
     refine then_n ?_
     rcases (show L = [] ∨ L ≠ [] from Classical.em _) with g1 | g1
     ·subst g1
      refine rr ?_
      refine om ?_
      refine oq (.lenR (yc := .inl rfl) (yd := by rfl)) ?_
      refine oq .cmpR ?_
      refine om ?_
      refine gs ?_
      refine gs ?_
      refine gs ?_
      refine gs ?_
      refine gs ?_
      refine gs ?_
      refine gs ?_
      refine gs ?_
      refine oq (.pickT rfl (by rfl) rfl) ?_
      refine oa ?_
      refine wo_nil ?_
      refine rr ?_
      refine oq (.callR (yb := asn) (yc := law03_sane)) ?_
      refine om ?_
      refine gq .moveR ?_
      refine oq (.pickT rfl (by rfl) rfl) ?_
      refine om ?_
      refine gq .moveR ?_
      refine gq .moveR ?_
      refine gq (.callR (yb := asc (.inl rfl) as1) (yc := same_P _ _ rfl)) ?_
      refine oq (.pickT rfl (by rfl) rfl) ?_
      refine om ?_
      refine gq .moveR ?_
      refine gq (.callR (yb := as1) (yc := isSqT (sb_dvd sp h0 had (by rw [← hS.p]; exact mon_prodL hS.m)) hcop)) ?_
      refine oq (.pickT rfl (by rfl) rfl) ?_
      refine oa ?_
      refine wo_nil ?_
      refine wp_rt ?_
      exact ⟨.inr rfl, rfl, (by (refine res_t rfl ?_); (rfl)), trivial⟩
     ·obtain ⟨y, hy⟩ : ∃ y, L.getLast? = some y := ⟨_, List.getLast?_eq_some_getLast g1⟩
      have hyl := hS.z y hy
      rw [List.getLast?_eq_getElem?] at hy
      have hLp := List.length_pos_iff.2 g1
      refine rr ?_
      refine om ?_
      refine oq (.lenR (yc := .inl rfl) (yd := by exact encPs_len)) ?_
      refine oq .cmpR ?_
      refine om ?_
      refine gq (z := by exact gbG (by omega)) .moveR ?_
      refine gq (z := by exact gbG (by omega)) .moveR ?_
      refine gq (z := by exact gbG (by omega)) (.lenR (yc := .inl rfl) (yd := by exact encPs_len)) ?_
      refine gq (z := by exact gbG (by omega)) (.arithR (yd := by exact wrap_i64 (by omega))) ?_
      refine gq (z := by exact gbG (by omega)) (.indexAddrR (yf := by omega) (yg := by exact encPs_atn (i := L.length - 1) (by omega) hy)) ?_
      refine gq (z := by exact gbG (by omega)) .loadR ?_
      refine gq (z := by exact gbG (by omega)) (.callR (yb := as1) (yc := ref03_Deg y)) ?_
      refine gq (z := by exact gbG (by omega)) .cmpR ?_
      refine oq (.pickF rfl (by exact gbF (by omega)) rfl) ?_
      refine oa ?_
      refine wo_nil ?_
      refine rr ?_
      refine oq (.callR (yb := asn) (yc := law03_sane)) ?_
      refine om ?_
      refine gq .moveR ?_
      refine oq (.pickT rfl (by rfl) rfl) ?_
      refine om ?_
      refine gq (z := by exact gtT (by omega)) .moveR ?_
      refine gq (z := by exact gtT (by omega)) .moveR ?_
      refine gq (z := by exact gtT (by omega)) (.callR (yb := asc (.inl rfl) as1) (yc := same_P _ _ rfl)) ?_
      refine oq (.pickT rfl (by exact gtT (by omega)) rfl) ?_
      refine om ?_
      refine gq .moveR ?_
      refine gq (.callR (yb := as1) (yc := isSqT (sb_dvd sp h0 had (by rw [← hS.p]; exact mon_prodL hS.m)) hcop)) ?_
      refine oq (.pickT rfl (by rfl) rfl) ?_
      refine oa ?_
      refine wo_nil ?_
      refine wp_rt ?_
      exact ⟨.inr rfl, rfl, (by (refine res_t rfl ?_); (rfl)), trivial⟩
end Go.Proofs.YtacenhlcfeepgaaGreat
