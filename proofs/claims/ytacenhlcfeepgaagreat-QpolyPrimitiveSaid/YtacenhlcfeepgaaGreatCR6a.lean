/- The law is true whatever its arguments are, and these read behind the call as they read before (the row R6: what it needs beyond the files A; No conditions). -/
import Derived.Test.YtacenhlcfeepgaaGreatA6
import Derived.KernelRfl
set_option linter.unusedVariables false
set_option linter.unusedSimpArgs false
set_option linter.unusedSectionVars false
set_option maxHeartbeats 4000000
set_option maxRecDepth 100000
namespace Go.Proofs.YtacenhlcfeepgaaGreat.Eng
open Go
theorem sy (n : Nat) {A B : Prop} (hA : A) (f : Fu n → Hd A → B := by
  intro f h
  repeat
    refine fuS f (fun f => ?_)
    first
    | with_reducible refine wo_nil ?_
    | with_reducible refine wd_nil ?_
    | with_reducible refine then_n ?_
    | with_reducible refine then_ret ?_
    | with_reducible refine then_exit ?_
    | with_reducible refine blk_n ?_
    | with_reducible refine blk_hit ?_
    | with_reducible refine blk_ret ?_
    | with_reducible refine round_exit ?_
    | with_reducible refine round_ret ?_
    | (with_reducible refine isWP ?_
       first
       | refine rr ?_
       | refine rr0 ?_
       | refine wp_r tbOk hF2 hG2 rfl ?_
       | refine wp_r tbOk hF1 hG1 rfl ?_
       | refine wp_r0 tbOk hF2 hG2 rfl ?_
       | refine wp_r0 tbOk hF1 hG1 rfl ?_
       | refine wp_d tbOk hF mixed hG [] (by kernel_rfl) ?_
       | refine wp_d0 tbOk hF mixed hG [] (by kernel_rfl) ?_
       | refine wp_s ?_
       | refine wp_k ?_
       | refine wp_b ?_
       | refine wp_rt ?_
       | refine wp_x ?_
       | refine wp_lb ?_)
    | refine om ?_
    | refine oa ?_
    | ((first
        | refine wqE rfl rfl ?_
        | refine dqE rfl rfl rfl rfl ?_
        | (refine isGO (by rfl) ?_
           first
           | refine wo_gs rfl rfl rfl (by first | ((simp; omega)) | fail) rfl ?_
           | refine gqE rfl rfl rfl (by first | ((simp; omega)) | fail) rfl ?_
           | refine wo_gs rfl rfl rfl rfl rfl ?_
           | refine gqE rfl rfl rfl rfl rfl ?_
           | refine wo_gs rfl rfl rfl (by rfl) rfl ?_
           | refine gqE rfl rfl rfl (by rfl) rfl ?_
           | refine wo_gs rfl rfl rfl (by first | ((simp; done)) | fail) rfl ?_
           | refine gqE rfl rfl rfl (by first | ((simp; done)) | fail) rfl ?_
           | refine wo_gs rfl rfl rfl (by first | ((simp [h1]; done)) | fail) rfl ?_
           | refine gqE rfl rfl rfl (by first | ((simp [h1]; done)) | fail) rfl ?_
           | refine wo_gs rfl rfl rfl (by first | ((simp [h0]; done)) | fail) rfl ?_
           | refine gqE rfl rfl rfl (by first | ((simp [h0]; done)) | fail) rfl ?_
           | refine wo_gs rfl rfl rfl (by first | (simp [hs]; done) | fail) rfl ?_
           | refine gqE rfl rfl rfl (by first | (simp [hs]; done) | fail) rfl ?_
           | refine wo_gs rfl rfl rfl (by (rw [c1]; rfl)) rfl ?_
           | refine gqE rfl rfl rfl (by (rw [c1]; rfl)) rfl ?_
           | refine wo_gs rfl rfl rfl (by (rw [c2]; rfl)) rfl ?_
           | refine gqE rfl rfl rfl (by (rw [c2]; rfl)) rfl ?_
           | refine wo_gs rfl rfl rfl (by first | (simp [ht]; done) | fail) rfl ?_
           | refine gqE rfl rfl rfl (by first | (simp [ht]; done) | fail) rfl ?_
           | refine wo_gs rfl rfl rfl (by (rw [← hpl, h1]; rfl)) rfl ?_
           | refine gqE rfl rfl rfl (by (rw [← hpl, h1]; rfl)) rfl ?_
           | refine wo_gs rfl rfl rfl (by first | (simp; done) | fail) rfl ?_
           | refine gqE rfl rfl rfl (by first | (simp; done) | fail) rfl ?_
           | refine wo_gs rfl rfl rfl (by first | (simp [isW_enc]; done) | fail) rfl ?_
           | refine gqE rfl rfl rfl (by first | (simp [isW_enc]; done) | fail) rfl ?_
           | refine wo_gs rfl rfl rfl (by first | (simp [h1]; done) | fail) rfl ?_
           | refine gqE rfl rfl rfl (by first | (simp [h1]; done) | fail) rfl ?_
           | refine wo_gs rfl rfl rfl (by first | (simp; omega) | fail) rfl ?_
           | refine gqE rfl rfl rfl (by first | (simp; omega) | fail) rfl ?_
           | refine wo_gs rfl rfl rfl (by first | (simp [ha]; done) | fail) rfl ?_
           | refine gqE rfl rfl rfl (by first | (simp [ha]; done) | fail) rfl ?_
           | refine wo_gs rfl rfl rfl (by subst h0; rfl) rfl ?_
           | refine gqE rfl rfl rfl (by subst h0; rfl) rfl ?_
           | refine wo_gs rfl rfl rfl (by first | ((simp [hs]; done)) | fail) rfl ?_
           | refine gqE rfl rfl rfl (by first | ((simp [hs]; done)) | fail) rfl ?_
           | refine wo_gs rfl rfl rfl (by exact gtT g1) rfl ?_
           | refine gqE rfl rfl rfl (by exact gtT g1) rfl ?_
           | refine wo_gs rfl rfl rfl (by (rw [show ((((digits z.natAbs).getD 0 0 : Nat) : Int) == 1) = false from beq_eq_false_iff_ne.2 (by omega)]; rfl)) rfl ?_
           | refine gqE rfl rfl rfl (by (rw [show ((((digits z.natAbs).getD 0 0 : Nat) : Int) == 1) = false from beq_eq_false_iff_ne.2 (by omega)]; rfl)) rfl ?_
           | refine wo_gs rfl rfl rfl (by (rw [show ((((digits z.natAbs).getD 0 0 : Nat) : Int) == 1) = true from beq_iff_eq.2 (by omega)]; rfl)) rfl ?_
           | refine gqE rfl rfl rfl (by (rw [show ((((digits z.natAbs).getD 0 0 : Nat) : Int) == 1) = true from beq_iff_eq.2 (by omega)]; rfl)) rfl ?_
           | refine wo_gs rfl rfl rfl (by first | ((simp [hg]; done)) | fail) rfl ?_
           | refine gqE rfl rfl rfl (by first | ((simp [hg]; done)) | fail) rfl ?_
           | refine wo_gs rfl rfl rfl (by exact gtS g1) rfl ?_
           | refine gqE rfl rfl rfl (by exact gtS g1) rfl ?_
           | refine wo_gs rfl rfl rfl (by exact gtS g2) rfl ?_
           | refine gqE rfl rfl rfl (by exact gtS g2) rfl ?_
           | refine wo_gs rfl rfl rfl (by exact gtT g2) rfl ?_
           | refine gqE rfl rfl rfl (by exact gtT g2) rfl ?_
           | refine wo_gs rfl rfl rfl (by first | (simp [hx]; done) | fail) rfl ?_
           | refine gqE rfl rfl rfl (by first | (simp [hx]; done) | fail) rfl ?_
           | refine wo_gs rfl rfl rfl (by first | (simp [hi]; done) | fail) rfl ?_
           | refine gqE rfl rfl rfl (by first | (simp [hi]; done) | fail) rfl ?_
           | refine wo_gs rfl rfl rfl (by (rw [h]; rfl)) rfl ?_
           | refine gqE rfl rfl rfl (by (rw [h]; rfl)) rfl ?_
           | refine wo_gs rfl rfl rfl (by subst hp0; rw [pol_nil.2 rfl]; rfl) rfl ?_
           | refine gqE rfl rfl rfl (by subst hp0; rw [pol_nil.2 rfl]; rfl) rfl ?_
           | refine wo_gs rfl rfl rfl (by first | (have h := mt pol_nil.1 hp0; (simp [h]; done)) | fail) rfl ?_
           | refine gqE rfl rfl rfl (by first | (have h := mt pol_nil.1 hp0; (simp [h]; done)) | fail) rfl ?_
           | refine wo_gs rfl rfl rfl (by (rw [pol_nil.2 hp]; rfl)) rfl ?_
           | refine gqE rfl rfl rfl (by (rw [pol_nil.2 hp]; rfl)) rfl ?_
           | refine wo_gs rfl rfl rfl (by first | ((have := mt pol_nil.1 hp; simp [this]; done)) | fail) rfl ?_
           | refine gqE rfl rfl rfl (by first | ((have := mt pol_nil.1 hp; simp [this]; done)) | fail) rfl ?_
           | refine wo_gs rfl rfl rfl (by first | ((simp [hpc]; done)) | fail) rfl ?_
           | refine gqE rfl rfl rfl (by first | ((simp [hpc]; done)) | fail) rfl ?_
           | refine wo_gs rfl rfl rfl (by exact beq_iff_eq.2 (beq_iff_eq.2 hm)) rfl ?_
           | refine gqE rfl rfl rfl (by exact beq_iff_eq.2 (beq_iff_eq.2 hm)) rfl ?_
           | refine wo_gs rfl rfl rfl (by first | ((simp [hm]; done)) | fail) rfl ?_
           | refine gqE rfl rfl rfl (by first | ((simp [hm]; done)) | fail) rfl ?_
           | refine wo_gs rfl rfl rfl (by rw [hz]; rfl) rfl ?_
           | refine gqE rfl rfl rfl (by rw [hz]; rfl) rfl ?_
           | refine wo_gs rfl rfl rfl (by exact gbG (by omega)) rfl ?_
           | refine gqE rfl rfl rfl (by exact gbG (by omega)) rfl ?_
           | refine wo_gs rfl rfl rfl (by exact gtT (by omega)) rfl ?_
           | refine gqE rfl rfl rfl (by exact gtT (by omega)) rfl ?_
           | refine wo_gs rfl rfl rfl (by exact gtF (by omega)) rfl ?_
           | refine gqE rfl rfl rfl (by exact gtF (by omega)) rfl ?_
           | refine wo_gs rfl rfl rfl (by exact gtS (by omega)) rfl ?_
           | refine gqE rfl rfl rfl (by exact gtS (by omega)) rfl ?_)
        | (refine isGD (by rfl) ?_
           first
           | refine wd_gs rfl rfl rfl (by first | ((simp; omega)) | fail) rfl rfl rfl ?_
           | refine dgE rfl rfl rfl (by first | ((simp; omega)) | fail) rfl rfl rfl ?_
           | refine wd_gs rfl rfl rfl rfl rfl rfl rfl ?_
           | refine dgE rfl rfl rfl rfl rfl rfl rfl ?_
           | refine wd_gs rfl rfl rfl (by rfl) rfl rfl rfl ?_
           | refine dgE rfl rfl rfl (by rfl) rfl rfl rfl ?_
           | refine wd_gs rfl rfl rfl (by first | ((simp; done)) | fail) rfl rfl rfl ?_
           | refine dgE rfl rfl rfl (by first | ((simp; done)) | fail) rfl rfl rfl ?_
           | refine wd_gs rfl rfl rfl (by first | ((simp [h1]; done)) | fail) rfl rfl rfl ?_
           | refine dgE rfl rfl rfl (by first | ((simp [h1]; done)) | fail) rfl rfl rfl ?_
           | refine wd_gs rfl rfl rfl (by first | ((simp [h0]; done)) | fail) rfl rfl rfl ?_
           | refine dgE rfl rfl rfl (by first | ((simp [h0]; done)) | fail) rfl rfl rfl ?_
           | refine wd_gs rfl rfl rfl (by first | (simp [hs]; done) | fail) rfl rfl rfl ?_
           | refine dgE rfl rfl rfl (by first | (simp [hs]; done) | fail) rfl rfl rfl ?_
           | refine wd_gs rfl rfl rfl (by (rw [c1]; rfl)) rfl rfl rfl ?_
           | refine dgE rfl rfl rfl (by (rw [c1]; rfl)) rfl rfl rfl ?_
           | refine wd_gs rfl rfl rfl (by (rw [c2]; rfl)) rfl rfl rfl ?_
           | refine dgE rfl rfl rfl (by (rw [c2]; rfl)) rfl rfl rfl ?_
           | refine wd_gs rfl rfl rfl (by first | (simp [ht]; done) | fail) rfl rfl rfl ?_
           | refine dgE rfl rfl rfl (by first | (simp [ht]; done) | fail) rfl rfl rfl ?_
           | refine wd_gs rfl rfl rfl (by (rw [← hpl, h1]; rfl)) rfl rfl rfl ?_
           | refine dgE rfl rfl rfl (by (rw [← hpl, h1]; rfl)) rfl rfl rfl ?_
           | refine wd_gs rfl rfl rfl (by first | (simp; done) | fail) rfl rfl rfl ?_
           | refine dgE rfl rfl rfl (by first | (simp; done) | fail) rfl rfl rfl ?_
           | refine wd_gs rfl rfl rfl (by first | (simp [isW_enc]; done) | fail) rfl rfl rfl ?_
           | refine dgE rfl rfl rfl (by first | (simp [isW_enc]; done) | fail) rfl rfl rfl ?_
           | refine wd_gs rfl rfl rfl (by first | (simp [h1]; done) | fail) rfl rfl rfl ?_
           | refine dgE rfl rfl rfl (by first | (simp [h1]; done) | fail) rfl rfl rfl ?_
           | refine wd_gs rfl rfl rfl (by first | (simp; omega) | fail) rfl rfl rfl ?_
           | refine dgE rfl rfl rfl (by first | (simp; omega) | fail) rfl rfl rfl ?_
           | refine wd_gs rfl rfl rfl (by first | (simp [ha]; done) | fail) rfl rfl rfl ?_
           | refine dgE rfl rfl rfl (by first | (simp [ha]; done) | fail) rfl rfl rfl ?_
           | refine wd_gs rfl rfl rfl (by subst h0; rfl) rfl rfl rfl ?_
           | refine dgE rfl rfl rfl (by subst h0; rfl) rfl rfl rfl ?_
           | refine wd_gs rfl rfl rfl (by first | ((simp [hs]; done)) | fail) rfl rfl rfl ?_
           | refine dgE rfl rfl rfl (by first | ((simp [hs]; done)) | fail) rfl rfl rfl ?_
           | refine wd_gs rfl rfl rfl (by exact gtT g1) rfl rfl rfl ?_
           | refine dgE rfl rfl rfl (by exact gtT g1) rfl rfl rfl ?_
           | refine wd_gs rfl rfl rfl (by (rw [show ((((digits z.natAbs).getD 0 0 : Nat) : Int) == 1) = false from beq_eq_false_iff_ne.2 (by omega)]; rfl)) rfl rfl rfl ?_
           | refine dgE rfl rfl rfl (by (rw [show ((((digits z.natAbs).getD 0 0 : Nat) : Int) == 1) = false from beq_eq_false_iff_ne.2 (by omega)]; rfl)) rfl rfl rfl ?_
           | refine wd_gs rfl rfl rfl (by (rw [show ((((digits z.natAbs).getD 0 0 : Nat) : Int) == 1) = true from beq_iff_eq.2 (by omega)]; rfl)) rfl rfl rfl ?_
           | refine dgE rfl rfl rfl (by (rw [show ((((digits z.natAbs).getD 0 0 : Nat) : Int) == 1) = true from beq_iff_eq.2 (by omega)]; rfl)) rfl rfl rfl ?_
           | refine wd_gs rfl rfl rfl (by first | ((simp [hg]; done)) | fail) rfl rfl rfl ?_
           | refine dgE rfl rfl rfl (by first | ((simp [hg]; done)) | fail) rfl rfl rfl ?_
           | refine wd_gs rfl rfl rfl (by exact gtS g1) rfl rfl rfl ?_
           | refine dgE rfl rfl rfl (by exact gtS g1) rfl rfl rfl ?_
           | refine wd_gs rfl rfl rfl (by exact gtS g2) rfl rfl rfl ?_
           | refine dgE rfl rfl rfl (by exact gtS g2) rfl rfl rfl ?_
           | refine wd_gs rfl rfl rfl (by exact gtT g2) rfl rfl rfl ?_
           | refine dgE rfl rfl rfl (by exact gtT g2) rfl rfl rfl ?_
           | refine wd_gs rfl rfl rfl (by first | (simp [hx]; done) | fail) rfl rfl rfl ?_
           | refine dgE rfl rfl rfl (by first | (simp [hx]; done) | fail) rfl rfl rfl ?_
           | refine wd_gs rfl rfl rfl (by first | (simp [hi]; done) | fail) rfl rfl rfl ?_
           | refine dgE rfl rfl rfl (by first | (simp [hi]; done) | fail) rfl rfl rfl ?_
           | refine wd_gs rfl rfl rfl (by (rw [h]; rfl)) rfl rfl rfl ?_
           | refine dgE rfl rfl rfl (by (rw [h]; rfl)) rfl rfl rfl ?_
           | refine wd_gs rfl rfl rfl (by subst hp0; rw [pol_nil.2 rfl]; rfl) rfl rfl rfl ?_
           | refine dgE rfl rfl rfl (by subst hp0; rw [pol_nil.2 rfl]; rfl) rfl rfl rfl ?_
           | refine wd_gs rfl rfl rfl (by first | (have h := mt pol_nil.1 hp0; (simp [h]; done)) | fail) rfl rfl rfl ?_
           | refine dgE rfl rfl rfl (by first | (have h := mt pol_nil.1 hp0; (simp [h]; done)) | fail) rfl rfl rfl ?_
           | refine wd_gs rfl rfl rfl (by (rw [pol_nil.2 hp]; rfl)) rfl rfl rfl ?_
           | refine dgE rfl rfl rfl (by (rw [pol_nil.2 hp]; rfl)) rfl rfl rfl ?_
           | refine wd_gs rfl rfl rfl (by first | ((have := mt pol_nil.1 hp; simp [this]; done)) | fail) rfl rfl rfl ?_
           | refine dgE rfl rfl rfl (by first | ((have := mt pol_nil.1 hp; simp [this]; done)) | fail) rfl rfl rfl ?_
           | refine wd_gs rfl rfl rfl (by first | ((simp [hpc]; done)) | fail) rfl rfl rfl ?_
           | refine dgE rfl rfl rfl (by first | ((simp [hpc]; done)) | fail) rfl rfl rfl ?_
           | refine wd_gs rfl rfl rfl (by exact beq_iff_eq.2 (beq_iff_eq.2 hm)) rfl rfl rfl ?_
           | refine dgE rfl rfl rfl (by exact beq_iff_eq.2 (beq_iff_eq.2 hm)) rfl rfl rfl ?_
           | refine wd_gs rfl rfl rfl (by first | ((simp [hm]; done)) | fail) rfl rfl rfl ?_
           | refine dgE rfl rfl rfl (by first | ((simp [hm]; done)) | fail) rfl rfl rfl ?_
           | refine wd_gs rfl rfl rfl (by rw [hz]; rfl) rfl rfl rfl ?_
           | refine dgE rfl rfl rfl (by rw [hz]; rfl) rfl rfl rfl ?_
           | refine wd_gs rfl rfl rfl (by exact gbG (by omega)) rfl rfl rfl ?_
           | refine dgE rfl rfl rfl (by exact gbG (by omega)) rfl rfl rfl ?_
           | refine wd_gs rfl rfl rfl (by exact gtT (by omega)) rfl rfl rfl ?_
           | refine dgE rfl rfl rfl (by exact gtT (by omega)) rfl rfl rfl ?_
           | refine wd_gs rfl rfl rfl (by exact gtF (by omega)) rfl rfl rfl ?_
           | refine dgE rfl rfl rfl (by exact gtF (by omega)) rfl rfl rfl ?_
           | refine wd_gs rfl rfl rfl (by exact gtS (by omega)) rfl rfl rfl ?_
           | refine dgE rfl rfl rfl (by exact gtS (by omega)) rfl rfl rfl ?_))
       first
       | (with_reducible refine isQX ?_
          first
          | refine qx .moveR ?_
          | refine qx .fieldAddrR ?_
          | refine qx .extractR ?_
          | refine qx (.boxR (yb := .inl rfl)) ?_
          | refine qx .notR ?_
          | refine qx .assignR ?_
          | refine qx (.fieldAddrPR (ye := by decide)) ?_
          | refine qx (.sliceOR (yf := ⟨_, rfl⟩) (yg := by omega) (yh := by omega) (yi := by omega) (yj := by omega)) ?_
          | refine qx (.fnR (ya := asc (.inl rfl) as1)) ?_
          | refine qx (.fnR (ya := as1)) ?_
          | refine qx (.sliceR (yd := .inl rfl) (yf := ⟨_, rfl⟩) (yg := by omega) (yh := by omega) (yi := by omega)) ?_
          | refine qx (.sliceR (yd := .inl rfl) (yf := ⟨_, rfl⟩) (yg := by omega) (yh := by omega) (yi := by (rw [List.length_map]; omega))) ?_
          | refine qx .complR ?_
          | refine qx (.cloR (ya := avc rfl (avn))) ?_
          | refine qx (.negR (yb := by exact wrap_i64 (by omega))) ?_
          | refine qx (.negR (yb := by exact wrap_i64 (n := 0 - (n : Int)) (by omega))) ?_
          | refine qx (.negR (yb := by exact (wrap_u64_mod.trans (by omega : _ = ((z.natAbs : Nat) : Int))))) ?_
          | (refine qload ?_
             first
             | refine qx .loadR ?_
             | refine qx (.loadPR (yd := by rfl)) ?_
             | refine qx .loadFR ?_
             | refine qx (.loadPR (yd := by (exact wds_own2 (i + j) (by omega) (by omega)))) ?_
             | refine qx (.loadPR (yd := by (exact wds_own2 i (by omega) (by omega)))) ?_
             | refine qx (.loadPR (yd := by (exact wds_own2 (i + b.length) (by omega) (by omega)))) ?_
             | refine qx (.loadPR (yd := by (exact rowsR_at (j + 1) (by omega) (sw_at (by omega))))) ?_
             | refine qx (.loadPR (yd := by (exact rowsR_at j (by omega) (sw_below (by omega) (by omega) hy)))) ?_)
          | (refine qbin ?_
             first
             | refine qx .cmpR ?_
             | refine qx (.arithR (yd := by exact wrap_i64 (by omega))) ?_
             | refine qx .neBR ?_
             | refine qx (.remR (yc := by omega) (yd := by exact tmodn)) ?_
             | refine qx (.arithR (yd := by exact wrap_u64 (by omega))) ?_
             | refine qx (.shlR (yc := by omega) (yd := by exact shl32 (by omega))) ?_
             | refine qx (.shrR (yc := by omega) (yd := by exact shr32)) ?_
             | refine qx .bitsR ?_
             | refine qx (.quoR (yc := by omega) (yd := by exact ((congrArg IntKind.i64.wrap (Int.ofNat_tdiv 4000 p.c.length).symm).trans (wrap_i64 (by have h9 := Nat.div_le_self 4000 p.c.length; generalize 4000 / p.c.length = t at *; omega))))) ?_
             | refine qx (.quoR (yc := by omega) (yd := by exact quo32 hs)) ?_
             | refine qx .eqBR ?_
             | refine qx (.remR (yc := by omega) (yd := by exact Int.tmod_eq_emod_of_nonneg (by omega))) ?_
             | refine qx (.arithR (yd := by exact (wrap_u64 (by omega)).trans (by omega : _ = ((a.getD i 0 * b.getD j 0 + o.getD (i + j) 0 + c : Nat) : Int)))) ?_
             | refine qx (.shrR (yc := by omega) (yd := by exact (shr32.trans (by omega : _ = (((a.getD i 0 * b.getD j 0 + o.getD (i + j) 0 + c) / 4294967296 : Nat) : Int))))) ?_
             | refine qx (.bitsR (yc := or64 (by omega) hw)) ?_
             | refine qx (.quoR (yc := by omega) (yd := by exact tdivn f1)) ?_
             | refine qx (.bitsR (yc := hor)) ?_
             | refine qx (.arithR (yd := by exact (wrap_u64 (by omega)).trans (by omega : _ = ((q - 1 : Nat) : Int)))) ?_
             | refine qx (.bitsR (yc := and32 (by omega))) ?_
             | refine qx (.shrR (yc := by omega) (yd := by exact shrn (k := s) (by show s ≤ 64; omega))) ?_
             | refine qx (.quoR (yc := by omega) (yd := by exact (congrArg IntKind.i64.wrap (Int.ofNat_tdiv n 2).symm).trans (wrap_i64 (by omega)))) ?_
             | refine qx (.arithR (yd := by exact wrap_i64 (n := 2 * min ((n / 2 : Nat) : Int) 1) (by omega))) ?_
             | refine qx (.arithR (yd := by exact wrap_i64 (n := ((n % 2 : Nat) : Int) + 2 * min ((n / 2 : Nat) : Int) 1) (by omega))) ?_
             | refine qx (.quoR (yc := by omega) (yd := by exact (congrArg IntKind.i64.wrap (Int.ofNat_tdiv k 2).symm).trans (wrap_i64 (by omega)))) ?_
             | refine qx (.shrR (yc := by omega) (yd := by exact (shr32.trans (by omega : _ = (((a.getD i 0 + b.getD i 0 + c) / 4294967296 : Nat) : Int))))) ?_
             | refine qx (.bitsR (yc := or64' g1 g0)) ?_
             | refine qx (.arithR (yd := by exact (wrap_i64 (by have : ((d : Int) * (d : Int)) = ((d * d : Nat) : Int) := (Int.natCast_mul d d).symm; omega)).trans (Int.natCast_mul d d).symm)) ?_
             | refine qx (.quoR (yc := by exact Int.ne_of_gt g1) (yd := by exact wrap_i64 (quo_fit 30 _ (by omega) (by omega)))) ?_
             | refine qx (.arithR (yd := by exact wrap_u32_mod)) ?_)
          | (refine qpick ?_
             first
             | refine qx (.pickT rfl (by rfl) rfl) ?_
             | refine qx (.pickF rfl (by rfl) rfl) ?_
             | refine qx (.pickF rfl (by first | ((simp; omega)) | fail) rfl) ?_
             | refine qx (.pickT rfl (by first | ((simp; omega)) | fail) rfl) ?_
             | refine qx (.pickT rfl (by first | ((simp [h1]; done)) | fail) rfl) ?_
             | refine qx (.pickF rfl (by first | (simp [isW_enc]; done) | fail) rfl) ?_
             | refine qx (.pickT rfl (by first | ((simp; done)) | fail) rfl) ?_
             | refine qx (.pickT rfl (by (rw [c1]; rfl)) rfl) ?_
             | refine qx (.pickF rfl (by (rw [← hpl, h1]; rfl)) rfl) ?_
             | refine qx (.pickF rfl (by first | (simp; done) | fail) rfl) ?_
             | refine qx (.pickT rfl (by (rw [c2]; rfl)) rfl) ?_
             | refine qx (.pickT rfl (by first | (simp; omega) | fail) rfl) ?_
             | refine qx (.pickT rfl (by first | ((simp [hs]; done)) | fail) rfl) ?_
             | refine qx (.pickF rfl (by first | ((simp [hs]; done)) | fail) rfl) ?_
             | refine qx (.pickF rfl (by first | (simp [ha]; done) | fail) rfl) ?_
             | refine qx (.pickT rfl (by first | (simp [ha]; done) | fail) rfl) ?_
             | refine qx (.pickT rfl (by first | (simp [ht]; done) | fail) rfl) ?_
             | refine qx (.pickF rfl (by first | (simp [ht]; done) | fail) rfl) ?_
             | refine qx (.pickF rfl (by (rw [show ((((digits z.natAbs).getD 0 0 : Nat) : Int) == 1) = false from beq_eq_false_iff_ne.2 (by omega)]; rfl)) rfl) ?_
             | refine qx (.pickT rfl (by (rw [show ((((digits z.natAbs).getD 0 0 : Nat) : Int) == 1) = true from beq_iff_eq.2 (by omega)]; rfl)) rfl) ?_
             | refine qx (.pickT rfl (by first | ((simp [hg]; done)) | fail) rfl) ?_
             | refine qx (.pickF rfl (by (rw [c1]; rfl)) rfl) ?_
             | refine qx (.pickF rfl (by (rw [c2]; rfl)) rfl) ?_
             | refine qx (.pickF rfl (by subst h0; rfl) rfl) ?_
             | refine qx (.pickT rfl (by (rw [← hpl, h1]; rfl)) rfl) ?_
             | refine qx (.pickF rfl (by first | (simp [hs]; done) | fail) rfl) ?_
             | refine qx (.pickT rfl (by first | (simp [hs]; done) | fail) rfl) ?_
             | refine qx (.pickF rfl (by first | (simp; omega) | fail) rfl) ?_
             | refine qx (.pickT rfl (by first | (simp [hx]; done) | fail) rfl) ?_
             | refine qx (.pickF rfl (by first | (simp [hx]; done) | fail) rfl) ?_
             | refine qx (.pickT rfl (by first | (simp [h1]; done) | fail) rfl) ?_
             | refine qx (.pickF rfl (by first | (simp [h1]; done) | fail) rfl) ?_
             | refine qx (.pickT rfl (by first | ((simp [h0]; done)) | fail) rfl) ?_
             | refine qx (.pickF rfl (by first | ((simp [h0]; done)) | fail) rfl) ?_
             | refine qx (.pickT rfl (by exact gtT g1) rfl) ?_
             | refine qx (.pickT rfl (by exact gtT (by omega)) rfl) ?_
             | refine qx (.pickF rfl (by exact gtS (by omega)) rfl) ?_
             | refine qx (.pickF rfl (by exact gbF (by omega)) rfl) ?_)
          | (refine qix ?_
             first
             | refine qx (.indexAddrOR (yf := by omega) (yg := by omega)) ?_
             | refine qx (.indexAddrR (yf := by omega) (yg := by exact wds_at (by omega))) ?_
             | refine qx (.indexAddrR (yf := by omega) (yg := by exact encR_at (i := i) rfl hx)) ?_
             | refine qx (.indexAddrR (yf := by omega) (yg := by exact encQs_atn (i := k) rfl (cf_at (by omega)))) ?_
             | refine qx (.indexAddrR (yf := by omega) (yg := by exact encQs_atn (i := i) rfl (cf_at hci))) ?_
             | refine qx (.indexAddrR (yf := by omega) (yg := by exact wds_at2 i (by omega) (by omega))) ?_
             | refine qx (.indexAddrR (yf := by omega) (yg := by exact wds_at2 j (by omega) (by omega))) ?_
             | refine qx (.indexAddrR (yf := by omega) (yg := by exact wds_at2 0 rfl (by omega))) ?_
             | refine qx (.indexAddrR (yf := by omega) (yg := by exact encIs_atn (i := i) rfl hx)) ?_
             | refine qx (.indexAddrR (yf := by omega) (yg := by first | (exact wds_at (n := 0) (by simp; omega)) | fail)) ?_
             | refine qx (.indexAddrAR (yi := by decide)) ?_
             | refine qx (.indexAddrR (yf := by omega) (yg := by exact encQs_atn (i := i) rfl (cf_at hi))) ?_
             | refine qx (.indexAddrR (yf := by omega) (yg := by rfl)) ?_
             | refine qx (.indexAddrR (yf := by omega) (yg := by exact (wds_at2 (ws := digits n) 0 rfl (by omega)).trans (by rw [hn0]))) ?_
             | refine qx (.indexAddrR (yf := by omega) (yg := by exact wds_at2 ((digits n).length - 1) (by omega) (by omega))) ?_
             | refine qx (.indexAddrR (yf := by omega) (yg := by exact encQs_at hx)) ?_
             | refine qx (.indexAddrR (yf := by omega) (yg := by exact encQs_atn (i := j) rfl (cf_at hcj))) ?_
             | refine qx (.indexAddrR (yf := by omega) (yg := by exact encQs_atn (l := m) (i := i) rfl (cf_at (by omega)))) ?_
             | refine qx (.indexAddrR (yf := by omega) (yg := by exact encQs_atn (i := qs.length - 1) (by omega) (cf_last h0))) ?_
             | refine qx (.indexAddrR (yf := by omega) (yg := by exact encPs_atn (i := i) rfl hx)) ?_)
          | (refine qbs ?_
             first
             | refine qx (.buildSliceR (ye := asc (.inl rfl) as1) (yg := by decide) (yj := by decide) (yk := by decide)) ?_
             | refine qx (.buildSliceR (ye := as1) (yg := by decide) (yj := by decide) (yk := by decide)) ?_
             | refine qx (.buildSliceR (ye := asc (.inl rfl) as2) (yg := by decide) (yj := by decide) (yk := by decide)) ?_
             | refine qx (.buildSliceR (ye := asc (.inl rfl) as3) (yg := by decide) (yj := by decide) (yk := by decide)) ?_)
          | (refine qbd ?_
             first
             | refine qx (.buildR (yf := asc (.inl rfl) as1)) ?_
             | refine qx (.buildR (yf := asn)) ?_)
          | (refine qcv ?_
             first
             | refine qx (.convR (yf := by exact wrap_u64 (by omega))) ?_
             | refine qx (.convR (yf := by exact wrapn)) ?_
             | refine qx (.convR (yf := by exact wrap_u32 (by omega))) ?_
             | refine qx (.convR (yf := by exact wrap_u64 (by have e : (0 : Int).toNat = 0 := rfl; rw [e]; omega))) ?_
             | refine qx (.convR (yf := by exact (wrapu8 (by omega)))) ?_
             | refine qx (.convR (yf := by exact w32n f2)) ?_
             | refine qx (.convR (yf := by exact w32n hc32)) ?_
             | refine qx (.convR (yf := by exact w64n (by omega))) ?_)
          | (refine qcall ?_
             first
             | refine qx (.lenR (yc := .inl rfl) (yd := by exact encQs_len)) ?_
             | refine qx (.lenR (yc := .inl rfl) (yd := by exact wds_len)) ?_
             | refine qx (.callR (yb := asc (.inl rfl) as1) (yc := same_P _ _ rfl)) ?_
             | refine qx (.callR (yb := asn) (yc := law03_sane)) ?_
             | refine qx (.callR (yb := asc (.inl rfl) as1) (yc := ref01_made _ _ (digits_words _))) ?_
             | refine qx (.lenR (yc := .inl rfl) (yd := by exact encRs_len)) ?_
             | refine qx .lenOR ?_
             | refine qx (.callR (yb := as1) (yc := qpoly_whole 0 (by decide) (by decide))) ?_
             | refine qx (.callR (yb := as1) (yc := ref03_Const _)) ?_
             | refine qx (.callR (yb := asc (.inl rfl) as1) (yc := same_P _ _ (by decide +kernel))) ?_
             | refine qx .maxR ?_
             | refine qx (.callR (yb := as1) (yc := qpoly_Const _)) ?_
             | refine qx (.callR (yb := as1) (yc := qpoly_whole 1 (by decide) (by decide))) ?_
             | refine qx (.callR (yb := as1) (yc := ref01_Is (decide (a < 0)) (digits a.natAbs))) ?_
             | refine qx (.callR (yb := as1) (yc := ref02_Int 1 (by decide) (by decide))) ?_
             | refine qx (.callR (yb := as1) (yc := law03_poly [1, 1] (by decide) (by decide))) ?_
             | refine qx (.callR (yb := as1) (yc := num_all2 a b)) ?_
             | refine qx (.callR (yb := as1) (yc := rat_SignI a.num a.den)) ?_
             | refine qx (.callR (yb := as1) (yc := qpoly_zero _)) ?_
             | refine qx (.callR (yb := asc (.inl rfl) as1) (yc := ref01_made false _ (digits_words _))) ?_
             | refine qx (.callR (yb := as1) (yc := ref02_Int 0 (by decide) (by decide))) ?_
             | refine qx (.callR (yb := asc (.inl rfl) as1) (yc := same_Q _ _ rfl)) ?_
             | refine qx (.callR (yb := as1) (yc := num_Bits a)) ?_
             | refine qx (.callR (yb := as1) (yc := ref01_Is (decide (b < 0)) (digits b.natAbs))) ?_
             | refine qx (.callR (yb := asc (.inl rfl) as1) (yc := ref01_Mul p.num q.den)) ?_
             | refine qx (.callR (yb := as1) (yc := ref03_Trim _)) ?_
             | refine qx (.callR (yb := as1) (yc := ref03_Deg p)) ?_
             | refine qx (.callR (yb := as1) (yc := qpoly_DegP p)) ?_
             | refine qx (.callR (yb := as1) (yc := law03_poly [-1, 1] (by decide) (by decide))) ?_
             | refine qx (.callR (yb := as1) (yc := law03_poly [1] (by decide) (by decide))) ?_
             | refine qx (.callR (yb := as1) (yc := num_Of 1 (by decide) (by decide))) ?_
             | refine qx (.callR (yb := asn) (yc := rat_one)) ?_
             | refine qx (.callR (yb := as1) (yc := rat_isOne p.den)) ?_
             | refine qx (.callR (yb := asc (.inl rfl) as1) (yc := num_Mul p.num q.den)) ?_
             | refine qx (.callR (yb := asc (.inl rfl) as1) (yc := num_Mul q.num p.den)) ?_
             | refine qx (.callR (yb := as1) (yc := num_Is n1 w1)) ?_
             | refine qx (.callR (yb := as1) (yc := qpoly_trimmed _)) ?_
             | refine qx (.callR (yb := asc (.inl rfl) as1) (yc := qpoly_at _ _ (by assumption))) ?_
             | refine qx (.callR (yb := as1) (yc := qpoly_LeadP p)) ?_
             | refine qx (.callR (yb := as1) (yc := qpoly_Deg p.c)) ?_
             | refine qx (.callR (yb := asc (.inl rfl) as1) (yc := qpoly_Div a b hb e1 e2 (Nat.le_trans e3 hKs))) ?_
             | refine qx (.callR (yb := as1) (yc := qpoly_DegP a)) ?_
             | refine qx (.callR (yb := asc (.inl rfl) as1) (yc := ref01_subWords _ _ hle)) ?_
             | refine qx (.callR (yb := as1) (yc := ref02_isOne p.den)) ?_
             | refine qx (.callR (yb := asc (.inl rfl) as1) (yc := ref01_Mul q.num p.den)) ?_
             | refine qx (.callR (yb := as1) (yc := ref01_Is n1 w1)) ?_
             | refine qx (.lenR (yc := .inl rfl) (yd := by exact encIs_len)) ?_
             | refine qx (.callR (yb := as1) (yc := law03_poly [0, 0, 1] (by decide) (by decide))) ?_
             | refine qx (.callR (yb := as1) (yc := law03_poly [0, 1] (by decide) (by decide))) ?_
             | refine qx (.callR (yb := as1) (yc := num_Sign d)) ?_
             | refine qx (.callR (yb := asc (.inl rfl) as1) (yc := num_Mul p.den q.den)) ?_
             | refine qx (.callR (yb := as1) (yc := num_Is n2 w2)) ?_
             | refine qx (.lenR (yc := .inl rfl) (yd := by exact hlen)) ?_
             | refine qx (.callR (yb := asc (.inl rfl) as1) (yc := qpoly_Mul o q u1.pb hqB.pb (by omega) (by omega))) ?_
             | refine qx (.callR (yb := asc (.inl rfl) as1) (yc := qpoly_Add _ _ hcm hcc)) ?_
             | refine qx (.callR (yb := as1) (yc := qpoly_Deg q.c)) ?_
             | refine qx (.lenR (yc := .inl rfl) (yd := by exact encIs_len.trans hnl)) ?_
             | refine qx (.callR (yb := as1) (yc := num_Sign _)) ?_
             | refine qx (.callR (yb := asc (.inl rfl) as1) (yc := ref01_cmpWords _ _)) ?_
             | refine qx (.callR (yb := as1) (yc := ref01_Sign d)) ?_
             | refine qx (.callR (yb := asc (.inl rfl) as1) (yc := ref01_Mul p.den q.den)) ?_
             | refine qx (.callR (yb := as1) (yc := ref01_Is n2 w2)) ?_
             | refine qx (.callR (yb := as1) (yc := ref03_Lead p)) ?_
             | refine qx (.callR (yb := asc (.inl rfl) as1) (yc := ref03_Mul o q u1.pb hqB.pb (by omega) (by omega))) ?_
             | refine qx (.callR (yb := asc (.inl rfl) as1) (yc := ref03_Add _ _ hcm hcc)) ?_
             | refine qx (.callR (yb := as1) (yc := ref03_Deg q)) ?_
             | refine qx (.callR (yb := as1) (yc := num_Of 2 (by decide) (by decide))) ?_
             | refine qx (.callR (yb := as1) (yc := qpoly_DegP b)) ?_
             | refine qx (.callR (yb := as1) (yc := ref02_Int 2 (by decide) (by decide))) ?_
             | refine qx (.callR (yb := asc (.inl rfl) as2) (yc := few_T p 12 4 (by decide) (by decide) h1)) ?_
             | refine qx (.callR (yb := asc (.inl rfl) as2) (yc := few_T p 6 2 (by decide) (by decide) h1)) ?_
             | refine qx (.callR (yb := asc (.inl rfl) as1) (yc := qpoly_Pow p n hn hpC (by decide))) ?_
             | refine qx (.callR (yb := asc (.inl rfl) as1) (yc := ref03_Pow p n hn hpC (by decide))) ?_
             | refine qx (.lenR (yc := .inl rfl) (yd := by rfl)) ?_
             | refine qx (.callR (yb := asc (.inl rfl) as1) (yc := num_compared m n)) ?_
             | refine qx (.callR (yb := as1) (yc := num_Is (decide (a < 0)) (digits a.natAbs))) ?_
             | refine qx (.callR (yb := asc (.inl rfl) as1) (yc := num_times _ _ (digits_words a.natAbs) (digits_words b.natAbs) (by have := ha.wl; have := hb.wl; omega))) ?_
             | refine qx (.callR (yb := asc (.inl rfl) as1) (yc := num_made _ _ (padW_words _ _))) ?_
             | refine qx (.callR (yb := as1) (yc := num_IsI a)) ?_
             | refine qx (.callR (yb := as1) (yc := num_Abs b)) ?_
             | refine qx (.callR (yb := asc (.inl rfl) as1) (yc := num_parted x y hy hx16 hy16)) ?_
             | refine qx (.callR (yb := asc (.inl rfl) as1) (yc := num_made false (pr x y) (pr_words hy))) ?_
             | refine qx .minR ?_
             | refine qx (.callR (yb := asc (.inl rfl) as1) (yc := num_Mul o x)) ?_
             | refine qx (.callR (yb := asc (.inl rfl) as1) (yc := num_Mul x x)) ?_
             | refine qx (.callR (yb := as1) (yc := rat_isOne (Int.gcd n d : Nat))) ?_
             | refine qx (.callR (yb := as1) (yc := num_Sign (Int.gcd n d : Nat))) ?_
             | refine qx (.callR (yb := as1) (yc := num_Neg (Int.gcd n d : Nat))) ?_
             | refine qx (.callR (yb := asc (.inl rfl) as1) (yc := rat_whole n g hgz)) ?_
             | refine qx (.callR (yb := asc (.inl rfl) as1) (yc := rat_whole d g hgz)) ?_
             | refine qx (.callR (yb := as1) (yc := rat_isOne q.den)) ?_
             | refine qx (.callR (yb := asc (.inl rfl) as1) (yc := num_Add (p.num * q.den) (q.num * p.den))) ?_
             | refine qx (.callR (yb := asc (.inl rfl) as1) (yc := rat_over (p.num * q.den + q.num * p.den) (p.den * q.den) (mul_den p q))) ?_
             | refine qx (.callR (yb := asc (.inl rfl) as1) (yc := num_Cmp (p.num * q.den) (q.num * p.den))) ?_
             | refine qx (.callR (yb := as1) (yc := raw_enc h2 c2 ▸ num_Sign (sgn n2 (val w2)))) ?_
             | refine qx (.callR (yb := asc (.inl rfl) as1) (yc := rat_Mul a a (hb1 h1) (hb1 h1))) ?_
             | refine qx (.callR (yb := asc (.inl rfl) as1) (yc := num_Pow a.num n hn (lim _ hN h2))) ?_
             | refine qx (.callR (yb := asc (.inl rfl) as1) (yc := num_Pow (a.den : Int) n hn (lim _ hD h2))) ?_
             | refine qx (.callR (yb := as1) (yc := hf i hci)) ?_
             | refine qx (.callR (yb := asc (.inl rfl) as1) (yc := qpoly_Mul (p ^ k) p hcd.pb hpB.pb (by omega) (by rw [Nat.succ_mul] at hk1; omega))) ?_
             | refine qx (.callR (yb := as1) (yc := qpoly_Monic _)) ?_
             | refine qx (.callR (yb := asc (.inl rfl) as1) (yc := qpoly_Div a b hb e1 e2 hKd)) ?_
             | refine qx (.callR (yb := as1) (yc := qpoly_Deriv p (hpB.pb.le (by omega)))) ?_
             | refine qx (.callR (yb := asc (.inl rfl) as1) (yc := qpoly_Gcd p _ hT0 (by decide) (hpB.pb.le (by omega)) (hdB.le (by omega)))) ?_
             | refine qx (.callR (yb := asc (.inl rfl) as1) (yc := ref01_word a ha i (by omega))) ?_
             | refine qx (.callR (yb := asc (.inl rfl) as1) (yc := ref01_word b hb i (by omega))) ?_
             | refine qx (.callR (yb := as1) (yc := ref01_trimD _ (padW_words _ _))) ?_
             | refine qx (.callR (yb := as1) (yc := ref01_native a)) ?_
             | refine qx (.callR (yb := as1) (yc := ref01_native b)) ?_
             | refine qx (.callR (yb := asc (.inl rfl) as1) (yc := ref01_addWords _ _ (digits_words a.natAbs) (digits_words b.natAbs) (by have := ha16.wl; omega) (by have := hb16.wl; omega))) ?_
             | refine qx (.callR (yb := asc (.inl rfl) as1) (yc := ref01_word _ hdv j (by omega))) ?_
             | refine qx (.callR (yb := asc (.inl rfl) as1) (yc := ref01_divWords _ _ hn (by have := ha16.wl; omega) (by have := hb16.wl; omega))) ?_
             | refine qx (.callR (yb := asc (.inl rfl) as1) (yc := ref01_addWords (digits (a.natAbs / b.natAbs)) [1] (digits_words _) (.cons (by decide) .nil) (by first | (have h1 := ha16.wl; have h2 := wl_mono (Nat.div_le_self a.natAbs b.natAbs); simp only [wl] at h2; omega) | fail) (by decide))) ?_
             | refine qx (.callR (yb := asc (.inl rfl) as1) (yc := ref01_subWords b.natAbs (a.natAbs % b.natAbs) (Nat.le_of_lt (Nat.mod_lt _ (by omega))))) ?_
             | refine qx (.callR (yb := asc (.inl rfl) as1) (yc := ref01_Div a b hb)) ?_
             | refine qx (.callR (yb := asc (.inl rfl) as1) (yc := ref01_Mod (x : Int) (y : Int) (by omega) hx16 hy16)) ?_
             | refine qx (.callR (yb := asn) (yc := ref02_one)) ?_
             | refine qx (.callR (yb := as1) (yc := ref01_Of n h1 h2)) ?_
             | refine qx (.callR (yb := as1) (yc := ref02_isOne (Int.gcd n d : Nat))) ?_
             | refine qx (.callR (yb := as1) (yc := ref01_Neg (Int.gcd n d : Nat))) ?_
             | refine qx (.callR (yb := asc (.inl rfl) as1) (yc := ref01_Quo n g hgz)) ?_
             | refine qx (.callR (yb := asc (.inl rfl) as1) (yc := ref01_Quo d g hgz)) ?_
             | refine qx (.callR (yb := as1) (yc := ref02_isOne q.den)) ?_
             | refine qx (.callR (yb := asc (.inl rfl) as1) (yc := ref01_Add (p.num * q.den) (q.num * p.den))) ?_
             | refine qx (.callR (yb := asc (.inl rfl) as1) (yc := ref02_over (p.num * q.den + q.num * p.den) (p.den * q.den) (mul_den p q))) ?_
             | refine qx (.callR (yb := asc (.inl rfl) as1) (yc := ref01_Cmp (p.num * q.den) (q.num * p.den))) ?_
             | refine qx (.callR (yb := asc (.inl rfl) as1) (yc := ref01_Same p.num q.num)) ?_
             | refine qx (.callR (yb := asc (.inl rfl) as1) (yc := ref01_Stays p.num q.num)) ?_
             | refine qx (.callR (yb := as1) (yc := raw_enc h2 c2 ▸ ref01_Sign (sgn n2 (val w2)))) ?_
             | refine qx (.callR (yb := as1) (yc := ref02_Sign _)) ?_
             | refine qx (.callR (yb := asc (.inl rfl) as1) (yc := ref03_At p.c i (by omega))) ?_
             | refine qx (.callR (yb := asc (.inl rfl) as1) (yc := ref03_At q.c i (by omega))) ?_
             | refine qx (.callR (yb := asc (.inl rfl) as1) (yc := ref02_Add (cf p.c i) (cf q.c i) (hp.cf i) (hq.cf i))) ?_
             | refine qx (.callR (yb := as1) (yc := ref02_Int (-1) (by decide) (by decide))) ?_
             | refine qx (.callR (yb := asc (.inl rfl) as1) (yc := ref03_Div p q hq hpB hqB X hX hs)) ?_
             | refine qx (.callR (yb := as1) (yc := ref03_Monic p hpB)) ?_
             | refine qx (.callR (yb := asc (.inl rfl) as1) (yc := ref03_Mul (p ^ k) p hcd.pb hpB.pb (by omega) (by omega))) ?_
             | refine qx (.callR (yb := as1) (yc := ref02_AllQ qs hB)) ?_
             | refine qx (.callR (yb := as1) (yc := num_Of x (by omega) (by omega))) ?_
             | refine qx (.callR (yb := as1) (yc := num_Of p (by omega) (by omega))) ?_
             | refine qx (.callR (yb := asc (.inl rfl) as2) (yc := qpoly_value l x p (by omega) hl4 ((Fi.small (by omega)).le (by decide)) ((Fi.small (by omega)).le (by decide)))) ?_
             | refine qx (.callR (yb := as1) (yc := qpoly_Primitive p hp0 hpB (by omega))) ?_
             | refine qx (.callR (yb := as1) (yc := qpoly_size _)) ?_
             | refine qx (.lenR (yc := .inl rfl) (yd := by exact List.length_map _)) ?_
             | refine qx (.callR (yb := as1) (yc := qpoly_LeadP b)) ?_
             | refine qx (.callR (yb := as1) (yc := law03_poly [1, 0, 1] (by decide) (by decide))) ?_
             | refine qx (.callR (yb := as1) (yc := ref02_Int 3 (by decide) (by decide))) ?_
             | refine qx (.callR (yb := as1) (yc := law03_half (-1) (by decide) (by decide))) ?_
             | refine qx (.callR (yb := as1) (yc := law03_poly [2, 2] (by decide) (by decide))) ?_
             | refine qx (.callR (yb := asc (.inl rfl) as2) (yc := few_T q 12 4 (by decide) (by decide) h2)) ?_
             | refine qx (.callR (yb := asc (.inl rfl) as2) (yc := few_T p 8 2 (by decide) (by decide) h1)) ?_
             | refine qx (.callR (yb := asc (.inl rfl) as2) (yc := few_T q 6 2 (by decide) (by decide) h2)) ?_
             | refine qx (.callR (yb := asc (.inl rfl) as2) (yc := few_T p 4 2 (by decide) (by decide) h1)) ?_
             | refine qx (.lenR (yc := .inl rfl) (yd := by exact encPs_len)) ?_
             | refine qx (.callR (yb := asc (.inl rfl) as2) (yc := few_T q 4 2 (by decide) (by decide) h2)) ?_
             | refine qx (.lenR (yc := .inl rfl) (yd := by exact encIs_len')) ?_
             | refine qx (.callR (yb := as1) (yc := ref01_Of 1 (by decide) (by decide))) ?_
             | refine qx (.callR (yb := as1) (yc := qpoly_Integral p (by omega) (hpB.le (by decide)))) ?_
             | refine qx (.callR (yb := asc (.inl rfl) as2) (yc := few_T r 4 2 (by decide) (by decide) h3)) ?_
             | refine qx (.callR (yb := asc (.inl rfl) as1) (yc := mulS sp sr)) ?_
             | refine qx (.callR (yb := asc (.inl rfl) as1) (yc := same_P _ _ (by grind))) ?_
             | refine qx (.callR (yb := as1) (yc := derivS sp)) ?_
             | refine qx (.callR (yb := as1) (yc := derivS sq)) ?_
             | refine qx (.callR (yb := as1) (yc := isSqT (sb_dvd sp h0 had (by rw [← hS.p]; exact mon_prodL hS.m)) hcop)) ?_))
       | with_reducible refine isWO ?_
       | with_reducible refine isWD ?_)
    | ((first
        | refine eE rfl rfl ?_
        | refine edE rfl rfl ?_)
       first
         | refine exx (.storeR (ye := by decide) (yg := .inl rfl)) ?_
         | refine exx (.storeR (ye := by first | ((simp; done)) | fail) (yg := .inl rfl)) ?_
         | refine exx (.storeR (ye := by exact wds_idx (by omega)) (yg := .inl rfl)) ?_
         | refine exx (.appendAR (yd := by decide) (ye := by decide) (yj := .inl rfl) (yk := by rfl) (yl := by first | ((simp [wds_len]; omega)) | fail)) ?_
         | refine exx (.copyR (yf := by first | (simp; done) | fail) (yg := .inl rfl) (yh := by exact wds_flat)) ?_
         | refine exx (.storeR (ye := by first | ((simp [wds]; omega)) | fail) (yg := .inl rfl)) ?_
         | refine exx (.storeR (ye := by first | (first | decide | (simp; done) | (simp; omega)) | fail) (yg := .inl rfl)) ?_
         | refine exx (callh [] (qpoly_steps p q) (.inr ⟨_, rfl, rfl⟩) (hac rfl (hac rfl han)) rfl rfl rfl (by decide) oin olts_n rfl (outs_s rfl (by exact ren_c) (outs_s rfl (by exact ren_c) outs_0)) rfl rfl rfl) ?_
         | refine exx (appendW rfl rfl rfl (by decide) (by decide) rfl rfl rfl rfl (by rfl) (.inl rfl) (by rfl) (by first | ((simp [wds_len]; omega)) | fail)) ?_
         | fail)
    | (refine deE rfl rfl rfl ?_
       (first
         | refine exx (.storeR (ye := by decide) (yg := .inl rfl)) ?_
         | refine exx (.storeR (ye := by first | ((simp; done)) | fail) (yg := .inl rfl)) ?_
         | refine exx (.storeR (ye := by exact wds_idx (by omega)) (yg := .inl rfl)) ?_
         | refine exx (.appendAR (yd := by decide) (ye := by decide) (yj := .inl rfl) (yk := by rfl) (yl := by first | ((simp [wds_len]; omega)) | fail)) ?_
         | refine exx (.copyR (yf := by first | (simp; done) | fail) (yg := .inl rfl) (yh := by exact wds_flat)) ?_
         | refine exx (.storeR (ye := by first | ((simp [wds]; omega)) | fail) (yg := .inl rfl)) ?_
         | refine exx (.storeR (ye := by first | (first | decide | (simp; done) | (simp; omega)) | fail) (yg := .inl rfl)) ?_
         | refine exx (callh [] (qpoly_steps p q) (.inr ⟨_, rfl, rfl⟩) (hac rfl (hac rfl han)) rfl rfl rfl (by decide) oin olts_n rfl (outs_s rfl (by exact ren_c) (outs_s rfl (by exact ren_c) outs_0)) rfl rfl rfl) ?_
         | refine exx (appendW rfl rfl rfl (by decide) (by decide) rfl rfl rfl rfl (by rfl) (.inl rfl) (by rfl) (by first | ((simp [wds_len]; omega)) | fail)) ?_
         | fail)
       first
         | refine ⟨(by exact trivial), ?_⟩
         | refine ⟨(by (repeat' (first | exact trivial | exact .loadP _ _ _ _ _ _ _ _ _ rfl rfl rfl (by rfl) rfl | refine And.intro ?_ ?_))), ?_⟩
         | refine ⟨(by (exact ⟨trivial, .loadP _ _ _ _ _ _ _ _ _ rfl rfl rfl rfl rfl⟩)), ?_⟩
         | refine ⟨(by (exact ⟨trivial, .load _ _ _ _ _ rfl rfl rfl⟩)), ?_⟩
         | fail)
    | ((first
        | refine nE rfl rfl ?_
        | refine dnE rfl rfl rfl rfl ?_)
       first
         | refine nxx .allocR ?_
         | refine nxx (.makeSliceR (yf := by decide) (yi := by omega) (yj := by first | (dsimp only; omega) | fail) (yk := by omega)) ?_
         | refine nxx .allocNilR ?_
         | fail)
  exact fu0 f h) : B := f .m ⟨hA⟩end Go.Proofs.YtacenhlcfeepgaaGreat.Eng
namespace Go.Proofs.YtacenhlcfeepgaaGreat
open Go Eng
namespace Eng
end Eng
abbrev F_law03_QpolyPrimitive : Nat := 8
end Go.Proofs.YtacenhlcfeepgaaGreat
namespace Go.Proofs.YtacenhlcfeepgaaGreat
open Go Eng
theorem Bq.int {n : Nat} {z : Int} (h : wl z.natAbs ≤ n) : Bq (n + 1) (z : Rat) := by
 refine ⟨?_, ?_⟩
 ·rw [Rat.num_intCast]; omega
 ·rw [Rat.den_intCast]; exact Nat.le_trans (wl_le (by decide)) (Nat.le_add_left 1 n)
end Go.Proofs.YtacenhlcfeepgaaGreat
namespace Go.Proofs.YtacenhlcfeepgaaGreat
open Go Eng
theorem qpoly_PrimitiveZ : FnP Tryz.prog tb F_qpoly_Primitive [.sl T_Rat []] (.tu [encQI 0 0, .sl T_Int [], .i .i64 5]) := by
 refine fnP_T tbOk Tryz.func58 rfl rfl (Nat.le_of_ble_eq_true rfl) rfl fun G hG hK => ?_
 have hF : Wd Fence.wide := .inl rfl
 refine sy 11 ?_
 refine wp_cT rfl (by rfl) ?_
 refine sy 8 ?_
 exact ⟨.inr rfl, rfl, (by (refine res_c rfl rfl rfl rfl rfl ?_); (rfl)), (by (refine res_nl rfl ?_); (rfl)), (by (refine res_t rfl ?_); (rfl)), trivial⟩
end Go.Proofs.YtacenhlcfeepgaaGreat
namespace Go.Proofs.YtacenhlcfeepgaaGreat
open Go Eng
theorem gcdIs_mul (l : List Int) (g : Int) : gcdIs (l.map (· * g)) = gcdIs l * g.natAbs := by
 suffices h : ∀ (l : List Int) (a : Int), (l.map (· * g)).foldl (fun a x => (Int.gcd a x : Int)) (a * g.natAbs) = l.foldl (fun a x => (Int.gcd a x : Int)) a * g.natAbs by
  have := h l 0
  rw [Int.zero_mul] at this; exact this
 intro l
 induction l with
 | nil => intro a; rfl
 | cons y l ih =>
  intro a
  rw [List.map_cons, List.foldl_cons, List.foldl_cons, ← ih]
  congr 1
  have : (a * (g.natAbs : Int)).gcd (y * g) = a.gcd y * g.natAbs := by
   show Nat.gcd (a * (g.natAbs : Int)).natAbs (y * g).natAbs = Nat.gcd a.natAbs y.natAbs * g.natAbs
   rw [Int.natAbs_mul, Int.natAbs_mul, Int.natAbs_natCast, Nat.gcd_mul_right]
  rw [this]; exact Int.natCast_mul _ _
theorem primG_abs (p : Pol) : (primG p).natAbs = (gcdIs (numsQ p.c)).natAbs := by
 unfold primG; split <;> simp
theorem primG_dvd {p : Pol} {x : Int} (h : x ∈ numsQ p.c) : primG p ∣ x := by
 rw [← Int.natAbs_dvd, primG_abs, Int.natAbs_dvd]; exact gcdIs_dvd _ x h
theorem numsQ_len (l : List Rat) : (numsQ l).length = l.length := by simp [numsQ]
theorem primN_at {p : Pol} {i : Nat} (hi : i < p.len) : (primN p)[i]? = some ((numsQ p.c).getD i 0 / primG p) := by
 have : i < p.c.length := hi
 simp [primN, this]
theorem numsQ_mem {l : List Rat} {i : Nat} (hi : i < l.length) : (numsQ l).getD i 0 ∈ numsQ l := by
 rw [List.getD_eq_getElem?_getD, List.getElem?_eq_getElem (by rw [numsQ_len]; exact hi)]
 exact List.getElem_mem _
theorem primN_mul {p : Pol} {i : Nat} {x : Int} (hx : (primN p)[i]? = some x) : x * primG p = (numsQ p.c).getD i 0 ∧ i < p.len := by
 have hi : i < p.len := by
  have := (List.getElem?_eq_some_iff.1 hx).1
  rw [primN_len] at this; exact this
 rw [primN_at hi] at hx
 injection hx with hx
 subst hx
 exact ⟨Int.ediv_mul_cancel (primG_dvd (numsQ_mem hi)), hi⟩
theorem numsQ_rat {l : List Rat} {i : Nat} {q : Rat} (h : l[i]? = some q) : (((numsQ l).getD i 0 : Int) : Rat) = q * (lcmQ l : Int) := by
 have e : (numsQ l).getD i 0 = q.num * (lcmQ l / q.den) := by simp [numsQ, List.getD_eq_getElem?_getD, h]
 obtain ⟨k, hk⟩ : ((q.den : Nat) : Int) ∣ lcmQ l := lcmI_dvd _ (List.mem_map.2 ⟨q, List.mem_of_getElem? h, rfl⟩)
 have hd : ((q.den : Nat) : Int) ≠ 0 := den_ne q
 have hq : q = (q.num : Rat) / ((q.den : Int) : Rat) := by rw [← Rat.divInt_eq_div]; exact (Rat.num_divInt_den q).symm
 have hd2 : ((q.den : Int) : Rat) ≠ 0 := fun e => hd (by have := congrArg Rat.num e; rw [Rat.num_intCast] at this; exact this)
 rw [e, hk, Int.mul_ediv_cancel_left _ hd, Rat.intCast_mul, Rat.intCast_mul]
 generalize ((q.den : Int) : Rat) = d at *
 generalize (q.num : Rat) = n at *
 rw [hq]; grind
theorem primC_mul {p : Pol} (hp : p ≠ 0) {i : Nat} {x : Int} {y : Rat} (hx : (primN p)[i]? = some x) (hy : p.c[i]? = some y) : primC p * (x : Rat) = y := by
 obtain ⟨h1, h2⟩ := primN_mul hx
 have h3 := numsQ_rat hy
 rw [← h1, Rat.intCast_mul] at h3
 have hL : (((lcmQ p.c : Int)) : Rat) ≠ 0 := fun e => by
  have := congrArg Rat.num e
  rw [Rat.num_intCast] at this
  have h := lcmQ_pos p.c
  rw [this] at h; exact absurd h (by decide)
 rw [primC, Rat.divInt_eq_div]
 generalize ((lcmQ p.c : Int) : Rat) = L at *
 generalize ((primG p : Int) : Rat) = G at *
 grind
theorem primN_nums (p : Pol) : (primN p).map (· * primG p) = numsQ p.c := by
 refine List.ext_getElem? fun i => ?_
 rw [List.getElem?_map]
 cases hx : (primN p)[i]? with
 | none =>
  have := List.getElem?_eq_none_iff.1 hx
  rw [List.getElem?_eq_none (by rw [numsQ_len]; rw [primN_len] at this; exact this)]; rfl
 | some x =>
  obtain ⟨h1, h2⟩ := primN_mul hx
  have h3 : i < (numsQ p.c).length := by rw [numsQ_len]; exact h2
  rw [List.getD_eq_getElem?_getD, List.getElem?_eq_getElem h3] at h1
  rw [List.getElem?_eq_getElem h3, Option.map_some, h1]; rfl
theorem gcdIs_nonneg (l : List Int) : 0 ≤ gcdIs l := by
 suffices h : ∀ (l : List Int) (a : Int), 0 ≤ a → 0 ≤ l.foldl (fun a x => (Int.gcd a x : Int)) a from h l 0 (Int.le_refl 0)
 intro l
 induction l with
 | nil => intro a h; exact h
 | cons y l ih => intro a _; exact ih _ (Int.natCast_nonneg _)
theorem primN_gcd {p : Pol} (hp : p ≠ 0) : gcdIs (primN p) = 1 := by
 have h := gcdIs_mul (primN p) (primG p)
 rw [primN_nums, primG_abs, Int.natAbs_of_nonneg (gcdIs_nonneg _)] at h
 have h0 := (primG_ne hp).1
 exact Int.eq_of_mul_eq_mul_right h0 (by omega)
theorem primN_pos {p : Pol} (hp : p ≠ 0) {x : Int} (hx : (primN p)[p.len - 1]? = some x) : 0 < x := by
 obtain ⟨h1, h2⟩ := primN_mul hx
 have h3 : p.c[p.c.length - 1]? = some p.lead := by
  have : p.c.length - 1 < p.c.length := by have : p.len = p.c.length := rfl; omega
  rw [cf_at this]; rfl
 have h4 := numsQ_ne h3 (Poly.lead_ne hp)
 have h5 := (primG_ne hp).1
 have h6 := gcdIs_nonneg (numsQ p.c)
 rw [show p.len = p.c.length from rfl] at h1
 apply Classical.byContradiction
 intro hn
 unfold primG at h1
 split at h1
 ·have := Int.mul_nonneg_of_nonpos_of_nonpos (show x ≤ 0 by omega) (show -gcdIs (numsQ p.c) ≤ 0 by omega)
  omega
 ·have := Int.mul_nonpos_of_nonpos_of_nonneg (show x ≤ 0 by omega) h6
  omega
theorem ref01_IsT (z : Int) : FnP Tryz.prog tb F_ref01_Is [encI z] (.b true) := by
 have := ref01_Is (decide (z < 0)) (digits z.natAbs)
 rw [isW_enc] at this; exact this
theorem ref02_IsT (q : Rat) (h : Bq 4398046511104 q) : FnP Tryz.prog tb F_ref02_Is [encQ q] (.b true) := by
 have := ref02_Is (rawR q).1.1 (rawR q).2.1 (rawR q).1.2 (rawR q).2.2 (digits_words _) (digits_words _) h.1 h.2
 rw [show isQ (rawR q).1.1 (rawR q).1.2 (rawR q).2.1 (rawR q).2.2 = true from isR_raw q] at this; exact this
theorem signPos {x : Int} (h : 0 < x) : FnP Tryz.prog tb F_ref01_Sign [encI x] (.i .i64 1) := by
 have := ref01_Sign x
 rw [Int.sign_eq_one_of_pos h] at this; exact this
theorem encIs_len' {p : Pol} : ((primN p).map encI).length = p.c.length := by rw [List.length_map, primN_len]; rfl
theorem bool1 (a : Bool) : a = false ∨ a = true := by cases a <;> simp
theorem primitive0 {p : Pol} (h : p = 0) : FnP Tryz.prog tb F_qpoly_Primitive [encP p] (.tu [encQI 0 0, .sl T_Int [], .i .i64 5]) := by
 subst h; rw [encP_0]; exact qpoly_PrimitiveZ
theorem law_Primitive (p : List RQ) (hp : WR p) : FnP Tryz.prog tb F_law03_QpolyPrimitive [encRs p] (.b true) := by
 refine fn1 Tryz.func8 fun G hG hK hF => ?_
 refine sy 4 ?_
 rcases bool1 (fewB p 20 4) with h1 | h1
 ·refine sy 2 ?_
  refine oq (.callR (yb := asc (.inl rfl) as2) (yc := few_F p hp 20 4 (by decide) (by decide) h1)) ?_
  refine sy 2 ?_
  refine wp_cT rfl (by rfl) ?_
  refine sy 6 ?_
  exact ⟨.inr rfl, rfl, (by (refine res_t rfl ?_); (rfl)), trivial⟩
 ·obtain ⟨p, rfl, hpl, hpB⟩ := few_pol hp h1 (by decide)
  rw [encRs_raw]
  have hpc : p.len = p.c.length := rfl
  refine sy 2 ?_
  refine oq (.callR (yb := asc (.inl rfl) as2) (yc := few_T p 20 4 (by decide) (by decide) h1)) ?_
  refine sy 2 ?_
  refine wp_cF rfl (by rfl) ?_
  refine sy 2 ?_
  rcases (show p = 0 ∨ p ≠ 0 from Classical.em _) with h0 | h0
  ·have hp0 : p.c.length = 0 := by rw [pol_nil.2 h0]; rfl
   refine sy 2 ?_
   refine oq (.callR (yb := as1) (yc := primitive0 h0)) ?_
   refine sy 15 ?_
   refine wp_cT rfl (by exact beq_iff_eq.2 (by omega)) ?_
   refine sy 10 ?_
   exact ⟨.inr rfl, rfl, (by (refine res_t rfl ?_); (rfl)), trivial⟩
  ·have hC : CDB 127 p := hpB.cdb.le (by omega)
   have hN := primN_wl hC
   have hlN := primN_len p
   have hGw : wl (primG p).natAbs ≤ 127 := by rw [primG_abs]; exact gcdIs_wl hC.nums
   have hc16 : Bq 255 (primC p) := Bq.divInt hGw hC.lcmQ
   have hpp := Poly.len_pos h0
   refine sy 2 ?_
   refine oq (.callR (yb := as1) (yc := qpoly_Primitive p h0 hC (by decide))) ?_
   refine sy 15 ?_
   refine wp_cF rfl (by exact beq_eq_false_iff_ne.2 (by omega)) ?_
   refine sy 8 ?_
   refine gq (.callR (yb := as1) (yc := ref02_IsT _ (hc16.le (by decide)))) ?_
   refine gq .notR ?_
   refine oq (.pickF rfl (by rfl) rfl) ?_
   refine om ?_
   refine gq .moveR ?_
   refine gq (.lenR (yc := .inl rfl) (yd := by exact encIs_len')) ?_
   refine gq .moveR ?_
   refine gq (.lenR (yc := .inl rfl) (yd := by exact encQs_len)) ?_
   refine gq .cmpR ?_
   refine oq (.pickF rfl (by rfl) rfl) ?_
   refine wo_nil ?_
   refine wp_cF rfl (by simp) ?_
   refine sy 3 ?_
   refine oq (.callR (yb := as1) (yc := ref01_Of 0 (by decide) (by decide))) ?_
   refine sy 8 ?_
   refine wp_l2 hK (krc 0 rfl (krc 3 rfl (krc 4 rfl (krc 6 rfl krn)))) (khc 0 rfl khn) (fun sl' h' (i : Nat) => ⟨(7, .t (.i .i64 (i))) :: sl', (1, some (.arr T_Int [.t (encI (gcdIs ((primN p).take i)))])) :: h', 2, 0⟩) (fun i => i ≤ (primN p).length) (fun i => (primN p).length - i) 0 ?_ (fun _ => rfl) ?_ ?_
   ·exact Nat.zero_le _
   ·exact il
   ·intro i hi
    refine wp_s ?_
    refine rr ?_
    refine om ?_
    refine om ?_
    refine oq (.lenR (yc := .inl rfl) (yd := by exact encIs_len')) ?_
    refine oq .cmpR ?_
    refine wo_nil ?_
    refine wp_c rfl (fun hc => ?_) (fun hc => ?_)
    ·have hci : i < (primN p).length := by { have : (i : Int) < (p.c.length : Int) := (by simpa using hc); omega }
     obtain ⟨x, hx⟩ : ∃ x, (primN p)[i]? = some x := ⟨_, List.getElem?_eq_getElem hci⟩
     obtain ⟨y, hy⟩ : ∃ y, p.c[i]? = some y := ⟨_, List.getElem?_eq_getElem (by omega)⟩
     have hxl := hN x (List.mem_of_getElem? hx)
     refine sy 10 ?_
     refine dq (.callR (yb := as1) (yc := ref01_IsT x)) ?_
     refine sy 7 ?_
     refine wd_gq rfl rfl rfl (by rfl) rfl rfl rfl (.callR (yb := as1) (yc := ref02_Whole x)) ?_
     refine wd_gq rfl rfl rfl (by rfl) rfl rfl rfl (.callR (yb := asc (.inl rfl) as1) (yc := ref02_Mul (primC p) (x : Rat) (hc16.le (by decide)) ((Bq.int hxl).le (by decide)))) ?_
     refine sy 2 ?_
     refine wd_gq rfl rfl rfl (by rfl) rfl rfl rfl (.indexAddrR (yf := by omega) (yg := by exact encQs_atn (i := i) rfl hy)) ?_
     refine sy 1 ?_
     refine wd_gq rfl rfl rfl (by rfl) rfl rfl rfl (.callR (yb := asc (.inl rfl) as1) (yc := same_Q _ _ (primC_mul h0 hx hy))) ?_
     refine sy 3 ?_
     refine wp_cF rfl (by rfl) ?_
     refine sy 8 ?_
     refine dq (.callR (yb := asc (.inl rfl) as1) (yc := ref01_Gcd (gcdIs ((primN p).take i)) x (fi16_of (gcdIs_wl fun z hz => hN z (List.mem_of_mem_take hz)) (by decide)) (fi16_of hxl (by decide)))) ?_
     refine wd_e rfl rfl rfl (.storeR (ye := by (simp; done)) (yg := .inl rfl)) (by exact trivial) ?_
     refine wd_nil ?_
     refine blk_n ?_
     refine then_n ?_
     refine rr0 ?_
     refine om ?_
     refine oq (.arithR (yd := by exact wrap_i64 (by omega))) ?_
     refine oa ?_
     refine wo_nil ?_
     exact round_n (i + 1) (by omega) (by omega) (by exact imp_less ga (by repeat' (first | exact trivial | (refine And.intro (by first | rfl | exact geth rfl (by rw [gcdIs_take hx]; rfl)) ?_))) (by exact Nat.le_of_ble_eq_true rfl))
    ·obtain rfl : i = (primN p).length := by { have : ¬ (i : Int) < (p.c.length : Int) := (by simpa using hc); omega }
     rw [List.take_length, primN_gcd h0]
     obtain ⟨z, hz⟩ : ∃ z, (primN p)[p.len - 1]? = some z := ⟨_, List.getElem?_eq_getElem (by omega)⟩
     refine sy 10 ?_
     refine wd_gq rfl rfl rfl (by rfl) rfl rfl rfl (.callR (yb := asc (.inl rfl) as1) (yc := ref01_SameT 1)) ?_
     refine sy 6 ?_
     refine wd_gq rfl rfl rfl (by rfl) rfl rfl rfl (.indexAddrR (yf := by omega) (yg := by exact encIs_atn (i := p.len - 1) (by omega) hz)) ?_
     refine sy 1 ?_
     refine wd_gq rfl rfl rfl (by rfl) rfl rfl rfl (.callR (yb := as1) (yc := signPos (primN_pos h0 hz))) ?_
     refine sy 5 ?_
     exact ⟨.inr rfl, rfl, (by (refine res_t rfl ?_); (rfl)), trivial⟩
end Go.Proofs.YtacenhlcfeepgaaGreat
