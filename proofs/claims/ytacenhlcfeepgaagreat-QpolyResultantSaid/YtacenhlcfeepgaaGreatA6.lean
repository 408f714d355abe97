/- The law is true whatever its arguments are, and these read behind the call as they read before (the row, part 6 of 9: our program logic, contracts of the functions, the law). No conditions. -/
import Derived.Test.YtacenhlcfeepgaaGreatA5
import Derived.Test.YtacenhlcfeepgaaGreatRows
set_option linter.unusedVariables false
set_option linter.unusedSimpArgs false
set_option linter.unusedSectionVars false
set_option maxHeartbeats 4000000
set_option maxRecDepth 100000
namespace Go.Proofs.YtacenhlcfeepgaaGreat
open Go Eng
theorem encQs_flat {l : List Rat} : (l.map encQ).all Tr.flat = true := by
 rw [List.all_eq_true]; intro t ht
 obtain ⟨q, _, rfl⟩ := List.mem_map.1 ht; rfl
theorem ref02_Sign (q : Rat) : FnP Tryz.prog tb F_ref02_Sign [encQ q] (.i .i64 q.num.sign) := ref02_SignI q.num q.den
theorem ref03_Trim (l : List Rat) : FnP Tryz.prog tb F_ref03_Trim [encQs l] (encQs (trimZ l)) := by
 refine fn1 Tryz.func82 fun G hG hK hF => ?_
 refine wp_ql (l := l) 0 rfl fun hb => ?_
 refine sx 10 ?_
 refine wp_l2 hK (krc 0 rfl krn) khn (fun sl' h' (i : Nat) => ⟨(3, .t (.i .i64 (i))) :: sl', h', 0, 0⟩) (fun i => i ≤ l.length ∧ ∀ j, i ≤ j → cf l j = 0) (fun i => i) l.length ?_ (fun _ => rfl) ?_ ?_
 ·exact ⟨Nat.le_refl _, fun j hj => cf_ge hj⟩
 ·exact il
 ·rintro i ⟨hi, hz⟩
  refine wp_s ?_
  by_cases h0 : i = 0
  ·refine sx 13 ?_
   refine wp_cF rfl (by rfl) ?_
   refine sx 6 ?_
   refine on' (.buildSliceMR (ye := asn) (yg := by decide) (yj := by decide) (yk := by decide)) ?_
   refine sx 3 ?_
   refine oed (.appendFR (yd := by decide) (ye := by decide) (yl := .inl rfl) (ym := by (simp only [← List.map_take]; exact encQs_flat)) (yn := by (simp [wds_len]; omega))) ?_
   refine sx 3 ?_
   exact ⟨.inr rfl, rfl, (by (refine res_t rfl ?_); (subst h0; simp; rw [trimZ_nil fun j => hz j (Nat.zero_le _)]; rfl)), trivial⟩
  ·refine sx 7 ?_
   refine gq (z := by simp; omega) (.indexAddrR (yf := by omega) (yg := by exact encQs_atn (i := i - 1) (x := cf l (i - 1)) (by omega) (cf_at (by omega)))) ?_
   refine sx 5 ?_
   refine wp_c rfl (fun hc => ?_) (fun hc => ?_)
   ·have hc0 : cf l (i - 1) = 0 := qsign.1 (by simpa using hc)
    refine sx 9 ?_
    exact round_n (i - 1) (by refine ⟨by omega, fun j hj => ?_⟩; by_cases e : j = i - 1; subst e; exact hc0; exact hz j (by omega)) (by omega) (by exact imp_less (by repeat' (first | exact trivial | (refine And.intro (by first | rfl | exact geti rfl (by omega)) ?_))) gb (by exact Nat.le_of_ble_eq_true rfl))
   ·have hcn : cf l (i - 1) ≠ 0 := fun e => by rw [qsign.2 e] at hc; simp at hc
    refine sx 6 ?_
    refine on' (.buildSliceMR (ye := asn) (yg := by decide) (yj := by decide) (yk := by decide)) ?_
    refine sx 3 ?_
    refine oed (.appendFR (yd := by decide) (ye := by decide) (yl := .inl rfl) (ym := by (simp only [← List.map_take]; exact encQs_flat)) (yn := by (simp [wds_len]; omega))) ?_
    refine sx 3 ?_
    have e : trimZ l = l.take i := by
     rw [← trimZ_take hz, trimZ_of_last]
     right
     simp only [List.length_take, show min i l.length = i by omega]
     simp only [cf, List.getD_eq_getElem?_getD, List.getElem?_take, show i - 1 < i by omega, if_true]
     simpa [cf, List.getD_eq_getElem?_getD] using hcn
    exact ⟨.inr rfl, rfl, (by (refine res_t rfl ?_); (rw [e]; simp [encQs])), trivial⟩
theorem ref03_Deg (p : Pol) : FnP Tryz.prog tb F_ref03_Deg [encP p] (.i .i64 (p.len - 1)) := by
 refine fn1 Tryz.func18 fun G hG hK hF => ?_
 refine wp_ql (l := p.c) 0 rfl fun hb => ?_
 refine sx 10 ?_
 exact ⟨.inr rfl, rfl, (by (refine res_t rfl ?_); (rfl)), trivial⟩
theorem ref03_At (l : List Rat) (i : Nat) (hi : (i : Int) < 9223372036854775808) : FnP Tryz.prog tb F_ref03_At [encQs l, .i .i64 i] (encQ (cf l i)) := by
 refine fn1 Tryz.func80 fun G hG hK hF => ?_
 refine sx 14 ?_
 refine wp_c rfl (fun hc => ?_) (fun hc => ?_)
 ·have h0 : l.length ≤ i := by simpa using hc
  refine sx 6 ?_
  exact ⟨.inr rfl, rfl, (by (refine res_c rfl rfl rfl rfl rfl ?_); (rw [cf_ge h0]; rfl)), trivial⟩
 ·have h0 : i < l.length := by simpa using hc
  refine sx 5 ?_
  refine oq (.indexAddrR (yf := by omega) (yg := by exact encQs_atn (i := i) rfl (cf_at h0))) ?_
  refine sx 4 ?_
  exact ⟨.inr rfl, rfl, (by (refine res_c rfl rfl rfl rfl rfl ?_); (rfl)), trivial⟩
theorem ref03_AtZ (l : List Rat) (i : Int) (hi : i < 0) : FnP Tryz.prog tb F_ref03_At [encQs l, .i .i64 i] (encQ 0) := by
 refine fn1 Tryz.func80 fun G hG hK hF => ?_
 refine sx 12 ?_
 refine oq (.pickT rfl (by simp [hi]) rfl) ?_
 refine sx 1 ?_
 refine wp_cT rfl (by rfl) ?_
 refine sx 6 ?_
 exact ⟨.inr rfl, rfl, (by (refine res_c rfl rfl rfl rfl rfl ?_); (rfl)), trivial⟩
theorem ref03_Lead (p : Pol) : FnP Tryz.prog tb F_ref03_Lead [encP p] (encQ p.lead) := by
 refine fn1 Tryz.func21 fun G hG hK hF => ?_
 refine wp_ql (l := p.c) 0 rfl fun hb => ?_
 refine sx 3 ?_
 by_cases h0 : p = 0
 ·refine sx 5 ?_
  refine oq (.callR (yb := asc (.inl rfl) as1) (yc := ref03_AtZ p.c _ (by rw [pol_nil.2 h0]; decide))) ?_
  refine sx 3 ?_
  exact ⟨.inr rfl, rfl, (by (refine res_c rfl rfl rfl rfl rfl ?_); (rw [h0]; rfl)), trivial⟩
 ·obtain ⟨k, hk⟩ : ∃ k, p.c.length = k + 1 := ⟨p.c.length - 1, by have := Poly.len_pos h0; simp only [Poly.len] at this; omega⟩
  refine sx 3 ?_
  refine oq (.lenR (yc := .inl rfl) (yd := by exact encQs_len.trans hk)) ?_
  refine oq (.arithR (yd := by exact (wrap_i64 (by omega)).trans (by omega : _ = ((k : Nat) : Int)))) ?_
  refine oq (.callR (yb := asc (.inl rfl) as1) (yc := ref03_At p.c k (by omega))) ?_
  refine sx 3 ?_
  exact ⟨.inr rfl, rfl, (by (refine res_c rfl rfl rfl rfl rfl ?_); (rw [Poly.lead, Poly.len, hk]; rfl)), trivial⟩
theorem ref03_Const (c : Rat) : FnP Tryz.prog tb F_ref03_Const [encQ c] (encP (Poly.cst c)) := by
 refine fn1 Tryz.func24 fun G hG hK hF => ?_
 refine sx 7 ?_
 refine oq (.callR (yb := as1) (yc := ref03_Trim [c])) ?_
 refine sx 3 ?_
 exact ⟨.inr rfl, rfl, (by (refine res_t rfl ?_); (rfl)), trivial⟩
theorem ref03_Scale (p : Pol) (c : Rat) (hp : PB 274877906944 p := by first | assumption | (apply PB.le; (focus (repeat' (first | assumption | apply PB.add | apply PB.sub | apply PB.neg | apply PB.monic | apply PB.scale | exact PB.zero | exact PB.one | apply PB.cst | exact Bq.zero | exact Bq.one))); omega)) (hc16 : Bq 274877906944 c := by first | assumption | (apply Bq.le; (focus (repeat' (first | assumption | apply Bq.mul | apply Bq.add | apply Bq.sub | apply Bq.neg | apply Bq.div | apply Bq.inv | exact Bq.zero | exact Bq.one | exact Bq.small (by omega)))); omega)) : FnP Tryz.prog tb F_ref03_Scale [encP p, encQ c] (encP (Poly.cst c * p)) := by
 refine fn1 Tryz.func26 fun G hG hK hF => ?_
 refine wp_ql (l := p.c) 0 rfl fun hb => ?_
 refine sx 12 ?_
 refine wp_l2 hK (krc 0 rfl (krc 3 rfl krn)) khn (fun sl' h' (i : Nat) => ⟨(5, ap T_Rat 0 (((List.range i).map fun k => cf p.c k * c).map encQ)) :: (6, .t (.i .i64 (i))) :: sl', (0, apO T_Rat (((List.range i).map fun k => cf p.c k * c).map encQ)) :: h', 1, 0⟩) (fun i => i ≤ p.c.length) (fun i => p.c.length - i) 0 ?_ (fun _ => rfl) ?_ ?_
 ·omega
 ·exact imp_ap0 5 rfl (by rfl) ga gb rfl gb rfl
 ·intro i hi
  refine sx 7 ?_
  refine wp_c rfl (fun hc => ?_) (fun hc => ?_)
  ·have hci : i < p.c.length := by simpa using hc
   refine sx 11 ?_
   refine dq (.callR (yb := asc (.inl rfl) as1) (yc := ref02_Mul (cf p.c i) c (hp.cf i) hc16)) ?_
   refine sx 1 ?_
   refine wd_ed rfl rfl rfl (.appendAR (yd := by decide) (ye := by decide) (yj := .inl rfl) (yk := by rfl) (yl := by (simp [wds_len]; omega))) (by exact trivial) ?_
   refine sx 9 ?_
   exact round_n (i + 1) (by omega) (by omega) (by exact imp_ap 5 rfl rfl (by rw [List.range_succ, List.map_append, List.map_append]; rfl) ga gb rfl gb rfl rfl)
  ·obtain rfl : i = p.c.length := by { have : ¬ i < p.c.length := by { simpa using hc }; omega }
   refine sx 5 ?_
   refine wp_imp hK (imp_apF 5 rfl rfl (ts' := ((List.range p.c.length).map fun k => cf p.c k * c).map encQ) rfl) ?_
   refine sx 6 ?_
   exact ⟨.inr rfl, rfl, (by (refine res_t rfl ?_); (refine (encP_eq fun i => ?_).symm; rw [Poly.cst_mul, cf_range]; split; exact Rat.mul_comm _ _; rw [Poly.co_ge (by show p.c.length ≤ i; omega), Rat.mul_zero])), trivial⟩
theorem ref03_Add (p q : Pol) (hp : PB 274877906944 p := by first | assumption | (apply PB.le; (focus (repeat' (first | assumption | apply PB.add | apply PB.sub | apply PB.neg | apply PB.monic | apply PB.scale | exact PB.zero | exact PB.one | apply PB.cst | exact Bq.zero | exact Bq.one))); omega)) (hq : PB 274877906944 q := by first | assumption | (apply PB.le; (focus (repeat' (first | assumption | apply PB.add | apply PB.sub | apply PB.neg | apply PB.monic | apply PB.scale | exact PB.zero | exact PB.one | apply PB.cst | exact Bq.zero | exact Bq.one))); omega)) : FnP Tryz.prog tb F_ref03_Add [encP p, encP q] (encP (p + q)) := by
 refine fn1 Tryz.func28 fun G hG hK hF => ?_
 refine wp_ql (l := p.c) 0 rfl fun hb => ?_
 refine wp_ql (l := q.c) 1 rfl fun hb2 => ?_
 refine sx 11 ?_
 refine wp_l2 hK (krc 0 rfl (krc 1 rfl krn)) khn (fun sl' h' (i : Nat) => ⟨(5, ap T_Rat 0 (((List.range i).map fun k => cf p.c k + cf q.c k).map encQ)) :: (6, .t (.i .i64 (i))) :: sl', (0, apO T_Rat (((List.range i).map fun k => cf p.c k + cf q.c k).map encQ)) :: h', 1, 0⟩) (fun i => i ≤ max p.c.length q.c.length) (fun i => max p.c.length q.c.length - i) 0 ?_ (fun _ => rfl) ?_ ?_
 ·omega
 ·exact imp_ap0 5 rfl (by rfl) ga gb rfl gb rfl
 ·intro i hi
  refine wp_s ?_
  by_cases ht : i < p.c.length
  ·refine sx 12 ?_
   refine wp_cT rfl (by rfl) ?_
   refine sx 24 ?_
   exact round_n (i + 1) (by omega) (by omega) (by exact imp_ap 5 rfl rfl (by rw [List.range_succ, List.map_append, List.map_append]; rfl) ga gb rfl gb rfl rfl)
  ·refine sx 12 ?_
   refine wp_c rfl (fun hc => ?_) (fun hc => ?_)
   ·have ht2 : i < q.c.length := by simpa using hc
    refine sx 24 ?_
    exact round_n (i + 1) (by omega) (by omega) (by exact imp_ap 5 rfl rfl (by rw [List.range_succ, List.map_append, List.map_append]; rfl) ga gb rfl gb rfl rfl)
   ·have ht2 : ¬ i < q.c.length := by simpa using hc
    refine sx 5 ?_
    refine wp_imp hK (imp_apF 5 rfl rfl (ts' := ((List.range i).map fun k => cf p.c k + cf q.c k).map encQ) rfl) ?_
    refine sx 6 ?_
    exact ⟨.inr rfl, rfl, (by (refine res_t rfl ?_); (refine (encP_eq fun j => ?_).symm; rw [Poly.co_add, cf_range]; split; rfl; rw [Poly.co_ge (p := p) (by show p.c.length ≤ j; omega), Poly.co_ge (p := q) (by show q.c.length ≤ j; omega), Rat.add_zero])), trivial⟩
theorem sub_cst {p q : Pol} : p + Poly.cst (-1) * q = p - q := Poly.ext fun i => by
 rw [Poly.co_add, Poly.co_sub, Poly.cst_mul]; grind
theorem neg_pb {n : Nat} {q : Pol} (hq : PB n q) : PB n (Poly.cst (-1) * q) := by
 have : Poly.cst (-1) * q = -q := Poly.ext fun i => by rw [Poly.co_neg, Poly.cst_mul]; grind
 rw [this]; exact hq.neg
theorem ref03_Sub (p q : Pol) (hp : PB 274877906944 p := by first | assumption | (apply PB.le; (focus (repeat' (first | assumption | apply PB.add | apply PB.sub | apply PB.neg | apply PB.monic | apply PB.scale | exact PB.zero | exact PB.one | apply PB.cst | exact Bq.zero | exact Bq.one))); omega)) (hq : PB 274877906944 q := by first | assumption | (apply PB.le; (focus (repeat' (first | assumption | apply PB.add | apply PB.sub | apply PB.neg | apply PB.monic | apply PB.scale | exact PB.zero | exact PB.one | apply PB.cst | exact Bq.zero | exact Bq.one))); omega)) : FnP Tryz.prog tb F_ref03_Sub [encP p, encP q] (encP (p - q)) := by
 refine fn1 Tryz.func30 fun G hG hK hF => ?_
 refine sx 7 ?_
 refine oq (.callR (yb := asc (.inl rfl) as1) (yc := ref03_Scale q (-1) hq ((Bq.one.neg).le (by decide)))) ?_
 refine oq (.callR (yb := asc (.inl rfl) as1) (yc := ref03_Add p _ hp (neg_pb hq))) ?_
 refine sx 3 ?_
 exact ⟨.inr rfl, rfl, (by (refine res_t rfl ?_); (rw [sub_cst])), trivial⟩
theorem cf_rep {l : List Rat} {n i : Nat} : cf (List.replicate n 0 ++ l) i = if i < n then 0 else cf l (i - n) := by
 simp only [cf, List.getD_eq_getElem?_getD, List.getElem?_append, List.length_replicate, List.getElem?_replicate]
 split <;> simp
def zrs (n : Nat) : List Rat := List.replicate n 0
theorem zrs_step {i : Nat} : (zrs i).map encQ ++ [encQ ((0 : Int) : Rat)] = (zrs (i + 1)).map encQ := by
 rw [zrs, zrs, List.replicate_succ', List.map_append]; rfl
theorem zrs_0 : [] = (zrs 0).map encQ := rfl
theorem ref03_Raise (p : Pol) (n : Nat) (hn : n + p.len ≤ 2199023255552) : FnP Tryz.prog tb F_ref03_Raise [encP p, .i .i64 n] (encP (Poly.mono 1 n * p)) := by
 have hpl : p.len = p.c.length := rfl
 refine fn1 Tryz.func92 fun G hG hK hF => ?_
 refine sx 11 ?_
 refine wp_l2 hK (krc 0 rfl (krc 1 rfl krn)) khn (fun sl' h' (i : Nat) => ⟨(5, ap T_Rat 0 ((zrs i).map encQ)) :: (6, .t (.i .i64 (i))) :: sl', (0, apO T_Rat ((zrs i).map encQ)) :: h', 1, 0⟩) (fun i => i ≤ n) (fun i => n - i) 0 ?_ (fun _ => rfl) ?_ ?_
 ·exact Nat.zero_le _
 ·exact imp_ap0 5 rfl (by exact zrs_0) ga gb rfl gb rfl
 ·intro i hi
  refine sx 6 ?_
  refine wp_c rfl (fun hc => ?_) (fun hc => ?_)
  ·have hci : i < n := by simpa using hc
   refine sx 8 ?_
   refine oed (.appendAR (yd := by decide) (ye := by decide) (yj := .inl rfl) (yk := by rfl) (yl := by (simp [zrs]; omega))) ?_
   refine sx 9 ?_
   exact round_n (i + 1) (by omega) (by omega) (by exact imp_ap 5 rfl rfl (by exact zrs_step) ga gb rfl gb rfl rfl)
  ·obtain rfl : i = n := by { have : ¬ i < n := by { simpa using hc }; omega }
   refine sx 8 ?_
   refine oed (.appendAR (yd := by decide) (ye := by decide) (yj := .inl rfl) (yk := by exact encQs_flat) (yl := by (simp [zrs]; omega))) ?_
   refine sx 2 ?_
   refine wp_imp hK (imp_apF 5 rfl rfl (ts' := (List.replicate i (0 : Rat) ++ p.c).map encQ) (by rw [List.map_append]; rfl)) ?_
   refine sx 6 ?_
   exact ⟨.inr rfl, rfl, (by (refine res_t rfl ?_); (refine (encP_eq fun j => ?_).symm; rw [Poly.co_mono_mul, cf_rep]; split; rfl; rw [Rat.one_mul]; rfl)), trivial⟩
theorem mono_step {p q : Pol} {i : Nat} {a : Rat} (h : p.c[i]? = some a) : Poly.of (p.c.take i) * q + Poly.mono 1 i * (Poly.cst a * q) = Poly.of (p.c.take (i + 1)) * q := by
 have h1 := Poly.mono_mul (1 : Rat) a i 0
 rw [Poly.mono_zero, Rat.one_mul, Nat.add_zero] at h1
 rw [Poly.of_take_succ h, ← h1]
 grind
theorem PB.pos {n : Nat} {p : Pol} (h : PB n p) : 1 ≤ n := by
 have h1 := (h.co 0).den
 have h2 := lt_wl (p.co 0).den
 have h3 := (p.co 0).den_nz
 apply Nat.le_of_not_lt
 intro hn
 rw [show wl (p.co 0).den = 0 by omega] at h2; omega
theorem PB.monomul {n m : Nat} {c : Rat} {q : Pol} (hc : Bq n c) (hq : PB m q) (s : Nat) : PB (n + m) (Poly.mono c s * q) := ⟨fun i => by
 rw [Poly.co_mono_mul]
 split
 ·exact Bq.zero.le (by have := hq.pos; omega)
 ·exact hc.mul (hq.co _)⟩
theorem pb_part {n m : Nat} {p q : Pol} (hp : PB n p) (hq : PB m q) : ∀ i, i ≤ p.c.length → PB (1 + i * (n + m + 1)) (Poly.of (p.c.take i) * q)
 | 0, _ => by rw [Poly.of_take_zero, Poly.zero_mul']; exact PB.zero.le (by omega)
 | i + 1, hi => by
  have hx : p.c[i]? = some (cf p.c i) := cf_at (by omega)
  have e : Poly.of (p.c.take (i + 1)) * q = Poly.of (p.c.take i) * q + Poly.mono (cf p.c i) i * q := by rw [Poly.of_take_succ hx]; grind
  rw [e]
  refine ((pb_part hp hq i (by omega)).add (PB.monomul (hp.cf i) hq i)).le ?_
  rw [Nat.succ_mul]; omega
theorem mono_cst (a : Rat) (i : Nat) (q : Pol) : Poly.mono 1 i * (Poly.cst a * q) = Poly.mono a i * q := Poly.ext fun k => by
 rw [Poly.co_mono_mul, Poly.co_mono_mul]
 split
 ·rfl
 ·rw [Poly.cst_mul, Rat.one_mul]
theorem len_cst_mul (a : Rat) (q : Pol) : (Poly.cst a * q).len ≤ q.len := by
 have h1 := Poly.len_mul_le (Poly.cst a) q
 have h2 := Poly.len_cst a
 omega
theorem ref03_Mul (p q : Pol) {n m : Nat} (hp : PB n p) (hq : PB m q) (hs : 1 + p.len * (n + m + 1) ≤ 274877906944) (hll : p.len + q.len ≤ 2199023255553) : FnP Tryz.prog tb F_ref03_Mul [encP p, encP q] (encP (p * q)) := by
 refine fn1 Tryz.func32 fun G hG hK hF => ?_
 refine wp_ql (l := p.c) 0 rfl fun hb => ?_
 refine sx 11 ?_
 refine wp_imp hK (imp_nil 5 T_Rat rfl) ?_
 refine wp_l2 hK (krc 0 rfl (krc 1 rfl krn)) khn (fun sl' h' (i : Nat) => ⟨(5, .t (encP (Poly.of (p.c.take i) * q))) :: (6, .t (.i .i64 (i))) :: sl', h', 0, 0⟩) (fun i => i ≤ p.c.length) (fun i => p.c.length - i) 0 ?_ (fun _ => rfl) ?_ ?_
 ·omega
 ·exact il
 ·intro i hi
  refine sx 7 ?_
  refine wp_c rfl (fun hc => ?_) (fun hc => ?_)
  ·have hci : i < p.c.length := by simpa using hc
   have hpl : p.len = p.c.length := rfl
   have hs1 := mul_le hs (show i + 1 ≤ p.len by omega)
   rw [Nat.succ_mul] at hs1
   have hb1 : Bq 274877906944 (cf p.c i) := (hp.cf i).le (by omega)
   have hb2 : PB 274877906944 q := hq.le (by omega)
   have hb3 := (pb_part hp hq i (by omega)).le (show _ ≤ 274877906944 by omega)
   have hb4 : PB 274877906944 (Poly.mono 1 i * (Poly.cst (cf p.c i) * q)) := by rw [mono_cst]; exact (PB.monomul (hp.cf i) hq i).le (by omega)
   have hlq := len_cst_mul (cf p.c i) q
   refine sx 11 ?_
   refine oq (.callR (yb := asc (.inl rfl) as1) (yc := ref03_Scale q (cf p.c i) hb2 hb1)) ?_
   refine om ?_
   refine oq (.callR (yb := asc (.inl rfl) as1) (yc := ref03_Raise _ i (by omega))) ?_
   refine oq (.callR (yb := asc (.inl rfl) as1) (yc := ref03_Add _ _ hb3 hb4)) ?_
   refine sx 9 ?_
   exact round_n (i + 1) (by omega) (by omega) (by exact imp_less (by repeat' (first | exact trivial | (refine And.intro (by first | rfl | exact gett rfl (congrArg encP (mono_step (cf_at hci)))) ?_))) gb (by exact Nat.le_of_ble_eq_true rfl))
  ·obtain rfl : i = p.c.length := by { have : ¬ i < p.c.length := by { simpa using hc }; omega }
   refine sx 10 ?_
   exact ⟨.inr rfl, rfl, (by (refine res_t rfl ?_); (rw [Poly.of_take_all (p := p) (n := p.c.length) (Nat.le_refl _)])), trivial⟩
theorem pc_nz {p : Pol} (h : ((p.c.length : Int) == 0) = true) : p = 0 := pol_nil.1 (List.length_eq_zero_iff.1 (bz h))
theorem pc_nn {p : Pol} (h : ((p.c.length : Int) == 0) = false) : p ≠ 0 := fun e => bnz h (by rw [pol_nil.2 e]; rfl)
theorem ref03_DivZ (p : Pol) : FnP Tryz.prog tb F_ref03_Div [encP p, .sl T_Rat []] (.tu [.sl T_Rat [], .sl T_Rat [], .i .i64 5]) := by
 refine fnP_T tbOk Tryz.func34 rfl rfl (Nat.le_of_ble_eq_true rfl) rfl fun G hG hK => ?_
 have hF : Wd Fence.wide := .inl rfl
 refine sx 11 ?_
 refine wp_cT rfl (by rfl) ?_
 refine sx 7 ?_
 exact ⟨.inr rfl, rfl, (by (refine res_nl rfl ?_); (rfl)), (by (refine res_nl rfl ?_); (rfl)), (by (refine res_t rfl ?_); (rfl)), trivial⟩
theorem encP_trim (p : Pol) : encQs (trimZ p.c) = encP p := by rw [p.can]; rfl
theorem part_eq (r q : Pol) : Poly.mono 1 (r.len - q.len) * Poly.cst (r.lead / q.lead) = Poly.part r q := by
 have h1 := Poly.mono_mul (1 : Rat) (r.lead / q.lead) (r.len - q.len) 0
 rw [Poly.mono_zero, Rat.one_mul, Nat.add_zero] at h1
 exact h1
theorem ref03_Div (p q : Pol) (hq : q ≠ 0) {n m : Nat} (hpB : CDB n p) (hqB : CDB m q) (X : Nat) (hX : p.len + 1 - q.len ≤ X) (hs : 1 + X * (n + X * (m + 1) + 2 * m + 5) ≤ 274877906944) : FnP Tryz.prog tb F_ref03_Div [encP p, encP q] (.tu [encP (p / q), encP (p % q), .i .i64 0]) := by
 have hql := Poly.len_pos hq
 have hqq : q.len = q.c.length := rfl
 refine fnP_T tbOk Tryz.func34 rfl rfl (Nat.le_of_ble_eq_true rfl) rfl fun G hG hK => ?_
 have hF : Wd Fence.wide := .inl rfl
 refine wp_ql (l := q.c) 1 rfl fun hb2 => ?_
 refine sx 11 ?_
 refine wp_cF rfl (by have := mt pol_nil.1 hq; simp [this]) ?_
 refine sx 4 ?_
 refine oq (.callR (yb := as1) (yc := ref03_Trim p.c)) ?_
 refine sx 4 ?_
 refine wp_imp hK (imp_nil 4 T_Rat rfl) ?_
 refine wp_l2 hK (krc 1 rfl krn) khn (fun sl' h' ((a, r) : Pol × Pol) => ⟨(4, .t (encP a)) :: (5, .t (encP r)) :: sl', h', 0, 0⟩) (fun (a, r) => p = a * q + r ∧ r.len ≤ p.len ∧ CDB (n + (p.len - max r.len (q.len - 1)) * (m + 1)) r ∧ PB (1 + (p.len - max r.len (q.len - 1)) * (n + X * (m + 1) + m + 3)) a) (fun (_, r) => r.len) (0, p) ?_ (fun _ => rfl) ?_ ?_
 ·exact ⟨(by grind : p = 0 * q + p), Nat.le_refl _, hpB.le (Nat.le_add_right _ _), PB.zero.le (by omega)⟩
 ·exact imp_less (by repeat' (first | exact trivial | (refine And.intro (by first | rfl | exact gett rfl (encP_trim p)) ?_))) gb (by exact Nat.le_of_ble_eq_true rfl)
 ·rintro ⟨a, r⟩ ⟨hi, hrp, hrB, haB⟩
  refine wp_ql (l := r.c) 5 rfl fun hb3 => ?_
  have hrr : r.len = r.c.length := rfl
  refine sx 8 ?_
  refine wp_c rfl (fun hc => ?_) (fun hc => ?_)
  ·have hle : q.len ≤ r.len := by have := of_decide_eq_true hc; omega
   obtain ⟨X', hX'⟩ : ∃ X', X' = p.len - max r.len (q.len - 1) := ⟨_, rfl⟩
   rw [← hX'] at hrB haB
   have hXX : X' + 1 ≤ X := by omega
   have hq1 := Nat.mul_le_mul_right (m + 1) (show X' + 1 ≤ X by omega)
   have hq2 := Nat.mul_le_mul_right (n + X * (m + 1) + m + 3) (show X' + 1 ≤ X by omega)
   have hq3 := Nat.mul_le_mul (show 1 ≤ X by omega) (Nat.le_refl (n + X * (m + 1) + 2 * m + 5))
   have hq4 := Nat.mul_le_mul (Nat.le_refl X) (show n + X * (m + 1) + m + 3 ≤ n + X * (m + 1) + 2 * m + 5 by omega)
   rw [Nat.succ_mul] at hq1 hq2
   have hr16 : Bq 274877906943 r.lead := hrB.pb.lead.le (by omega)
   have hq16 : Bq 274877906943 q.lead := hqB.pb.lead.le (by omega)
   have hpt : PB (n + X * (m + 1) + m + 2) (Poly.mono 1 (r.len - q.len) * Poly.cst (r.lead / q.lead)) := by rw [part_eq]; exact ((CDB.part hrB.pb hqB.pb (r.len - 1) (r.len - q.len)).le (by omega)).pb
   have hpl : (Poly.mono 1 (r.len - q.len) * Poly.cst (r.lead / q.lead)).len ≤ X := by
    have h1 : (Poly.part r q).len ≤ r.len - q.len + 1 := Poly.len_le fun i hi => by rw [Poly.part, Poly.co_mono, if_neg (by omega)]
    rw [part_eq]; omega
   have hpl2 : (Poly.mono 1 (r.len - q.len) * Poly.cst (r.lead / q.lead)).len ≤ r.len - q.len + 1 := by
    rw [part_eq]; exact Poly.len_le fun i hi => by rw [Poly.part, Poly.co_mono, if_neg (by omega)]
   have hq5 := Nat.mul_le_mul hpl (show n + X * (m + 1) + m + 2 + m + 1 ≤ n + X * (m + 1) + 2 * m + 5 by omega)
   have ha16 : PB 274877906944 a := haB.le (by omega)
   have hpt16 := hpt.le (show _ ≤ 274877906944 by omega)
   have hrr16 : PB 274877906944 r := hrB.pb.le (by omega)
   have hlm := Poly.len_mul_le (Poly.part r q) q
   have hpq : PB 274877906944 (Poly.mono 1 (r.len - q.len) * Poly.cst (r.lead / q.lead) * q) := by rw [part_eq]; exact (PB.monomul (hrB.pb.lead.div hqB.pb.lead) hqB.pb _).le (by omega)
   have hst := hrB.step hqB hq (r.len - 1) (r.len - q.len)
   have hsl := Poly.part_len hq hle
   refine sx 5 ?_
   refine oq (.callR (yb := as1) (yc := ref03_Lead r)) ?_
   refine om ?_
   refine oq (.callR (yb := as1) (yc := ref03_Lead q)) ?_
   refine oq (.callR (yb := asc (.inl rfl) as1) (yc := ref02_Quo _ _ (Poly.lead_ne hq) hr16 hq16)) ?_
   refine sx 5 ?_
   refine oq (.arithR (yd := by exact (wrap_i64 (by omega)).trans (by omega : _ = ((r.len - q.len : Nat) : Int)))) ?_
   refine oq (.callR (yb := asc (.inl rfl) as1) (yc := ref03_Raise _ (r.len - q.len) (by have := Poly.len_cst (r.lead / q.lead); omega))) ?_
   refine sx 5 ?_
   refine oq (.callR (yb := asc (.inl rfl) as1) (yc := ref03_Add a _ ha16 hpt16)) ?_
   refine sx 6 ?_
   refine oq (.callR (yb := asc (.inl rfl) as1) (yc := ref03_Mul _ q hpt hqB.pb (by omega) (by omega))) ?_
   refine oq (.callR (yb := asc (.inl rfl) as1) (yc := ref03_Sub r _ hrr16 hpq)) ?_
   refine sx 3 ?_
   exact round_n (a + Poly.part r q, r - Poly.part r q * q) (by refine ⟨by show p = (a + Poly.part r q) * q + (r - Poly.part r q * q); rw [hi]; grind, by omega, hst.le ?_, (haB.add (by rw [← part_eq]; exact hpt)).le ?_⟩; (obtain ⟨Y, hY⟩ : ∃ Y, Y = p.len - max (r - Poly.part r q * q).len (q.len - 1) := ⟨_, rfl⟩); rw [← hY]; (have hy := Nat.mul_le_mul_right (m + 1) (show X' + 1 ≤ Y by omega)); rw [Nat.succ_mul] at hy; omega; (obtain ⟨Y, hY⟩ : ∃ Y, Y = p.len - max (r - Poly.part r q * q).len (q.len - 1) := ⟨_, rfl⟩); rw [← hY]; (have hy := Nat.mul_le_mul_right (n + X * (m + 1) + m + 3) (show X' + 1 ≤ Y by omega)); rw [Nat.succ_mul] at hy; omega) (by exact Poly.part_len hq hle) (by exact imp_less (by repeat' (first | exact trivial | (refine And.intro (by first | rfl | exact gett rfl (by rw [part_eq])) ?_))) gb (by exact Nat.le_of_ble_eq_true rfl))
  ·have hlt : r.len < q.len := by have := of_decide_eq_false hc; omega
   have hu := Poly.div_unique hq hi hlt
   refine sx 13 ?_
   exact ⟨.inr rfl, rfl, (by (refine res_t rfl ?_); (rw [hu.1])), (by (refine res_t rfl ?_); (rw [hu.2])), (by (refine res_t rfl ?_); (rfl)), trivial⟩
theorem ref03_Quo (p q : Pol) (hq : q ≠ 0) {n m : Nat} (hpB : CDB n p) (hqB : CDB m q) (X : Nat) (hX : p.len + 1 - q.len ≤ X) (hs : 1 + X * (n + X * (m + 1) + 2 * m + 5) ≤ 274877906944) : FnP Tryz.prog tb F_ref03_Quo [encP p, encP q] (encP (p / q)) := by
 refine fn1 Tryz.func100 fun G hG hK hF => ?_
 refine sx 20 ?_
 exact ⟨.inr rfl, rfl, (by (refine res_t rfl ?_); (rfl)), trivial⟩
theorem ref03_Mod (p q : Pol) (hq : q ≠ 0) {n m : Nat} (hpB : CDB n p) (hqB : CDB m q) (X : Nat) (hX : p.len + 1 - q.len ≤ X) (hs : 1 + X * (n + X * (m + 1) + 2 * m + 5) ≤ 274877906944) : FnP Tryz.prog tb F_ref03_Mod [encP p, encP q] (encP (p % q)) := by
 refine fn1 Tryz.func99 fun G hG hK hF => ?_
 refine sx 20 ?_
 exact ⟨.inr rfl, rfl, (by (refine res_t rfl ?_); (rfl)), trivial⟩
theorem ref03_Monic (p : Pol) (hp : PB 274877906900 p := by first | assumption | (apply PB.le; (focus (repeat' (first | assumption | apply PB.add | apply PB.sub | apply PB.neg | apply PB.monic | apply PB.scale | exact PB.zero | exact PB.one | apply PB.cst | exact Bq.zero | exact Bq.one))); omega)) : FnP Tryz.prog tb F_ref03_Monic [encP p] (encP p.monic) := by
 refine fn1 Tryz.func38 fun G hG hK hF => ?_
 refine sx 9 ?_
 refine wp_c rfl (fun hc => ?_) (fun hc => ?_)
 ·have h0 : p = 0 := pc_nz hc
  refine sx 5 ?_
  exact ⟨.inr rfl, rfl, (by (refine res_nl rfl ?_); (subst h0; rw [Poly.monic_zero, pol_nil.2 rfl]; rfl)), trivial⟩
 ·have h0 : p ≠ 0 := pc_nn hc
  refine sx 7 ?_
  refine oq (.callR (yb := asc (.inl rfl) as1) (yc := ref02_Quo _ _ (Poly.lead_ne h0) (Bq.one.le (by decide)) (hp.lead.le (by decide)))) ?_
  refine oq (.callR (yb := asc (.inl rfl) as1) (yc := ref03_Scale p _ (hp.le (by decide)) ((Bq.one.div hp.lead).le (by decide)))) ?_
  refine sx 3 ?_
  exact ⟨.inr rfl, rfl, (by (refine res_t rfl ?_); (rfl)), trivial⟩
theorem ref03_Same (p q : Pol) : FnP Tryz.prog tb F_ref03_Same [encP p, encP q] (.b (decide (p = q))) := by
 refine fn1 Tryz.func22 fun G hG hK hF => ?_
 refine sx 6 ?_
 refine oq (.callR (yb := asc (.inl rfl) as1) (yc := ref02_SameAll p.c q.c)) ?_
 refine sx 3 ?_
 exact ⟨.inr rfl, rfl, (by (refine res_t rfl ?_); (exact trb (decide_eq_decide.2 ⟨fun h => Poly.ext' h, fun h => by rw [h]⟩))), trivial⟩
theorem ref03_Eval (p : Pol) (x : Rat) {n m : Nat} (hp : PB n p) (hx : Bq m x) (hs : 1 + p.len * (n + m + 2) ≤ 274877906944) : FnP Tryz.prog tb F_ref03_Eval [encP p, encQ x] (encQ (p.eval x)) := by
 refine fn1 Tryz.func43 fun G hG hK hF => ?_
 refine wp_ql (l := p.c) 0 rfl fun hb => ?_
 refine sx 17 ?_
 refine wp_l2 hK (krc 0 rfl (krc 3 rfl (krc 4 rfl (krc 5 rfl krn)))) (khc 0 rfl khn) (fun sl' h' ((k, o) : Nat × Rat) => ⟨(6, .t (.i .i64 ((k : Int) - 1))) :: sl', (1, some (.arr T_Rat [.t (encQ o)])) :: h', 2, 0⟩) (fun (k, o) => k ≤ p.c.length ∧ o = Poly.evalL (p.c.drop k) x ∧ Bq (1 + (p.c.length - k) * (n + m + 2)) o) (fun (k, _) => k) (p.c.length, 0) ?_ (fun _ => rfl) ?_ ?_
 ·exact ⟨Nat.le_refl _, by rw [List.drop_length]; rfl, Bq.zero.le (by omega)⟩
 ·exact il
 ·rintro ⟨k, o⟩ ⟨hk, ho, hB⟩
  refine sx 5 ?_
  refine wp_c rfl (fun hc => ?_) (fun hc => ?_)
  ·obtain ⟨k, rfl⟩ : ∃ j, k = j + 1 := ⟨k - 1, by simp at hc; omega⟩
   have e : ((k + 1 : Nat) : Int) - 1 = (k : Int) := by omega
   rw [e]
   have hnn := mul_le hs (show p.c.length - (k + 1) + 1 ≤ p.len by simp only [Poly.len]; omega)
   rw [Nat.succ_mul] at hnn
   have hb1 : Bq 274877906944 o := hB.le (by omega)
   have hb2 : Bq 274877906944 x := hx.le (by omega)
   have hb3 : Bq 274877906944 (o * x) := (hB.mul hx).le (by omega)
   have hb4 : Bq 274877906944 (cf p.c k) := (hp.cf k).le (by omega)
   have hb5 := ((hB.mul hx).add (hp.cf k))
   refine sx 7 ?_
   refine dq (.callR (yb := asc (.inl rfl) as1) (yc := ref02_Mul o x hb1 hb2)) ?_
   refine sx 4 ?_
   refine dq (.callR (yb := asc (.inl rfl) as1) (yc := ref02_Add (o * x) _ hb3 hb4)) ?_
   refine sx 9 ?_
   exact round_n (k, o * x + cf p.c k) (by refine ⟨by omega, ?_⟩; rw [drop_cf (by omega), Poly.evalL, ← ho]; exact ⟨by grind, hb5.le (by rw [show p.c.length - k = p.c.length - (k + 1) + 1 by omega, Nat.succ_mul]; omega)⟩) (by (simp only; omega)) (by exact il)
  ·obtain rfl : k = 0 := by simp at hc; omega
   refine sx 10 ?_
   exact ⟨.inr rfl, rfl, (by (refine res_c rfl rfl rfl rfl rfl ?_); (rw [ho]; rfl)), trivial⟩
theorem ref03_Deriv (p : Pol) (hp : PB 274877906944 p := by first | assumption | (apply PB.le; (focus (repeat' (first | assumption | apply PB.add | apply PB.sub | apply PB.neg | apply PB.monic | apply PB.scale | exact PB.zero | exact PB.one | apply PB.cst | exact Bq.zero | exact Bq.one))); omega)) : FnP Tryz.prog tb F_ref03_Deriv [encP p] (encP p.deriv) := by
 refine fn1 Tryz.func45 fun G hG hK hF => ?_
 refine wp_ql (l := p.c) 0 rfl fun hb => ?_
 refine sx 11 ?_
 refine wp_l2 hK (krc 0 rfl krn) khn (fun sl' h' (i : Nat) => ⟨(3, ap T_Rat 0 (((List.range i).map fun k => cf p.c (k + 1) * (((k + 1 : Nat) : Int) : Rat)).map encQ)) :: (4, .t (.i .i64 ((i + 1 : Nat)))) :: sl', (0, apO T_Rat (((List.range i).map fun k => cf p.c (k + 1) * (((k + 1 : Nat) : Int) : Rat)).map encQ)) :: h', 1, 0⟩) (fun i => i ≤ p.c.length) (fun i => p.c.length - i) 0 ?_ (fun _ => rfl) ?_ ?_
 ·exact Nat.zero_le _
 ·exact imp_ap0 3 rfl (by rfl) ga gb rfl gb rfl
 ·intro i hi
  refine sx 7 ?_
  refine wp_c rfl (fun hc => ?_) (fun hc => ?_)
  ·have hci : i + 1 < p.c.length := by have := of_decide_eq_true hc; omega
   refine sx 8 ?_
   refine dq (.indexAddrR (yf := by omega) (yg := by exact encQs_atn (i := i + 1) rfl (cf_at hci))) ?_
   refine sx 2 ?_
   refine dq (.callR (yb := as1) (yc := ref02_Int ((i + 1 : Nat) : Int) (by omega) (by omega))) ?_
   refine dq (.callR (yb := asc (.inl rfl) as1) (yc := ref02_Mul (cf p.c (i + 1)) _ (hp.cf _) ((Bq.small (z := ((i + 1 : Nat) : Int)) (by omega)).le (by decide)))) ?_
   refine sx 1 ?_
   refine wd_ed rfl rfl rfl (.appendAR (yd := by decide) (ye := by decide) (yj := .inl rfl) (yk := by rfl) (yl := by (simp [wds_len]; omega))) (by exact trivial) ?_
   refine sx 9 ?_
   exact round_n (i + 1) (by omega) (by omega) (by exact imp_ap 3 rfl rfl (by rw [List.range_succ, List.map_append, List.map_append]; rfl) ga gb rfl gb rfl rfl)
  ·have hci : p.c.length ≤ i + 1 := by have := of_decide_eq_false hc; omega
   refine sx 5 ?_
   refine wp_imp hK (imp_apF 3 rfl rfl (ts' := ((List.range i).map fun k => cf p.c (k + 1) * (((k + 1 : Nat) : Int) : Rat)).map encQ) rfl) ?_
   refine sx 6 ?_
   exact ⟨.inr rfl, rfl, (by (refine res_t rfl ?_); (refine (encP_eq fun j => ?_).symm; rw [Poly.co_deriv, cf_range, nc_rat]; split; rw [Rat.mul_comm]; rfl; rw [Poly.co_ge (by show p.c.length ≤ j + 1; omega), Rat.mul_zero])), trivial⟩
theorem ref03_Compose (p q : Pol) (hok : p.len ≤ 1 ∨ q.len ≤ 1 ∨ p.len - 1 ≤ 4000 / (q.len - 1)) {n m L : Nat} (hpB : PB n p) (hqB : CDB m q) (hL : p.len * q.len + 1 ≤ L) (hs : 1 + L * (p.len * (m + n + L + 2) + 2 * m + 2) ≤ 274877906944) : FnP Tryz.prog tb F_ref03_Compose [encP p, encP q] (.tu [encP (p.comp q), .i .i64 0]) := by
 have hpl : p.len = p.c.length := rfl
 have hql : q.len = q.c.length := rfl
 refine fnP_T tbOk Tryz.func41 rfl rfl (Nat.le_of_ble_eq_true rfl) rfl fun G hG hK => ?_
 have hF : Wd Fence.wide := .inl rfl
 refine wp_ql (l := p.c) 0 rfl fun hb => ?_
 refine wp_ql (l := q.c) 1 rfl fun hb2 => ?_
 refine sx 5 ?_
 rcases (show p.len ≤ 1 ∨ (1 < p.len ∧ q.len ≤ 1) ∨ (1 < p.len ∧ 1 < q.len ∧ p.len - 1 ≤ 4000 / (q.len - 1)) by omega) with h1 | ⟨h1, h2⟩ | ⟨h1, h2, h3⟩
 ·refine sx 18 ?_
  refine wp_cF rfl (by rfl) ?_
  refine sx 13 ?_
  refine wp_imp hK (imp_nil 6 T_Rat rfl) ?_
  refine wp_l2 hK (krc 0 rfl (krc 1 rfl krn)) khn (fun sl' h' ((k, o) : Nat × Pol) => ⟨(6, .t (encP o)) :: (7, .t (.i .i64 ((k : Int) - 1))) :: sl', h', 0, 0⟩) (fun (k, o) => k ≤ p.c.length ∧ o = Poly.compL (p.c.drop k) q) (fun (k, _) => k) (p.c.length, 0) ?_ (fun _ => rfl) ?_ ?_
  ·exact ⟨Nat.le_refl _, by rw [List.drop_length]; rfl⟩
  ·exact il
  ·rintro ⟨k, o⟩ ⟨hk, ho⟩
   refine sx 5 ?_
   refine wp_c rfl (fun hc => ?_) (fun hc => ?_)
   ·obtain ⟨k, rfl⟩ : ∃ j, k = j + 1 := ⟨k - 1, by simp at hc; omega⟩
    have e : ((k + 1 : Nat) : Int) - 1 = (k : Int) := by omega
    rw [e]
    have hdl : (p.c.drop (k + 1)).length = p.c.length - (k + 1) := by rw [List.length_drop]
    have hmm := Nat.mul_le_mul_right q.len (show p.c.length - (k + 1) ≤ p.len by omega)
    obtain ⟨u1, u2⟩ := CDB.compL hqB (l := p.c.drop (k + 1)) (n := n) (L := L) (fun a ha => by obtain ⟨j, hj, rfl⟩ := List.mem_iff_getElem.1 (List.mem_of_mem_drop ha); have := hpB.co j; rw [show p.co j = p.c[j] from cf_lt hj] at this; exact this) (by rw [hdl]; omega)
    rw [← ho, hdl] at u1 u2
    have hm3 := Nat.mul_le_mul_right (m + n + L + 2) (show p.c.length - (k + 1) + 1 ≤ p.len by omega)
    rw [Nat.succ_mul] at hm3
    have hm4 := Nat.mul_le_mul (show 1 ≤ L by omega) (Nat.le_refl (p.len * (m + n + L + 2) + 2 * m + 2))
    have hm5 := Nat.mul_le_mul (show o.len ≤ L by omega) (show (p.c.length - (k + 1)) * (m + n + L + 2) + 1 + m + 1 ≤ p.len * (m + n + L + 2) + 2 * m + 2 by omega)
    have hcm := (u1.mul hqB).pb.le (show _ ≤ 274877906944 by omega)
    have hcc : PB 274877906944 (Poly.cst (cf p.c k)) := (PB.cst (hpB.cf k)).le (by omega)
    have hm6 := Nat.mul_le_mul (show 1 ≤ p.len by omega) (Nat.le_refl q.len)
    have hm7 : L ≤ 274877906944 := by have := Nat.mul_le_mul (Nat.le_refl L) (show 1 ≤ p.len * (m + n + L + 2) + 2 * m + 2 by omega); omega
    refine sx 23 ?_
    exact round_n (k, o * q + Poly.cst (cf p.c k)) (by refine ⟨by omega, ?_⟩; rw [drop_cf (by omega), Poly.compL, ← ho]) (by (simp only; omega)) (by exact il)
   ·obtain rfl : k = 0 := by simp at hc; omega
    refine sx 11 ?_
    exact ⟨.inr rfl, rfl, (by (refine res_t rfl ?_); (rw [ho]; rfl)), (by (refine res_t rfl ?_); (rfl)), trivial⟩
 ·refine sx 18 ?_
  refine wp_cF rfl (by rfl) ?_
  refine sx 13 ?_
  refine wp_imp hK (imp_nil 6 T_Rat rfl) ?_
  refine wp_l2 hK (krc 0 rfl (krc 1 rfl krn)) khn (fun sl' h' ((k, o) : Nat × Pol) => ⟨(6, .t (encP o)) :: (7, .t (.i .i64 ((k : Int) - 1))) :: sl', h', 0, 0⟩) (fun (k, o) => k ≤ p.c.length ∧ o = Poly.compL (p.c.drop k) q) (fun (k, _) => k) (p.c.length, 0) ?_ (fun _ => rfl) ?_ ?_
  ·exact ⟨Nat.le_refl _, by rw [List.drop_length]; rfl⟩
  ·exact il
  ·rintro ⟨k, o⟩ ⟨hk, ho⟩
   refine sx 5 ?_
   refine wp_c rfl (fun hc => ?_) (fun hc => ?_)
   ·obtain ⟨k, rfl⟩ : ∃ j, k = j + 1 := ⟨k - 1, by simp at hc; omega⟩
    have e : ((k + 1 : Nat) : Int) - 1 = (k : Int) := by omega
    rw [e]
    have hdl : (p.c.drop (k + 1)).length = p.c.length - (k + 1) := by rw [List.length_drop]
    have hmm := Nat.mul_le_mul_right q.len (show p.c.length - (k + 1) ≤ p.len by omega)
    obtain ⟨u1, u2⟩ := CDB.compL hqB (l := p.c.drop (k + 1)) (n := n) (L := L) (fun a ha => by obtain ⟨j, hj, rfl⟩ := List.mem_iff_getElem.1 (List.mem_of_mem_drop ha); have := hpB.co j; rw [show p.co j = p.c[j] from cf_lt hj] at this; exact this) (by rw [hdl]; omega)
    rw [← ho, hdl] at u1 u2
    have hm3 := Nat.mul_le_mul_right (m + n + L + 2) (show p.c.length - (k + 1) + 1 ≤ p.len by omega)
    rw [Nat.succ_mul] at hm3
    have hm4 := Nat.mul_le_mul (show 1 ≤ L by omega) (Nat.le_refl (p.len * (m + n + L + 2) + 2 * m + 2))
    have hm5 := Nat.mul_le_mul (show o.len ≤ L by omega) (show (p.c.length - (k + 1)) * (m + n + L + 2) + 1 + m + 1 ≤ p.len * (m + n + L + 2) + 2 * m + 2 by omega)
    have hcm := (u1.mul hqB).pb.le (show _ ≤ 274877906944 by omega)
    have hcc : PB 274877906944 (Poly.cst (cf p.c k)) := (PB.cst (hpB.cf k)).le (by omega)
    have hm6 := Nat.mul_le_mul (show 1 ≤ p.len by omega) (Nat.le_refl q.len)
    have hm7 : L ≤ 274877906944 := by have := Nat.mul_le_mul (Nat.le_refl L) (show 1 ≤ p.len * (m + n + L + 2) + 2 * m + 2 by omega); omega
    refine sx 23 ?_
    exact round_n (k, o * q + Poly.cst (cf p.c k)) (by refine ⟨by omega, ?_⟩; rw [drop_cf (by omega), Poly.compL, ← ho]) (by (simp only; omega)) (by exact il)
   ·obtain rfl : k = 0 := by simp at hc; omega
    refine sx 11 ?_
    exact ⟨.inr rfl, rfl, (by (refine res_t rfl ?_); (rw [ho]; rfl)), (by (refine res_t rfl ?_); (rfl)), trivial⟩
 ·refine sx 14 ?_
  refine gq (z := by (simp; omega)) (.quoR (yc := by omega) (yd := by exact (congrArg (fun x : Int => IntKind.i64.wrap ((4000 : Int).tdiv x)) (by omega : ((q.len : Int) - 1) = ((q.len - 1 : Nat) : Int))).trans ((congrArg IntKind.i64.wrap (Int.ofNat_tdiv 4000 (q.len - 1)).symm).trans (wrap_i64 (by have := Nat.div_le_self 4000 (q.len - 1); omega))))) ?_
  refine sx 3 ?_
  refine wp_cF rfl (by refine decide_eq_false ?_; generalize 4000 / (q.len - 1) = t at *; omega) ?_
  refine sx 13 ?_
  refine wp_imp hK (imp_nil 6 T_Rat rfl) ?_
  refine wp_l2 hK (krc 0 rfl (krc 1 rfl krn)) khn (fun sl' h' ((k, o) : Nat × Pol) => ⟨(6, .t (encP o)) :: (7, .t (.i .i64 ((k : Int) - 1))) :: sl', h', 0, 0⟩) (fun (k, o) => k ≤ p.c.length ∧ o = Poly.compL (p.c.drop k) q) (fun (k, _) => k) (p.c.length, 0) ?_ (fun _ => rfl) ?_ ?_
  ·exact ⟨Nat.le_refl _, by rw [List.drop_length]; rfl⟩
  ·exact il
  ·rintro ⟨k, o⟩ ⟨hk, ho⟩
   refine sx 5 ?_
   refine wp_c rfl (fun hc => ?_) (fun hc => ?_)
   ·obtain ⟨k, rfl⟩ : ∃ j, k = j + 1 := ⟨k - 1, by simp at hc; omega⟩
    have e : ((k + 1 : Nat) : Int) - 1 = (k : Int) := by omega
    rw [e]
    have hdl : (p.c.drop (k + 1)).length = p.c.length - (k + 1) := by rw [List.length_drop]
    have hmm := Nat.mul_le_mul_right q.len (show p.c.length - (k + 1) ≤ p.len by omega)
    obtain ⟨u1, u2⟩ := CDB.compL hqB (l := p.c.drop (k + 1)) (n := n) (L := L) (fun a ha => by obtain ⟨j, hj, rfl⟩ := List.mem_iff_getElem.1 (List.mem_of_mem_drop ha); have := hpB.co j; rw [show p.co j = p.c[j] from cf_lt hj] at this; exact this) (by rw [hdl]; omega)
    rw [← ho, hdl] at u1 u2
    have hm3 := Nat.mul_le_mul_right (m + n + L + 2) (show p.c.length - (k + 1) + 1 ≤ p.len by omega)
    rw [Nat.succ_mul] at hm3
    have hm4 := Nat.mul_le_mul (show 1 ≤ L by omega) (Nat.le_refl (p.len * (m + n + L + 2) + 2 * m + 2))
    have hm5 := Nat.mul_le_mul (show o.len ≤ L by omega) (show (p.c.length - (k + 1)) * (m + n + L + 2) + 1 + m + 1 ≤ p.len * (m + n + L + 2) + 2 * m + 2 by omega)
    have hcm := (u1.mul hqB).pb.le (show _ ≤ 274877906944 by omega)
    have hcc : PB 274877906944 (Poly.cst (cf p.c k)) := (PB.cst (hpB.cf k)).le (by omega)
    have hm6 := Nat.mul_le_mul (show 1 ≤ p.len by omega) (Nat.le_refl q.len)
    have hm7 : L ≤ 274877906944 := by have := Nat.mul_le_mul (Nat.le_refl L) (show 1 ≤ p.len * (m + n + L + 2) + 2 * m + 2 by omega); omega
    refine sx 23 ?_
    exact round_n (k, o * q + Poly.cst (cf p.c k)) (by refine ⟨by omega, ?_⟩; rw [drop_cf (by omega), Poly.compL, ← ho]) (by (simp only; omega)) (by exact il)
   ·obtain rfl : k = 0 := by simp at hc; omega
    refine sx 11 ?_
    exact ⟨.inr rfl, rfl, (by (refine res_t rfl ?_); (rw [ho]; rfl)), (by (refine res_t rfl ?_); (rfl)), trivial⟩
def intL (l : List Rat) (i : Nat) : List Rat := 0 :: (List.range i).map fun k => cf l k / (((k : Int) + 1 : Int) : Rat)
theorem intL_step {l : List Rat} {i : Nat} : (intL l i).map encQ ++ [encQ (cf l i / (((i : Int) + 1 : Int) : Rat))] = (intL l (i + 1)).map encQ := by
 rw [intL, intL, List.range_succ, List.map_append]; simp
theorem intL_cf {l : List Rat} {n j : Nat} : cf (intL l n) j = if j = 0 then 0 else if j ≤ n then cf l (j - 1) / (j : Rat) else 0 := by
 cases j with
 | zero => rw [intL, cf_zero]; rfl
 | succ j =>
  rw [intL, cf_succ, cf_range, if_neg (show ¬ j + 1 = 0 by omega)]
  by_cases h : j < n
  ·rw [if_pos h, if_pos (show j + 1 ≤ n by omega)]
   rfl
  ·rw [if_neg h, if_neg (show ¬ j + 1 ≤ n by omega)]
@[simp] theorem intL_len {l : List Rat} {i : Nat} : (intL l i).length = i + 1 := by simp [intL]
theorem ref03_Integral (p : Pol) (hll : p.len < 2199023255552) (hp : PB 274877906943 p := by first | assumption | (apply PB.le; (focus (repeat' (first | assumption | apply PB.add | apply PB.sub | apply PB.neg | apply PB.monic | apply PB.scale | exact PB.zero | exact PB.one | apply PB.cst | exact Bq.zero | exact Bq.one))); omega)) : FnP Tryz.prog tb F_ref03_Integral [encP p] (encP (Poly.integ p)) := by
 have hpl : p.len = p.c.length := rfl
 refine fn1 Tryz.func47 fun G hG hK hF => ?_
 refine wp_ql (l := p.c) 0 rfl fun hb => ?_
 refine sx 5 ?_
 refine on' (.buildSliceMR (ye := as1) (yg := by decide) (yj := by decide) (yk := by decide)) ?_
 refine sx 7 ?_
 refine wp_l2 hK (krc 0 rfl krn) khn (fun sl' h' (i : Nat) => ⟨(3, .own T_Rat 0 0 ((intL p.c i).map encQ).length) :: (4, .t (.i .i64 (i))) :: sl', (0, some (.arr T_Rat (((intL p.c i).map encQ).map .t))) :: h', 1, 0⟩) (fun i => i ≤ p.c.length) (fun i => p.c.length - i) 0 ?_ (fun _ => rfl) ?_ ?_
 ·exact Nat.zero_le _
 ·exact imp_aw 3 rfl rfl (by rfl) (by rfl) ga gb rfl gb rfl rfl
 ·intro i hi
  refine sx 7 ?_
  refine wp_c rfl (fun hc => ?_) (fun hc => ?_)
  ·have hci : i < p.c.length := by simpa using hc
   have hne : (((i : Int) + 1 : Int) : Rat) ≠ 0 := fun e => by have := congrArg Rat.num e; rw [Rat.num_intCast] at this; have h0 : (i : Int) + 1 = 0 := this; omega
   refine sx 12 ?_
   refine dq (.callR (yb := as1) (yc := ref02_Int ((i : Int) + 1) (by omega) (by omega))) ?_
   refine dq (.callR (yb := asc (.inl rfl) as1) (yc := ref02_Quo (cf p.c i) _ hne (hp.cf i) ((Bq.small (z := (i : Int) + 1) (by omega)).le (by decide)))) ?_
   refine sx 1 ?_
   refine wd_ed rfl rfl rfl (appendW rfl rfl rfl (by decide) (by decide) rfl rfl rfl rfl (by rfl) (.inl rfl) (by rfl) (by (simp; omega))) (by exact trivial) ?_
   refine sx 9 ?_
   exact round_n (i + 1) (by omega) (by omega) (by exact imp_aw 3 rfl rfl (by exact intL_step) (by (simp; done)) ga gb rfl gb rfl rfl)
  ·obtain rfl : i = p.c.length := by { have : ¬ i < p.c.length := by { simpa using hc }; omega }
   refine sx 5 ?_
   refine wp_imp hK (imp_fz 3 ((intL p.c p.c.length).map encQ) rfl rfl rfl rfl) ?_
   refine sx 6 ?_
   exact ⟨.inr rfl, rfl, (by (refine res_t rfl ?_); (refine (encP_eq fun j => ?_).symm; rw [Poly.integ, Poly.co_of, cf_range, intL_cf, hpl]; by_cases h0 : j = 0; (rw [if_pos h0, if_pos h0]; split <;> rfl); (rw [if_neg h0, if_neg h0]; by_cases h1 : j ≤ p.c.length; (rw [if_pos h1, if_pos (by omega)]; rfl); (rw [if_neg h1, if_neg (by omega)])))), trivial⟩
theorem cst_one : Poly.cst (((1 : Int)) : Rat) = 1 := rfl
theorem cst_zero : Poly.cst (((0 : Int)) : Rat) = 0 := by decide +kernel
theorem bez_step {p q a b s t w v k : Pol} (ha : a = s * p + w * q) (hb : b = t * p + v * q) : b - k * a = (t - k * s) * p + (v - k * w) * q := by rw [ha, hb]; grind
theorem ref03_Bezout (p q : Pol) {K T L : Nat} (hpB : PB 274877906900 p) (hE : q ≠ 0 → EB K T p q) (hKs : K ≤ 2500000) (hL : p.len + q.len + 1 ≤ L) (hLs : L ≤ 20) : FnP Tryz.prog tb F_ref03_Bezout [encP p, encP q] (.tu [encP (p.bez q).1, encP (p.bez q).2.1, encP (p.bez q).2.2]) := by
 refine fnP_T tbOk Tryz.func36 rfl rfl (Nat.le_of_ble_eq_true rfl) rfl fun G hG hK => ?_
 have hF : Wd Fence.wide := .inl rfl
 refine sx 11 ?_
 refine wp_c rfl (fun hc => ?_) (fun hc => ?_)
 ·have hq : q = 0 := pc_nz hc
  refine sx 6 ?_
  refine wp_c rfl (fun hc => ?_) (fun hc => ?_)
  ·have hp : p = 0 := pc_nz hc
   have hbz : p.bez q = (0, 0, 0) := by unfold Poly.bez; rw [if_pos hq, if_pos hp]
   refine sx 8 ?_
   exact ⟨.inr rfl, rfl, (by (refine res_nl rfl ?_); (rw [hbz]; show [] = List.map encQ (0 : Pol).c; rw [pol_nil.2 rfl]; rfl)), (by (refine res_nl rfl ?_); (rw [hbz]; show [] = List.map encQ (0 : Pol).c; rw [pol_nil.2 rfl]; rfl)), (by (refine res_nl rfl ?_); (rw [hbz]; show [] = List.map encQ (0 : Pol).c; rw [pol_nil.2 rfl]; rfl)), trivial⟩
  ·have hp : p ≠ 0 := pc_nn hc
   have hbz : p.bez q = (p.monic, Poly.cst (1 / p.lead), 0) := by unfold Poly.bez; rw [if_pos hq, if_neg hp]
   refine sx 8 ?_
   refine oq (.callR (yb := asc (.inl rfl) as1) (yc := ref02_Quo _ _ (Poly.lead_ne hp) (Bq.one.le (by decide)) (hpB.lead.le (by decide)))) ?_
   refine sx 7 ?_
   exact ⟨.inr rfl, rfl, (by (refine res_t rfl ?_); (rw [hbz])), (by (refine res_t rfl ?_); (rw [hbz]; rfl)), (by (refine res_nl rfl ?_); (rw [hbz]; show [] = List.map encQ (0 : Pol).c; rw [pol_nil.2 rfl]; rfl)), trivial⟩
 ·have hq : q ≠ 0 := pc_nn hc
  refine sx 2 ?_
  obtain ⟨i1, i2⟩ := (hE hq).n_le hKs
  have iq := Poly.len_pos hq
  have iE := (hE hq).step hq
  have iC : CB K L q (p % q) (Poly.cst ((0 : Int) : Rat)) (Poly.cst ((1 : Int) : Rat)) := by
   have h1 := (CB.init (hE hq) hL).step (hE hq) hq
   have h2 : (1 : Pol) - p / q * 0 = 1 := by grind
   rw [h2] at h1
   rw [cst_one, cst_zero]; exact h1
  refine sx 3 ?_
  refine oq (.callR (yb := asc (.inl rfl) as1) (yc := ref03_Mod p q hq i1 i2 20 (by omega) (by decide))) ?_
  refine sx 12 ?_
  refine wp_l2 hK (krc 0 rfl (krc 1 rfl krn)) khn (fun sl' h' ((a, b, s, t) : Pol × Pol × Pol × Pol) => ⟨(7, .t (encP a)) :: (8, .t (encP b)) :: (9, .t (encP s)) :: (10, .t (encP t)) :: sl', h', 0, 0⟩) (fun (a, b, s, t) => b ≠ 0 ∧ a.gcd b = p.gcd q ∧ (∃ w, a = s * p + w * q) ∧ (∃ w, b = t * p + w * q) ∧ (∃ T, EB K T b a) ∧ CB K L b a t s) (fun (a, _, _, _) => a.len) (p % q, q, Poly.cst ((1 : Int) : Rat), Poly.cst ((0 : Int) : Rat)) ?_ (fun _ => rfl) ?_ ?_
  ·refine ⟨hq, by rw [Poly.gcd_symm, ← Poly.gcd_mod hq], ⟨- (p / q), ?_⟩, ⟨1, by rw [cst_zero]; grind⟩, ⟨_, iE⟩, iC⟩; rw [cst_one]; have := Poly.div_add_mod (p := p) hq; generalize p / q = d at *; generalize p % q = r at *; grind
  ·exact il
  ·rintro ⟨a, b, s, t⟩ ⟨hb0, hg, ⟨w, hw⟩, ⟨v, hv⟩, ⟨T', hE'⟩, hCB⟩
   refine sx 6 ?_
   refine wp_c rfl (fun hc => ?_) (fun hc => ?_)
   ·have ha := pc_ne hc
    have hm : b - b / a * a = b % a := by have := Poly.div_add_mod (p := b) ha; generalize b / a = d at *; generalize b % a = r at *; grind
    obtain ⟨n1, n2⟩ := hE'.n_le hKs
    obtain ⟨f1, f2, f3, f4, f5, f6⟩ := quo_sizes hE' hCB ha hKs hLs
    have hl2 := hCB.l2
    have hl3 := hCB.l3
    have hal := Poly.len_pos ha
    have hdl := div_len_le (a := b) ha
    have hm4 := Nat.mul_le_mul (show (b / a).len ≤ 20 by omega) (Nat.le_refl (550001000 + 1250000 + 1))
    have hprod : PB 274877906944 (b / a * a) := ((n1.div' n2 ha (X := 20) (M := 1250000) (N := 550001000) (by omega) (Nat.le_refl _) (by decide)).mul n2).pb.le (by omega)
    refine sx 6 ?_
    refine oq (.callR (yb := asc (.inl rfl) as1) (yc := ref03_Quo b a ha n1 n2 20 (by omega) (by decide))) ?_
    refine sx 6 ?_
    refine oq (.callR (yb := asc (.inl rfl) as1) (yc := ref03_Mul (b / a) a f1 n2.pb (Nat.le_trans (Nat.add_le_add_left hm4 1) (by decide)) (by omega))) ?_
    refine oq (.callR (yb := asc (.inl rfl) as1) (yc := ref03_Sub b _ (n1.pb.le (by decide)) hprod)) ?_
    refine sx 4 ?_
    refine oq (.callR (yb := asc (.inl rfl) as1) (yc := ref03_Mul (b / a) s f1 f2 f3 (by omega))) ?_
    refine oq (.callR (yb := asc (.inl rfl) as1) (yc := ref03_Sub t _ f5 f4)) ?_
    refine sx 7 ?_
    exact round_n (b - b / a * a, a, t - b / a * s, s) (by refine ⟨ha, ?_, ⟨v - b / a * w, bez_step hw hv⟩, ⟨w, hw⟩, ⟨_, by rw [hm]; exact hE'.step ha⟩, by rw [hm]; exact hCB.step hE' ha⟩; rw [hm, Poly.gcd_symm, ← Poly.gcd_mod ha, Poly.gcd_symm]; exact hg) (by (dsimp only; rw [hm]; exact Poly.mod_len ha)) (by exact il)
   ·have ha := pc_zero hc
    refine sx 5 ?_
    have hbm : b.monic = p.gcd q := by rw [← hg, ha, Poly.gcd_symm, Poly.gcd_zero]
    obtain ⟨n1, n2, n3⟩ := Poly.per_ne (p := p) hq
    have hbz : p.bez q = (p.gcd q, Poly.bezU p q, Poly.bezV p q) := by unfold Poly.bez; rw [if_neg hq]
    have hu : (Poly.cst (1 / b.lead) * t) % (q / b.monic) = Poly.bezU p q := by
     have h1 : p.gcd q = Poly.cst (1 / b.lead) * t * p + Poly.cst (1 / b.lead) * v * q := by rw [← hbm, Poly.monic]; generalize Poly.cst (1 / b.lead) = c; rw [hv]; grind
     obtain ⟨x, hx⟩ := Poly.bez_mod hq h1
     rw [hbm]
     exact Poly.bezU_unique hq (Poly.mod_len n2) hx
    have hgs := (hE'.n_le hKs).1
    have hus := (hCB.v_le hKs hLs).1
    have hul : t.len ≤ 20 := by have := hCB.l1; omega
    have hgl := Poly.len_pos hb0
    have hgms := hgs.monic
    have hcs : Bq 1250002 ((((1 : Int) : Rat)) / b.lead) := (Bq.one.div hgs.pb.lead).le (by decide)
    have hu2s := hus.scale hcs
    have hu2l : (Poly.cst ((((1 : Int) : Rat)) / b.lead) * t).len ≤ 20 := by have h1 := Poly.len_mul_le (Poly.cst ((((1 : Int) : Rat)) / b.lead)) t; have h2 := Poly.len_cst ((((1 : Int) : Rat)) / b.lead); omega
    have hg0 : b.monic ≠ 0 := by rw [hbm]; exact n1
    have hg2l : 0 < b.monic.len := Poly.len_pos hg0
    have hpr0 : q / b.monic ≠ 0 := by rw [hbm]; exact n2
    have hper := i2.div' hgms hg0 (X := 20) (M := 1250000) (N := 550001000) (by omega) (Nat.le_refl _) (by decide)
    have hpl := Poly.len_pos hpr0
    have hpl2 := div_len_le (a := q) hg0
    have hu3s := hu2s.mod' hper hpr0 (X := 20) (M := 550001000) (N := 11200000000) (by omega) (Nat.le_refl _) (by decide)
    have hu3l := Poly.mod_len (p := Poly.cst ((((1 : Int) : Rat)) / b.lead) * t) hpr0
    obtain ⟨u3, hu3⟩ : ∃ u3, u3 = (Poly.cst ((((1 : Int) : Rat)) / b.lead) * t) % (q / b.monic) := ⟨_, rfl⟩
    rw [← hu3] at hu3s hu3l
    have hprod := (hu3s.mul i1).le (show _ ≤ 11202000000 by omega)
    have hsub := (hgms.sub hprod).le (show _ ≤ 11204000000 by decide)
    have hsl := Poly.len_sub b.monic (u3 * p)
    have hml := Poly.len_mul_le u3 p
    have hgl2 : b.monic.len ≤ q.len := by rw [hbm]; exact Poly.dvd_len (Poly.gcd_is p q).right hq
    have hm9 := Nat.mul_le_mul (show u3.len ≤ 20 by omega) (Nat.le_refl (11200000000 + 1250000 + 1))
    refine sx 2 ?_
    refine oq (.callR (yb := as1) (yc := ref03_Monic b (hgs.pb.le (by decide)))) ?_
    refine sx 6 ?_
    refine oq (.callR (yb := as1) (yc := ref03_Lead b)) ?_
    refine oq (.callR (yb := asc (.inl rfl) as1) (yc := ref02_Quo _ _ (Poly.lead_ne hb0) (Bq.one.le (by decide)) (hgs.pb.lead.le (by decide)))) ?_
    refine oq (.callR (yb := asc (.inl rfl) as1) (yc := ref03_Scale t _ (hus.pb.le (by decide)) (hcs.le (by decide)))) ?_
    refine sx 2 ?_
    refine oq (.callR (yb := asc (.inl rfl) as1) (yc := ref03_Quo q _ hg0 i2 hgms 20 (by omega) (by decide))) ?_
    refine oq (.callR (yb := asc (.inl rfl) as1) (yc := ref03_Mod _ _ hpr0 hu2s hper 20 (by omega) (by decide))) ?_
    refine sx 2 ?_
    rw [← hu3]
    refine sx 6 ?_
    refine oq (.callR (yb := asc (.inl rfl) as1) (yc := ref03_Mul u3 p hu3s.pb i1.pb (by omega) (by omega))) ?_
    refine oq (.callR (yb := asc (.inl rfl) as1) (yc := ref03_Sub _ _ (hgms.pb.le (by decide)) (hprod.pb.le (by decide)))) ?_
    refine om ?_
    refine oq (.callR (yb := asc (.inl rfl) as1) (yc := ref03_Quo _ q hq hsub i2 20 (by omega) (by decide))) ?_
    refine sx 5 ?_
    exact ⟨.inr rfl, rfl, (by (refine res_t rfl ?_); (rw [hbz, hbm])), (by (refine res_t rfl ?_); (rw [hbz]; exact congrArg encP (hu3.trans hu))), (by (refine res_t rfl ?_); (rw [hbz]; refine congrArg encP ?_; show _ = (p.gcd q - Poly.bezU p q * p) / q; rw [← hu, hbm, hu3, hbm]; rfl)), trivial⟩
theorem ref03_Pow (p : Pol) (n : Int) (hn : n < 9223372036854775808) {m : Nat} (hpB : CDB m p) (hs : m ≤ 4000) : FnP Tryz.prog tb F_ref03_Pow [encP p, .i .i64 n] (.tu [encP (powR p n).1, .i .i64 (powR p n).2]) := by
 have hpl : p.len = p.c.length := rfl
 have hnl : ¬ 4000 / p.len < n.toNat → n.toNat * p.len ≤ 4000 := fun h2 => Nat.le_trans (Nat.mul_le_mul_right _ (Nat.le_of_not_lt h2)) (Nat.div_mul_le_self 4000 p.len)
 have hnk : ∀ k : Nat, ((0 < p.len ∧ ¬ 4000 / p.len < n.toNat) ∨ (k = 0 ∧ p.len = 0)) → (k : Int) < n → k ≤ 4000 ∧ (k + 1) * p.len ≤ 4000 := by
  rintro k (⟨h1, h2⟩ | ⟨h1, h2⟩) hk
  ·have h3 := hnl h2
   have h4 := Nat.mul_le_mul_right p.len (show k + 1 ≤ n.toNat by omega)
   have h5 := Nat.mul_le_mul (Nat.le_refl (k + 1)) (show 1 ≤ p.len by omega)
   omega
  ·rw [h2]; omega
 refine fnP_T tbOk Tryz.func49 rfl rfl (Nat.le_of_ble_eq_true rfl) rfl fun G hG hK => ?_
 have hF : Wd Fence.wide := .inl rfl
 refine wp_ql (l := p.c) 0 rfl fun hb => ?_
 refine sx 5 ?_
 rcases (show n < 0 ∨ (0 ≤ n ∧ 0 < p.len ∧ 4000 / p.len < n.toNat) ∨ (0 ≤ n ∧ 0 < p.len ∧ ¬ 4000 / p.len < n.toNat) ∨ (0 ≤ n ∧ p.len = 0) by omega) with h | ⟨h, h1, h2⟩ | ⟨h, h1, h2⟩ | ⟨h, h1⟩
 ·refine sx 4 ?_
  refine wp_cT rfl (by (simp; omega)) ?_
  refine sx 6 ?_
  exact ⟨.inr rfl, rfl, (by (refine res_nl rfl ?_); (rw [powR, if_pos h, pol_nil.2 rfl]; rfl)), (by (refine res_t rfl ?_); (rw [powR, if_pos h])), trivial⟩
 ·refine sx 4 ?_
  refine wp_cF rfl (by (simp; omega)) ?_
  refine sx 15 ?_
  refine wp_cT rfl (by refine decide_eq_true ?_; rw [hpl] at h2; generalize 4000 / p.c.length = t at *; omega) ?_
  refine sx 6 ?_
  exact ⟨.inr rfl, rfl, (by (refine res_nl rfl ?_); (rw [powR, if_neg (by omega), if_pos ⟨h1, h2⟩, pol_nil.2 rfl]; rfl)), (by (refine res_t rfl ?_); (rw [powR, if_neg (by omega), if_pos ⟨h1, h2⟩])), trivial⟩
 ·refine sx 4 ?_
  refine wp_cF rfl (by (simp; omega)) ?_
  refine sx 15 ?_
  refine wp_cF rfl (by refine decide_eq_false ?_; rw [hpl] at h2; generalize 4000 / p.c.length = t at *; omega) ?_
  refine sx 12 ?_
  refine wp_l2 hK (krc 0 rfl (krc 1 rfl krn)) khn (fun sl' h' (k : Nat) => ⟨(6, .t (encP (p ^ k))) :: (7, .t (.i .i64 (k))) :: sl', h', 0, 0⟩) (fun k => (k : Int) ≤ n ∧ (p.len = 0 → k ≤ 1)) (fun k => n.toNat - k) 0 ?_ (fun _ => rfl) ?_ ?_
  ·exact ⟨(by omega : ((0 : Nat) : Int) ≤ n), fun _ => Nat.zero_le 1⟩
  ·exact il
  ·rintro k ⟨hk, hk1⟩
   refine wp_s ?_
   by_cases hkn : (k : Int) < n
   ·refine sx 14 ?_
    refine wp_cT rfl (by rfl) ?_
    refine sx 4 ?_
    obtain ⟨hk2, hk3⟩ := hnk k (by exact .inl ⟨h1, h2⟩) hkn
    rw [Nat.succ_mul] at hk3
    have hcd := hpB.pow k (L := 4001) (by omega)
    have hlp := len_pow p k
    have hx1 := Nat.mul_le_mul hk2 (show m + 4001 ≤ 8001 by omega)
    have hx2 := Nat.mul_le_mul (show (p ^ k).len ≤ 4001 by omega) (show k * (m + 4001) + 2 + m + 1 ≤ 32008010 by omega)
    refine sx 13 ?_
    exact round_n (k + 1) (by exact ⟨by omega, fun h => by omega⟩) (by omega) (by exact il)
   ·refine sx 8 ?_
    refine wo_gsU rfl rfl rfl (by (simp; omega)) rfl ?_
    refine wo_gsD rfl rfl rfl rfl ?_
    refine wo_gsD rfl rfl rfl rfl ?_
    refine sx 3 ?_
    refine wp_cF rfl (by rfl) ?_
    refine sx 11 ?_
    have e : powR p n = (p ^ k, 0) := by
     have hn2 : n.toNat = k := by omega
     rw [powR, if_neg (show ¬ n < 0 by omega), if_neg (fun hh => h2 hh.2), hn2]
    exact ⟨.inr rfl, rfl, (by (refine res_t rfl ?_); (rw [e])), (by (refine res_t rfl ?_); (rw [e])), trivial⟩
 ·refine sx 4 ?_
  refine wp_cF rfl (by (simp; omega)) ?_
  refine sx 15 ?_
  refine wp_cF rfl (by rfl) ?_
  refine sx 12 ?_
  refine wp_l2 hK (krc 0 rfl (krc 1 rfl krn)) khn (fun sl' h' (k : Nat) => ⟨(6, .t (encP (p ^ k))) :: (7, .t (.i .i64 (k))) :: sl', h', 0, 0⟩) (fun k => (k : Int) ≤ n ∧ (p.len = 0 → k ≤ 1)) (fun k => n.toNat - k) 0 ?_ (fun _ => rfl) ?_ ?_
  ·exact ⟨(by omega : ((0 : Nat) : Int) ≤ n), fun _ => Nat.zero_le 1⟩
  ·exact il
  ·rintro k ⟨hk, hk1⟩
   refine wp_s ?_
   rcases (show ¬ (k : Int) < n ∨ ((k : Int) < n ∧ k = 0) ∨ ((k : Int) < n ∧ k ≠ 0) by omega) with hkn | ⟨hkn, hk0⟩ | ⟨hkn, hk0⟩
   ·refine sx 8 ?_
    refine wo_gsU rfl rfl rfl (by (simp; omega)) rfl ?_
    refine wo_gsD rfl rfl rfl rfl ?_
    refine wo_gsD rfl rfl rfl rfl ?_
    refine sx 3 ?_
    refine wp_cF rfl (by rfl) ?_
    refine sx 11 ?_
    have e : powR p n = (p ^ k, 0) := by
     have hn2 : n.toNat = k := by omega
     rw [powR, if_neg (show ¬ n < 0 by omega), if_neg (fun hh => absurd hh.1 (by rw [h1]; decide)), hn2]
    exact ⟨.inr rfl, rfl, (by (refine res_t rfl ?_); (rw [e])), (by (refine res_t rfl ?_); (rw [e])), trivial⟩
   ·refine sx 14 ?_
    refine wp_cT rfl (by simp; omega) ?_
    refine sx 4 ?_
    obtain ⟨hk2, hk3⟩ := hnk k (by exact .inr ⟨hk0, h1⟩) hkn
    rw [Nat.succ_mul] at hk3
    have hcd := hpB.pow k (L := 4001) (by omega)
    have hlp := len_pow p k
    have hx1 := Nat.mul_le_mul hk2 (show m + 4001 ≤ 8001 by omega)
    have hx2 := Nat.mul_le_mul (show (p ^ k).len ≤ 4001 by omega) (show k * (m + 4001) + 2 + m + 1 ≤ 32008010 by omega)
    refine sx 13 ?_
    exact round_n (k + 1) (by exact ⟨by omega, fun h => by omega⟩) (by omega) (by exact il)
   ·refine sx 14 ?_
    refine wp_cF rfl (by simp; omega) ?_
    refine sx 11 ?_
    have e : powR p n = (p ^ k, 0) := by
     have hn2 : n.toNat ≠ 0 := by omega
     rw [powR, if_neg (show ¬ n < 0 by omega), if_neg (fun hh => absurd hh.1 (by rw [h1]; decide)), Poly.eq_zero_of_len h1, pow_zero_pol _ hn2, pow_zero_pol _ hk0]
    exact ⟨.inr rfl, rfl, (by (refine res_t rfl ?_); (rw [e])), (by (refine res_t rfl ?_); (rw [e])), trivial⟩
abbrev RQ := (Bool × List Nat) × (Bool × List Nat)
def encR (r : RQ) : Tr := rawQ r.1.1 r.1.2 r.2.1 r.2.2
def isR (r : RQ) : Bool := isQ r.1.1 r.1.2 r.2.1 r.2.2
def WR (l : List RQ) : Prop := ∀ r ∈ l, Words r.1.2 ∧ Words r.2.2
def WL (l : List RQ) : Prop := ∀ r ∈ l, r.1.2.length ≤ 4398046511104 ∧ r.2.2.length ≤ 4398046511104
def encRs (l : List RQ) : Tr := .sl T_Rat (l.map encR)
theorem encRs_len {l : List RQ} : (l.map encR).length = l.length := List.length_map _
theorem encR_at {l : List RQ} {n : Int} {i : Nat} {x : RQ} (e : n.toNat = i) (h : l[i]? = some x) : (l.map encR)[n.toNat]? = some (encR x) := by rw [e, List.getElem?_map, h]; rfl
theorem ref02_All (l : List RQ) (hw : WR l) (hwl : WL l) : FnP Tryz.prog tb F_ref02_All [encRs l] (.b (l.all isR)) := by
 refine fn1 Tryz.func78 fun G hG hK hF => ?_
 refine wp_ll 0 rfl rfl fun hb => ?_
 rw [encRs_len] at hb
 refine sx 8 ?_
 refine wp_l2 hK (krc 0 rfl krn) khn (fun sl' h' (i : Nat) => ⟨(3, .t (.i .i64 (i))) :: sl', h', 0, 0⟩) (fun i => i ≤ l.length ∧ ∀ j x, j < i → l[j]? = some x → isR x = true) (fun i => l.length - i) 0 ?_ (fun _ => rfl) ?_ ?_
 ·exact ⟨Nat.zero_le _, fun j x hj => by omega⟩
 ·exact il
 ·rintro i ⟨hi, he⟩
  refine sx 7 ?_
  refine wp_c rfl (fun hc => ?_) (fun hc => ?_)
  ·have hci : i < l.length := by simpa using hc
   obtain ⟨x, hx⟩ : ∃ x, l[i]? = some x := ⟨_, List.getElem?_eq_getElem hci⟩
   obtain ⟨w1, w2⟩ := hw x (List.mem_of_getElem? hx)
   obtain ⟨v1, v2⟩ := hwl x (List.mem_of_getElem? hx)
   refine sx 9 ?_
   refine oq (.callR (yb := as1) (yc := ref02_Is x.1.1 x.2.1 x.1.2 x.2.2 w1 w2 v1 v2)) ?_
   refine sx 2 ?_
   refine wp_c rfl (fun hc => ?_) (fun hc => ?_)
   ·have hq : isR x = false := by have : (!isR x) = true := hc; simpa using this
    refine sx 9 ?_
    exact ⟨.inr rfl, rfl, (by (refine res_t rfl ?_); (exact trb (by rw [eq_comm, List.all_eq_false]; exact ⟨x, List.mem_of_getElem? hx, by simp [hq]⟩))), trivial⟩
   ·have hq : isR x = true := by have : (!isR x) = false := hc; simpa using this
    refine sx 8 ?_
    exact round_n (i + 1) (by exact ⟨by omega, fun j y hj hy => by rcases Nat.eq_or_lt_of_le (Nat.le_of_lt_succ hj) with rfl | h; rw [hx] at hy; cases hy; exact hq; exact he j y h hy⟩) (by omega) (by exact il)
  ·obtain rfl : i = l.length := by { have : ¬ i < l.length := by { simpa using hc }; omega }
   refine sx 9 ?_
   exact ⟨.inr rfl, rfl, (by (refine res_t rfl ?_); (exact trb (by rw [eq_comm, List.all_eq_true]; intro y hy; obtain ⟨j, hj, rfl⟩ := List.mem_iff_getElem.1 hy; exact he j _ hj (List.getElem?_eq_getElem hj)))), trivial⟩
theorem isQ_enc (q : Rat) : isQ (decide (q.num < 0)) (digits q.num.natAbs) (decide ((q.den : Int) < 0)) (digits (q.den : Int).natAbs) = true := by
 have h1 := isW_enc q.num
 have h2 := isW_enc q.den
 have h3 : sgn (decide (q.num < 0)) (val (digits q.num.natAbs)) = q.num := by rw [val_digits, sgn_abs]
 have h4 : sgn (decide ((q.den : Int) < 0)) (val (digits (q.den : Int).natAbs)) = q.den := by rw [val_digits, sgn_abs]
 have h5 := q.den_nz
 have h6 : Int.gcd q.num q.den = 1 := q.reduced
 rw [isQ, h1, h2, h3, h4]
 simp [h6]
 omega
def rawR (q : Rat) : RQ := ((decide (q.num < 0), digits q.num.natAbs), (decide ((q.den : Int) < 0), digits (q.den : Int).natAbs))
theorem encR_raw (q : Rat) : encR (rawR q) = encQ q := rfl
theorem isR_raw (q : Rat) : isR (rawR q) = true := isQ_enc q
theorem isR_enc {r : RQ} (h1 : Words r.1.2) (h2 : Words r.2.2) (h : isR r = true) : ∃ q : Rat, encR r = encQ q ∧ rawR q = r := by
 obtain ⟨⟨n1, w1⟩, ⟨n2, w2⟩⟩ := r
 simp only [isR, isQ, Bool.and_eq_true, decide_eq_true_eq] at h
 obtain ⟨c1, c2, c3, c4⟩ := h
 have hN : rawI n1 w1 = encI (sgn n1 (val w1)) := raw_enc h1 c1
 have hD : rawI n2 w2 = encI (sgn n2 (val w2)) := raw_enc h2 c2
 generalize sgn n1 (val w1) = n at *
 generalize sgn n2 (val w2) = d at *
 have hd : ((d.natAbs : Nat) : Int) = d := by omega
 have key : (n1, w1) = (decide (n < 0), digits n.natAbs) ∧ (n2, w2) = (decide (d < 0), digits d.natAbs) := by
  have inj : ∀ (s t : Bool) (a b : List Nat), Tr.ag [.b s, .sl T_uint32 (wds a)] = Tr.ag [.b t, .sl T_uint32 (wds b)] → (s, a) = (t, b) := by
   intro s t a b e
   injection e with e
   injection e with e1 e2
   injection e1 with e1
   injection e2 with e2 _
   injection e2 with _ e2
   have : a = b := by
    have := congrArg (List.map fun t => match t with | Tr.i _ z => z.toNat | _ => 0) e2
    simpa [wds, Function.comp_def] using this
   rw [e1, this]
  exact ⟨inj _ _ _ _ hN, inj _ _ _ _ hD⟩
 obtain ⟨k1, k2⟩ := key
 refine ⟨⟨n, d.natAbs, by omega, by rw [Nat.coprime_iff_gcd_eq_one]; exact c4⟩, ?_, ?_⟩
 ·show rawQ n1 w1 n2 w2 = encQI n ((d.natAbs : Nat) : Int)
  rw [hd]
  injection k1 with a1 a2
  injection k2 with b1 b2
  subst a1 a2 b1 b2
  rfl
 ·show ((decide (n < 0), digits n.natAbs), (decide (((d.natAbs : Nat) : Int) < 0), digits ((d.natAbs : Nat) : Int).natAbs)) = ((n1, w1), (n2, w2))
  rw [hd, k1, k2]
theorem all_enc : ∀ {l : List RQ}, WR l → l.all isR = true → ∃ qs : List Rat, encRs l = encQs qs ∧ qs.map rawR = l
 | [], _, _ => ⟨[], rfl, rfl⟩
 | r :: l, hw, h => by
  rw [List.all_cons, Bool.and_eq_true] at h
  obtain ⟨q, h1, h2⟩ := isR_enc (hw r (by simp)).1 (hw r (by simp)).2 h.1
  obtain ⟨qs, h3, h4⟩ := all_enc (fun x hx => hw x (by simp [hx])) h.2
  refine ⟨q :: qs, ?_, by rw [List.map_cons, h2, h4]⟩
  injection h3 with _ h3
  show Tr.sl T_Rat (encR r :: l.map encR) = Tr.sl T_Rat (encQ q :: qs.map encQ)
  rw [h1, h3]
theorem wr_raw (qs : List Rat) : WR (qs.map rawR) := fun r hr => by
 obtain ⟨q, _, rfl⟩ := List.mem_map.1 hr
 exact ⟨digits_words _, digits_words _⟩
theorem all_raw (qs : List Rat) : (qs.map rawR).all isR = true := by
 rw [List.all_eq_true]; intro r hr
 obtain ⟨q, _, rfl⟩ := List.mem_map.1 hr; exact isR_raw q
theorem encRs_raw (qs : List Rat) : encRs (qs.map rawR) = encQs qs := by
 rw [encRs, List.map_map]; rfl
theorem wl_raw {qs : List Rat} (h : ∀ q ∈ qs, Bq 274877906944 q) : WL (qs.map rawR) := fun r hr => by
 obtain ⟨q, hq, rfl⟩ := List.mem_map.1 hr
 have h1 := (h q hq).num
 have h2 := (h q hq).den
 exact ⟨Nat.le_trans h1 (by decide), Nat.le_trans h2 (by decide)⟩
theorem ref02_AllQ (qs : List Rat) (hB : ∀ q ∈ qs, Bq 274877906944 q) : FnP Tryz.prog tb F_ref02_All [encQs qs] (.b true) := by
 have := ref02_All (qs.map rawR) (wr_raw qs) (wl_raw hB)
 rw [all_raw, encRs_raw] at this; exact this
theorem trimZ_iff (qs : List Rat) : trimZ qs = qs ↔ (qs = [] ∨ cf qs (qs.length - 1) ≠ 0) := by
 constructor
 ·intro h
  by_cases h0 : qs = []
  ·exact .inl h0
  ·right
   have := trimZ_last (l := qs) (by rw [h]; exact h0)
   rw [h] at this; exact this
 ·exact trimZ_of_last
theorem ref03_IsF (l : List RQ) (hw : WR l) (hwl : WL l) (h : l.all isR = false) : FnP Tryz.prog tb F_ref03_Is [encRs l] (.b false) := by
 refine fn1 Tryz.func14 fun G hG hK hF => ?_
 refine sx 5 ?_
 refine oq (.callR (yb := as1) (yc := ref02_All l hw hwl)) ?_
 refine om ?_
 refine gs (z := by (rw [h]; rfl)) ?_
 refine gs (z := by (rw [h]; rfl)) ?_
 refine gs (z := by (rw [h]; rfl)) ?_
 refine wo_gsU rfl rfl rfl (by (rw [h]; rfl)) rfl ?_
 refine wo_gsD rfl rfl rfl rfl ?_
 refine wo_gsD rfl rfl rfl rfl ?_
 refine wo_gsD rfl rfl rfl rfl ?_
 refine wo_gsD rfl rfl rfl rfl ?_
 refine wo_gsD rfl rfl rfl rfl ?_
 refine wo_gsD rfl rfl rfl rfl ?_
 refine wo_gsD rfl rfl rfl rfl ?_
 refine wo_gsD rfl rfl rfl rfl ?_
 refine gs (z := by (rw [h]; rfl)) ?_
 refine oq (.pickF rfl (by (rw [h]; rfl)) rfl) ?_
 refine sx 3 ?_
 exact ⟨.inr rfl, rfl, (by (refine res_t rfl ?_); (rfl)), trivial⟩
theorem ref03_Is (qs : List Rat) (hB : ∀ q ∈ qs, Bq 274877906944 q) : FnP Tryz.prog tb F_ref03_Is [encQs qs] (.b (decide (trimZ qs = qs))) := by
 refine fn1 Tryz.func14 fun G hG hK hF => ?_
 refine wp_ql (l := qs) 0 rfl fun hb => ?_
 refine sx 3 ?_
 by_cases h0 : qs = []
 ·refine sx 21 ?_
  exact ⟨.inr rfl, rfl, (by (refine res_t rfl ?_); (exact trb (decide_eq_true ((trimZ_iff qs).2 (.inl h0))).symm)), trivial⟩
 ·have hl : 0 < qs.length := List.length_pos_iff.2 h0
  refine sx 21 ?_
  exact ⟨.inr rfl, rfl, (by (refine res_t rfl ?_); (refine trb ?_; by_cases h1 : cf qs (qs.length - 1) = 0; (rw [decide_eq_false (fun e => ((trimZ_iff qs).1 e).elim h0 fun h => h h1), qsign.2 h1]; rfl); (rw [decide_eq_true ((trimZ_iff qs).2 (.inr h1))]; have := mt qsign.1 h1; simpa using this))), trivial⟩
theorem qpoly_IsF (l : List RQ) (hw : WR l) (hwl : WL l) (h : l.all isR = false) : FnP Tryz.prog tb F_qpoly_Is [encRs l] (.b false) := by
 refine fn1 Tryz.func13 fun G hG hK hF => ?_
 refine wp_ll 0 rfl rfl fun hb => ?_
 rw [encRs_len] at hb
 refine sx 10 ?_
 refine wp_l2 hK (krc 0 rfl (krc 5 rfl (krc 6 rfl krn))) khn (fun sl' h' (i : Nat) => ⟨(7, .t (.i .i64 (i))) :: sl', h', 0, 0⟩) (fun i => i ≤ l.length ∧ ∀ j x, j < i → l[j]? = some x → isR x = true) (fun i => l.length - i) 0 ?_ (fun _ => rfl) ?_ ?_
 ·exact ⟨Nat.zero_le _, fun j x hj => by omega⟩
 ·exact il
 ·rintro i ⟨hi, he⟩
  refine sx 4 ?_
  refine wp_c rfl (fun hc => ?_) (fun hc => ?_)
  ·have hci : i < l.length := by simpa using hc
   obtain ⟨x, hx⟩ : ∃ x, l[i]? = some x := ⟨_, List.getElem?_eq_getElem hci⟩
   obtain ⟨w1, w2⟩ := hw x (List.mem_of_getElem? hx)
   obtain ⟨v1, v2⟩ := hwl x (List.mem_of_getElem? hx)
   refine sx 12 ?_
   refine oq (.callR (yb := as1) (yc := rat_Is x.1.1 x.2.1 x.1.2 x.2.2 w1 w2 v1 v2)) ?_
   refine sx 2 ?_
   refine wp_c rfl (fun hc => ?_) (fun hc => ?_)
   ·have hq : isR x = false := by have : (!isR x) = true := hc; simpa using this
    refine sx 9 ?_
    exact ⟨.inr rfl, rfl, (by (refine res_t rfl ?_); (rfl)), trivial⟩
   ·have hq : isR x = true := by have : (!isR x) = false := hc; simpa using this
    refine sx 7 ?_
    exact round_n (i + 1) (by exact ⟨by omega, fun j y hj hy => by rcases Nat.eq_or_lt_of_le (Nat.le_of_lt_succ hj) with rfl | h; rw [hx] at hy; cases hy; exact hq; exact he j y h hy⟩) (by omega) (by exact imp_trim ga gb rfl gb)
  ·exfalso; obtain rfl : i = l.length := by { have : ¬ i < l.length := by { simpa using hc }; omega }; rw [List.all_eq_false] at h; obtain ⟨y, hy, h2⟩ := h; obtain ⟨j, hj, rfl⟩ := List.mem_iff_getElem.1 hy; exact h2 (he j _ hj (List.getElem?_eq_getElem hj))
theorem rat_IsQ (q : Rat) (hB : Bq 274877906944 q) : FnP Tryz.prog tb F_rat_Is [encQ q] (.b true) := by
 have := rat_Is (decide (q.num < 0)) (decide ((q.den : Int) < 0)) (digits q.num.natAbs) (digits (q.den : Int).natAbs) (digits_words _) (digits_words _) (Nat.le_trans hB.num (by decide)) (Nat.le_trans hB.den (by decide))
 rw [isQ_enc] at this; exact this
theorem qpoly_Is (qs : List Rat) (hB : ∀ q ∈ qs, Bq 274877906944 q) : FnP Tryz.prog tb F_qpoly_Is [encQs qs] (.b (decide (trimZ qs = qs))) := by
 refine fn1 Tryz.func13 fun G hG hK hF => ?_
 refine wp_ql (l := qs) 0 rfl fun hb => ?_
 refine sx 10 ?_
 refine wp_l2 hK (krc 0 rfl (krc 5 rfl (krc 6 rfl krn))) khn (fun sl' h' (i : Nat) => ⟨(7, .t (.i .i64 (i))) :: sl', h', 0, 0⟩) (fun i => i ≤ qs.length) (fun i => qs.length - i) 0 ?_ (fun _ => rfl) ?_ ?_
 ·exact Nat.zero_le _
 ·exact il
 ·intro i hi
  refine sx 4 ?_
  refine wp_c rfl (fun hc => ?_) (fun hc => ?_)
  ·have hci : i < qs.length := by simpa using hc
   refine sx 12 ?_
   refine oq (.callR (yb := as1) (yc := rat_IsQ _ (hB _ (by have := cf_at hci; exact List.mem_of_getElem? this)))) ?_
   refine sx 2 ?_
   refine wp_cF rfl (by rfl) ?_
   refine sx 7 ?_
   exact round_n (i + 1) (by omega) (by omega) (by exact imp_trim ga gb rfl gb)
  ·obtain rfl : i = qs.length := by { have : ¬ i < qs.length := by { simpa using hc }; omega }
   refine sx 5 ?_
   by_cases h0 : qs = []
   ·refine sx 17 ?_
    exact ⟨.inr rfl, rfl, (by (refine res_t rfl ?_); (exact trb (decide_eq_true ((trimZ_iff qs).2 (.inl h0))).symm)), trivial⟩
   ·have hl : 0 < qs.length := List.length_pos_iff.2 h0
    refine sx 17 ?_
    exact ⟨.inr rfl, rfl, (by (refine res_t rfl ?_); (refine trb ?_; by_cases h1 : cf qs (qs.length - 1) = 0; (rw [decide_eq_false (fun e => ((trimZ_iff qs).1 e).elim h0 fun h => h h1), decide_eq_true h1]; rfl); (rw [decide_eq_true ((trimZ_iff qs).2 (.inr h1)), decide_eq_false h1]; rfl))), trivial⟩
theorem shl_word {w i : Nat} (hw : w < 4294967296) (hi : i < 2) : IntKind.u64.wrap ((w : Int) * 2 ^ (min (Int.toNat (32 * (i : Int))) IntKind.u64.bits)) = ((w * 4294967296 ^ i : Nat) : Int) := by
 rcases (show i = 0 ∨ i = 1 by omega) with rfl | rfl
 ·show IntKind.u64.wrap ((w : Int) * 1) = _
  rw [Int.mul_one, w64n (by omega), Nat.pow_zero, Nat.mul_one]
 ·show IntKind.u64.wrap ((w : Int) * 4294967296) = _
  rw [wrap_u64 (by omega)]; omega
theorem or_word {v w i : Nat} (hv : v < 4294967296 ^ i) (hw : w < 4294967296) (hi : i < 2) : bitsTr .or .u64 (v : Int) ((w * 4294967296 ^ i : Nat) : Int) = some ((v + 4294967296 ^ i * w : Nat) : Int) := by
 rcases (show i = 0 ∨ i = 1 by omega) with rfl | rfl
 ·obtain rfl : v = 0 := by simpa using hv
  have := or64' (x := 0) (y := w) (by decide) hw
  have h2 := or64 (x := 0) (y := w) (by decide) hw
  simp only [Nat.pow_zero, Nat.mul_one, Nat.one_mul, Nat.zero_add] at *
  have e : ((0 : Nat) : Int) * 4294967296 = ((0 : Nat) : Int) := by decide
  rw [e] at h2
  simpa using h2
 ·rw [Nat.pow_one] at *
  have := or64' (x := w) (y := v) hw hv
  rw [show ((w * 4294967296 : Nat) : Int) = (w : Int) * 4294967296 by omega, this]
  congr 2; omega
theorem num_SmallZ (z : Int) (h0 : 0 ≤ z) (hz : z < 9223372036854775808) : FnP Tryz.prog tb F_num_Small [encI z] (.tu [.i .i64 z, .i .i64 0]) := by
 have hn : z.natAbs < 9223372036854775808 := by omega
 have hw := digits_words z.natAbs
 have h2 : (digits z.natAbs).length ≤ 2 := by
  have h := lt_digits z.natAbs
  rcases Nat.lt_or_ge 2 (digits z.natAbs).length with h3 | h3
  ·have := len_two (n := z.natAbs) (by omega); omega
  ·exact h3
 have hneg : decide (z < 0) = false := decide_eq_false (by omega)
 refine fnP_T tbOk Tryz.func191 rfl rfl (Nat.le_of_ble_eq_true rfl) rfl fun G hG hK => ?_
 have hF : Wd Fence.wide := .inl rfl
 refine wp_il 0 rfl fun hb => ?_
 refine sx 8 ?_
 refine oq (.callR (yb := as1) (yc := num_IsI z)) ?_
 refine sx 2 ?_
 refine wp_cF rfl (by rfl) ?_
 refine sx 9 ?_
 refine wp_cF rfl (by refine decide_eq_false ?_; omega) ?_
 refine sx 13 ?_
 refine wp_l2 hK (krc 1 rfl (krc 15 rfl (krc 16 rfl krn))) khn (fun sl' h' ((i, v) : Nat × Nat) => ⟨(4, .t (.i .u64 (v))) :: (17, .t (.i .i64 (i))) :: sl', h', 0, 0⟩) (fun (i, v) => i ≤ (digits z.natAbs).length ∧ v = val ((digits z.natAbs).take i)) (fun (i, _) => (digits z.natAbs).length - i) (0, 0) ?_ (fun _ => rfl) ?_ ?_
 ·exact ⟨Nat.zero_le _, rfl⟩
 ·exact il
 ·rintro ⟨i, v⟩ ⟨hi, hv⟩
  refine sx 4 ?_
  refine wp_c rfl (fun hc => ?_) (fun hc => ?_)
  ·have hci : i < (digits z.natAbs).length := by have := of_decide_eq_true hc; omega
   have hvl := val_lt (hw.take i)
   rw [← hv, List.length_take, Nat.min_eq_left hi] at hvl
   have hwi := hw.getD i
   refine wp_k ?_
   refine then_n ?_
   refine wp_s ?_
   refine wp_b ?_
   refine rr ?_
   refine om ?_
   refine oq (.indexAddrR (yf := by omega) (yg := by exact wds_at2 i (by omega) (by omega))) ?_
   refine oq .loadR ?_
   refine oa ?_
   refine oa ?_
   refine wo_nil ?_
   refine rr0 ?_
   refine om ?_
   refine om ?_
   refine oq (.convR (yf := by exact w64n (by omega))) ?_
   refine sx 2 ?_
   refine oq (.shlR (yc := by omega) (yd := by exact shl_word hwi (by omega))) ?_
   refine oq (.bitsR (yc := or_word hvl hwi (by omega))) ?_
   refine sx 8 ?_
   exact round_n (i + 1, v + 4294967296 ^ i * (digits z.natAbs).getD i 0) (by exact ⟨by omega, by rw [val_take_succ hci, hv]⟩) (by (dsimp only; omega)) (by exact il)
  ·obtain rfl : i = (digits z.natAbs).length := by have := of_decide_eq_false hc; omega
   refine sx 7 ?_
   rw [List.take_length, val_digits] at hv
   subst hv
   refine sx 9 ?_
   refine wp_cF rfl (by rfl) ?_
   refine sx 10 ?_
   refine wp_cT rfl (by (simp; omega)) ?_
   refine sx 2 ?_
   refine oq (.convR (yf := by exact wrap_i64 (by omega))) ?_
   refine sx 6 ?_
   exact ⟨.inr rfl, rfl, (by (refine res_t rfl ?_); (exact tri (by omega))), (by (refine res_t rfl ?_); (rfl)), trivial⟩
theorem qpoly_modulo (a m : Int) (hm : m ≠ 0) (ha16 : Fi 16 a := by first | assumption | exact Fi.small (by omega) | (apply Fi.le; (focus (repeat' (first | assumption | apply Fi.mul | apply Fi.add | apply Fi.sub | apply Fi.neg | apply Fi.abs | apply Fi.gcd | apply Fi.div | exact Fi.one | exact Fi.zero | exact Fi.small (by omega)))); decide)) (hm16 : Fi 16 m := by first | assumption | exact Fi.small (by omega) | (apply Fi.le; (focus (repeat' (first | assumption | apply Fi.mul | apply Fi.add | apply Fi.sub | apply Fi.neg | apply Fi.abs | apply Fi.gcd | apply Fi.div | exact Fi.one | exact Fi.zero | exact Fi.small (by omega)))); decide)) : FnP Tryz.prog tb F_qpoly_modulo [encI a, encI m] (encI (a % m)) := by
 refine fn1 Tryz.func131 fun G hG hK hF => ?_
 refine sx 8 ?_
 refine oq (.callR (yb := asc (.inl rfl) as1) (yc := num_Div a m hm)) ?_
 refine sx 15 ?_
 exact ⟨.inr rfl, rfl, (by (refine res_c rfl rfl rfl rfl rfl ?_); (rfl)), trivial⟩
theorem qpoly_small (a m : Int) (h0 : 0 < m) (hm : m < 9223372036854775808) (ha16 : Fi 16 a := by first | assumption | exact Fi.small (by omega) | (apply Fi.le; (focus (repeat' (first | assumption | apply Fi.mul | apply Fi.add | apply Fi.sub | apply Fi.neg | apply Fi.abs | apply Fi.gcd | apply Fi.div | exact Fi.one | exact Fi.zero | exact Fi.small (by omega)))); decide)) : FnP Tryz.prog tb F_qpoly_small [encI a, .i .i64 m] (.i .i64 (a % m)) := by
 have h1 := Int.emod_nonneg a (show m ≠ 0 by omega)
 have h2 := Int.emod_lt_of_pos a h0
 refine fn1 Tryz.func168 fun G hG hK hF => ?_
 refine sx 7 ?_
 refine dq (.callR (yb := as1) (yc := num_Of m (by omega) hm)) ?_
 refine dq (.callR (yb := asc (.inl rfl) as1) (yc := qpoly_modulo a m (by omega) ha16 ((Fi.small (by omega)).le (by decide)))) ?_
 refine dq (.callR (yb := as1) (yc := num_SmallZ (a % m) h1 (by omega))) ?_
 refine sx 11 ?_
 exact ⟨.inr rfl, rfl, (by (refine res_t rfl ?_); (rfl)), trivial⟩
def valM (l : List Int) (x m : Int) : Int × Int := l.foldr (fun a r => ((r.1 * x + a) % m, (r.2 * x + r.1) % m)) (0, 0)
theorem valM_drop {l : List Int} {x m : Int} {k : Nat} {a : Int} (h : l[k]? = some a) : valM (l.drop k) x m = (((valM (l.drop (k + 1)) x m).1 * x + a) % m, ((valM (l.drop (k + 1)) x m).2 * x + (valM (l.drop (k + 1)) x m).1) % m) := by
 have hk : k < l.length := (List.getElem?_eq_some_iff.1 h).1
 rw [List.drop_eq_getElem_cons hk]
 rw [List.getElem?_eq_getElem hk] at h
 injection h with h
 rw [h]; rfl
theorem valM_fi {l : List Int} {x m : Int} {k : Nat} (hm : Fi k m) (h0 : m ≠ 0) : Fi k (valM l x m).1 ∧ Fi k (valM l x m).2 := by
 cases l with
 | nil => exact ⟨Fi.zero.le (Nat.zero_le _), Fi.zero.le (Nat.zero_le _)⟩
 | cons a l => exact ⟨Fi.mod _ hm h0, Fi.mod _ hm h0⟩
theorem qpoly_value (l : List Int) (x m : Int) (hm : m ≠ 0) (hl4 : ∀ a ∈ l, Fi 4 a) (hx4 : Fi 4 x) (hm4 : Fi 4 m) : FnP Tryz.prog tb F_qpoly_value [encIs l, encI x, encI m] (.tu [encI (valM l x m).1, encI (valM l x m).2]) := by
 refine fnP_T tbOk Tryz.func169 rfl rfl (Nat.le_of_ble_eq_true rfl) rfl fun G hG hK => ?_
 have hF : Wd Fence.wide := .inl rfl
 refine wp_zl (l := l) 0 rfl fun hb => ?_
 refine sx 14 ?_
 refine wp_l2 hK (krc 0 rfl (krc 4 rfl (krc 5 rfl (krc 6 rfl (krc 7 rfl krn))))) khn (fun sl' h' ((k, y, s) : Nat × Int × Int) => ⟨(8, .t (.i .i64 ((k : Int) - 1))) :: sl', (0, some (.arr T_Int [.t (encI y)])) :: (1, some (.arr T_Int [.t (encI s)])) :: h', 2, 0⟩) (fun (k, y, s) => k ≤ l.length ∧ (y, s) = valM (l.drop k) x m) (fun (k, _, _) => k) (l.length, 0, 0) ?_ (fun _ => rfl) ?_ ?_
 ·exact ⟨Nat.le_refl _, by rw [List.drop_length]; rfl⟩
 ·exact il
 ·rintro ⟨k, y, s⟩ ⟨hk, hv⟩
  refine sx 5 ?_
  refine wp_c rfl (fun hc => ?_) (fun hc => ?_)
  ·obtain ⟨k, rfl⟩ : ∃ j, k = j + 1 := ⟨k - 1, by simp at hc; omega⟩
   have e : ((k + 1 : Nat) : Int) - 1 = (k : Int) := by omega
   rw [e]
   obtain ⟨a, ha⟩ : ∃ a, l[k]? = some a := ⟨_, List.getElem?_eq_getElem (by omega)⟩
   have ha4 := hl4 a (List.mem_of_getElem? ha)
   obtain ⟨hy4, hs4⟩ := valM_fi (l := l.drop (k + 1)) (x := x) hm4 hm
   rw [← hv] at hy4 hs4
   have hy4 : Fi 4 y := hy4
   have hs4 : Fi 4 s := hs4
   have hm16 := hm4.le (show 4 ≤ 16 by decide)
   refine sx 7 ?_
   refine dq (.callR (yb := asc (.inl rfl) as1) (yc := num_Mul s x)) ?_
   refine sx 1 ?_
   refine dq (.callR (yb := asc (.inl rfl) as1) (yc := num_Add (s * x) y)) ?_
   refine sx 1 ?_
   refine dq (.callR (yb := asc (.inl rfl) as1) (yc := qpoly_modulo (s * x + y) m hm)) ?_
   refine sx 5 ?_
   refine dq (.callR (yb := asc (.inl rfl) as1) (yc := num_Mul y x)) ?_
   refine sx 2 ?_
   refine dq (.indexAddrR (yf := by omega) (yg := by exact encIs_atn (i := k) rfl ha)) ?_
   refine sx 1 ?_
   refine dq (.callR (yb := asc (.inl rfl) as1) (yc := num_Add (y * x) a)) ?_
   refine sx 1 ?_
   refine dq (.callR (yb := asc (.inl rfl) as1) (yc := qpoly_modulo (y * x + a) m hm)) ?_
   refine sx 9 ?_
   exact round_n (k, (y * x + a) % m, (s * x + y) % m) (by refine ⟨by omega, ?_⟩; rw [valM_drop ha, ← hv]) (by (dsimp only; omega)) (by exact il)
  ·obtain rfl : k = 0 := by simp at hc; omega
   rw [List.drop_zero] at hv
   refine sx 5 ?_
   refine wp_d tbOk hF mixed hG [1] (by kernel_rfl) ?_
   refine sx 1 ?_
   refine wd_ql rfl rfl rfl (.loadPR (yd := by rfl)) ?_
   refine sx 4 ?_
   exact ⟨.inr rfl, rfl, (by (refine res_c rfl rfl rfl rfl rfl ?_); (rw [← hv])), (by (refine res_c rfl rfl rfl rfl rfl ?_); (rw [← hv])), trivial⟩
def invA (a p : Nat) : Nat → Nat → Nat
 | 0, _ => 0
 | f + 1, b => if b < p then (if a * b % p = 1 then b else invA a p f (b + 1)) else 0
theorem qpoly_inverse (a p : Nat) (hp : 1 < p) (hp2 : p < 2147483648) (ha : a < p) : FnP Tryz.prog tb F_qpoly_inverse [.i .i64 a, .i .i64 p] (.i .i64 (invA a p p 1)) := by
 refine fn1 Tryz.func170 fun G hG hK hF => ?_
 refine sx 8 ?_
 refine wp_l2 hK (krc 0 rfl (krc 1 rfl krn)) khn (fun sl' h' (b : Nat) => ⟨(5, .t (.i .i64 (b))) :: sl', h', 0, 0⟩) (fun b => 1 ≤ b ∧ b ≤ p ∧ invA a p (p + 1 - b) b = invA a p p 1) (fun b => p - b) 1 ?_ (fun _ => rfl) ?_ ?_
 ·exact ⟨Nat.le_refl _, by omega, rfl⟩
 ·exact il
 ·rintro b ⟨h1, h2, h3⟩
  refine sx 6 ?_
  refine wp_c rfl (fun hc => ?_) (fun hc => ?_)
  ·have hcb : b < p := by have := of_decide_eq_true hc; omega
   obtain ⟨f, hf⟩ : ∃ f, p + 1 - b = f + 1 := ⟨p - b, by omega⟩
   have hab : a * b < 4611686018427387904 := by have := Nat.mul_lt_mul'' (show a < 2147483648 by omega) (show b < 2147483648 by omega); omega
   rw [hf, invA, if_pos hcb] at h3
   refine sx 7 ?_
   refine oq (.arithR (yd := by exact (wrap_i64 (by have : ((a : Int) * (b : Int)) = ((a * b : Nat) : Int) := (Int.natCast_mul a b).symm; omega)).trans (Int.natCast_mul a b).symm)) ?_
   refine sx 4 ?_
   refine wp_c rfl (fun hc => ?_) (fun hc => ?_)
   ·have hq : a * b % p = 1 := by have := beq_iff_eq.1 hc; omega
    refine sx 10 ?_
    exact ⟨.inr rfl, rfl, (by (refine res_t rfl ?_); (rw [if_pos hq] at h3; rw [h3])), trivial⟩
   ·have hq : a * b % p ≠ 1 := fun e => by rw [e] at hc; simp at hc
    refine sx 8 ?_
    exact round_n (b + 1) (by rw [if_neg hq] at h3; exact ⟨by omega, by omega, by rw [show p + 1 - (b + 1) = f by omega]; exact h3⟩) (by omega) (by exact il)
  ·have hcb : b = p := by have := of_decide_eq_false hc; omega
   refine sx 9 ?_
   exact ⟨.inr rfl, rfl, (by (refine res_t rfl ?_); (rw [hcb, show p + 1 - p = 0 + 1 by omega, invA, if_neg (by omega)] at h3; rw [← h3]; rfl)), trivial⟩
def sizeI (l : List Int) : Nat := l.foldl (fun n a => max n (bl a.natAbs)) 0
theorem sizeI_take {l : List Int} {i : Nat} {x : Int} (h : l[i]? = some x) : sizeI (l.take (i + 1)) = max (sizeI (l.take i)) (bl x.natAbs) := by
 rw [List.take_add_one, h]; simp [sizeI]
theorem qpoly_size (l : List Int) : FnP Tryz.prog tb F_qpoly_size [encIs l] (.i .i64 (sizeI l)) := by
 refine fn1 Tryz.func124 fun G hG hK hF => ?_
 refine wp_zl (l := l) 0 rfl fun hb => ?_
 refine sx 13 ?_
 refine wp_l2 hK (krc 6 rfl (krc 7 rfl krn)) khn (fun sl' h' (i : Nat) => ⟨(3, .t (.i .i64 ((sizeI (l.take i))))) :: (8, .t (.i .i64 (i))) :: sl', h', 0, 0⟩) (fun i => i ≤ l.length) (fun i => l.length - i) 0 ?_ (fun _ => rfl) ?_ ?_
 ·exact Nat.zero_le _
 ·exact il
 ·intro i hi
  refine sx 4 ?_
  refine wp_c rfl (fun hc => ?_) (fun hc => ?_)
  ·have hci : i < l.length := by simpa using hc
   obtain ⟨x, hx⟩ : ∃ x, l[i]? = some x := ⟨_, List.getElem?_eq_getElem hci⟩
   refine sx 13 ?_
   refine oq (.callR (yb := as1) (yc := num_Bits x)) ?_
   refine sx 9 ?_
   exact round_n (i + 1) (by omega) (by omega) (by exact imp_trim (by repeat' (first | exact trivial | (refine And.intro (by first | rfl | exact geti rfl (by rw [sizeI_take hx]; omega)) ?_))) gb rfl gb)
  ·obtain rfl : i = l.length := by { have : ¬ i < l.length := by { simpa using hc }; omega }
   refine sx 10 ?_
   exact ⟨.inr rfl, rfl, (by (refine res_t rfl ?_); (rw [List.take_length])), trivial⟩
theorem qpoly_primes : FnP Tryz.prog tb F_qpoly_primes [] (.fn F_qpoly_primes_c1 []) := by
 refine fn1 Tryz.func127 fun G hG hK hF => ?_
 refine sx 7 ?_
 exact ⟨.inr rfl, rfl, (by (refine res_t rfl ?_); (rfl)), trivial⟩
def lastI (l : List Int) : Int := l.getD (l.length - 1) 0
def SimpleAt (l : List Int) (p x : Nat) : Prop := (valM l x p).1 ≠ 0 ∨ (valM l x p).2 ≠ 0
instance (l : List Int) (p x : Nat) : Decidable (SimpleAt l p x) := by unfold SimpleAt; infer_instance
def Simple (l : List Int) (p : Nat) : Prop := lastI l % p ≠ 0 ∧ ∀ x, x < p → SimpleAt l p x
instance (l : List Int) (p : Nat) : Decidable (Simple l p) := by unfold Simple; infer_instance
def rootsM (l : List Int) (p k : Nat) : List Nat := (List.range k).filter fun (x : Nat) => decide ((valM l x p).1 = 0)
def encN (x : Nat) : Tr := .i .i64 x
def simpleR (l : List Int) (p : Nat) : List Nat × Bool := if Simple l p then (rootsM l p p, true) else ([], false)
theorem rootsM_succ {l : List Int} {p k : Nat} : rootsM l p (k + 1) = rootsM l p k ++ (if (valM l k p).1 = 0 then [k] else []) := by
 unfold rootsM
 rw [List.range_succ, List.filter_append]
 congr 1
 by_cases h : (valM l k p).1 = 0 <;> simp [h]
theorem rootsM_len {l : List Int} {p k : Nat} : (rootsM l p k).length ≤ k := by
 unfold rootsM
 exact Nat.le_trans (List.length_filter_le _ _) (by simp)
theorem qpoly_simple (l : List Int) (p : Nat) (hl : l ≠ []) (hp : 0 < p) (hp2 : p < 2147483648) (hl4 : ∀ a ∈ l, Fi 4 a) : FnP Tryz.prog tb F_qpoly_simple [encIs l, .i .i64 p] (.tu [.sl T_int ((simpleR l p).1.map encN), .b (simpleR l p).2]) := by
 have hl0 : 0 < l.length := List.length_pos_iff.2 hl
 have hlast : l[l.length - 1]? = some (lastI l) := by rw [lastI, List.getD_eq_getElem?_getD, List.getElem?_eq_getElem (by omega)]; rfl
 have hr1 := Int.emod_nonneg (lastI l) (show (p : Int) ≠ 0 by omega)
 have hr2 := Int.emod_lt_of_pos (lastI l) (show (0 : Int) < p by omega)
 have hlast4 := hl4 _ (List.mem_of_getElem? hlast)
 refine fnP_T tbOk Tryz.func128 rfl rfl (Nat.le_of_ble_eq_true rfl) rfl fun G hG hK => ?_
 have hF : Wd Fence.wide := .inl rfl
 refine wp_zl (l := l) 0 rfl fun hb => ?_
 refine sx 10 ?_
 refine oq (.indexAddrR (yf := by omega) (yg := by exact encIs_atn (i := l.length - 1) (by omega) hlast)) ?_
 refine sx 2 ?_
 refine oq (.callR (yb := asc (.inl rfl) as1) (yc := qpoly_small (lastI l) p (by omega) (by omega))) ?_
 refine sx 2 ?_
 refine wp_c rfl (fun hc => ?_) (fun hc => ?_)
 ·have h0 : lastI l % p = 0 := by have := beq_iff_eq.1 hc; exact this
  have hs : ¬ Simple l p := fun h => h.1 h0
  refine sx 6 ?_
  exact ⟨.inr rfl, rfl, (by (refine res_nl rfl ?_); (rw [simpleR, if_neg hs]; rfl)), (by (refine res_t rfl ?_); (rw [simpleR, if_neg hs])), trivial⟩
 ·have h0 : lastI l % p ≠ 0 := fun e => by rw [e] at hc; simp at hc
  refine sx 8 ?_
  refine wp_l2 hK (krc 0 rfl (krc 1 rfl (krc 18 rfl krn))) khn (fun sl' h' (x : Nat) => ⟨(4, ap T_int 0 ((rootsM l p x).map encN)) :: (19, .t (.i .i64 (x))) :: sl', (0, apO T_int ((rootsM l p x).map encN)) :: h', 1, 0⟩) (fun x => x ≤ p ∧ ∀ y, y < x → SimpleAt l p y) (fun x => p - x) 0 ?_ (fun _ => rfl) ?_ ?_
  ·exact ⟨Nat.zero_le _, fun y hy => by omega⟩
  ·exact imp_ap0 4 rfl (by rfl) ga gb rfl gb rfl
  ·rintro x ⟨hx, hs⟩
   refine sx 4 ?_
   refine wp_c rfl (fun hc => ?_) (fun hc => ?_)
   ·have hcx : x < p := by simpa using hc
    refine sx 28 ?_
    refine wp_c rfl (fun hc => ?_) (fun hc => ?_)
    ·have hv : (valM l x p).1 = 0 := by have : (valM l x p).1.sign = 0 := by { simpa using hc }; exact Int.sign_eq_zero_iff_zero.1 this
     refine sx 6 ?_
     refine wp_c rfl (fun hc => ?_) (fun hc => ?_)
     ·have hv2 : (valM l x p).2 = 0 := by have : (valM l x p).2.sign = 0 := by { simpa using hc }; exact Int.sign_eq_zero_iff_zero.1 this
      have hs : ¬ Simple l p := fun h => (h.2 x hcx).elim (fun h => h hv) fun h => h hv2
      refine sx 11 ?_
      exact ⟨.inr rfl, rfl, (by (refine res_nl rfl ?_); (rw [simpleR, if_neg hs]; rfl)), (by (refine res_t rfl ?_); (rw [simpleR, if_neg hs])), trivial⟩
     ·have hv2 : (valM l x p).2 ≠ 0 := fun e => by rw [e] at hc; simp at hc
      refine sx 6 ?_
      refine oed (.appendAR (yd := by decide) (ye := by decide) (yj := .inl rfl) (yk := by rfl) (yl := by (have h9 := rootsM_len (l := l) (p := p) (k := x); simp; omega))) ?_
      refine sx 8 ?_
      exact round_n (x + 1) (by exact ⟨by omega, fun y hy => by rcases Nat.eq_or_lt_of_le (Nat.le_of_lt_succ hy) with rfl | h; exact .inr hv2; exact hs y h⟩) (by omega) (by exact imp_ap 4 rfl rfl (by rw [rootsM_succ, if_pos hv]; simp [encN]) ga gb rfl gb rfl rfl)
    ·have hv : (valM l x p).1 ≠ 0 := fun e => by rw [e] at hc; simp at hc
     refine sx 7 ?_
     exact round_n (x + 1) (by exact ⟨by omega, fun y hy => by rcases Nat.eq_or_lt_of_le (Nat.le_of_lt_succ hy) with rfl | h; exact .inl hv; exact hs y h⟩) (by omega) (by exact imp_ap 4 rfl rfl (by rw [rootsM_succ, if_neg hv, List.append_nil]) ga gb rfl gb rfl rfl)
   ·obtain rfl : x = p := by { have : ¬ x < p := by { simpa using hc }; omega }
    refine sx 5 ?_
    refine wp_imp hK (imp_apF 4 rfl rfl rfl) ?_
    have hs : Simple l x := ⟨h0, hs⟩
    refine sx 6 ?_
    exact ⟨.inr rfl, rfl, (by (refine res_t rfl ?_); (rw [simpleR, if_pos hs])), (by (refine res_t rfl ?_); (rw [simpleR, if_pos hs])), trivial⟩
theorem invA_le (a p : Nat) : ∀ (f b : Nat), invA a p f b ≤ p
 | 0, _ => Nat.zero_le _
 | f + 1, b => by
  rw [invA]
  split
  ·split
   ·omega
   ·exact invA_le a p f (b + 1)
  ·exact Nat.zero_le _
theorem qpoly_inverseZ (z : Int) (p : Nat) (hp : 1 < p) (hp2 : p < 2147483648) (h0 : 0 ≤ z) (h1 : z < p) : FnP Tryz.prog tb F_qpoly_inverse [.i .i64 z, .i .i64 p] (.i .i64 (invA z.toNat p p 1)) := by
 have h := qpoly_inverse z.toNat p hp hp2 (by omega)
 rw [Int.toNat_of_nonneg h0] at h; exact h
theorem cmpI_le (a b : Int) : cmpI a b ≤ 0 ↔ a ≤ b := by
 unfold cmpI
 split
 ·omega
 ·split <;> omega
def liftS (l : List Int) (s : Int × Int × Int) : Int × Int × Int :=
 let w := s.2.1 * s.2.1
 let b := (s.2.2 * (2 - (valM l s.1 w).2 * s.2.2)) % w
 ((s.1 - (valM l s.1 w).1 * b) % w, w, b)
def liftF (l : List Int) (most : Int) : Nat → Int × Int × Int → Int × Int × Int
 | 0, s => s
 | f + 1, s => if s.2.1 ≤ most then liftF l most f (liftS l s) else s
theorem liftS_pow {l : List Int} {s : Int × Int × Int} (h : 1 < s.2.1) : s.2.1 < (liftS l s).2.1 := by
 show s.2.1 < s.2.1 * s.2.1
 have : s.2.1 * 1 < s.2.1 * s.2.1 := Int.mul_lt_mul_of_pos_left h (by omega)
 omega
theorem liftF_fuel {l : List Int} {most : Int} : ∀ (f g : Nat) (s : Int × Int × Int), 1 < s.2.1 → (most - s.2.1 + 1).toNat ≤ f → (most - s.2.1 + 1).toNat ≤ g → liftF l most f s = liftF l most g s
 | 0, 0, s, _, _, _ => rfl
 | 0, g + 1, s, h, hf, _ => by
  rw [liftF, liftF, if_neg (by omega)]
 | f + 1, 0, s, h, _, hg => by
  rw [liftF, liftF, if_neg (by omega)]
 | f + 1, g + 1, s, h, hf, hg => by
  rw [liftF, liftF]
  split
  ·have := liftS_pow (l := l) h
   exact liftF_fuel f g _ (by omega) (by omega) (by omega)
  ·rfl
theorem liftF_next {l : List Int} {most : Int} {s : Int × Int × Int} (h : 1 < s.2.1) (hle : s.2.1 ≤ most) : liftF l most (most - (liftS l s).2.1 + 1).toNat (liftS l s) = liftF l most (most - s.2.1 + 1).toNat s := by
 have hp := liftS_pow (l := l) h
 have e : (most - s.2.1 + 1).toNat = (most - s.2.1).toNat + 1 := by omega
 rw [e]
 conv => rhs; rw [liftF, if_pos hle]
 exact liftF_fuel _ _ _ (by omega) (Nat.le_refl _) (by omega)
theorem liftF_end {l : List Int} {most : Int} {s : Int × Int × Int} (hle : ¬ s.2.1 ≤ most) (n : Nat) : liftF l most n s = s := by
 cases n with
 | zero => rfl
 | succ n => rw [liftF, if_neg hle]
def lift0 (l : List Int) (x p : Nat) : Int × Int × Int := (x, p, invA ((valM l x p).2 % p).toNat p p 1)
def lifted (l : List Int) (x p : Nat) (most : Int) : Int × Int × Int := liftF l most (most + 1).toNat (lift0 l x p)
structure LB (M : Nat) (s : Int × Int × Int) : Prop where
 w1 : 1 < s.2.1
 r : s.1.natAbs ≤ s.2.1.natAbs
 b : s.2.2.natAbs ≤ s.2.1.natAbs
 ww : wl s.2.1.natAbs ≤ 2 * M
theorem LB.small {M : Nat} {s : Int × Int × Int} (h : LB M s) {most : Int} (hm : s.2.1 ≤ most) (hM : wl most.natAbs ≤ M) : wl s.1.natAbs ≤ M ∧ wl s.2.1.natAbs ≤ M ∧ wl s.2.2.natAbs ≤ M := by
 have h1 := h.w1
 have h2 : wl s.2.1.natAbs ≤ M := Nat.le_trans (wl_mono (by omega)) hM
 exact ⟨Nat.le_trans (wl_mono h.r) h2, h2, Nat.le_trans (wl_mono h.b) h2⟩
theorem LB.step {M : Nat} {s : Int × Int × Int} (h : LB M s) {most : Int} (hm : s.2.1 ≤ most) (hM : wl most.natAbs ≤ M) (l : List Int) : LB M (liftS l s) := by
 have h1 := liftS_pow (l := l) h.w1
 have h2 := h.w1
 obtain ⟨_, h3, _⟩ := h.small hm hM
 have hpos : 0 < (liftS l s).2.1 := by omega
 have hmod : ∀ a : Int, (a % (liftS l s).2.1).natAbs ≤ (liftS l s).2.1.natAbs := fun a => by
  have e1 := Int.emod_nonneg a (show (liftS l s).2.1 ≠ 0 by omega)
  have e2 := Int.emod_lt_of_pos a hpos
  omega
 refine ⟨by omega, hmod _, hmod _, ?_⟩
 show wl (s.2.1 * s.2.1).natAbs ≤ 2 * M
 have := wl_mulI h3 h3
 omega
theorem LB.run {M : Nat} {most : Int} (hM : wl most.natAbs ≤ M) (l : List Int) : ∀ (f : Nat) {s : Int × Int × Int}, LB M s → LB M (liftF l most f s)
 | 0, s, h => h
 | f + 1, s, h => by
  rw [liftF]
  split
  ·rename_i hle; exact LB.run hM l f (h.step hle hM l)
  ·exact h
theorem LB.init {l : List Int} {x p M : Nat} (hp : 1 < p) (hp2 : p < 2147483648) (hx : x < p) (hM : 1 ≤ M) : LB M (lift0 l x p) := by
 refine ⟨by show (1 : Int) < p; omega, by show ((x : Int)).natAbs ≤ ((p : Int)).natAbs; omega, ?_, ?_⟩
 ·show ((invA ((valM l x p).2 % p).toNat p p 1 : Nat) : Int).natAbs ≤ ((p : Int)).natAbs
  have := invA_le ((valM l x p).2 % p).toNat p p 1
  omega
 ·show wl ((p : Int)).natAbs ≤ 2 * M
  have : wl ((p : Int)).natAbs ≤ 1 := wl_le (by omega)
  omega
theorem lifted_LB {l : List Int} {x p M : Nat} {most : Int} (hp : 1 < p) (hp2 : p < 2147483648) (hx : x < p) (hM : wl most.natAbs ≤ M) (hM1 : 1 ≤ M) : LB M (lifted l x p most) := LB.run hM l _ (LB.init hp hp2 hx hM1)
theorem fi_of_wl {k n : Nat} {z : Int} (h : wl z.natAbs ≤ n) (hn : n ≤ k * 274877906944) : Fi k z := ⟨Nat.le_trans h hn⟩
theorem qpoly_lifted (l : List Int) (x p : Nat) (most : Int) (hp : 1 < p) (hp2 : p < 2147483648) (hx : x < p) (hl4 : ∀ a ∈ l, Fi 4 a) (hmost : wl most.natAbs ≤ 274877906944) : FnP Tryz.prog tb F_qpoly_lifted [encIs l, .i .i64 x, .i .i64 p, encI most] (.tu [encI (lifted l x p most).1, encI (lifted l x p most).2.1]) := by
 have hr1 := Int.emod_nonneg (valM l x p).2 (show (p : Int) ≠ 0 by omega)
 have hr2 := Int.emod_lt_of_pos (valM l x p).2 (show (0 : Int) < p by omega)
 refine fnP_T tbOk Tryz.func129 rfl rfl (Nat.le_of_ble_eq_true rfl) rfl fun G hG hK => ?_
 have hF : Wd Fence.wide := .inl rfl
 refine sx 29 ?_
 refine oq (.callR (yb := asc (.inl rfl) as1) (yc := qpoly_small (valM l x p).2 p (by omega) (by omega) ((valM_fi (l := l) (x := (x : Int)) (Fi.small (show ((p : Int)).natAbs < 18446744073709551616 by omega)) (by omega)).2.le (by decide)))) ?_
 refine om ?_
 refine oq (.callR (yb := asc (.inl rfl) as1) (yc := qpoly_inverseZ _ p hp hp2 hr1 hr2)) ?_
 refine oq (.callR (yb := as1) (yc := num_Of (invA ((valM l x p).2 % p).toNat p p 1 : Nat) (by omega) (by have := invA_le ((valM l x p).2 % p).toNat p p 1; omega))) ?_
 refine sx 5 ?_
 refine wp_l2 hK (krc 0 rfl (krc 7 rfl (krc 8 rfl (krc 9 rfl (krc 12 rfl krn))))) (khc 2 rfl (khc 3 rfl khn)) (fun sl' h' ((r, w, b) : Int × Int × Int) => ⟨sl', (0, some (.arr T_Int [.t (encI r)])) :: (1, some (.arr T_Int [.t (encI w)])) :: (4, some (.arr T_Int [.t (encI b)])) :: h', 5, 0⟩) (fun s => LB 274877906944 s ∧ liftF l most (most - s.2.1 + 1).toNat s = lifted l x p most) (fun s => (most - s.2.1 + 1).toNat) (lift0 l x p) ?_ (fun _ => rfl) ?_ ?_
 ·refine ⟨LB.init hp hp2 hx (by decide), liftF_fuel _ _ _ (by show (1 : Int) < p; omega) (Nat.le_refl _) ?_⟩; show (most - (p : Int) + 1).toNat ≤ (most + 1).toNat; omega
 ·exact il
 ·rintro ⟨r, w, b⟩ ⟨hLB, hs⟩
  have hw : 1 < w := hLB.w1
  have hww : w < w * w := by have := Int.mul_lt_mul_of_pos_left hw (show 0 < w by omega); omega
  refine sx 4 ?_
  refine oq (.callR (yb := asc (.inl rfl) as1) (yc := num_Cmp w most)) ?_
  refine sx 2 ?_
  refine wp_c rfl (fun hc => ?_) (fun hc => ?_)
  ·have hle : w ≤ most := (cmpI_le w most).1 (of_decide_eq_true hc)
   obtain ⟨q1, q2, q3⟩ := hLB.small hle hmost
   have q1 : Fi 1 r := fi_of_wl q1 (by decide)
   have q2 : Fi 1 w := fi_of_wl q2 (by decide)
   have q3 : Fi 1 b := fi_of_wl q3 (by decide)
   have q4 : Fi 4 (w * w) := (q2.mul q2).le (by decide)
   obtain ⟨q5, q6⟩ := valM_fi (l := l) (x := r) (q2.mul q2) (show w * w ≠ 0 by omega)
   have q7 : Fi 2 ((b * (2 - (valM l r (w * w)).2 * b)) % (w * w)) := Fi.mod _ (q2.mul q2) (by omega)
   refine sx 6 ?_
   refine oq (.callR (yb := asc (.inl rfl) as1) (yc := num_Mul w w)) ?_
   refine sx 6 ?_
   refine oq (.callR (yb := asc (.inl rfl) as2) (yc := qpoly_value l r (w * w) (by omega) hl4 (q1.le (by decide)) q4)) ?_
   refine sx 13 ?_
   refine dq (.callR (yb := asc (.inl rfl) as1) (yc := num_Mul (valM l r (w * w)).2 b)) ?_
   refine dq (.callR (yb := asc (.inl rfl) as1) (yc := num_Sub 2 ((valM l r (w * w)).2 * b))) ?_
   refine dq (.callR (yb := asc (.inl rfl) as1) (yc := num_Mul b (2 - (valM l r (w * w)).2 * b))) ?_
   refine sx 1 ?_
   refine dq (.callR (yb := asc (.inl rfl) as1) (yc := qpoly_modulo (b * (2 - (valM l r (w * w)).2 * b)) (w * w) (by omega))) ?_
   refine sx 6 ?_
   refine dq (.callR (yb := asc (.inl rfl) as1) (yc := num_Mul (valM l r (w * w)).1 ((b * (2 - (valM l r (w * w)).2 * b)) % (w * w)))) ?_
   refine dq (.callR (yb := asc (.inl rfl) as1) (yc := num_Sub r ((valM l r (w * w)).1 * ((b * (2 - (valM l r (w * w)).2 * b)) % (w * w))))) ?_
   refine sx 1 ?_
   refine dq (.callR (yb := asc (.inl rfl) as1) (yc := qpoly_modulo (r - (valM l r (w * w)).1 * ((b * (2 - (valM l r (w * w)).2 * b)) % (w * w))) (w * w) (by omega))) ?_
   refine sx 3 ?_
   exact round_n (liftS l (r, w, b)) (by exact ⟨hLB.step hle hmost l, (liftF_next (s := (r, w, b)) hw hle).trans hs⟩) (by show (most - w * w + 1).toNat < (most - w + 1).toNat; omega) (by exact imp_trim ga ga rfl (by repeat' (first | exact trivial | refine ⟨Nat.le_of_ble_eq_true rfl, by exact olt_l rfl, ?_⟩)))
  ·have hle : ¬ w ≤ most := fun h => of_decide_eq_false hc ((cmpI_le w most).2 h)
   refine sx 5 ?_
   have hfin : (r, w, b) = lifted l x p most := by rw [← hs, liftF_end hle]
   refine wp_d tbOk hF mixed hG [1] (by kernel_rfl) ?_
   refine sx 1 ?_
   refine wd_ql rfl rfl rfl (.loadPR (yd := by rfl)) ?_
   refine sx 4 ?_
   exact ⟨.inr rfl, rfl, (by (refine res_c rfl rfl rfl rfl rfl ?_); (rw [← hfin])), (by (refine res_c rfl rfl rfl rfl rfl ?_); (rw [← hfin])), trivial⟩
theorem rowsR_set2 {α : Type} {f : α → Tr} {l m : List α} {j i : Nat} {q r : α} (k k' : Nat) (e : j = k) (e' : i = k') (h : (l.set k q).set k' r = m) : ((rows f l).set j (.t (f q))).set i (.t (f r)) = rows f m := by
 subst e; subst e'; subst h; simp [rows, List.map_set]
theorem rowsR_idx {α : Type} {f : α → Tr} {l : List α} {j : Nat} (h : j < l.length) : j < (rows f l).length := by simpa [rows] using h
theorem rowsR_at {α : Type} {f : α → Tr} {l : List α} {j : Nat} {q : α} (k : Nat) (e : j = k) (h : l[k]? = some q) : (rows f l)[j]? = some (.t (f q)) := by
 subst e; simp [rows, h]
def insPos (x : Rat) (s : List Rat) : Nat → Nat
 | 0 => 0
 | j + 1 => if cmpQ x (s.getD j 0) < 0 then insPos x s j else j + 1
def sw (x : Rat) (s : List Rat) (j : Nat) : List Rat := s.take j ++ x :: s.drop j
def insQ (s : List Rat) (x : Rat) : List Rat := sw x s (insPos x s s.length)
def isort (l : List Rat) : List Rat := l.foldl insQ []
theorem sw_len {x : Rat} {s : List Rat} {j : Nat} : (sw x s j).length = s.length + 1 := by
 simp [sw]; omega
theorem insQ_len {s : List Rat} {x : Rat} : (insQ s x).length = s.length + 1 := sw_len
theorem foldl_insQ_len (l : List Rat) : ∀ s : List Rat, (l.foldl insQ s).length = s.length + l.length := by
 induction l with
 | nil => intro s; rfl
 | cons x l ih => intro s; rw [List.foldl_cons, ih, insQ_len, List.length_cons]; omega
theorem isort_len (l : List Rat) : (isort l).length = l.length := by rw [isort, foldl_insQ_len]; simp
theorem isort_take {l : List Rat} {i : Nat} {x : Rat} (h : l[i]? = some x) : isort (l.take (i + 1)) = insQ (isort (l.take i)) x := by
 rw [List.take_add_one, h]; simp [isort]
theorem sw_at {x : Rat} {s r : List Rat} {j : Nat} (h : j ≤ s.length) : (sw x s j ++ r)[j]? = some x := by
 rw [sw, List.append_assoc, List.getElem?_append_right (by simp; omega), List.length_take, Nat.min_eq_left h, Nat.sub_self]; rfl
theorem sw_below {x y : Rat} {s r : List Rat} {j k : Nat} (hk : k < j) (hj : j ≤ s.length) (h : s[k]? = some y) : (sw x s j ++ r)[k]? = some y := by
 rw [sw, List.append_assoc, List.getElem?_append_left (by simp; omega), List.getElem?_take_of_lt hk, h]
theorem sw_step {x y : Rat} {s r : List Rat} {j : Nat} (hj : j + 1 ≤ s.length) (h : s[j]? = some y) : ((sw x s (j + 1) ++ r).set (j + 1) y).set j x = sw x s j ++ r := by
 have hs : s = s.take j ++ y :: s.drop (j + 1) := by
  have h2 := List.drop_eq_getElem_cons (l := s) (i := j) (by omega)
  rw [List.getElem?_eq_getElem (by omega)] at h
  injection h with h
  rw [← h, ← h2, List.take_append_drop]
 have hl : (s.take j).length = j := by simp; omega
 generalize s.take j = a at *
 generalize s.drop (j + 1) = b at *
 subst hl
 subst hs
 simp [sw, List.take_append, List.drop_append, List.set_append, List.take_of_length_le (Nat.le_succ a.length), List.drop_of_length_le (Nat.le_succ a.length)]
theorem sw_full {x : Rat} {s r : List Rat} : sw x s s.length ++ r = s ++ x :: r := by simp [sw]
theorem sw_mem {x y : Rat} {s : List Rat} {j : Nat} (h : y ∈ sw x s j) : y = x ∨ y ∈ s := by
 unfold sw at h
 rcases List.mem_append.1 h with h | h
 ·exact .inr (List.mem_of_mem_take h)
 ·rcases List.mem_cons.1 h with h | h
  ·exact .inl h
  ·exact .inr (List.mem_of_mem_drop h)
theorem foldl_insQ_mem {y : Rat} (l : List Rat) : ∀ s : List Rat, y ∈ l.foldl insQ s → y ∈ l ∨ y ∈ s := by
 induction l with
 | nil => intro s h; exact .inr h
 | cons x l ih =>
  intro s h
  rcases ih _ h with h | h
  ·exact .inl (List.mem_cons_of_mem _ h)
  ·rcases sw_mem h with rfl | h
   ·exact .inl (List.mem_cons_self ..)
   ·exact .inr h
theorem isort_mem {y : Rat} {l : List Rat} (h : y ∈ isort l) : y ∈ l := by
 rcases foldl_insQ_mem l [] h with h | h
 ·exact h
 ·simp at h
theorem insertionSort (l : List Rat) (hl : l ≠ []) (hB : ∀ q ∈ l, Bq 274877906944 q) : FnH Tryz.prog tb F_slices_insertionSortCmpFunc_api_Rat [.own T_Rat 0 0 l.length, .t (.i .i64 0), .t (.i .i64 l.length), .t (.fn F_rat_Cmp [])] [.arr T_Rat (rows encQ l)] (.t (.tu [])) [(0, some (.arr T_Rat (rows encQ (isort l))))] 1 := by
 have hl0 : 0 < l.length := List.length_pos_iff.2 hl
 have h1 : isort (l.take 1) ++ l.drop 1 = l := by
  cases l with
  | nil => exact absurd rfl hl
  | cons x l => simp [isort, insQ, insPos, sw]
 refine fnH_of tbOk Tryz.func192 rfl rfl (Nat.le_of_ble_eq_true rfl) fun G hG hK => ?_
 have hF : Wd Fence.wide := .inl rfl
 refine wp_boundO 0 rfl fun hb => ?_
 have hb : l.length * 64 ≤ 140737488355328 := hb
 refine sx 6 ?_
 refine wp_l2 hK (krc 0 rfl (krc 1 rfl (krc 2 rfl (krc 3 rfl krn)))) khn (fun sl' h' (i : Nat) => ⟨(8, .t (.i .i64 (i))) :: sl', (0, some (.arr T_Rat (rows encQ (isort (l.take i) ++ l.drop i)))) :: h', 1, 0⟩) (fun i => 1 ≤ i ∧ i ≤ l.length) (fun i => l.length - i) 1 ?_ (fun _ => rfl) ?_ ?_
 ·trivial
 ·exact imp_less ga (by repeat' (first | exact trivial | (refine And.intro (by exact geth rfl (by rw [h1])) ?_))) (by exact Nat.le_of_ble_eq_true rfl)
 ·rintro i ⟨hi1, hi⟩
  refine sx 6 ?_
  refine wp_c rfl (fun hc => ?_) (fun hc => ?_)
  ·have hci : i < l.length := by simpa using hc
   obtain ⟨x, hx⟩ : ∃ x, l[i]? = some x := ⟨_, List.getElem?_eq_getElem hci⟩
   have hsl : (isort (l.take i)).length = i := by rw [isort_len, List.length_take]; omega
   have hd : isort (l.take i) ++ l.drop i = sw x (isort (l.take i)) i ++ l.drop (i + 1) := by
    have := sw_full (x := x) (s := isort (l.take i)) (r := l.drop (i + 1)); rw [hsl] at this; rw [this, List.drop_eq_getElem_cons hci]; rw [List.getElem?_eq_getElem hci] at hx; injection hx with hx; rw [hx]
   refine sx 9 ?_
   refine wp_l2 hK (krc 0 rfl (krc 1 rfl (krc 2 rfl (krc 3 rfl (krc 8 rfl krn))))) khn (fun sl' h' (j : Nat) => ⟨(9, .t (.i .i64 (j))) :: sl', (0, some (.arr T_Rat (rows encQ (sw x (isort (l.take i)) j ++ l.drop (i + 1))))) :: h', 1, 0⟩) (fun j => j ≤ i ∧ insPos x (isort (l.take i)) j = insPos x (isort (l.take i)) i) (fun j => j) i ?_ (fun _ => rfl) ?_ ?_
   ·exact ⟨Nat.le_refl _, rfl⟩
   ·exact imp_less ga (by repeat' (first | exact trivial | (refine And.intro (by exact geth rfl (by rw [hd])) ?_))) (by exact Nat.le_of_ble_eq_true rfl)
   ·rintro j ⟨hj, hp⟩
    refine wp_s ?_
    rcases j with _ | j
    ·refine sx 19 ?_
     refine wp_cF rfl (by rfl) ?_
     refine sx 11 ?_
     exact round_n (i + 1) (by omega) (by omega) (by exact imp_less ga (by repeat' (first | exact trivial | (refine And.intro (by exact geth rfl (by rw [isort_take hx, insQ, hsl, ← hp]; rfl)) ?_))) (by exact Nat.le_of_ble_eq_true rfl))
    ·obtain ⟨y, hy⟩ : ∃ y, (isort (l.take i))[j]? = some y := ⟨_, List.getElem?_eq_getElem (by omega)⟩
     have hgy : (isort (l.take i)).getD j 0 = y := by rw [List.getD_eq_getElem?_getD, hy]; rfl
     refine sx 15 ?_
     refine wd_gq rfl rfl rfl (by (simp; done)) rfl rfl rfl (.callR (yb := asc (.inl rfl) as1) (yc := rat_Cmp x y (hB x (List.mem_of_getElem? hx)) (hB y (List.mem_of_mem_take (isort_mem (List.mem_of_getElem? hy)))))) ?_
     refine sx 3 ?_
     refine wp_c rfl (fun hc => ?_) (fun hc => ?_)
     ·have hc : cmpQ x y < 0 := of_decide_eq_true hc
      refine sx 20 ?_
      refine wd_e rfl rfl rfl (.storeR (ye := by (exact rowsR_idx (by rw [List.length_append, sw_len]; omega))) (yg := .inl rfl)) (by exact trivial) ?_
      refine sx 1 ?_
      refine wd_e rfl rfl rfl (.storeR (ye := by ((rw [List.length_set]; exact rowsR_idx (by rw [List.length_append, sw_len]; omega)))) (yg := .inl rfl)) (by exact trivial) ?_
      refine sx 8 ?_
      exact round_n j (by exact ⟨by omega, by rw [← hp, insPos, hgy, if_pos hc]⟩) (by omega) (by exact imp_less (by repeat' (first | exact trivial | (refine And.intro (by first | rfl | exact geti rfl (by omega)) ?_))) (by repeat' (first | exact trivial | (refine And.intro (by exact geth rfl (rowsR_set2 (j + 1) j (by omega) (by omega) (sw_step (by omega) hy))) ?_))) (by exact Nat.le_of_ble_eq_true rfl))
     ·have hc : ¬ cmpQ x y < 0 := of_decide_eq_false hc
      refine sx 11 ?_
      exact round_n (i + 1) (by omega) (by omega) (by exact imp_less ga (by repeat' (first | exact trivial | (refine And.intro (by exact geth rfl (by rw [isort_take hx, insQ, hsl, ← hp, insPos, hgy, if_neg hc])) ?_))) (by exact Nat.le_of_ble_eq_true rfl))
  ·obtain rfl : i = l.length := by { have : ¬ i < l.length := by { simpa using hc }; omega }
   refine sx 4 ?_
   exact ⟨.inl rfl, rfl, _, Imp.refl _ _, Nat.le_of_ble_eq_true rfl, Nat.le_of_ble_eq_true rfl, (by repeat' (first | exact trivial | (refine And.intro (by exact geth rfl (by rw [List.take_length, List.drop_length, List.append_nil])) ?_))), .inl ⟨[], rfl, trivial⟩⟩
theorem bits_Len64s (x : Nat) (hx : x < 256) : FnP Tryz.prog tb F_bits_Len64 [.i .u64 x] (.i .i64 (bl x)) := by
 have hz8 := bl8 hx
 refine fn1 Tryz.func200 fun G hG hK hF => ?_
 refine sx 8 ?_
 refine wp_cF rfl (by refine decide_eq_false ?_; omega) ?_
 refine sx 7 ?_
 refine wp_cF rfl (by refine decide_eq_false ?_; omega) ?_
 refine sx 7 ?_
 refine wp_cF rfl (by refine decide_eq_false ?_; omega) ?_
 refine sx 6 ?_
 refine oq (.indexSR (ye := by omega) (yf := by refine (congrArg (fun s : ByteArray => s[_]?) (by kernel_rfl : _ = tab8)).trans ?_; exact tab8_at hx)) ?_
 refine oq (.convR (yf := by exact (congrArg (fun n : Nat => IntKind.i64.wrap (n : Int)) (UInt8.toNat_ofNat_of_lt' (show bl x < 256 by omega))).trans (wrap_i64 (by omega)))) ?_
 refine sx 4 ?_
 exact ⟨.inr rfl, rfl, (by (refine res_t rfl ?_); (exact tri (by omega))), trivial⟩
theorem bits_Lens (x : Nat) (hx : x < 256) : FnP Tryz.prog tb F_bits_Len [.i .u64 x] (.i .i64 (bl x)) := by
 refine fn1 Tryz.func174 fun G hG hK hF => ?_
 refine sx 4 ?_
 refine wp_cF rfl (by rfl) ?_
 refine sx 4 ?_
 refine oq (.callR (yb := as1) (yc := bits_Len64s x hx)) ?_
 refine sx 3 ?_
 exact ⟨.inr rfl, rfl, (by (refine res_t rfl ?_); (rfl)), trivial⟩
theorem pdqsort (l : List Rat) (hl : l ≠ []) (h12 : l.length ≤ 12) (hB : ∀ q ∈ l, Bq 274877906944 q) (lim : Int) : FnH Tryz.prog tb F_slices_pdqsortCmpFunc_api_Rat [.own T_Rat 0 0 l.length, .t (.i .i64 0), .t (.i .i64 l.length), .t (.i .i64 lim), .t (.fn F_rat_Cmp [])] [.arr T_Rat (rows encQ l)] (.t (.tu [])) [(0, some (.arr T_Rat (rows encQ (isort l))))] 1 := by
 refine fnH_of tbOk Tryz.func173 rfl rfl (Nat.le_of_ble_eq_true rfl) fun G hG hK => ?_
 have hF : Wd Fence.wide := .inl rfl
 refine sx 7 ?_
 refine wp_l2 hK (krc 4 rfl krn) khn (fun sl' h' (_ : Unit) => ⟨(0, .own T_Rat 0 0 l.length) :: (1, .t (.i .i64 (0))) :: (2, .t (.i .i64 (l.length))) :: (3, .t (.i .i64 (lim))) :: (10, .t (.b (true))) :: (11, .t (.b (true))) :: sl', (0, some (.arr T_Rat (rows encQ l))) :: h', 1, 0⟩) (fun _ => True) (fun _ => 0) () ?_ (fun _ => rfl) ?_ ?_
 ·trivial
 ·exact il
 ·intro _ _
  refine sx 12 ?_
  refine wp_cT rfl (by (refine decide_eq_true ?_; omega)) ?_
  refine sx 5 ?_
  refine oed (callh [0] (insertionSort l hl hB) (.inr ⟨_, rfl, rfl⟩) (hac rfl (hac rfl (hac rfl (hac rfl han)))) rfl rfl rfl (by decide) (oic rfl (by exact ren_t) oin) (olts_c (by exact olt_t) olts_n) rfl (outs_s rfl (by exact ren_t) outs_0) rfl rfl rfl) ?_
  refine sx 6 ?_
  exact ⟨.inr rfl, rfl, _, Imp.refl _ _, Nat.le_of_ble_eq_true rfl, Nat.le_of_ble_eq_true rfl, ga, .inl ⟨[], rfl, trivial⟩⟩
theorem sortFunc (l : List Rat) (hl : l ≠ []) (h12 : l.length ≤ 12) (hB : ∀ q ∈ l, Bq 274877906944 q) : FnH Tryz.prog tb F_slices_SortFunc [.own T_Rat 0 0 l.length, .t (.fn F_rat_Cmp [])] [.arr T_Rat (rows encQ l)] (.t (.tu [])) [(0, some (.arr T_Rat (rows encQ (isort l))))] 1 := by
 refine fnH_of tbOk Tryz.func134 rfl rfl (Nat.le_of_ble_eq_true rfl) fun G hG hK => ?_
 have hF : Wd Fence.wide := .inl rfl
 refine sx 10 ?_
 refine oq (.callR (yb := as1) (yc := bits_Lens l.length (by omega))) ?_
 refine om ?_
 refine oed (callh [0] (pdqsort l hl h12 hB _) (.inr ⟨_, rfl, rfl⟩) (hac rfl (hac rfl (hac rfl (hac rfl (hac rfl han))))) rfl rfl rfl (by decide) (oic rfl (by exact ren_t) oin) (olts_c (by exact olt_t) olts_n) rfl (outs_s rfl (by exact ren_t) outs_0) rfl rfl rfl) ?_
 refine sx 1 ?_
 exact ⟨.inl rfl, rfl, _, Imp.refl _ _, Nat.le_of_ble_eq_true rfl, Nat.le_of_ble_eq_true rfl, ga, .inl ⟨[], rfl, trivial⟩⟩
theorem insertionSort0 : FnP Tryz.prog tb F_slices_insertionSortCmpFunc_api_Rat [.sl T_Rat [], .i .i64 0, .i .i64 0, .fn F_rat_Cmp []] (.tu []) := by
 refine fnP_T tbOk Tryz.func192 rfl rfl (Nat.le_of_ble_eq_true rfl) rfl fun G hG hK => ?_
 have hF : Wd Fence.wide := .inl rfl
 refine sx 6 ?_
 refine wp_l2 hK (krc 0 rfl (krc 1 rfl (krc 2 rfl (krc 3 rfl krn)))) khn (fun sl' h' (_ : Unit) => ⟨(8, .t (.i .i64 (1))) :: sl', h', 0, 0⟩) (fun _ => True) (fun _ => 0) () ?_ (fun _ => rfl) ?_ ?_
 ·trivial
 ·exact il
 ·intro _ _
  refine sx 6 ?_
  refine wp_cF rfl (by rfl) ?_
  refine sx 4 ?_
  exact ⟨.inl rfl, rfl, trivial⟩
theorem pdqsort0 (lim : Int) : FnP Tryz.prog tb F_slices_pdqsortCmpFunc_api_Rat [.sl T_Rat [], .i .i64 0, .i .i64 0, .i .i64 lim, .fn F_rat_Cmp []] (.tu []) := by
 refine fnP_T tbOk Tryz.func173 rfl rfl (Nat.le_of_ble_eq_true rfl) rfl fun G hG hK => ?_
 have hF : Wd Fence.wide := .inl rfl
 refine sx 7 ?_
 refine wp_l2 hK (krc 4 rfl krn) khn (fun sl' h' (_ : Unit) => ⟨(0, .t (.sl T_Rat [])) :: (1, .t (.i .i64 (0))) :: (2, .t (.i .i64 (0))) :: (3, .t (.i .i64 (lim))) :: (10, .t (.b (true))) :: (11, .t (.b (true))) :: sl', h', 0, 0⟩) (fun _ => True) (fun _ => 0) () ?_ (fun _ => rfl) ?_ ?_
 ·trivial
 ·exact il
 ·intro _ _
  refine sx 12 ?_
  refine wp_cT rfl (by rfl) ?_
  refine sx 5 ?_
  refine oq (.callR (yb := asc (.inl rfl) as3) (yc := insertionSort0)) ?_
  refine sx 6 ?_
  exact ⟨.inr rfl, rfl, trivial⟩
theorem sortFunc0 : FnP Tryz.prog tb F_slices_SortFunc [.sl T_Rat [], .fn F_rat_Cmp []] (.tu []) := by
 refine fnP_T tbOk Tryz.func134 rfl rfl (Nat.le_of_ble_eq_true rfl) rfl fun G hG hK => ?_
 have hF : Wd Fence.wide := .inl rfl
 refine sx 9 ?_
 refine oq (.convR (yf := by rfl)) ?_
 refine oq (.callR (yb := as1) (yc := bits_Lens 0 (by omega))) ?_
 refine om ?_
 refine oq (.callR (yb := asc (.inl rfl) (asc (.inl rfl) as3)) (yc := pdqsort0 _)) ?_
 refine sx 1 ?_
 exact ⟨.inl rfl, rfl, trivial⟩
def freeP (p : Pol) : Pol := p / p.gcd p.deriv
def bndI (l : List Int) (b : Int) : Int := l.foldl (fun b a => b + (a.natAbs : Int)) b
theorem bndI_take {l : List Int} {b : Int} {i : Nat} {x : Int} (h : l[i]? = some x) : bndI (l.take (i + 1)) b = bndI (l.take i) b + (x.natAbs : Int) := by
 rw [List.take_add_one, h]; simp [bndI]
def mostI (l : List Int) : Int := bndI l (((lastI l).natAbs : Int) + 1) * 2
def above0 (l : List Int) (p x : Nat) : Int := (lifted l x p (mostI l)).1 * lastI l % (lifted l x p (mostI l)).2.1
def aboveI (l : List Int) (p x : Nat) : Int := if cmpI (above0 l p x * 2) (lifted l x p (mostI l)).2.1 > 0 then above0 l p x - (lifted l x p (mostI l)).2.1 else above0 l p x
def candQ (l : List Int) (p x : Nat) : Rat := Rat.divInt (aboveI l p x) (lastI l)
def outsQ (q : Pol) (l : List Int) (p : Nat) (xs : List Nat) : List Rat := xs.flatMap fun x => if q.eval (candQ l p x) = 0 then [candQ l p x] else []
theorem outsQ_take {q : Pol} {l : List Int} {p : Nat} {xs : List Nat} {k x : Nat} (h : xs[k]? = some x) : outsQ q l p (xs.take (k + 1)) = outsQ q l p (xs.take k) ++ (if q.eval (candQ l p x) = 0 then [candQ l p x] else []) := by
 rw [List.take_add_one, h]; simp [outsQ, List.flatMap_append]
def rootsQ (q : Pol) (p : Nat) : List Rat := isort (outsQ q (primN (freeP q)) p (rootsM (primN (freeP q)) p p))
def OddP (n : Nat) : Prop := ∀ d, d < n → 3 ≤ d → d % 2 = 1 → d * d ≤ n → n % d ≠ 0
instance (n : Nat) : Decidable (OddP n) := by unfold OddP; infer_instance
structure First (l : List Int) (p : Nat) : Prop where
 ge : 3 ≤ p
 odd : p % 2 = 1
 lt : p < 2147483648
 prime : OddP p
 simple : Simple l p
 first : ∀ q, q < p → 3 ≤ q → q % 2 = 1 → OddP q → ¬ Simple l q
theorem lifted_pow {l : List Int} {x p : Nat} {most : Int} (hp : 1 < p) : 1 < (lifted l x p most).2.1 := by
 have : ∀ (f : Nat) (s : Int × Int × Int), 1 < s.2.1 → 1 < (liftF l most f s).2.1 := by
  intro f
  induction f with
  | zero => intro s h; exact h
  | succ f ih =>
   intro s h
   rw [liftF]
   split
   ·have := liftS_pow (l := l) h
    exact ih _ (by omega)
   ·exact h
 exact this _ _ (by show (1 : Int) < p; omega)
theorem primN_len (p : Pol) : (primN p).length = p.len := by simp [primN]; rfl
theorem free_ne {p : Pol} (hp : p ≠ 0) : p.gcd p.deriv ≠ 0 ∧ freeP p ≠ 0 := by
 have hg : p.gcd p.deriv ≠ 0 := fun e => hp (Poly.gcd_zero_iff.1 e).1
 refine ⟨hg, fun e => hp ?_⟩
 have h := Poly.div_mul_of_dvd hg (Poly.gcd_is p p.deriv).left
 rw [show p / p.gcd p.deriv = 0 from e] at h
 rw [← h]; grind
theorem gcdIs_dvd (l : List Int) : ∀ x ∈ l, gcdIs l ∣ x := by
 have key : ∀ (l : List Int) (a : Int), l.foldl (fun a x => (Int.gcd a x : Int)) a ∣ a ∧ ∀ x ∈ l, l.foldl (fun a x => (Int.gcd a x : Int)) a ∣ x := by
  intro l
  induction l with
  | nil => intro a; exact ⟨Int.dvd_refl a, fun x h => by simp at h⟩
  | cons y l ih =>
   intro a
   obtain ⟨h1, h2⟩ := ih (Int.gcd a y : Int)
   refine ⟨Int.dvd_trans h1 (Int.gcd_dvd_left ..), fun x hx => ?_⟩
   rcases List.mem_cons.1 hx with rfl | hx
   ·exact Int.dvd_trans h1 (Int.gcd_dvd_right ..)
   ·exact h2 x hx
 exact (key l 0).2
theorem free_len {p : Pol} (hp : p ≠ 0) : (freeP p).len ≤ p.len :=
 Poly.dvd_len ⟨p.gcd p.deriv, (Poly.div_mul_of_dvd (free_ne hp).1 (Poly.gcd_is p p.deriv).left).symm⟩ hp
theorem primN_last {p : Pol} (hp : p ≠ 0) : lastI (primN p) ≠ 0 := by
 have hl := Poly.len_pos hp
 have hpl : p.len = p.c.length := rfl
 have h1 : p.c[p.c.length - 1]? = some p.lead := by rw [cf_at (by omega)]; rfl
 have h2 := numsQ_ne h1 (Poly.lead_ne hp)
 obtain ⟨hg, hG⟩ := primG_ne hp
 have e : lastI (primN p) = (numsQ p.c).getD (p.c.length - 1) 0 / primG p := by
  rw [lastI, primN_len, primN, List.getD_eq_getElem?_getD, List.getElem?_map, List.getElem?_range (by omega)]; simp [hpl]
 rw [e]
 intro h0
 have hd : primG p ∣ (numsQ p.c).getD (p.c.length - 1) 0 := by
  have hm : (numsQ p.c).getD (p.c.length - 1) 0 ∈ numsQ p.c := by
   rw [List.getD_eq_getElem?_getD, List.getElem?_eq_getElem (by simp [numsQ]; omega)]
   exact List.getElem_mem _
  have h3 := gcdIs_dvd (numsQ p.c) _ hm
  unfold primG
  split
  ·exact Int.neg_dvd.2 h3
  ·exact h3
 obtain ⟨k, hk⟩ := hd
 rw [hk, Int.mul_ediv_cancel_left _ hG] at h0
 rw [hk, h0, Int.mul_zero] at h2
 exact h2 rfl
theorem qpoly_primes_odd (n : Nat) : OddP n ↔ ∀ d, 3 ≤ d → d % 2 = 1 → d * d ≤ n → n % d ≠ 0 := by
 constructor
 ·intro h d h1 h2 h3
  refine h d ?_ h1 h2 h3
  have : 3 * d ≤ d * d := Nat.mul_le_mul_right d h1
  omega
 ·intro h d _ h1 h2 h3; exact h d h1 h2 h3
theorem qpoly_simpleT (l : List Int) (p : Nat) (hl : l ≠ []) (hp : 0 < p) (hp2 : p < 2147483648) (h : Simple l p) (hl4 : ∀ a ∈ l, Fi 4 a) : FnP Tryz.prog tb F_qpoly_simple [encIs l, .i .i64 p] (.tu [.sl T_int ((rootsM l p p).map encN), .b true]) := by
 have := qpoly_simple l p hl hp hp2 hl4
 rw [simpleR, if_pos h] at this; exact this
theorem qpoly_simpleF (l : List Int) (p : Nat) (hl : l ≠ []) (hp : 0 < p) (hp2 : p < 2147483648) (h : ¬ Simple l p) (hl4 : ∀ a ∈ l, Fi 4 a) : FnP Tryz.prog tb F_qpoly_simple [encIs l, .i .i64 p] (.tu [.sl T_int [], .b false]) := by
 have := qpoly_simple l p hl hp hp2 hl4
 rw [simpleR, if_neg h] at this; exact this
theorem rootsM_lt {l : List Int} {p k x : Nat} (h : x ∈ rootsM l p k) : x < k := by
 unfold rootsM at h
 rw [List.mem_filter] at h
 exact List.mem_range.1 h.1
theorem encN_at {l : List Nat} {n : Int} {i x : Nat} (e : n.toNat = i) (h : l[i]? = some x) : (l.map encN)[n.toNat]? = some (encN x) := by rw [e]; simp [h]
theorem sortFunc' (l : List Rat) (m : Nat) (hm : m = l.length) (hl : l ≠ []) (h12 : l.length ≤ 12) (hB : ∀ q ∈ l, Bq 274877906944 q) : FnH Tryz.prog tb F_slices_SortFunc [.own T_Rat 0 0 m, .t (.fn F_rat_Cmp [])] [.arr T_Rat (rows encQ l)] (.t (.tu [])) [(0, some (.arr T_Rat (rows encQ (isort l))))] 1 := by
 subst hm; exact sortFunc l hl h12 hB
theorem primN_wl {p : Pol} {w : Nat} (h : CDB w p) : ∀ x ∈ primN p, wl x.natAbs ≤ w := fun x hx => by
 obtain ⟨i, _, rfl⟩ := List.mem_map.1 hx
 refine Nat.le_trans (wl_mono (Int.natAbs_ediv_le_natAbs _ _)) ?_
 rw [List.getD_eq_getElem?_getD]
 cases hq : (numsQ p.c)[i]? with
 | none => exact Nat.zero_le _
 | some y => exact h.nums y (List.mem_of_getElem? hq)
theorem bndI_wl {N : Nat} : ∀ (l : List Int) (b : Int), (∀ x ∈ l, wl x.natAbs ≤ N) → ∀ M, N ≤ M → wl b.natAbs ≤ M → wl (bndI l b).natAbs ≤ M + l.length
 | [], b, _, M, _, hb => hb
 | x :: l, b, h, M, hN, hb => by
  have h1 := wl_addI hb (b := (x.natAbs : Int)) (m := N) (by rw [Int.natAbs_natCast]; exact h x (List.mem_cons_self ..))
  have h2 := bndI_wl l (b + (x.natAbs : Int)) (fun y hy => h y (List.mem_cons_of_mem _ hy)) (M + 1) (by omega) (by omega)
  show wl (bndI l (b + (x.natAbs : Int))).natAbs ≤ _
  rw [List.length_cons]; omega
theorem lastI_mem {l : List Int} (h : l ≠ []) : lastI l ∈ l := by
 have := List.length_pos_iff.2 h
 rw [lastI, List.getD_eq_getElem?_getD, List.getElem?_eq_getElem (by omega)]
 exact List.getElem_mem _
theorem outsQ_mem {q : Pol} {l : List Int} {p : Nat} {xs : List Nat} {y : Rat} (h : y ∈ outsQ q l p xs) : ∃ x ∈ xs, y = candQ l p x := by
 unfold outsQ at h
 obtain ⟨x, hx, hy⟩ := List.mem_flatMap.1 h
 refine ⟨x, hx, ?_⟩
 split at hy
 ·simpa using hy
 ·simp at hy
theorem outsQ_len {q : Pol} {l : List Int} {p : Nat} {xs : List Nat} (k : Nat) : (outsQ q l p (xs.take k)).length ≤ (outsQ q l p xs).length := by
 have e : outsQ q l p xs = outsQ q l p (xs.take k) ++ outsQ q l p (xs.drop k) := by
  unfold outsQ; rw [← List.flatMap_append, List.take_append_drop]
 rw [e, List.length_append]; omega
structure RS (N : Nat) (l : List Int) : Prop where
 el : ∀ x ∈ l, wl x.natAbs ≤ N
 len : l.length ≤ 13
 ne : l ≠ []
theorem RS.most {N : Nat} {l : List Int} (h : RS N l) : wl (mostI l).natAbs ≤ N + 20 := by
 have h1 := wl_addI (a := (((lastI l).natAbs : Nat) : Int)) (b := 1) (n := N) (m := N + 1) (by rw [Int.natAbs_natCast]; exact h.el _ (lastI_mem h.ne)) (Nat.le_trans (wl_le (by decide) : wl (Int.natAbs 1) ≤ 1) (by omega))
 have h2 := bndI_wl l _ h.el (N + 2) (by omega) (Nat.le_trans h1 (by omega))
 have h3 := wl_mulI h2 (b := 2) (m := 1) (wl_le (by decide))
 have h4 := h.len
 unfold mostI; omega
theorem RS.above {N : Nat} {l : List Int} (h : RS N l) {p x : Nat} (hp : 1 < p) (hp2 : p < 2147483648) (hx : x < p) : wl (lifted l x p (mostI l)).1.natAbs ≤ 2 * N + 40 ∧ wl (lifted l x p (mostI l)).2.1.natAbs ≤ 2 * N + 40 ∧ wl (above0 l p x).natAbs ≤ 2 * N + 40 ∧ wl (aboveI l p x).natAbs ≤ 2 * N + 41 := by
 have hL := lifted_LB (l := l) (x := x) (M := N + 20) hp hp2 hx h.most (by omega)
 have h1 : wl (lifted l x p (mostI l)).2.1.natAbs ≤ 2 * N + 40 := Nat.le_trans hL.ww (by omega)
 have h2 := Nat.le_trans (wl_mono hL.r) h1
 have hw := hL.w1
 have h3 : wl (above0 l p x).natAbs ≤ 2 * N + 40 := by
  refine Nat.le_trans (wl_mono ?_) h1
  unfold above0
  have e1 := Int.emod_nonneg ((lifted l x p (mostI l)).1 * lastI l) (show (lifted l x p (mostI l)).2.1 ≠ 0 by omega)
  have e2 := Int.emod_lt_of_pos ((lifted l x p (mostI l)).1 * lastI l) (show 0 < (lifted l x p (mostI l)).2.1 by omega)
  omega
 refine ⟨h2, h1, h3, ?_⟩
 unfold aboveI
 split
 ·have := wl_subI h3 h1; omega
 ·omega
theorem RS.cand {N : Nat} {l : List Int} (h : RS N l) {p x : Nat} (hp : 1 < p) (hp2 : p < 2147483648) (hx : x < p) : Bq (3 * N + 42) (candQ l p x) := (Bq.divInt (h.above hp hp2 hx).2.2.2 (h.el _ (lastI_mem h.ne))).le (by omega)
theorem free_CDB {p : Pol} {w : Nat} (hpB : CDB w p) (hw : w ≤ 100) (hp : p ≠ 0) (hl : p.len ≤ 13) : CDB 505000 (freeP p) :=
 hpB.div' (SqI.init hp |>.sizes hpB hp hw hl).2 (free_ne hp).1 (X := 13) (M := 2765) (by have := Poly.len_pos (free_ne hp).1; omega) (Nat.le_refl _) (by omega)
theorem qpoly_Roots (p : Pol) (h1 : 1 < p.len) (h61 : p.len ≤ 13) {w : Nat} (hpB : CDB w p) (hw : w ≤ 100) (hs : sizeI (primN p) ≤ 4000) (P : Nat) (hP : First (primN (freeP p)) P) (h12 : (outsQ p (primN (freeP p)) P (rootsM (primN (freeP p)) P P)).length ≤ 12) : FnP Tryz.prog tb F_qpoly_Roots [encP p] (.tu [encQs (rootsQ p P), .i .i64 0]) := by
 have hpl : p.len = p.c.length := rfl
 have hp0 : p ≠ 0 := fun e => by rw [e, Poly.len_zero] at h1; omega
 obtain ⟨hg0, hf0⟩ := free_ne hp0
 have hfl := Poly.len_pos hf0
 have hN := primN_len (freeP p)
 have hlast0 := primN_last hf0
 have hfle := free_len hp0
 have hP3 := hP.ge
 have hPlt := hP.lt
 obtain ⟨T0, hT0⟩ := sq_eb hpB hp0 hw h61
 have hI0 := SqI.init hp0
 have hdB := (hpB.deriv (by omega)).pb
 have hgB0 := (hI0.sizes hpB hp0 hw h61).2
 have hfB := free_CDB hpB hw hp0 h61
 have hnB := primN_wl hfB
 generalize hn : primN (freeP p) = n at *
 have hnn : n ≠ [] := fun e => by rw [e] at hN; simp at hN; omega
 have hRS : RS 505000 n := ⟨hnB, by omega, hnn⟩
 have hn4 : ∀ a ∈ n, Fi 4 a := fun a ha => fi_of_wl (hnB a ha) (by decide)
 have hlw := hnB _ (lastI_mem hnn)
 have hl1 : Fi 1 (lastI n) := fi_of_wl hlw (by decide)
 have hab : wl (((lastI n).natAbs : Int) + 1).natAbs ≤ 505002 := by
  have h1 := wl_addI (a := (((lastI n).natAbs : Nat) : Int)) (b := 1) (n := 505000) (m := 1) (by rw [Int.natAbs_natCast]; exact hlw) (wl_le (by decide))
  exact Nat.le_trans h1 (by decide)
 have hbn : ∀ i, wl (bndI (n.take i) (((lastI n).natAbs : Int) + 1)).natAbs ≤ 505020 := fun i => by
  have := bndI_wl (n.take i) _ (fun x hx => hnB x (List.mem_of_mem_take hx)) 505002 (by decide) hab
  have h2 : (n.take i).length ≤ n.length := by rw [List.length_take]; omega
  omega
 have hbf : ∀ i, Fi 1 (bndI (n.take i) (((lastI n).natAbs : Int) + 1)) := fun i => fi_of_wl (hbn i) (by decide)
 have houts : ∀ q ∈ outsQ p n P (rootsM n P P), Bq 274877906944 q := fun q hq => by
  obtain ⟨x, hx, rfl⟩ := outsQ_mem hq
  exact (hRS.cand (by omega) hPlt (rootsM_lt hx)).le (by decide)
 have hnl : 0 < n.length := List.length_pos_iff.2 hnn
 have hlast : n[n.length - 1]? = some (lastI n) := by rw [lastI, List.getD_eq_getElem?_getD, List.getElem?_eq_getElem (by omega)]; rfl
 refine fnP_MT tbOk Tryz.func66 rfl rfl (Nat.le_of_ble_eq_true rfl) rfl fun G hG hK => ?_
 have hF : Wd Fence.wide := .inl rfl
 refine wp_ql (l := p.c) 0 rfl fun hb => ?_
 refine rr ?_
 refine oq (.boxR (yb := .inl rfl)) ?_
 refine oa ?_
 refine oa ?_
 refine wo_nil ?_
 refine wp_s ?_
 refine rr ?_
 refine oq .loadR ?_
 refine oq (.lenR (yc := .inl rfl) (yd := by exact encQs_len)) ?_
 refine oq .cmpR ?_
 refine wo_nil ?_
 refine wp_cF rfl (by refine beq_false_of_ne ?_; omega) ?_
 refine wp_k ?_
 refine then_n ?_
 refine rr ?_
 refine oq .loadR ?_
 refine oq (.callR (yb := as1) (yc := qpoly_Primitive p hp0 hpB (by omega))) ?_
 refine om ?_
 refine oq .extractR ?_
 refine oq .extractR ?_
 refine oq .extractR ?_
 refine on' .allocR ?_
 refine on' .allocNilR ?_
 refine oe (.storeR (ye := by decide) (yg := .inl rfl)) ?_
 refine oe (.storeR (ye := by decide) (yg := .inl rfl)) ?_
 refine oa ?_
 refine wo_nil ?_
 refine wp_s ?_
 refine rr ?_
 refine oq .loadR ?_
 refine oq (.callR (yb := as1) (yc := qpoly_DegP p)) ?_
 refine oq .cmpR ?_
 refine om ?_
 refine gq (z := by (simp; omega)) (.loadPR (yd := by rfl)) ?_
 refine gq (z := by (simp; omega)) (.callR (yb := as1) (yc := qpoly_size _)) ?_
 refine gq (z := by (simp; omega)) .cmpR ?_
 refine oq (.pickF rfl (by (simp; omega)) rfl) ?_
 refine wo_nil ?_
 refine wp_cF rfl (by refine decide_eq_false ?_; omega) ?_
 refine wp_k ?_
 refine then_n ?_
 refine wp_s ?_
 refine rr ?_
 refine oq .loadR ?_
 refine oq (.callR (yb := as1) (yc := qpoly_DegP p)) ?_
 refine oq .cmpR ?_
 refine wo_nil ?_
 refine wp_cF rfl (by refine beq_false_of_ne ?_; omega) ?_
 refine wp_k ?_
 refine then_n ?_
 refine wp_d tbOk hF mixed hG [] (by kernel_rfl) ?_
 refine dq .loadR ?_
 refine dq .loadR ?_
 refine dq .loadR ?_
 refine dq (.callR (yb := as1) (yc := qpoly_Deriv p (hpB.pb.le (by omega)))) ?_
 refine dq (.callR (yb := asc (.inl rfl) as1) (yc := qpoly_Gcd p _ hT0 (by decide) (hpB.pb.le (by omega)) (hdB.le (by omega)))) ?_
 refine dq (.callR (yb := asc (.inl rfl) as1) (yc := qpoly_Div p _ hg0 hpB hgB0 (add_mul_le (c := 14) (e := 2765) (by omega) (Nat.le_refl _) (by omega)))) ?_
 refine dq .moveR ?_
 refine dq .extractR ?_
 refine dq .extractR ?_
 refine dq .extractR ?_
 refine dq .assignR ?_
 refine dq .assignR ?_
 refine dq .assignR ?_
 refine wd_nil ?_
 refine rr ?_
 refine om ?_
 refine oq (.callR (yb := as1) (yc := qpoly_Primitive (freeP p) hf0 hfB (by decide))) ?_
 refine om ?_
 refine oq .extractR ?_
 refine oq .extractR ?_
 refine oq .extractR ?_
 refine oe (.storeR (ye := by (simp; done)) (yg := .inl rfl)) ?_
 refine wo_nil ?_
 rw [hn]
 refine rr ?_
 refine oq (.loadPR (yd := by rfl)) ?_
 refine oq (.loadPR (yd := by rfl)) ?_
 refine oq (.lenR (yc := .inl rfl) (yd := by exact encIs_len)) ?_
 refine oq (.arithR (yd := by exact wrap_i64 (by omega))) ?_
 refine oq (.indexAddrR (yf := by omega) (yg := by exact encIs_atn (i := n.length - 1) (by omega) hlast)) ?_
 refine oq .loadR ?_
 refine on' .allocR ?_
 refine oe (.storeR (ye := by decide) (yg := .inl rfl)) ?_
 refine wo_nil ?_
 refine rr ?_
 refine oq (.loadPR (yd := by rfl)) ?_
 refine oq (.callR (yb := as1) (yc := num_Abs _)) ?_
 refine oq (.callR (yb := as1) (yc := num_Of 1 (by decide) (by decide))) ?_
 refine oq (.callR (yb := asc (.inl rfl) as1) (yc := num_Add (((lastI n).natAbs : Nat) : Int) 1)) ?_
 refine on' .allocR ?_
 refine oe (.storeR (ye := by decide) (yg := .inl rfl)) ?_
 refine wo_nil ?_
 refine wp_s ?_
 refine rr ?_
 refine oq (.loadPR (yd := by rfl)) ?_
 refine oq (.lenR (yc := .inl rfl) (yd := by exact encIs_len)) ?_
 refine om ?_
 refine wo_nil ?_
 refine wp_b ?_
 refine wp_l2 hK (krc 1 rfl (krc 5 rfl (krc 10 rfl (krc 11 rfl (krc 71 rfl (krc 72 rfl krn)))))) (khc 0 rfl (khc 1 rfl (khc 2 rfl khn))) (fun sl' h' (i : Nat) => ⟨(73, .t (.i .i64 (i))) :: sl', (3, some (.arr T_Int [.t (encI (bndI (n.take i) (((lastI n).natAbs : Int) + 1)))])) :: h', 4, 0⟩) (fun i => i ≤ n.length) (fun i => n.length - i) 0 ?_ (fun _ => rfl) ?_ ?_
 ·exact Nat.zero_le _
 ·exact il
 ·intro i hi
  refine rr ?_
  refine oq .cmpR ?_
  refine wo_nil ?_
  refine wp_s ?_
  refine wp_c rfl (fun hc => ?_) (fun hc => ?_)
  ·have hci : i < n.length := by simpa using hc
   obtain ⟨x, hx⟩ : ∃ x, n[i]? = some x := ⟨_, List.getElem?_eq_getElem hci⟩
   have hx1 : Fi 1 ((x.natAbs : Nat) : Int) := Fi.abs (fi_of_wl (hnB x (List.mem_of_getElem? hx)) (by decide))
   have hbi := hbf i
   refine wp_k ?_
   refine then_n ?_
   refine wp_s ?_
   refine wp_b ?_
   refine rr ?_
   refine oq (.indexAddrR (yf := by omega) (yg := by exact encIs_atn (i := i) rfl hx)) ?_
   refine oq .loadR ?_
   refine on' .allocR ?_
   refine oe (.storeR (ye := by decide) (yg := .inl rfl)) ?_
   refine wo_nil ?_
   refine wp_d0 tbOk hF mixed hG [] (by kernel_rfl) ?_
   refine dq (.loadPR (yd := by rfl)) ?_
   refine dq (.loadPR (yd := by rfl)) ?_
   refine dq (.callR (yb := as1) (yc := num_Abs x)) ?_
   refine dq (.callR (yb := asc (.inl rfl) as1) (yc := num_Add (bndI (n.take i) (((lastI n).natAbs : Int) + 1)) ((x.natAbs : Nat) : Int))) ?_
   refine wd_e rfl rfl rfl (.storeR (ye := by (simp; done)) (yg := .inl rfl)) (by exact trivial) ?_
   refine wd_nil ?_
   refine blk_n ?_
   refine then_n ?_
   refine rr0 ?_
   refine oq (.arithR (yd := by exact wrap_i64 (by omega))) ?_
   refine om ?_
   refine wo_nil ?_
   exact round_n (i + 1) (by omega) (by omega) (by exact imp_trim ga (by repeat' (first | exact trivial | (refine And.intro (by first | rfl | exact geth rfl (by rw [bndI_take hx]; rfl)) ?_))) rfl (by repeat' (first | exact trivial | refine ⟨Nat.le_of_ble_eq_true rfl, by exact olt_l rfl, ?_⟩)))
  ·obtain rfl : i = n.length := by { have : ¬ i < n.length := by { simpa using hc }; omega }
   refine wp_x ?_
   refine then_exit ?_
   refine round_exit ?_
   refine blk_hit ?_
   refine then_n ?_
   rw [List.take_length]
   refine rr ?_
   refine on' .allocNilR ?_
   refine wo_nil ?_
   refine wp_s ?_
   refine rr ?_
   refine oq (.callR (yb := asn) (yc := qpoly_primes)) ?_
   refine wo_nil ?_
   refine wp_b ?_
   refine wp_kp hK (krc 1 rfl (krc 5 rfl (krc 10 rfl (krc 11 rfl (krc 14 rfl (krc 82 rfl krn)))))) rfl ?_
   refine wp_rf tbOk rfl hK hG rfl (by exact .inr ⟨_, rfl, rfl⟩) Tryz.func167 rfl rfl rfl rfl ?_
   intro G1 hG1 hK1
   have hF1 : Wd Fence.wide := .inl rfl
   refine wp_r tbOk hF1 hG1 rfl ?_
   refine oa ?_
   refine wo_nil ?_
   refine wp_b ?_
   refine wp_l2 hK1 (krc 0 rfl krn) (khc 0 rfl (khc 1 rfl (khc 2 rfl (khc 3 rfl (khc 4 rfl (khc 5 rfl khn)))))) (fun sl' h' (m : Nat) => ⟨(2, .t (.i .i64 (m))) :: sl', h', 6, 0⟩) (fun m => 3 ≤ m ∧ m % 2 = 1 ∧ m ≤ P) (fun m => P - m) 3 ?_ (fun _ => rfl) ?_ ?_
   ·exact ⟨Nat.le_refl _, rfl, hP3⟩
   ·exact il
   ·rintro m ⟨hm3, hm2, hmP⟩
    refine wp_s ?_
    refine wp_b ?_
    refine wp_r tbOk hF1 hG1 rfl ?_
    refine oa ?_
    refine wo_nil ?_
    refine wp_j2 hK1 (krc 0 rfl (krc 2 rfl krn)) (khc 0 rfl (khc 1 rfl (khc 2 rfl (khc 3 rfl (khc 4 rfl (khc 5 rfl khn)))))) (fun sl' h' (b : Bool) => ⟨(3, .t (.b (b))) :: sl', h', 6, 0⟩) (fun b => (b = true ↔ OddP m)) (fun _ => rfl) ?_ ?_
    ·refine wp_r tbOk hF1 hG1 rfl ?_
     refine oa ?_
     refine wo_nil ?_
     refine wp_b ?_
     refine wp_l2 hK1 (krc 0 rfl (krc 2 rfl krn)) (khc 0 rfl (khc 1 rfl (khc 2 rfl (khc 3 rfl (khc 4 rfl (khc 5 rfl khn)))))) (fun sl' h' ((d, b) : Nat × Bool) => ⟨(3, .t (.b (b))) :: (4, .t (.i .i64 (d))) :: sl', h', 6, 0⟩) (fun (d, b) => 3 ≤ d ∧ d % 2 = 1 ∧ d ≤ m + 2 ∧ (b = true → ∀ e, e < d → 3 ≤ e → e % 2 = 1 → m % e ≠ 0) ∧ (b = false → ¬ OddP m)) (fun (d, b) => m + 4 - d) (3, true) ?_ (fun _ => rfl) ?_ ?_
     ·exact ⟨Nat.le_refl _, rfl, by omega, fun _ e h1 h2 => by omega, fun h => by cases h⟩
     ·exact il
     ·rintro ⟨d, b⟩ ⟨hd3, hd2, hdm, hbt, hbf⟩
      have hdd : d * d < 4611686027017322500 := by have := Nat.mul_lt_mul'' (show d < 2147483650 by omega) (show d < 2147483650 by omega); omega
      refine wp_s ?_
      by_cases hle : d * d ≤ m
      ·refine wp_r tbOk hF1 hG1 rfl ?_
       refine om ?_
       refine om ?_
       refine oq (.arithR (yd := by exact (wrap_i64 (by have : ((d : Int) * (d : Int)) = ((d * d : Nat) : Int) := (Int.natCast_mul d d).symm; omega)).trans (Int.natCast_mul d d).symm)) ?_
       refine om ?_
       refine oq .cmpR ?_
       refine om ?_
       refine gq (z := by (simp; omega)) .moveR ?_
       refine oq (.pickT rfl (by (simp; omega)) rfl) ?_
       refine wo_nil ?_
       refine wp_c rfl (fun hc => ?_) (fun hc => ?_)
       ·have hbb : b = true := hc
        have hdle : d ≤ m := Nat.le_trans (Nat.le_mul_of_pos_left d (by omega)) hle
        refine wp_k ?_
        refine then_n ?_
        refine wp_s ?_
        refine wp_b ?_
        refine wp_r0 tbOk hF1 hG1 rfl ?_
        refine om ?_
        refine om ?_
        refine oq (.remR (yc := by omega) (yd := by exact tmodn)) ?_
        refine oq .cmpR ?_
        refine oa ?_
        refine wo_nil ?_
        refine blk_n ?_
        refine then_n ?_
        refine wp_r0 tbOk hF1 hG1 rfl ?_
        refine om ?_
        refine oq (.arithR (yd := by exact wrap_i64 (by omega))) ?_
        refine oa ?_
        refine wo_nil ?_
        exact round_n (d + 2, decide (m % d ≠ 0)) (by refine ⟨by omega, by omega, by omega, fun h e h1 h2 h3 => ?_, fun h ho => ?_⟩; have h1 : e < d + 2 := h1; rcases Nat.lt_or_ge e d with h4 | h4; exact hbt hbb e h4 h2 h3; (obtain rfl : e = d := by omega); exact of_decide_eq_true h; exact of_decide_eq_false h ((qpoly_primes_odd m).1 ho d hd3 hd2 hle)) (by show m + 4 - (d + 2) < m + 4 - d; omega) (by exact imp_less (by repeat' (first | exact trivial | (refine And.intro (by first | rfl | exact getb rfl (by rw [Bool.eq_iff_iff]; simp; omega)) ?_))) ga (by exact Nat.le_of_ble_eq_true rfl))
       ·refine wp_x ?_
        refine then_exit ?_
        refine round_exit ?_
        refine blk_hit ?_
        exact join_n b (by exact ⟨fun h => by { rw [hc] at h; cases h }, fun h => by cases b; exact (hbf rfl h).elim; rfl⟩) (by exact il)
      ·refine wp_r tbOk hF1 hG1 rfl ?_
       refine om ?_
       refine om ?_
       refine oq (.arithR (yd := by exact (wrap_i64 (by have : ((d : Int) * (d : Int)) = ((d * d : Nat) : Int) := (Int.natCast_mul d d).symm; omega)).trans (Int.natCast_mul d d).symm)) ?_
       refine om ?_
       refine oq .cmpR ?_
       refine om ?_
       refine gs (z := by (simp; omega)) ?_
       refine oq (.pickF rfl (by (simp; omega)) rfl) ?_
       refine wo_nil ?_
       refine wp_cF rfl (by rfl) ?_
       refine wp_x ?_
       refine then_exit ?_
       refine round_exit ?_
       refine blk_hit ?_
       exact join_n b (by exact ⟨fun h => (qpoly_primes_odd m).2 fun e h1 h2 h3 => hbt h e (Nat.lt_of_not_le fun h4 => hle (Nat.le_trans (Nat.mul_le_mul h4 h4) h3)) h1 h2, fun h => by cases b; exact (hbf rfl h).elim; rfl⟩) (by exact il)
    ·intro b hodd
     rcases (show b = false ∨ (b = true ∧ P = m) ∨ (b = true ∧ m < P) by cases b; exact .inl rfl; (rcases Nat.lt_or_eq_of_le hmP with h | h; exact .inr (.inr ⟨rfl, h⟩); exact .inr (.inl ⟨rfl, h.symm⟩))) with rfl | ⟨rfl, rfl⟩ | ⟨rfl, hmlt⟩
     ·refine wp_r tbOk hF1 hG1 rfl ?_
      refine om ?_
      refine om ?_
      refine gs ?_
      refine gs ?_
      refine gs ?_
      refine gs ?_
      refine oq (.pickF rfl (by rfl) rfl) ?_
      refine wo_nil ?_
      refine wp_cF rfl (by rfl) ?_
      refine wp_k ?_
      refine blk_n ?_
      refine then_n ?_
      refine wp_r0 tbOk hF1 hG1 rfl ?_
      refine om ?_
      refine oq (.arithR (yd := by exact wrap_i64 (by omega))) ?_
      refine oa ?_
      refine wo_nil ?_
      exact round_n (m + 2) (by (have hno : ¬ OddP m := fun h => by { have := hodd.2 h; cases this }); (have hne : m ≠ P := fun e => hno (by { rw [e]; exact hP.prime })); have := hP.odd; omega) (by (have hno : ¬ OddP m := fun h => by { have := hodd.2 h; cases this }); (have hne : m ≠ P := fun e => hno (by { rw [e]; exact hP.prime })); omega) (by exact il)
     ·refine wp_r tbOk hF1 hG1 rfl ?_
      refine om ?_
      refine om ?_
      refine gq .moveR ?_
      refine gq .moveR ?_
      refine wo_ged rfl rfl rfl (by rfl) rfl (ev_yF (.exit 2) rfl (hac rfl han) rfl rfl rfl (khc 0 rfl (khc 1 rfl (khc 2 rfl (khc 3 rfl khn)))) (fun h' => (6, apO T_Rat ((outsQ p n P (rootsM n P P)).map encQ)) :: (4, some (.arr T_L_Rat [ap T_Rat 6 ((outsQ p n P (rootsM n P P)).map encQ)])) :: h') 7 ?_) ?_
      ·intro G2 F2 hF2 hG2 hK2
       refine wp_r0 tbOk hF2 hG2 rfl ?_
       refine oa ?_
       refine wo_nil ?_
       refine asg_n rfl rfl ?_
       refine wp_b ?_
       refine wp_r tbOk hF2 hG2 rfl ?_
       refine oq (.loadPR (yd := by rfl)) ?_
       refine om ?_
       refine oq (.callR (yb := asc (.inl rfl) as1) (yc := qpoly_simpleT n P hnn (by omega) hPlt hP.simple hn4)) ?_
       refine om ?_
       refine oq .extractR ?_
       refine oq .extractR ?_
       refine oa ?_
       refine oa ?_
       refine wo_nil ?_
       refine wp_s ?_
       refine wp_r tbOk hF2 hG2 rfl ?_
       refine om ?_
       refine oq .notR ?_
       refine wo_nil ?_
       refine wp_cF rfl (by rfl) ?_
       refine wp_k ?_
       refine then_n ?_
       refine wp_s ?_
       refine wp_r tbOk hF2 hG2 rfl ?_
       refine om ?_
       refine oq (.lenR (yc := .inl rfl) (yd := by exact List.length_map _)) ?_
       refine om ?_
       refine wo_nil ?_
       refine wp_b ?_
       refine wp_l2 hK2 (krc 1 rfl (krc 5 rfl (krc 10 rfl (krc 11 rfl (krc 14 rfl (krc 15 rfl (krc 92 rfl (krc 93 rfl krn)))))))) (khc 0 rfl (khc 1 rfl (khc 2 rfl (khc 3 rfl (khc 5 rfl khn))))) (fun sl' h' (k : Nat) => ⟨(94, .t (.i .i64 (k))) :: sl', (6, apO T_Rat ((outsQ p n P ((rootsM n P P).take k)).map encQ)) :: (4, some (.arr T_L_Rat [ap T_Rat 6 ((outsQ p n P ((rootsM n P P).take k)).map encQ)])) :: h', 7, 0⟩) (fun k => k ≤ (rootsM n P P).length) (fun k => (rootsM n P P).length - k) 0 ?_ (fun _ => rfl) ?_ ?_
       ·exact Nat.zero_le _
       ·exact imp_apC0 4 rfl (by rfl) (by repeat' (first | exact trivial | (refine And.intro (by rfl) ?_))) (by repeat' (first | exact trivial | (refine And.intro (by rfl) ?_))) rfl (by repeat' (first | exact trivial | refine ⟨Nat.le_of_ble_eq_true rfl, by first | exact olt_l rfl | exact olt_loop rfl, ?_⟩)) rfl rfl
       ·intro k hk
        have hRl := rootsM_len (l := n) (p := P) (k := P)
        refine wp_r tbOk hF2 hG2 rfl ?_
        refine oq .cmpR ?_
        refine wo_nil ?_
        refine wp_s ?_
        refine wp_c rfl (fun hc => ?_) (fun hc => ?_)
        ·have hck : k < (rootsM n P P).length := by simpa using hc
         obtain ⟨x, hx⟩ : ∃ x, (rootsM n P P)[k]? = some x := ⟨_, List.getElem?_eq_getElem hck⟩
         have hxP : x < P := rootsM_lt (List.mem_of_getElem? hx)
         obtain ⟨a1, a2, a3, a4⟩ := hRS.above (show 1 < P by omega) hPlt hxP
         have hcand := hRS.cand (show 1 < P by omega) hPlt hxP
         have a1 : Fi 1 (lifted n x P (mostI n)).1 := fi_of_wl a1 (by decide)
         have a2 : Fi 1 (lifted n x P (mostI n)).2.1 := fi_of_wl a2 (by decide)
         have a3 : Fi 1 (above0 n P x) := fi_of_wl a3 (by decide)
         have a4 : Fi 1 (aboveI n P x) := fi_of_wl a4 (by decide)
         have hbb := hbf n.length
         rw [List.take_length] at hbb
         have hmw : wl (mostI n).natAbs ≤ 274877906944 := Nat.le_trans hRS.most (by decide)
         have hpow : (lifted n x P (mostI n)).2.1 ≠ 0 := by have := lifted_pow (l := n) (x := x) (most := mostI n) (show 1 < P by omega); omega
         refine wp_k ?_
         refine then_n ?_
         refine wp_s ?_
         refine wp_b ?_
         refine wp_r tbOk hF2 hG2 rfl ?_
         refine oq (.indexAddrR (yf := by omega) (yg := by exact encN_at (i := k) rfl hx)) ?_
         refine oq .loadR ?_
         refine oa ?_
         refine wo_nil ?_
         refine wp_d tbOk hF2 mixed hG2 [] (by kernel_rfl) ?_
         refine dq (.loadPR (yd := by rfl)) ?_
         refine dq .moveR ?_
         refine dq .moveR ?_
         refine dq (.loadPR (yd := by rfl)) ?_
         refine dq (.callR (yb := as1) (yc := num_Of 2 (by decide) (by decide))) ?_
         refine dq (.callR (yb := asc (.inl rfl) as1) (yc := num_Mul (bndI n (((lastI n).natAbs : Int) + 1)) 2)) ?_
         refine dq (.callR (yb := asc (.inl rfl) as3) (yc := qpoly_lifted n x P (mostI n) (by omega) hPlt hxP hn4 hmw)) ?_
         refine dq .moveR ?_
         refine dq .extractR ?_
         refine dq .extractR ?_
         refine wd_n rfl rfl rfl rfl .allocR ?_
         refine wd_n rfl rfl rfl rfl .allocR ?_
         refine wd_e rfl rfl rfl (.storeR (ye := by decide) (yg := .inl rfl)) (by exact trivial) ?_
         refine wd_e rfl rfl rfl (.storeR (ye := by decide) (yg := .inl rfl)) (by exact trivial) ?_
         refine wd_nil ?_
         refine wp_d tbOk hF2 mixed hG2 [] (by kernel_rfl) ?_
         refine dq (.loadPR (yd := by rfl)) ?_
         refine dq (.loadPR (yd := by rfl)) ?_
         refine dq (.callR (yb := asc (.inl rfl) as1) (yc := num_Mul (lifted n x P (mostI n)).1 (lastI n))) ?_
         refine dq (.loadPR (yd := by rfl)) ?_
         refine dq (.callR (yb := asc (.inl rfl) as1) (yc := qpoly_modulo ((lifted n x P (mostI n)).1 * lastI n) (lifted n x P (mostI n)).2.1 hpow)) ?_
         refine wd_n rfl rfl rfl rfl .allocR ?_
         refine wd_e rfl rfl rfl (.storeR (ye := by decide) (yg := .inl rfl)) (by exact trivial) ?_
         refine wd_nil ?_
         refine wp_j2 hK2 (krc 1 rfl (krc 5 rfl (krc 10 rfl (krc 11 rfl (krc 14 rfl (krc 15 rfl (krc 22 rfl (krc 92 rfl (krc 93 rfl (krc 94 rfl krn)))))))))) (khc 0 rfl (khc 1 rfl (khc 2 rfl (khc 3 rfl (khc 4 rfl (khc 5 rfl (khc 6 rfl (khc 7 rfl (khc 8 rfl khn))))))))) (fun sl' h' (_ : Unit) => ⟨sl', (9, some (.arr T_Int [.t (encI (aboveI n P x))])) :: h', 10, 0⟩) (fun _ => True) (fun _ => rfl) ?_ ?_
         ·refine wp_d tbOk hF2 mixed hG2 [] (by kernel_rfl) ?_
          refine dq (.loadPR (yd := by rfl)) ?_
          refine dq (.callR (yb := as1) (yc := num_Of 2 (by decide) (by decide))) ?_
          refine dq (.callR (yb := asc (.inl rfl) as1) (yc := num_Mul (above0 n P x) 2 (a3.le (by decide)))) ?_
          refine dq (.loadPR (yd := by rfl)) ?_
          refine dq (.callR (yb := asc (.inl rfl) as1) (yc := num_Cmp _ _)) ?_
          refine dq .cmpR ?_
          refine wd_nil ?_
          refine wp_c rfl (fun hc => ?_) (fun hc => ?_)
          ·refine wp_r0 tbOk hF2 hG2 rfl ?_
           refine oq (.loadPR (yd := by rfl)) ?_
           refine oq (.loadPR (yd := by rfl)) ?_
           refine oq (.callR (yb := asc (.inl rfl) as1) (yc := num_Sub (above0 n P x) (lifted n x P (mostI n)).2.1 (a3.le (by decide)) (a2.le (by decide)))) ?_
           refine oe (.storeR (ye := by (simp; done)) (yg := .inl rfl)) ?_
           refine wo_nil ?_
           exact join_n () (by trivial) (by exact imp_less ga (by repeat' (first | exact trivial | (refine And.intro (by first | rfl | exact geth rfl (by unfold aboveI; rw [if_pos (of_decide_eq_true hc)]; rfl)) ?_))) (by exact Nat.le_of_ble_eq_true rfl))
          ·refine wp_k ?_
           exact join_n () (by trivial) (by exact imp_less ga (by repeat' (first | exact trivial | (refine And.intro (by first | rfl | exact geth rfl (by unfold aboveI; rw [if_neg (of_decide_eq_false hc)]; rfl)) ?_))) (by exact Nat.le_of_ble_eq_true rfl))
         ·intro i hi
          refine wp_r tbOk hF2 hG2 rfl ?_
          refine oq (.loadPR (yd := by rfl)) ?_
          refine oq (.loadPR (yd := by rfl)) ?_
          refine oq (.callR (yb := asc (.inl rfl) as1) (yc := rat_Make (aboveI n P x) (lastI n) hlast0)) ?_
          refine om ?_
          refine oq .extractR ?_
          refine oq .extractR ?_
          refine on' .allocR ?_
          refine oe (.storeR (ye := by decide) (yg := .inl rfl)) ?_
          refine oa ?_
          refine wo_nil ?_
          refine wp_r tbOk hF2 hG2 rfl ?_
          refine oq .loadR ?_
          refine oq (.loadPR (yd := by rfl)) ?_
          refine oq (.callR (yb := asc (.inl rfl) as1) (yc := qpoly_Eval p (candQ n P x) hpB.pb hcand (by have := Nat.mul_le_mul h61 (show w + (3 * 505000 + 42) + 2 ≤ 1600000 by omega); omega))) ?_
          refine oq (.callR (yb := as1) (yc := qpoly_zero _)) ?_
          refine wo_nil ?_
          refine wp_c rfl (fun hc => ?_) (fun hc => ?_)
          ·refine wp_r0 tbOk hF2 hG2 rfl ?_
           refine oq (.loadVR (yf := ap_nt.1)) ?_
           refine oq (.loadPR (yd := by rfl)) ?_
           refine oq (.buildSliceR (ye := as1) (yg := by decide) (yj := by decide) (yk := by decide)) ?_
           refine oed (.appendAR (yd := by decide) (ye := by decide) (yj := .inl rfl) (yk := by rfl) (yl := by (have h9 := outsQ_len (q := p) (l := n) (p := P) (xs := rootsM n P P) k; simp; omega))) ?_
           refine oe (.storeVR (ye := by (simp; done)) (yi := ap_nt.1) (yj := ap_nt.2.1) (yk := ap_nt.2.2)) ?_
           refine wo_nil ?_
           refine blk_n ?_
           refine then_n ?_
           refine wp_r0 tbOk hF2 hG2 rfl ?_
           refine oq (.arithR (yd := by exact wrap_i64 (by omega))) ?_
           refine om ?_
           refine wo_nil ?_
           exact round_n (k + 1) (by omega) (by omega) (by exact imp_apC 4 rfl rfl (by rw [outsQ_take hx, if_pos (of_decide_eq_true hc)]; simp; rfl) ga ga rfl (by repeat' (first | exact trivial | refine ⟨Nat.le_of_ble_eq_true rfl, by first | exact olt_l rfl | exact olt_loop rfl, ?_⟩)) rfl rfl rfl)
          ·refine wp_k ?_
           refine blk_n ?_
           refine then_n ?_
           refine wp_r0 tbOk hF2 hG2 rfl ?_
           refine oq (.arithR (yd := by exact wrap_i64 (by omega))) ?_
           refine om ?_
           refine wo_nil ?_
           exact round_n (k + 1) (by omega) (by omega) (by exact imp_apC 4 rfl rfl (by rw [outsQ_take hx, if_neg (of_decide_eq_false hc), List.append_nil]) ga ga rfl (by repeat' (first | exact trivial | refine ⟨Nat.le_of_ble_eq_true rfl, by first | exact olt_l rfl | exact olt_loop rfl, ?_⟩)) rfl rfl rfl)
        ·obtain rfl : k = (rootsM n P P).length := by { have : ¬ k < (rootsM n P P).length := by { simpa using hc }; omega }
         refine wp_x ?_
         refine then_exit ?_
         refine round_exit ?_
         refine blk_hit ?_
         refine then_n ?_
         refine wp_x ?_
         refine blk_miss rfl ?_
         exact body_x rfl rfl rfl (by exact imp_apCl 4 5 rfl rfl (by rw [List.take_length]) gb ga rfl (by repeat' (first | exact trivial | refine ⟨Nat.le_of_ble_eq_true rfl, by first | exact olt_l rfl | exact olt_loop rfl, ?_⟩)) rfl rfl rfl rfl rfl)
      refine gq .notR ?_
      refine oq (.pickT rfl (by rfl) rfl) ?_
      refine wo_nil ?_
      refine wp_cT rfl (by rfl) ?_
      refine wp_rt ?_
      refine blk_ret ?_
      refine then_ret ?_
      refine round_ret ?_
      refine blk_ret ?_
      refine rf_x (.inr rfl) rfl rfl rfl (fun h => by cases h) ?_
      refine blk_hit ?_
      refine then_n ?_
      generalize hL : outsQ p n P (rootsM n P P) = L at *; rcases L with _ | ⟨q, L⟩
      ·refine rr ?_
       refine oq (.loadVR (yf := fun _ h => by cases h)) ?_
       refine oq (.callR (yb := asc (.inr ⟨rfl, _, rfl⟩) as1) (yc := sortFunc0)) ?_
       refine wo_nil ?_
       refine rr ?_
       refine oq (.loadVR (yf := fun _ h => by cases h)) ?_
       refine oa ?_
       refine oa ?_
       refine wo_nil ?_
       refine wp_rt ?_
       exact ⟨.inr rfl, (by (refine res_nl rfl ?_); (rw [rootsQ, hn, hL]; rfl)), (by (refine res_t rfl ?_); (rfl)), trivial⟩
      ·refine rr ?_
       refine oq (.loadVR (yf := fun _ h => by cases h)) ?_
       refine oed (callh [6] (sortFunc' (q :: L) _ (by simp) (by simp) h12 houts) (.inr ⟨_, rfl, rfl⟩) (hac rfl (hac rfl han)) rfl rfl rfl (by decide) (oic rfl (by exact ren_t) oin) (olts_c (by exact olt_t) olts_n) rfl (outs_s rfl (by exact ren_t) outs_0) rfl rfl rfl) ?_
       refine wo_nil ?_
       refine rr ?_
       refine oq (.loadVR (yf := fun _ h => by cases h)) ?_
       refine oa ?_
       refine oa ?_
       refine wo_nil ?_
       refine wp_imp hK (imp_fz 2 ((isort (q :: L)).map encQ) rfl rfl rfl (by simp [isort_len])) ?_
       refine wp_rt ?_
       exact ⟨.inr rfl, (by (refine res_t rfl ?_); (rw [rootsQ, hn, hL]; rfl)), (by (refine res_t rfl ?_); (rfl)), trivial⟩
     ·refine wp_r tbOk hF1 hG1 rfl ?_
      refine om ?_
      refine om ?_
      refine gq .moveR ?_
      refine gq .moveR ?_
      refine wo_ged rfl rfl rfl (by rfl) rfl (ev_yT rfl (hac rfl han) rfl rfl rfl (khc 0 rfl (khc 1 rfl (khc 2 rfl (khc 3 rfl (khc 4 rfl khn))))) (fun h' => h') 6 ?_) ?_
      ·intro G2 F2 hF2 hG2 hK2
       refine wp_r0 tbOk hF2 hG2 rfl ?_
       refine oa ?_
       refine wo_nil ?_
       refine asg_n rfl rfl ?_
       refine wp_b ?_
       refine wp_r tbOk hF2 hG2 rfl ?_
       refine oq (.loadPR (yd := by rfl)) ?_
       refine om ?_
       refine oq (.callR (yb := asc (.inl rfl) as1) (yc := qpoly_simpleF n m hnn (by omega) (by omega) (hP.first m hmlt hm3 hm2 (hodd.1 rfl)) hn4)) ?_
       refine om ?_
       refine oq .extractR ?_
       refine oq .extractR ?_
       refine oa ?_
       refine oa ?_
       refine wo_nil ?_
       refine wp_s ?_
       refine wp_r tbOk hF2 hG2 rfl ?_
       refine om ?_
       refine oq .notR ?_
       refine wo_nil ?_
       refine wp_cT rfl (by rfl) ?_
       refine wp_x ?_
       refine then_exit ?_
       refine blk_hit ?_
       exact body_n rfl rfl rfl (by exact il)
      refine gq .notR ?_
      refine oq (.pickT rfl (by rfl) rfl) ?_
      refine wo_nil ?_
      refine wp_cF rfl (by rfl) ?_
      refine wp_k ?_
      refine blk_n ?_
      refine then_n ?_
      refine wp_r0 tbOk hF1 hG1 rfl ?_
      refine om ?_
      refine oq (.arithR (yd := by exact wrap_i64 (by omega))) ?_
      refine oa ?_
      refine wo_nil ?_
      exact round_n (m + 2) (by have := hP.odd; omega) (by omega) (by exact il)
theorem rat_PowZ (a : Rat) (z : Int) (n : Nat) (hz : z = n) (hn : (n : Int) < 9223372036854775808) (hok : qb a ≤ 1 ∨ n * qb a ≤ 1048576) : FnP Tryz.prog tb F_rat_Pow [encQ a, .i .i64 z] (.tu [encQ (a ^ n), .i .i64 0]) := by
 subst hz; exact rat_Pow a n hn hok
def pwOK (a : Rat) (n : Nat) : Prop := qb a ≤ 1 ∨ n * qb a ≤ 1048576
instance (a : Rat) (n : Nat) : Decidable (pwOK a n) := by unfold pwOK; infer_instance
def resO (o : Rat) (a b : Pol) : Rat := if ((a.len : Int) - 1) % 2 = 1 ∧ ((b.len : Int) - 1) % 2 = 1 then -(o * b.lead ^ (a.len - (a % b).len)) else o * b.lead ^ (a.len - (a % b).len)
def resF : Nat → Rat → Pol → Pol → Rat
 | 0, o, _, _ => o
 | f + 1, o, a, b => if b.len ≤ 1 then o * b.lead ^ (a.len - 1) else if a % b = 0 then 0 else resF f (resO o a b) b (a % b)
def resOK : Nat → Pol → Pol → Prop
 | 0, _, _ => True
 | f + 1, a, b => if b.len ≤ 1 then pwOK b.lead (a.len - 1) else if a % b = 0 then True else pwOK b.lead (a.len - (a % b).len) ∧ resOK f b (a % b)
theorem resF_fuel : ∀ (f g : Nat) (o : Rat) (a b : Pol), b ≠ 0 → b.len ≤ f → b.len ≤ g → resF f o a b = resF g o a b
 | 0, _, o, a, b, hb, hf, _ => by have := Poly.len_pos hb; omega
 | _ + 1, 0, o, a, b, hb, _, hg => by have := Poly.len_pos hb; omega
 | f + 1, g + 1, o, a, b, hb, hf, hg => by
  rw [resF, resF]
  split
  ·rfl
  ·split
   ·rfl
   ·rename_i h
    have := Poly.mod_len (p := a) hb
    exact resF_fuel f g _ _ _ h (by omega) (by omega)
theorem resOK_fuel : ∀ (f g : Nat) (a b : Pol), b ≠ 0 → b.len ≤ f → b.len ≤ g → resOK f a b → resOK g a b
 | 0, _, a, b, hb, hf, _ => by have := Poly.len_pos hb; omega
 | _ + 1, 0, a, b, hb, _, hg => by have := Poly.len_pos hb; omega
 | f + 1, g + 1, a, b, hb, hf, hg => by
  rw [resOK, resOK]
  split
  ·exact id
  ·split
   ·exact id
   ·rename_i h
    have := Poly.mod_len (p := a) hb
    exact fun hh => ⟨hh.1, resOK_fuel f g _ _ h (by omega) (by omega) hh.2⟩
theorem mod_le {a b : Pol} (hb : b ≠ 0) : (a % b).len ≤ a.len := by
 rcases Nat.lt_or_ge a.len b.len with h | h
 ·rw [(Poly.mod_of_lt hb h).1]; exact Nat.le_refl _
 ·have := Poly.mod_len (p := a) hb; omega
theorem resF_step {a b : Pol} {o : Rat} {v : Rat} (hb : b ≠ 0) (h1 : ¬ b.len ≤ 1) (hr : a % b ≠ 0) (h : resF b.len o a b = v) : resF (a % b).len (resO o a b) b (a % b) = v := by
 have hm := Poly.mod_len (p := a) hb
 rw [← h]
 obtain ⟨n, hn⟩ : ∃ n, b.len = n + 1 := ⟨b.len - 1, by omega⟩
 rw [hn, resF, if_neg h1, if_neg hr]
 exact resF_fuel _ _ _ _ _ hr (Nat.le_refl _) (by omega)
theorem resOK_step {a b : Pol} (hb : b ≠ 0) (h1 : ¬ b.len ≤ 1) (hr : a % b ≠ 0) (h : resOK b.len a b) : pwOK b.lead (a.len - (a % b).len) ∧ resOK (a % b).len b (a % b) := by
 have hm := Poly.mod_len (p := a) hb
 obtain ⟨n, hn⟩ : ∃ n, b.len = n + 1 := ⟨b.len - 1, by omega⟩
 rw [hn, resOK, if_neg h1, if_neg hr] at h
 exact ⟨h.1, resOK_fuel _ _ _ _ hr (by omega) (Nat.le_refl _) h.2⟩
theorem resF_end {a b : Pol} {o : Rat} (hb : b ≠ 0) (h1 : b.len ≤ 1) : resF b.len o a b = o * b.lead ^ (a.len - 1) := by
 have := Poly.len_pos hb
 rw [show b.len = 0 + 1 by omega, resF, if_pos h1]
theorem resOK_end {a b : Pol} (hb : b ≠ 0) (h1 : b.len ≤ 1) (h : resOK b.len a b) : pwOK b.lead (a.len - 1) := by
 have := Poly.len_pos hb
 rw [show b.len = 0 + 1 by omega, resOK, if_pos h1] at h; exact h
theorem resF_zero {a b : Pol} {o : Rat} (h1 : ¬ b.len ≤ 1) (hr : a % b = 0) : resF b.len o a b = 0 := by
 obtain ⟨n, hn⟩ : ∃ n, b.len = n + 1 := ⟨b.len - 1, by omega⟩
 rw [hn, resF, if_neg h1, if_pos hr]
theorem pw_bq {a : Rat} {n : Nat} (h : pwOK a n) : Bq 32768 (a ^ n) := by
 have lim : ∀ k, k ≤ qb a → k ≤ 1 ∨ n ≤ 1048576 / k := fun k hk => by
  rcases h with h | h
  ·exact .inl (by omega)
  ·by_cases h1 : k ≤ 1
   ·exact .inl h1
   ·right
    rw [Nat.le_div_iff_mul_le (by omega)]
    exact Nat.le_trans (Nat.mul_le_mul_left n hk) h
 refine ⟨?_, ?_⟩
 ·rw [Rat.num_pow]; exact powI_fit (lim _ (Nat.le_max_left _ _))
 ·rw [Rat.den_pow]
  have := powI_fit (a := (a.den : Int)) (n := n) (by rw [Int.natAbs_natCast]; exact lim _ (Nat.le_max_right _ _))
  rw [← Int.natCast_pow, Int.natAbs_natCast] at this; exact this
theorem resO_bq {o : Rat} {a b : Pol} {k : Nat} (ho : Bq k o) (h : pwOK b.lead (a.len - (a % b).len)) : Bq (k + 32768) (resO o a b) := by
 unfold resO
 split
 ·exact (ho.mul (pw_bq h)).neg
 ·exact ho.mul (pw_bq h)
theorem qpoly_Resultant (p q : Pol) (hp : p ≠ 0) (hq : q ≠ 0) (hok : resOK q.len p q) {K T : Nat} (hE : EB K T p q) (hKs : K ≤ 137438953000) (hql : q.len ≤ 1000) : FnP Tryz.prog tb F_qpoly_Resultant [encP p, encP q] (encQ (resF q.len 1 p q)) := by
 have hpl : p.len = p.c.length := rfl
 have hpc := mt pol_nil.1 hp
 have hqc := mt pol_nil.1 hq
 refine fnP_M1 tbOk Tryz.func50 rfl rfl (Nat.le_of_ble_eq_true rfl) fun G hG hK => ?_
 have hF : Wd Fence.wide := .inl rfl
 refine wp_ql (l := p.c) 0 rfl fun hbp => ?_
 refine wp_ql (l := q.c) 1 rfl fun hbq => ?_
 refine sx 12 ?_
 refine oq (.pickF rfl (by (simp [hpc]; done)) rfl) ?_
 refine sx 1 ?_
 refine wp_cF rfl (by simp [hqc]) ?_
 refine sx 14 ?_
 refine wp_kp hK (krc 4 rfl (krc 5 rfl (krc 29 rfl krn))) rfl ?_
 refine wp_rf tbOk rfl hK hG rfl (by exact .inl rfl) Tryz.func150 rfl rfl rfl rfl ?_
 intro G1 hG1 hK1
 have hF1 : Wd Fence.wide := .inl rfl
 refine wp_b ?_
 refine wp_l2 hK1 (krc 0 rfl (krc 1 rfl (krc 2 rfl krn))) (khc 0 rfl (khc 4 rfl khn)) (fun sl' h' ((a, b, o) : Pol × Pol × Rat) => ⟨sl', (1, some (.arr T_Rat [.t (encQ o)])) :: (2, some (.arr T_L_Rat [.t (encP a)])) :: (3, some (.arr T_L_Rat [.t (encP b)])) :: h', 5, 0⟩) (fun (a, b, o) => a ≠ 0 ∧ b ≠ 0 ∧ a.len ≤ 2199023255552 ∧ b.len ≤ 2199023255552 ∧ resOK b.len a b ∧ resF b.len o a b = resF q.len 1 p q ∧ (∃ T, EB K T a b) ∧ b.len ≤ q.len ∧ Bq (1 + (q.len - b.len) * 32768) o) (fun (_, b, _) => b.len) (p, q, 1) ?_ (fun _ => rfl) ?_ ?_
 ·exact ⟨hp, hq, hbp, hbq, hok, rfl, ⟨T, hE⟩, Nat.le_refl _, Bq.one.le (by omega)⟩
 ·exact il
 ·rintro ⟨a, b, o⟩ ⟨ha, hb, hal, hbl, hro, hrv, ⟨T', hE'⟩, hblq, hoB⟩
  obtain ⟨n1, m1, e1, e2, e3⟩ := hE'.div hb
  have hob : Bq 33000000 o := hoB.le (by omega)
  have ha0 := Poly.len_pos ha
  have hb0 := Poly.len_pos hb
  have hml := mod_le (a := a) hb
  have hmb := Poly.mod_len (p := a) hb
  refine sx 6 ?_
  refine wp_c rfl (fun hc => ?_) (fun hc => ?_)
  ·refine sx 4 ?_
   rcases (show b.len ≤ 1 ∨ (¬ b.len ≤ 1 ∧ a % b = 0) ∨ (¬ b.len ≤ 1 ∧ a % b ≠ 0) by by_cases h1 : b.len ≤ 1; exact .inl h1; (by_cases h2 : a % b = 0; exact .inr (.inl ⟨h1, h2⟩); exact .inr (.inr ⟨h1, h2⟩))) with h1 | ⟨h1, h2⟩ | ⟨h1, h2⟩
   ·refine sx 4 ?_
    refine oed (ev_yF .ret rfl (hac rfl (hac rfl han)) rfl rfl rfl (khc 1 rfl (khc 2 rfl (khc 3 rfl khn))) (fun h' => (0, some (.arr T_Rat [.t (encQ (o * b.lead ^ (a.len - 1)))])) :: h') 5 ?_) ?_
    ·intro G2 F2 hF2 hG2 hK2
     refine sx 6 ?_
     refine asg_n rfl rfl ?_
     refine sx 26 ?_
     refine wp_cT rfl (by refine beq_iff_eq.2 ?_; omega) ?_
     refine sx 4 ?_
     refine oq (.callR (yb := asc (.inl rfl) as1) (yc := rat_PowZ b.lead _ (a.len - 1) (by omega) (by omega) (resOK_end hb h1 hro))) ?_
     refine sx 10 ?_
     refine oq (.callR (yb := asc (.inl rfl) as1) (yc := rat_Mul o _ (hob.le (by decide)) ((pw_bq (resOK_end hb h1 hro)).le (by decide)))) ?_
     refine sx 5 ?_
     exact body_r rfl rfl rfl (by exact imp_trim gb ga rfl (by repeat' (first | exact trivial | refine ⟨Nat.le_of_ble_eq_true rfl, by first | exact olt_l rfl | exact olt_loop rfl, ?_⟩)))
    refine sx 2 ?_
    refine wp_cT rfl (by rfl) ?_
    refine sx 5 ?_
    refine rf_r (.inr rfl) rfl rfl rfl (fun h => by cases h) ?_
    refine sx 2 ?_
    exact ⟨.inr rfl, (by (refine res_c rfl rfl rfl rfl rfl ?_); (rw [← hrv, resF_end hb h1])), trivial⟩
   ·refine sx 4 ?_
    refine oed (ev_yF .ret rfl (hac rfl (hac rfl han)) rfl rfl rfl (khc 1 rfl (khc 2 rfl (khc 3 rfl khn))) (fun h' => (0, some (.arr T_Rat [.t (encQ 0)])) :: h') 5 ?_) ?_
    ·intro G2 F2 hF2 hG2 hK2
     refine sx 6 ?_
     refine asg_n rfl rfl ?_
     refine sx 26 ?_
     refine wp_cF rfl (by refine beq_false_of_ne ?_; omega) ?_
     refine sx 8 ?_
     refine wp_cT rfl (by rw [pol_nil.2 h2]; rfl) ?_
     refine sx 7 ?_
     exact body_r rfl rfl rfl (by exact il)
    refine sx 2 ?_
    refine wp_cT rfl (by rfl) ?_
    refine sx 5 ?_
    refine rf_r (.inr rfl) rfl rfl rfl (fun h => by cases h) ?_
    refine sx 2 ?_
    exact ⟨.inr rfl, (by (refine res_c rfl rfl rfl rfl rfl ?_); (rw [← hrv, resF_zero h1 h2])), trivial⟩
   ·refine sx 4 ?_
    refine oed (ev_yT rfl (hac rfl (hac rfl han)) rfl rfl rfl (khc 0 rfl (khc 2 rfl (khc 3 rfl khn))) (fun h' => (1, some (.arr T_Rat [.t (encQ (resO o a b))])) :: h') 5 ?_) ?_
    ·intro G2 F2 hF2 hG2 hK2
     refine sx 6 ?_
     refine asg_n rfl rfl ?_
     refine sx 26 ?_
     refine wp_cF rfl (by refine beq_false_of_ne ?_; omega) ?_
     refine sx 8 ?_
     refine wp_cF rfl (by (have := mt pol_nil.1 h2); simp [this]) ?_
     refine sx 7 ?_
     refine oq (.callR (yb := as1) (yc := qpoly_DegP _)) ?_
     refine sx 1 ?_
     refine oq (.callR (yb := asc (.inl rfl) as1) (yc := rat_PowZ b.lead _ (a.len - (a % b).len) (by omega) (by omega) (resOK_step hb h1 h2 hro).1)) ?_
     refine sx 10 ?_
     refine oq (.callR (yb := asc (.inl rfl) as1) (yc := rat_Mul o _ (hob.le (by decide)) ((pw_bq (resOK_step hb h1 h2 hro).1).le (by decide)))) ?_
     refine sx 2 ?_
     by_cases hm : ((a.len : Int) - 1) % 2 = 1
     ·refine sx 8 ?_
      refine oq (.pickT rfl (by exact beq_iff_eq.2 (beq_iff_eq.2 hm)) rfl) ?_
      refine sx 1 ?_
      refine wp_c rfl (fun hc => ?_) (fun hc => ?_)
      ·refine sx 2 ?_
       refine oq (.callR (yb := as1) (yc := rat_Neg _)) ?_
       refine sx 3 ?_
       exact body_n rfl rfl rfl (by exact imp_trim gb (by repeat' (first | exact trivial | (refine And.intro (by first | rfl | exact geth rfl (by rw [resO, if_pos ⟨hm, beq_iff_eq.1 hc⟩]; rfl)) ?_))) rfl (by repeat' (first | exact trivial | refine ⟨Nat.le_of_ble_eq_true rfl, by first | exact olt_l rfl | exact olt_loop rfl, ?_⟩)))
      ·refine sx 2 ?_
       exact body_n rfl rfl rfl (by exact imp_trim gb (by repeat' (first | exact trivial | (refine And.intro (by first | rfl | exact geth rfl (by rw [resO, if_neg (fun h => by simp [h.2] at hc)]; rfl)) ?_))) rfl (by repeat' (first | exact trivial | refine ⟨Nat.le_of_ble_eq_true rfl, by first | exact olt_l rfl | exact olt_loop rfl, ?_⟩)))
     ·refine sx 8 ?_
      refine oq (.pickF rfl (by (simp [hm]; done)) rfl) ?_
      refine sx 1 ?_
      refine wp_cF rfl (by rfl) ?_
      refine sx 2 ?_
      exact body_n rfl rfl rfl (by exact imp_trim gb (by repeat' (first | exact trivial | (refine And.intro (by first | rfl | exact geth rfl (by rw [resO, if_neg (fun h => hm h.1)]; rfl)) ?_))) rfl (by repeat' (first | exact trivial | refine ⟨Nat.le_of_ble_eq_true rfl, by first | exact olt_l rfl | exact olt_loop rfl, ?_⟩)))
    refine sx 2 ?_
    refine wp_cF rfl (by rfl) ?_
    refine sx 5 ?_
    refine oq (.callR (yb := asc (.inl rfl) as1) (yc := qpoly_Div _ _ (by assumption) (by assumption) (by assumption) (by omega))) ?_
    refine sx 15 ?_
    exact round_n (b, a % b, resO o a b) (by exact ⟨hb, h2, hbl, by omega, (resOK_step hb h1 h2 hro).2, resF_step hb h1 h2 hrv, ⟨_, hE'.step hb⟩, by omega, (resO_bq hoB (resOK_step hb h1 h2 hro).1).le (by omega)⟩) (by exact hmb) (by exact il)
  ·exact absurd (pc_zero hc) hb
def PI (l : List Int) : Pol := Poly.of (l.map fun (z : Int) => (z : Rat))
def encZ (z : Int) : Tr := .i .i64 z
theorem encZ_at {l : List Int} {n : Int} {i : Nat} {x : Int} (e : n.toNat = i) (h : l[i]? = some x) : (l.map encZ)[n.toNat]? = some (.i .i64 x) := by rw [e]; simp [h, encZ]
theorem law03_poly (l : List Int) (hl : ∀ x ∈ l, -9223372036854775808 ≤ x ∧ x < 9223372036854775808) (hll : l.length ≤ 1000) : FnP Tryz.prog tb F_law03_poly [.sl T_int (l.map encZ)] (encP (PI l)) := by
 refine fn1 Tryz.func74 fun G hG hK hF => ?_
 refine wp_ll 0 rfl rfl fun hb => ?_
 rw [List.length_map] at hb
 refine sx 11 ?_
 refine wp_l2 hK (krc 0 rfl krn) khn (fun sl' h' (i : Nat) => ⟨(3, ap T_Rat 0 ((l.take i).map (fun (z : Int) => encQ (z : Rat)))) :: (4, .t (.i .i64 (i))) :: sl', (0, apO T_Rat ((l.take i).map (fun (z : Int) => encQ (z : Rat)))) :: h', 1, 0⟩) (fun i => i ≤ l.length) (fun i => l.length - i) 0 ?_ (fun _ => rfl) ?_ ?_
 ·exact Nat.zero_le _
 ·exact imp_ap0 3 rfl (by rfl) ga gb rfl gb rfl
 ·intro i hi
  refine sx 7 ?_
  refine wp_c rfl (fun hc => ?_) (fun hc => ?_)
  ·have hci : i < l.length := by simpa using hc
   obtain ⟨x, hx⟩ : ∃ x, l[i]? = some x := ⟨_, List.getElem?_eq_getElem hci⟩
   obtain ⟨x1, x2⟩ := hl x (List.mem_of_getElem? hx)
   refine sx 8 ?_
   refine oq (.indexAddrR (yf := by omega) (yg := by exact encZ_at (i := i) rfl hx)) ?_
   refine sx 1 ?_
   refine oq (.callR (yb := as1) (yc := ref02_Int x x1 x2)) ?_
   refine sx 1 ?_
   refine oed (.appendAR (yd := by decide) (ye := by decide) (yj := .inl rfl) (yk := by rfl) (yl := by (simp; omega))) ?_
   refine sx 9 ?_
   exact round_n (i + 1) (by omega) (by omega) (by exact imp_ap 3 rfl rfl (by rw [List.take_add_one, hx]; simp) ga gb rfl gb rfl rfl)
  ·obtain rfl : i = l.length := by { have : ¬ i < l.length := by { simpa using hc }; omega }
   refine sx 5 ?_
   refine wp_imp hK (imp_apF 3 rfl rfl (ts' := (l.map fun (z : Int) => (z : Rat)).map encQ) (by rw [List.take_length, List.map_map]; rfl)) ?_
   refine sx 2 ?_
   refine oq (.callR (yb := as1) (yc := ref03_Trim (l.map fun (z : Int) => (z : Rat)))) ?_
   refine sx 3 ?_
   exact ⟨.inr rfl, rfl, (by (refine res_t rfl ?_); (rfl)), trivial⟩
theorem law03_half (n : Int) (h1 : -9223372036854775808 ≤ n) (h2 : n < 9223372036854775808) : FnP Tryz.prog tb F_law03_half [.i .i64 n] (encQ (Rat.divInt n 2)) := by
 refine fn1 Tryz.func75 fun G hG hK hF => ?_
 refine sx 5 ?_
 refine oq (.callR (yb := asc (.inl rfl) as1) (yc := ref02_Of n 2 h1 h2 (by decide) (by decide) (by decide))) ?_
 refine sx 12 ?_
 exact ⟨.inr rfl, rfl, (by (refine res_c rfl rfl rfl rfl rfl ?_); (rfl)), trivial⟩
theorem PI_cdb (l : List Int) (h : ∀ z ∈ l, z.natAbs < 18446744073709551616) : CDB 2 (PI l) := by
 refine ⟨1, by decide, wl_small (by decide), fun i => ?_⟩
 have hx : (((1 : Int)) : Rat) * (PI l).co i = (PI l).co i := by
  have : (((1 : Int)) : Rat) = 1 := rfl
  rw [this]; grind
 rw [hx, PI, Poly.co_of]
 by_cases hi : i < l.length
 ·refine ⟨l[i], wl_small (h _ (List.getElem_mem _)), ?_⟩
  rw [cf_lt (by rw [List.length_map]; exact hi), List.getElem_map]
 ·exact ⟨0, Nat.zero_le _, by rw [cf_ge (by rw [List.length_map]; omega)]; rfl⟩
theorem PI_pb (l : List Int) (n : Nat) (hn : 2 ≤ n) (h : ∀ z ∈ l, z.natAbs < 18446744073709551616) : PB n (PI l) := (PI_cdb l h).pb.le hn
def canQ (r : RQ) : Rat := Rat.divInt (sgn r.1.1 (val r.1.2)) (sgn r.2.1 (val r.2.2))
theorem sgn_raw (z : Int) : sgn (decide (z < 0)) (val (digits z.natAbs)) = z := by
 rw [val_digits]; unfold sgn
 by_cases h : z < 0
 ·simp [h]; omega
 ·simp [h]; omega
theorem canQ_raw (q : Rat) : canQ (rawR q) = q := by
 rw [canQ, rawR]
 simp only [sgn_raw]
 exact Rat.num_divInt_den q
def isP (l : List RQ) : Bool := l.all isR && decide (trimZ (l.map canQ) = l.map canQ)
theorem isP_raw (qs : List Rat) : isP (qs.map rawR) = decide (trimZ qs = qs) := by
 rw [isP, all_raw, Bool.true_and, List.map_map, show canQ ∘ rawR = id from funext canQ_raw, List.map_id]
theorem isP_enc {l : List RQ} (hw : WR l) (h : isP l = true) : ∃ p : Pol, l = p.c.map rawR := by
 rw [isP, Bool.and_eq_true] at h
 obtain ⟨qs, h3, h4⟩ := all_enc hw h.1
 have h2 := of_decide_eq_true h.2
 rw [← h4, List.map_map, show canQ ∘ rawR = id from funext canQ_raw, List.map_id] at h2
 exact ⟨⟨qs, h2⟩, h4.symm⟩
def WQ (l : List RQ) : Prop := ∀ r ∈ l, r.1.2.length ≤ 274877906944 ∧ r.2.2.length ≤ 274877906944
theorem WQ.wl {l : List RQ} (h : WQ l) : WL l := fun r hr => ⟨Nat.le_trans (h r hr).1 (by decide), Nat.le_trans (h r hr).2 (by decide)⟩
theorem bq_of_wq {qs : List Rat} (h : WQ (qs.map rawR)) : ∀ q ∈ qs, Bq 274877906944 q := fun q hq => by
 obtain ⟨h1, h2⟩ := h _ (List.mem_map_of_mem hq)
 exact ⟨h1, h2⟩
theorem ref03_IsR (l : List RQ) (hw : WR l) (hq : WQ l) : FnP Tryz.prog tb F_ref03_Is [encRs l] (.b (isP l)) := by
 cases h : l.all isR with
 | false =>
  have := ref03_IsF l hw hq.wl h
  rw [isP, h]; exact this
 | true =>
  obtain ⟨qs, h3, h4⟩ := all_enc hw h
  rw [h3, ← h4, isP_raw]; exact ref03_Is qs (bq_of_wq (by rw [h4]; exact hq))
theorem qpoly_IsR (l : List RQ) (hw : WR l) (hq : WQ l) : FnP Tryz.prog tb F_qpoly_Is [encRs l] (.b (isP l)) := by
 cases h : l.all isR with
 | false =>
  have := qpoly_IsF l hw hq.wl h
  rw [isP, h]; exact this
 | true =>
  obtain ⟨qs, h3, h4⟩ := all_enc hw h
  rw [h3, ← h4, isP_raw]; exact qpoly_Is qs (bq_of_wq (by rw [h4]; exact hq))
def fewR (r : RQ) (n : Nat) : Prop := r.1.2.length ≤ n ∧ r.2.2.length ≤ n
instance (r : RQ) (n : Nat) : Decidable (fewR r n) := by unfold fewR; infer_instance
def fewL (l : List RQ) (d n : Nat) : Prop := ∀ r ∈ l, l.length ≤ d + 1 ∧ fewR r n
instance (l : List RQ) (d n : Nat) : Decidable (fewL l d n) := by unfold fewL; infer_instance
def fewB (l : List RQ) (d n : Nat) : Bool := decide (fewL l d n) && isP l
theorem law03_few (l : List RQ) (hw : WR l) (d n : Nat) (hd : d < 1073741824) (hn : n < 1073741824) : FnP Tryz.prog tb F_law03_few [encRs l, .i .i64 d, .i .i64 n] (.b (fewB l d n)) := by
 refine fn1 Tryz.func15 fun G hG hK hF => ?_
 refine wp_ll 0 rfl rfl fun hb => ?_
 rw [encRs_len] at hb
 refine sx 8 ?_
 refine wp_l2 hK (krc 0 rfl (krc 1 rfl (krc 2 rfl krn))) khn (fun sl' h' (i : Nat) => ⟨(7, .t (.i .i64 (i))) :: sl', h', 0, 0⟩) (fun i => i ≤ l.length ∧ ∀ j x, j < i → l[j]? = some x → l.length ≤ d + 1 ∧ fewR x n) (fun i => l.length - i) 0 ?_ (fun _ => rfl) ?_ ?_
 ·exact ⟨Nat.zero_le _, fun j x hj => by omega⟩
 ·exact il
 ·rintro i ⟨hi, he⟩
  refine sx 7 ?_
  refine wp_c rfl (fun hc => ?_) (fun hc => ?_)
  ·have hci : i < l.length := by simpa using hc
   obtain ⟨x, hx⟩ : ∃ x, l[i]? = some x := ⟨_, List.getElem?_eq_getElem hci⟩
   have hxl := List.mem_of_getElem? hx
   refine sx 4 ?_
   rcases (show ¬ l.length ≤ d + 1 ∨ (l.length ≤ d + 1 ∧ ¬ x.1.2.length ≤ n) ∨ (l.length ≤ d + 1 ∧ x.1.2.length ≤ n ∧ ¬ x.2.2.length ≤ n) ∨ (l.length ≤ d + 1 ∧ x.1.2.length ≤ n ∧ x.2.2.length ≤ n) by omega) with h1 | ⟨h1, h2⟩ | ⟨h1, h2, h3⟩ | ⟨h1, h2, h3⟩
   ·refine sx 29 ?_
    refine wp_cT rfl (by rfl) ?_
    refine sx 9 ?_
    exact ⟨.inr rfl, rfl, (by (refine res_t rfl ?_); (rw [fewB, decide_eq_false (fun h => h1 (h x hxl).1)]; rfl)), trivial⟩
   ·refine sx 29 ?_
    refine wp_cT rfl (by rfl) ?_
    refine sx 9 ?_
    exact ⟨.inr rfl, rfl, (by (refine res_t rfl ?_); (rw [fewB, decide_eq_false (fun h => h2 (h x hxl).2.1)]; rfl)), trivial⟩
   ·refine sx 29 ?_
    refine wp_cT rfl (by (simp; omega)) ?_
    refine sx 9 ?_
    exact ⟨.inr rfl, rfl, (by (refine res_t rfl ?_); (rw [fewB, decide_eq_false (fun h => h3 (h x hxl).2.2)]; rfl)), trivial⟩
   ·refine sx 29 ?_
    refine wp_cF rfl (by (simp; omega)) ?_
    refine sx 8 ?_
    exact round_n (i + 1) (by exact ⟨by omega, fun j y hj hy => by rcases Nat.eq_or_lt_of_le (Nat.le_of_lt_succ hj) with rfl | h; rw [hx] at hy; cases hy; exact ⟨h1, h2, h3⟩; exact he j y h hy⟩) (by omega) (by exact il)
  ·obtain rfl : i = l.length := by { have : ¬ i < l.length := by { simpa using hc }; omega }
   have hfl : fewL l d n := fun r hr => by { obtain ⟨j, hj, rfl⟩ := List.mem_iff_getElem.1 hr; exact he j _ hj (List.getElem?_eq_getElem hj) }
   refine sx 7 ?_
   refine oq (.callR (yb := as1) (yc := ref03_IsR l hw (fun r hr => ⟨by have := (hfl r hr).2.1; omega, by have := (hfl r hr).2.2; omega⟩))) ?_
   refine sx 3 ?_
   exact ⟨.inr rfl, rfl, (by (refine res_t rfl ?_); (rw [fewB, decide_eq_true hfl]; rfl)), trivial⟩
theorem law03_small (r : RQ) (h1 : Words r.1.2) (h2 : Words r.2.2) (n : Nat) (hn : n < 1073741824) : FnP Tryz.prog tb F_law03_small [encR r, .i .i64 n] (.b (decide (fewR r n) && isR r)) := by
 refine fn1 Tryz.func16 fun G hG hK hF => ?_
 refine sx 4 ?_
 rcases (show ¬ r.1.2.length ≤ n ∨ (r.1.2.length ≤ n ∧ ¬ r.2.2.length ≤ n) ∨ (r.1.2.length ≤ n ∧ r.2.2.length ≤ n) by omega) with g1 | ⟨g1, g2⟩ | ⟨g1, g2⟩
 ·refine sx 22 ?_
  exact ⟨.inr rfl, rfl, (by (refine res_t rfl ?_); (rw [decide_eq_false (fun h : fewR r n => g1 h.1)]; rfl)), trivial⟩
 ·refine sx 22 ?_
  exact ⟨.inr rfl, rfl, (by (refine res_t rfl ?_); (rw [decide_eq_false (fun h : fewR r n => g2 h.2)]; rfl)), trivial⟩
 ·refine sx 17 ?_
  refine gq (z := by (simp; omega)) (.callR (yb := as1) (yc := ref02_Is r.1.1 r.2.1 r.1.2 r.2.2 h1 h2 (by omega) (by omega))) ?_
  refine sx 4 ?_
  exact ⟨.inr rfl, rfl, (by (refine res_t rfl ?_); (rw [decide_eq_true (show fewR r n from ⟨g1, g2⟩)]; rfl)), trivial⟩
theorem same_P (p q : Pol) (h : p = q) : FnP Tryz.prog tb F_ref03_Same [encP p, encP q] (.b true) := by
 have := ref03_Same p q
 rw [decide_eq_true h] at this; exact this
theorem same_Q (p q : Rat) (h : p = q) : FnP Tryz.prog tb F_ref02_Same [encQ p, encQ q] (.b true) := by
 have := ref02_Same p q
 rw [decide_eq_true h] at this; exact this
theorem sane_Pow : FnP Tryz.prog tb F_qpoly_Pow [encP (PI [1, 1]), .i .i64 3] (.tu [encP (PI [1, 3, 3, 1]), .i .i64 0]) := by
 have := qpoly_Pow (PI [1, 1]) 3 (by decide) (PI_cdb _ (by decide)) (by decide)
 rw [show powR (PI [1, 1]) 3 = (PI [1, 3, 3, 1], 0) by decide +kernel] at this; exact this
theorem sane_Div : FnP Tryz.prog tb F_qpoly_Div [encP (PI [0, 0, 1]), encP (PI [1, 1])] (.tu [encP (PI [-1, 1]), encP (PI [1]), .i .i64 0]) := by
 have := qpoly_Div (PI [0, 0, 1]) (PI [1, 1]) (by decide +kernel) (PI_cdb _ (by decide)) (PI_cdb _ (by decide)) (by decide +kernel)
 rw [show PI [0, 0, 1] / PI [1, 1] = PI [-1, 1] by decide +kernel, show PI [0, 0, 1] % PI [1, 1] = PI [1] by decide +kernel] at this; exact this
theorem bez_of {p q g u v : Pol} (hq : q ≠ 0) (hg : p.gcd q = g) (hl : u.len < (q / g).len) (hv : (g - u * p) / q = v) (hm : v * q = g - u * p) : p.bez q = (g, u, v) := by
 subst hg
 have hu : u = p.bezU q := Poly.bezU_unique (w := v) hq hl (by rw [hm]; grind)
 rw [Poly.bez, if_neg hq, ← hu, Poly.bezV, ← hu, hv]
theorem sane_Bezout : FnP Tryz.prog tb F_qpoly_Bezout [encP (PI [0, 0, 1]), encP (PI [-1, 1])] (.tu [encP (PI [1]), encP (PI [1]), encP (PI [-1, -1]), .i .i64 0]) := by
 have := qpoly_Bezout (PI [0, 0, 1]) (PI [-1, 1]) (L := 6) (PI_pb _ _ (by decide) (by decide)) (fun _ => EB.init (K := 1000) (PI_cdb _ (by decide)) (PI_cdb _ (by decide)) (by decide +kernel)) (by decide) (by decide +kernel) (by decide)
 rw [show (PI [0, 0, 1]).bez (PI [-1, 1]) = (PI [1], PI [1], PI [-1, -1]) from bez_of (by decide +kernel) (by decide +kernel) (by decide +kernel) (by decide +kernel) (by decide +kernel)] at this; exact this
theorem sane_Compose : FnP Tryz.prog tb F_qpoly_Compose [encP (PI [1, 0, 1]), encP (PI [-1, 1])] (.tu [encP (PI [2, -2, 1]), .i .i64 0]) := by
 have := qpoly_Compose (PI [1, 0, 1]) (PI [-1, 1]) (by decide +kernel) (L := 7) (PI_pb _ 2 (by decide) (by decide)) (PI_cdb _ (by decide)) (by decide +kernel) (by decide +kernel)
 rw [show (PI [1, 0, 1]).comp (PI [-1, 1]) = PI [2, -2, 1] by decide +kernel] at this; exact this
theorem sane_Squarefree : FnP Tryz.prog tb F_qpoly_Squarefree [encP (PI [0, 0, -2, 2])] (.tu [encQ ((2 : Int) : Rat), .sl T_L_Rat [encP (PI [-1, 1]), encP (PI [0, 1])], .i .i64 0]) := by
 have := qpoly_Squarefree (PI [0, 0, -2, 2]) (by decide +kernel) (PI_cdb _ (by decide)) (by decide) (by decide +kernel)
 rw [show (PI [0, 0, -2, 2]).lead = ((2 : Int) : Rat) by decide +kernel, show (PI [0, 0, -2, 2]).sqf = [PI [-1, 1], PI [0, 1]] by decide +kernel] at this; exact this
theorem ref01_SameT (a : Int) : FnP Tryz.prog tb F_ref01_Same [encI a, encI a] (.b true) := by
 have := ref01_Same a a
 rw [decide_eq_true rfl] at this; exact this
theorem ref02_SameAllT (l : List Rat) : FnP Tryz.prog tb F_ref02_SameAll [encQs l, encQs l] (.b true) := by
 have := ref02_SameAll l l
 rw [decide_eq_true rfl] at this; exact this
theorem qpoly_IsP (p : Pol) (hB : ∀ q ∈ p.c, Bq 274877906944 q) : FnP Tryz.prog tb F_qpoly_Is [encP p] (.b true) := by
 have := qpoly_Is p.c hB
 rw [decide_eq_true p.can] at this; exact this
theorem sane_Deg : FnP Tryz.prog tb F_qpoly_Deg [encP (PI [0, 0, 1])] (.i .i64 2) := by
 have := qpoly_DegP (PI [0, 0, 1])
 rw [show (PI [0, 0, 1]).len = 3 by decide +kernel] at this; exact this
theorem sane_Lead : FnP Tryz.prog tb F_qpoly_Lead [encP (PI [1, 3])] (encQ ((3 : Int) : Rat)) := by
 have := qpoly_LeadP (PI [1, 3])
 rw [show (PI [1, 3]).lead = ((3 : Int) : Rat) by decide +kernel] at this; exact this
def sanePrim : Pol := ⟨[((3 : Int) : Rat), Rat.divInt (-1) 2], by decide +kernel⟩
theorem bq_of {q : Rat} (h : q.num.natAbs < 18446744073709551616 ∧ q.den < 18446744073709551616) : Bq 9 q := ⟨Nat.le_trans (wl_small h.1) (by decide), Nat.le_trans (wl_small h.2) (by decide)⟩
theorem sanePrim0 : Bq 9 (sanePrim.co 0) := bq_of (by decide +kernel)
theorem sanePrim1 : Bq 9 (sanePrim.co 1) := bq_of (by decide +kernel)
theorem sane_Primitive : FnP Tryz.prog tb F_qpoly_Primitive [.sl T_Rat [encQ ((3 : Int) : Rat), encQ (Rat.divInt (-1) 2)]] (.tu [encQ (Rat.divInt (-1) 2), .sl T_Int [encI (-6), encI 1], .i .i64 0]) := by
 have := qpoly_Primitive sanePrim (by decide +kernel) (n := 1000) ((PB.cdb (n := 9) ⟨fun i => by match i with | 0 => exact sanePrim0 | 1 => exact sanePrim1 | i + 2 => rw [Poly.co_ge (show sanePrim.len ≤ i + 2 by show 2 ≤ i + 2; omega)]; exact Bq.zero.le (by decide)⟩).le (by decide +kernel)) (by decide)
 rw [show primC sanePrim = Rat.divInt (-1) 2 by decide +kernel, show primN sanePrim = [-6, 1] by decide +kernel] at this; exact this
theorem sane_first : First (primN (freeP (PI [1, -2, -1, 2]))) 5 := by
 have e : primN (freeP (PI [1, -2, -1, 2])) = [1, -2, -1, 2] := by decide +kernel
 rw [e]
 exact ⟨by decide, by decide, by decide, by decide +kernel, by decide +kernel, by decide +kernel⟩
theorem sane_Roots : FnP Tryz.prog tb F_qpoly_Roots [encP (PI [1, -2, -1, 2])] (.tu [encQs [((-1 : Int) : Rat), Rat.divInt 1 2, ((1 : Int) : Rat)], .i .i64 0]) := by
 have := qpoly_Roots (PI [1, -2, -1, 2]) (by decide +kernel) (by decide +kernel) (PI_cdb _ (by decide)) (by decide) (by decide +kernel) 5 sane_first (by decide +kernel)
 rw [show rootsQ (PI [1, -2, -1, 2]) 5 = [((-1 : Int) : Rat), Rat.divInt 1 2, ((1 : Int) : Rat)] by decide +kernel] at this; exact this
theorem sane_Resultant : FnP Tryz.prog tb F_qpoly_Resultant [encP (PI [-2, 0, 1]), encP (PI [-3, 1])] (encQ ((7 : Int) : Rat)) := by
 have := qpoly_Resultant (PI [-2, 0, 1]) (PI [-3, 1]) (by decide +kernel) (by decide +kernel) (by
  have e : (PI [-3, 1]).len = 2 := by decide +kernel
  rw [e, resOK, if_neg (by decide +kernel), if_neg (by decide +kernel), resOK, if_pos (by decide +kernel)]
  exact ⟨by decide +kernel, by decide +kernel⟩) (EB.init (K := 1000) (PI_cdb _ (by decide)) (PI_cdb _ (by decide)) (by decide +kernel)) (by decide) (by decide +kernel)
 rw [show resF (PI [-3, 1]).len 1 (PI [-2, 0, 1]) (PI [-3, 1]) = ((7 : Int) : Rat) by decide +kernel] at this; exact this
theorem sane_Add : FnP Tryz.prog tb F_qpoly_Add [encP (PI [1]), encP (PI [0, 1])] (encP (PI [1] + PI [0, 1])) := qpoly_Add _ _ (PI_pb _ _ (by decide) (by decide)) (PI_pb _ _ (by decide) (by decide))
theorem sane_Sub : FnP Tryz.prog tb F_qpoly_Sub [encP (PI [1]), encP (PI [0, 1])] (encP (PI [1] - PI [0, 1])) := qpoly_Sub _ _ (PI_pb _ _ (by decide) (by decide)) (PI_pb _ _ (by decide) (by decide))
theorem sane_Mul : FnP Tryz.prog tb F_qpoly_Mul [encP (PI [1, 1]), encP (PI [-1, 1])] (encP (PI [1, 1] * PI [-1, 1])) := qpoly_Mul _ _ (PI_pb _ 2 (by decide) (by decide)) (PI_pb _ 2 (by decide) (by decide)) (by decide +kernel) (by decide +kernel)
theorem sane_Scale : FnP Tryz.prog tb F_qpoly_Scale [encP (PI [1, 1]), encQ ((2 : Int) : Rat)] (encP (Poly.cst ((2 : Int) : Rat) * PI [1, 1])) := qpoly_Scale _ _ (PI_pb _ _ (by decide) (by decide)) ((Bq.small (z := 2) (by decide)).le (by decide))
theorem sane_Monic : FnP Tryz.prog tb F_qpoly_Monic [encP (PI [2, 2])] (encP (PI [2, 2]).monic) := qpoly_Monic _ (PI_pb _ _ (by decide) (by decide))
theorem sane_Gcd : FnP Tryz.prog tb F_qpoly_Gcd [encP (PI [-2, 0, 2]), encP (PI [3, 3])] (encP ((PI [-2, 0, 2]).gcd (PI [3, 3]))) := qpoly_Gcd _ _ (EB.init (K := 1000) (PI_cdb _ (by decide)).monic (PI_cdb _ (by decide)).monic (by decide +kernel)) (by decide) (PI_pb _ _ (by decide) (by decide)) (PI_pb _ _ (by decide) (by decide))
theorem sane_Eval : FnP Tryz.prog tb F_qpoly_Eval [encP (PI [1, 0, 1]), encQ ((2 : Int) : Rat)] (encQ ((PI [1, 0, 1]).eval ((2 : Int) : Rat))) := qpoly_Eval _ _ (PI_pb _ 2 (by decide) (by decide)) (Bq.small (z := 2) (by decide)) (by decide +kernel)
theorem sane_Deriv : FnP Tryz.prog tb F_qpoly_Deriv [encP (PI [0, -1, 0, 1])] (encP (PI [0, -1, 0, 1]).deriv) := qpoly_Deriv _ (PI_pb _ _ (by decide) (by decide))
theorem sane_Integral : FnP Tryz.prog tb F_qpoly_Integral [encP (PI [0, 2])] (encP (Poly.integ (PI [0, 2]))) := qpoly_Integral _ (by decide +kernel) (PI_pb _ _ (by decide) (by decide))
theorem pc_bq {n : Nat} {p : Pol} (h : PB n p) : ∀ q ∈ p.c, Bq n q := fun q hq => by
 obtain ⟨i, hi, rfl⟩ := List.mem_iff_getElem.1 hq
 have := h.co i
 rw [show p.co i = p.c[i] from cf_lt hi] at this; exact this
theorem sane_Is : FnP Tryz.prog tb F_qpoly_Is [encP (PI [0, 1])] (.b true) := qpoly_IsP _ (pc_bq (PI_pb _ _ (by decide) (by decide)))
theorem law03_sane : FnP Tryz.prog tb F_law03_sane [] (.b true) := by
 refine fn1 Tryz.func12 fun G hG hK hF => ?_
 refine sx 6 ?_
 refine oq (.callR (yb := asc (.inl rfl) as1) (yc := sane_Pow)) ?_
 refine sx 11 ?_
 refine oq (.callR (yb := asc (.inl rfl) as1) (yc := sane_Div)) ?_
 refine sx 13 ?_
 refine oq (.callR (yb := asc (.inl rfl) as1) (yc := sane_Bezout)) ?_
 refine sx 15 ?_
 refine oq (.callR (yb := asc (.inl rfl) as1) (yc := sane_Compose)) ?_
 refine sx 8 ?_
 refine oq (.callR (yb := as1) (yc := law03_poly [0, 0, -2, 2] (by decide) (by decide))) ?_
 refine oq (.callR (yb := as1) (yc := sane_Squarefree)) ?_
 refine sx 13 ?_
 refine oq (.callR (yb := as1) (yc := sane_Primitive)) ?_
 refine sx 11 ?_
 refine oq (.callR (yb := as1) (yc := law03_poly [1, -2, -1, 2] (by decide) (by decide))) ?_
 refine oq (.callR (yb := as1) (yc := sane_Roots)) ?_
 refine sx 45 ?_
 refine wp_cF rfl (by rfl) ?_
 refine sx 5 ?_
 refine oq (.callR (yb := as1) (yc := law03_poly [1, 3, 3, 1] (by decide) (by decide))) ?_
 refine sx 28 ?_
 refine gq (.callR (yb := as1) (yc := law03_poly [-1, -1] (by decide) (by decide))) ?_
 refine sx 5 ?_
 refine gq (.callR (yb := as1) (yc := law03_poly [2, -2, 1] (by decide) (by decide))) ?_
 refine sx 33 ?_
 refine wd_gq rfl rfl rfl (by rfl) rfl rfl rfl (.callR (yb := as1) (yc := ref01_Of (-6) (by decide) (by decide))) ?_
 refine wd_gq rfl rfl rfl (by rfl) rfl rfl rfl (.callR (yb := asc (.inl rfl) as1) (yc := ref01_SameT (-6))) ?_
 refine sx 4 ?_
 refine wd_gq rfl rfl rfl (by rfl) rfl rfl rfl (.callR (yb := as1) (yc := law03_half 1 (by decide) (by decide))) ?_
 refine sx 2 ?_
 refine wd_gq rfl rfl rfl (by rfl) rfl rfl rfl (.callR (yb := asc (.inl rfl) as1) (yc := ref02_SameAllT [((-1 : Int) : Rat), Rat.divInt 1 2, ((1 : Int) : Rat)])) ?_
 refine sx 6 ?_
 refine oq (.callR (yb := as1) (yc := sane_Is)) ?_
 refine sx 3 ?_
 refine gq (.callR (yb := as1) (yc := sane_Deg)) ?_
 refine sx 4 ?_
 refine gq (.callR (yb := as1) (yc := law03_poly [1, 3] (by decide) (by decide))) ?_
 refine gq (.callR (yb := as1) (yc := sane_Lead)) ?_
 refine sx 4 ?_
 refine gq (.callR (yb := as1) (yc := ref02_Int 4 (by decide) (by decide))) ?_
 refine sx 2 ?_
 refine gq (.callR (yb := as1) (yc := law03_poly [4] (by decide) (by decide))) ?_
 refine sx 7 ?_
 refine gq (.callR (yb := asc (.inl rfl) as1) (yc := sane_Add)) ?_
 refine sx 9 ?_
 refine gq (.callR (yb := asc (.inl rfl) as1) (yc := sane_Sub)) ?_
 refine sx 1 ?_
 refine gq (.callR (yb := as1) (yc := law03_poly [1, -1] (by decide) (by decide))) ?_
 refine sx 9 ?_
 refine oq (.callR (yb := asc (.inl rfl) as1) (yc := sane_Mul)) ?_
 refine sx 1 ?_
 refine oq (.callR (yb := as1) (yc := law03_poly [-1, 0, 1] (by decide) (by decide))) ?_
 refine sx 5 ?_
 refine gq (.callR (yb := asc (.inl rfl) as1) (yc := sane_Scale)) ?_
 refine sx 7 ?_
 refine gq (.callR (yb := as1) (yc := sane_Monic)) ?_
 refine sx 6 ?_
 refine gq (.callR (yb := as1) (yc := law03_poly [-2, 0, 2] (by decide) (by decide))) ?_
 refine sx 1 ?_
 refine gq (.callR (yb := as1) (yc := law03_poly [3, 3] (by decide) (by decide))) ?_
 refine gq (.callR (yb := asc (.inl rfl) as1) (yc := sane_Gcd)) ?_
 refine sx 8 ?_
 refine gq (.callR (yb := asc (.inl rfl) as1) (yc := sane_Eval)) ?_
 refine gq (.callR (yb := as1) (yc := ref02_Int 5 (by decide) (by decide))) ?_
 refine gq (.callR (yb := asc (.inl rfl) as1) (yc := same_Q _ _ (by decide +kernel))) ?_
 refine sx 16 ?_
 refine gq (.callR (yb := as1) (yc := law03_poly [0, -1, 0, 1] (by decide) (by decide))) ?_
 refine gq (.callR (yb := as1) (yc := sane_Deriv)) ?_
 refine sx 1 ?_
 refine gq (.callR (yb := as1) (yc := law03_poly [-1, 0, 3] (by decide) (by decide))) ?_
 refine sx 4 ?_
 refine gq (.callR (yb := as1) (yc := law03_poly [0, 2] (by decide) (by decide))) ?_
 refine gq (.callR (yb := as1) (yc := sane_Integral)) ?_
 refine sx 6 ?_
 refine gq (.callR (yb := as1) (yc := law03_poly [-2, 0, 1] (by decide) (by decide))) ?_
 refine sx 1 ?_
 refine gq (.callR (yb := as1) (yc := law03_poly [-3, 1] (by decide) (by decide))) ?_
 refine gq (.callR (yb := asc (.inl rfl) as1) (yc := sane_Resultant)) ?_
 refine gq (.callR (yb := as1) (yc := ref02_Int 7 (by decide) (by decide))) ?_
 refine sx 5 ?_
 exact ⟨.inr rfl, rfl, (by (refine res_t rfl ?_); (rfl)), trivial⟩
theorem few_F (l : List RQ) (hw : WR l) (d n : Nat) (hd : d < 1073741824) (hn : n < 1073741824) (h : fewB l d n = false) : FnP Tryz.prog tb F_law03_few [encRs l, .i .i64 d, .i .i64 n] (.b false) := by
 have := law03_few l hw d n hd hn
 rw [h] at this; exact this
theorem few_T (p : Pol) (d n : Nat) (hd : d < 1073741824) (hn : n < 1073741824) (h : fewB (p.c.map rawR) d n = true) : FnP Tryz.prog tb F_law03_few [encP p, .i .i64 d, .i .i64 n] (.b true) := by
 have := law03_few (p.c.map rawR) (wr_raw p.c) d n hd hn
 rw [h, encRs_raw] at this; exact this
theorem few_pol {l : List RQ} (hw : WR l) {d n : Nat} (h : fewB l d n = true) (hn1 : 1 ≤ n) : ∃ p : Pol, l = p.c.map rawR ∧ p.len ≤ d + 1 ∧ PB n p := by
 rw [fewB, Bool.and_eq_true] at h
 obtain ⟨p, hp⟩ := isP_enc hw h.2
 have h1 : fewL l d n := of_decide_eq_true h.1
 have hB : PB n p := ⟨fun i => by
  by_cases hi : i < p.c.length
  ·have h2 := h1 (rawR p.c[i]) (by rw [hp]; exact List.mem_map_of_mem (List.getElem_mem hi))
   rw [show p.co i = p.c[i] from cf_lt hi]
   exact ⟨h2.2.1, h2.2.2⟩
  ·rw [Poly.co_ge (by show p.c.length ≤ i; omega)]; exact Bq.zero.le hn1⟩
 refine ⟨p, hp, ?_, hB⟩
 clear hB
 cases l with
 | nil => have := congrArg List.length hp; rw [List.length_map] at this; rw [Poly.len, ← this]; exact Nat.zero_le _
 | cons r l => have h2 := (h1 r (by simp)).1; rw [hp, List.length_map] at h2; exact h2
theorem small_F (r : RQ) (h1 : Words r.1.2) (h2 : Words r.2.2) (n : Nat) (hn : n < 1073741824) (h : (decide (fewR r n) && isR r) = false) : FnP Tryz.prog tb F_law03_small [encR r, .i .i64 n] (.b false) := by
 have := law03_small r h1 h2 n hn
 rw [h] at this; exact this
theorem small_T (q : Rat) (n : Nat) (hn : n < 1073741824) (h : (decide (fewR (rawR q) n) && isR (rawR q)) = true) : FnP Tryz.prog tb F_law03_small [encQ q, .i .i64 n] (.b true) := by
 have := law03_small (rawR q) (digits_words _) (digits_words _) n hn
 rw [h] at this; exact this
theorem small_rat {r : RQ} (h1 : Words r.1.2) (h2 : Words r.2.2) {n : Nat} (h : (decide (fewR r n) && isR r) = true) : ∃ q : Rat, r = rawR q ∧ Bq n q := by
 rw [Bool.and_eq_true] at h
 obtain ⟨q, _, h4⟩ := isR_enc h1 h2 h.2
 have h5 : fewR r n := of_decide_eq_true h.1
 rw [← h4] at h5
 exact ⟨q, h4.symm, h5.1, h5.2⟩
theorem bool3 (a b c : Bool) : a = false ∨ (a = true ∧ b = false) ∨ (a = true ∧ b = true ∧ c = false) ∨ (a = true ∧ b = true ∧ c = true) := by cases a <;> cases b <;> cases c <;> simp
theorem bool2 (a b : Bool) : a = false ∨ (a = true ∧ b = false) ∨ (a = true ∧ b = true) := by cases a <;> cases b <;> simp
theorem law_Sums (l p q : List RQ) (r : RQ) (hl : WR l) (hp : WR p) (hq : WR q) (hr1 : Words r.1.2) (hr2 : Words r.2.2) : FnP Tryz.prog tb F_law03_QpolySums [encRs l, encRs p, encRs q, encR r] (.b true) := by
 refine fn1 Tryz.func3 fun G hG hK hF => ?_
 refine wp_ll 0 rfl rfl fun hb => ?_
 rw [encRs_len] at hb
 refine sx 9 ?_
 refine wp_l2 hK (krc 0 rfl (krc 1 rfl (krc 2 rfl (krc 7 rfl krn)))) khn (fun sl' h' (i : Nat) => ⟨(9, .t (.i .i64 (i))) :: sl', h', 0, 0⟩) (fun i => i ≤ l.length ∧ ∀ j x, j < i → l[j]? = some x → fewR x 4) (fun i => l.length - i) 0 ?_ (fun _ => rfl) ?_ ?_
 ·exact ⟨Nat.zero_le _, fun j x hj => by omega⟩
 ·exact il
 ·rintro i ⟨hi, he⟩
  refine sx 7 ?_
  refine wp_c rfl (fun hc => ?_) (fun hc => ?_)
  ·have hci : i < l.length := by simpa using hc
   obtain ⟨x, hx⟩ : ∃ x, l[i]? = some x := ⟨_, List.getElem?_eq_getElem hci⟩
   refine sx 4 ?_
   rcases (show ¬ l.length ≤ 40 ∨ (l.length ≤ 40 ∧ ¬ x.1.2.length ≤ 4) ∨ (l.length ≤ 40 ∧ x.1.2.length ≤ 4 ∧ ¬ x.2.2.length ≤ 4) ∨ (l.length ≤ 40 ∧ x.1.2.length ≤ 4 ∧ x.2.2.length ≤ 4) by omega) with h1 | ⟨h1, h2⟩ | ⟨h1, h2, h3⟩ | ⟨h1, h2, h3⟩
   ·refine sx 25 ?_
    refine wp_cT rfl (by rfl) ?_
    refine sx 10 ?_
    exact ⟨.inr rfl, rfl, (by (refine res_t rfl ?_); (rfl)), trivial⟩
   ·refine sx 25 ?_
    refine wp_cT rfl (by rfl) ?_
    refine sx 10 ?_
    exact ⟨.inr rfl, rfl, (by (refine res_t rfl ?_); (rfl)), trivial⟩
   ·refine sx 25 ?_
    refine wp_cT rfl (by (simp; omega)) ?_
    refine sx 10 ?_
    exact ⟨.inr rfl, rfl, (by (refine res_t rfl ?_); (rfl)), trivial⟩
   ·refine sx 25 ?_
    refine wp_cF rfl (by (simp; omega)) ?_
    refine sx 8 ?_
    exact round_n (i + 1) (by exact ⟨by omega, fun j y hj hy => by rcases Nat.eq_or_lt_of_le (Nat.le_of_lt_succ hj) with rfl | h; rw [hx] at hy; cases hy; exact ⟨h2, h3⟩; exact he j y h hy⟩) (by omega) (by exact il)
  ·have hci : i = l.length := by { have : ¬ i < l.length := by { simpa using hc }; omega }
   have hlQ : WQ l := fun r hr => by { obtain ⟨j, hj, rfl⟩ := List.mem_iff_getElem.1 hr; have := he j _ (by omega) (List.getElem?_eq_getElem hj); exact ⟨by have := this.1; omega, by have := this.2; omega⟩ }
   refine sx 8 ?_
   refine oq (.callR (yb := as1) (yc := qpoly_IsR l hl hlQ)) ?_
   refine om ?_
   refine oq (.callR (yb := as1) (yc := ref03_IsR l hl hlQ)) ?_
   refine sx 2 ?_
   refine wp_cF rfl (by simp) ?_
   refine sx 3 ?_
   rcases bool3 (fewB p 12 4) (fewB q 12 4) (decide (fewR r 4) && isR r) with h1 | ⟨h1, h2⟩ | ⟨h1, h2, h3⟩ | ⟨h1, h2, h3⟩
   ·refine sx 2 ?_
    refine oq (.callR (yb := asc (.inl rfl) as2) (yc := few_F p hp 12 4 (by decide) (by decide) h1)) ?_
    refine sx 12 ?_
    refine wp_cT rfl (by rfl) ?_
    refine sx 6 ?_
    exact ⟨.inr rfl, rfl, (by (refine res_t rfl ?_); (rfl)), trivial⟩
   ·obtain ⟨p, rfl, hpl, hpB⟩ := few_pol hp h1 (by decide)
    rw [encRs_raw]
    refine sx 6 ?_
    refine gq (.callR (yb := asc (.inl rfl) as2) (yc := few_F q hq 12 4 (by decide) (by decide) h2)) ?_
    refine sx 8 ?_
    refine wp_cT rfl (by rfl) ?_
    refine sx 6 ?_
    exact ⟨.inr rfl, rfl, (by (refine res_t rfl ?_); (rfl)), trivial⟩
   ·obtain ⟨p, rfl, hpl, hpB⟩ := few_pol hp h1 (by decide)
    obtain ⟨q, rfl, hql, hqB⟩ := few_pol hq h2 (by decide)
    rw [encRs_raw, encRs_raw]
    refine sx 11 ?_
    refine gq (.callR (yb := asc (.inl rfl) as1) (yc := small_F r hr1 hr2 4 (by decide) h3)) ?_
    refine sx 3 ?_
    refine wp_cT rfl (by rfl) ?_
    refine sx 6 ?_
    exact ⟨.inr rfl, rfl, (by (refine res_t rfl ?_); (rfl)), trivial⟩
   ·obtain ⟨p, rfl, hpl, hpB⟩ := few_pol hp h1 (by decide)
    obtain ⟨q, rfl, hql, hqB⟩ := few_pol hq h2 (by decide)
    obtain ⟨r, rfl, hrB⟩ := small_rat hr1 hr2 h3
    rw [encRs_raw, encRs_raw, encR_raw]
    refine sx 11 ?_
    refine gq (.callR (yb := asc (.inl rfl) as1) (yc := small_T r 4 (by decide) h3)) ?_
    refine sx 3 ?_
    refine wp_cF rfl (by rfl) ?_
    refine sx 17 ?_
    refine wd_gq rfl rfl rfl (by rfl) rfl rfl rfl (.callR (yb := as1) (yc := qpoly_Const r)) ?_
    refine sx 1 ?_
    refine wd_gq rfl rfl rfl (by rfl) rfl rfl rfl (.callR (yb := as1) (yc := ref03_Const r)) ?_
    refine sx 5 ?_
    refine wd_gq rfl rfl rfl (by rfl) rfl rfl rfl (.callR (yb := asc (.inl rfl) as1) (yc := qpoly_Scale p r (hpB.le (by decide)) (hrB.le (by decide)))) ?_
    refine sx 2 ?_
    refine wd_gq rfl rfl rfl (by rfl) rfl rfl rfl (.callR (yb := asc (.inl rfl) as1) (yc := ref03_Scale p r (hpB.le (by decide)) (hrB.le (by decide)))) ?_
    refine sx 12 ?_
    refine gq (.callR (yb := asc (.inl rfl) as1) (yc := qpoly_Add p q (hpB.le (by decide)) (hqB.le (by decide)))) ?_
    refine sx 2 ?_
    refine gq (.callR (yb := asc (.inl rfl) as1) (yc := ref03_Add p q (hpB.le (by decide)) (hqB.le (by decide)))) ?_
    refine sx 5 ?_
    refine gq (.callR (yb := asc (.inl rfl) as1) (yc := qpoly_Sub p q (hpB.le (by decide)) (hqB.le (by decide)))) ?_
    refine sx 2 ?_
    refine gq (.callR (yb := asc (.inl rfl) as1) (yc := ref03_Sub p q (hpB.le (by decide)) (hqB.le (by decide)))) ?_
    refine sx 5 ?_
    refine gq (.callR (yb := asc (.inl rfl) as1) (yc := qpoly_Mul p q hpB hqB (by omega) (by omega))) ?_
    refine sx 2 ?_
    refine gq (.callR (yb := asc (.inl rfl) as1) (yc := ref03_Mul p q hpB hqB (by omega) (by omega))) ?_
    refine sx 5 ?_
    exact ⟨.inr rfl, rfl, (by (refine res_t rfl ?_); (rfl)), trivial⟩
def divR (p q : Pol) : Pol × Pol × Int := if q = 0 then (0, 0, 5) else (p / q, p % q, 0)
theorem qpoly_DivR (p q : Pol) {n m : Nat} (hpB : CDB n p) (hqB : CDB m q) (hn : n ≤ 1000) (hm : m ≤ 1000) (hpl : p.len ≤ 20) : FnP Tryz.prog tb F_qpoly_Div [encP p, encP q] (.tu [encP (divR p q).1, encP (divR p q).2.1, .i .i64 (divR p q).2.2]) := by
 unfold divR
 split
 ·rename_i h; subst h
  have := qpoly_DivZ p
  rw [← encP_0] at this; exact this
 ·rename_i h; exact qpoly_Div p q h hpB hqB (add_mul_le (c := 21) (e := 1000) (by omega) hm (by omega))
theorem ref03_DivR (p q : Pol) {n m : Nat} (hpB : CDB n p) (hqB : CDB m q) (hn : n ≤ 1000) (hm : m ≤ 1000) (hpl : p.len ≤ 20) : FnP Tryz.prog tb F_ref03_Div [encP p, encP q] (.tu [encP (divR p q).1, encP (divR p q).2.1, .i .i64 (divR p q).2.2]) := by
 unfold divR
 split
 ·rename_i h; subst h
  have := ref03_DivZ p
  rw [← encP_0] at this; exact this
 ·rename_i h; exact ref03_Div p q h hpB hqB 21 (by omega) (by omega)
theorem pot9 : ∀ a, a < 10 → ∀ b, b < 10 → (a - b + 2) * 3 ^ b ≤ 39366 := by decide +kernel
theorem eb9 {p q : Pol} (hp : CDB 37 p) (hq : CDB 37 q) (hpl : p.len ≤ 9) (hql : q.len ≤ 9) : EB 1495908 (max 37 37 + 1) p q :=
 EB.init hp hq (by
  have := pot9 p.len (by omega) q.len (by omega)
  rw [Nat.mul_assoc]
  exact Nat.le_trans (Nat.mul_le_mul_left 38 this) (by decide))
theorem law_Divides (p q : List RQ) (hp : WR p) (hq : WR q) : FnP Tryz.prog tb F_law03_QpolyDivides [encRs p, encRs q] (.b true) := by
 refine fn1 Tryz.func4 fun G hG hK hF => ?_
 refine sx 4 ?_
 rcases bool2 (fewB p 8 2) (fewB q 8 2) with h1 | ⟨h1, h2⟩ | ⟨h1, h2⟩
 ·refine sx 2 ?_
  refine oq (.callR (yb := asc (.inl rfl) as2) (yc := few_F p hp 8 2 (by decide) (by decide) h1)) ?_
  refine sx 7 ?_
  refine wp_cT rfl (by rfl) ?_
  refine sx 6 ?_
  exact ⟨.inr rfl, rfl, (by (refine res_t rfl ?_); (rfl)), trivial⟩
 ·obtain ⟨p, rfl, hpl, hpB⟩ := few_pol hp h1 (by decide)
  rw [encRs_raw]
  refine sx 6 ?_
  refine gq (.callR (yb := asc (.inl rfl) as2) (yc := few_F q hq 8 2 (by decide) (by decide) h2)) ?_
  refine sx 3 ?_
  refine wp_cT rfl (by rfl) ?_
  refine sx 6 ?_
  exact ⟨.inr rfl, rfl, (by (refine res_t rfl ?_); (rfl)), trivial⟩
 ·obtain ⟨p, rfl, hpl, hpB⟩ := few_pol hp h1 (by decide)
  obtain ⟨q, rfl, hql, hqB⟩ := few_pol hq h2 (by decide)
  rw [encRs_raw, encRs_raw]
  have hpC : CDB 37 p := hpB.cdb.le (by omega)
  have hqC : CDB 37 q := hqB.cdb.le (by omega)
  refine sx 6 ?_
  refine gq (.callR (yb := asc (.inl rfl) as2) (yc := few_T q 8 2 (by decide) (by decide) h2)) ?_
  refine sx 3 ?_
  refine wp_cF rfl (by rfl) ?_
  refine sx 5 ?_
  refine oq (.callR (yb := asc (.inl rfl) as1) (yc := qpoly_DivR p q hpC hqC (by decide) (by decide) (by omega))) ?_
  refine sx 11 ?_
  refine oq (.callR (yb := asc (.inl rfl) as1) (yc := ref03_DivR p q hpC hqC (by decide) (by decide) (by omega))) ?_
  refine sx 11 ?_
  refine oq (.callR (yb := asc (.inl rfl) as1) (yc := qpoly_Bezout p q (L := 19) (hpB.le (by decide)) (fun _ => eb9 hpC hqC hpl hql) (by decide) (by omega) (by decide))) ?_
  refine sx 13 ?_
  refine oq (.callR (yb := asc (.inl rfl) as1) (yc := ref03_Bezout p q (L := 19) (hpB.le (by decide)) (fun _ => eb9 hpC hqC hpl hql) (by decide) (by omega) (by decide))) ?_
  refine sx 24 ?_
  refine gq (z := by (simp; done)) (.callR (yb := as1) (yc := qpoly_Monic p (hpB.le (by decide)))) ?_
  refine sx 1 ?_
  refine gq (z := by (simp; done)) (.callR (yb := as1) (yc := ref03_Monic p (hpB.le (by decide)))) ?_
  refine sx 5 ?_
  refine gq (.callR (yb := asc (.inl rfl) as1) (yc := qpoly_Gcd p q (eb9 hpC.monic hqC.monic (by rw [Poly.monic_len]; exact hpl) (by rw [Poly.monic_len]; exact hql)) (by decide) (hpB.le (by decide)) (hqB.le (by decide)))) ?_
  refine sx 1 ?_
  refine gq (.callR (yb := asc (.inl rfl) as1) (yc := same_P _ _ (Poly.bez_gcd p q).symm)) ?_
  refine sx 30 ?_
  exact ⟨.inr rfl, rfl, (by (refine res_t rfl ?_); (rfl)), trivial⟩
theorem gtT {p : Prop} [Decidable p] (h : p) : (decide p == true) = true := by simp [h]
theorem gtS {p : Prop} [Decidable p] (h : ¬ p) : (decide p == true) = false := by simp [h]
theorem quo_fit (k : Int) (n : Nat) (hk : 0 ≤ k) (hk2 : k < 1000000) : -9223372036854775808 ≤ k.tdiv n ∧ k.tdiv n ≤ 9223372036854775807 := by
 rw [Int.tdiv_eq_ediv_of_nonneg hk]
 have h1 := Int.ediv_nonneg hk (show (0 : Int) ≤ n by omega)
 have h2 := Int.ediv_le_self (b := (n : Int)) hk
 generalize k / (n : Int) = z at *
 omega
theorem comp_fit {p q : Pol} (hp : p.len ≤ 7) (hq : q.len ≤ 7) : p.len ≤ 1 ∨ q.len ≤ 1 ∨ p.len - 1 ≤ 4000 / (q.len - 1) := by
 rcases Nat.lt_or_ge 1 q.len with h | h
 ·have : 4000 / 6 ≤ 4000 / (q.len - 1) := Nat.div_le_div_left (by omega) (by omega)
  generalize 4000 / (q.len - 1) = z at *
  omega
 ·exact .inr (.inl h)
theorem law_Calculus (p q : List RQ) (r : RQ) (n : Int) (hp : WR p) (hq : WR q) (hr1 : Words r.1.2) (hr2 : Words r.2.2) (hn : n < 9223372036854775808) : FnP Tryz.prog tb F_law03_QpolyCalculus [encRs p, encRs q, encR r, .i .i64 n] (.b true) := by
 refine fn1 Tryz.func5 fun G hG hK hF => ?_
 refine sx 5 ?_
 rcases bool3 (fewB p 6 2) (fewB q 6 2) (decide (fewR r 2) && isR r) with h1 | ⟨h1, h2⟩ | ⟨h1, h2, h3⟩ | ⟨h1, h2, h3⟩
 ·refine sx 2 ?_
  refine oq (.callR (yb := asc (.inl rfl) as2) (yc := few_F p hp 6 2 (by decide) (by decide) h1)) ?_
  refine sx 12 ?_
  refine wp_cT rfl (by rfl) ?_
  refine sx 6 ?_
  exact ⟨.inr rfl, rfl, (by (refine res_t rfl ?_); (rfl)), trivial⟩
 ·obtain ⟨p, rfl, hpl, hpB⟩ := few_pol hp h1 (by decide)
  rw [encRs_raw]
  refine sx 6 ?_
  refine gq (.callR (yb := asc (.inl rfl) as2) (yc := few_F q hq 6 2 (by decide) (by decide) h2)) ?_
  refine sx 8 ?_
  refine wp_cT rfl (by rfl) ?_
  refine sx 6 ?_
  exact ⟨.inr rfl, rfl, (by (refine res_t rfl ?_); (rfl)), trivial⟩
 ·obtain ⟨p, rfl, hpl, hpB⟩ := few_pol hp h1 (by decide)
  obtain ⟨q, rfl, hql, hqB⟩ := few_pol hq h2 (by decide)
  rw [encRs_raw, encRs_raw]
  refine sx 11 ?_
  refine gq (.callR (yb := asc (.inl rfl) as1) (yc := small_F r hr1 hr2 2 (by decide) h3)) ?_
  refine sx 3 ?_
  refine wp_cT rfl (by rfl) ?_
  refine sx 6 ?_
  exact ⟨.inr rfl, rfl, (by (refine res_t rfl ?_); (rfl)), trivial⟩
 ·obtain ⟨p, rfl, hpl, hpB⟩ := few_pol hp h1 (by decide)
  obtain ⟨q, rfl, hql, hqB⟩ := few_pol hq h2 (by decide)
  obtain ⟨r, rfl, hrB⟩ := small_rat hr1 hr2 h3
  rw [encRs_raw, encRs_raw, encR_raw]
  have hpc : p.len = p.c.length := rfl
  have hpC : CDB 29 p := hpB.cdb.le (by omega)
  have hqC : CDB 29 q := hqB.cdb.le (by omega)
  have hpq : p.len * q.len + 1 ≤ 50 := by have := Nat.mul_le_mul hpl hql; omega
  have hcs : 1 + 50 * (p.len * (29 + 2 + 50 + 2) + 2 * 29 + 2) ≤ 274877906944 := by omega
  refine sx 11 ?_
  refine gq (.callR (yb := asc (.inl rfl) as1) (yc := small_T r 2 (by decide) h3)) ?_
  refine sx 3 ?_
  refine wp_cF rfl (by rfl) ?_
  refine sx 5 ?_
  refine oq (.callR (yb := asc (.inl rfl) as1) (yc := qpoly_Compose p q (comp_fit hpl hql) hpB hqC hpq hcs)) ?_
  refine sx 9 ?_
  refine oq (.callR (yb := asc (.inl rfl) as1) (yc := ref03_Compose p q (comp_fit hpl hql) hpB hqC hpq hcs)) ?_
  refine sx 20 ?_
  refine wd_gq rfl rfl rfl (by rfl) rfl rfl rfl (.callR (yb := asc (.inl rfl) as1) (yc := qpoly_Eval p r hpB hrB (by omega))) ?_
  refine sx 2 ?_
  refine wd_gq rfl rfl rfl (by rfl) rfl rfl rfl (.callR (yb := asc (.inl rfl) as1) (yc := ref03_Eval p r hpB hrB (by omega))) ?_
  refine sx 5 ?_
  refine wd_gq rfl rfl rfl (by rfl) rfl rfl rfl (.callR (yb := as1) (yc := qpoly_Deriv p (hpB.le (by decide)))) ?_
  refine sx 1 ?_
  refine wd_gq rfl rfl rfl (by rfl) rfl rfl rfl (.callR (yb := as1) (yc := ref03_Deriv p (hpB.le (by decide)))) ?_
  refine sx 5 ?_
  refine wd_gq rfl rfl rfl (by rfl) rfl rfl rfl (.callR (yb := as1) (yc := qpoly_Integral p (by omega) (hpB.le (by decide)))) ?_
  refine sx 1 ?_
  refine wd_gq rfl rfl rfl (by rfl) rfl rfl rfl (.callR (yb := as1) (yc := ref03_Integral p (by omega) (hpB.le (by decide)))) ?_
  refine sx 4 ?_
  refine wp_cF rfl (by rfl) ?_
  refine sx 3 ?_
  rcases (show ¬ (p.c.length : Int) > 0 ∨ ((p.c.length : Int) > 0 ∧ ¬ n > (30 : Int).tdiv p.c.length) ∨ ((p.c.length : Int) > 0 ∧ n > (30 : Int).tdiv p.c.length) by by_cases a : (p.c.length : Int) > 0; (by_cases b : n > (30 : Int).tdiv p.c.length; exact .inr (.inr ⟨a, b⟩); exact .inr (.inl ⟨a, b⟩)); exact .inl a) with g1 | ⟨g1, g2⟩ | ⟨g1, g2⟩
  ·refine sx 10 ?_
   refine oq (.pickF rfl (by exact gtS g1) rfl) ?_
   refine sx 8 ?_
   refine wp_cF rfl (by rfl) ?_
   refine sx 37 ?_
   exact ⟨.inr rfl, rfl, (by (refine res_t rfl ?_); (exact trb (by simp))), trivial⟩
  ·refine sx 17 ?_
   refine oq (.pickF rfl (by exact gtS g2) rfl) ?_
   refine sx 1 ?_
   refine wp_cF rfl (by rfl) ?_
   refine sx 37 ?_
   exact ⟨.inr rfl, rfl, (by (refine res_t rfl ?_); (exact trb (by simp))), trivial⟩
  ·refine sx 15 ?_
   refine gq (z := by exact gtT g2) (.quoR (yc := by exact Int.ne_of_gt g1) (yd := by exact wrap_i64 (quo_fit 4000 _ (by omega) (by omega)))) ?_
   refine sx 1 ?_
   refine oq (.pickT rfl (by exact gtT g2) rfl) ?_
   refine sx 1 ?_
   refine wp_c rfl (fun hc => ?_) (fun hc => ?_)
   ·refine sx 6 ?_
    exact ⟨.inr rfl, rfl, (by (refine res_t rfl ?_); (rfl)), trivial⟩
   ·refine sx 37 ?_
    exact ⟨.inr rfl, rfl, (by (refine res_t rfl ?_); (exact trb (by simp))), trivial⟩
section
variable {H : Type} {enc : TypeId × Value → H} {w : World} {base : Nat} {sp : Nat → Bool} {held : Bool}
theorem ul4 : Tryz.prog.underlying 4 = some .bool := by kernel_rfl
theorem ul97 : Tryz.prog.underlying 97 = some (.int .u32) := by kernel_rfl
theorem ul23 : Tryz.prog.underlying 23 = some (.slice 97) := by kernel_rfl
theorem ul22 : Tryz.prog.underlying 22 = some (.slice 27) := by kernel_rfl
theorem ul25 : (match Tryz.prog.underlying 25 with | some (.struct fields) => some (fields.toList.map fun f => (f.type, f.offset)) | _ => none) = some [(4, 0), (23, 1)] := by kernel_rfl
theorem ul27 : (match Tryz.prog.underlying 27 with | some (.struct fields) => some (fields.toList.map fun f => (f.type, f.offset)) | _ => none) = some [(25, 0), (25, 2)] := by kernel_rfl
theorem ce97 : Tryz.prog.cellsOf 97 = 1 := by kernel_rfl
theorem ce27 : Tryz.prog.cellsOf 27 = 4 := by kernel_rfl
theorem by97 : byOf tb 97 = Tryz.prog.bytesOf 97 := by kernel_rfl
theorem by27 : byOf tb 27 = Tryz.prog.bytesOf 27 := by kernel_rfl
def one1 (l : List Tr) : Tr := l.headD (.b false)
def FitW (l : List Tr) : Prop := ∃ ws, l = [.sl T_uint32 (wds ws)] ∧ Words ws
theorem reads_W : Reads H enc Tryz.prog tb w base sp held 23 FitW := by
 intro n cs x h hw
 obtain ⟨l, h1, ts, rfl, h2⟩ := reads_slice one1 (fun l ⟨z, hz, _⟩ => by subst hz; rfl) ul23 ce97 (by decide) (by kernel_rfl) by97 (reads_int ul97) n cs x h hw
 refine ⟨_, h1, ts.map (fun l => match one1 l with | .i _ z => z.toNat | _ => 0), ?_, ?_⟩
 ·congr 2
  rw [wds, List.map_map]
  refine List.map_congr_left fun l hl => ?_
  obtain ⟨z, rfl, hz⟩ := h2 l hl
  have hz2 : 0 ≤ z := by simp only [Lit.wf, Bool.and_eq_true, decide_eq_true_eq] at hz; exact hz.1
  show Tr.i .u32 z = Tr.i .u32 ((z.toNat : Nat) : Int)
  rw [Int.toNat_of_nonneg hz2]
 ·intro y hy
  obtain ⟨l, hl, rfl⟩ := List.mem_map.1 hy
  obtain ⟨z, rfl, hz⟩ := h2 l hl
  have hz2 : 0 ≤ z ∧ z < 4294967296 := by
   simp only [Lit.wf, Bool.and_eq_true, decide_eq_true_eq] at hz
   exact ⟨hz.1, by have h9 : z ≤ 4294967295 := hz.2; omega⟩
  show z.toNat < 4294967296
  omega
def FitI (l : List Tr) : Prop := ∃ n ws, l = [.b n, .sl T_uint32 (wds ws)] ∧ Words ws
theorem reads_I : Reads H enc Tryz.prog tb w base sp held 25 FitI := by
 intro n cs x h hw
 obtain ⟨l, h1, l0, l1, rfl, ⟨b, rfl⟩, ws, rfl, h2⟩ := reads_pair ul25 (by kernel_rfl) (by kernel_rfl) (reads_bool ul4) reads_W n cs x h hw
 exact ⟨_, h1, b, ws, rfl, h2⟩
def FitQ (l : List Tr) : Prop := ∃ r : RQ, Tr.ag l = encR r ∧ Words r.1.2 ∧ Words r.2.2
theorem reads_Q : Reads H enc Tryz.prog tb w base sp held 27 FitQ := by
 intro n cs x h hw
 obtain ⟨l, h1, l0, l1, rfl, ⟨n1, w1, rfl, k1⟩, n2, w2, rfl, k2⟩ := reads_pair ul27 (by kernel_rfl) (by kernel_rfl) reads_I reads_I n cs x h hw
 exact ⟨_, h1, ((n1, w1), (n2, w2)), rfl, k1, k2⟩
def FitL (l : List Tr) : Prop := ∃ rs : List RQ, l = [encRs rs] ∧ WR rs
theorem reads_L : Reads H enc Tryz.prog tb w base sp held 22 FitL := by
 intro n cs x h hw
 obtain ⟨l, h1, ts, rfl, h2⟩ := reads_slice Tr.ag (fun l _ => rfl) ul22 ce27 (by decide) (by kernel_rfl) by27 reads_Q n cs x h hw
 have : ∃ rs : List RQ, ts.map Tr.ag = rs.map encR ∧ WR rs := by
  clear h1 h hw
  induction ts with
  | nil => exact ⟨[], rfl, fun r hr => by simp at hr⟩
  | cons l ts ih =>
   obtain ⟨rs, e1, e2⟩ := ih fun x hx => h2 x (List.mem_cons_of_mem _ hx)
   obtain ⟨r, e3, e4⟩ := h2 l (List.mem_cons_self ..)
   refine ⟨r :: rs, by rw [List.map_cons, List.map_cons, e1, e3], fun y hy => ?_⟩
   rcases List.mem_cons.1 hy with rfl | hy
   ·exact e4
   ·exact e2 y hy
 obtain ⟨rs, e1, e2⟩ := this
 exact ⟨_, h1, rs, by rw [e1]; rfl, e2⟩
theorem ul3 : Tryz.prog.underlying 3 = some (.int .i64) := by kernel_rfl
theorem readsV_L : ReadsV H enc Tryz.prog tb 22 (fun x => ∃ rs : List RQ, x = encRs rs ∧ WR rs) := by
 intro w base v d ps h1 h2 h3
 obtain ⟨x, h4, rs, h5, h6⟩ := readsV_slice (tb := tb) ul22 (fun w => reads_L) w base v d ps h1 h2 h3
 injection h5 with h5
 exact ⟨x, h4, rs, h5, h6⟩
theorem readsV_Q : ReadsV H enc Tryz.prog tb 27 (fun x => ∃ r : RQ, x = encR r ∧ Words r.1.2 ∧ Words r.2.2) := by
 intro w base v d ps h1 h2 h3
 obtain ⟨x, h4, l, rfl, r, h5, h6, h7⟩ := readsV_struct (tb := tb) (by kernel_rfl) (fun w => reads_Q) w base v d ps h1 h2 h3
 exact ⟨_, h4, r, h5, h6, h7⟩
end
theorem own1 : ownKnob Tryz.checked.prog.godebug = none := by kernel_rfl
theorem kids1 : Kids Tryz.prog (· < Tryz.prog.types.size) := kids_rows (by kernel_rfl) (by kernel_rfl)
theorem full1 : ∀ t e, t < Tryz.prog.types.size → Tryz.prog.underlying t = some (.slice e) → 0 < Tryz.prog.cellsOf e := slices_full_of _ (by kernel_rfl)
end Go.Proofs.YtacenhlcfeepgaaGreat
