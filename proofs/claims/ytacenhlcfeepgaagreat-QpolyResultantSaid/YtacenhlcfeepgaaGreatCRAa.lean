/- The law is true whatever its arguments are, and these read behind the call as they read before (the row RA: what it needs beyond the files A; No conditions). -/
import Derived.Test.YtacenhlcfeepgaaGreatA6
import Derived.KernelRfl
set_option linter.unusedVariables false
set_option linter.unusedSimpArgs false
set_option linter.unusedSectionVars false
set_option maxHeartbeats 4000000
set_option maxRecDepth 100000
namespace Go.Proofs.YtacenhlcfeepgaaGreat
open Go Eng
namespace Eng
end Eng
abbrev F_law03_QpolyResultant : Nat := 6
abbrev F_ref03_Resultant : Nat := 51
abbrev F_ref02_Neg : Nat := 52
abbrev F_ref03_det : Nat := 105
abbrev F_ref02_Sub : Nat := 153
end Go.Proofs.YtacenhlcfeepgaaGreat
namespace Go.Proofs.YtacenhlcfeepgaaGreat
open Go Eng
theorem Bq.sub {i j : Nat} {p q : Rat} (hp : Bq i p) (hq : Bq j q) : Bq (i + j + 1) (p - q) := by
 rw [Rat.sub_eq_add_neg]; exact hp.add hq.neg
end Go.Proofs.YtacenhlcfeepgaaGreat
namespace Go.Proofs.YtacenhlcfeepgaaGreat
namespace Poly
section
variable {R : Type} [CRing R] [DecidableEq R]
theorem len_neg (p : Poly R) : (-p).len ≤ p.len := len_le fun i hi => by rw [co_neg, co_ge hi]; grind
end
section
variable {F : Type} [Fld F] [DecidableEq F]
theorem monic_ne {p : Poly F} (h : p ≠ 0) : monic p ≠ 0 := mul_ne (cst_ne (finv_ne (lead_ne h))) h
end
end Poly
end Go.Proofs.YtacenhlcfeepgaaGreat
namespace Go.Proofs.YtacenhlcfeepgaaGreat
theorem pigeon : ∀ (m n : Nat) (f : Nat → Nat), (∀ i, i < n → f i < m) → m < n → ∃ i j, i < j ∧ j < n ∧ f i = f j
 | 0, n, f, h, hn => by have := h 0 (by omega); omega
 | m + 1, n, f, h, hn => by
  obtain ⟨r, hr⟩ : ∃ r, n = r + 1 := ⟨n - 1, by omega⟩
  subst hr
  by_cases hex : ∃ i, i < r ∧ f i = f r
  ·obtain ⟨i, h1, h2⟩ := hex
   exact ⟨i, r, h1, by omega, h2⟩
  ·have hne : ∀ i, i < r → f i ≠ f r := fun i hi e => hex ⟨i, hi, e⟩
   have hl := h r (by omega)
   obtain ⟨i, j, h1, h2, h3⟩ := pigeon m r (fun i => if f r < f i then f i - 1 else f i) (fun i hi => by
    have h4 := h i (by omega)
    have h5 := hne i hi
    show (if f r < f i then f i - 1 else f i) < m
    split <;> omega) (by omega)
   refine ⟨i, j, h1, by omega, ?_⟩
   have h4 := hne i (by omega)
   have h5 := hne j h2
   split at h3 <;> split at h3 <;> omega
def encB (b : Nat) : Nat → (Nat → Nat) → Nat
 | 0, _ => 0
 | M + 1, y => y 0 + b * encB b M fun k => y (k + 1)
theorem encB_lt {b : Nat} (hb : 0 < b) : ∀ (M : Nat) (y : Nat → Nat), (∀ k, k < M → y k < b) → encB b M y < b ^ M
 | 0, y, _ => by simp [encB]
 | M + 1, y, h => by
  have h1 := encB_lt hb M (fun k => y (k + 1)) (fun k hk => h (k + 1) (by omega))
  have h2 := h 0 (by omega)
  rw [encB, Nat.pow_succ, Nat.mul_comm (b ^ M) b]
  have h3 : b * (encB b M (fun k => y (k + 1)) + 1) ≤ b * b ^ M := Nat.mul_le_mul_left b h1
  rw [Nat.mul_add] at h3
  omega
theorem encB_inj {b : Nat} : ∀ (M : Nat) (y z : Nat → Nat), (∀ k, k < M → y k < b) → (∀ k, k < M → z k < b) → encB b M y = encB b M z → ∀ k, k < M → y k = z k
 | 0, _, _, _, _, _, k, hk => by omega
 | M + 1, y, z, hy, hz, he, k, hk => by
  rw [encB, encB] at he
  have h1 := hy 0 (by omega)
  have h2 := hz 0 (by omega)
  have e1 := congrArg (· % b) he
  simp only [Nat.add_mul_mod_self_left, Nat.mod_eq_of_lt h1, Nat.mod_eq_of_lt h2] at e1
  cases k with
  | zero => exact e1
  | succ k =>
   rw [e1] at he
   have e2 := Nat.eq_of_mul_eq_mul_left (show 0 < b by omega) (Nat.add_left_cancel he)
   exact encB_inj M _ _ (fun k hk => hy (k + 1) (by omega)) (fun k hk => hz (k + 1) (by omega)) e2 k (by omega)
def digB (b c i : Nat) : Nat := c / b ^ i % b
theorem digB_succ (b c i : Nat) : digB b (c / b) i = digB b c (i + 1) := by
 rw [digB, digB, Nat.div_div_eq_div_mul, Nat.pow_succ, Nat.mul_comm b]
theorem digB_inj {b : Nat} (hb : 0 < b) : ∀ (N c d : Nat), c < b ^ N → d < b ^ N → (∀ i, i < N → digB b c i = digB b d i) → c = d
 | 0, c, d, h1, h2, _ => by simp at h1 h2; omega
 | N + 1, c, d, h1, h2, h => by
  have h0 := h 0 (by omega)
  rw [digB, digB, Nat.pow_zero, Nat.div_one, Nat.div_one] at h0
  have h3 := digB_inj hb N (c / b) (d / b) (by rw [Nat.div_lt_iff_lt_mul hb, ← Nat.pow_succ]; exact h1) (by rw [Nat.div_lt_iff_lt_mul hb, ← Nat.pow_succ]; exact h2) fun i hi => by
   rw [digB_succ, digB_succ]; exact h (i + 1) (by omega)
  rw [← Nat.div_add_mod c b, ← Nat.div_add_mod d b, h0, h3]
def sumI : Nat → (Nat → Int) → Int
 | 0, _ => 0
 | n + 1, f => sumI n f + f n
theorem sumI_sub (f g : Nat → Int) : ∀ n, sumI n (fun i => f i - g i) = sumI n f - sumI n g
 | 0 => rfl
 | n + 1 => by rw [sumI, sumI, sumI, sumI_sub f g n]; omega
theorem sumI_congr {f g : Nat → Int} : ∀ n, (∀ i, i < n → f i = g i) → sumI n f = sumI n g
 | 0, _ => rfl
 | n + 1, h => by rw [sumI, sumI, sumI_congr n (fun i hi => h i (by omega)), h n (by omega)]
theorem sumI_abs {f : Nat → Int} {C : Nat} : ∀ n, (∀ i, i < n → (f i).natAbs ≤ C) → (sumI n f).natAbs ≤ n * C
 | 0, _ => by simp [sumI]
 | n + 1, h => by
  have h1 := sumI_abs n (fun i hi => h i (by omega))
  have h2 := h n (by omega)
  rw [sumI, Nat.succ_mul]
  omega
theorem siegel {N M B : Nat} (A : Nat → Nat → Int) (hM : M < N) (hA : ∀ k i, (A k i).natAbs ≤ B) :
  ∃ x : Nat → Int, (∃ i, i < N ∧ x i ≠ 0) ∧ (∀ i, (x i).natAbs ≤ (2 * (N * B) + 1) ^ M) ∧ ∀ k, k < M → sumI N (fun i => A k i * x i) = 0 := by
 obtain ⟨H, hH⟩ : ∃ H, H = (2 * (N * B) + 1) ^ M := ⟨_, rfl⟩
 have hH1 : 1 ≤ H := by rw [hH]; exact Nat.one_le_pow _ _ (by omega)
 obtain ⟨T, hT⟩ : ∃ T, T = N * (B * H) := ⟨_, rfl⟩
 let v : Nat → Nat → Int := fun c k => sumI N fun i => A k i * (digB (H + 1) c i : Nat)
 have hd : ∀ c i, digB (H + 1) c i ≤ H := fun c i => by
  have := Nat.mod_lt (c / (H + 1) ^ i) (show H + 1 > 0 by omega)
  show c / (H + 1) ^ i % (H + 1) ≤ H
  omega
 have hv : ∀ c k, (v c k).natAbs ≤ T := fun c k => by
  rw [hT]
  refine sumI_abs N fun i _ => ?_
  rw [Int.natAbs_mul, Int.natAbs_natCast]
  exact Nat.mul_le_mul (hA k i) (hd c i)
 have hcount : (2 * T + 1) ^ M < (H + 1) ^ N := by
  have h1 : 2 * T + 1 ≤ (2 * (N * B) + 1) * H := by
   rw [hT, Nat.add_mul, ← Nat.mul_assoc N B H, Nat.mul_assoc 2 (N * B) H]; omega
  have h2 := Nat.pow_le_pow_left h1 M
  rw [Nat.mul_pow, ← hH] at h2
  have h3 : H * H ^ M = H ^ (M + 1) := by rw [Nat.pow_succ, Nat.mul_comm]
  rw [h3] at h2
  have h4 : H ^ (M + 1) ≤ H ^ N := Nat.pow_le_pow_right hH1 hM
  have h5 : H ^ N < (H + 1) ^ N := Nat.pow_lt_pow_left (by omega) (by omega)
  omega
 obtain ⟨c, d, h1, h2, h3⟩ := pigeon ((2 * T + 1) ^ M) ((H + 1) ^ N) (fun c => encB (2 * T + 1) M fun k => (v c k + T).toNat) (fun c _ => encB_lt (by omega) M _ fun k _ => by have := hv c k; omega) hcount
 have h4 := encB_inj M _ _ (fun k _ => by have := hv c k; omega) (fun k _ => by have := hv d k; omega) h3
 refine ⟨fun i => (digB (H + 1) c i : Int) - (digB (H + 1) d i : Int), ?_, fun i => ?_, fun k hk => ?_⟩
 ·apply Classical.byContradiction
  intro hn
  have := digB_inj (b := H + 1) (by omega) N c d (by omega) h2 fun i hi => by
   apply Classical.byContradiction
   intro hne
   exact hn ⟨i, hi, show (digB (H + 1) c i : Int) - (digB (H + 1) d i : Int) ≠ 0 by omega⟩
  omega
 ·have := hd c i
  have := hd d i
  rw [← hH]
  show ((digB (H + 1) c i : Int) - (digB (H + 1) d i : Int)).natAbs ≤ H
  omega
 ·have h5 := h4 k hk
  have h6 := hv c k
  have h7 := hv d k
  have h8 : v c k = v d k := by omega
  have h9 := sumI_sub (fun i => A k i * (digB (H + 1) c i : Nat)) (fun i => A k i * (digB (H + 1) d i : Nat)) N
  have h10 : sumI N (fun i => A k i * (digB (H + 1) c i : Nat)) = v c k := rfl
  have h11 : sumI N (fun i => A k i * (digB (H + 1) d i : Nat)) = v d k := rfl
  rw [h10, h11, h8, Int.sub_self] at h9
  rw [← h9]
  exact sumI_congr N fun i _ => by rw [Int.mul_sub]
end Go.Proofs.YtacenhlcfeepgaaGreat
namespace Go.Proofs.YtacenhlcfeepgaaGreat
open Go Eng
theorem ref02_Neg (p : Rat) : FnP Tryz.prog tb F_ref02_Neg [encQ p] (encQ (-p)) := by
 refine fn1 Tryz.func52 fun G hG hK hF => ?_
 refine sx 7 ?_
 refine dq (.callR (yb := as1) (yc := ref01_Neg p.num)) ?_
 refine sx 6 ?_
 exact ⟨.inr rfl, rfl, (by (refine res_c rfl rfl rfl rfl rfl ?_); (rfl)), trivial⟩
theorem ref02_Sub (p q : Rat) (hp16 : Bq 274877906944 p := by first | assumption | (apply Bq.le; (focus (repeat' (first | assumption | apply Bq.mul | apply Bq.add | apply Bq.sub | apply Bq.neg | apply Bq.div | apply Bq.inv | exact Bq.zero | exact Bq.one | exact Bq.small (by omega)))); omega)) (hq16 : Bq 274877906944 q := by first | assumption | (apply Bq.le; (focus (repeat' (first | assumption | apply Bq.mul | apply Bq.add | apply Bq.sub | apply Bq.neg | apply Bq.div | apply Bq.inv | exact Bq.zero | exact Bq.one | exact Bq.small (by omega)))); omega)) : FnP Tryz.prog tb F_ref02_Sub [encQ p, encQ q] (encQ (p - q)) := by
 refine fn1 Tryz.func153 fun G hG hK hF => ?_
 refine sx 8 ?_
 refine dq (.callR (yb := as1) (yc := ref02_Neg q)) ?_
 refine dq (.callR (yb := asc (.inl rfl) as1) (yc := ref02_Add p (-q))) ?_
 refine sx 3 ?_
 exact ⟨.inr rfl, rfl, (by (refine res_c rfl rfl rfl rfl rfl ?_); (rw [Rat.sub_eq_add_neg])), trivial⟩
end Go.Proofs.YtacenhlcfeepgaaGreat
namespace Go.Proofs.YtacenhlcfeepgaaGreat
open Go Eng
theorem qpoly_Resultant0 (p q : Pol) (h : p = 0 ∨ q = 0) : FnP Tryz.prog tb F_qpoly_Resultant [encP p, encP q] (encQ 0) := by
 refine fnP_M1 tbOk Tryz.func50 rfl rfl (Nat.le_of_ble_eq_true rfl) fun G hG hK => ?_
 have hF : Wd Fence.wide := .inl rfl
 refine sx 4 ?_
 by_cases hp : p = 0
 ·refine sx 8 ?_
  refine oq (.pickT rfl (by (rw [pol_nil.2 hp]; rfl)) rfl) ?_
  refine sx 1 ?_
  refine wp_cT rfl (by rfl) ?_
  refine sx 6 ?_
  exact ⟨.inr rfl, (by (refine res_c rfl rfl rfl rfl rfl ?_); (rfl)), trivial⟩
 ·refine sx 8 ?_
  refine oq (.pickF rfl (by (have := mt pol_nil.1 hp; simp [this]; done)) rfl) ?_
  refine sx 1 ?_
  refine wp_cT rfl (by (have hq := pol_nil.2 (h.resolve_left hp)); rw [hq]; rfl) ?_
  refine sx 6 ?_
  exact ⟨.inr rfl, (by (refine res_c rfl rfl rfl rfl rfl ?_); (rfl)), trivial⟩
end Go.Proofs.YtacenhlcfeepgaaGreat
namespace Go.Proofs.YtacenhlcfeepgaaGreat
open Go Eng
def Cop (p q : Pol) : Prop := ∃ s t, s * p + t * q = 1
theorem Cop.dvd {p q x : Pol} (h : Cop p q) (k : p ∣ q * x) : p ∣ x := by
 obtain ⟨s, t, h⟩ := h
 obtain ⟨r, hr⟩ := k
 refine ⟨s * x + t * r, ?_⟩
 have : x = (s * p + t * q) * x := by rw [h]; grind
 rw [this]; grind
end Go.Proofs.YtacenhlcfeepgaaGreat
namespace Go.Proofs.YtacenhlcfeepgaaGreat
open Go Eng
def UP (x : Nat → Int) : Nat → Pol
 | 0 => 0
 | m + 1 => UP x m + Poly.mono (x m : Rat) m
theorem UP_co (x : Nat → Int) (i : Nat) : ∀ m, (UP x m).co i = if i < m then (x i : Rat) else 0
 | 0 => by rw [UP, Poly.co_zero, if_neg (by omega)]
 | m + 1 => by
  rw [UP, Poly.co_add, UP_co x i m, Poly.co_mono]
  by_cases h1 : i < m
  ·rw [if_pos h1, if_neg (by omega), if_pos (by omega)]; grind
  ·by_cases h2 : i = m
   ·subst h2; rw [if_neg (by omega), if_pos rfl, if_pos (by omega)]; grind
   ·rw [if_neg h1, if_neg h2, if_neg (by omega)]; grind
theorem UP_len (x : Nat → Int) (m : Nat) : (UP x m).len ≤ m := Poly.len_le fun i hi => by rw [UP_co, if_neg (by omega)]
theorem cast_sum (f : Nat → Int) (m : Nat) : ((sumI (m + 1) f : Int) : Rat) = ((sumI m f : Int) : Rat) + ((f m : Int) : Rat) := by rw [sumI, Rat.intCast_add]
theorem UP_mul (x α : Nat → Int) {a : Pol} (ha : ∀ i, a.co i = (α i : Rat)) (i : Nat) : ∀ m, (UP x m * a).co i = ((sumI m fun j => if i < j then 0 else x j * α (i - j) : Int) : Rat)
 | 0 => by rw [UP, Poly.zero_mul', Poly.co_zero]; rfl
 | m + 1 => by
  rw [UP, show (UP x m + Poly.mono (x m : Rat) m) * a = UP x m * a + Poly.mono (x m : Rat) m * a by grind, Poly.co_add, UP_mul x α ha i m, Poly.co_mono_mul, cast_sum]
  congr 1
  split
  ·rfl
  ·rw [ha, Rat.intCast_mul]
theorem sumI_add (f : Nat → Int) (m : Nat) : ∀ n, sumI (m + n) f = sumI m f + sumI n fun i => f (m + i)
 | 0 => by simp [sumI]
 | n + 1 => by rw [← Nat.add_assoc, sumI, sumI, sumI_add f m n]; omega
theorem small_comb {a b : Pol} {α β : Nat → Int} {B m n d M : Nat} (ha : ∀ i, a.co i = (α i : Rat)) (hb : ∀ i, b.co i = (β i : Rat)) (hαB : ∀ i, (α i).natAbs ≤ B) (hβB : ∀ i, (β i).natAbs ≤ B)
  (h1 : m + a.len ≤ d + M + 1) (h2 : n + b.len ≤ d + M + 1) (hM : M < m + n) :
  ∃ x y : Nat → Int, (∀ i, (x i).natAbs ≤ (2 * ((m + n) * B) + 1) ^ M) ∧ (∀ i, (y i).natAbs ≤ (2 * ((m + n) * B) + 1) ^ M) ∧ ¬ (UP x m = 0 ∧ UP y n = 0) ∧ (UP x m * a + UP y n * b).len ≤ d := by
 obtain ⟨z, ⟨i0, hi0, hz0⟩, hz, hs⟩ := siegel (N := m + n) (M := M) (B := B) (fun k j => if j < m then (if d + k < j then 0 else α (d + k - j)) else (if d + k < j - m then 0 else β (d + k - (j - m)))) hM (fun k j => by
  split <;> split <;> first | exact Nat.zero_le _ | exact hαB _ | exact hβB _)
 refine ⟨z, fun i => z (m + i), hz, fun i => hz _, fun ⟨e1, e2⟩ => ?_, Poly.len_le fun i hi => ?_⟩
 ·by_cases h : i0 < m
  ·have := UP_co z i0 m
   rw [e1, Poly.co_zero, if_pos h] at this
   exact hz0 (Rat.intCast_eq_zero_iff.1 this.symm)
  ·have := UP_co (fun i => z (m + i)) (i0 - m) n
   rw [e2, Poly.co_zero, if_pos (by omega), show m + (i0 - m) = i0 by omega] at this
   exact hz0 (Rat.intCast_eq_zero_iff.1 this.symm)
 ·by_cases hk : i < d + M
  ·have h3 := hs (i - d) (by omega)
   rw [Poly.co_add, UP_mul z α ha, UP_mul _ β hb, ← Rat.intCast_add, Rat.intCast_eq_zero_iff]
   refine Eq.trans ?_ h3
   rw [sumI_add]
   congr 1
   ·refine sumI_congr m fun j hj => ?_
    rw [if_pos hj, show d + (i - d) = i by omega]
    by_cases h : i < j
    ·rw [if_pos h, if_pos h, Int.zero_mul]
    ·rw [if_neg h, if_neg h, Int.mul_comm]
   ·refine sumI_congr n fun j hj => ?_
    rw [if_neg (show ¬ m + j < m by omega), show d + (i - d) = i by omega, show m + j - m = j by omega]
    by_cases h : i < j
    ·rw [if_pos h, if_pos h, Int.zero_mul]
    ·rw [if_neg h, if_neg h, Int.mul_comm]
  ·have h4 := UP_len z m
   have h5 := UP_len (fun i => z (m + i)) n
   have h6 := Poly.len_mul_le (UP z m) a
   have h7 := Poly.len_mul_le (UP (fun i => z (m + i)) n) b
   rw [Poly.co_add, Poly.co_ge (by omega), Poly.co_ge (by omega)]; grind
end Go.Proofs.YtacenhlcfeepgaaGreat
namespace Go.Proofs.YtacenhlcfeepgaaGreat
open Go Eng
theorem pow_le2 {a b n : Nat} (h : a ≤ 2 ^ b) : a ^ n ≤ 2 ^ (b * n) := by rw [Nat.pow_mul]; exact Nat.pow_le_pow_left h n
theorem mul_le2 {a b m n : Nat} (h : a ≤ 2 ^ m) (k : b ≤ 2 ^ n) : a * b ≤ 2 ^ (m + n) := by rw [Nat.pow_add]; exact Nat.mul_le_mul h k
end Go.Proofs.YtacenhlcfeepgaaGreat
namespace Go.Proofs.YtacenhlcfeepgaaGreat
theorem rpow_add (a : Rat) (m : Nat) : ∀ n : Nat, a ^ (m + n) = a ^ m * a ^ n
 | 0 => by rw [Nat.add_zero, Rat.pow_zero, Rat.mul_one]
 | n + 1 => by rw [← Nat.add_assoc, Rat.pow_succ, Rat.pow_succ, rpow_add a m n, Rat.mul_assoc]
structure AM (f : List Pol → Rat) : Prop where
 lin : ∀ (l m : List Pol) (x y : Pol) (a : Rat), f (l ++ (x + Poly.cst a * y) :: m) = f (l ++ x :: m) + a * f (l ++ y :: m)
 alt : ∀ (l m : List Pol) (x : Pol), f (l ++ x :: x :: m) = 0
def lap (n : Nat) (f : List Pol → Rat) : List Pol → List Pol → Rat
 | _, [] => 0
 | pre, r :: rest => r.co n * f (pre ++ rest) - lap n f (pre ++ [r]) rest
def dt : Nat → List Pol → Rat
 | 0, l => if l = [] then 1 else 0
 | n + 1, l => lap n (dt n) [] l
theorem lap_pre_lin {f : List Pol → Rat} (h : AM f) (n : Nat) : ∀ (r p1 p2 : List Pol) (x y : Pol) (a : Rat), lap n f (p1 ++ (x + Poly.cst a * y) :: p2) r = lap n f (p1 ++ x :: p2) r + a * lap n f (p1 ++ y :: p2) r
 | [], p1, p2, x, y, a => by simp only [lap]; grind
 | c :: r, p1, p2, x, y, a => by
  have h1 := lap_pre_lin h n r p1 (p2 ++ [c]) x y a
  have h2 := h.lin p1 (p2 ++ r) x y a
  simp only [lap, List.append_assoc, List.cons_append] at *
  rw [h1, h2]; grind
theorem lap_pre_alt {f : List Pol → Rat} (h : AM f) (n : Nat) : ∀ (r p1 p2 : List Pol) (x : Pol), lap n f (p1 ++ x :: x :: p2) r = 0
 | [], p1, p2, x => rfl
 | c :: r, p1, p2, x => by
  have h1 := lap_pre_alt h n r p1 (p2 ++ [c]) x
  have h2 := h.alt p1 (p2 ++ r) x
  simp only [lap, List.append_assoc, List.cons_append] at *
  rw [h1, h2]; grind
theorem lap_lin {f : List Pol → Rat} (h : AM f) (n : Nat) : ∀ (l pre m : List Pol) (x y : Pol) (a : Rat), lap n f pre (l ++ (x + Poly.cst a * y) :: m) = lap n f pre (l ++ x :: m) + a * lap n f pre (l ++ y :: m)
 | [], pre, m, x, y, a => by
  have h1 := lap_pre_lin h n m pre [] x y a
  simp only [lap, List.nil_append] at *
  rw [h1, Poly.co_add, Poly.cst_mul]; grind
 | c :: l, pre, m, x, y, a => by
  have h1 := lap_lin h n l (pre ++ [c]) m x y a
  have h2 := h.lin (pre ++ l) m x y a
  simp only [lap, List.append_assoc, List.cons_append] at *
  rw [h1, h2]; grind
theorem lap_alt {f : List Pol → Rat} (h : AM f) (n : Nat) : ∀ (l pre m : List Pol) (x : Pol), lap n f pre (l ++ x :: x :: m) = 0
 | [], pre, m, x => by
  have h1 := lap_pre_alt h n m pre [] x
  simp only [lap, List.nil_append, List.append_assoc, List.cons_append] at *
  rw [h1]; grind
 | c :: l, pre, m, x => by
  have h1 := lap_alt h n l (pre ++ [c]) m x
  have h2 := h.alt (pre ++ l) m x
  simp only [lap, List.append_assoc, List.cons_append] at *
  rw [h1, h2]; grind
theorem dt_am : ∀ n, AM (dt n)
 | 0 => ⟨fun l m x y a => by simp [dt]; grind, fun l m x => by simp [dt]⟩
 | n + 1 => ⟨fun l m x y a => lap_lin (dt_am n) n l [] m x y a, fun l m x => lap_alt (dt_am n) n l [] m x⟩
theorem lap_zero (n : Nat) (f : List Pol → Rat) : ∀ (l pre : List Pol), (∀ r, r ∈ l → r.co n = 0) → lap n f pre l = 0
 | [], _, _ => rfl
 | r :: l, pre, h => by
  rw [lap, lap_zero n f l _ (fun x hx => h x (List.mem_cons_of_mem _ hx)), h r (List.mem_cons_self ..)]; grind
theorem dt_top {n : Nat} {x : Pol} {l : List Pol} (h : ∀ r, r ∈ l → r.co n = 0) : dt (n + 1) (x :: l) = x.co n * dt n l := by
 rw [dt, lap, lap_zero n _ l _ h, List.nil_append]; grind
theorem dt_none {n : Nat} {l : List Pol} (h : ∀ r, r ∈ l → r.co n = 0) : dt (n + 1) l = 0 := lap_zero n _ l _ h
namespace AM
variable {f : List Pol → Rat}
theorem add (h : AM f) (l m : List Pol) (x y : Pol) : f (l ++ (x + y) :: m) = f (l ++ x :: m) + f (l ++ y :: m) := by
 have h1 := h.lin l m x y 1
 rw [show Poly.cst (1 : Rat) * y = y from Poly.one_mul' y] at h1
 rw [h1]; grind
theorem zero (h : AM f) (l m : List Pol) : f (l ++ 0 :: m) = 0 := by
 have h1 := h.add l m 0 0
 rw [show (0 : Pol) + 0 = 0 by grind] at h1
 grind
theorem scale (h : AM f) (l m : List Pol) (y : Pol) (a : Rat) : f (l ++ (Poly.cst a * y) :: m) = a * f (l ++ y :: m) := by
 have h1 := h.lin l m 0 y a
 rw [h.zero, show (0 : Pol) + Poly.cst a * y = Poly.cst a * y by grind] at h1
 rw [h1]; grind
theorem swap1 (h : AM f) (l m : List Pol) (x y : Pol) : f (l ++ x :: y :: m) = - f (l ++ y :: x :: m) := by
 have h1 := h.alt l m (x + y)
 rw [h.add l _ x y] at h1
 have h2 := h.add (l ++ [x]) m x y
 have h3 := h.add (l ++ [y]) m x y
 simp only [List.append_assoc, List.cons_append, List.nil_append] at h2 h3
 rw [h2, h3, h.alt, h.alt] at h1
 grind
theorem head (h : AM f) (x : List Pol) : AM fun l => f (x ++ l) := ⟨fun l m y z a => by
 have := h.lin (x ++ l) m y z a
 simp only [List.append_assoc] at this; exact this, fun l m y => by
 have := h.alt (x ++ l) m y
 simp only [List.append_assoc] at this; exact this⟩
theorem move (h : AM f) : ∀ (k l m : List Pol) (x : Pol), f (l ++ x :: (k ++ m)) = (-1) ^ k.length * f (l ++ (k ++ x :: m))
 | [], l, m, x => by simp; 
 | y :: k, l, m, x => by
  have h1 := move h k (l ++ [y]) m x
  simp only [List.append_assoc, List.cons_append, List.nil_append] at *
  rw [h.swap1, h1, List.length_cons, Rat.pow_succ]; grind
theorem same (h : AM f) (l k m : List Pol) (x : Pol) : f (l ++ x :: (k ++ x :: m)) = 0 := by
 have h1 := h.move k l (x :: m) x
 rw [h1, ]
 have h2 := h.alt (l ++ k) m x
 simp only [List.append_assoc] at h2
 rw [h2]; grind
theorem swap (h : AM f) (l k m : List Pol) (x y : Pol) : f (l ++ x :: (k ++ y :: m)) = - f (l ++ y :: (k ++ x :: m)) := by
 have h1 := h.same l k m (x + y)
 rw [h.add l _ x y] at h1
 have h2 := h.add (l ++ x :: k) m x y
 have h3 := h.add (l ++ y :: k) m x y
 simp only [List.append_assoc, List.cons_append] at h2 h3
 rw [h2, h3, h.same, h.same] at h1
 grind
theorem addr (h : AM f) (l m : List Pol) (x y : Pol) (a : Rat) (hy : y ∈ l ∨ y ∈ m) : f (l ++ (x + Poly.cst a * y) :: m) = f (l ++ x :: m) := by
 rw [h.lin]
 have : f (l ++ y :: m) = 0 := by
  rcases hy with hy | hy
  ·obtain ⟨l1, l2, rfl⟩ := List.append_of_mem hy
   have := h.same l1 l2 m y
   simp only [List.append_assoc, List.cons_append] at *; exact this
  ·obtain ⟨l1, l2, rfl⟩ := List.append_of_mem hy
   exact h.same l l1 l2 y
 rw [this]; grind
theorem addm (h : AM f) (l m : List Pol) (x q : Pol) : ∀ (c : List Rat) (k : Nat), k ≤ c.length → (∀ i, i < k → Poly.mono 1 i * q ∈ l ∨ Poly.mono 1 i * q ∈ m) → f (l ++ (x + Poly.of (c.take k) * q) :: m) = f (l ++ x :: m)
 | c, 0, _, _ => by rw [Poly.of_take_zero, Poly.zero_mul', show x + 0 = x by grind]
 | c, k + 1, hk, hm => by
  rw [Poly.of_take_succ (List.getElem?_eq_getElem (show k < c.length by omega))]
  have e : Poly.mono c[k] k = Poly.cst c[k] * Poly.mono 1 k := Poly.ext fun i => by
   rw [Poly.cst_mul, Poly.co_mono, Poly.co_mono]; split <;> grind
  rw [e, show x + (Poly.of (c.take k) + Poly.cst c[k] * Poly.mono 1 k) * q = (x + Poly.of (c.take k) * q) + Poly.cst c[k] * (Poly.mono 1 k * q) by grind, h.addr _ _ _ _ _ (hm k (by omega))]
  exact addm h l m x q c k (by omega) fun i hi => hm i (by omega)
theorem addp (h : AM f) (l m : List Pol) (x u q : Pol) (hm : ∀ i, i < u.len → Poly.mono 1 i * q ∈ l ∨ Poly.mono 1 i * q ∈ m) : f (l ++ (x + u * q) :: m) = f (l ++ x :: m) := by
 have := h.addm l m x q u.c u.len (Nat.le_refl _) hm
 rw [Poly.of_take_all (Nat.le_refl _)] at this; exact this
theorem blocks (h : AM f) : ∀ (k l m n : List Pol), f (l ++ (k ++ (m ++ n))) = (-1) ^ (k.length * m.length) * f (l ++ (m ++ (k ++ n)))
 | [], l, m, n => by simp
 | x :: k, l, m, n => by
  have h1 := blocks h k (l ++ [x]) m n
  have h2 := h.move m l (k ++ n) x
  simp only [List.append_assoc, List.cons_append, List.nil_append] at *
  rw [h1, h2, List.length_cons, Nat.succ_mul, rpow_add]; grind
end AM
def blk (p : Pol) : Nat → List Pol
 | 0 => []
 | k + 1 => Poly.mono 1 k * p :: blk p k
theorem blk_len (p : Pol) : ∀ k, (blk p k).length = k
 | 0 => rfl
 | k + 1 => by rw [blk, List.length_cons, blk_len p k]
theorem blk_mem (p : Pol) {i : Nat} : ∀ {k}, i < k → Poly.mono 1 i * p ∈ blk p k
 | 0, h => by omega
 | k + 1, h => by
  rw [blk]
  by_cases e : i = k
  ·rw [e]; exact List.mem_cons_self ..
  ·exact List.mem_cons_of_mem _ (blk_mem p (by omega))
theorem mem_blk {p x : Pol} : ∀ {k}, x ∈ blk p k → ∃ i, i < k ∧ x = Poly.mono 1 i * p
 | 0, h => by simp [blk] at h
 | k + 1, h => by
  rw [blk] at h
  rcases List.mem_cons.1 h with h | h
  ·exact ⟨k, by omega, h⟩
  ·obtain ⟨i, h1, h2⟩ := mem_blk h; exact ⟨i, by omega, h2⟩
theorem mono_len {i : Nat} (p : Pol) : (Poly.mono 1 i * p).len ≤ p.len + i := Poly.len_le fun j hj => by
 rw [Poly.co_mono_mul]
 split
 ·rfl
 ·rw [Poly.co_ge (by omega)]; grind
theorem dt_blk {p : Pol} {m : Nat} {t : List Pol} (hp : p.len = m + 1) : ∀ (k j : Nat), (∀ r, r ∈ t → r.len ≤ m + j) → dt (m + (j + k)) (blk p (j + k) ++ t) = p.lead ^ k * dt (m + j) (blk p j ++ t)
 | 0, j, _ => by simp
 | k + 1, j, ht => by
  have h1 := dt_blk hp k j ht
  rw [show m + (j + (k + 1)) = m + (j + k) + 1 by omega, show j + (k + 1) = (j + k) + 1 by omega, blk, List.cons_append, dt_top (fun r hr => by
   rcases List.mem_append.1 hr with hr | hr
   ·obtain ⟨i, hi, rfl⟩ := mem_blk hr
    exact Poly.co_ge (by have := mono_len (i := i) p; omega)
   ·exact Poly.co_ge (by have := ht r hr; omega)), h1, Poly.co_mono_mul, if_neg (by omega), show m + (j + k) - (j + k) = m by omega, Rat.pow_succ]
  have : p.lead = p.co m := by rw [Poly.lead, hp]; rfl
  rw [← this]; grind
end Go.Proofs.YtacenhlcfeepgaaGreat
namespace Go.Proofs.YtacenhlcfeepgaaGreat
theorem mod_lin {p x y : Pol} {a : Rat} (hp : p ≠ 0) : (x + Poly.cst a * y) % p = x % p + Poly.cst a * (y % p) := by
 have h1 := Poly.div_add_mod (p := x) hp
 have h2 := Poly.div_add_mod (p := y) hp
 have h3 := Poly.mod_len (p := x) hp
 have h4 := Poly.mod_len (p := y) hp
 refine (Poly.div_unique (s := x / p + Poly.cst a * (y / p)) hp ?_ ?_).2.symm
 ·generalize x / p = s at *
  generalize y / p = t at *
  generalize x % p = u at *
  generalize y % p = v at *
  rw [h1, h2]; grind
 ·have h5 := Poly.len_add (x % p) (Poly.cst a * (y % p))
  have h6 := Poly.len_mul_le (Poly.cst a) (y % p)
  have h7 := Poly.len_cst a
  omega
theorem mod_mul {p x y : Pol} (hp : p ≠ 0) : (x % p * y) % p = (x * y) % p := by
 have h1 := Poly.div_add_mod (p := x) hp
 have h2 := Poly.div_add_mod (p := x % p * y) hp
 have h3 := Poly.mod_len (p := x % p * y) hp
 refine (Poly.div_unique (s := x / p * y + x % p * y / p) hp ?_ h3).2
 generalize x % p * y / p = s at *
 generalize x % p * y % p = t at *
 generalize x / p = u at *
 generalize x % p = v at *
 rw [h1, show (u * p + v) * y = u * p * y + v * y by grind, h2]; grind
theorem AM.map {f : List Pol → Rat} (h : AM f) {g : Pol → Pol} (hg : ∀ x y (a : Rat), g (x + Poly.cst a * y) = g x + Poly.cst a * g y) : AM fun l => f (l.map g) :=
 ⟨fun l m x y a => by simp only [List.map_append, List.map_cons]; rw [hg, h.lin], fun l m x => by simp only [List.map_append, List.map_cons]; exact h.alt _ _ _⟩
theorem AM.clear {f : List Pol → Rat} (h : AM f) (e : Nat) (b : Pol) : ∀ (l pre : List Pol), f (b :: (pre ++ l)) = f (b :: (pre ++ l.map fun r => r + Poly.cst (-(r.co e / b.co e)) * b))
 | [], pre => rfl
 | r :: l, pre => by
  have h1 := h.addr (b :: pre) l r b (-(r.co e / b.co e)) (.inl (List.mem_cons_self ..))
  have h2 := AM.clear h e b l (pre ++ [r + Poly.cst (-(r.co e / b.co e)) * b])
  simp only [List.map_cons, List.append_assoc, List.cons_append, List.nil_append] at *
  rw [← h2, h1]
theorem sgn_sq (k : Nat) : ((-1 : Rat)) ^ k * (-1) ^ k = 1 := by
 induction k with
 | zero => rw [Rat.pow_zero]; grind
 | succ k ih => rw [Rat.pow_succ]; grind
theorem clear_co {e : Nat} {b r : Pol} (hb : b.co e ≠ 0) : (r + Poly.cst (-(r.co e / b.co e)) * b).co e = 0 := by
 rw [Poly.co_add, Poly.cst_mul]; grind
theorem clear_len {e : Nat} {b r : Pol} (hb : b.co e ≠ 0) (h1 : b.len ≤ e + 1) (h2 : r.len ≤ e + 1) : (r + Poly.cst (-(r.co e / b.co e)) * b).len ≤ e := Poly.len_le fun i hi => by
 by_cases h : i = e
 ·rw [h]; exact clear_co hb
 ·rw [Poly.co_add, Poly.cst_mul, Poly.co_ge (p := r) (i := i) (by omega), Poly.co_ge (p := b) (i := i) (by omega)]; grind
theorem piv {n : Nat} {B : List Pol} (hB : ∀ r, r ∈ B → r.len ≤ n + 1) : (∀ r, r ∈ B → r.len ≤ n) ∨ ∃ (k : Nat) (b : Pol) (C : List Pol), b.len ≤ n + 1 ∧ b.co n ≠ 0 ∧ C.length + 1 = B.length ∧ (∀ r, r ∈ C → r.len ≤ n) ∧ ∀ f, AM f → f B = (-1) ^ k * f (b :: C) := by
 by_cases h : ∃ r, r ∈ B ∧ r.co n ≠ 0
 ·obtain ⟨b, hb, hc⟩ := h
  obtain ⟨l, m, rfl⟩ := List.append_of_mem hb
  refine .inr ⟨l.length, b, (l ++ m).map fun r => r + Poly.cst (-(r.co n / b.co n)) * b, hB b hb, hc, by simp; omega, fun r hr => ?_, fun f hf => ?_⟩
  ·obtain ⟨x, hx, rfl⟩ := List.mem_map.1 hr
   refine clear_len hc (hB b hb) (hB x ?_)
   rcases List.mem_append.1 hx with h | h
   ·exact List.mem_append_left _ h
   ·exact List.mem_append_right _ (List.mem_cons_of_mem _ h)
  ·have h1 := hf.move l [] m b
   have h2 := hf.clear n b (l ++ m) []
   have h3 := sgn_sq l.length
   simp only [List.nil_append] at h1 h2
   rw [← h2, h1]
   generalize ((-1 : Rat)) ^ l.length = z at *
   grind
 ·refine .inl fun r hr => Poly.len_le fun i hi => ?_
  by_cases h1 : i = n
  ·rw [h1]; exact Classical.byContradiction fun h2 => h ⟨r, hr, h2⟩
  ·exact Poly.co_ge (by have := hB r hr; omega)
theorem uniq : ∀ n : Nat, (∀ f, AM f → ∀ B : List Pol, B.length = n + 1 → (∀ r, r ∈ B → r.len ≤ n) → f B = 0) ∧ (∀ f, AM f → ∀ B : List Pol, B.length = n → (∀ r, r ∈ B → r.len ≤ n) → f B = f (blk 1 n) * dt n B)
 | 0 => ⟨fun f hf B h1 h2 => by
   match B, h1 with
   | [x], _ =>
    have := Poly.eq_zero_of_len (Nat.le_zero.1 (h2 x (List.mem_cons_self ..)))
    rw [this]; exact hf.zero [] [], fun f hf B h1 h2 => by
   rw [List.length_eq_zero_iff.1 h1]; simp [blk, dt]⟩
 | n + 1 => by
  obtain ⟨A, U⟩ := uniq n
  refine ⟨fun f hf B h1 h2 => ?_, fun f hf B h1 h2 => ?_⟩
  ·rcases piv h2 with h3 | ⟨k, b, C, h3, h4, h5, h6, h7⟩
   ·match B, h1 with
    | b :: B, h1 => exact A _ (hf.head [b]) B (by simpa using h1) fun r hr => h3 r (List.mem_cons_of_mem _ hr)
   ·rw [h7 f hf]
    have := A _ (hf.head [b]) C (by omega) h6
    simp only [List.cons_append, List.nil_append] at this
    rw [this]; grind
  ·rcases piv h2 with h3 | ⟨k, b, C, h3, h4, h5, h6, h7⟩
   ·rw [A f hf B h1 h3, dt_none (fun r hr => Poly.co_ge (h3 r hr))]; grind
   ·rw [h7 f hf, h7 _ (dt_am (n + 1)), dt_top (fun r hr => Poly.co_ge (h6 r hr))]
    have h8 := U _ (hf.head [b]) C (by omega) h6
    simp only [List.cons_append, List.nil_append] at h8
    rw [h8]
    obtain ⟨u, hu⟩ : ∃ u, u = b - Poly.mono (b.co n) n := ⟨_, rfl⟩
    have hul : u.len ≤ n := Poly.len_le fun i hi => by
     rw [hu, Poly.co_sub, Poly.co_mono]
     by_cases h : i = n
     ·rw [if_pos h, h]; grind
     ·rw [if_neg h, Poly.co_ge (by omega)]; grind
    have e : b = Poly.cst (b.co n) * (Poly.mono 1 n * 1) + u * 1 := by
     have : Poly.mono (b.co n) n = Poly.cst (b.co n) * Poly.mono 1 n := Poly.ext fun i => by
      rw [Poly.cst_mul, Poly.co_mono, Poly.co_mono]; split <;> grind
     rw [hu, this]; grind
    have h9 := hf.addp [] (blk 1 n) (Poly.cst (b.co n) * (Poly.mono 1 n * 1)) u 1 (fun i hi => .inr (blk_mem 1 (by omega)))
    have h10 := hf.scale [] (blk 1 n) (Poly.mono 1 n * 1) (b.co n)
    simp only [List.nil_append] at h9 h10
    rw [← e, h10] at h9
    rw [h9, show blk 1 (n + 1) = Poly.mono 1 n * 1 :: blk 1 n from rfl]
    grind
def syl (p q : Pol) : Rat := dt (p.len - 1 + (q.len - 1)) (blk p (q.len - 1) ++ blk q (p.len - 1))
theorem syl_symm (p q : Pol) : syl p q = (-1) ^ ((p.len - 1) * (q.len - 1)) * syl q p := by
 have h := (dt_am (p.len - 1 + (q.len - 1))).blocks (blk p (q.len - 1)) [] (blk q (p.len - 1)) []
 simp only [List.nil_append, List.append_nil, blk_len] at h
 rw [syl, h, syl, Nat.add_comm (q.len - 1), Nat.mul_comm (q.len - 1)]
theorem AM.mods {f : List Pol → Rat} (h : AM f) {p : Pol} (hp : p ≠ 0) {n : Nat} : ∀ (B l : List Pol), (∀ r, r ∈ B → r.len + 1 ≤ p.len + n) → f (blk p n ++ (l ++ B)) = f (blk p n ++ (l ++ B.map (· % p)))
 | [], l, _ => rfl
 | x :: B, l, hB => by
  have h1 := AM.mods h hp B (l ++ [x % p]) fun r hr => hB r (List.mem_cons_of_mem _ hr)
  have hx := hB x (List.mem_cons_self ..)
  have hl : (x / p).len ≤ n := by
   rcases Nat.lt_or_ge x.len p.len with h3 | h3
   ·rw [(Poly.mod_of_lt hp h3).2, Poly.len_zero]; omega
   ·rw [Poly.div_len hp h3]; omega
  have h2 := h.addp (blk p n ++ l) B (x % p) (x / p) p fun i hi => .inl (List.mem_append_left _ (blk_mem p (by omega)))
  have e : x % p + x / p * p = x := by
   have := Poly.div_add_mod (p := x) hp
   generalize x / p = s at *
   generalize x % p = t at *
   rw [this]; grind
  rw [e] at h2
  simp only [List.map_cons, List.append_assoc, List.cons_append, List.nil_append] at *
  rw [h2, h1]
theorem syl_norm {p q : Pol} (hp : p ≠ 0) : syl p q = p.lead ^ (q.len - 1) * dt (p.len - 1) ((blk q (p.len - 1)).map (· % p)) := by
 have hp1 := Poly.len_pos hp
 have h1 := (dt_am (p.len - 1 + (q.len - 1))).mods hp (n := q.len - 1) (blk q (p.len - 1)) [] fun r hr => by
  obtain ⟨i, hi, rfl⟩ := mem_blk hr
  have := mono_len (i := i) q
  omega
 have h2 := dt_blk (p := p) (m := p.len - 1) (t := (blk q (p.len - 1)).map (· % p)) (by omega) (q.len - 1) 0 fun r hr => by
  obtain ⟨x, _, rfl⟩ := List.mem_map.1 hr
  have := Poly.mod_len (p := x) hp
  omega
 simp only [List.nil_append, Nat.zero_add, Nat.add_zero, blk] at h1 h2
 rw [syl, h1, h2]
theorem blk_map (q : Pol) (g : Pol → Pol) (h : Pol → Pol) (r : Pol) (hg : ∀ k, g (Poly.mono 1 k * q) = h (Poly.mono 1 k * r)) : ∀ k, (blk q k).map g = (blk r k).map h
 | 0 => rfl
 | k + 1 => by rw [blk, blk, List.map_cons, List.map_cons, hg, blk_map q g h r hg k]
theorem syl_mul {p q r : Pol} (hp : p ≠ 0) (hq : q ≠ 0) (hr : r ≠ 0) : syl p (q * r) = syl p q * syl p r := by
 have hl := (Poly.len_mul hq hr).1
 have hq1 := Poly.len_pos hq
 have hr1 := Poly.len_pos hr
 have hp1 := Poly.len_pos hp
 rw [syl_norm hp, syl_norm hp, syl_norm hp, show (q * r).len - 1 = q.len - 1 + (r.len - 1) by omega, rpow_add]
 obtain ⟨m, hm⟩ : ∃ m, m = p.len - 1 := ⟨_, rfl⟩
 rw [← hm]
 have hA : AM fun l : List Pol => dt m (l.map fun b => b * q % p) := (dt_am m).map (g := fun b => b * q % p) fun x y a => by
  rw [show (x + Poly.cst a * y) * q = x * q + Poly.cst a * (y * q) by grind, mod_lin hp]
 have h1 := (uniq m).2 _ hA ((blk r m).map (· % p)) (by rw [List.length_map, blk_len]) fun x hx => by
  obtain ⟨y, _, rfl⟩ := List.mem_map.1 hx
  have := Poly.mod_len (p := y) hp
  omega
 rw [List.map_map] at h1
 rw [blk_map r _ (· % p) (q * r) (fun k => by
  show Poly.mono 1 k * r % p * q % p = _
  rw [mod_mul hp]; congr 1; grind), blk_map 1 (fun b => b * q % p) (· % p) q (fun k => by
  show Poly.mono 1 k * 1 * q % p = _
  congr 1; grind)] at h1
 rw [h1]; grind
theorem syl_one {a b : Pol} (hb : b ≠ 0) (h1 : b.len ≤ 1) : syl a b = b.lead ^ (a.len - 1) := by
 have := Poly.len_pos hb
 rw [syl_symm, syl_norm hb, show b.len - 1 = 0 by omega, Nat.mul_zero]
 simp [blk, dt]
theorem mod_shift {a b : Pol} (hb : b ≠ 0) (k : Nat) : Poly.mono 1 k * a % b = Poly.mono 1 k * (a % b) % b := by
 have h := mod_mul (x := a) (y := Poly.mono 1 k) hb
 rw [show Poly.mono 1 k * a = a * Poly.mono 1 k by grind, ← h]; congr 1; grind
theorem syl_zero {a b : Pol} (hb : b ≠ 0) (h1 : ¬ b.len ≤ 1) (hr : a % b = 0) : syl a b = 0 := by
 rw [syl_symm, syl_norm hb]
 obtain ⟨n, hn⟩ : ∃ n, b.len - 1 = n + 1 := ⟨b.len - 2, by omega⟩
 rw [hn, blk, List.map_cons, mod_shift hb, hr, show Poly.mono 1 n * (0 : Pol) = 0 by grind]
 have h0 : (0 : Pol) % b = 0 := (Poly.mod_of_lt hb (by rw [Poly.len_zero]; omega)).1
 rw [h0]
 have := (dt_am (n + 1)).zero [] ((blk a n).map (· % b))
 rw [List.nil_append] at this
 rw [this]; grind
theorem syl_step {a b : Pol} (hb : b ≠ 0) (hl : (a % b).len ≤ a.len) (hr : a % b ≠ 0) : syl a b = (-1) ^ ((a.len - 1) * (b.len - 1)) * (b.lead ^ (a.len - (a % b).len) * syl b (a % b)) := by
 have h1 := Poly.len_pos hr
 rw [syl_symm, syl_norm hb, syl_norm hb, blk_map a (· % b) (· % b) (a % b) (mod_shift hb), show a.len - 1 = a.len - (a % b).len + ((a % b).len - 1) by omega, rpow_add, show a.len - (a % b).len + ((a % b).len - 1) = a.len - 1 by omega]
 grind
end Go.Proofs.YtacenhlcfeepgaaGreat
namespace Go.Proofs.YtacenhlcfeepgaaGreat
def rowP (n : Nat) (g : Nat → Rat) : Pol := Poly.of ((List.range n).map fun e => g (n - 1 - e))
theorem rowP_co (n : Nat) (g : Nat → Rat) (i : Nat) : (rowP n g).co i = if i < n then g (n - 1 - i) else 0 := by
 rw [rowP, Poly.co_of]
 by_cases h : i < n
 ·rw [if_pos h, cf_lt (by simpa using h)]; simp
 ·rw [if_neg h, cf_ge (by simp; omega)]
theorem rowP_eq {n : Nat} {g : Nat → Rat} {p : Pol} (hp : p.len ≤ n) (h : ∀ k, k < n → g k = p.co (n - 1 - k)) : rowP n g = p := Poly.ext fun i => by
 rw [rowP_co]
 by_cases hi : i < n
 ·rw [if_pos hi, h _ (by omega)]; congr 1; omega
 ·rw [if_neg hi, Poly.co_ge (by omega)]
def rowsP (n : Nat) (M : Nat → Nat → Rat) (c k : Nat) : List Pol := (List.range' c k).map fun i => rowP n (M i)
def detP (n c : Nat) (M : Nat → Nat → Rat) : Rat := dt (n - c) (rowsP n M c (n - c))
theorem rowsP_succ (n : Nat) (M : Nat → Nat → Rat) (c k : Nat) : rowsP n M c (k + 1) = rowP n (M c) :: rowsP n M (c + 1) k := by
 rw [rowsP, List.range'_succ, List.map_cons]; rfl
theorem rowsP_add (n : Nat) (M : Nat → Nat → Rat) (c : Nat) : ∀ (j k : Nat), rowsP n M c (j + k) = rowsP n M c j ++ rowsP n M (c + j) k := fun j k => by
 rw [rowsP, rowsP, rowsP, ← List.map_append, List.range'_append_1]
theorem rowsP_congr {n : Nat} {M M' : Nat → Nat → Rat} {c k : Nat} (h : ∀ i, c ≤ i → i < c + k → ∀ j, j < n → M i j = M' i j) : rowsP n M c k = rowsP n M' c k := by
 refine List.map_congr_left fun i hi => Poly.ext fun e => ?_
 have := List.mem_range'_1.1 hi
 rw [rowP_co, rowP_co]
 split
 ·exact h i this.1 this.2 _ (by omega)
 ·rfl
theorem rowsP_mem {n c k : Nat} {M : Nat → Nat → Rat} {r : Pol} (h : r ∈ rowsP n M c k) : ∃ i, c ≤ i ∧ i < c + k ∧ r = rowP n (M i) := by
 obtain ⟨i, h1, h2⟩ := List.mem_map.1 h
 have := List.mem_range'_1.1 h1
 exact ⟨i, this.1, this.2, h2.symm⟩
theorem detP_none {n c : Nat} {M : Nat → Nat → Rat} (hc : c < n) (h : ∀ i, c ≤ i → i < n → M i c = 0) : detP n c M = 0 := by
 obtain ⟨k, hk⟩ : ∃ k, n - c = k + 1 := ⟨n - c - 1, by omega⟩
 rw [detP, hk]
 refine dt_none fun r hr => ?_
 obtain ⟨i, h1, h2, rfl⟩ := rowsP_mem hr
 rw [rowP_co, if_pos (by omega), show n - 1 - k = c by omega]
 exact h i h1 (by omega)
def swapM {α : Type} (a c : Nat) (M : Nat → α) : Nat → α := fun i => if i = a then M c else if i = c then M a else M i
theorem detP_swap {n a c : Nat} {M : Nat → Nat → Rat} (h1 : c < a) (h2 : a < n) : detP n c (swapM a c M) = - detP n c M := by
 obtain ⟨j, hj⟩ : ∃ j, a = c + 1 + j := ⟨a - c - 1, by omega⟩
 obtain ⟨k, hk⟩ : ∃ k, n - c = 1 + (j + (1 + k)) := ⟨n - a - 1, by omega⟩
 have e : ∀ M : Nat → Nat → Rat, rowsP n M c (1 + (j + (1 + k))) = rowP n (M c) :: (rowsP n M (c + 1) j ++ rowP n (M a) :: rowsP n M (a + 1) k) := fun M => by
  rw [Nat.add_comm 1, rowsP_succ, rowsP_add, Nat.add_comm 1, rowsP_succ, ← hj]
 have h := (dt_am (n - c)).swap [] (rowsP n M (c + 1) j) (rowsP n M (a + 1) k) (rowP n (M c)) (rowP n (M a))
 rw [List.nil_append, List.nil_append] at h
 rw [detP, detP, hk, e, e, ← hk, h]
 rw [show rowsP n (swapM a c M) (c + 1) j = rowsP n M (c + 1) j from rowsP_congr fun i h3 h4 x _ => by rw [swapM, if_neg (by omega), if_neg (by omega)],
  show rowsP n (swapM a c M) (a + 1) k = rowsP n M (a + 1) k from rowsP_congr fun i h3 h4 x _ => by rw [swapM, if_neg (by omega), if_neg (by omega)],
  show swapM a c M c = M a by rw [swapM, if_neg (by omega), if_pos rfl], show swapM a c M a = M c by rw [swapM, if_pos rfl]]
 grind
def clearM (c : Nat) (M : Nat → Nat → Rat) : Nat → Nat → Rat := fun i j => if i ≤ c then M i j else M i j - M i c / M c c * M c j
theorem rowP_clear {n c i : Nat} {M : Nat → Nat → Rat} (h : c < i) (hc : c < n) : rowP n (clearM c M i) = rowP n (M i) + Poly.cst (-((rowP n (M i)).co (n - 1 - c) / (rowP n (M c)).co (n - 1 - c))) * rowP n (M c) := Poly.ext fun e => by
 have e1 : ∀ g : Nat → Rat, (rowP n g).co (n - 1 - c) = g c := fun g => by rw [rowP_co, if_pos (by omega), show n - 1 - (n - 1 - c) = c by omega]
 rw [Poly.co_add, Poly.cst_mul, e1, e1, rowP_co, rowP_co, rowP_co]
 by_cases he : e < n
 ·rw [if_pos he, if_pos he, if_pos he, clearM, if_neg (by omega)]; grind
 ·rw [if_neg he, if_neg he, if_neg he]; grind
theorem detP_step {n c : Nat} {M : Nat → Nat → Rat} (hc : c < n) (hp : M c c ≠ 0) : detP n c M = M c c * detP n (c + 1) (clearM c M) := by
 obtain ⟨k, hk⟩ : ∃ k, n - c = k + 1 := ⟨n - c - 1, by omega⟩
 have hb : (rowP n (M c)).co k = M c c := by rw [rowP_co, if_pos (by omega), show n - 1 - k = c by omega]
 have h1 := (dt_am (k + 1)).clear k (rowP n (M c)) (rowsP n M (c + 1) k) []
 rw [List.nil_append, List.nil_append] at h1
 have h2 : (rowsP n M (c + 1) k).map (fun r => r + Poly.cst (-(r.co k / (rowP n (M c)).co k)) * rowP n (M c)) = rowsP n (clearM c M) (c + 1) k := by
  rw [rowsP, rowsP, List.map_map]
  refine List.map_congr_left fun i hi => ?_
  have := List.mem_range'_1.1 hi
  show rowP n (M i) + _ = _
  rw [rowP_clear (by omega) hc, show n - 1 - c = k by omega]
 rw [h2] at h1
 rw [detP, hk, rowsP_succ, h1, dt_top (fun r hr => by
  rw [← h2] at hr
  obtain ⟨x, _, rfl⟩ := List.mem_map.1 hr
  exact clear_co (by rw [hb]; exact hp)), hb, detP, show n - (c + 1) = k by omega]
theorem detP_zero {n : Nat} {M : Nat → Nat → Rat} : detP n n M = 1 := by
 rw [detP, Nat.sub_self]; rfl
def sylM (p q : Pol) : Nat → Nat → Rat := fun i k => if i < q.len - 1 then (if k ≤ p.len - 1 + i then p.co (p.len - 1 + i - k) else 0) else (if k ≤ i then q.co (i - k) else 0)
theorem rowsP_blk {n : Nat} {M : Nat → Nat → Rat} {p : Pol} : ∀ (k c : Nat), (∀ i, i < k → rowP n (M (c + i)) = Poly.mono 1 (k - 1 - i) * p) → rowsP n M c k = blk p k
 | 0, _, _ => rfl
 | k + 1, c, h => by
  rw [rowsP_succ, blk, rowsP_blk k (c + 1) fun i hi => ?_]
  ·have := h 0 (by omega)
   rw [Nat.add_zero, show k + 1 - 1 - 0 = k by omega] at this
   rw [this]
  ·have := h (i + 1) (by omega)
   rw [show c + (i + 1) = c + 1 + i by omega, show k + 1 - 1 - (i + 1) = k - 1 - i by omega] at this
   exact this
theorem detP_syl {p q : Pol} (hp : p ≠ 0) (hq : q ≠ 0) : detP (p.len - 1 + (q.len - 1)) 0 (sylM p q) = syl p q := by
 have hp1 := Poly.len_pos hp
 have hq1 := Poly.len_pos hq
 rw [detP, syl, Nat.sub_zero, Nat.add_comm (p.len - 1), rowsP_add, Nat.zero_add]
 congr 2
 ·refine rowsP_blk _ _ fun i hi => rowP_eq ?_ fun k hk => ?_
  ·have := mono_len (i := q.len - 1 - 1 - i) p; omega
  ·rw [Nat.zero_add, sylM, if_pos hi, Poly.co_mono_mul]
   by_cases h : k ≤ p.len - 1 + i
   ·rw [if_pos h, if_neg (by omega), show q.len - 1 + (p.len - 1) - 1 - k - (q.len - 1 - 1 - i) = p.len - 1 + i - k by omega]; grind
   ·rw [if_neg h, if_pos (by omega)]
 ·refine rowsP_blk _ _ fun i hi => rowP_eq ?_ fun k hk => ?_
  ·have := mono_len (i := p.len - 1 - 1 - i) q; omega
  ·rw [sylM, if_neg (by omega), Poly.co_mono_mul]
   by_cases h : k ≤ q.len - 1 + i
   ·rw [if_pos h, if_neg (by omega), show q.len - 1 + (p.len - 1) - 1 - k - (p.len - 1 - 1 - i) = q.len - 1 + i - k by omega]; grind
   ·rw [if_neg h, if_pos (by omega)]
end Go.Proofs.YtacenhlcfeepgaaGreat
namespace Go.Proofs.YtacenhlcfeepgaaGreat
open Go Eng
theorem rem_unique {p q a u v s U V : Pol} (ha : a = u * p + v * q) (hs : s = U * p + V * q) (hc : Cop u v) (hu : u ≠ 0) (hl : u.len + a.len ≤ q.len) (hU : U.len ≤ u.len) (hS : u.len + s.len ≤ q.len) : ∃ c : Rat, s = Poly.cst c * a ∧ U = Poly.cst c * u := by
 have hq : q ≠ 0 := fun e => by have := Poly.len_pos hu; rw [e, Poly.len_zero] at hl; omega
 have e1 : U * a - u * s = (U * v - u * V) * q := by rw [ha, hs]; grind
 have h1 := Poly.len_mul_le U a
 have h2 := Poly.len_mul_le u s
 have h3 := Poly.len_sub (U * a) (u * s)
 have h0 := Poly.len_pos hu
 have hq1 := Poly.len_pos hq
 have e2 : U * v - u * V = 0 := by
  apply Classical.byContradiction
  intro hne
  have h4 := (Poly.len_mul hne hq).1
  have h5 := Poly.len_pos hne
  rw [← e1] at h4
  omega
 obtain ⟨k, hk⟩ : u ∣ U := hc.dvd ⟨V, by
  have : U * v = u * V := by
   have h6 : U * v - u * V + u * V = u * V := by rw [e2]; grind
   rw [← h6]; grind
  rw [← this]; grind⟩
 have hk1 : k.len ≤ 1 := by
  by_cases hk0 : k = 0
  ·rw [hk0, Poly.len_zero]; omega
  ·have h4 := (Poly.len_mul hu hk0).1
   rw [← hk] at h4
   have := Poly.len_pos hk0
   omega
 have hkc := Poly.len_one_cst hk1
 refine ⟨k.co 0, ?_, by rw [← hkc, hk]; grind⟩
 rw [← hkc]
 have e3 : u * s = u * (k * a) := by
  have h6 : U * a - u * s = 0 := by rw [e1, e2]; grind
  have h7 : U * a = u * s := by
   have h8 : U * a - u * s + u * s = u * s := by rw [h6]; grind
   rw [← h8]; grind
  rw [← h7, hk]; grind
 exact Poly.mul_cancel hu e3
structure Ch (p q a b u v s t : Pol) : Prop where
 ea : a = u * p + v * q
 eb : b = s * p + t * q
 d : u * t - v * s = 1 ∨ u * t - v * s = -1
 l : s.len + a.len = q.len + 1
 k : u.len < s.len
 m : b.len < a.len
theorem Ch.init {p q : Pol} (hq : q ≠ 0) : Ch p q q (p % q) 0 1 1 (-(p / q)) := by
 have h := Poly.div_add_mod (p := p) hq
 refine ⟨by grind, ?_, .inr (by grind), by rw [Poly.one_len]; omega, by rw [Poly.len_zero, Poly.one_len]; omega, Poly.mod_len hq⟩
 generalize p / q = d at *
 generalize p % q = r at *
 rw [h]; grind
theorem Ch.step {p q a b u v s t : Pol} (h : Ch p q a b u v s t) (hb : b ≠ 0) : Ch p q b (a % b) s t (u - a / b * s) (v - a / b * t) := by
 have h1 := Poly.div_add_mod (p := a) hb
 have h2 := Poly.div_len hb (Nat.le_of_lt h.m)
 have hs : s ≠ 0 := fun e => by have := h.k; rw [e, Poly.len_zero] at this; omega
 have hk : a / b ≠ 0 := fun e => by rw [e, Poly.len_zero] at h2; omega
 have h3 := (Poly.len_mul hk hs).1
 have h4 := h.k
 have h5 := h.l
 have h6 := h.m
 have hlen : (u - a / b * s).len = (a / b).len + s.len - 1 := by
  have e : u - a / b * s = -(a / b * s) + u := by grind
  have hn : (-(a / b * s)).len = (a / b * s).len := by
   apply Nat.le_antisymm (Poly.len_neg _)
   have := Poly.len_neg (-(a / b * s))
   rw [show - -(a / b * s) = a / b * s by grind] at this; exact this
  rw [e, Poly.len_add_lt (by rw [hn]; omega), hn, h3]
 refine ⟨h.eb, ?_, ?_, by rw [hlen]; omega, by rw [hlen]; omega, Poly.mod_len hb⟩
 ·have ha := h.ea
  have hbb := h.eb
  generalize a / b = k at *
  generalize a % b = r at *
  have : r = a - k * b := by rw [h1]; grind
  rw [this, ha, hbb]; grind
 ·generalize a / b = k at *
  have e : s * (v - k * t) - t * (u - k * s) = -(u * t - v * s) := by grind
  rw [e]
  rcases h.d with h7 | h7
  ·exact .inr (by rw [h7])
  ·exact .inl (by rw [h7]; grind)
theorem Ch.cop {p q a b u v s t : Pol} (h : Ch p q a b u v s t) : Cop s t := by
 rcases h.d with h7 | h7
 ·exact ⟨-v, u, by rw [← h7]; grind⟩
 ·exact ⟨v, -u, by
   have : v * s + -u * t = -(u * t - v * s) := by grind
   rw [this, h7]; grind⟩
end Go.Proofs.YtacenhlcfeepgaaGreat
namespace Go.Proofs.YtacenhlcfeepgaaGreat
open Go Eng
theorem Ch.size {n : Nat} {p q a b u v s t : Pol} (h : Ch p q a b u v s t) (hb : b ≠ 0) (hp : CDB n p) (hq : CDB n q) (hs : p.len + q.len ≤ 28) : CDB ((q.len + 1 - a.len + (p.len + 1 - a.len)) * n + 6) b.monic := by
 have hb1 := Poly.len_pos hb
 have hk := h.k
 have hl := h.l
 have hm := h.m
 obtain ⟨D, D0, D1, D2⟩ := hp.ex
 obtain ⟨E, E0, E1, E2⟩ := hq.ex
 have hD := rint_ne D0
 have hE := rint_ne E0
 obtain ⟨α, hα⟩ := Classical.axiomOfChoice D2
 obtain ⟨β, hβ⟩ := Classical.axiomOfChoice E2
 obtain ⟨B, hB⟩ : ∃ B, B = 4294967296 ^ n := ⟨_, rfl⟩
 have hB2 : B = 2 ^ (32 * n) := by rw [hB, show (4294967296 : Nat) = 2 ^ 32 from rfl, ← Nat.pow_mul]
 have hB0 : 0 < B := by rw [hB]; exact Nat.pow_pos (by decide)
 have hα2 : ∀ i, (α i).natAbs ≤ B := fun i => by
  rw [hB]; exact Nat.le_of_lt (Nat.lt_of_lt_of_le (lt_wl _) (Nat.pow_le_pow_right (by decide) (hα i).1))
 have hβ2 : ∀ i, (β i).natAbs ≤ B := fun i => by
  rw [hB]; exact Nat.le_of_lt (Nat.lt_of_lt_of_le (lt_wl _) (Nat.pow_le_pow_right (by decide) (hβ i).1))
 obtain ⟨P, hP⟩ : ∃ P, P = Poly.cst (D : Rat) * p := ⟨_, rfl⟩
 obtain ⟨Q, hQ⟩ : ∃ Q, Q = Poly.cst (E : Rat) * q := ⟨_, rfl⟩
 have hPa : ∀ i, P.co i = (α i : Rat) := fun i => by rw [hP, Poly.cst_mul]; exact (hα i).2
 have hQb : ∀ i, Q.co i = (β i : Rat) := fun i => by rw [hQ, Poly.cst_mul]; exact (hβ i).2
 have hPl : P.len ≤ p.len := Poly.len_le fun i hi => by rw [hP, Poly.cst_mul, Poly.co_ge hi, Rat.mul_zero]
 have hQl : Q.len ≤ q.len := Poly.len_le fun i hi => by rw [hQ, Poly.cst_mul, Poly.co_ge hi, Rat.mul_zero]
 obtain ⟨m, hmd⟩ : ∃ m, m = q.len + 1 - a.len := ⟨_, rfl⟩
 obtain ⟨k, hkd⟩ : ∃ k, k = p.len + 1 - a.len := ⟨_, rfl⟩
 obtain ⟨M, hM⟩ : ∃ M, M + 1 = m + k := ⟨m + k - 1, by omega⟩
 obtain ⟨x, y, hx, hy, h0, hlen⟩ := small_comb (m := m) (n := k) (d := a.len - 1) (M := M) hPa hQb hα2 hβ2 (by omega) (by omega) (by omega)
 obtain ⟨H, hH⟩ : ∃ H, H = (2 * ((m + k) * B) + 1) ^ M := ⟨_, rfl⟩
 rw [← hH] at hx hy
 have hHs : H ≤ 2 ^ ((32 * n + 6) * M) := by
  have h3 : 2 * ((m + k) * B) + 1 ≤ 2 ^ (32 * n + 6) := by
   have h4 := Nat.mul_le_mul_right B (show m + k ≤ 30 by omega)
   have h5 : 2 ^ (32 * n + 6) = B * 64 := by rw [hB2, Nat.pow_add]
   omega
  rw [hH]; exact pow_le2 h3
 obtain ⟨S, hS⟩ : ∃ S, S = UP x m * P + UP y k * Q := ⟨_, rfl⟩
 rw [← hS] at hlen
 have hSco : ∀ i, S.co i = ((sumI m (fun j => if i < j then 0 else x j * α (i - j)) + sumI k (fun j => if i < j then 0 else y j * β (i - j)) : Int) : Rat) := fun i => by
  rw [hS, Poly.co_add, UP_mul x _ hPa, UP_mul y _ hQb, Rat.intCast_add]
 have hSC : CDB ((m + k) * n + 6) S := by
  refine ⟨1, by decide, wl_le (Nat.lt_of_lt_of_le (show (1 : Int).natAbs < 4294967296 ^ 1 by decide) (Nat.pow_le_pow_right (by decide) (by omega))), fun i => ⟨_, ?_, by rw [hSco]; exact Rat.one_mul _⟩⟩
  have h1 : (sumI m (fun j => if i < j then 0 else x j * α (i - j))).natAbs ≤ m * (H * B) := sumI_abs _ fun j _ => by
   split
   ·exact Nat.zero_le _
   ·rw [Int.natAbs_mul]; exact Nat.mul_le_mul (hx j) (hα2 _)
  have h2 : (sumI k (fun j => if i < j then 0 else y j * β (i - j))).natAbs ≤ k * (H * B) := sumI_abs _ fun j _ => by
   split
   ·exact Nat.zero_le _
   ·rw [Int.natAbs_mul]; exact Nat.mul_le_mul (hy j) (hβ2 _)
  have h3 := Int.natAbs_add_le (sumI m (fun j => if i < j then 0 else x j * α (i - j))) (sumI k (fun j => if i < j then 0 else y j * β (i - j)))
  have h4 : m * (H * B) + k * (H * B) ≤ 30 * (H * B) := by rw [← Nat.add_mul]; exact Nat.mul_le_mul_right _ (by omega)
  have h5 := mul_le2 hHs (Nat.le_of_eq hB2)
  have h6 : 0 < 2 ^ ((32 * n + 6) * M + 32 * n) := Nat.pow_pos (by decide)
  refine wl_le_bits (K := 32 * ((m + k) * n + 6)) rfl ?_
  refine Nat.lt_of_lt_of_le (m := 2 ^ ((32 * n + 6) * M + 32 * n) * 2 ^ 5) (by omega) ?_
  rw [← Nat.pow_add]
  refine Nat.pow_le_pow_right (by decide) ?_
  rw [← hM, Nat.add_mul, Nat.add_mul, Nat.one_mul, Nat.mul_assoc, Nat.mul_comm n M]
  have : M ≤ 29 := by omega
  generalize M * n = z at *
  omega
 obtain ⟨c, hc1, hc2⟩ := rem_unique (U := UP x m * Poly.cst (D : Rat)) (V := UP y k * Poly.cst (E : Rat)) (s := S) h.eb (by rw [hS, hP, hQ]; grind) h.cop (fun e => by rw [e, Poly.len_zero] at hk; omega) (by omega)
  (by
   have h1 := UP_len x m
   have h2 := Poly.len_mul_le (UP x m) (Poly.cst (D : Rat))
   have h3 := Poly.len_cst (D : Rat)
   omega) (by omega)
 have hc0 : c ≠ 0 := fun e => by
  rw [e, Poly.cst_zero, Poly.zero_mul'] at hc1 hc2
  have e1 : UP x m = 0 := by
   rcases Poly.mul_eq_zero hc2 with h1 | h1
   ·exact h1
   ·exact absurd h1 (Poly.cst_ne hD)
  have e2 : UP y k * Q = 0 := by rw [← hc1, hS, e1]; grind
  rcases Poly.mul_eq_zero e2 with h1 | h1
  ·exact h0 ⟨e1, h1⟩
  ·rw [hQ] at h1
   rcases Poly.mul_eq_zero h1 with h2 | h2
   ·exact Poly.cst_ne hE h2
   ·rw [h2, Poly.len_zero] at hl; omega
 have e : b.monic = S.monic := Poly.dvd_antisymm ⟨Poly.cst c, by rw [hc1]; grind⟩ ⟨Poly.cst (1 / c), by
  rw [hc1]
  have := Poly.cst_inv (F := Rat) hc0
  generalize Poly.cst (1 / c) = d at *
  generalize Poly.cst c = f at *
  grind⟩
 rw [e, ← hmd, ← hkd]
 exact hSC.monic
theorem monic_mul {a : Pol} (ha : a ≠ 0) : a = Poly.cst a.lead * a.monic := by
 have h := Poly.cst_inv (F := Rat) (Poly.lead_ne ha)
 unfold Poly.monic
 generalize Poly.cst a.lead = f at *
 generalize Poly.cst (1 / a.lead) = g at *
 grind
theorem mod_monic {a b : Pol} (ha : a ≠ 0) (hb : b ≠ 0) : a % b = Poly.cst a.lead * (a.monic % b.monic) := by
 have h1 := Poly.div_add_mod (p := a.monic) (Poly.monic_ne hb)
 have h2 := Poly.mod_len (p := a.monic) (Poly.monic_ne hb)
 rw [Poly.monic_len] at h2
 have h3 := monic_mul ha
 have hbm : b.monic = Poly.cst (1 / b.lead) * b := rfl
 refine (Poly.div_unique (p := a) (s := Poly.cst a.lead * (a.monic / b.monic) * Poly.cst (1 / b.lead)) hb ?_ ?_).2.symm
 ·rw [hbm] at h1
  rw [hbm]
  generalize Poly.cst a.lead = f at *
  generalize a.monic / (Poly.cst (1 / b.lead) * b) = d at *
  generalize a.monic % (Poly.cst (1 / b.lead) * b) = r at *
  generalize Poly.cst (1 / b.lead) = g at *
  generalize a.monic = am at *
  rw [h3, h1]; grind
 ·have h4 := Poly.len_mul_le (Poly.cst a.lead) (a.monic % b.monic)
  have h5 := Poly.len_cst a.lead
  have h6 := Poly.len_pos hb
  omega
theorem mod_lead {a b : Pol} {Ka Na Nb : Nat} (ha : a ≠ 0) (hb : b ≠ 0) (hr : a % b ≠ 0) (h1 : Bq Ka a.lead) (h2 : CDB Na a.monic) (h3 : CDB Nb b.monic) : Bq (Ka + (Na + (a.len + 1 - b.len) * (Nb + 1))) (a % b).lead := by
 have h4 := mod_monic ha hb
 have h5 : a.monic % b.monic ≠ 0 := fun e => hr (by rw [h4, e]; grind)
 have h6 := h2.mod h3 (Poly.monic_ne hb)
 rw [Poly.monic_len, Poly.monic_len] at h6
 rw [h4, (Poly.len_mul (Poly.cst_ne (Poly.lead_ne ha)) h5).2, Poly.lead_cst]
 exact h1.mul h6.pb.lead
theorem bl_wl {x n : Nat} (h : wl x ≤ n) : bl x ≤ 32 * n := by
 refine bl_le (Nat.lt_of_lt_of_le (lt_wl x) ?_)
 rw [Nat.pow_mul]
 exact Nat.pow_le_pow_right (by decide) h
theorem qb_bq {a : Rat} {K : Nat} (h : Bq K a) : qb a ≤ 32 * K := by
 have h1 := bl_wl h.num
 have h2 := bl_wl h.den
 unfold qb
 omega
theorem pw_of {a : Rat} {n K : Nat} (h : Bq K a) (hn : n * K ≤ 32768) : pwOK a n := by
 right
 have h1 := qb_bq h
 have h2 := Nat.mul_le_mul_left n h1
 have h3 : n * (32 * K) = 32 * (n * K) := by rw [← Nat.mul_assoc, Nat.mul_comm n 32, Nat.mul_assoc]
 omega
def chk (n pl ql : Nat) : Nat → Nat → Nat → Nat → Nat → Nat → Nat → Bool
 | 0, _, _, _, _, _, _ => true
 | f + 1, la, lb, Na, Nb, Ka, Kb => if lb ≤ 1 then decide ((la - 1) * Kb ≤ 32768) else
  (List.range lb).all fun lr => lr == 0 || (decide ((la - lr) * Kb ≤ 32768) && chk n pl ql f lb lr Nb ((ql + 1 - lb + (pl + 1 - lb)) * n + 6) Kb (Ka + (Na + (la + 1 - lb) * (Nb + 1))))
def chk0 (n pl ql : Nat) : Bool := if ql ≤ 1 then decide ((pl - 1) * n ≤ 32768) else
  (List.range ql).all fun lr => lr == 0 || (decide ((pl - lr) * n ≤ 32768) && chk n pl ql lr ql lr n ((ql + 1 - ql + (pl + 1 - ql)) * n + 6) n (n + (pl + 1 - ql) * (n + 1)))
theorem chk_all {n : Nat} {f : Nat → Bool} (h : ((List.range n).all fun lr => lr == 0 || f lr) = true) {i : Nat} (h0 : i ≠ 0) (hi : i < n) : f i = true := by
 have h1 := List.all_eq_true.1 h i (List.mem_range.2 hi)
 rw [beq_eq_false_iff_ne.2 h0] at h1; exact h1
theorem chk_ok {n : Nat} {p q : Pol} (hp : CDB n p) (hq : CDB n q) (hs : p.len + q.len ≤ 28) : ∀ (f : Nat) {a b u v s t : Pol} {Na Nb Ka Kb : Nat}, Ch p q a b u v s t → a ≠ 0 → b ≠ 0 → CDB Na a.monic → CDB Nb b.monic → Bq Ka a.lead → Bq Kb b.lead → chk n p.len q.len f a.len b.len Na Nb Ka Kb = true → resOK f a b
 | 0, _, _, _, _, _, _, _, _, _, _, _, _, _, _, _, _, _, _ => trivial
 | f + 1, a, b, u, v, s, t, Na, Nb, Ka, Kb, h, ha, hb, h1, h2, h3, h4, hc => by
  rw [resOK]
  rw [chk] at hc
  split
  ·rename_i hl
   rw [if_pos hl] at hc
   exact pw_of h4 (of_decide_eq_true hc)
  ·rename_i hl
   rw [if_neg hl] at hc
   split
   ·trivial
   ·rename_i hr
    have h5 := Poly.len_pos hr
    have h6 := chk_all hc (i := (a % b).len) (by omega) (Poly.mod_len hb)
    rw [Bool.and_eq_true] at h6
    exact ⟨pw_of h4 (of_decide_eq_true h6.1), chk_ok hp hq hs f (h.step hb) hb hr h2 ((h.step hb).size hr hp hq hs) h4 (mod_lead ha hb hr h3 h1 h2) h6.2⟩
theorem resOK_of {n : Nat} {p q : Pol} (hp0 : p ≠ 0) (hq0 : q ≠ 0) (hp : CDB n p) (hq : CDB n q) (hs : p.len + q.len ≤ 28) (hc : chk0 n p.len q.len = true) : resOK q.len p q := by
 obtain ⟨f, hf⟩ : ∃ f, q.len = f + 1 := ⟨q.len - 1, by have := Poly.len_pos hq0; omega⟩
 rw [hf, resOK]
 rw [chk0] at hc
 split
 ·rename_i hl
  rw [if_pos hl] at hc
  exact pw_of hq.pb.lead (of_decide_eq_true hc)
 ·rename_i hl
  rw [if_neg hl] at hc
  split
  ·trivial
  ·rename_i hr
   have h5 := Poly.len_pos hr
   have hm := Poly.mod_len (p := p) hq0
   have h6 := chk_all hc (i := (p % q).len) (by omega) hm
   rw [Bool.and_eq_true] at h6
   have hC := Ch.init (p := p) hq0
   refine ⟨pw_of hq.pb.lead (of_decide_eq_true h6.1), resOK_fuel _ _ _ _ hr (Nat.le_refl _) (by omega) (chk_ok hp hq hs (p % q).len hC hq0 hr hq.monic (hC.size hr hp hq hs) hq.pb.lead ?_ h6.2)⟩
   exact (hp.mod hq hq0).pb.lead
theorem chk11 : ∀ a, a < 7 → ∀ b, b < 12 → chk0 56 a b = true := by decide +kernel
end Go.Proofs.YtacenhlcfeepgaaGreat
namespace Go.Proofs.YtacenhlcfeepgaaGreat
open Go Eng
theorem sgn_par : ∀ k : Nat, ((-1 : Rat)) ^ k = if k % 2 = 1 then -1 else 1
 | 0 => rfl
 | k + 1 => by
  rw [Rat.pow_succ, sgn_par k]
  by_cases h : k % 2 = 1
  ·rw [if_pos h, if_neg (by omega)]; grind
  ·rw [if_neg h, if_pos (by omega)]; grind
theorem par_mul {x y : Nat} : (x * y) % 2 = 1 ↔ x % 2 = 1 ∧ y % 2 = 1 := by
 rw [Nat.mul_mod]
 rcases Nat.mod_two_eq_zero_or_one x with h | h <;> rcases Nat.mod_two_eq_zero_or_one y with k | k <;> rw [h, k] <;> simp
theorem resO_sgn {o : Rat} {a b : Pol} (ha : a ≠ 0) (hb : b ≠ 0) : resO o a b = o * ((-1) ^ ((a.len - 1) * (b.len - 1)) * b.lead ^ (a.len - (a % b).len)) := by
 have h1 := Poly.len_pos ha
 have h2 := Poly.len_pos hb
 rw [resO, sgn_par]
 by_cases h : ((a.len : Int) - 1) % 2 = 1 ∧ ((b.len : Int) - 1) % 2 = 1
 ·rw [if_pos h, if_pos (par_mul.2 ⟨by omega, by omega⟩)]; grind
 ·rw [if_neg h, if_neg (fun e => h ⟨by have := (par_mul.1 e).1; omega, by have := (par_mul.1 e).2; omega⟩)]; grind
theorem resF_syl : ∀ (f : Nat) (o : Rat) (a b : Pol), a ≠ 0 → b ≠ 0 → b.len ≤ f → resF f o a b = o * syl a b
 | 0, o, a, b, ha, hb, hf => by have := Poly.len_pos hb; omega
 | f + 1, o, a, b, ha, hb, hf => by
  rw [resF]
  split
  ·rename_i h; rw [syl_one hb h]
  ·rename_i h
   split
   ·rename_i hr; rw [syl_zero hb h hr]; grind
   ·rename_i hr
    have := Poly.mod_len (p := a) hb
    rw [resF_syl f _ b (a % b) hb hr (by omega), resO_sgn ha hb, syl_step hb (mod_le hb) hr]; grind
def resS (p q : Pol) : Rat := if p = 0 ∨ q = 0 then 0 else syl p q
theorem resS_ne {p q : Pol} (hp : p ≠ 0) (hq : q ≠ 0) : resS p q = syl p q := if_neg fun h => h.elim hp hq
theorem res_call {p q : Pol} {K T n : Nat} (hp : CDB n p) (hq : CDB n q) (hs : p.len + q.len ≤ 28) (hc : chk0 n p.len q.len = true) (hE : q ≠ 0 → EB K T p q) (hKs : K ≤ 137438953000) : FnP Tryz.prog tb F_qpoly_Resultant [encP p, encP q] (encQ (resS p q)) := by
 by_cases h : p = 0 ∨ q = 0
 ·rw [resS, if_pos h]; exact qpoly_Resultant0 p q h
 ·have hp0 : p ≠ 0 := fun e => h (.inl e)
  have hq0 : q ≠ 0 := fun e => h (.inr e)
  have := qpoly_Resultant p q hp0 hq0 (resOK_of hp0 hq0 hp hq hs hc) (hE hq0) hKs (by omega)
  rw [resF_syl _ _ _ _ hp0 hq0 (Nat.le_refl _), show (1 : Rat) * syl p q = syl p q by grind] at this
  rw [resS_ne hp0 hq0]; exact this
theorem one_pow_ne {a : Rat} (h : a ≠ 0) : ∀ n : Nat, a ^ n ≠ 0
 | 0 => by rw [Rat.pow_zero]; decide
 | n + 1 => by rw [Rat.pow_succ]; exact Poly.fmul_ne (one_pow_ne h n) h
theorem syl_cop : ∀ (f : Nat) (a b : Pol), a ≠ 0 → b ≠ 0 → b.len ≤ f → (syl a b ≠ 0 ↔ (a.gcd b).len = 1)
 | 0, a, b, ha, hb, hf => by have := Poly.len_pos hb; omega
 | f + 1, a, b, ha, hb, hf => by
  by_cases h : b.len ≤ 1
  ·rw [syl_one hb h]
   have h1 := Poly.dvd_len (Poly.gcd_is a b).right hb
   have h2 := Poly.len_pos (Poly.per_ne hb (p := a)).1
   exact ⟨fun _ => by omega, fun _ => one_pow_ne (Poly.lead_ne hb) _⟩
  ·by_cases hr : a % b = 0
   ·rw [syl_zero hb h hr, Poly.gcd_mod hb, hr, Poly.gcd_zero, Poly.monic_len]
    exact ⟨fun h9 => absurd rfl h9, fun h9 => by omega⟩
   ·have hm := Poly.mod_len (p := a) hb
    rw [Poly.gcd_mod hb, ← syl_cop f b (a % b) hb hr (by omega), syl_step hb (mod_le hb) hr]
    have h1 : ((-1 : Rat)) ^ ((a.len - 1) * (b.len - 1)) ≠ 0 := one_pow_ne (by decide) _
    have h2 := one_pow_ne (Poly.lead_ne hb) (a.len - (a % b).len)
    exact ⟨fun h9 e => h9 (by rw [e]; grind), fun h9 => Poly.fmul_ne h1 (Poly.fmul_ne h2 h9)⟩
theorem resS_symm (p q : Pol) : resS p q = if ((p.len : Int) - 1) % 2 = 1 ∧ ((q.len : Int) - 1) % 2 = 1 then -resS q p else resS q p := by
 by_cases h : p = 0 ∨ q = 0
 ·rw [resS, if_pos h, resS, if_pos h.symm]; split <;> grind
 ·have hp0 : p ≠ 0 := fun e => h (.inl e)
  have hq0 : q ≠ 0 := fun e => h (.inr e)
  have h1 := Poly.len_pos hp0
  have h2 := Poly.len_pos hq0
  rw [resS_ne hp0 hq0, resS_ne hq0 hp0, syl_symm, sgn_par]
  by_cases h : ((p.len : Int) - 1) % 2 = 1 ∧ ((q.len : Int) - 1) % 2 = 1
  ·rw [if_pos h, if_pos (par_mul.2 ⟨by omega, by omega⟩)]; grind
  ·rw [if_neg h, if_neg (fun e => h ⟨by have := (par_mul.1 e).1; omega, by have := (par_mul.1 e).2; omega⟩)]; grind
theorem resS_mul {p q r : Pol} (hp : p ≠ 0) (hq : q ≠ 0) : resS p (q * r) = resS p q * resS p r := by
 by_cases hr : r = 0
 ·subst hr
  rw [show q * 0 = 0 by grind, resS, if_pos (.inr rfl)]; grind
 ·rw [resS_ne hp (Poly.mul_ne hq hr), resS_ne hp hq, resS_ne hp hr, syl_mul hp hq hr]
end Go.Proofs.YtacenhlcfeepgaaGreat
namespace Go.Proofs.YtacenhlcfeepgaaGreat
open Go Eng
theorem imp_sp {K : Nat} {tb : Tab} {s : Sta} {sl : Slots} {h : Heap} {nx : Nat} (h1 : GetAll s.sl sl) (h2 : ∀ id o, get h id = some (some o) → get s.h id = some (some o)) (h3 : s.nx ≤ nx) : Imp K tb s ⟨sl, h, nx, s.df⟩ := by
 intro G w a φ S _ _ hr
 refine ⟨φ, S, ⟨⟨fun id o ho => hr.hr.hh id o (h2 _ _ ho), fun i j b hi hj => hr.hr.inj i j b ?_ ?_, fun i hi => hr.hr.fr i (Nat.le_trans h3 hi), hr.hr.φlt, hr.hr.φX, hr.hr.Slt, hr.hr.SS, hr.hr.Snew, hr.hr.frame⟩, fun d v hv => hr.sl d v (h1.spec _ _ hv), hr.nt, hr.df, hr.kp, hr.nc⟩⟩
 ·obtain ⟨o, ho⟩ := hi; exact ⟨o, h2 _ _ ho⟩
 ·obtain ⟨o, ho⟩ := hj; exact ⟨o, h2 _ _ ho⟩
theorem imp_tr {K : Nat} {tb : Tab} {s : Sta} {sl : Slots} {h : Heap} {nx : Nat} (h1 : GetAll s.sl sl) (h2 : ∀ id o, get h id = some (some o) → get s.h id = some (some o)) (h3 : slLt nx sl = true) (h4 : ∀ id o, get h id = some (some o) → id < nx ∧ o.lt nx) : Imp K tb s ⟨sl, h, nx, s.df⟩ := by
 intro G w a φ S hK0 hk0 hr
 have tr : ∀ i b, trim φ nx i = some b → φ i = some b := fun i b hb => by unfold trim at hb; split at hb; exact hb; cases hb
 refine ⟨trim φ nx, S, ⟨⟨fun id o ho => ?_, fun i j b hi hj k1 k2 => hr.hr.inj i j b ?_ ?_ (tr _ _ k1) (tr _ _ k2), fun i hi => ?_, fun i b hb => hr.hr.φlt i b (tr _ _ hb), fun i b hb => hr.hr.φX i b (tr _ _ hb), hr.hr.Slt, hr.hr.SS, hr.hr.Snew, hr.hr.frame⟩, fun d v hv => (hr.sl d v (h1.spec _ _ hv)).trim (slLt.spec h3 d v hv), hr.nt, hr.df, ⟨hr.kp.hw, hr.kp.hS, fun i b hb => trim_lt (hr.kp.hφ i b hb) (Nat.ble_eq ▸ Nat.lt_of_lt_of_le (G.hφ0 i b hb) (by rw [hK0]; exact hk0) : Nat.ble (i + 1) nx = true), hr.kp.hz⟩, hr.nc⟩⟩
 ·obtain ⟨k1, k2⟩ := h4 id o (by exact ho)
  obtain ⟨b, j1, j2, j3, j4⟩ := hr.hr.hh id o (h2 _ _ ho)
  exact ⟨b, by simp [trim, k1, j1], j2, j3, j4.trim k2⟩
 ·obtain ⟨o, ho⟩ := hi; exact ⟨o, h2 _ _ ho⟩
 ·obtain ⟨o, ho⟩ := hj; exact ⟨o, h2 _ _ ho⟩
 ·have hi : nx ≤ i := hi
  unfold trim; rw [if_neg (by omega)]
theorem get_fam {α : Type} (ids : Nat → Nat) (f : Nat → α) : ∀ (l : List Nat), (∀ i, i ∈ l → ∀ j, j ∈ l → ids i = ids j → i = j) → ∀ i, i ∈ l → get (l.map fun i => (ids i, f i)) (ids i) = some (f i)
 | [], _, i, h => by cases h
 | a :: l, hI, i, h => by
  rw [List.map_cons, get_cons]
  by_cases e : ids a = ids i
  ·rw [if_pos e, hI a (List.mem_cons_self ..) i h e]
  ·rw [if_neg e]
   rcases List.mem_cons.1 h with h1 | h1
   ·exact absurd (by rw [h1]) e
   ·exact get_fam ids f l (fun i hi j hj => hI i (List.mem_cons_of_mem _ hi) j (List.mem_cons_of_mem _ hj)) i h1
theorem get_fam_some {α : Type} (ids : Nat → Nat) (f : Nat → α) {x : Nat} {y : α} : ∀ (l : List Nat), get (l.map fun i => (ids i, f i)) x = some y → ∃ i, i ∈ l ∧ x = ids i ∧ y = f i
 | [], h => by simp [Eng.get] at h
 | a :: l, h => by
  rw [List.map_cons, get_cons] at h
  by_cases e : ids a = x
  ·rw [if_pos e] at h; injection h with h; exact ⟨a, List.mem_cons_self .., e.symm, h.symm⟩
  ·rw [if_neg e] at h
   obtain ⟨i, h1, h2⟩ := get_fam_some ids f l h
   exact ⟨i, List.mem_cons_of_mem _ h1, h2⟩
abbrev rowO (n : Nat) (g : Nat → Rat) : Eng.Obj := .arr T_Rat ((List.range n).map fun k => AV.t (encQ (g k)))
def rowH (n : Nat) (ids : Nat → Nat) (M : Nat → Nat → Rat) (k : Nat) : Heap := (List.range k).map fun i => (ids i, some (rowO n (M i)))
theorem get_rowH {n k i : Nat} {ids : Nat → Nat} {M : Nat → Nat → Rat} (hI : ∀ i j, i < k → j < k → ids i = ids j → i = j) (hi : i < k) : get (rowH n ids M k) (ids i) = some (some (rowO n (M i))) :=
 get_fam ids (fun i => some (rowO n (M i))) (List.range k) (fun i hi j hj => hI i j (List.mem_range.1 hi) (List.mem_range.1 hj)) i (List.mem_range.2 hi)
theorem rowH_some {n k x : Nat} {ids : Nat → Nat} {M : Nat → Nat → Rat} {o : Eng.Obj} (h : get (rowH n ids M k) x = some (some o)) : ∃ i, i < k ∧ x = ids i ∧ o = rowO n (M i) := by
 obtain ⟨i, h1, h2, h3⟩ := get_fam_some ids (fun i => some (rowO n (M i))) (List.range k) h
 injection h3 with h3
 exact ⟨i, List.mem_range.1 h1, h2, h3⟩
theorem rowH_congr {n k : Nat} {ids : Nat → Nat} {M M' : Nat → Nat → Rat} (h : ∀ i, i < k → ∀ j, j < n → M i j = M' i j) : rowH n ids M k = rowH n ids M' k := by
 refine List.map_congr_left fun i hi => ?_
 have : rowO n (M i) = rowO n (M' i) := by
  unfold rowO; congr 1
  exact List.map_congr_left fun j hj => by rw [h i (List.mem_range.1 hi) j (List.mem_range.1 hj)]
 rw [this]
theorem rng_at {α : Type} {f : Nat → α} {n i x : Nat} (hx : x = i) (h : i < n) : ((List.range n).map f)[x]? = some (f i) := by
 subst hx; rw [List.getElem?_map, List.getElem?_range h]; rfl
theorem rng_set {α : Type} {f : Nat → α} {n i : Nat} {v : α} : ((List.range n).map f).set i v = (List.range n).map fun j => if j = i then v else f j := by
 refine List.ext_getElem (by simp) fun j h1 h2 => ?_
 rw [List.getElem_set, List.getElem_map, List.getElem_map, List.getElem_range]
 by_cases e : i = j
 ·rw [if_pos e, if_pos e.symm]
 ·rw [if_neg e, if_neg (Ne.symm e)]
theorem get_row3 {n k i : Nat} {ids : Nat → Nat} {M : Nat → Nat → Rat} {g : Nat → Rat} {a b c : Option Eng.Obj} (hI : ∀ i j, i < k → j < k → ids i = ids j → i = j) (hR : 0 < ids i ∧ ids i < 1000) (hi : i < k) (hg : M i = g) :
  get ((0, a) :: (1000, b) :: (1001, c) :: rowH n ids M k) (ids i) = some (some (rowO n g)) := by
 rw [get_cons, if_neg (by omega), get_cons, if_neg (by omega), get_cons, if_neg (by omega), get_rowH hI hi, hg]
theorem get_row4 {n k i : Nat} {ids : Nat → Nat} {M : Nat → Nat → Rat} {g : Nat → Rat} {a b c d : Option Eng.Obj} (hI : ∀ i j, i < k → j < k → ids i = ids j → i = j) (hR : 0 < ids i ∧ ids i < 1000) (hi : i < k) (hg : M i = g) :
  get ((1002, d) :: (0, a) :: (1000, b) :: (1001, c) :: rowH n ids M k) (ids i) = some (some (rowO n g)) := by
 rw [get_cons, if_neg (by omega), get_row3 hI hR hi hg]
theorem get_skip {α : Type} {h : List (Nat × α)} {k x : Nat} {v : α} {y : Option α} (hne : k ≠ x) (hg : get h x = y) : get ((k, v) :: h) x = y := by rw [get_cons, if_neg hne]; exact hg
theorem sign_T {q : Rat} (h : q = 0) : (q.num.sign == 0) = true := by rw [h]; rfl
theorem sign_F {q : Rat} (h : q ≠ 0) : (q.num.sign == 0) = false := beq_eq_false_iff_ne.2 fun e => h (Rat.num_eq_zero.1 (Int.sign_eq_zero_iff_zero.1 e))
theorem sign_z {q : Rat} (h : (q.num.sign == 0) = true) : q = 0 := Rat.num_eq_zero.1 (Int.sign_eq_zero_iff_zero.1 (beq_iff_eq.1 h))
theorem sign_n {q : Rat} (h : (q.num.sign == 0) = false) : q ≠ 0 := fun e => by rw [e] at h; cases h
def partM (c i : Nat) (M : Nat → Nat → Rat) : Nat → Nat → Rat := fun r j => if r < i then clearM c M r j else M r j
theorem partM_ge {c i r : Nat} {M : Nat → Nat → Rat} (h : i ≤ r) : partM c i M r = M r := funext fun j => by rw [partM, if_neg (by omega)]
theorem partM_c {c i r : Nat} {M : Nat → Nat → Rat} (h : r ≤ c) : partM c i M r = M r := funext fun j => by
 rw [partM]; split
 ·rw [clearM, if_pos h]
 ·rfl
theorem partM_in (c : Nat) (M : Nat → Nat → Rat) : partM c (c + 1) M = M := funext fun r => by
 by_cases h : r ≤ c
 ·exact partM_c h
 ·exact partM_ge (by omega)
theorem partM_out {n c : Nat} {ids : Nat → Nat} {M : Nat → Nat → Rat} : rowH n ids (partM c n M) n = rowH n ids (clearM c M) n := rowH_congr fun r hr j hj => by rw [partM, if_pos hr]
def kM (c i k : Nat) (M : Nat → Nat → Rat) : Nat → Nat → Rat := fun r j => if r = i then (if c ≤ j ∧ j < k then M i j - M i c / M c c * M c j else M i j) else partM c i M r j
theorem kM_in (c i : Nat) (M : Nat → Nat → Rat) : kM c i c M = partM c i M := funext fun r => funext fun j => by
 rw [kM]
 by_cases h : r = i
 ·rw [if_pos h, if_neg (by omega), h, partM_ge (Nat.le_refl _)]
 ·rw [if_neg h]
theorem kM_c {c i k : Nat} {M : Nat → Nat → Rat} (h : c < i) : kM c i k M c = M c := funext fun j => by
 rw [kM, if_neg (by omega), partM_c (Nat.le_refl _)]
theorem kM_out {n c i k : Nat} {ids : Nat → Nat} {M : Nat → Nat → Rat} (h1 : c < i) (hZ : ∀ j, j < c → M i j = 0 ∧ M c j = 0) (h : k = n ∨ M i c / M c c = 0) : rowH n ids (kM c i k M) n = rowH n ids (partM c (i + 1) M) n := rowH_congr fun r hr j hj => by
 by_cases e : r = i
 ·subst e
  rw [show partM c (r + 1) M r j = M r j - M r c / M c c * M c j by rw [partM, if_pos (by omega), clearM, if_neg (by omega)], kM, if_pos rfl]
  split
  ·rfl
  ·rename_i hn
   rcases h with h | h
   ·rw [(hZ j (by omega)).1, (hZ j (by omega)).2]; grind
   ·rw [h]; grind
 ·rw [kM, if_neg e]
  simp only [partM]
  by_cases h2 : r < i
  ·rw [if_pos h2, if_pos (by omega)]
  ·rw [if_neg h2, if_neg (by omega)]
theorem kM_at {c i k : Nat} {M : Nat → Nat → Rat} : kM c i k M i k = M i k := by rw [kM, if_pos rfl, if_neg (by omega)]
theorem clear_zero {n c : Nat} {M : Nat → Nat → Rat} (hp : M c c ≠ 0) (hZ : ∀ i j, c ≤ i → i < n → j < c → M i j = 0) (hc : c < n) : ∀ i j, c + 1 ≤ i → i < n → j < c + 1 → clearM c M i j = 0 := fun i j h1 h2 h3 => by
 rw [clearM, if_neg (by omega)]
 by_cases e : j = c
 ·rw [e]; grind
 ·rw [hZ i j (by omega) h2 (by omega), hZ c j (Nat.le_refl _) hc (by omega)]; grind
theorem clear_bq {n c : Nat} {M : Nat → Nat → Rat} (hB : ∀ i j, i < n → j < n → Bq (2 * 5 ^ c) (M i j)) (hc : c < n) : ∀ i j, i < n → j < n → Bq (2 * 5 ^ (c + 1)) (clearM c M i j) := fun i j h1 h2 => by
 have h5 : 0 < 5 ^ c := Nat.pow_pos (by decide)
 have e : 2 * 5 ^ (c + 1) = 5 * (2 * 5 ^ c) := by rw [Nat.pow_succ]; omega
 rw [clearM, e]
 split
 ·exact (hB i j h1 h2).le (by omega)
 ·exact ((hB i j h1 h2).sub (((hB i c h1 hc).div (hB c c hc hc)).mul (hB c j hc h2))).le (by omega)
theorem swap_heap {n c i x y : Nat} {ids : Nat → Nat} {M : Nat → Nat → Rat} {a b b' : Option Eng.Obj} (hI : ∀ i j, i < n → j < n → ids i = ids j → i = j) (hR : ∀ i, i < n → 0 < ids i ∧ ids i < 1000) (hc : c < i) (hi : i < n) (hx : x = i) (hy : y = c) :
  ∀ id o, get ((0, some (.arr T_L_Rat ((List.range n).map fun j => AV.own T_Rat (swapM i c ids j) 0 n))) :: (1000, a) :: (1001, b) :: rowH n (swapM i c ids) (swapM i c M) n) id = some (some o) →
   get ((1001, b) :: (0, some (.arr T_L_Rat ((((List.range n).map fun j => AV.own T_Rat (ids j) 0 n).set x (.own T_Rat (ids c) 0 n)).set y (.own T_Rat (ids i) 0 n)))) :: (0, some (.arr T_L_Rat (((List.range n).map fun j => AV.own T_Rat (ids j) 0 n).set x (.own T_Rat (ids c) 0 n)))) :: (0, some (.arr T_L_Rat ((List.range n).map fun j => AV.own T_Rat (ids j) 0 n))) :: (1000, a) :: (1001, b') :: rowH n ids M n) id = some (some o) := fun id o ho => by
 subst hx hy
 have e : (((List.range n).map fun j => AV.own T_Rat (ids j) 0 n).set x (.own T_Rat (ids y) 0 n)).set y (.own T_Rat (ids x) 0 n) = (List.range n).map fun j => AV.own T_Rat (swapM x y ids j) 0 n := by
  rw [rng_set, rng_set]
  refine List.map_congr_left fun j _ => ?_
  unfold swapM
  by_cases h1 : j = y
  ·rw [if_pos h1, if_neg (by omega), if_pos h1]
  ·rw [if_neg h1]
   by_cases h2 : j = x
   ·rw [if_pos h2, if_pos h2]
   ·rw [if_neg h2, if_neg h2, if_neg h1]
 rw [e]
 simp only [get_cons] at ho ⊢
 by_cases h0 : 0 = id
 ·subst h0; simpa using ho
 ·by_cases h1 : 1000 = id
  ·subst h1; simpa using ho
  ·by_cases h2 : 1001 = id
   ·subst h2; simpa using ho
   ·simp only [h0, h1, h2, if_false] at ho ⊢
    obtain ⟨k, k1, k2, k3⟩ := rowH_some ho
    have hk : ∃ r, r < n ∧ swapM x y ids k = ids r ∧ swapM x y M k = M r := by
     unfold swapM
     by_cases h3 : k = x
     ·exact ⟨y, by omega, by rw [if_pos h3], by rw [if_pos h3]⟩
     ·by_cases h4 : k = y
      ·exact ⟨x, hi, by rw [if_neg h3, if_pos h4], by rw [if_neg h3, if_pos h4]⟩
      ·exact ⟨k, k1, by rw [if_neg h3, if_neg h4], by rw [if_neg h3, if_neg h4]⟩
    obtain ⟨r, r1, r2, r3⟩ := hk
    rw [k2, r2, get_rowH hI r1, k3, r3]
theorem swap_inj {n c i : Nat} {ids : Nat → Nat} (hI : ∀ i j, i < n → j < n → ids i = ids j → i = j) (hc : c < n) (hi : i < n) : ∀ a b, a < n → b < n → swapM i c ids a = swapM i c ids b → a = b := fun a b ha hb e => by
 have e1 : ∀ k, swapM i c ids k = ids (if k = i then c else if k = c then i else k) := fun k => by
  unfold swapM; split
  ·rfl
  ·split <;> rfl
 rw [e1, e1] at e
 have := hI _ _ (by split <;> (try split) <;> omega) (by split <;> (try split) <;> omega) e
 split at this <;> (try split at this) <;> (try split at this) <;> (try split at this) <;> omega
theorem swap_all {α : Type} {P : α → Prop} {n c i : Nat} {f : Nat → α} (h : ∀ k, k < n → P (f k)) (hc : c < n) (hi : i < n) : ∀ k, k < n → P (swapM i c f k) := fun k hk => by
 unfold swapM; split
 ·exact h c hc
 ·split
  ·exact h i hi
  ·exact h k hk
theorem row_set {n c i k x : Nat} {ids : Nat → Nat} {M : Nat → Nat → Rat} {a b b' d : Option Eng.Obj} {v : Rat} (hI : ∀ i j, i < n → j < n → ids i = ids j → i = j) (hR : ∀ i, i < n → 0 < ids i ∧ ids i < 1000) (hc : c ≤ k) (hi : i < n) (hx : x = k) (hv : v = M i k - M i c / M c c * M c k) :
  ∀ id o, get ((1002, d) :: (0, a) :: (1000, b) :: (1001, b') :: rowH n ids (kM c i (k + 1) M) n) id = some (some o) →
   get ((ids i, some (.arr T_Rat (((List.range n).map fun j => AV.t (encQ (kM c i k M i j))).set x (.t (encQ v))))) :: (1002, d) :: (0, a) :: (1000, b) :: (1001, b') :: rowH n ids (kM c i k M) n) id = some (some o) := fun id o ho => by
 subst hx
 have hRi := hR i hi
 rw [rng_set, get_cons]
 by_cases hid : ids i = id
 ·rw [if_pos hid]
  subst hid
  rw [get_row4 hI hRi hi rfl] at ho
  rw [← ho]
  congr 2
  unfold rowO; congr 1
  refine List.map_congr_left fun j _ => ?_
  by_cases h : j = x
  ·rw [if_pos h, hv, h, kM, if_pos rfl, if_pos ⟨hc, by omega⟩]
  ·rw [if_neg h, kM, kM, if_pos rfl, if_pos rfl]
   by_cases h2 : c ≤ j ∧ j < x
   ·rw [if_pos h2, if_pos (by omega)]
   ·rw [if_neg h2, if_neg (by omega)]
 ·rw [if_neg hid]
  simp only [get_cons] at ho ⊢
  by_cases h0 : 1002 = id
  ·subst h0; simpa using ho
  ·by_cases h1 : 0 = id
   ·subst h1; simpa using ho
   ·by_cases h2 : 1000 = id
    ·subst h2; simpa using ho
    ·by_cases h3 : 1001 = id
     ·subst h3; simpa using ho
     ·simp only [h0, h1, h2, h3, if_false] at ho ⊢
      obtain ⟨r, r1, r2, r3⟩ := rowH_some ho
      rw [r2, get_rowH hI r1, r3]
      have hri : r ≠ i := fun e => hid (by rw [r2, e])
      have : kM c i x M r = kM c i (x + 1) M r := funext fun j => by rw [kM, kM, if_neg hri, if_neg hri]
      rw [this]
theorem getall_list (h : Heap) : ∀ l : List Nat, (∀ i, i ∈ l → get h i = some none) → GetAllH h (l.map fun i => (i, none))
 | [], _ => trivial
 | a :: l, hl => ⟨hl a (List.mem_cons_self ..), getall_list h l fun i hi => hl i (List.mem_cons_of_mem _ hi)⟩
theorem getall_none (n : Nat) (hn : n < 999) {v : Option Eng.Obj} : GetAllH ((1000, v) :: (List.range (n + 1)).map (fun i => (i, none))) ((List.range (n + 1)).map fun i => (i, none)) := by
 refine getall_list _ _ fun i hi => ?_
 have := List.mem_range.1 hi
 rw [get_cons, if_neg (by omega)]
 exact get_fam (fun i => i) (fun _ => (none : Option Eng.Obj)) _ (fun _ _ _ _ e => e) i hi
theorem none_some (n : Nat) {x : Nat} {o : Eng.Obj} (h : get ((List.range (n + 1)).map (fun i => (i, (none : Option Eng.Obj)))) x = some (some o)) : False := by
 obtain ⟨i, _, _, h3⟩ := get_fam_some (fun i => i) (fun _ => (none : Option Eng.Obj)) _ h
 cases h3
theorem heap_lt {n : Nat} {ids : Nat → Nat} {M : Nat → Nat → Rat} {x y : Tr} (hR : ∀ i, i < n → 0 < ids i ∧ ids i < 1000) : ∀ id o, get ((0, some (Eng.Obj.arr T_L_Rat ((List.range n).map fun i => AV.own T_Rat (ids i) 0 n))) :: (1000, some (.arr T_Rat [.t x])) :: (1001, some (.arr T_Rat [.t y])) :: rowH n ids M n) id = some (some o) → id < 1002 ∧ o.lt 1002 := fun id o ho => by
 simp only [get_cons] at ho
 by_cases h0 : 0 = id
 ·subst h0
  simp only [if_true, Option.some.injEq] at ho
  subst ho
  refine ⟨by decide, fun a ha => ?_⟩
  obtain ⟨i, hi, rfl⟩ := List.mem_map.1 ha
  have := hR i (List.mem_range.1 hi)
  exact Nat.ble_eq_true_of_le (by omega)
 ·by_cases h1 : 1000 = id
  ·subst h1
   simp at ho
   subst ho
   exact ⟨by decide, fun a ha => by rw [List.mem_singleton.1 ha]; rfl⟩
  ·by_cases h2 : 1001 = id
   ·subst h2
    simp at ho
    subst ho
    exact ⟨by decide, fun a ha => by rw [List.mem_singleton.1 ha]; rfl⟩
   ·simp only [h0, h1, h2, if_false] at ho
    obtain ⟨r, r1, r2, r3⟩ := rowH_some ho
    have := hR r r1
    refine ⟨by omega, ?_⟩
    rw [r3]
    intro a ha
    obtain ⟨i, hi, rfl⟩ := List.mem_map.1 ha
    rfl
theorem det_start (n : Nat) (M : Nat → Nat → Rat) : ∀ id o, get ((0, some (Eng.Obj.arr T_L_Rat ((List.range n).map fun i => AV.own T_Rat (i + 1) 0 n))) :: rowH n (fun i => i + 1) M n) id = some (some o) →
  get (mkH 0 (.arr T_L_Rat ((List.range n).map fun i => AV.own T_Rat (i + 1) 0 n) :: (List.range n).map fun i => rowO n (M i))) id = some (some o) := fun id o ho => by
 rw [get_mkH, if_pos (Nat.zero_le _), Nat.sub_zero]
 rw [get_cons] at ho
 by_cases h0 : 0 = id
 ·subst h0; rw [if_pos rfl] at ho; exact ho
 ·rw [if_neg h0] at ho
  obtain ⟨r, r1, r2, r3⟩ := rowH_some ho
  rw [r2, List.getElem?_cons_succ, List.getElem?_map, List.getElem?_range r1, r3]; rfl
theorem lit_in {a b c c' : Option Eng.Obj} {H : Heap} : ∀ id o, get ((0, a) :: (1000, b) :: (1001, c) :: H) id = some (some o) → get ((1001, c) :: (1001, c') :: (1000, b) :: (0, a) :: H) id = some (some o) := fun id o ho => by
 simp only [get_cons] at ho ⊢
 by_cases h0 : 0 = id
 ·subst h0; simpa using ho
 ·by_cases h1 : 1000 = id
  ·subst h1; simpa using ho
  ·by_cases h2 : 1001 = id
   ·subst h2; simpa using ho
   ·simpa only [h0, h1, h2, if_false] using ho
theorem lit_out {a b c c' : Option Eng.Obj} {H H' : Heap} (e : H = H') : ∀ id o, get ((0, a) :: (1000, b) :: (1001, c) :: H) id = some (some o) → get ((1001, c) :: (0, a) :: (1000, b) :: (1001, c') :: H') id = some (some o) := fun id o ho => by
 subst e
 simp only [get_cons] at ho ⊢
 by_cases h0 : 0 = id
 ·subst h0; simpa using ho
 ·by_cases h1 : 1000 = id
  ·subst h1; simpa using ho
  ·by_cases h2 : 1001 = id
   ·subst h2; simpa using ho
   ·simpa only [h0, h1, h2, if_false] using ho
theorem lit_f {d d' : Option Eng.Obj} {H H' : Heap} (e : H = H') : ∀ id o, get ((1002, d) :: H) id = some (some o) → get ((1002, d) :: (1002, d') :: H') id = some (some o) := fun id o ho => by
 subst e
 simp only [get_cons] at ho ⊢
 by_cases h0 : 1002 = id
 ·subst h0; simpa using ho
 ·simpa only [h0, if_false] using ho
theorem lit_x {d : Option Eng.Obj} {a b c : Option Eng.Obj} {H H' : Heap} (e : H = H') (hx : get H 1002 = none) : ∀ id o, get ((0, a) :: (1000, b) :: (1001, c) :: H) id = some (some o) → get ((1002, d) :: (0, a) :: (1000, b) :: (1001, c) :: H') id = some (some o) := fun id o ho => by
 subst e
 simp only [get_cons] at ho ⊢
 by_cases h0 : 1002 = id
 ·subst h0; simp [hx] at ho
 ·simpa only [h0, if_false] using ho
theorem rowH_big {n : Nat} {ids : Nat → Nat} {M : Nat → Nat → Rat} {x : Nat} (hR : ∀ i, i < n → 0 < ids i ∧ ids i < 1000) (hx : 1000 ≤ x) : get (rowH n ids M n) x = none := by
 cases h : get (rowH n ids M n) x with
 | none => rfl
 | some y =>
  obtain ⟨i, h1, h2, h3⟩ := get_fam_some ids (fun i => some (rowO n (M i))) (List.range n) h
  have := hR i (List.mem_range.1 h1)
  omega
theorem lit_end {n : Nat} {x : Eng.Obj} {H : Heap} (hH : get H 1000 = some (some x)) : ∀ id o, get ((1000, some x) :: (List.range (n + 1)).map (fun i => (i, none))) id = some (some o) → get H id = some (some o) := fun id o ho => by
 rw [get_cons] at ho
 by_cases h0 : 1000 = id
 ·subst h0; rw [if_pos rfl] at ho; rw [← ho]; exact hH
 ·rw [if_neg h0] at ho; exact (none_some n ho).elim
theorem det_H (n : Nat) (M0 : Nat → Nat → Rat) (hn : n ≤ 10) (hB0 : ∀ i j, i < n → j < n → Bq 2 (M0 i j)) : FnH Tryz.prog tb F_ref03_det [.own T_L_Rat 0 0 n] (.arr T_L_Rat ((List.range n).map fun i => AV.own T_Rat (i + 1) 0 n) :: (List.range n).map fun i => rowO n (M0 i)) (.t (encQ (detP n 0 M0))) ((List.range (n + 1)).map fun i => (i, none)) 1002 := by
 refine fnH_of tbOk Tryz.func105 rfl rfl (Nat.le_of_ble_eq_true rfl) fun G hG hK => ?_
 have hF : Wd Fence.wide := .inl rfl
 refine wp_imp hK (s' := ⟨[(0, .own T_L_Rat 0 0 n)], (0, some (.arr T_L_Rat ((List.range n).map fun i => AV.own T_Rat (i + 1) 0 n))) :: rowH n (fun i => i + 1) M0 n, 1000, 0⟩) (imp_sp ⟨rfl, trivial⟩ (det_start n M0) (by simp only [List.length_cons, List.length_map, List.length_range]; omega)) ?_ (Nat.ble_eq_true_of_le (by simp only [List.length_cons, List.length_map, List.length_range]; omega))
 refine sx 13 ?_
 refine wp_l hK (fun ((c, out, ids, M) : Nat × Rat × (Nat → Nat) × (Nat → Nat → Rat)) => ⟨[(0, .own T_L_Rat 0 0 n), (2, .ptr T_Rat 1000 0 0), (3, .ptr T_Rat 1001 0 0), (4, .t (.i .i64 c))], (0, some (.arr T_L_Rat ((List.range n).map fun i => AV.own T_Rat (ids i) 0 n))) :: (1000, some (.arr T_Rat [.t (encQI 0 0)])) :: (1001, some (.arr T_Rat [.t (encQ (out))])) :: rowH n (ids) (M) n, 1002, 0⟩) (fun (c, out, ids, M) => c ≤ n ∧ (∀ i j, i < n → j < n → ids i = ids j → i = j) ∧ (∀ i, i < n → 0 < ids i ∧ ids i < 1000) ∧ out * detP n c M = detP n 0 M0 ∧ (∀ i j, c ≤ i → i < n → j < c → M i j = 0) ∧ (∀ i j, i < n → j < n → Bq (2 * 5 ^ c) (M i j)) ∧ Bq (1 + c * 20000000) out) (fun (c, _, _, _) => n - c) (0, ((1 : Int) : Rat), (fun i => i + 1), M0) ?_ (fun _ => Nat.ble_eq_true_of_le (by simp only [List.length_cons, List.length_map, List.length_range]; omega)) ?_ ?_
 ·exact ⟨Nat.zero_le _, fun i j _ _ e => Nat.add_right_cancel e, fun i hi => ⟨Nat.succ_pos i, show i + 1 < 1000 by omega⟩, by rw [show ((1 : Int) : Rat) = 1 from rfl]; grind, fun i j _ _ h => by omega, fun i j h1 h2 => hB0 i j h1 h2, Bq.one⟩
 ·exact imp_sp ga lit_in (Nat.le_refl _)
 ·rintro ⟨c, out, ids, M⟩ ⟨hc0, hI, hR, hD, hZ, hB, hO⟩
  have h5 : 5 ^ c ≤ 9765625 := Nat.le_trans (Nat.pow_le_pow_right (show 0 < 5 by decide) (show c ≤ 10 by omega)) (by decide)
  have hBs : ∀ i j, i < n → j < n → Bq 20000000 (M i j) := fun i j h1 h2 => (hB i j h1 h2).le (by omega)
  refine sx 7 ?_
  refine wp_c rfl (fun hc => ?_) (fun hc => ?_)
  ·have hcn : c < n := by simpa using hc
   refine sx 10 ?_
   refine wp_l hK (fun i : Nat => ⟨[(0, .own T_L_Rat 0 0 n), (2, .ptr T_Rat 1000 0 0), (3, .ptr T_Rat 1001 0 0), (4, .t (.i .i64 c)), (5, .t (.i .i64 i))], (0, some (.arr T_L_Rat ((List.range n).map fun i => AV.own T_Rat (ids i) 0 n))) :: (1000, some (.arr T_Rat [.t (encQI 0 0)])) :: (1001, some (.arr T_Rat [.t (encQ (out))])) :: rowH n (ids) (M) n, 1002, 0⟩) (fun i => c ≤ i ∧ i ≤ n ∧ ∀ r, c ≤ r → r < i → M r c = 0) (fun i => n - i) c ?_ (fun _ => Nat.ble_eq_true_of_le (by simp only [List.length_cons, List.length_map, List.length_range]; omega)) ?_ ?_
   ·exact ⟨Nat.le_refl _, by omega, fun r h1 h2 => by omega⟩
   ·exact imp_sp ga (fun _ _ h => h) (Nat.le_refl _)
   ·rintro i ⟨hi0, hi1, hs⟩
    refine wp_s ?_
    rcases Nat.lt_or_ge i n with hin | hin
    ·refine sx 9 ?_
     refine gq (z := by (simp; omega)) (.loadVR (yd := rng_at (i := i) (by omega) (by omega)) (yf := fun _ h => by cases h)) ?_
     refine sx 2 ?_
     refine gq (z := by (simp; omega)) (.loadPR (yc := get_row3 hI (hR _ (by omega)) (i := i) (by omega) rfl) (yd := rng_at (i := c) (by omega) (by omega))) ?_
     refine gq (z := by (simp; omega)) (.callR (yb := as1) (yc := ref02_Sign (M i c))) ?_
     refine sx 3 ?_
     refine wp_c rfl (fun hc => ?_) (fun hc => ?_)
     ·have hz := sign_z hc
      refine sx 9 ?_
      exact round_n (i + 1) ⟨by omega, by omega, fun r h1 h2 => by rcases Nat.lt_or_ge r i with h | h; exact hs r h1 h; (rw [show r = i by omega]; exact hz)⟩ (by omega) (by exact imp_sp (by (repeat' (first | exact trivial | (refine And.intro (by rfl) ?_)))) (fun _ _ h => h) (Nat.le_refl _))
     ·have hz := sign_n hc
      refine sx 12 ?_
      refine wp_cF rfl (by exact beq_eq_false_iff_ne.2 (by omega)) ?_
      refine sx 2 ?_
      refine wp_j hK (fun ((ids, M, out) : (Nat → Nat) × (Nat → Nat → Rat) × Rat) => ⟨[(0, .own T_L_Rat 0 0 n), (2, .ptr T_Rat 1000 0 0), (3, .ptr T_Rat 1001 0 0), (4, .t (.i .i64 c))], (0, some (.arr T_L_Rat ((List.range n).map fun i => AV.own T_Rat (ids i) 0 n))) :: (1000, some (.arr T_Rat [.t (encQI 0 0)])) :: (1001, some (.arr T_Rat [.t (encQ (out))])) :: rowH n (ids) (M) n, 1002, 0⟩) (fun (ids, M, out) => (∀ i j, i < n → j < n → ids i = ids j → i = j) ∧ (∀ i, i < n → 0 < ids i ∧ ids i < 1000) ∧ out * detP n c M = detP n 0 M0 ∧ (∀ i j, c ≤ i → i < n → j < c → M i j = 0) ∧ (∀ i j, i < n → j < n → Bq (2 * 5 ^ c) (M i j)) ∧ Bq (1 + c * 20000000) out ∧ M c c ≠ 0) (fun _ => Nat.ble_eq_true_of_le (by simp only [List.length_cons, List.length_map, List.length_range]; omega)) ?_ ?_
      ·rcases (show i = c ∨ c < i by omega) with hic | hic
       ·refine sx 5 ?_
        refine wp_cF rfl (by (subst hic; exact bne_self_eq_false _)) ?_
        refine wp_k ?_
        exact join_n (ids, M, out) ⟨hI, hR, hD, hZ, hB, hO, by rw [← hic]; rw [hic] at hz ⊢; exact hz⟩ (by exact imp_sp (by (repeat' (first | exact trivial | (refine And.intro (by rfl) ?_)))) (fun _ _ h => h) (Nat.le_refl _))
       ·refine sx 5 ?_
        refine wp_cT rfl (by exact bne_iff_ne.2 (by omega)) ?_
        refine sx 4 ?_
        refine oq (.loadVR (yd := rng_at (i := i) (by omega) (by omega)) (yf := fun _ h => by cases h)) ?_
        refine sx 8 ?_
        refine oq (.loadVR (yd := rng_at (i := c) (by omega) (by omega)) (yf := fun _ h => by cases h)) ?_
        refine sx 1 ?_
        refine oe (.storeVR (ye := by ((simp; omega))) (yi := fun _ h => by cases h) (yj := fun h => by cases h) (yk := fun _ h => by cases h)) ?_
        refine sx 6 ?_
        refine oe (.storeVR (ye := by ((simp; omega))) (yi := fun _ h => by cases h) (yj := fun h => by cases h) (yk := fun _ h => by cases h)) ?_
        refine sx 3 ?_
        refine oq (.callR (yb := as1) (yc := ref02_Neg out)) ?_
        refine sx 2 ?_
        exact join_n (swapM i c ids, swapM i c M, -out) ⟨swap_inj hI hcn hin, swap_all (P := fun x => 0 < x ∧ x < 1000) hR hcn hin, by rw [detP_swap hic hin]; rw [← hD]; grind, fun r j h1 h2 h3 => by (unfold swapM; split; exact hZ c j (Nat.le_refl _) hcn h3; (split; exact hZ i j (by omega) hin h3; exact hZ r j h1 h2 h3)), fun r j h1 h2 => swap_all (P := fun g : Nat → Rat => Bq (2 * 5 ^ c) (g j)) (fun k hk => hB k j hk h2) hcn hin r h1, hO.neg, by rw [swapM, if_neg (by omega), if_pos rfl]; exact hz⟩ (by exact imp_sp (by (repeat' (first | exact trivial | (refine And.intro (by rfl) ?_)))) (swap_heap hI hR hic hin (by omega) (by omega)) (Nat.le_refl _))
      ·rintro ⟨ids, M, out⟩ ⟨hI, hR, hD, hZ, hB, hO, hP⟩
       have hBs : ∀ i j, i < n → j < n → Bq 20000000 (M i j) := fun i j h1 h2 => (hB i j h1 h2).le (by omega)
       have hOs : Bq 300000000 out := hO.le (by omega)
       refine sx 5 ?_
       refine dq (.loadVR (yd := rng_at (i := c) (by omega) (by omega)) (yf := fun _ h => by cases h)) ?_
       refine sx 2 ?_
       refine dq (.loadPR (yc := get_row3 hI (hR _ (by omega)) (i := c) (by omega) rfl) (yd := rng_at (i := c) (by omega) (by omega))) ?_
       refine dq (.callR (yb := asc (.inl rfl) as1) (yc := ref02_Mul out (M c c) (hOs.le (by decide)) ((hBs c c hcn hcn).le (by decide)))) ?_
       refine sx 8 ?_
       refine wp_l hK (fun i : Nat => ⟨[(0, .own T_L_Rat 0 0 n), (2, .ptr T_Rat 1000 0 0), (3, .ptr T_Rat 1001 0 0), (4, .t (.i .i64 c)), (5, .t (.i .i64 i))], (0, some (.arr T_L_Rat ((List.range n).map fun i => AV.own T_Rat (ids i) 0 n))) :: (1000, some (.arr T_Rat [.t (encQI 0 0)])) :: (1001, some (.arr T_Rat [.t (encQ (out * M c c))])) :: rowH n (ids) (partM c i M) n, 1002, 0⟩) (fun i => c + 1 ≤ i ∧ i ≤ n) (fun i => n - i) (c + 1) ?_ (fun _ => Nat.ble_eq_true_of_le (by simp only [List.length_cons, List.length_map, List.length_range]; omega)) ?_ ?_
       ·exact ⟨Nat.le_refl _, hcn⟩
       ·exact imp_sp ga (lit_out (by rw [partM_in])) (Nat.le_refl _)
       ·rintro i ⟨hi0, hi1⟩
        refine sx 7 ?_
        refine wp_c rfl (fun hc => ?_) (fun hc => ?_)
        ·have hin : i < n := by simpa using hc
         refine sx 8 ?_
         refine dq (.loadVR (yd := rng_at (i := i) (by omega) (by omega)) (yf := fun _ h => by cases h)) ?_
         refine sx 2 ?_
         refine dq (.loadPR (yc := get_row3 hI (hR _ (by omega)) (i := i) (by omega) (partM_ge (Nat.le_refl _))) (yd := rng_at (i := c) (by omega) (by omega))) ?_
         refine sx 3 ?_
         refine dq (.loadVR (yd := rng_at (i := c) (by omega) (by omega)) (yf := fun _ h => by cases h)) ?_
         refine sx 2 ?_
         refine dq (.loadPR (yc := get_row3 hI (hR _ (by omega)) (i := c) (by omega) (partM_c (Nat.le_refl _))) (yd := rng_at (i := c) (by omega) (by omega))) ?_
         refine dq (.callR (yb := asc (.inl rfl) as1) (yc := ref02_Quo (M i c) (M c c) hP ((hBs i c hin hcn).le (by decide)) ((hBs c c hcn hcn).le (by decide)))) ?_
         refine sx 8 ?_
         refine wp_l hK (fun k : Nat => ⟨[(0, .own T_L_Rat 0 0 n), (2, .ptr T_Rat 1000 0 0), (3, .ptr T_Rat 1001 0 0), (4, .t (.i .i64 c)), (5, .t (.i .i64 i)), (7, .ptr T_Rat 1002 0 0), (8, .t (.i .i64 k))], (1002, some (.arr T_Rat [.t (encQ (M i c / M c c))])) :: (0, some (.arr T_L_Rat ((List.range n).map fun i => AV.own T_Rat (ids i) 0 n))) :: (1000, some (.arr T_Rat [.t (encQI 0 0)])) :: (1001, some (.arr T_Rat [.t (encQ (out * M c c))])) :: rowH n (ids) (kM c i k M) n, 1003, 0⟩) (fun k => c ≤ k ∧ k ≤ n) (fun k => n - k) c ?_ (fun _ => Nat.ble_eq_true_of_le (by simp only [List.length_cons, List.length_map, List.length_range]; omega)) ?_ ?_
         ·exact ⟨Nat.le_refl _, by omega⟩
         ·exact imp_sp ga (lit_f (by rw [kM_in])) (Nat.le_refl _)
         ·rintro k ⟨hk0, hk1⟩
          have hRi := hR i hin
          have hfB : Bq 40000001 (M i c / M c c) := ((hBs i c hin hcn).div (hBs c c hcn hcn)).le (by decide)
          refine wp_s ?_
          rcases (show (k < n ∧ M i c / M c c ≠ 0) ∨ (k < n ∧ M i c / M c c = 0) ∨ k = n by by_cases a : k < n; (by_cases b : M i c / M c c = 0; exact .inr (.inl ⟨a, b⟩); exact .inl ⟨a, b⟩); exact .inr (.inr (by omega))) with ⟨hkn, hf⟩ | ⟨hkn, hf⟩ | hkn
          ·refine sx 7 ?_
           refine gq (z := by (simp; omega)) (.callR (yb := as1) (yc := ref02_Sign (M i c / M c c))) ?_
           refine sx 3 ?_
           refine wp_cT rfl (by (show (!((M i c / M c c).num.sign == 0)) = true); rw [sign_F hf]; rfl) ?_
           refine sx 8 ?_
           refine dq (.loadVR (yd := rng_at (i := i) (by omega) (by omega)) (yf := fun _ h => by cases h)) ?_
           refine sx 4 ?_
           refine dq (.loadVR (yd := rng_at (i := i) (by omega) (by omega)) (yf := fun _ h => by cases h)) ?_
           refine sx 2 ?_
           refine dq (.loadPR (yc := get_row4 hI (hR _ (by omega)) (i := i) (by omega) rfl) (yd := (rng_at (i := k) (by omega) hkn).trans (congrArg (fun x => some (AV.t (encQ x))) kM_at))) ?_
           refine sx 4 ?_
           refine dq (.loadVR (yd := rng_at (i := c) (by omega) (by omega)) (yf := fun _ h => by cases h)) ?_
           refine sx 2 ?_
           refine dq (.loadPR (yc := get_row4 hI (hR _ (by omega)) (i := c) (by omega) (kM_c (by omega))) (yd := rng_at (i := k) (by omega) (by omega))) ?_
           refine dq (.callR (yb := asc (.inl rfl) as1) (yc := ref02_Mul _ (M c k) (hfB.le (by decide)) ((hBs c k hcn hkn).le (by decide)))) ?_
           refine dq (.callR (yb := asc (.inl rfl) as1) (yc := ref02_Sub (M i k) _ ((hBs i k hin hkn).le (by decide)) ((hfB.mul (hBs c k hcn hkn)).le (by decide)))) ?_
           refine sx 1 ?_
           refine wd_e rfl rfl rfl (.storeR (yd := get_row4 hI (hR _ (by omega)) (i := i) (by omega) rfl) (ye := by simp; omega) (yg := .inl rfl)) (by exact trivial) ?_
           refine sx 8 ?_
           exact round_n (k + 1) ⟨by omega, by omega⟩ (by omega) (by exact imp_sp (by (repeat' (first | exact trivial | (refine And.intro (by rfl) ?_)))) (row_set hI hR hk0 hin (by omega) rfl) (Nat.le_refl _))
          ·refine sx 7 ?_
           refine gq (z := by (simp; omega)) (.callR (yb := as1) (yc := ref02_Sign (M i c / M c c))) ?_
           refine sx 3 ?_
           refine wp_cF rfl (by (show (!((M i c / M c c).num.sign == 0)) = false); rw [sign_T hf]; rfl) ?_
           refine sx 11 ?_
           exact round_n (i + 1) ⟨by omega, by omega⟩ (by omega) (by exact imp_tr ga (lit_x (kM_out (by omega) (fun j hj => ⟨hZ i j (by omega) hin hj, hZ c j (Nat.le_refl _) hcn hj⟩) (by exact .inr hf)).symm (rowH_big hR (by decide))) rfl (heap_lt hR))
          ·refine sx 11 ?_
           refine wp_cF rfl (by rfl) ?_
           refine sx 11 ?_
           exact round_n (i + 1) ⟨by omega, by omega⟩ (by omega) (by exact imp_tr ga (lit_x (kM_out (by omega) (fun j hj => ⟨hZ i j (by omega) hin hj, hZ c j (Nat.le_refl _) hcn hj⟩) (by exact .inl hkn)).symm (rowH_big hR (by decide))) rfl (heap_lt hR))
        ·have hin : i = n := by { have : ¬ i < n := by { simpa using hc }; omega }
         refine sx 11 ?_
         exact round_n (c + 1, out * M c c, ids, clearM c M) ⟨by omega, hI, hR, by rw [← hD, detP_step hcn hP]; grind, clear_zero hP hZ hcn, clear_bq hB hcn, (hO.mul (hBs c c hcn hcn)).le (by omega)⟩ (by (simp only; omega)) (by subst hin; exact imp_sp ga (by rw [partM_out]; exact fun _ _ h => h) (Nat.le_refl _))
    ·refine sx 17 ?_
     refine wp_cF rfl (by rfl) ?_
     refine sx 12 ?_
     refine wp_cT rfl (by exact beq_iff_eq.2 (by omega)) ?_
     refine sx 11 ?_
     exact ⟨.inr rfl, rfl, ⟨[(2, .ptr T_Rat 1000 0 0)], (1000, some (.arr T_Rat [.t (encQ (((0 : Int) : Rat)))])) :: (List.range (n + 1)).map (fun i => (i, none)), 1002, 0⟩, (by exact imp_sp (by (repeat' (first | exact trivial | (refine And.intro (by rfl) ?_)))) (lit_end rfl) (Nat.le_refl _)), (by simp only [List.length_cons, List.length_map, List.length_range]; omega), Nat.le_refl _, getall_none n (by omega), .inl ⟨[_], rfl, (by refine res_c rfl rfl rfl rfl rfl ?_; rw [← hD, detP_none hcn (fun r h1 h2 => hs r h1 (by omega)), Rat.mul_zero]; rfl), trivial⟩⟩
  ·have hcn : c = n := by { have : ¬ c < n := by { simpa using hc }; omega }
   refine sx 10 ?_
   exact ⟨.inr rfl, rfl, ⟨[(2, .ptr T_Rat 1000 0 0)], (1000, some (.arr T_Rat [.t (encQ (out))])) :: (List.range (n + 1)).map (fun i => (i, none)), 1002, 0⟩, (by exact imp_sp (by (repeat' (first | exact trivial | (refine And.intro (by rfl) ?_)))) (lit_end rfl) (Nat.le_refl _)), (by simp only [List.length_cons, List.length_map, List.length_range]; omega), Nat.le_refl _, getall_none n (by omega), .inl ⟨[_], rfl, (by refine res_c rfl rfl rfl rfl rfl ?_; rw [← hD, hcn, detP_zero, Rat.mul_one]; rfl), trivial⟩⟩
end Go.Proofs.YtacenhlcfeepgaaGreat
namespace Go.Proofs.YtacenhlcfeepgaaGreat
open Go Eng
theorem at_any (l : List Rat) (z : Int) (hz : z < 9223372036854775808) {x : Rat} (hx : (if z < 0 then 0 else cf l z.toNat) = x) : FnP Tryz.prog tb F_ref03_At [encQs l, .i .i64 z] (encQ x) := by
 subst hx
 by_cases h : z < 0
 ·rw [if_pos h]; exact ref03_AtZ l z h
 ·rw [if_neg h]
  have := ref03_At l z.toNat (by omega)
  rw [show ((z.toNat : Nat) : Int) = z by omega] at this; exact this
def sylR (n i : Nat) : List AV := (List.range n).map fun j => if j < i then AV.own T_Rat (j + 1000) 0 n else .t (.sl T_Rat [])
def sylRow (n k : Nat) (g : Nat → Rat) : List AV := (List.range n).map fun j => AV.t (if j < k then encQ (g j) else encQI 0 0)
theorem rng_const {α : Type} {n : Nat} {v : α} {f : Nat → α} (h : ∀ j, j < n → f j = v) : (List.range n).map f = List.replicate n v := by
 refine List.ext_getElem (by simp) fun j h1 h2 => ?_
 rw [List.getElem_map, List.getElem_range, List.getElem_replicate]
 exact h j (by simpa using h1)
theorem sylR_0 (n : Nat) : sylR n 0 = List.replicate n (.t (.sl T_Rat [])) := rng_const fun j _ => by rw [if_neg (by omega)]
theorem sylRow_0 (n : Nat) (g : Nat → Rat) : sylRow n 0 g = List.replicate n (.t (encQI 0 0)) := rng_const fun j _ => by rw [if_neg (by omega)]
theorem sylR_set {n i x z : Nat} (hx : x = i) (hz : z = n) : (sylR n i).set x (.own T_Rat (i + 1000) 0 z) = sylR n (i + 1) := by
 subst hx hz
 rw [sylR, rng_set]
 refine List.map_congr_left fun j _ => ?_
 by_cases h : j = x
 ·rw [if_pos h, if_pos (by omega), h]
 ·rw [if_neg h]
  by_cases h2 : j < x
  ·rw [if_pos h2, if_pos (by omega)]
  ·rw [if_neg h2, if_neg (by omega)]
theorem sylRow_set {n k x : Nat} {g : Nat → Rat} (hx : x = k) : (sylRow n k g).set x (.t (encQ (g k))) = sylRow n (k + 1) g := by
 subst hx
 rw [sylRow, rng_set]
 refine List.map_congr_left fun j _ => ?_
 by_cases h : j = x
 ·rw [if_pos h, if_pos (by omega), h]
 ·rw [if_neg h]
  by_cases h2 : j < x
  ·rw [if_pos h2, if_pos (by omega)]
  ·rw [if_neg h2, if_neg (by omega)]
theorem sylRow_n (n : Nat) (g : Nat → Rat) : Eng.Obj.arr T_Rat (sylRow n n g) = rowO n g := by
 unfold rowO sylRow; congr 1
 exact List.map_congr_left fun j hj => by rw [if_pos (List.mem_range.1 hj)]
theorem get_hit {α : Type} {h : List (Nat × α)} {k : Nat} {v : α} : get ((k, v) :: h) k = some v := by rw [get_cons, if_pos rfl]
theorem syl_in {n z : Nat} {a : Option Eng.Obj} (hz : z = n) {M : Nat → Nat → Rat} {ids : Nat → Nat} : ∀ id o, get ((0, a) :: (1, some (.arr T_L_Rat (sylR n 0))) :: rowH n ids M 0) id = some (some o) → get [(1, some (.arr T_L_Rat (List.replicate z (.t (.sl T_Rat []))))), (0, a)] id = some (some o) := fun id o ho => by
 subst hz
 rw [sylR_0] at ho
 simp only [get_cons, rowH, List.range_zero, List.map_nil] at ho ⊢
 by_cases h0 : 0 = id
 ·subst h0; simpa using ho
 ·by_cases h1 : 1 = id
  ·subst h1; simpa using ho
  ·simpa only [h0, h1, if_false] using ho
theorem row_in {n i x z w : Nat} {a : Option Eng.Obj} {H : Heap} {g : Nat → Rat} (hx : x = i) (hz : z = n) (hw : w = n) : ∀ id o, get ((0, a) :: (1, some (.arr T_L_Rat (sylR n (i + 1)))) :: (i + 1000, some (.arr T_Rat (sylRow n 0 g))) :: H) id = some (some o) →
  get ((1, some (.arr T_L_Rat ((sylR n i).set x (.own T_Rat (i + 1000) 0 z)))) :: (i + 1000, some (.arr T_Rat (List.replicate w (.t (encQI 0 0))))) :: (0, a) :: (1, some (.arr T_L_Rat (sylR n i))) :: H) id = some (some o) := fun id o ho => by
 rw [sylR_set hx hz, hw]
 rw [sylRow_0] at ho
 simp only [get_cons] at ho ⊢
 by_cases h0 : 0 = id
 ·subst h0; simpa using ho
 ·by_cases h1 : 1 = id
  ·subst h1; simpa using ho
  ·simpa only [h0, h1, if_false] using ho
theorem row_next {n i k x : Nat} {a b c : Option Eng.Obj} {H : Heap} {g : Nat → Rat} (hx : x = k) : ∀ id o, get ((0, a) :: (1, b) :: (i + 1000, some (.arr T_Rat (sylRow n (k + 1) g))) :: H) id = some (some o) →
  get ((i + 1000, some (.arr T_Rat ((sylRow n k g).set x (.t (encQ (g k)))))) :: (0, a) :: (1, b) :: (i + 1000, c) :: H) id = some (some o) := fun id o ho => by
 rw [sylRow_set hx]
 simp only [get_cons] at ho ⊢
 by_cases h0 : 0 = id
 ·subst h0; simpa using ho
 ·by_cases h1 : 1 = id
  ·subst h1; simpa using ho
  ·by_cases h2 : i + 1000 = id
   ·simpa only [h0, h1, h2, if_false, if_true] using ho
   ·simpa only [h0, h1, h2, if_false] using ho
theorem row_out {n i : Nat} {a b : Option Eng.Obj} {M : Nat → Nat → Rat} : ∀ id o, get ((0, a) :: (1, b) :: rowH n (fun j => j + 1000) M (i + 1)) id = some (some o) →
  get ((0, a) :: (1, b) :: (i + 1000, some (.arr T_Rat (sylRow n n (M i)))) :: rowH n (fun j => j + 1000) M i) id = some (some o) := fun id o ho => by
 simp only [get_cons] at ho ⊢
 by_cases h0 : 0 = id
 ·subst h0; simpa using ho
 ·by_cases h1 : 1 = id
  ·subst h1; simpa using ho
  ·simp only [h0, h1, if_false] at ho ⊢
   obtain ⟨r, r1, r2, r3⟩ := rowH_some ho
   by_cases h2 : i + 1000 = id
   ·rw [if_pos h2, sylRow_n, r3, show r = i by omega]
   ·rw [if_neg h2, r2, get_rowH (ids := fun j => j + 1000) (fun a b _ _ e => by omega) (show r < i by omega), r3]
def detI (n : Nat) : List Nat := 1 :: (List.range n).map fun j => j + 1000
theorem detI_len (n : Nat) : (detI n).length = n + 1 := by simp [detI]
theorem rn_detI {n nx i : Nat} (hi : i < n) : rn (detI n) nx (i + 1) = i + 1000 := by
 rw [rn, detI, List.getElem?_cons_succ, rng_at rfl hi]
theorem det_c6 (n : Nat) : (detI n).Nodup := by
 rw [detI, List.nodup_cons]
 refine ⟨fun h => ?_, ?_⟩
 ·obtain ⟨j, _, hj⟩ := List.mem_map.1 h; omega
 ·rw [List.Nodup, List.pairwise_map]
  exact List.nodup_range.imp fun h e => h (by omega)
theorem objs_list {h : Heap} {r : Nat → Nat} {n : Nat} {M : Nat → Nat → Rat} : ∀ l : List Nat, (∀ i, i ∈ l → get h (i + 1000) = some (some (rowO n (M i)))) → ObjsIn h r (l.map fun j => j + 1000) (l.map fun i => rowO n (M i))
 | [], _ => trivial
 | a :: l, hl => ⟨⟨_, hl a (List.mem_cons_self ..), by
   show Eng.Obj.arr T_Rat (((List.range n).map fun k => AV.t (encQ (M a k))).map (AV.ren r)) = _
   rw [List.map_map]; rfl⟩, objs_list l fun i hi => hl i (List.mem_cons_of_mem _ hi)⟩
theorem det_c7 {n nx : Nat} {a : Option Eng.Obj} {M : Nat → Nat → Rat} : ObjsIn ((0, a) :: (1, some (.arr T_L_Rat (sylR n n))) :: rowH n (fun j => j + 1000) M n) (rn (detI n) nx) (detI n) (.arr T_L_Rat ((List.range n).map fun i => AV.own T_Rat (i + 1) 0 n) :: (List.range n).map fun i => rowO n (M i)) := by
 refine ⟨⟨_, rfl, ?_⟩, objs_list _ fun i hi => ?_⟩
 ·show Eng.Obj.arr T_L_Rat (((List.range n).map fun i => AV.own T_Rat (i + 1) 0 n).map (AV.ren (rn (detI n) nx))) = _
  rw [List.map_map, sylR]
  congr 1
  refine List.map_congr_left fun j hj => ?_
  rw [if_pos (List.mem_range.1 hj)]
  show AV.own T_Rat (rn (detI n) nx (j + 1)) 0 n = _
  rw [rn_detI (List.mem_range.1 hj)]
 ·rw [get_cons, if_neg (by omega), get_cons, if_neg (by omega)]
  exact get_rowH (ids := fun j => j + 1000) (fun a b _ _ e => by omega) (List.mem_range.1 hi)
theorem det_c8 {n : Nat} {M : Nat → Nat → Rat} : ∀ ob, ob ∈ (Eng.Obj.arr T_L_Rat ((List.range n).map fun i => AV.own T_Rat (i + 1) 0 n) :: (List.range n).map fun i => rowO n (M i)) → ob.lt (Eng.Obj.arr T_L_Rat ((List.range n).map fun i => AV.own T_Rat (i + 1) 0 n) :: (List.range n).map fun i => rowO n (M i)).length := fun ob hob => by
 rw [List.length_cons, List.length_map, List.length_range]
 rcases List.mem_cons.1 hob with h | h
 ·rw [h]
  intro a ha
  obtain ⟨i, hi, rfl⟩ := List.mem_map.1 ha
  have := List.mem_range.1 hi
  exact Nat.ble_eq_true_of_le (by omega)
 ·obtain ⟨i, hi, rfl⟩ := List.mem_map.1 h
  intro a ha
  obtain ⟨j, hj, rfl⟩ := List.mem_map.1 ha
  rfl
theorem det_c9 {n m : Nat} (hm : m = n + 1) : ((List.range m).all fun i => (get ((List.range (n + 1)).map fun i => (i, (none : Option Eng.Obj))) i).isSome) = true := by
 subst hm
 refine List.all_eq_true.2 fun i hi => ?_
 rw [get_fam (fun i => i) (fun _ => (none : Option Eng.Obj)) _ (fun _ _ _ _ e => e) i hi]; rfl
theorem outs_list {r : Nat → Nat} : ∀ l : List Nat, Outs r (l.map fun i => (i, (none : Option Eng.Obj))) (l.map fun i => (r i, (none : Option Eng.Obj)))
 | [] => trivial
 | a :: l => ⟨rfl, outs_list l⟩
theorem out_get {n nx : Nat} {a : Option Eng.Obj} {H : Heap} (hnx : nx = n + 1000) : get (((List.range (n + 1)).map fun i => (rn (detI n) nx i, (none : Option Eng.Obj))) ++ (0, a) :: H) 0 = some a := by
 rw [get_append]
 cases h : get ((List.range (n + 1)).map fun i => (rn (detI n) nx i, (none : Option Eng.Obj))) 0 with
 | some y =>
  obtain ⟨i, h1, h2, _⟩ := get_fam_some (rn (detI n) nx) (fun _ => (none : Option Eng.Obj)) _ h
  have := List.mem_range.1 h1
  cases i with
  | zero => exact absurd (show (0 : Nat) = 1 from h2) (by decide)
  | succ i => rw [rn_detI (by omega)] at h2; omega
 | none => rw [get_cons, if_pos rfl]; rfl
theorem ref03_Res (p q : Pol) (hp0 : p ≠ 0) (hq0 : q ≠ 0) (hpl : p.len ≤ 6) (hql : q.len ≤ 6) (hpB : PB 2 p) (hqB : PB 2 q) : FnP Tryz.prog tb F_ref03_Resultant [encP p, encP q] (encQ (syl p q)) := by
 have hp1 := Poly.len_pos hp0
 have hq1 := Poly.len_pos hq0
 have hpc := mt pol_nil.1 hp0
 have hqc := mt pol_nil.1 hq0
 obtain ⟨n, hn⟩ : ∃ n, n = p.len - 1 + (q.len - 1) := ⟨_, rfl⟩
 have hB : ∀ i j, i < n → j < n → Bq 2 (sylM p q i j) := fun i j _ _ => by
  unfold sylM
  split
  ·split
   ·exact hpB.co _
   ·exact Bq.zero.le (by decide)
  ·split
   ·exact hqB.co _
   ·exact Bq.zero.le (by decide)
 refine fn1 Tryz.func51 fun G hG hK hF => ?_
 refine rr ?_
 refine on' .allocR ?_
 refine wo_nil ?_
 refine wp_s ?_
 refine rr ?_
 refine om ?_
 refine oq (.lenR (yc := .inl rfl) (yd := by exact encQs_len)) ?_
 refine oq .cmpR ?_
 refine om ?_
 refine gq (z := by (simp [hpc]; done)) .moveR ?_
 refine gq (z := by (simp [hpc]; done)) (.lenR (yc := .inl rfl) (yd := by exact encQs_len)) ?_
 refine gq (z := by (simp [hpc]; done)) .cmpR ?_
 refine oq (.pickF rfl (by (simp [hpc]; done)) rfl) ?_
 refine wo_nil ?_
 refine wp_cF rfl (by simp [hqc]) ?_
 refine wp_k ?_
 refine then_n ?_
 refine rr ?_
 refine om ?_
 refine oq (.callR (yb := as1) (yc := ref03_Deg p)) ?_
 refine om ?_
 refine oq (.callR (yb := as1) (yc := ref03_Deg q)) ?_
 refine oa ?_
 refine oa ?_
 refine wo_nil ?_
 refine rr ?_
 refine om ?_
 refine om ?_
 refine oq (.arithR (yd := by exact wrap_i64 (by omega))) ?_
 refine on' (.makeSliceR (yf := by decide) (yi := by omega) (yj := by dsimp only; omega) (yk := by omega)) ?_
 refine oa ?_
 refine wo_nil ?_
 refine wp_s ?_
 refine rr ?_
 refine oa ?_
 refine wo_nil ?_
 refine wp_b ?_
 refine wp_l hK (fun i : Nat => ⟨[(0, .t (encP p)), (1, .t (encP q)), (4, .ptr T_Rat 0 0 0), (5, .t (.i .i64 ((p.len : Int) - 1))), (6, .t (.i .i64 ((q.len : Int) - 1))), (7, .own T_L_Rat 1 0 n), (8, .t (.i .i64 i))], (0, some (.arr T_Rat [.t (encQI 0 0)])) :: (1, some (.arr T_L_Rat (sylR n i))) :: rowH n (fun j => j + 1000) (sylM p q) i, i + 1000, 0⟩) (fun i => i ≤ n) (fun i => n - i) 0 ?_ (fun _ => rfl) ?_ ?_
 ·exact Nat.zero_le _
 ·exact imp_sp (by repeat' (first | exact trivial | (refine And.intro (by first | rfl | exact geto rfl (by omega)) ?_))) (syl_in (by omega)) (Nat.le_of_ble_eq_true rfl)
 ·rintro i hi
  refine wp_s ?_
  refine rr ?_
  refine om ?_
  refine om ?_
  refine om ?_
  refine oq (.arithR (yd := by exact wrap_i64 (by omega))) ?_
  refine oq .cmpR ?_
  refine wo_nil ?_
  refine wp_c rfl (fun hc => ?_) (fun hc => ?_)
  ·have hin : i < n := by { have := of_decide_eq_true hc; omega }
   refine wp_k ?_
   refine then_n ?_
   refine wp_s ?_
   refine wp_b ?_
   refine rr ?_
   refine om ?_
   refine om ?_
   refine oa ?_
   refine oa ?_
   refine wo_nil ?_
   refine wp_j hK (fun ((a, fr) : Pol × Int) => ⟨[(0, .t (encP p)), (1, .t (encP q)), (4, .ptr T_Rat 0 0 0), (5, .t (.i .i64 ((p.len : Int) - 1))), (6, .t (.i .i64 ((q.len : Int) - 1))), (7, .own T_L_Rat 1 0 n), (8, .t (.i .i64 i)), (9, .t (encP a)), (10, .t (.i .i64 fr))], (0, some (.arr T_Rat [.t (encQI 0 0)])) :: (1, some (.arr T_L_Rat (sylR n i))) :: rowH n (fun j => j + 1000) (sylM p q) i, i + 1000, 0⟩) (fun (a, fr) => (∀ k : Nat, k < n → (if (a.len : Int) - 1 - ((k : Int) - fr) < 0 then 0 else cf a.c ((a.len : Int) - 1 - ((k : Int) - fr)).toNat) = sylM p q i k) ∧ a.len ≤ 6 ∧ 0 ≤ fr ∧ fr ≤ i) (fun _ => rfl) ?_ ?_
   ·rcases (show i < q.len - 1 ∨ q.len - 1 ≤ i by omega) with hiq | hiq
    ·refine rr ?_
     refine om ?_
     refine om ?_
     refine oq .cmpR ?_
     refine wo_nil ?_
     refine wp_cF rfl (by exact decide_eq_false (by omega)) ?_
     refine wp_k ?_
     exact join_n (p, (i : Int)) ⟨fun k hk => by (rw [sylM, if_pos hiq]; by_cases h : k ≤ p.len - 1 + i; (rw [if_neg (by omega), if_pos h, show ((p.len : Int) - 1 - ((k : Int) - (i : Int))).toNat = p.len - 1 + i - k by omega]; rfl); (rw [if_pos (by omega), if_neg h])), hpl, by omega, Int.le_refl _⟩ (by exact imp_sp (by repeat' (first | exact trivial | (refine And.intro (by rfl) ?_))) (fun _ _ h => h) (Nat.le_refl _))
    ·refine rr ?_
     refine om ?_
     refine om ?_
     refine oq .cmpR ?_
     refine wo_nil ?_
     refine wp_cT rfl (by exact decide_eq_true (by omega)) ?_
     refine rr0 ?_
     refine om ?_
     refine om ?_
     refine om ?_
     refine oq (.arithR (yd := by exact wrap_i64 (by omega))) ?_
     refine oa ?_
     refine oa ?_
     refine wo_nil ?_
     exact join_n (q, (i : Int) - ((q.len : Int) - 1)) ⟨fun k hk => by (rw [sylM, if_neg (show ¬ i < q.len - 1 by omega)]; by_cases h : k ≤ i; (rw [if_neg (by omega), if_pos h, show ((q.len : Int) - 1 - ((k : Int) - ((i : Int) - ((q.len : Int) - 1)))).toNat = i - k by omega]; rfl); (rw [if_pos (by omega), if_neg h])), hql, by omega, by omega⟩ (by exact imp_sp (by repeat' (first | exact trivial | (refine And.intro (by rfl) ?_))) (fun _ _ h => h) (Nat.le_refl _))
   ·rintro ⟨a, fr⟩ ⟨ha, hal, hf0, hf1⟩
    refine rr ?_
    refine om ?_
    refine om ?_
    refine om ?_
    refine om ?_
    refine oq (.arithR (yd := by exact wrap_i64 (by omega))) ?_
    refine on' (.makeSliceR (yf := by decide) (yi := by omega) (yj := by dsimp only; omega) (yk := by omega)) ?_
    refine oq (.indexAddrOR (yf := by omega) (yg := by omega)) ?_
    refine oe (.storeVR (yd := get_skip (by omega) rfl) (ye := by simp [sylR]; omega) (yi := fun _ h => by cases h) (yj := fun h => by cases h) (yk := fun _ h => by cases h)) ?_
    refine wo_nil ?_
    refine rr ?_
    refine oa ?_
    refine wo_nil ?_
    refine wp_b ?_
    refine wp_l hK (fun k : Nat => ⟨[(0, .t (encP p)), (1, .t (encP q)), (4, .ptr T_Rat 0 0 0), (5, .t (.i .i64 ((p.len : Int) - 1))), (6, .t (.i .i64 ((q.len : Int) - 1))), (7, .own T_L_Rat 1 0 n), (8, .t (.i .i64 i)), (9, .t (encP a)), (10, .t (.i .i64 fr)), (11, .t (.i .i64 k))], (0, some (.arr T_Rat [.t (encQI 0 0)])) :: (1, some (.arr T_L_Rat (sylR n (i + 1)))) :: (i + 1000, some (.arr T_Rat (sylRow n k (sylM p q i)))) :: rowH n (fun j => j + 1000) (sylM p q) i, i + 1001, 0⟩) (fun k => k ≤ n) (fun k => n - k) 0 ?_ (fun _ => rfl) ?_ ?_
    ·exact Nat.zero_le _
    ·exact imp_sp (by repeat' (first | exact trivial | (refine And.intro (by rfl) ?_))) (row_in (by omega) (by omega) (by omega)) (Nat.le_refl _)
    ·rintro k hk
     refine wp_s ?_
     refine rr ?_
     refine om ?_
     refine om ?_
     refine om ?_
     refine oq (.arithR (yd := by exact wrap_i64 (by omega))) ?_
     refine oq .cmpR ?_
     refine wo_nil ?_
     refine wp_c rfl (fun hc => ?_) (fun hc => ?_)
     ·have hkn : k < n := by { have := of_decide_eq_true hc; omega }
      refine wp_k ?_
      refine then_n ?_
      refine wp_s ?_
      refine wp_b ?_
      refine wp_d0 tbOk hF mixed hG [] (by kernel_rfl) ?_
      refine dq .moveR ?_
      refine dq .moveR ?_
      refine dq (.indexAddrOR (yf := by omega) (yg := by omega)) ?_
      refine wd_q rfl rfl rfl rfl (.loadV _ _ _ _ _ _ _ _ _ rfl rfl rfl ((rng_at (i := i) (by omega) (by omega)).trans (congrArg some (if_pos (by omega)))) rfl (fun _ h => by cases h)) ?_
      refine dq .moveR ?_
      refine dq .moveR ?_
      refine dq .moveR ?_
      refine dq (.callR (yb := as1) (yc := ref03_Deg a)) ?_
      refine dq .moveR ?_
      refine dq .moveR ?_
      refine dq (.arithR (yd := by exact wrap_i64 (by omega))) ?_
      refine dq (.arithR (yd := by exact wrap_i64 (by omega))) ?_
      refine dq (.callR (yb := asc (.inl rfl) as1) (yc := at_any a.c _ (by omega) (ha k hkn))) ?_
      refine dq (.indexAddrOR (yf := by omega) (yg := by omega)) ?_
      refine wd_e rfl rfl rfl (.storeR (yd := get_skip (by omega) (get_skip (by omega) get_hit)) (ye := by simp [sylRow]; omega) (yg := .inl rfl)) (by exact trivial) ?_
      refine wd_nil ?_
      refine blk_n ?_
      refine then_n ?_
      refine rr0 ?_
      refine om ?_
      refine oq (.arithR (yd := by exact wrap_i64 (by omega))) ?_
      refine oa ?_
      refine wo_nil ?_
      exact round_n (k + 1) (show k + 1 ≤ n by omega) (by omega) (by exact imp_sp (by repeat' (first | exact trivial | (refine And.intro (by rfl) ?_))) (row_next (by omega)) (Nat.le_refl _))
     ·obtain rfl : k = n := by { have := of_decide_eq_false hc; omega }
      refine wp_x ?_
      refine then_exit ?_
      refine round_exit ?_
      refine blk_hit ?_
      refine blk_n ?_
      refine then_n ?_
      refine rr0 ?_
      refine om ?_
      refine oq (.arithR (yd := by exact wrap_i64 (by omega))) ?_
      refine oa ?_
      refine wo_nil ?_
      exact round_n (i + 1) (show i + 1 ≤ _ by omega) (by omega) (by exact imp_sp (by repeat' (first | exact trivial | (refine And.intro (by rfl) ?_))) row_out (by (simp only; omega)))
  ·obtain rfl : i = n := by { have := of_decide_eq_false hc; omega }
   refine wp_x ?_
   refine then_exit ?_
   refine round_exit ?_
   refine blk_hit ?_
   refine then_n ?_
   refine rr ?_
   refine om ?_
   refine oed (callh (detI i) (det_H i (sylM p q) (by omega) hB) (.inr ⟨_, rfl, rfl⟩) (hac rfl han) rfl rfl (by rw [detI_len, List.length_cons, List.length_map, List.length_range]; exact Nat.beq_refl _) (det_c6 i) det_c7 det_c8 (det_c9 (by rw [List.length_cons, List.length_map, List.length_range])) (outs_list _) (Nat.ble_eq_true_of_le (by rw [List.length_cons, List.length_map, List.length_range]; omega)) rfl rfl) ?_
   refine oe (.storeR (yd := out_get rfl) (ye := by simp) (yg := .inl rfl)) ?_
   refine wo_nil ?_
   refine wp_rt ?_
   exact ⟨.inr rfl, rfl, (by (refine res_c rfl rfl rfl rfl rfl ?_); (rw [← detP_syl hp0 hq0, ← hn])), trivial⟩
theorem ref03_Res0 (p q : Pol) (h : p = 0 ∨ q = 0) : FnP Tryz.prog tb F_ref03_Resultant [encP p, encP q] (encQ 0) := by
 refine fn1 Tryz.func51 fun G hG hK hF => ?_
 refine rr ?_
 refine on' .allocR ?_
 refine wo_nil ?_
 refine wp_s ?_
 by_cases hp : p = 0
 ·refine rr ?_
  refine om ?_
  refine oq (.lenR (yc := .inl rfl) (yd := by exact encQs_len)) ?_
  refine oq .cmpR ?_
  refine om ?_
  refine gs (z := by (rw [pol_nil.2 hp]; rfl)) ?_
  refine gs (z := by (rw [pol_nil.2 hp]; rfl)) ?_
  refine gs (z := by (rw [pol_nil.2 hp]; rfl)) ?_
  refine oq (.pickT rfl (by (rw [pol_nil.2 hp]; rfl)) rfl) ?_
  refine wo_nil ?_
  refine wp_cT rfl (by rfl) ?_
  refine rr ?_
  refine oq (.callR (yb := as1) (yc := ref02_Int 0 (by decide) (by decide))) ?_
  refine oe (.storeR (ye := by decide) (yg := .inl rfl)) ?_
  refine wo_nil ?_
  refine wp_rt ?_
  refine then_ret ?_
  exact ⟨.inr rfl, rfl, (by (refine res_c rfl rfl rfl rfl rfl ?_); (rfl)), trivial⟩
 ·refine rr ?_
  refine om ?_
  refine oq (.lenR (yc := .inl rfl) (yd := by exact encQs_len)) ?_
  refine oq .cmpR ?_
  refine om ?_
  refine gq (z := by (have := mt pol_nil.1 hp; simp [this]; done)) .moveR ?_
  refine gq (z := by (have := mt pol_nil.1 hp; simp [this]; done)) (.lenR (yc := .inl rfl) (yd := by exact encQs_len)) ?_
  refine gq (z := by (have := mt pol_nil.1 hp; simp [this]; done)) .cmpR ?_
  refine oq (.pickF rfl (by (have := mt pol_nil.1 hp; simp [this]; done)) rfl) ?_
  refine wo_nil ?_
  refine wp_cT rfl (by (have hq := pol_nil.2 (h.resolve_left hp)); rw [hq]; rfl) ?_
  refine rr ?_
  refine oq (.callR (yb := as1) (yc := ref02_Int 0 (by decide) (by decide))) ?_
  refine oe (.storeR (ye := by decide) (yg := .inl rfl)) ?_
  refine wo_nil ?_
  refine wp_rt ?_
  refine then_ret ?_
  exact ⟨.inr rfl, rfl, (by (refine res_c rfl rfl rfl rfl rfl ?_); (rfl)), trivial⟩
theorem ref03_ResS (p q : Pol) (hpl : p.len ≤ 6) (hql : q.len ≤ 6) (hpB : PB 2 p) (hqB : PB 2 q) : FnP Tryz.prog tb F_ref03_Resultant [encP p, encP q] (encQ (resS p q)) := by
 by_cases h : p = 0 ∨ q = 0
 ·rw [resS, if_pos h]; exact ref03_Res0 p q h
 ·rw [resS, if_neg h]; exact ref03_Res p q (fun e => h (.inl e)) (fun e => h (.inr e)) hpl hql hpB hqB
end Go.Proofs.YtacenhlcfeepgaaGreat
namespace Go.Proofs.YtacenhlcfeepgaaGreat
open Go Eng
theorem chk6 : ∀ a, a < 7 → ∀ b, b < 7 → chk0 25 a b = true := by decide +kernel
theorem pot611 : ∀ a, a < 7 → ∀ b, b < 12 → (a - b + 2) * 3 ^ b ≤ 354294 := by decide +kernel
theorem eb611 {n : Nat} {p q : Pol} (hp : CDB n p) (hq : CDB n q) (hn : n ≤ 56) (hpl : p.len ≤ 6) (hql : q.len ≤ 11) : EB 20194758 (max n n + 1) p q :=
 EB.init hp hq (by
  have := pot611 p.len (by omega) q.len (by omega)
  rw [Nat.mul_assoc]
  exact Nat.le_trans (Nat.mul_le_mul (show max n n + 1 ≤ 57 by omega) this) (by decide))
theorem res6 {p q : Pol} (hp : CDB 25 p) (hq : CDB 25 q) (hpl : p.len ≤ 6) (hql : q.len ≤ 6) : FnP Tryz.prog tb F_qpoly_Resultant [encP p, encP q] (encQ (resS p q)) :=
 res_call hp hq (by omega) (chk6 _ (by omega) _ (by omega)) (fun _ => eb611 hp hq (by decide) hpl (by omega)) (by decide)
theorem res6E {p q : Pol} {x : Rat} (hp : CDB 25 p) (hq : CDB 25 q) (hpl : p.len ≤ 6) (hql : q.len ≤ 6) (hx : resS p q = x) : FnP Tryz.prog tb F_qpoly_Resultant [encP p, encP q] (encQ x) := by
 subst hx; exact res6 hp hq hpl hql
theorem res11 {p q r : Pol} (hp : CDB 25 p) (hq : CDB 25 q) (hr : CDB 25 r) (hpl : p.len ≤ 6) (hql : q.len ≤ 6) (hrl : r.len ≤ 6) : FnP Tryz.prog tb F_qpoly_Resultant [encP p, encP (q * r)] (encQ (resS p (q * r))) := by
 have h1 : CDB 56 (q * r) := (hq.mul hr).le (by omega)
 have h2 : (q * r).len ≤ 11 := by have := Poly.len_mul_le q r; omega
 exact res_call (hp.le (by decide)) h1 (by omega) (chk11 _ (by omega) _ (by omega)) (fun _ => eb611 (hp.le (by decide)) h1 (by decide) hpl h2) (by decide)
theorem resF_bq : ∀ (f : Nat) {o : Rat} {a b : Pol} {k : Nat}, resOK f a b → Bq k o → Bq (k + f * 32768 + 1) (resF f o a b)
 | 0, o, a, b, k, _, ho => by rw [resF]; exact ho.le (by omega)
 | f + 1, o, a, b, k, h, ho => by
  rw [resOK] at h
  rw [resF]
  split
  ·rename_i hl
   rw [if_pos hl] at h
   exact (ho.mul (pw_bq h)).le (by omega)
  ·rename_i hl
   rw [if_neg hl] at h
   split
   ·exact Bq.zero.le (by omega)
   ·rename_i hr
    rw [if_neg hr] at h
    exact (resF_bq f h.2 (resO_bq ho h.1)).le (by omega)
theorem resS_bq {p q : Pol} (hp : CDB 25 p) (hq : CDB 25 q) (hpl : p.len ≤ 6) (hql : q.len ≤ 6) : Bq 200000 (resS p q) := by
 by_cases h : p = 0 ∨ q = 0
 ·rw [resS, if_pos h]; exact Bq.zero.le (by decide)
 ·have hp0 : p ≠ 0 := fun e => h (.inl e)
  have hq0 : q ≠ 0 := fun e => h (.inr e)
  have h1 := resF_bq q.len (o := 1) (resOK_of hp0 hq0 hp hq (by omega) (chk6 _ (by omega) _ (by omega))) Bq.one
  rw [resF_syl _ _ _ _ hp0 hq0 (Nat.le_refl _), show (1 : Rat) * syl p q = syl p q by grind] at h1
  rw [resS_ne hp0 hq0]
  exact h1.le (by omega)
theorem odd_T {p : Pol} (h : ((p.len : Int) - 1).tmod 2 = 1) : ((p.len : Int) - 1) % 2 = 1 := by
 by_cases h0 : p.len = 0
 ·rw [h0] at h; exact absurd h (by decide)
 ·rw [Int.tmod_eq_emod_of_nonneg (by omega)] at h; exact h
theorem odd_F {p : Pol} (h0 : p ≠ 0) (h : ((p.len : Int) - 1).tmod 2 ≠ 1) : ¬ ((p.len : Int) - 1) % 2 = 1 := by
 have := Poly.len_pos h0
 rw [Int.tmod_eq_emod_of_nonneg (by omega)] at h; exact h
theorem symm_T {p q : Pol} (h1 : ((p.len : Int) - 1).tmod 2 = 1) (h2 : ((q.len : Int) - 1).tmod 2 = 1) : resS q p = -resS p q := by
 rw [resS_symm q p, if_pos ⟨odd_T h2, odd_T h1⟩]
theorem symm_F {p q : Pol} (h : ((p.len : Int) - 1).tmod 2 ≠ 1 ∨ ((q.len : Int) - 1).tmod 2 ≠ 1) : resS q p = resS p q := by
 by_cases h0 : p = 0 ∨ q = 0
 ·rw [resS, if_pos h0.symm, resS, if_pos h0]
 ·rw [resS_symm q p, if_neg]
  rintro ⟨h1, h2⟩
  rcases h with h | h
  ·exact odd_F (fun e => h0 (.inl e)) h h2
  ·exact odd_F (fun e => h0 (.inr e)) h h1
theorem neg_neg_call (x : Rat) : FnP Tryz.prog tb F_ref02_Neg [encQ (-x)] (encQ x) := by
 have := ref02_Neg (-x)
 rw [show - -x = x by grind] at this; exact this
theorem cop_eq {p q : Pol} (hp : p ≠ 0) (hq : q ≠ 0) : ((((p.gcd q).len : Int) - 1 == 0) == ((resS p q).num.sign != 0)) = true := by
 have h := syl_cop q.len p q hp hq (Nat.le_refl _)
 rw [← resS_ne hp hq] at h
 by_cases h1 : resS p q = 0
 ·have h2 : ¬ (p.gcd q).len = 1 := fun e => h.2 e h1
  have h3 : (((p.gcd q).len : Int) - 1 == 0) = false := beq_eq_false_iff_ne.2 (by omega)
  have h4 : ((resS p q).num.sign != 0) = false := by show (!((resS p q).num.sign == 0)) = false; rw [sign_T h1]; rfl
  rw [h3, h4]; rfl
 ·have h2 := h.1 h1
  have h3 : (((p.gcd q).len : Int) - 1 == 0) = true := beq_iff_eq.2 (by omega)
  have h4 : ((resS p q).num.sign != 0) = true := by show (!((resS p q).num.sign == 0)) = true; rw [sign_F h1]; rfl
  rw [h3, h4]; rfl
theorem law_Resultant (p q r : List RQ) (hp : WR p) (hq : WR q) (hr : WR r) : FnP Tryz.prog tb F_law03_QpolyResultant [encRs p, encRs q, encRs r] (.b true) := by
 refine fn1 Tryz.func6 fun G hG hK hF => ?_
 refine sx 4 ?_
 rcases bool3 (fewB p 5 2) (fewB q 5 2) (fewB r 5 2) with h1 | ⟨h1, h2⟩ | ⟨h1, h2, h3⟩ | ⟨h1, h2, h3⟩
 ·refine sx 2 ?_
  refine oq (.callR (yb := asc (.inl rfl) as2) (yc := few_F p hp 5 2 (by decide) (by decide) h1)) ?_
  refine sx 12 ?_
  refine wp_cT rfl (by rfl) ?_
  refine sx 6 ?_
  exact ⟨.inr rfl, rfl, (by (refine res_t rfl ?_); (rfl)), trivial⟩
 ·obtain ⟨p, rfl, hpl, hpB⟩ := few_pol hp h1 (by decide)
  rw [encRs_raw]
  refine sx 2 ?_
  refine oq (.callR (yb := asc (.inl rfl) as2) (yc := few_T p 5 2 (by decide) (by decide) h1)) ?_
  refine sx 3 ?_
  refine gq (.callR (yb := asc (.inl rfl) as2) (yc := few_F q hq 5 2 (by decide) (by decide) h2)) ?_
  refine sx 8 ?_
  refine wp_cT rfl (by rfl) ?_
  refine sx 6 ?_
  exact ⟨.inr rfl, rfl, (by (refine res_t rfl ?_); (rfl)), trivial⟩
 ·obtain ⟨p, rfl, hpl, hpB⟩ := few_pol hp h1 (by decide)
  obtain ⟨q, rfl, hql, hqB⟩ := few_pol hq h2 (by decide)
  rw [encRs_raw, encRs_raw]
  refine sx 2 ?_
  refine oq (.callR (yb := asc (.inl rfl) as2) (yc := few_T p 5 2 (by decide) (by decide) h1)) ?_
  refine sx 3 ?_
  refine gq (.callR (yb := asc (.inl rfl) as2) (yc := few_T q 5 2 (by decide) (by decide) h2)) ?_
  refine sx 4 ?_
  refine gq (.callR (yb := asc (.inl rfl) as2) (yc := few_F r hr 5 2 (by decide) (by decide) h3)) ?_
  refine sx 3 ?_
  refine wp_cT rfl (by rfl) ?_
  refine sx 6 ?_
  exact ⟨.inr rfl, rfl, (by (refine res_t rfl ?_); (rfl)), trivial⟩
 ·obtain ⟨p, rfl, hpl, hpB⟩ := few_pol hp h1 (by decide)
  obtain ⟨q, rfl, hql, hqB⟩ := few_pol hq h2 (by decide)
  obtain ⟨r, rfl, hrl, hrB⟩ := few_pol hr h3 (by decide)
  rw [encRs_raw, encRs_raw, encRs_raw]
  have hpC : CDB 25 p := hpB.cdb.le (by omega)
  have hqC : CDB 25 q := hqB.cdb.le (by omega)
  have hrC : CDB 25 r := hrB.cdb.le (by omega)
  refine sx 2 ?_
  refine oq (.callR (yb := asc (.inl rfl) as2) (yc := few_T p 5 2 (by decide) (by decide) h1)) ?_
  refine sx 3 ?_
  refine gq (.callR (yb := asc (.inl rfl) as2) (yc := few_T q 5 2 (by decide) (by decide) h2)) ?_
  refine sx 4 ?_
  refine gq (.callR (yb := asc (.inl rfl) as2) (yc := few_T r 5 2 (by decide) (by decide) h3)) ?_
  refine sx 3 ?_
  refine wp_cF rfl (by rfl) ?_
  refine sx 2 ?_
  rcases (show ((p.len : Int) - 1).tmod 2 ≠ 1 ∨ (((p.len : Int) - 1).tmod 2 = 1 ∧ ((q.len : Int) - 1).tmod 2 ≠ 1) ∨ (((p.len : Int) - 1).tmod 2 = 1 ∧ ((q.len : Int) - 1).tmod 2 = 1) by by_cases a : ((p.len : Int) - 1).tmod 2 = 1 <;> by_cases b : ((q.len : Int) - 1).tmod 2 = 1 <;> simp [a, b]) with m1 | ⟨m1, m2⟩ | ⟨m1, m2⟩
  ·refine sx 3 ?_
   refine oq (.callR (yb := asc (.inl rfl) as1) (yc := res6 hpC hqC hpl hql)) ?_
   refine sx 2 ?_
   refine oq (.callR (yb := asc (.inl rfl) as1) (yc := res6E hqC hpC hql hpl (symm_F (.inl m1)))) ?_
   refine sx 10 ?_
   refine dq (.callR (yb := asc (.inl rfl) as1) (yc := ref03_ResS p q hpl hql hpB hqB)) ?_
   refine sx 3 ?_
   refine wp_cF rfl (by rfl) ?_
   refine sx 6 ?_
   refine oq (.remR (yc := by decide) (yd := by rfl)) ?_
   refine sx 2 ?_
   refine gs (z := by exact beq_false_of_ne (beq_false_of_ne m1 ▸ Bool.false_ne_true)) ?_
   refine gs (z := by exact beq_false_of_ne (beq_false_of_ne m1 ▸ Bool.false_ne_true)) ?_
   refine gs (z := by exact beq_false_of_ne (beq_false_of_ne m1 ▸ Bool.false_ne_true)) ?_
   refine gs (z := by exact beq_false_of_ne (beq_false_of_ne m1 ▸ Bool.false_ne_true)) ?_
   refine oq (.pickF rfl (by exact beq_false_of_ne (beq_false_of_ne m1 ▸ Bool.false_ne_true)) rfl) ?_
   refine sx 1 ?_
   refine wp_cF rfl (by rfl) ?_
   refine sx 3 ?_
   rcases (show p = 0 ∨ (p ≠ 0 ∧ q = 0) ∨ (p ≠ 0 ∧ q ≠ 0) by by_cases a : p = 0 <;> by_cases b : q = 0 <;> simp [a, b]) with g0 | ⟨g0, g1⟩ | ⟨g0, g1⟩
   ·have z0 : resS p q = ((0 : Int) : Rat) := if_pos (.inl g0)
    refine sx 5 ?_
    refine gs (z := by (rw [pol_nil.2 g0]; rfl)) ?_
    refine gs (z := by (rw [pol_nil.2 g0]; rfl)) ?_
    refine gs (z := by (rw [pol_nil.2 g0]; rfl)) ?_
    refine oq (.pickT rfl (by (rw [pol_nil.2 g0]; rfl)) rfl) ?_
    refine sx 1 ?_
    refine wp_cT rfl (by rfl) ?_
    refine sx 5 ?_
    refine wd_gq rfl rfl rfl (by rfl) rfl rfl rfl (.callR (yb := asc (.inl rfl) as1) (yc := same_Q _ _ z0)) ?_
    refine sx 4 ?_
    refine wd_gq rfl rfl rfl (by rfl) rfl rfl rfl (.callR (yb := asc (.inl rfl) as1) (yc := same_Q _ _ z0)) ?_
    refine sx 5 ?_
    exact ⟨.inr rfl, rfl, (by (refine res_t rfl ?_); (rfl)), trivial⟩
   ·have z0 : resS p q = ((0 : Int) : Rat) := if_pos (.inr g1)
    refine sx 5 ?_
    refine gq (z := by (have := mt pol_nil.1 g0; simp [this]; done)) .moveR ?_
    refine gq (z := by (have := mt pol_nil.1 g0; simp [this]; done)) (.lenR (yc := .inl rfl) (yd := by exact encQs_len)) ?_
    refine gq (z := by (have := mt pol_nil.1 g0; simp [this]; done)) .cmpR ?_
    refine oq (.pickF rfl (by (have := mt pol_nil.1 g0; simp [this]; done)) rfl) ?_
    refine sx 1 ?_
    refine wp_cT rfl (by rw [pol_nil.2 g1]; rfl) ?_
    refine sx 5 ?_
    refine wd_gq rfl rfl rfl (by rfl) rfl rfl rfl (.callR (yb := asc (.inl rfl) as1) (yc := same_Q _ _ z0)) ?_
    refine sx 4 ?_
    refine wd_gq rfl rfl rfl (by rfl) rfl rfl rfl (.callR (yb := asc (.inl rfl) as1) (yc := same_Q _ _ z0)) ?_
    refine sx 5 ?_
    exact ⟨.inr rfl, rfl, (by (refine res_t rfl ?_); (rfl)), trivial⟩
   ·refine sx 5 ?_
    refine gq (z := by (have := mt pol_nil.1 g0; simp [this]; done)) .moveR ?_
    refine gq (z := by (have := mt pol_nil.1 g0; simp [this]; done)) (.lenR (yc := .inl rfl) (yd := by exact encQs_len)) ?_
    refine gq (z := by (have := mt pol_nil.1 g0; simp [this]; done)) .cmpR ?_
    refine oq (.pickF rfl (by (have := mt pol_nil.1 g0; simp [this]; done)) rfl) ?_
    refine sx 1 ?_
    refine wp_cF rfl (by (have := mt pol_nil.1 g1); simp [this]) ?_
    refine sx 5 ?_
    refine oq (.callR (yb := asc (.inl rfl) as1) (yc := qpoly_Gcd p q (eb611 hpC.monic hqC.monic (by decide) (by rw [Poly.monic_len]; exact hpl) (by rw [Poly.monic_len]; omega)) (by decide) (hpB.le (by decide)) (hqB.le (by decide)))) ?_
    refine oq (.callR (yb := as1) (yc := ref03_Deg _)) ?_
    refine sx 7 ?_
    refine oq (.callR (yb := asc (.inl rfl) as1) (yc := qpoly_Mul q r hqB hrB (by omega) (by omega))) ?_
    refine oq (.callR (yb := asc (.inl rfl) as1) (yc := res11 hpC hqC hrC hpl hql hrl)) ?_
    refine sx 18 ?_
    refine wd_gq rfl rfl rfl (by exact (congrArg (· == true) (cop_eq g0 g1))) rfl rfl rfl (.loadPR (yd := by rfl)) ?_
    refine wd_gq rfl rfl rfl (by exact (congrArg (· == true) (cop_eq g0 g1))) rfl rfl rfl (.loadPR (yd := by rfl)) ?_
    refine wd_gq rfl rfl rfl (by exact (congrArg (· == true) (cop_eq g0 g1))) rfl rfl rfl .moveR ?_
    refine wd_gq rfl rfl rfl (by exact (congrArg (· == true) (cop_eq g0 g1))) rfl rfl rfl .moveR ?_
    refine wd_gq rfl rfl rfl (by exact (congrArg (· == true) (cop_eq g0 g1))) rfl rfl rfl (.callR (yb := asc (.inl rfl) as1) (yc := res6 hpC hrC hpl hrl)) ?_
    refine wd_gq rfl rfl rfl (by exact (congrArg (· == true) (cop_eq g0 g1))) rfl rfl rfl (.callR (yb := asc (.inl rfl) as1) (yc := ref02_Mul (resS p q) (resS p r) ((resS_bq hpC hqC hpl hql).le (by decide)) ((resS_bq hpC hrC hpl hrl).le (by decide)))) ?_
    refine wd_gq rfl rfl rfl (by exact (congrArg (· == true) (cop_eq g0 g1))) rfl rfl rfl (.callR (yb := asc (.inl rfl) as1) (yc := same_Q _ _ (resS_mul g0 g1))) ?_
    refine dq (.pickT rfl (by exact (congrArg (· == true) (cop_eq g0 g1))) rfl) ?_
    refine sx 3 ?_
    exact ⟨.inr rfl, rfl, (by (refine res_t rfl ?_); (rfl)), trivial⟩
  ·refine sx 3 ?_
   refine oq (.callR (yb := asc (.inl rfl) as1) (yc := res6 hpC hqC hpl hql)) ?_
   refine sx 2 ?_
   refine oq (.callR (yb := asc (.inl rfl) as1) (yc := res6E hqC hpC hql hpl (symm_F (.inr m2)))) ?_
   refine sx 10 ?_
   refine dq (.callR (yb := asc (.inl rfl) as1) (yc := ref03_ResS p q hpl hql hpB hqB)) ?_
   refine sx 3 ?_
   refine wp_cF rfl (by rfl) ?_
   refine sx 6 ?_
   refine oq (.remR (yc := by decide) (yd := by rfl)) ?_
   refine sx 2 ?_
   refine gq (z := by exact beq_iff_eq.2 (beq_iff_eq.2 m1)) .moveR ?_
   refine gq (z := by exact beq_iff_eq.2 (beq_iff_eq.2 m1)) (.callR (yb := as1) (yc := ref03_Deg q)) ?_
   refine gq (z := by exact beq_iff_eq.2 (beq_iff_eq.2 m1)) (.remR (yc := by decide) (yd := by rfl)) ?_
   refine gq (z := by exact beq_iff_eq.2 (beq_iff_eq.2 m1)) .cmpR ?_
   refine oq (.pickT rfl (by exact beq_iff_eq.2 (beq_iff_eq.2 m1)) rfl) ?_
   refine sx 1 ?_
   refine wp_cF rfl (by exact beq_false_of_ne m2) ?_
   refine sx 3 ?_
   rcases (show p = 0 ∨ (p ≠ 0 ∧ q = 0) ∨ (p ≠ 0 ∧ q ≠ 0) by by_cases a : p = 0 <;> by_cases b : q = 0 <;> simp [a, b]) with g0 | ⟨g0, g1⟩ | ⟨g0, g1⟩
   ·have z0 : resS p q = ((0 : Int) : Rat) := if_pos (.inl g0)
    refine sx 5 ?_
    refine gs (z := by (rw [pol_nil.2 g0]; rfl)) ?_
    refine gs (z := by (rw [pol_nil.2 g0]; rfl)) ?_
    refine gs (z := by (rw [pol_nil.2 g0]; rfl)) ?_
    refine oq (.pickT rfl (by (rw [pol_nil.2 g0]; rfl)) rfl) ?_
    refine sx 1 ?_
    refine wp_cT rfl (by rfl) ?_
    refine sx 5 ?_
    refine wd_gq rfl rfl rfl (by rfl) rfl rfl rfl (.callR (yb := asc (.inl rfl) as1) (yc := same_Q _ _ z0)) ?_
    refine sx 4 ?_
    refine wd_gq rfl rfl rfl (by rfl) rfl rfl rfl (.callR (yb := asc (.inl rfl) as1) (yc := same_Q _ _ z0)) ?_
    refine sx 5 ?_
    exact ⟨.inr rfl, rfl, (by (refine res_t rfl ?_); (rfl)), trivial⟩
   ·have z0 : resS p q = ((0 : Int) : Rat) := if_pos (.inr g1)
    refine sx 5 ?_
    refine gq (z := by (have := mt pol_nil.1 g0; simp [this]; done)) .moveR ?_
    refine gq (z := by (have := mt pol_nil.1 g0; simp [this]; done)) (.lenR (yc := .inl rfl) (yd := by exact encQs_len)) ?_
    refine gq (z := by (have := mt pol_nil.1 g0; simp [this]; done)) .cmpR ?_
    refine oq (.pickF rfl (by (have := mt pol_nil.1 g0; simp [this]; done)) rfl) ?_
    refine sx 1 ?_
    refine wp_cT rfl (by rw [pol_nil.2 g1]; rfl) ?_
    refine sx 5 ?_
    refine wd_gq rfl rfl rfl (by rfl) rfl rfl rfl (.callR (yb := asc (.inl rfl) as1) (yc := same_Q _ _ z0)) ?_
    refine sx 4 ?_
    refine wd_gq rfl rfl rfl (by rfl) rfl rfl rfl (.callR (yb := asc (.inl rfl) as1) (yc := same_Q _ _ z0)) ?_
    refine sx 5 ?_
    exact ⟨.inr rfl, rfl, (by (refine res_t rfl ?_); (rfl)), trivial⟩
   ·refine sx 5 ?_
    refine gq (z := by (have := mt pol_nil.1 g0; simp [this]; done)) .moveR ?_
    refine gq (z := by (have := mt pol_nil.1 g0; simp [this]; done)) (.lenR (yc := .inl rfl) (yd := by exact encQs_len)) ?_
    refine gq (z := by (have := mt pol_nil.1 g0; simp [this]; done)) .cmpR ?_
    refine oq (.pickF rfl (by (have := mt pol_nil.1 g0; simp [this]; done)) rfl) ?_
    refine sx 1 ?_
    refine wp_cF rfl (by (have := mt pol_nil.1 g1); simp [this]) ?_
    refine sx 5 ?_
    refine oq (.callR (yb := asc (.inl rfl) as1) (yc := qpoly_Gcd p q (eb611 hpC.monic hqC.monic (by decide) (by rw [Poly.monic_len]; exact hpl) (by rw [Poly.monic_len]; omega)) (by decide) (hpB.le (by decide)) (hqB.le (by decide)))) ?_
    refine oq (.callR (yb := as1) (yc := ref03_Deg _)) ?_
    refine sx 7 ?_
    refine oq (.callR (yb := asc (.inl rfl) as1) (yc := qpoly_Mul q r hqB hrB (by omega) (by omega))) ?_
    refine oq (.callR (yb := asc (.inl rfl) as1) (yc := res11 hpC hqC hrC hpl hql hrl)) ?_
    refine sx 18 ?_
    refine wd_gq rfl rfl rfl (by exact (congrArg (· == true) (cop_eq g0 g1))) rfl rfl rfl (.loadPR (yd := by rfl)) ?_
    refine wd_gq rfl rfl rfl (by exact (congrArg (· == true) (cop_eq g0 g1))) rfl rfl rfl (.loadPR (yd := by rfl)) ?_
    refine wd_gq rfl rfl rfl (by exact (congrArg (· == true) (cop_eq g0 g1))) rfl rfl rfl .moveR ?_
    refine wd_gq rfl rfl rfl (by exact (congrArg (· == true) (cop_eq g0 g1))) rfl rfl rfl .moveR ?_
    refine wd_gq rfl rfl rfl (by exact (congrArg (· == true) (cop_eq g0 g1))) rfl rfl rfl (.callR (yb := asc (.inl rfl) as1) (yc := res6 hpC hrC hpl hrl)) ?_
    refine wd_gq rfl rfl rfl (by exact (congrArg (· == true) (cop_eq g0 g1))) rfl rfl rfl (.callR (yb := asc (.inl rfl) as1) (yc := ref02_Mul (resS p q) (resS p r) ((resS_bq hpC hqC hpl hql).le (by decide)) ((resS_bq hpC hrC hpl hrl).le (by decide)))) ?_
    refine wd_gq rfl rfl rfl (by exact (congrArg (· == true) (cop_eq g0 g1))) rfl rfl rfl (.callR (yb := asc (.inl rfl) as1) (yc := same_Q _ _ (resS_mul g0 g1))) ?_
    refine dq (.pickT rfl (by exact (congrArg (· == true) (cop_eq g0 g1))) rfl) ?_
    refine sx 3 ?_
    exact ⟨.inr rfl, rfl, (by (refine res_t rfl ?_); (rfl)), trivial⟩
  ·refine sx 3 ?_
   refine oq (.callR (yb := asc (.inl rfl) as1) (yc := res6 hpC hqC hpl hql)) ?_
   refine sx 2 ?_
   refine oq (.callR (yb := asc (.inl rfl) as1) (yc := res6E hqC hpC hql hpl (symm_T m1 m2))) ?_
   refine sx 10 ?_
   refine dq (.callR (yb := asc (.inl rfl) as1) (yc := ref03_ResS p q hpl hql hpB hqB)) ?_
   refine sx 3 ?_
   refine wp_cF rfl (by rfl) ?_
   refine sx 6 ?_
   refine oq (.remR (yc := by decide) (yd := by rfl)) ?_
   refine sx 2 ?_
   refine gq (z := by exact beq_iff_eq.2 (beq_iff_eq.2 m1)) .moveR ?_
   refine gq (z := by exact beq_iff_eq.2 (beq_iff_eq.2 m1)) (.callR (yb := as1) (yc := ref03_Deg q)) ?_
   refine gq (z := by exact beq_iff_eq.2 (beq_iff_eq.2 m1)) (.remR (yc := by decide) (yd := by rfl)) ?_
   refine gq (z := by exact beq_iff_eq.2 (beq_iff_eq.2 m1)) .cmpR ?_
   refine oq (.pickT rfl (by exact beq_iff_eq.2 (beq_iff_eq.2 m1)) rfl) ?_
   refine sx 1 ?_
   refine wp_cT rfl (by exact beq_iff_eq.2 m2) ?_
   refine sx 2 ?_
   refine oq (.callR (yb := as1) (yc := neg_neg_call (resS p q))) ?_
   refine sx 4 ?_
   rcases (show p = 0 ∨ (p ≠ 0 ∧ q = 0) ∨ (p ≠ 0 ∧ q ≠ 0) by by_cases a : p = 0 <;> by_cases b : q = 0 <;> simp [a, b]) with g0 | ⟨g0, g1⟩ | ⟨g0, g1⟩
   ·have z0 : resS p q = ((0 : Int) : Rat) := if_pos (.inl g0)
    refine sx 5 ?_
    refine gs (z := by (rw [pol_nil.2 g0]; rfl)) ?_
    refine gs (z := by (rw [pol_nil.2 g0]; rfl)) ?_
    refine gs (z := by (rw [pol_nil.2 g0]; rfl)) ?_
    refine oq (.pickT rfl (by (rw [pol_nil.2 g0]; rfl)) rfl) ?_
    refine sx 1 ?_
    refine wp_cT rfl (by rfl) ?_
    refine sx 5 ?_
    refine wd_gq rfl rfl rfl (by rfl) rfl rfl rfl (.callR (yb := asc (.inl rfl) as1) (yc := same_Q _ _ z0)) ?_
    refine sx 4 ?_
    refine wd_gq rfl rfl rfl (by rfl) rfl rfl rfl (.callR (yb := asc (.inl rfl) as1) (yc := same_Q _ _ z0)) ?_
    refine sx 5 ?_
    exact ⟨.inr rfl, rfl, (by (refine res_t rfl ?_); (rfl)), trivial⟩
   ·have z0 : resS p q = ((0 : Int) : Rat) := if_pos (.inr g1)
    refine sx 5 ?_
    refine gq (z := by (have := mt pol_nil.1 g0; simp [this]; done)) .moveR ?_
    refine gq (z := by (have := mt pol_nil.1 g0; simp [this]; done)) (.lenR (yc := .inl rfl) (yd := by exact encQs_len)) ?_
    refine gq (z := by (have := mt pol_nil.1 g0; simp [this]; done)) .cmpR ?_
    refine oq (.pickF rfl (by (have := mt pol_nil.1 g0; simp [this]; done)) rfl) ?_
    refine sx 1 ?_
    refine wp_cT rfl (by rw [pol_nil.2 g1]; rfl) ?_
    refine sx 5 ?_
    refine wd_gq rfl rfl rfl (by rfl) rfl rfl rfl (.callR (yb := asc (.inl rfl) as1) (yc := same_Q _ _ z0)) ?_
    refine sx 4 ?_
    refine wd_gq rfl rfl rfl (by rfl) rfl rfl rfl (.callR (yb := asc (.inl rfl) as1) (yc := same_Q _ _ z0)) ?_
    refine sx 5 ?_
    exact ⟨.inr rfl, rfl, (by (refine res_t rfl ?_); (rfl)), trivial⟩
   ·refine sx 5 ?_
    refine gq (z := by (have := mt pol_nil.1 g0; simp [this]; done)) .moveR ?_
    refine gq (z := by (have := mt pol_nil.1 g0; simp [this]; done)) (.lenR (yc := .inl rfl) (yd := by exact encQs_len)) ?_
    refine gq (z := by (have := mt pol_nil.1 g0; simp [this]; done)) .cmpR ?_
    refine oq (.pickF rfl (by (have := mt pol_nil.1 g0; simp [this]; done)) rfl) ?_
    refine sx 1 ?_
    refine wp_cF rfl (by (have := mt pol_nil.1 g1); simp [this]) ?_
    refine sx 5 ?_
    refine oq (.callR (yb := asc (.inl rfl) as1) (yc := qpoly_Gcd p q (eb611 hpC.monic hqC.monic (by decide) (by rw [Poly.monic_len]; exact hpl) (by rw [Poly.monic_len]; omega)) (by decide) (hpB.le (by decide)) (hqB.le (by decide)))) ?_
    refine oq (.callR (yb := as1) (yc := ref03_Deg _)) ?_
    refine sx 7 ?_
    refine oq (.callR (yb := asc (.inl rfl) as1) (yc := qpoly_Mul q r hqB hrB (by omega) (by omega))) ?_
    refine oq (.callR (yb := asc (.inl rfl) as1) (yc := res11 hpC hqC hrC hpl hql hrl)) ?_
    refine sx 18 ?_
    refine wd_gq rfl rfl rfl (by exact (congrArg (· == true) (cop_eq g0 g1))) rfl rfl rfl (.loadPR (yd := by rfl)) ?_
    refine wd_gq rfl rfl rfl (by exact (congrArg (· == true) (cop_eq g0 g1))) rfl rfl rfl (.loadPR (yd := by rfl)) ?_
    refine wd_gq rfl rfl rfl (by exact (congrArg (· == true) (cop_eq g0 g1))) rfl rfl rfl .moveR ?_
    refine wd_gq rfl rfl rfl (by exact (congrArg (· == true) (cop_eq g0 g1))) rfl rfl rfl .moveR ?_
    refine wd_gq rfl rfl rfl (by exact (congrArg (· == true) (cop_eq g0 g1))) rfl rfl rfl (.callR (yb := asc (.inl rfl) as1) (yc := res6 hpC hrC hpl hrl)) ?_
    refine wd_gq rfl rfl rfl (by exact (congrArg (· == true) (cop_eq g0 g1))) rfl rfl rfl (.callR (yb := asc (.inl rfl) as1) (yc := ref02_Mul (resS p q) (resS p r) ((resS_bq hpC hqC hpl hql).le (by decide)) ((resS_bq hpC hrC hpl hrl).le (by decide)))) ?_
    refine wd_gq rfl rfl rfl (by exact (congrArg (· == true) (cop_eq g0 g1))) rfl rfl rfl (.callR (yb := asc (.inl rfl) as1) (yc := same_Q _ _ (resS_mul g0 g1))) ?_
    refine dq (.pickT rfl (by exact (congrArg (· == true) (cop_eq g0 g1))) rfl) ?_
    refine sx 3 ?_
    exact ⟨.inr rfl, rfl, (by (refine res_t rfl ?_); (rfl)), trivial⟩
end Go.Proofs.YtacenhlcfeepgaaGreat
