/- The law is true for all arguments of bulk at most 1048576 (the given statement says so), and these read behind the call as they read before (the row R9: what it needs beyond the files A; conditions: none but the statement's own). -/
import Derived.Test.YtacenhlcfeepgaaGreatA6
import Derived.Deep.CondSized
import Derived.KernelRfl
set_option linter.unusedVariables false
set_option linter.unusedSimpArgs false
set_option linter.unusedSectionVars false
set_option maxHeartbeats 4000000
set_option maxRecDepth 100000
namespace Go.Proofs.YtacenhlcfeepgaaGreat.Eng
open Go
theorem getl {sl : Slots} {d e : Nat} {a b : List Tr} (h : get sl d = some (.t (.sl e a))) (k : a = b) : get sl d = some (.t (.sl e b)) := k ▸ h
end Go.Proofs.YtacenhlcfeepgaaGreat.Eng
namespace Go.Proofs.YtacenhlcfeepgaaGreat
open Go Eng
namespace Eng
end Eng
abbrev F_law03_QpolyStays : Nat := 11
abbrev F_ref02_CloneAll : Nat := 70
abbrev F_ref02_Clone : Nat := 71
abbrev F_ref02_StayAll : Nat := 72
abbrev F_ref02_Stays : Nat := 73
abbrev F_ref01_Clone : Nat := 139
abbrev F_ref01_Stays : Nat := 140
end Go.Proofs.YtacenhlcfeepgaaGreat
namespace Go.Proofs.YtacenhlcfeepgaaGreat
namespace Poly
section
variable {R : Type} [i0 : CRing R] [DecidableEq R]
theorem cst_add (a b : R) : cst (a + b) = cst a + cst b := ext fun i => by rw [co_add, co_cst, co_cst, co_cst]; split <;> grind
theorem cst_one : cst (1 : R) = 1 := rfl
end
end Poly
example (p q : Poly Rat) : (p + q) * (p - q) = p * p - q * q := by grind
end Go.Proofs.YtacenhlcfeepgaaGreat
namespace Go.Proofs.YtacenhlcfeepgaaGreat
namespace Poly
section
variable {R : Type} [CRing R] [DecidableEq R]
theorem len_neg (p : Poly R) : (-p).len ≤ p.len := len_le fun i hi => by rw [co_neg, co_ge hi]; grind
end
section
variable {F : Type} [Fld F] [DecidableEq F]
theorem monic_ne {p : Poly F} (h : p ≠ 0) : monic p ≠ 0 := mul_ne (cst_ne (finv_ne (lead_ne h))) h
theorem one_ne : (1 : Poly F) ≠ 0 := cst_ne fone_ne
theorem gcd_mon {p q : Poly F} (h : ¬ (p = 0 ∧ q = 0)) : Mon (gcd p q) := by
 refine monic_Mon fun e => h ?_
 have : gcd p q = 0 := by rw [gcd, e, monic_zero]
 exact gcd_zero_iff.1 this
end
end Poly
end Go.Proofs.YtacenhlcfeepgaaGreat
namespace Go.Proofs.YtacenhlcfeepgaaGreat
namespace Poly
section
variable {R : Type} [i0 : CRing R] [DecidableEq R]
theorem eval_cst (a x : R) : (cst a).eval x = a := by rw [cst, eval_of, evalL, evalL]; grind
theorem eval_neg (p : Poly R) (x : R) : (-p).eval x = - p.eval x := by
 have h : (-p + p).eval x = 0 := by
  have : -p + p = 0 := by grind
  rw [this, eval_zero]
 rw [eval_add] at h; grind
theorem eval_sub (p q : Poly R) (x : R) : (p - q).eval x = p.eval x - q.eval x := by
 have : p - q = p + -q := by grind
 rw [this, eval_add, eval_neg]; grind
theorem deriv_add (p q : Poly R) : deriv (p + q) = deriv p + deriv q := ext fun i => by rw [co_deriv, co_add, co_add, co_deriv, co_deriv]; grind
theorem deriv_cX (a : R) (p : Poly R) : deriv (cst a + X * p) = p + X * deriv p := ext fun i => by
 rw [co_deriv, co_add, co_cst, co_X_mul, co_add, co_X_mul]
 rw [if_neg (by omega), if_neg (by omega), Nat.add_sub_cancel]
 cases i with
 | zero =>
  rw [if_pos rfl, nc_succ]
  have : (nc 0 : R) = 0 := rfl
  rw [this]; grind
 | succ i => rw [if_neg (by omega), Nat.add_sub_cancel, co_deriv, nc_succ (i + 1)]; grind
theorem deriv_cst (a : R) : deriv (cst a) = 0 := ext fun i => by rw [co_deriv, co_cst, if_neg (by omega), co_zero]; grind
theorem deriv_mul (p q : Poly R) : deriv (p * q) = deriv p * q + p * deriv q := by
 revert p
 apply ind
 ·rw [zero_mul', deriv_zero]; grind
 ·intro a p ih
  have e : (cst a + X * p) * q = cst a * q + (cst 0 + X * (p * q)) := by rw [cst_zero]; grind
  have e2 : deriv (cst a * q) = cst a * deriv q := ext fun i => by rw [co_deriv, cst_mul, cst_mul, co_deriv]; grind
  rw [e, deriv_add, deriv_cX, ih, e2, deriv_cX]; grind
end
end Poly
end Go.Proofs.YtacenhlcfeepgaaGreat
namespace Go.Proofs.YtacenhlcfeepgaaGreat
def choose : Nat → Nat → Nat
 | _, 0 => 1
 | 0, _ + 1 => 0
 | n + 1, k + 1 => choose n k + choose n (k + 1)
theorem choose_zero (n : Nat) : choose n 0 = 1 := by cases n <;> rfl
theorem choose_gt : ∀ (n k : Nat), n < k → choose n k = 0
 | 0, k + 1, _ => rfl
 | n + 1, k + 1, h => by rw [choose, choose_gt n k (by omega), choose_gt n (k + 1) (by omega)]
theorem choose_up : ∀ (n m : Nat), m ≤ n → (m + 1) * choose n (m + 1) = (n - m) * choose n m
  | 0, m, h => by obtain rfl : m = 0 := by omega
                  rfl
  | n + 1, 0, _ => by
    have := choose_up n 0 (Nat.zero_le _)
    show (0 + 1) * (choose n 0 + choose n (0 + 1)) = (n + 1 - 0) * choose (n + 1) 0
    rw [choose_zero] at this
    rw [choose_zero, choose_zero]
    omega
  | n + 1, m + 1, h => by
    rw [choose, choose]
    by_cases h1 : m + 1 ≤ n
    · have h2 := choose_up n m (by omega)
      have h3 := choose_up n (m + 1) h1
      obtain ⟨d, hd⟩ : ∃ d, n = m + 1 + d := ⟨n - (m + 1), by omega⟩
      rw [show n - m = d + 1 by omega] at h2
      rw [show n - (m + 1) = d by omega] at h3
      rw [show n + 1 - (m + 1) = d + 1 by omega]
      generalize choose n m = a at *
      generalize choose n (m + 1) = b at *
      generalize choose n (m + 1 + 1) = c at *
      rw [Nat.mul_add, Nat.mul_add, h3]
      have e : (m + 1 + 1) * b = (m + 1) * b + b := by rw [Nat.succ_mul]
      rw [e, h2, Nat.add_mul d 1 b]
      omega
    · obtain rfl : m = n := by omega
      rw [choose_gt m (m + 1) (by omega), choose_gt m (m + 1 + 1) (by omega)]
      simp
theorem choose_down (n m : Nat) (h : m ≤ n) : (n + 1) * choose n m = (n + 1 - m) * choose (n + 1) m := by
 cases m with
 | zero => rw [choose_zero, choose_zero]; omega
 | succ m =>
  rw [choose]
  have h2 := choose_up n m (by omega)
  obtain ⟨d, hd⟩ : ∃ d, n = m + 1 + d := ⟨n - (m + 1), by omega⟩
  rw [show n - m = d + 1 by omega] at h2
  rw [show n + 1 - (m + 1) = d + 1 by omega, Nat.mul_add, ← h2, show n + 1 = (m + 1) + (d + 1) by omega, Nat.add_mul]
theorem choose_dvd {L : Nat} : ∀ (m n : Nat), m + 1 ≤ n → (∀ k, 1 ≤ k → k ≤ n → k ∣ L) → (m + 1) * choose n (m + 1) ∣ L
 | 0, n, h, hL => by
  have := choose_up n 0 (Nat.zero_le _)
  rw [choose_zero] at this
  rw [show (0 + 1) * choose n (0 + 1) = n by omega]
  exact hL n (by omega) (Nat.le_refl _)
 | m + 1, n, h, hL => by
  obtain ⟨b, hb⟩ := choose_dvd m n (by omega) hL
  obtain ⟨r, hr⟩ : ∃ r, n = r + 1 := ⟨n - 1, by omega⟩
  subst hr
  obtain ⟨a, ha⟩ := choose_dvd m r (by omega) (fun k h1 h2 => hL k h1 (by omega))
  have h1 := choose_up (r + 1) (m + 1) (by omega)
  have h2 := choose_down r (m + 1) (by omega)
  -- h1: (m+2) C(r+1, m+2) = (r+1-(m+1)) C(r+1, m+1);  h2: (r+1) C(r, m+1) = (r+1-(m+1)) C(r+1,m+1)
  generalize choose (r + 1) (m + 1) = F at *
  generalize choose r (m + 1) = G at *
  generalize (m + 1 + 1) * choose (r + 1) (m + 1 + 1) = H at *
  obtain ⟨d, hd⟩ : ∃ d, r + 1 = (m + 1) + d := ⟨r + 1 - (m + 1), by omega⟩
  rw [show r + 1 - (m + 1) = d by omega] at h1 h2
  -- (m+1) H = d (m+1) F,  a (m+1) G = L, b (m+1) F = L
  have e1 : (m + 1) * (a * H) = (r + 1) * L := by
   rw [h1, ← h2, ha]; simp only [Nat.mul_comm, Nat.mul_left_comm, Nat.mul_assoc]
  have e2 : (m + 1) * (b * H) = d * L := by
   rw [h1, hb]; simp only [Nat.mul_comm, Nat.mul_left_comm, Nat.mul_assoc]
  rw [hd, Nat.add_mul (m + 1) d L, ← e2, ← Nat.mul_add] at e1
  have e3 := Nat.eq_of_mul_eq_mul_left (Nat.succ_pos m) e1
  refine ⟨a - b, ?_⟩
  rw [Nat.mul_sub, Nat.mul_comm H a, Nat.mul_comm H b]
  omega
theorem choose_big (t : Nat) : ∀ m : Nat, m < t → 3 * t * 2 ^ m ≤ (m + 1) * choose (3 * t) (m + 1)
 | 0, h => by
  have := choose_up (3 * t) 0 (Nat.zero_le _)
  rw [choose_zero] at this
  simp at this ⊢
  omega
 | m + 1, h => by
  have ih := choose_big t m (by omega)
  have h1 := choose_up (3 * t) (m + 1) (by omega)
  rw [h1]
  have h2 : 2 * (m + 1) ≤ 3 * t - (m + 1) := by omega
  have h3 := Nat.mul_le_mul_right (choose (3 * t) (m + 1)) h2
  rw [Nat.pow_succ]
  generalize choose (3 * t) (m + 1) = c at *
  generalize 2 ^ m = p at *
  have e : 3 * t * (p * 2) = 3 * t * p * 2 := by rw [Nat.mul_assoc, Nat.mul_assoc, Nat.mul_assoc]
  rw [e]
  rw [Nat.mul_assoc] at h3
  omega
def Prime (p : Nat) : Prop := 2 ≤ p ∧ ∀ d, 2 ≤ d → d < p → ¬ d ∣ p
theorem exists_prime : ∀ (n k : Nat), k ≤ n → 2 ≤ k → ∃ p, Prime p ∧ p ∣ k
 | 0, k, h, h2 => by omega
 | n + 1, k, h, h2 => by
  by_cases hp : Prime k
  ·exact ⟨k, hp, Nat.dvd_refl k⟩
  ·have : ∃ d, 2 ≤ d ∧ d < k ∧ d ∣ k := by
    apply Classical.byContradiction
    intro hn
    exact hp ⟨h2, fun d h3 h4 h5 => hn ⟨d, h3, h4, h5⟩⟩
   obtain ⟨d, h3, h4, h5⟩ := this
   obtain ⟨p, h6, h7⟩ := exists_prime n d (by omega) h3
   exact ⟨p, h6, Nat.dvd_trans h7 h5⟩
theorem dvd_pow_of {N B : Nat} (h : ∀ p, Prime p → p ≤ B → p ∣ N) : ∀ (e k : Nat), 1 ≤ k → k ≤ B → k < 2 ^ e → k ∣ N ^ e
  | 0, k, h1, h2, h3 => by obtain rfl : k = 1 := by simp at h3; omega
                           exact Nat.one_dvd _
  | e + 1, k, h1, h2, h3 => by
    by_cases hk : k = 1
    · subst hk; exact Nat.one_dvd _
    · obtain ⟨p, hp, r, hr⟩ := exists_prime k k (Nat.le_refl _) (by omega)
      have hp2 := hp.1
      have hr1 : 1 ≤ r := by
        rcases Nat.eq_zero_or_pos r with h0 | h0
        · rw [h0, Nat.mul_zero] at hr; omega
        · exact h0
      have hpk : p ≤ k := by rw [hr]; exact Nat.le_mul_of_pos_right _ hr1
      have h4 : 2 * r ≤ k := by rw [hr]; exact Nat.mul_le_mul_right r hp2
      rw [Nat.pow_succ] at h3
      have ih := dvd_pow_of h e r hr1 (by omega) (by omega)
      rw [Nat.pow_succ, hr, Nat.mul_comm p r]
      exact Nat.mul_dvd_mul ih (h p hp (by omega))
theorem prime_ndvd {N t e : Nat} (hN : N ≠ 0) (ht : 1 ≤ t) (he : 3 * t < 2 ^ e) (hs : N ^ e < 3 * t * 2 ^ (t - 1)) : ∃ p, Prime p ∧ p ≤ 3 * t ∧ ¬ p ∣ N := by
 apply Classical.byContradiction
 intro hn
 have h1 : ∀ p, Prime p → p ≤ 3 * t → p ∣ N := fun p hp hl => by
  apply Classical.byContradiction
  intro h2
  exact hn ⟨p, hp, hl, h2⟩
 have h2 := choose_dvd (L := N ^ e) (t - 1) (3 * t) (by omega) (fun k h3 h4 => dvd_pow_of h1 e k h3 h4 (by omega))
 have h3 := choose_big t (t - 1) (by omega)
 have h4 := Nat.le_of_dvd (Nat.pos_of_ne_zero (fun h0 => hN (Nat.pow_eq_zero.1 h0).1)) h2
 omega
end Go.Proofs.YtacenhlcfeepgaaGreat
namespace Go.Proofs.YtacenhlcfeepgaaGreat
theorem pigeon : ∀ (m n : Nat) (f : Nat → Nat), (∀ i, i < n → f i < m) → m < n → ∃ i j, i < j ∧ j < n ∧ f i = f j
 | 0, n, f, h, hn => by have := h 0 (by omega); omega
 | m + 1, n, f, h, hn => by
  obtain ⟨r, hr⟩ : ∃ r, n = r + 1 := ⟨n - 1, by omega⟩
  subst hr
  by_cases hex : ∃ i, i < r ∧ f i = f r
  ·obtain ⟨i, h1, h2⟩ := hex
   exact ⟨i, r, h1, by omega, h2⟩
  ·have hne : ∀ i, i < r → f i ≠ f r := fun i hi e => hex ⟨i, hi, e⟩
   have hl := h r (by omega)
   obtain ⟨i, j, h1, h2, h3⟩ := pigeon m r (fun i => if f r < f i then f i - 1 else f i) (fun i hi => by
    have h4 := h i (by omega)
    have h5 := hne i hi
    show (if f r < f i then f i - 1 else f i) < m
    split <;> omega) (by omega)
   refine ⟨i, j, h1, by omega, ?_⟩
   have h4 := hne i (by omega)
   have h5 := hne j h2
   split at h3 <;> split at h3 <;> omega
def encB (b : Nat) : Nat → (Nat → Nat) → Nat
 | 0, _ => 0
 | M + 1, y => y 0 + b * encB b M fun k => y (k + 1)
theorem encB_lt {b : Nat} (hb : 0 < b) : ∀ (M : Nat) (y : Nat → Nat), (∀ k, k < M → y k < b) → encB b M y < b ^ M
 | 0, y, _ => by simp [encB]
 | M + 1, y, h => by
  have h1 := encB_lt hb M (fun k => y (k + 1)) (fun k hk => h (k + 1) (by omega))
  have h2 := h 0 (by omega)
  rw [encB, Nat.pow_succ, Nat.mul_comm (b ^ M) b]
  have h3 : b * (encB b M (fun k => y (k + 1)) + 1) ≤ b * b ^ M := Nat.mul_le_mul_left b h1
  rw [Nat.mul_add] at h3
  omega
theorem encB_inj {b : Nat} : ∀ (M : Nat) (y z : Nat → Nat), (∀ k, k < M → y k < b) → (∀ k, k < M → z k < b) → encB b M y = encB b M z → ∀ k, k < M → y k = z k
 | 0, _, _, _, _, _, k, hk => by omega
 | M + 1, y, z, hy, hz, he, k, hk => by
  rw [encB, encB] at he
  have h1 := hy 0 (by omega)
  have h2 := hz 0 (by omega)
  have e1 := congrArg (· % b) he
  simp only [Nat.add_mul_mod_self_left, Nat.mod_eq_of_lt h1, Nat.mod_eq_of_lt h2] at e1
  cases k with
  | zero => exact e1
  | succ k =>
   rw [e1] at he
   have e2 := Nat.eq_of_mul_eq_mul_left (show 0 < b by omega) (Nat.add_left_cancel he)
   exact encB_inj M _ _ (fun k hk => hy (k + 1) (by omega)) (fun k hk => hz (k + 1) (by omega)) e2 k (by omega)
def digB (b c i : Nat) : Nat := c / b ^ i % b
theorem digB_succ (b c i : Nat) : digB b (c / b) i = digB b c (i + 1) := by
 rw [digB, digB, Nat.div_div_eq_div_mul, Nat.pow_succ, Nat.mul_comm b]
theorem digB_inj {b : Nat} (hb : 0 < b) : ∀ (N c d : Nat), c < b ^ N → d < b ^ N → (∀ i, i < N → digB b c i = digB b d i) → c = d
 | 0, c, d, h1, h2, _ => by simp at h1 h2; omega
 | N + 1, c, d, h1, h2, h => by
  have h0 := h 0 (by omega)
  rw [digB, digB, Nat.pow_zero, Nat.div_one, Nat.div_one] at h0
  have h3 := digB_inj hb N (c / b) (d / b) (by rw [Nat.div_lt_iff_lt_mul hb, ← Nat.pow_succ]; exact h1) (by rw [Nat.div_lt_iff_lt_mul hb, ← Nat.pow_succ]; exact h2) fun i hi => by
   rw [digB_succ, digB_succ]; exact h (i + 1) (by omega)
  rw [← Nat.div_add_mod c b, ← Nat.div_add_mod d b, h0, h3]
def sumI : Nat → (Nat → Int) → Int
 | 0, _ => 0
 | n + 1, f => sumI n f + f n
theorem sumI_sub (f g : Nat → Int) : ∀ n, sumI n (fun i => f i - g i) = sumI n f - sumI n g
 | 0 => rfl
 | n + 1 => by rw [sumI, sumI, sumI, sumI_sub f g n]; omega
theorem sumI_congr {f g : Nat → Int} : ∀ n, (∀ i, i < n → f i = g i) → sumI n f = sumI n g
 | 0, _ => rfl
 | n + 1, h => by rw [sumI, sumI, sumI_congr n (fun i hi => h i (by omega)), h n (by omega)]
theorem sumI_abs {f : Nat → Int} {C : Nat} : ∀ n, (∀ i, i < n → (f i).natAbs ≤ C) → (sumI n f).natAbs ≤ n * C
 | 0, _ => by simp [sumI]
 | n + 1, h => by
  have h1 := sumI_abs n (fun i hi => h i (by omega))
  have h2 := h n (by omega)
  rw [sumI, Nat.succ_mul]
  omega
theorem siegel {N M B : Nat} (A : Nat → Nat → Int) (hM : M < N) (hA : ∀ k i, (A k i).natAbs ≤ B) :
  ∃ x : Nat → Int, (∃ i, i < N ∧ x i ≠ 0) ∧ (∀ i, (x i).natAbs ≤ (2 * (N * B) + 1) ^ M) ∧ ∀ k, k < M → sumI N (fun i => A k i * x i) = 0 := by
 obtain ⟨H, hH⟩ : ∃ H, H = (2 * (N * B) + 1) ^ M := ⟨_, rfl⟩
 have hH1 : 1 ≤ H := by rw [hH]; exact Nat.one_le_pow _ _ (by omega)
 obtain ⟨T, hT⟩ : ∃ T, T = N * (B * H) := ⟨_, rfl⟩
 let v : Nat → Nat → Int := fun c k => sumI N fun i => A k i * (digB (H + 1) c i : Nat)
 have hd : ∀ c i, digB (H + 1) c i ≤ H := fun c i => by
  have := Nat.mod_lt (c / (H + 1) ^ i) (show H + 1 > 0 by omega)
  show c / (H + 1) ^ i % (H + 1) ≤ H
  omega
 have hv : ∀ c k, (v c k).natAbs ≤ T := fun c k => by
  rw [hT]
  refine sumI_abs N fun i _ => ?_
  rw [Int.natAbs_mul, Int.natAbs_natCast]
  exact Nat.mul_le_mul (hA k i) (hd c i)
 have hcount : (2 * T + 1) ^ M < (H + 1) ^ N := by
  have h1 : 2 * T + 1 ≤ (2 * (N * B) + 1) * H := by
   rw [hT, Nat.add_mul, ← Nat.mul_assoc N B H, Nat.mul_assoc 2 (N * B) H]; omega
  have h2 := Nat.pow_le_pow_left h1 M
  rw [Nat.mul_pow, ← hH] at h2
  have h3 : H * H ^ M = H ^ (M + 1) := by rw [Nat.pow_succ, Nat.mul_comm]
  rw [h3] at h2
  have h4 : H ^ (M + 1) ≤ H ^ N := Nat.pow_le_pow_right hH1 hM
  have h5 : H ^ N < (H + 1) ^ N := Nat.pow_lt_pow_left (by omega) (by omega)
  omega
 obtain ⟨c, d, h1, h2, h3⟩ := pigeon ((2 * T + 1) ^ M) ((H + 1) ^ N) (fun c => encB (2 * T + 1) M fun k => (v c k + T).toNat) (fun c _ => encB_lt (by omega) M _ fun k _ => by have := hv c k; omega) hcount
 have h4 := encB_inj M _ _ (fun k _ => by have := hv c k; omega) (fun k _ => by have := hv d k; omega) h3
 refine ⟨fun i => (digB (H + 1) c i : Int) - (digB (H + 1) d i : Int), ?_, fun i => ?_, fun k hk => ?_⟩
 ·apply Classical.byContradiction
  intro hn
  have := digB_inj (b := H + 1) (by omega) N c d (by omega) h2 fun i hi => by
   apply Classical.byContradiction
   intro hne
   exact hn ⟨i, hi, show (digB (H + 1) c i : Int) - (digB (H + 1) d i : Int) ≠ 0 by omega⟩
  omega
 ·have := hd c i
  have := hd d i
  rw [← hH]
  show ((digB (H + 1) c i : Int) - (digB (H + 1) d i : Int)).natAbs ≤ H
  omega
 ·have h5 := h4 k hk
  have h6 := hv c k
  have h7 := hv d k
  have h8 : v c k = v d k := by omega
  have h9 := sumI_sub (fun i => A k i * (digB (H + 1) c i : Nat)) (fun i => A k i * (digB (H + 1) d i : Nat)) N
  have h10 : sumI N (fun i => A k i * (digB (H + 1) c i : Nat)) = v c k := rfl
  have h11 : sumI N (fun i => A k i * (digB (H + 1) d i : Nat)) = v d k := rfl
  rw [h10, h11, h8, Int.sub_self] at h9
  rw [← h9]
  exact sumI_congr N fun i _ => by rw [Int.mul_sub]
end Go.Proofs.YtacenhlcfeepgaaGreat
namespace Go.Proofs.YtacenhlcfeepgaaGreat
open Go Eng
theorem qpoly_SquarefreeZ : FnP Tryz.prog tb F_qpoly_Squarefree [.sl T_Rat []] (.tu [encQI 0 0, .sl T_L_Rat [], .i .i64 5]) := by
 refine fnP_T tbOk Tryz.func56 rfl rfl (Nat.le_of_ble_eq_true rfl) rfl fun G hG hK => ?_
 have hF : Wd Fence.wide := .inl rfl
 refine sx 5 ?_
 refine wp_scope ?_
 refine sx 6 ?_
 refine wp_cT rfl (by rfl) ?_
 refine sx 8 ?_
 refine scope_ret ?_
 exact ⟨.inr rfl, rfl, (by (refine res_c rfl rfl rfl rfl rfl ?_); (rfl)), (by (refine res_nl rfl ?_); (rfl)), (by (refine res_t rfl ?_); (rfl)), trivial⟩
end Go.Proofs.YtacenhlcfeepgaaGreat
namespace Go.Proofs.YtacenhlcfeepgaaGreat
open Go Eng
theorem qpoly_PrimitiveZ : FnP Tryz.prog tb F_qpoly_Primitive [.sl T_Rat []] (.tu [encQI 0 0, .sl T_Int [], .i .i64 5]) := by
 refine fnP_T tbOk Tryz.func58 rfl rfl (Nat.le_of_ble_eq_true rfl) rfl fun G hG hK => ?_
 have hF : Wd Fence.wide := .inl rfl
 refine sx 11 ?_
 refine wp_cT rfl (by rfl) ?_
 refine sx 8 ?_
 exact ⟨.inr rfl, rfl, (by (refine res_c rfl rfl rfl rfl rfl ?_); (rfl)), (by (refine res_nl rfl ?_); (rfl)), (by (refine res_t rfl ?_); (rfl)), trivial⟩
end Go.Proofs.YtacenhlcfeepgaaGreat
namespace Go.Proofs.YtacenhlcfeepgaaGreat
open Go Eng
theorem ref01_Clone (a : Int) : FnP Tryz.prog tb F_ref01_Clone [encI a] (encI a) := by
 refine fn1 Tryz.func139 fun G hG hK hF => ?_
 refine wp_il 0 rfl fun hb => ?_
 refine sx 4 ?_
 refine wp_d tbOk hF mixed hG [1] (by kernel_rfl) ?_
 refine sx 1 ?_
 refine wd_ql rfl rfl rfl .loadR ?_
 refine wd_n rfl rfl rfl rfl (.buildSliceMR (ye := asn) (yg := by decide) (yj := by decide) (yk := by decide)) ?_
 refine sx 2 ?_
 refine wd_ed rfl rfl rfl (.appendFR (yd := by decide) (ye := by decide) (yl := .inl rfl) (ym := by exact wds_flat) (yn := by (simp [wds_len]; omega))) (by (repeat' (first | exact trivial | exact .load _ _ _ _ _ rfl rfl rfl | refine And.intro ?_ ?_))) ?_
 refine sx 1 ?_
 refine wd_e rfl rfl rfl (.storeR (ye := by decide) (yg := .inl rfl)) (by (repeat' (first | exact trivial | exact .load _ _ _ _ _ rfl rfl rfl | refine And.intro ?_ ?_))) ?_
 refine sx 2 ?_
 exact ⟨.inr rfl, rfl, (by (refine res_c rfl rfl rfl rfl rfl ?_); (rfl)), trivial⟩
theorem ref01_Stays (a b : Int) : FnP Tryz.prog tb F_ref01_Stays [encI a, encI b] (.b (decide (a = b))) := by
 refine fn1 Tryz.func140 fun G hG hK hF => ?_
 refine wp_il 0 rfl fun h0 => ?_
 refine wp_il 1 rfl fun h1 => ?_
 refine sx 6 ?_
 by_cases hs : decide (a < 0) = decide (b < 0)
 ·refine sx 16 ?_
  refine wp_c rfl (fun hc => ?_) (fun hc => ?_)
  ·have hne : (digits a.natAbs).length ≠ (digits b.natAbs).length := by simp at hc; omega
   refine sx 5 ?_
   exact ⟨.inr rfl, rfl, (by (refine res_t rfl ?_); (exact trb (by rw [eq_comm, decide_eq_false_iff_not]; rintro rfl; exact hne rfl))), trivial⟩
  ·have hle : (digits a.natAbs).length = (digits b.natAbs).length := by simp at hc; omega
   refine sx 7 ?_
   refine wp_l2 hK (krc 2 rfl (krc 3 rfl krn)) khn (fun sl' h' (i : Nat) => ⟨(5, .t (.i .i64 (i))) :: sl', h', 0, 0⟩) (fun i => i ≤ (digits a.natAbs).length ∧ ∀ j, j < i → (digits a.natAbs).getD j 0 = (digits b.natAbs).getD j 0) (fun i => (digits a.natAbs).length - i) 0 ?_ (fun _ => rfl) ?_ ?_
   ·exact ⟨Nat.zero_le _, fun j hj => by omega⟩
   ·exact il
   ·rintro i ⟨hi, he⟩
    refine sx 8 ?_
    refine wp_c rfl (fun hc => ?_) (fun hc => ?_)
    ·have hci : i < (digits a.natAbs).length := by simp at hc; omega
     refine sx 17 ?_
     refine wp_c rfl (fun hc => ?_) (fun hc => ?_)
     ·have hq : (digits a.natAbs).getD i 0 ≠ (digits b.natAbs).getD i 0 := by simp at hc; simp; omega
      refine sx 9 ?_
      exact ⟨.inr rfl, rfl, (by (refine res_t rfl ?_); (exact trb (by rw [eq_comm, decide_eq_false_iff_not]; rintro rfl; exact hq rfl))), trivial⟩
     ·have hq : (digits a.natAbs).getD i 0 = (digits b.natAbs).getD i 0 := by simp at hc; simp; omega
      refine sx 8 ?_
      exact round_n (i + 1) (by exact ⟨by omega, fun j hj => by rcases Nat.eq_or_lt_of_le (Nat.le_of_lt_succ hj) with rfl | h; exact hq; exact he j h⟩) (by omega) (by exact il)
    ·obtain rfl : i = (digits a.natAbs).length := by simp at hc; omega
     refine sx 9 ?_
     exact ⟨.inr rfl, rfl, (by (refine res_t rfl ?_); (exact trb (by rw [eq_comm, decide_eq_true_iff]; refine int_ext hs (getD_ext hle fun j => ?_); rcases Nat.lt_or_ge j (digits a.natAbs).length with h | h; exact he j h; rw [List.getD_eq_getElem?_getD, List.getD_eq_getElem?_getD, List.getElem?_eq_none h, List.getElem?_eq_none (by omega)]))), trivial⟩
 ·refine sx 16 ?_
  refine wp_cT rfl (by rfl) ?_
  refine sx 5 ?_
  exact ⟨.inr rfl, rfl, (by (refine res_t rfl ?_); (exact trb (by rw [eq_comm, decide_eq_false_iff_not]; rintro rfl; exact hs rfl))), trivial⟩
end Go.Proofs.YtacenhlcfeepgaaGreat
namespace Go.Proofs.YtacenhlcfeepgaaGreat
open Go Eng
theorem ref02_Stays (p q : Rat) : FnP Tryz.prog tb F_ref02_Stays [encQ p, encQ q] (.b (decide (p = q))) := by
 refine fn1 Tryz.func73 fun G hG hK hF => ?_
 refine sx 5 ?_
 by_cases h1 : p.num = q.num
 ·refine sx 11 ?_
  refine gq (z := by simp [h1]) (.callR (yb := asc (.inl rfl) as1) (yc := ref01_Stays p.den q.den)) ?_
  refine sx 4 ?_
  exact ⟨.inr rfl, rfl, (by (refine res_t rfl ?_); (refine trb (decide_eq_decide.2 ⟨fun h => Rat.ext h1 (by omega), fun h => by rw [h]⟩))), trivial⟩
 ·refine sx 16 ?_
  exact ⟨.inr rfl, rfl, (by (refine res_t rfl ?_); (exact trb (by rw [eq_comm, decide_eq_false_iff_not]; rintro rfl; exact h1 rfl))), trivial⟩
theorem ref02_Clone (p : Rat) : FnP Tryz.prog tb F_ref02_Clone [encQ p] (encQ p) := by
 refine fn1 Tryz.func71 fun G hG hK hF => ?_
 refine sx 7 ?_
 refine dq (.callR (yb := as1) (yc := ref01_Clone p.num)) ?_
 refine sx 2 ?_
 refine dq (.callR (yb := as1) (yc := ref01_Clone p.den)) ?_
 refine sx 4 ?_
 exact ⟨.inr rfl, rfl, (by (refine res_c rfl rfl rfl rfl rfl ?_); (rfl)), trivial⟩
theorem ref02_StayAll (l m : List Rat) : FnP Tryz.prog tb F_ref02_StayAll [encQs l, encQs m] (.b (decide (l = m))) := by
 refine fn1 Tryz.func72 fun G hG hK hF => ?_
 refine wp_ql (l := l) 0 rfl fun h0 => ?_
 refine wp_ql (l := m) 1 rfl fun h1 => ?_
 refine sx 8 ?_
 refine wp_l2 hK (krc 0 rfl (krc 1 rfl krn)) khn (fun sl' h' (i : Nat) => ⟨(5, .t (.i .i64 (i))) :: sl', h', 0, 0⟩) (fun i => i ≤ l.length ∧ i ≤ m.length ∧ ∀ j, j < i → cf l j = cf m j) (fun i => l.length - i) 0 ?_ (fun _ => rfl) ?_ ?_
 ·exact ⟨Nat.zero_le _, Nat.zero_le _, fun j hj => by omega⟩
 ·exact il
 ·rintro i ⟨hi, hi2, he⟩
  refine wp_s ?_
  by_cases ht : i < l.length
  ·refine sx 12 ?_
   refine wp_c rfl (fun hc => ?_) (fun hc => ?_)
   ·have hci : i < m.length := by simpa using hc
    refine sx 7 ?_
    refine dq (.indexAddrR (yf := by omega) (yg := by exact encQs_atn (l := l) (i := i) rfl (cf_at ht))) ?_
    refine sx 5 ?_
    refine dq (.callR (yb := asc (.inl rfl) as1) (yc := ref02_Stays (cf l i) (cf m i))) ?_
    refine sx 2 ?_
    refine wp_c rfl (fun hc => ?_) (fun hc => ?_)
    ·have hq : cf l i ≠ cf m i := by simpa using hc
     refine sx 9 ?_
     exact ⟨.inr rfl, rfl, (by (refine res_t rfl ?_); (exact trb (by rw [eq_comm, decide_eq_false_iff_not]; rintro rfl; exact hq rfl))), trivial⟩
    ·have hq : cf l i = cf m i := by simpa using hc
     refine sx 8 ?_
     exact round_n (i + 1) (by exact ⟨by omega, by omega, fun j hj => by rcases Nat.eq_or_lt_of_le (Nat.le_of_lt_succ hj) with rfl | h; exact hq; exact he j h⟩) (by omega) (by exact il)
   ·have hci : i = m.length := by { have : ¬ i < m.length := by { simpa using hc }; omega }
    refine sx 14 ?_
    exact ⟨.inr rfl, rfl, (by (refine res_t rfl ?_); (exact trb (by rw [show ((l.length : Int) == (m.length : Int)) = false from beq_eq_false_iff_ne.2 (by omega), eq_comm, decide_eq_false_iff_not]; rintro rfl; omega))), trivial⟩
  ·refine sx 12 ?_
   refine wp_cF rfl (by rfl) ?_
   refine sx 14 ?_
   exact ⟨.inr rfl, rfl, (by (refine res_t rfl ?_); (by_cases hle : l.length = m.length; exact trb (by rw [hle, BEq.rfl, eq_comm, decide_eq_true_iff]; exact list_ext_cf hle fun j hj => he j (by omega)); exact trb (by rw [show ((l.length : Int) == (m.length : Int)) = false from beq_eq_false_iff_ne.2 (by omega), eq_comm, decide_eq_false_iff_not]; rintro rfl; exact hle rfl))), trivial⟩
theorem ref02_CloneAll (l : List Rat) : FnP Tryz.prog tb F_ref02_CloneAll [encQs l] (encQs l) := by
 refine fn1 Tryz.func70 fun G hG hK hF => ?_
 refine wp_ql (l := l) 0 rfl fun h0 => ?_
 refine sx 11 ?_
 refine wp_l2 hK (krc 0 rfl krn) khn (fun sl' h' (i : Nat) => ⟨(3, ap T_Rat 0 ((l.take i).map encQ)) :: (4, .t (.i .i64 (i))) :: sl', (0, apO T_Rat ((l.take i).map encQ)) :: h', 1, 0⟩) (fun i => i ≤ l.length) (fun i => l.length - i) 0 ?_ (fun _ => rfl) ?_ ?_
 ·omega
 ·exact imp_ap0 3 rfl (by rfl) ga gb rfl gb rfl
 ·intro i hi
  refine sx 7 ?_
  refine wp_c rfl (fun hc => ?_) (fun hc => ?_)
  ·have hci : i < l.length := by simpa using hc
   refine sx 10 ?_
   refine oq (.callR (yb := as1) (yc := ref02_Clone (cf l i))) ?_
   refine sx 11 ?_
   exact round_n (i + 1) (by omega) (by omega) (by exact imp_ap 3 rfl rfl (by exact take_map encQ (cf_at hci)) ga gb rfl gb rfl rfl)
  ·obtain rfl : i = l.length := by { have : ¬ i < l.length := by { simpa using hc }; omega }
   refine sx 5 ?_
   refine wp_imp hK (imp_apF 3 rfl rfl (ts' := l.map encQ) (by rw [List.take_length])) ?_
   refine sx 5 ?_
   exact ⟨.inr rfl, rfl, (by (refine res_t rfl ?_); (rfl)), trivial⟩
end Go.Proofs.YtacenhlcfeepgaaGreat
namespace Go.Proofs.YtacenhlcfeepgaaGreat
open Go Eng
theorem qpoly_RootsZ : FnP Tryz.prog tb F_qpoly_Roots [.sl T_Rat []] (.tu [.sl T_Rat [], .i .i64 5]) := by
 refine fnP_MT tbOk Tryz.func66 rfl rfl (Nat.le_of_ble_eq_true rfl) rfl fun G hG hK => ?_
 have hF : Wd Fence.wide := .inl rfl
 refine sx 11 ?_
 refine wp_cT rfl (by rfl) ?_
 refine sx 6 ?_
 exact ⟨.inr rfl, (by (refine res_nl rfl ?_); (rfl)), (by (refine res_t rfl ?_); (rfl)), trivial⟩
theorem qpoly_Roots1 (p : Pol) (hp : p.len = 1) (hs : sizeI (primN p) ≤ 4000) {w : Nat} (hpB : CDB w p) (hw : w ≤ 100) : FnP Tryz.prog tb F_qpoly_Roots [encP p] (.tu [.sl T_Rat [], .i .i64 0]) := by
 have hpl : p.len = p.c.length := rfl
 have hp0 : p ≠ 0 := fun e => by rw [e, Poly.len_zero] at hp; omega
 refine fnP_MT tbOk Tryz.func66 rfl rfl (Nat.le_of_ble_eq_true rfl) rfl fun G hG hK => ?_
 have hF : Wd Fence.wide := .inl rfl
 refine sx 11 ?_
 refine wp_cF rfl (by refine beq_false_of_ne ?_; omega) ?_
 refine sx 26 ?_
 refine wp_cF rfl (by refine decide_eq_false ?_; omega) ?_
 refine sx 8 ?_
 refine wp_cT rfl (by rw [hp]; rfl) ?_
 refine sx 6 ?_
 exact ⟨.inr rfl, (by (refine res_nl rfl ?_); (rfl)), (by (refine res_t rfl ?_); (rfl)), trivial⟩
end Go.Proofs.YtacenhlcfeepgaaGreat
namespace Go.Proofs.YtacenhlcfeepgaaGreat
open Go Eng
theorem qpoly_Resultant0 (p q : Pol) (h : p = 0 ∨ q = 0) : FnP Tryz.prog tb F_qpoly_Resultant [encP p, encP q] (encQ 0) := by
 refine fnP_M1 tbOk Tryz.func50 rfl rfl (Nat.le_of_ble_eq_true rfl) fun G hG hK => ?_
 have hF : Wd Fence.wide := .inl rfl
 refine sx 4 ?_
 by_cases hp : p = 0
 ·refine sx 8 ?_
  refine oq (.pickT rfl (by (rw [pol_nil.2 hp]; rfl)) rfl) ?_
  refine sx 1 ?_
  refine wp_cT rfl (by rfl) ?_
  refine sx 6 ?_
  exact ⟨.inr rfl, (by (refine res_c rfl rfl rfl rfl rfl ?_); (rfl)), trivial⟩
 ·refine sx 8 ?_
  refine oq (.pickF rfl (by (have := mt pol_nil.1 hp; simp [this]; done)) rfl) ?_
  refine sx 1 ?_
  refine wp_cT rfl (by (have hq := pol_nil.2 (h.resolve_left hp)); rw [hq]; rfl) ?_
  refine sx 6 ?_
  exact ⟨.inr rfl, (by (refine res_c rfl rfl rfl rfl rfl ?_); (rfl)), trivial⟩
end Go.Proofs.YtacenhlcfeepgaaGreat
namespace Go.Proofs.YtacenhlcfeepgaaGreat
open Go Eng
theorem gcdIs_mul (l : List Int) (g : Int) : gcdIs (l.map (· * g)) = gcdIs l * g.natAbs := by
 suffices h : ∀ (l : List Int) (a : Int), (l.map (· * g)).foldl (fun a x => (Int.gcd a x : Int)) (a * g.natAbs) = l.foldl (fun a x => (Int.gcd a x : Int)) a * g.natAbs by
  have := h l 0
  rw [Int.zero_mul] at this; exact this
 intro l
 induction l with
 | nil => intro a; rfl
 | cons y l ih =>
  intro a
  rw [List.map_cons, List.foldl_cons, List.foldl_cons, ← ih]
  congr 1
  have : (a * (g.natAbs : Int)).gcd (y * g) = a.gcd y * g.natAbs := by
   show Nat.gcd (a * (g.natAbs : Int)).natAbs (y * g).natAbs = Nat.gcd a.natAbs y.natAbs * g.natAbs
   rw [Int.natAbs_mul, Int.natAbs_mul, Int.natAbs_natCast, Nat.gcd_mul_right]
  rw [this]; exact Int.natCast_mul _ _
theorem primG_abs (p : Pol) : (primG p).natAbs = (gcdIs (numsQ p.c)).natAbs := by
 unfold primG; split <;> simp
theorem primG_dvd {p : Pol} {x : Int} (h : x ∈ numsQ p.c) : primG p ∣ x := by
 rw [← Int.natAbs_dvd, primG_abs, Int.natAbs_dvd]; exact gcdIs_dvd _ x h
theorem numsQ_len (l : List Rat) : (numsQ l).length = l.length := by simp [numsQ]
theorem primN_at {p : Pol} {i : Nat} (hi : i < p.len) : (primN p)[i]? = some ((numsQ p.c).getD i 0 / primG p) := by
 have : i < p.c.length := hi
 simp [primN, this]
theorem numsQ_mem {l : List Rat} {i : Nat} (hi : i < l.length) : (numsQ l).getD i 0 ∈ numsQ l := by
 rw [List.getD_eq_getElem?_getD, List.getElem?_eq_getElem (by rw [numsQ_len]; exact hi)]
 exact List.getElem_mem _
theorem primN_mul {p : Pol} {i : Nat} {x : Int} (hx : (primN p)[i]? = some x) : x * primG p = (numsQ p.c).getD i 0 ∧ i < p.len := by
 have hi : i < p.len := by
  have := (List.getElem?_eq_some_iff.1 hx).1
  rw [primN_len] at this; exact this
 rw [primN_at hi] at hx
 injection hx with hx
 subst hx
 exact ⟨Int.ediv_mul_cancel (primG_dvd (numsQ_mem hi)), hi⟩
theorem numsQ_rat {l : List Rat} {i : Nat} {q : Rat} (h : l[i]? = some q) : (((numsQ l).getD i 0 : Int) : Rat) = q * (lcmQ l : Int) := by
 have e : (numsQ l).getD i 0 = q.num * (lcmQ l / q.den) := by simp [numsQ, List.getD_eq_getElem?_getD, h]
 obtain ⟨k, hk⟩ : ((q.den : Nat) : Int) ∣ lcmQ l := lcmI_dvd _ (List.mem_map.2 ⟨q, List.mem_of_getElem? h, rfl⟩)
 have hd : ((q.den : Nat) : Int) ≠ 0 := den_ne q
 have hq : q = (q.num : Rat) / ((q.den : Int) : Rat) := by rw [← Rat.divInt_eq_div]; exact (Rat.num_divInt_den q).symm
 have hd2 : ((q.den : Int) : Rat) ≠ 0 := fun e => hd (by have := congrArg Rat.num e; rw [Rat.num_intCast] at this; exact this)
 rw [e, hk, Int.mul_ediv_cancel_left _ hd, Rat.intCast_mul, Rat.intCast_mul]
 generalize ((q.den : Int) : Rat) = d at *
 generalize (q.num : Rat) = n at *
 rw [hq]; grind
theorem primC_mul {p : Pol} (hp : p ≠ 0) {i : Nat} {x : Int} {y : Rat} (hx : (primN p)[i]? = some x) (hy : p.c[i]? = some y) : primC p * (x : Rat) = y := by
 obtain ⟨h1, h2⟩ := primN_mul hx
 have h3 := numsQ_rat hy
 rw [← h1, Rat.intCast_mul] at h3
 have hL : (((lcmQ p.c : Int)) : Rat) ≠ 0 := fun e => by
  have := congrArg Rat.num e
  rw [Rat.num_intCast] at this
  have h := lcmQ_pos p.c
  rw [this] at h; exact absurd h (by decide)
 rw [primC, Rat.divInt_eq_div]
 generalize ((lcmQ p.c : Int) : Rat) = L at *
 generalize ((primG p : Int) : Rat) = G at *
 grind
theorem primN_nums (p : Pol) : (primN p).map (· * primG p) = numsQ p.c := by
 refine List.ext_getElem? fun i => ?_
 rw [List.getElem?_map]
 cases hx : (primN p)[i]? with
 | none =>
  have := List.getElem?_eq_none_iff.1 hx
  rw [List.getElem?_eq_none (by rw [numsQ_len]; rw [primN_len] at this; exact this)]; rfl
 | some x =>
  obtain ⟨h1, h2⟩ := primN_mul hx
  have h3 : i < (numsQ p.c).length := by rw [numsQ_len]; exact h2
  rw [List.getD_eq_getElem?_getD, List.getElem?_eq_getElem h3] at h1
  rw [List.getElem?_eq_getElem h3, Option.map_some, h1]; rfl
theorem gcdIs_nonneg (l : List Int) : 0 ≤ gcdIs l := by
 suffices h : ∀ (l : List Int) (a : Int), 0 ≤ a → 0 ≤ l.foldl (fun a x => (Int.gcd a x : Int)) a from h l 0 (Int.le_refl 0)
 intro l
 induction l with
 | nil => intro a h; exact h
 | cons y l ih => intro a _; exact ih _ (Int.natCast_nonneg _)
theorem primN_gcd {p : Pol} (hp : p ≠ 0) : gcdIs (primN p) = 1 := by
 have h := gcdIs_mul (primN p) (primG p)
 rw [primN_nums, primG_abs, Int.natAbs_of_nonneg (gcdIs_nonneg _)] at h
 have h0 := (primG_ne hp).1
 exact Int.eq_of_mul_eq_mul_right h0 (by omega)
theorem primN_pos {p : Pol} (hp : p ≠ 0) {x : Int} (hx : (primN p)[p.len - 1]? = some x) : 0 < x := by
 obtain ⟨h1, h2⟩ := primN_mul hx
 have h3 : p.c[p.c.length - 1]? = some p.lead := by
  have : p.c.length - 1 < p.c.length := by have : p.len = p.c.length := rfl; omega
  rw [cf_at this]; rfl
 have h4 := numsQ_ne h3 (Poly.lead_ne hp)
 have h5 := (primG_ne hp).1
 have h6 := gcdIs_nonneg (numsQ p.c)
 rw [show p.len = p.c.length from rfl] at h1
 apply Classical.byContradiction
 intro hn
 unfold primG at h1
 split at h1
 ·have := Int.mul_nonneg_of_nonpos_of_nonpos (show x ≤ 0 by omega) (show -gcdIs (numsQ p.c) ≤ 0 by omega)
  omega
 ·have := Int.mul_nonpos_of_nonpos_of_nonneg (show x ≤ 0 by omega) h6
  omega
theorem primitive0 {p : Pol} (h : p = 0) : FnP Tryz.prog tb F_qpoly_Primitive [encP p] (.tu [encQI 0 0, .sl T_Int [], .i .i64 5]) := by
 subst h; rw [encP_0]; exact qpoly_PrimitiveZ
end Go.Proofs.YtacenhlcfeepgaaGreat
namespace Go.Proofs.YtacenhlcfeepgaaGreat
open Go Eng
def Cop (p q : Pol) : Prop := ∃ s t, s * p + t * q = 1
theorem Cop.symm {p q : Pol} (h : Cop p q) : Cop q p := by obtain ⟨s, t, h⟩ := h; exact ⟨t, s, by rw [← h]; grind⟩
theorem Cop.dvd {p q x : Pol} (h : Cop p q) (k : p ∣ q * x) : p ∣ x := by
 obtain ⟨s, t, h⟩ := h
 obtain ⟨r, hr⟩ := k
 refine ⟨s * x + t * r, ?_⟩
 have : x = (s * p + t * q) * x := by rw [h]; grind
 rw [this]; grind
theorem Cop.pow {p q : Pol} (h : Cop p q) : ∀ k : Nat, Cop p (q ^ k)
 | 0 => ⟨0, 1, by rw [Poly.pow_z]; grind⟩
 | k + 1 => by
  obtain ⟨s, t, h1⟩ := h
  obtain ⟨s', t', h2⟩ := Cop.pow ⟨s, t, h1⟩ k
  refine ⟨s * (s' * p + t' * q ^ k) + t * q * s', t * t', ?_⟩
  rw [Poly.pow_s]
  have : (1 : Pol) = (s * p + t * q) * (s' * p + t' * q ^ k) := by rw [h1, h2]; grind
  rw [this]; generalize q ^ k = Q at *; grind
theorem len_one {p : Pol} (h0 : p ≠ 0) (h : p.len ≤ 1) (hm : Poly.Mon p) : p = 1 := by
 have h1 := Poly.len_one_cst h
 have h2 : p.lead = p.co 0 := by rw [Poly.lead]; congr 1; omega
 rw [h1, ← h2, hm]; rfl
theorem cop_of_gcd {p q : Pol} (h0 : ¬ (p = 0 ∧ q = 0)) (h : (p.gcd q).len ≤ 1) : Cop p q := by
 have h1 := len_one (fun e => h0 (Poly.gcd_zero_iff.1 e)) h (Poly.gcd_mon h0)
 obtain ⟨u, v, h2⟩ := (Poly.gcd_is p q).comb
 exact ⟨u, v, by rw [← h2, h1]⟩
structure Irr (e : Pol) : Prop where
 l : 1 < e.len
 d : ∀ d, d ∣ e → d.len ≤ 1 ∨ e.len ≤ d.len
theorem Irr.ne {e : Pol} (h : Irr e) : e ≠ 0 := fun h0 => by have := h.l; rw [h0, Poly.len_zero] at this; omega
theorem exists_irr : ∀ (n : Nat) (p : Pol), p.len ≤ n → 1 < p.len → ∃ e, Irr e ∧ e ∣ p
 | 0, p, h, h1 => by omega
 | n + 1, p, h, h1 => by
  by_cases hd : ∃ d, d ∣ p ∧ 1 < d.len ∧ d.len < p.len
  ·obtain ⟨d, h2, h3, h4⟩ := hd
   obtain ⟨e, h5, h6⟩ := exists_irr n d (by omega) h3
   exact ⟨e, h5, Poly.dvd_trans h6 h2⟩
  ·refine ⟨p, ⟨h1, fun d hdp => ?_⟩, Poly.dvd_refl p⟩
   apply Classical.byContradiction
   intro hn
   exact hd ⟨d, hdp, by omega, by omega⟩
theorem Irr.cop {e x : Pol} (hi : Irr e) (h : ¬ e ∣ x) : Cop e x := by
 have hg := Poly.gcd_is e x
 rcases hi.d _ hg.left with h1 | h1
 ·exact cop_of_gcd (fun e => hi.ne e.1) h1
 ·exfalso
  obtain ⟨s, hs⟩ := hg.left
  have hg0 : e.gcd x ≠ 0 := fun e0 => hi.ne (Poly.gcd_zero_iff.1 e0).1
  have hs0 : s ≠ 0 := fun e0 => hi.ne (by rw [hs, e0, Poly.mul_z])
  have h2 := (Poly.len_mul hg0 hs0).1
  rw [← hs] at h2
  have h3 := Poly.len_pos hs0
  have h4 := Poly.len_pos hg0
  have h5 := Poly.len_one_cst (show s.len ≤ 1 by omega)
  have h6 : s.co 0 ≠ 0 := fun e0 => hs0 (by rw [h5, e0]; rfl)
  refine h (Poly.dvd_trans ⟨Poly.cst (1 / s.co 0), ?_⟩ hg.right)
  have h7 := Poly.cst_inv h6
  rw [h5] at hs
  have : e.gcd x = e.gcd x * (Poly.cst (1 / s.co 0) * Poly.cst (s.co 0)) := by rw [h7]; grind
  rw [this]
  generalize Poly.cst (1 / s.co 0) = c1 at *
  generalize Poly.cst (s.co 0) = c2 at *
  generalize e.gcd x = g at *
  subst hs
  grind
theorem rat_nat_ne {n : Nat} (h : n ≠ 0) : ((n : Nat) : Rat) ≠ 0 := fun e => by
 have := congrArg Rat.num e
 rw [Rat.num_natCast] at this
 exact h (Int.natCast_eq_zero.1 this)
theorem Irr.deriv {e : Pol} (hi : Irr e) : ¬ e ∣ e.deriv := fun h => by
 have hl := hi.l
 have h1 : e.deriv.co (e.len - 2) ≠ 0 := by
  rw [Poly.co_deriv, nc_rat, show e.len - 2 + 1 = e.len - 1 by omega]
  exact Poly.fmul_ne (rat_nat_ne (by omega)) (Poly.lead_ne hi.ne)
 have h2 : e.deriv ≠ 0 := fun e0 => h1 (by rw [e0, Poly.co_zero])
 have h3 := Poly.dvd_len h h2
 have h4 : e.deriv.len ≤ e.len - 1 := Poly.len_le fun i hi => by rw [Poly.co_deriv, Poly.co_ge (by omega)]; grind
 omega
theorem deriv_pow (e : Pol) : ∀ k : Nat, (e ^ (k + 1)).deriv = Poly.cst ((k + 1 : Nat) : Rat) * e ^ k * e.deriv
 | 0 => by rw [Poly.pow_s, Poly.pow_z, show (1 : Pol) * e = e by grind, show Poly.cst ((0 + 1 : Nat) : Rat) = (1 : Pol) from rfl]; grind
 | k + 1 => by
  rw [Poly.pow_s, Poly.deriv_mul, deriv_pow e k]
  have : Poly.cst ((k + 1 + 1 : Nat) : Rat) = Poly.cst ((k + 1 : Nat) : Rat) + 1 := by
   rw [← Poly.cst_one, ← Poly.cst_add]; congr 1
   rw [← nc_rat, Poly.nc_succ, nc_rat]
  rw [this, Poly.pow_s]
  generalize Poly.cst ((k + 1 : Nat) : Rat) = c
  generalize e ^ k = E
  grind
theorem exists_mult {e : Pol} (he : 1 < e.len) : ∀ (n : Nat) (f : Pol), f.len ≤ n → f ≠ 0 → ∃ (m : Nat) (h : Pol), f = e ^ m * h ∧ ¬ e ∣ h
 | 0, f, h, h0 => by have := Poly.len_pos h0; omega
 | n + 1, f, h, h0 => by
  by_cases hd : e ∣ f
  ·obtain ⟨s, hs⟩ := hd
   have hs0 : s ≠ 0 := fun e0 => h0 (by rw [hs, e0, Poly.mul_z])
   have he0 : e ≠ 0 := fun e0 => by rw [e0, Poly.len_zero] at he; omega
   have h2 := (Poly.len_mul he0 hs0).1
   rw [← hs] at h2
   obtain ⟨m, t, h3, h4⟩ := exists_mult he n s (by omega) hs0
   exact ⟨m + 1, t, by rw [hs, h3, Poly.pow_s]; generalize e ^ m = E; grind, h4⟩
  ·exact ⟨0, f, by rw [Poly.pow_z]; grind, hd⟩
theorem pow_ne {e : Pol} (h : e ≠ 0) : ∀ k : Nat, e ^ k ≠ 0
 | 0 => Poly.one_ne
 | k + 1 => by rw [Poly.pow_s]; exact Poly.mul_ne (pow_ne h k) h
section
variable {f g a : Pol}
structure Rad (f g a : Pol) : Prop where
 f0 : f ≠ 0
 m : a * g = f
 g : f.gcd f.deriv = g
theorem Rad.irr (h : Rad f g a) {e : Pol} (hi : Irr e) (hf : e ∣ f) : e ∣ a ∧ ¬ e * e ∣ a := by
 obtain ⟨m, t, h1, h2⟩ := exists_mult hi.l f.len f (Nat.le_refl _) h.f0
 cases m with
 | zero => rw [Poly.pow_z] at h1; exact absurd (by rw [h1, show (1 : Pol) * t = t by grind] at hf; exact hf) h2
 | succ k =>
  have hg := Poly.gcd_is f f.deriv
  rw [h.g] at hg
  have hd : f.deriv = e ^ k * (Poly.cst ((k + 1 : Nat) : Rat) * e.deriv * t + e * t.deriv) := by
   rw [h1, Poly.deriv_mul, deriv_pow, Poly.pow_s]
   generalize Poly.cst ((k + 1 : Nat) : Rat) = c
   generalize e ^ k = E
   grind
  have hk := pow_ne hi.ne k
  have hm := h.m
  refine ⟨?_, ?_⟩
  ·apply Classical.byContradiction
   intro hn
   have h3 : Cop (e ^ (k + 1)) a := (((hi.cop hn).symm).pow (k + 1)).symm
   have h4 : e ^ (k + 1) ∣ g := h3.dvd ⟨t, by rw [hm, h1]⟩
   obtain ⟨r, h5⟩ := Poly.dvd_trans h4 hg.right
   rw [hd, Poly.pow_s] at h5
   have h6 : e ^ k * (Poly.cst ((k + 1 : Nat) : Rat) * e.deriv * t + e * t.deriv) = e ^ k * (e * r) := by rw [h5]; generalize e ^ k = E; grind
   have h7 := Poly.mul_cancel hk h6
   have h8 : e ∣ t * (Poly.cst ((k + 1 : Nat) : Rat) * e.deriv) := ⟨r - t.deriv, by
    generalize Poly.cst ((k + 1 : Nat) : Rat) * e.deriv = X at *
    grind⟩
   have h9 := (hi.cop h2).dvd h8
   have h10 : Cop e (Poly.cst ((k + 1 : Nat) : Rat)) := ⟨0, Poly.cst (1 / ((k + 1 : Nat) : Rat)), by
    have := Poly.cst_inv (rat_nat_ne (show k + 1 ≠ 0 by omega))
    rw [this]; grind⟩
   exact hi.deriv (h10.dvd h9)
  ·rintro ⟨s, hs⟩
   obtain ⟨r, hr⟩ : e ^ k ∣ g := hg.dvd ⟨e * t, by rw [h1, Poly.pow_s]; generalize e ^ k = E; grind⟩ ⟨_, hd⟩
   rw [hs, hr, h1, Poly.pow_s] at hm
   have h6 : (e ^ k * e) * (e * (s * r)) = (e ^ k * e) * t := by rw [← hm]; generalize e ^ k = E; grind
   exact h2 ⟨s * r, (Poly.mul_cancel (Poly.mul_ne hk hi.ne) h6).symm⟩
theorem Rad.sqf (h : Rad f g a) : Cop a a.deriv := by
 have ha : a ≠ 0 := fun e => h.f0 (by rw [← h.m, e]; grind)
 refine cop_of_gcd (fun e => ha e.1) ?_
 apply Classical.byContradiction
 intro hn
 obtain ⟨e, hi, hd⟩ := exists_irr _ (a.gcd a.deriv) (Nat.le_refl _) (by omega)
 have hg := Poly.gcd_is a a.deriv
 have h1 := Poly.dvd_trans hd hg.left
 obtain ⟨h2, h3⟩ := h.irr hi (Poly.dvd_trans h1 ⟨g, h.m.symm⟩)
 obtain ⟨s, hs⟩ := h1
 obtain ⟨r, hr⟩ := Poly.dvd_trans hd hg.right
 have h4 : e ∣ e.deriv * s := ⟨r - s.deriv, by rw [hs, Poly.deriv_mul] at hr; grind⟩
 obtain ⟨q, hq⟩ := (hi.cop hi.deriv).dvd h4
 exact h3 ⟨q, by rw [hs, hq]; grind⟩
theorem Rad.pow (h : Rad f g a) : ∀ (n : Nat) (u : Pol), u.len ≤ n → u ∣ f → ∃ k : Nat, u ∣ a ^ k
 | 0, u, hl, hu => by
  have h0 := Poly.eq_zero_of_len (show u.len = 0 by omega)
  rw [h0] at hu
  exact absurd (Poly.zero_dvd hu) h.f0
 | n + 1, u, hl, hu => by
  by_cases h1 : u.len ≤ 1
  ·have h2 := Poly.len_one_cst h1
   have hu0 : u ≠ 0 := fun e => by rw [e] at hu; exact h.f0 (Poly.zero_dvd hu)
   have h3 : u.co 0 ≠ 0 := fun e => hu0 (by rw [h2, e]; rfl)
   exact ⟨0, Poly.cst (1 / u.co 0), by rw [Poly.pow_z, h2, Poly.co_cst, if_pos rfl, Poly.mul_comm', Poly.cst_inv h3]⟩
  ·obtain ⟨e, hi, s, hs⟩ := exists_irr _ u (Nat.le_refl _) (by omega)
   have hu0 : u ≠ 0 := fun e => by rw [e] at hu; exact h.f0 (Poly.zero_dvd hu)
   have hs0 : s ≠ 0 := fun e0 => hu0 (by rw [hs, e0, Poly.mul_z])
   have h2 := (Poly.len_mul hi.ne hs0).1
   rw [← hs] at h2
   have h3 := hi.l
   obtain ⟨h4, _⟩ := h.irr hi (Poly.dvd_trans ⟨s, hs⟩ hu)
   obtain ⟨k, q, hq⟩ := Rad.pow h n s (by omega) (Poly.dvd_trans ⟨e, by rw [hs]; grind⟩ hu)
   obtain ⟨r, hr⟩ := h4
   refine ⟨k + 1, q * r, ?_⟩
   rw [Poly.pow_s, hq, hs]
   generalize a ^ k = A at *
   rw [hr]; grind
end
structure Sq (a g : Pol) : Prop where
 s : Cop a a.deriv
 p : ∃ k : Nat, g ∣ a ^ k
 a : Poly.Mon a
 g : Poly.Mon g
theorem mon_div {a c : Pol} (ha : Poly.Mon a) (hc : Poly.Mon c) (h : c ∣ a) : Poly.Mon (a / c) ∧ a / c * c = a := by
 have h1 := Poly.div_mul_of_dvd hc.ne h
 refine ⟨?_, h1⟩
 have h2 : a / c ≠ 0 := fun e => ha.ne (by rw [← h1, e]; grind)
 have h3 := (Poly.len_mul h2 hc.ne).2
 rw [h1, hc, ha] at h3
 show (a / c).lead = 1
 grind
theorem Sq.step {a g : Pol} (h : Sq a g) : Sq (a.gcd g) (g / a.gcd g) ∧ Poly.Mon (a / a.gcd g) ∧ a / a.gcd g * a.gcd g = a ∧ g / a.gcd g * a.gcd g = g := by
 have hc := Poly.gcd_mon (p := a) (q := g) (fun e => h.a.ne e.1)
 have hg := Poly.gcd_is a g
 obtain ⟨d1, d2⟩ := mon_div h.a hc hg.left
 obtain ⟨e1, e2⟩ := mon_div h.g hc hg.right
 generalize a.gcd g = c at *
 generalize a / c = d at *
 generalize g / c = e at *
 obtain ⟨u, v, hs⟩ := h.s
 -- c and d are coprime
 have hcd : Cop c d := by
  refine cop_of_gcd (fun e => hc.ne e.1) ?_
  have k := Poly.gcd_is c d
  have k0 : c.gcd d ≠ 0 := fun e => hc.ne (Poly.gcd_zero_iff.1 e).1
  generalize c.gcd d = x at *
  obtain ⟨c1, hc1⟩ := k.left
  obtain ⟨d1, hd1⟩ := k.right
  have hx : x ∣ 1 := ⟨u * (d1 * x * c1) + v * (d1.deriv * x * c1 + d1 * (x.deriv * c1 + x.deriv * c1 + x * c1.deriv)), by
   rw [← hs, ← d2, hc1, hd1, Poly.deriv_mul, Poly.deriv_mul, Poly.deriv_mul]; grind⟩
  have := Poly.dvd_len hx Poly.one_ne
  rw [Poly.one_len] at this; exact this
 have hgd : Cop g d := by
  refine cop_of_gcd (fun e => h.g.ne e.1) ?_
  have k := Poly.gcd_is g d
  have k1 : g.gcd d ∣ c := hg.dvd (Poly.dvd_trans k.right ⟨c, d2.symm⟩) k.left
  obtain ⟨s, t, k2⟩ := hcd
  have k3 : g.gcd d ∣ 1 := by
   rw [← k2]; exact Poly.dvd_add (Poly.dvd_mul_left s k1) (Poly.dvd_mul_left t k.right)
  have := Poly.dvd_len k3 Poly.one_ne
  rw [Poly.one_len] at this; exact this
 refine ⟨⟨⟨u * d + v * d.deriv, v * d, by rw [← hs, ← d2, Poly.deriv_mul]; grind⟩, ?_, hc, e1⟩, d1, d2, e2⟩
 obtain ⟨k, hk⟩ := h.p
 have h1 : ∀ k : Nat, a ^ k = d ^ k * c ^ k := by
  intro k
  induction k with
  | zero => rw [Poly.pow_z, Poly.pow_z, Poly.pow_z]; grind
  | succ k ih => rw [Poly.pow_s, Poly.pow_s, Poly.pow_s, ih]; generalize d ^ k = D; generalize c ^ k = C; rw [← d2]; grind
 refine ⟨k, Poly.dvd_trans ⟨c, e2.symm⟩ ((hgd.pow k).dvd ?_)⟩
 rw [← h1]; exact hk
def prodL : List Pol → Pol
 | [] => 1
 | x :: l => x * prodL l
def prodP : List Pol → Nat → Pol
 | [], _ => 1
 | x :: l, s => x ^ (s + 1) * prodP l (s + 1)
theorem prodP_s : ∀ (l : List Pol) (s : Nat), prodP l (s + 1) = prodP l s * prodL l
 | [], s => by simp only [prodP, prodL]; grind
 | x :: l, s => by
  simp only [prodP, prodL]
  rw [prodP_s l (s + 1), Poly.pow_s x (s + 1)]
  generalize x ^ (s + 1) = X
  generalize prodP l (s + 1) = Y
  grind
structure SqL (a g : Pol) (l : List Pol) : Prop where
 m : ∀ x ∈ l, Poly.Mon x
 p : prodL l = a
 q : prodP l 0 = a * g
 z : ∀ x, l.getLast? = some x → 1 < x.len
theorem sqfAux_is : ∀ (n : Nat) (a g : Pol), Sq a g → a.len + g.len ≤ n → SqL a g (Poly.sqfAux n a g)
 | 0, a, g, h, hn => by have := Poly.len_pos h.a.ne; omega
 | n + 1, a, g, h, hn => by
  rw [Poly.sqfAux]
  split
  ·rename_i h1
   have ha := len_one h.a.ne h1 h.a
   have hg : g = 1 := by
    obtain ⟨k, hk⟩ := h.p
    have h2 : ∀ k : Nat, (1 : Pol) ^ k = 1 := by
     intro k
     induction k with
     | zero => rfl
     | succ k ih => rw [Poly.pow_s, ih]; grind
    rw [ha, h2] at hk
    have := Poly.dvd_len hk Poly.one_ne
    rw [Poly.one_len] at this
    exact len_one h.g.ne this h.g
   exact ⟨fun x hx => by simp at hx, by rw [ha]; rfl, by rw [ha, hg]; simp only [prodP]; grind, fun x hx => by simp at hx⟩
  ·rename_i h1
   obtain ⟨k1, k2, k3, k4⟩ := h.step
   obtain ⟨_, _, h5⟩ := Poly.sqf_step (show 1 < a.len by omega) h.g.ne
   have ih := sqfAux_is n _ _ k1 (by omega)
   generalize Poly.sqfAux n (a.gcd g) (g / a.gcd g) = l at *
   generalize a.gcd g = c at *
   generalize a / c = d at *
   generalize g / c = e at *
   refine ⟨fun x hx => ?_, ?_, ?_, fun x hx => ?_⟩
   ·rcases List.mem_cons.1 hx with rfl | hx
    ·exact k2
    ·exact ih.m x hx
   ·rw [prodL, ih.p, k3]
   ·rw [prodP, prodP_s, ih.q, ih.p, Poly.pow_s, Poly.pow_z, ← k3]
    have : (1 : Pol) * d * (c * e * c) = d * c * (e * c) := by grind
    rw [this, k4]
   ·cases l with
    | nil =>
     have h6 : (1 : Pol) = c := ih.p
     simp at hx
     subst hx
     rw [← h6, show d * 1 = d by grind] at k3
     rw [k3]; omega
    | cons y t => rw [List.getLast?_cons_cons] at hx; exact ih.z x hx
theorem sqf_is (p : Pol) (hp : p ≠ 0) : ∃ a g, SqL a g p.sqf ∧ a * g = p.monic ∧ Cop a a.deriv := by
 have hm0 := Poly.monic_ne hp
 have hmon := Poly.monic_Mon hp
 have hgc : p.gcd p.deriv = p.monic.gcd p.monic.deriv := by
  have h1 : p.monic.deriv = Poly.cst (1 / p.lead) * p.deriv := by rw [Poly.monic, Poly.deriv_mul, Poly.deriv_cst]; grind
  rw [h1]
  have hl := Poly.lead_ne hp
  have h2 := Poly.cst_inv hl
  refine (((Poly.gcd_is p p.deriv).assoc ⟨(Poly.monic_dvd p).2, (Poly.monic_dvd p).1⟩ ⟨⟨Poly.cst (1 / p.lead), by grind⟩, ⟨Poly.cst p.lead, ?_⟩⟩).unique).symm.trans ?_ |>.symm
  ·generalize Poly.cst (1 / p.lead) = c1 at *
   generalize Poly.cst p.lead = c2 at *
   have : p.deriv = (c1 * c2) * p.deriv := by rw [h2]; grind
   rw [this]; grind
  ·exact Poly.gcd_monic p p.deriv
 have hg := Poly.gcd_is p.monic p.monic.deriv
 rw [← hgc] at hg
 have hgm := Poly.gcd_mon (p := p) (q := p.deriv) (fun e => hp e.1)
 obtain ⟨h1, h2⟩ := mon_div hmon hgm hg.left
 have hR : Rad p.monic (p.gcd p.deriv) (p.monic / p.gcd p.deriv) := ⟨hm0, h2, hgc.symm⟩
 refine ⟨_, _, sqfAux_is _ _ _ ⟨hR.sqf, hR.pow _ _ (Nat.le_refl _) hg.left, h1, hgm⟩ ?_, h2, hR.sqf⟩
 have h3 := (Poly.len_mul h1.ne hgm.ne).1
 rw [h2, Poly.monic_len] at h3
 have h4 := Poly.len_pos h1.ne
 have h5 := Poly.len_pos hgm.ne
 omega
end Go.Proofs.YtacenhlcfeepgaaGreat
namespace Go.Proofs.YtacenhlcfeepgaaGreat
open Go Eng
theorem squarefree0 {p : Pol} (h : p = 0) : FnP Tryz.prog tb F_qpoly_Squarefree [encP p] (.tu [encQI 0 0, .sl T_L_Rat [], .i .i64 5]) := by
 subst h; rw [encP_0]; exact qpoly_SquarefreeZ
end Go.Proofs.YtacenhlcfeepgaaGreat
namespace Go.Proofs.YtacenhlcfeepgaaGreat
open Go Eng
def UP (x : Nat → Int) : Nat → Pol
 | 0 => 0
 | m + 1 => UP x m + Poly.mono (x m : Rat) m
theorem UP_co (x : Nat → Int) (i : Nat) : ∀ m, (UP x m).co i = if i < m then (x i : Rat) else 0
 | 0 => by rw [UP, Poly.co_zero, if_neg (by omega)]
 | m + 1 => by
  rw [UP, Poly.co_add, UP_co x i m, Poly.co_mono]
  by_cases h1 : i < m
  ·rw [if_pos h1, if_neg (by omega), if_pos (by omega)]; grind
  ·by_cases h2 : i = m
   ·subst h2; rw [if_neg (by omega), if_pos rfl, if_pos (by omega)]; grind
   ·rw [if_neg h1, if_neg h2, if_neg (by omega)]; grind
theorem UP_len (x : Nat → Int) (m : Nat) : (UP x m).len ≤ m := Poly.len_le fun i hi => by rw [UP_co, if_neg (by omega)]
theorem cast_sum (f : Nat → Int) (m : Nat) : ((sumI (m + 1) f : Int) : Rat) = ((sumI m f : Int) : Rat) + ((f m : Int) : Rat) := by rw [sumI, Rat.intCast_add]
theorem UP_mul (x α : Nat → Int) {a : Pol} (ha : ∀ i, a.co i = (α i : Rat)) (i : Nat) : ∀ m, (UP x m * a).co i = ((sumI m fun j => if i < j then 0 else x j * α (i - j) : Int) : Rat)
 | 0 => by rw [UP, Poly.zero_mul', Poly.co_zero]; rfl
 | m + 1 => by
  rw [UP, show (UP x m + Poly.mono (x m : Rat) m) * a = UP x m * a + Poly.mono (x m : Rat) m * a by grind, Poly.co_add, UP_mul x α ha i m, Poly.co_mono_mul, cast_sum]
  congr 1
  split
  ·rfl
  ·rw [ha, Rat.intCast_mul]
theorem sumI_add (f : Nat → Int) (m : Nat) : ∀ n, sumI (m + n) f = sumI m f + sumI n fun i => f (m + i)
 | 0 => by simp [sumI]
 | n + 1 => by rw [← Nat.add_assoc, sumI, sumI, sumI_add f m n]; omega
theorem small_comb {a b : Pol} {α β : Nat → Int} {B m n d M : Nat} (ha : ∀ i, a.co i = (α i : Rat)) (hb : ∀ i, b.co i = (β i : Rat)) (hαB : ∀ i, (α i).natAbs ≤ B) (hβB : ∀ i, (β i).natAbs ≤ B)
  (h1 : m + a.len ≤ d + M + 1) (h2 : n + b.len ≤ d + M + 1) (hM : M < m + n) :
  ∃ x y : Nat → Int, (∀ i, (x i).natAbs ≤ (2 * ((m + n) * B) + 1) ^ M) ∧ (∀ i, (y i).natAbs ≤ (2 * ((m + n) * B) + 1) ^ M) ∧ ¬ (UP x m = 0 ∧ UP y n = 0) ∧ (UP x m * a + UP y n * b).len ≤ d := by
 obtain ⟨z, ⟨i0, hi0, hz0⟩, hz, hs⟩ := siegel (N := m + n) (M := M) (B := B) (fun k j => if j < m then (if d + k < j then 0 else α (d + k - j)) else (if d + k < j - m then 0 else β (d + k - (j - m)))) hM (fun k j => by
  split <;> split <;> first | exact Nat.zero_le _ | exact hαB _ | exact hβB _)
 refine ⟨z, fun i => z (m + i), hz, fun i => hz _, fun ⟨e1, e2⟩ => ?_, Poly.len_le fun i hi => ?_⟩
 ·by_cases h : i0 < m
  ·have := UP_co z i0 m
   rw [e1, Poly.co_zero, if_pos h] at this
   exact hz0 (Rat.intCast_eq_zero_iff.1 this.symm)
  ·have := UP_co (fun i => z (m + i)) (i0 - m) n
   rw [e2, Poly.co_zero, if_pos (by omega), show m + (i0 - m) = i0 by omega] at this
   exact hz0 (Rat.intCast_eq_zero_iff.1 this.symm)
 ·by_cases hk : i < d + M
  ·have h3 := hs (i - d) (by omega)
   rw [Poly.co_add, UP_mul z α ha, UP_mul _ β hb, ← Rat.intCast_add, Rat.intCast_eq_zero_iff]
   refine Eq.trans ?_ h3
   rw [sumI_add]
   congr 1
   ·refine sumI_congr m fun j hj => ?_
    rw [if_pos hj, show d + (i - d) = i by omega]
    by_cases h : i < j
    ·rw [if_pos h, if_pos h, Int.zero_mul]
    ·rw [if_neg h, if_neg h, Int.mul_comm]
   ·refine sumI_congr n fun j hj => ?_
    rw [if_neg (show ¬ m + j < m by omega), show d + (i - d) = i by omega, show m + j - m = j by omega]
    by_cases h : i < j
    ·rw [if_pos h, if_pos h, Int.zero_mul]
    ·rw [if_neg h, if_neg h, Int.mul_comm]
  ·have h4 := UP_len z m
   have h5 := UP_len (fun i => z (m + i)) n
   have h6 := Poly.len_mul_le (UP z m) a
   have h7 := Poly.len_mul_le (UP (fun i => z (m + i)) n) b
   rw [Poly.co_add, Poly.co_ge (by omega), Poly.co_ge (by omega)]; grind
def castL (l : List Int) : Pol := Poly.of (l.map fun (z : Int) => (z : Rat))
def evI (l : List Int) (x : Int) : Int := l.foldr (fun a r => r * x + a) 0
def evD (l : List Int) (x : Int) : Int × Int := l.foldr (fun a r => (r.1 * x + a, r.2 * x + r.1)) (0, 0)
theorem evD_1 (x : Int) : ∀ l : List Int, (evD l x).1 = evI l x
 | [] => rfl
 | a :: l => by show (evD l x).1 * x + a = evI l x * x + a; rw [evD_1 x l]
theorem castL_cons (a : Int) (l : List Int) : castL (a :: l) = Poly.cst (a : Rat) + Poly.X * castL l := Poly.of_cons _ _
theorem castL_co (l : List Int) (i : Nat) : (castL l).co i = ((l.getD i 0 : Int) : Rat) := by
 rw [castL, Poly.co_of]
 by_cases h : i < l.length
 ·rw [cf_lt (by rw [List.length_map]; exact h), List.getElem_map, List.getD_eq_getElem?_getD, List.getElem?_eq_getElem h]; rfl
 ·rw [cf_ge (by rw [List.length_map]; omega), List.getD_eq_getElem?_getD, List.getElem?_eq_none (by omega)]; rfl
theorem eval_castL (x : Int) : ∀ l : List Int, (castL l).eval (x : Rat) = (evI l x : Rat) ∧ (castL l).deriv.eval (x : Rat) = ((evD l x).2 : Rat)
 | [] => by
  rw [show castL [] = 0 from Poly.of_nil, Poly.deriv_zero, Poly.eval_zero]; exact ⟨rfl, rfl⟩
 | a :: l => by
  obtain ⟨h1, h2⟩ := eval_castL x l
  rw [castL_cons]
  refine ⟨?_, ?_⟩
  ·rw [Poly.eval_cX, h1]
   show _ = ((evI l x * x + a : Int) : Rat)
   rw [Rat.intCast_add, Rat.intCast_mul]; grind
  ·rw [Poly.deriv_cX, Poly.eval_add, Poly.eval_mul, h1, h2]
   show _ = (((evD l x).2 * x + (evD l x).1 : Int) : Rat)
   have hX : Poly.eval Poly.X (x : Rat) = (x : Rat) := by
    have := Poly.eval_cX (0 : Rat) 1 (x : Rat)
    rw [show Poly.cst (0 : Rat) + Poly.X * 1 = Poly.X by rw [Poly.cst_zero]; grind, show (1 : Pol) = Poly.cst 1 from rfl, Poly.eval_cst] at this
    rw [this]; grind
   rw [evD_1, Rat.intCast_add, Rat.intCast_mul, hX]; grind
theorem valM_ev (x m : Int) : ∀ l : List Int, (valM l x m).1 = evI l x % m ∧ (valM l x m).2 = (evD l x).2 % m
 | [] => ⟨(Int.zero_emod m).symm, (Int.zero_emod m).symm⟩
 | a :: l => by
  obtain ⟨h1, h2⟩ := valM_ev x m l
  refine ⟨?_, ?_⟩
  ·show ((valM l x m).1 * x + a) % m = (evI l x * x + a) % m
   rw [h1]; simp [Int.add_emod, Int.mul_emod]
  ·show ((valM l x m).2 * x + (valM l x m).1) % m = ((evD l x).2 * x + (evD l x).1) % m
   rw [h1, h2, evD_1]; simp [Int.add_emod, Int.mul_emod]
theorem UP_eval (x : Nat → Int) (t : Int) : ∀ m, ∃ z : Int, (UP x m).eval (t : Rat) = (z : Rat)
 | 0 => ⟨0, by rw [UP, Poly.eval_zero]; rfl⟩
 | m + 1 => by
  obtain ⟨z, hz⟩ := UP_eval x t m
  have h : ∀ (n : Nat) (c : Int), ∃ w : Int, (Poly.mono (c : Rat) n).eval (t : Rat) = (w : Rat) := by
   intro n
   induction n with
   | zero => intro c; exact ⟨c, by rw [Poly.mono_zero, Poly.eval_cst]⟩
   | succ n ih =>
    intro c
    obtain ⟨w, hw⟩ := ih c
    have e : Poly.mono (c : Rat) (n + 1) = Poly.cst 0 + Poly.X * Poly.mono (c : Rat) n := by
     rw [Poly.cst_zero, Poly.X, Poly.mono_mul, Nat.add_comm 1 n]
     have : (1 : Rat) * (c : Rat) = (c : Rat) := by grind
     rw [this]; grind
    refine ⟨t * w, ?_⟩
    rw [e, Poly.eval_cX, hw, Rat.intCast_mul]; grind
  obtain ⟨w, hw⟩ := h m (x m)
  exact ⟨z + w, by rw [UP, Poly.eval_add, hz, hw, Rat.intCast_add]⟩
end Go.Proofs.YtacenhlcfeepgaaGreat
namespace Go.Proofs.YtacenhlcfeepgaaGreat
open Go Eng
theorem least {Q : Nat → Prop} : ∀ n, Q n → ∃ m, Q m ∧ ∀ k, k < m → ¬ Q k := by
 intro n
 induction n using Nat.strongRecOn with
 | ind n ih =>
  intro h
  by_cases hex : ∃ k, k < n ∧ Q k
  ·obtain ⟨k, h1, h2⟩ := hex
   exact ih k h1 h2
  ·exact ⟨n, h, fun k hk hq => hex ⟨k, hk, hq⟩⟩
theorem castL_len {l : List Int} (hl : l ≠ []) (h : lastI l ≠ 0) : (castL l).len = l.length := by
 have h0 := List.length_pos_iff.2 hl
 have := Poly.len_eq (p := castL l) (n := l.length - 1) (fun i hi => by
  rw [castL_co, List.getD_eq_getElem?_getD, List.getElem?_eq_none (by omega)]; rfl) (by
  rw [castL_co]; exact fun e => h (Rat.intCast_eq_zero_iff.1 e))
 omega
theorem getD_wl {l : List Int} {W : Nat} (h : ∀ x ∈ l, wl x.natAbs ≤ W) (i : Nat) : (l.getD i 0).natAbs < 4294967296 ^ W := by
 have hp : 0 < 4294967296 ^ W := Nat.pow_pos (by decide)
 rw [List.getD_eq_getElem?_getD]
 cases hi : l[i]? with
 | none => exact hp
 | some x =>
  have h1 := h x (List.mem_of_getElem? hi)
  exact Nat.lt_of_lt_of_le (lt_wl _) (Nat.pow_le_pow_right (by decide) h1)
theorem pow_le2 {a b n : Nat} (h : a ≤ 2 ^ b) : a ^ n ≤ 2 ^ (b * n) := by rw [Nat.pow_mul]; exact Nat.pow_le_pow_left h n
theorem mul_le2 {a b m n : Nat} (h : a ≤ 2 ^ m) (k : b ≤ 2 ^ n) : a * b ≤ 2 ^ (m + n) := by rw [Nat.pow_add]; exact Nat.mul_le_mul h k
theorem comb_exists {l : List Int} {W : Nat} (h2 : 2 ≤ l.length) (h13 : l.length ≤ 13) (hlast : lastI l ≠ 0) (hW : ∀ x ∈ l, wl x.natAbs ≤ W) (hsq : Cop (castL l) (castL l).deriv) :
  ∃ D : Int, D ≠ 0 ∧ D.natAbs ≤ 2 ^ (736 * W + 262) ∧ ∀ t : Int, ∃ u v : Int, u * evI l t + v * (evD l t).2 = D := by
 have hne : l ≠ [] := fun e => by rw [e] at h2; simp at h2
 have hal := castL_len hne hlast
 have ha := castL_co l
 have hb : ∀ i, (castL l).deriv.co i = (((i + 1 : Nat) : Int) * l.getD (i + 1) 0 : Int) := fun i => by
  rw [Poly.co_deriv, nc_rat, castL_co, Rat.intCast_mul]; rfl
 have hbl : (castL l).deriv.len ≤ l.length - 1 := Poly.len_le fun i hi => by
  rw [hb, List.getD_eq_getElem?_getD, List.getElem?_eq_none (by omega)]; simp
 have hp : 0 < 4294967296 ^ W := Nat.pow_pos (by decide)
 have hpe : (4294967296 : Nat) ^ W = 2 ^ (32 * W) := by rw [show (4294967296 : Nat) = 2 ^ 32 from rfl, ← Nat.pow_mul]
 obtain ⟨B, hB⟩ : ∃ B, B = 2 ^ (32 * W + 4) := ⟨_, rfl⟩
 have hB2 : B = 4294967296 ^ W * 16 := by rw [hB, hpe, Nat.pow_add]
 have haB : ∀ i, (l.getD i 0).natAbs ≤ B := fun i => by have := getD_wl hW i; omega
 have hbB : ∀ i, (((i + 1 : Nat) : Int) * l.getD (i + 1) 0 : Int).natAbs ≤ B := fun i => by
  by_cases hi : i + 1 < l.length
  ·have := getD_wl hW (i + 1)
   rw [Int.natAbs_mul, Int.natAbs_natCast]
   have h3 := Nat.mul_le_mul (show i + 1 ≤ 16 by omega) (Nat.le_of_lt this)
   rw [hB2, Nat.mul_comm _ 16]; exact h3
  ·rw [List.getD_eq_getElem?_getD, List.getElem?_eq_none (by omega)]; simp
 obtain ⟨x, y, hx, hy, h0, hlen⟩ := small_comb (m := l.length - 2) (n := l.length - 1) (d := 1) (M := 2 * l.length - 4) ha hb haB hbB (by rw [hal]; omega) (by omega) (by omega)
 obtain ⟨H, hH⟩ : ∃ H, H = (2 * ((l.length - 2 + (l.length - 1)) * B) + 1) ^ (2 * l.length - 4) := ⟨_, rfl⟩
 rw [← hH] at hx hy
 have hHs : H ≤ 2 ^ ((32 * W + 11) * 22) := by
  have h3 : 2 * ((l.length - 2 + (l.length - 1)) * B) + 1 ≤ 2 ^ (32 * W + 11) := by
   have h4 := Nat.mul_le_mul_right B (show l.length - 2 + (l.length - 1) ≤ 23 by omega)
   have h5 : 2 ^ (32 * W + 11) = B * 128 := by rw [hB, show 32 * W + 11 = 32 * W + 4 + 7 by omega, Nat.pow_add]
   omega
  have h4 := pow_le2 (n := 2 * l.length - 4) h3
  rw [← hH] at h4
  exact Nat.le_trans h4 (Nat.pow_le_pow_right (by decide) (Nat.mul_le_mul_left _ (by omega)))
 obtain ⟨D1, hD1⟩ : ∃ D1, D1 = sumI (l.length - 2) fun j => if 0 < j then 0 else x j * l.getD (0 - j) 0 := ⟨_, rfl⟩
 obtain ⟨D2, hD2⟩ : ∃ D2, D2 = sumI (l.length - 1) fun j => if 0 < j then 0 else y j * (((0 - j + 1 : Nat) : Int) * l.getD (0 - j + 1) 0) := ⟨_, rfl⟩
 have hco : (UP x (l.length - 2) * castL l + UP y (l.length - 1) * (castL l).deriv).co 0 = ((D1 + D2 : Int) : Rat) := by
  rw [Poly.co_add, UP_mul x _ ha, UP_mul y _ hb, Rat.intCast_add, hD1, hD2]
 have hcst := Poly.len_one_cst hlen
 rw [hco] at hcst
 have hD1s : D1.natAbs ≤ 16 * (H * B) := by
  rw [hD1]
  refine Nat.le_trans (sumI_abs (C := H * B) _ fun j _ => ?_) (Nat.mul_le_mul_right _ (by omega))
  split
  ·exact Nat.zero_le _
  ·rw [Int.natAbs_mul]; exact Nat.mul_le_mul (hx j) (haB _)
 have hD2s : D2.natAbs ≤ 16 * (H * B) := by
  rw [hD2]
  refine Nat.le_trans (sumI_abs (C := H * B) _ fun j _ => ?_) (Nat.mul_le_mul_right _ (by omega))
  split
  ·exact Nat.zero_le _
  ·rw [Int.natAbs_mul]; exact Nat.mul_le_mul (hy j) (hbB _)
 refine ⟨D1 + D2, fun hD => ?_, ?_, fun t => ?_⟩
 ·rw [hD] at hcst
  have hz : UP x (l.length - 2) * castL l + UP y (l.length - 1) * (castL l).deriv = 0 := hcst
  have hd : castL l ∣ (castL l).deriv * UP y (l.length - 1) := ⟨-UP x (l.length - 2), by grind⟩
  have hd2 := hsq.dvd hd
  have hv : UP y (l.length - 1) = 0 := by
   apply Classical.byContradiction
   intro hv
   have h3 := Poly.dvd_len hd2 hv
   have h4 := UP_len y (l.length - 1)
   omega
  rw [hv] at hz
  have hu : UP x (l.length - 2) * castL l = 0 := by rw [← hz]; grind
  rcases Poly.mul_eq_zero hu with h3 | h3
  ·exact h0 ⟨h3, hv⟩
  ·rw [h3, Poly.len_zero] at hal; omega
 ·have h3 := mul_le2 hHs (Nat.le_of_eq hB)
  have h4 : 2 ^ (736 * W + 262) = 2 ^ ((32 * W + 11) * 22 + (32 * W + 4)) * 2 ^ 16 := by
   rw [← Nat.pow_add]; congr 1; omega
  omega
 ·obtain ⟨u, hu⟩ := UP_eval x t (l.length - 2)
  obtain ⟨v, hv⟩ := UP_eval y t (l.length - 1)
  obtain ⟨e1, e2⟩ := eval_castL t l
  have h3 := congrArg (fun p => Poly.eval p (t : Rat)) hcst
  simp only [Poly.eval_add, Poly.eval_mul, Poly.eval_cst, hu, hv, e1, e2] at h3
  refine ⟨u, v, ?_⟩
  rw [← Rat.intCast_mul, ← Rat.intCast_mul, ← Rat.intCast_add] at h3
  exact Rat.intCast_inj.1 h3
theorem first_exists {l : List Int} {W : Nat} (h2 : 2 ≤ l.length) (h13 : l.length ≤ 13) (hlast : lastI l ≠ 0) (hW : ∀ x ∈ l, wl x.natAbs ≤ W) (hW2 : W ≤ 20000) (hsq : Cop (castL l) (castL l).deriv) : ∃ P, First l P := by
 obtain ⟨D, hD, hDs, hcomb⟩ := comb_exists h2 h13 hlast hW hsq
 have hls : (lastI l).natAbs ≤ 2 ^ (32 * W) := by
  have := getD_wl hW (l.length - 1)
  have hpe : (4294967296 : Nat) ^ W = 2 ^ (32 * W) := by rw [show (4294967296 : Nat) = 2 ^ 32 from rfl, ← Nat.pow_mul]
  rw [← hpe]; exact Nat.le_of_lt this
 have hN0 : 2 * (D.natAbs * (lastI l).natAbs) ≠ 0 := by
  have h3 := Nat.mul_pos (Int.natAbs_pos.2 hD) (Int.natAbs_pos.2 hlast)
  omega
 have hNs : 2 * (D.natAbs * (lastI l).natAbs) ≤ 2 ^ (768 * W + 263) := by
  have h3 := mul_le2 (a := 2) (m := 1) (by decide) (mul_le2 hDs hls)
  exact Nat.le_trans h3 (Nat.pow_le_pow_right (by decide) (by omega))
 obtain ⟨t, ht⟩ : ∃ t : Nat, t = 715827882 := ⟨_, rfl⟩
 obtain ⟨P, hP, hPl, hPd⟩ := prime_ndvd (N := 2 * (D.natAbs * (lastI l).natAbs)) (t := t) (e := 31) hN0 (by omega) (by rw [ht]; decide) (by
  have h3 := pow_le2 (n := 31) hNs
  have h4 : 2 ^ ((768 * W + 263) * 31) ≤ 2 ^ (t - 1) := Nat.pow_le_pow_right (by decide) (by omega)
  have h5 : 0 < 2 ^ (t - 1) := Nat.pow_pos (by decide)
  generalize 2 ^ (t - 1) = Z at *
  have h6 := Nat.mul_le_mul_right Z (show 2 ≤ 3 * t by omega)
  omega)
 have hP2 : P ≠ 2 := fun e => hPd (by rw [e]; exact Nat.dvd_mul_right ..)
 have hPDn : ¬ (P : Int) ∣ D := fun h => hPd (Nat.dvd_trans (show P ∣ _ by have h9 := Int.natAbs_dvd_natAbs.2 h; rw [Int.natAbs_natCast] at h9; exact h9) (Nat.dvd_trans (Nat.dvd_mul_right ..) (Nat.dvd_mul_left ..)))
 have hPl2 : ¬ (P : Int) ∣ lastI l := fun h => hPd (Nat.dvd_trans (show P ∣ _ by have h9 := Int.natAbs_dvd_natAbs.2 h; rw [Int.natAbs_natCast] at h9; exact h9) (Nat.dvd_trans (Nat.dvd_mul_left ..) (Nat.dvd_mul_left ..)))
 have hP3 := hP.1
 have hodd : P % 2 = 1 := by
  apply Classical.byContradiction
  intro hn
  exact hP.2 2 (by omega) (by omega) (Nat.dvd_of_mod_eq_zero (by omega))
 have hgood : 3 ≤ P ∧ P % 2 = 1 ∧ OddP P ∧ Simple l P := by
  refine ⟨by omega, hodd, fun d h3 h4 h5 h6 h7 => hP.2 d (by omega) h3 (Nat.dvd_of_mod_eq_zero h7), fun h3 => hPl2 (Int.dvd_of_emod_eq_zero h3), fun x hx => ?_⟩
  apply Classical.byContradiction
  intro hn
  unfold SimpleAt at hn
  obtain ⟨e1, e2⟩ := valM_ev x P l
  have h3 : evI l x % P = 0 := by rw [← e1]; apply Classical.byContradiction; intro h; exact hn (.inl h)
  have h4 : (evD l x).2 % P = 0 := by rw [← e2]; apply Classical.byContradiction; intro h; exact hn (.inr h)
  obtain ⟨u, v, h5⟩ := hcomb x
  refine hPDn ?_
  rw [← h5]
  exact Int.dvd_add (Int.dvd_mul_of_dvd_right (Int.dvd_of_emod_eq_zero h3)) (Int.dvd_mul_of_dvd_right (Int.dvd_of_emod_eq_zero h4))
 obtain ⟨Q, ⟨q1, q2, q3, q4⟩, hmin⟩ := least (Q := fun P => 3 ≤ P ∧ P % 2 = 1 ∧ OddP P ∧ Simple l P) P hgood
 have hQP : Q ≤ P := by
  apply Classical.byContradiction
  intro h
  exact hmin P (by omega) hgood
 exact ⟨Q, q1, q2, by omega, q3, q4, fun k h3 h4 h5 h6 h7 => hmin k h3 ⟨h4, h5, h6, h7⟩⟩
end Go.Proofs.YtacenhlcfeepgaaGreat
namespace Go.Proofs.YtacenhlcfeepgaaGreat
open Go Eng
theorem taylor (x h : Int) : ∀ l : List Int, (∃ q, evI l (x + h) = evI l x + h * (evD l x).2 + h * h * q) ∧ ∃ q, (evD l (x + h)).2 = (evD l x).2 + h * q
 | [] => ⟨⟨0, by show (0 : Int) = 0 + h * 0 + h * h * 0; simp⟩, ⟨0, by show (0 : Int) = 0 + h * 0; simp⟩⟩
 | a :: l => by
  obtain ⟨⟨q, hq⟩, r, hr⟩ := taylor x h l
  have e1 : evI (a :: l) (x + h) = evI l (x + h) * (x + h) + a := rfl
  have e2 : evI (a :: l) x = evI l x * x + a := rfl
  have e3 : (evD (a :: l) x).2 = (evD l x).2 * x + evI l x := by show (evD l x).2 * x + (evD l x).1 = _; rw [evD_1]
  have e4 : (evD (a :: l) (x + h)).2 = (evD l (x + h)).2 * (x + h) + evI l (x + h) := by show (evD l (x + h)).2 * (x + h) + (evD l (x + h)).1 = _; rw [evD_1]
  rw [e1, e2, e3, e4, hq, hr]
  generalize evI l x = E
  generalize (evD l x).2 = D
  exact ⟨⟨D + q * x + h * q, by grind⟩, D + r * x + r * h + D + h * q, by grind⟩
theorem emod_dvd (a w : Int) : w ∣ a % w - a := ⟨-(a / w), by have := Int.emod_add_mul_ediv a w; grind⟩
structure LI (l : List Int) (P : Nat) (x : Int) (s : Int × Int × Int) : Prop where
 w1 : 1 < s.2.1
 rt : s.2.1 ∣ evI l s.1
 cg : (P : Int) ∣ s.1 - x
 pw : ∃ k : Nat, s.2.1 = (P : Int) ^ k ∧ 1 ≤ k
 bk : ∃ v, (P : Int) ∣ v ∧ v ∣ s.2.1 ∧ s.2.1 ∣ v * v ∧ v ∣ s.2.2 * (evD l s.1).2 - 1
theorem lift_id (w α c2 c3 b D δ : Int) (h : b * D = 1 + w * δ) : w * α + w * (w * c2 - (α + w * c3) * b) * D = w * w * (c2 * D - c3 - δ * (α + w * c3)) := by
 have e : (α + w * c3) * b * D = (α + w * c3) * (1 + w * δ) := by rw [Int.mul_assoc, h]
 grind
theorem alg1 (w U Z q : Int) : w * w * Z + w * U * (w * U) * q = w * w * (Z + U * U * q) := by grind
theorem dvd_lin {P r x w : Int} (U : Int) (h : P ∣ r - x) (k : P ∣ w) : P ∣ r + w * U - x := by
 have := Int.dvd_add h (Int.dvd_mul_of_dvd_left (c := U) k)
 rw [show r + w * U - x = r - x + w * U by omega]; exact this
theorem LI.step {l : List Int} {P : Nat} {x : Int} {s : Int × Int × Int} (h : LI l P x s) : LI l P x (liftS l s) := by
 obtain ⟨r, w, b⟩ := s
 obtain ⟨v, p1, p2, p3, p4⟩ := h.bk
 have hw1 := h.w1
 have hrt := h.rt
 have hcg := h.cg
 obtain ⟨k, hk, hk1⟩ := h.pw
 simp only at hw1 hrt hcg hk p2 p3 p4
 obtain ⟨m1, m2⟩ := valM_ev r (w * w) l
 -- the new state
 have hW : 1 < w * w := by
  have := Int.mul_lt_mul_of_pos_left hw1 (show 0 < w by omega)
  omega
 have hwP : (P : Int) ∣ w := Int.dvd_trans p1 p2
 -- the new inverse
 obtain ⟨b', hb'⟩ : ∃ b', b' = (b * (2 - (valM l r (w * w)).2 * b)) % (w * w) := ⟨_, rfl⟩
 obtain ⟨r', hr'⟩ : ∃ r', r' = (r - (valM l r (w * w)).1 * b') % (w * w) := ⟨_, rfl⟩
 have hs : liftS l (r, w, b) = (r', w * w, b') := by
  rw [hr', hb']; rfl
 rw [hs]
 obtain ⟨c1, hc1⟩ := emod_dvd (b * (2 - (valM l r (w * w)).2 * b)) (w * w)
 rw [← hb'] at hc1
 obtain ⟨c2, hc2⟩ := emod_dvd (r - (valM l r (w * w)).1 * b') (w * w)
 rw [← hr'] at hc2
 obtain ⟨c3, hc3⟩ := emod_dvd (evI l r) (w * w)
 obtain ⟨c4, hc4⟩ := emod_dvd (evD l r).2 (w * w)
 rw [← m1] at hc3
 rw [← m2] at hc4
 generalize (valM l r (w * w)).1 = y at *
 generalize (valM l r (w * w)).2 = sl at *
 obtain ⟨α, hα⟩ := hrt
 obtain ⟨β, hβ⟩ := p4
 obtain ⟨γ, hγ⟩ := p3
 -- b' n'(r) = 1 modulo w
 have hbw : ∃ δ, b' * (evD l r).2 = 1 + w * δ := by
  have e1 : sl = (evD l r).2 + w * w * c4 := by omega
  have e2 : b' = b * (2 - sl * b) + w * w * c1 := by omega
  have e3 : b * (evD l r).2 = 1 + v * β := by omega
  generalize (evD l r).2 = D at *
  refine ⟨-(γ * β * β) - w * c4 * b * b * D + w * c1 * D, ?_⟩
  rw [e2, e1]
  have e4 : b * D * (b * D) = (1 + v * β) * (1 + v * β) := by rw [e3]
  grind
 obtain ⟨δ, hδ⟩ := hbw
 have hy : y = w * α + w * w * c3 := by omega
 have hr2 : r' = r + w * (w * c2 - (α + w * c3) * b') := by
  have : r' = r - y * b' + w * w * c2 := by omega
  rw [this, hy]; grind
 obtain ⟨⟨q, hq⟩, q2, hq2⟩ := taylor r (w * (w * c2 - (α + w * c3) * b')) l
 rw [← hr2] at hq hq2
 refine ⟨hW, ?_, ?_, ⟨k + k, by rw [Int.pow_add, ← hk], by omega⟩, w, hwP, ⟨w, rfl⟩, ⟨1, by show w * w = w * w * 1; omega⟩, ?_⟩
 ·show w * w ∣ evI l r'
  rw [hq, hα]
  have hT := lift_id w α c2 c3 b' (evD l r).2 δ hδ
  generalize w * c2 - (α + w * c3) * b' = U at *
  rw [hT]
  exact ⟨c2 * (evD l r).2 - c3 - δ * (α + w * c3) + U * U * q, alg1 _ _ _ _⟩
 ·show (P : Int) ∣ r' - x
  rw [hr2]
  exact dvd_lin _ hcg hwP
 ·show w ∣ b' * (evD l r').2 - 1
  rw [hq2]
  generalize w * c2 - (α + w * c3) * b' = U at *
  exact ⟨δ + b' * U * q2, by grind⟩
end Go.Proofs.YtacenhlcfeepgaaGreat
namespace Go.Proofs.YtacenhlcfeepgaaGreat
open Go Eng
theorem int_bez (a b : Nat) : ∃ u v : Int, u * a + v * b = (Nat.gcd a b : Int) := by
 induction a, b using Nat.gcd.induction with
 | H0 n => exact ⟨0, 1, by rw [Nat.gcd_zero_left]; simp⟩
 | H1 m n hm ih =>
  obtain ⟨u, v, h⟩ := ih
  refine ⟨v - u * (n / m : Nat), u, ?_⟩
  rw [Nat.gcd_rec m n, ← h]
  have e : (n : Int) = (m : Int) * (n / m : Nat) + (n % m : Nat) := by
   have := Nat.div_add_mod n m
   have h2 : ((m * (n / m) + n % m : Nat) : Int) = (n : Int) := by rw [this]
   rw [← h2]; simp
  generalize ((n / m : Nat) : Int) = q at *
  generalize ((n % m : Nat) : Int) = r at *
  rw [e]; grind
theorem oddP_prime {P : Nat} (h3 : 3 ≤ P) (ho : P % 2 = 1) (h : OddP P) : Prime P := by
 refine ⟨by omega, fun d h1 h2 hd => ?_⟩
 obtain ⟨e, he⟩ := hd
 have key : ∀ m n : Nat, 2 ≤ m → m ≤ n → P = m * n → False := fun m n hm hmn hP => by
  have h4 : m * m ≤ P := by rw [hP]; exact Nat.mul_le_mul_left m hmn
  have h5 : m % 2 = 1 := by
   rcases Nat.mod_two_eq_zero_or_one m with h0 | h0
   ·exfalso
    have : P % 2 = 0 := by rw [hP, Nat.mul_mod, h0]; simp
    omega
   ·exact h0
  have h6 : 2 * m ≤ m * m := Nat.mul_le_mul_right m hm
  exact h m (by omega) (by omega) h5 h4 (by rw [hP]; exact Nat.mul_mod_right m n)
 have he2 : 2 ≤ e := by
  apply Classical.byContradiction
  intro hn
  have : e = 0 ∨ e = 1 := by omega
  rcases this with rfl | rfl <;> omega
 rcases Nat.le_total d e with h4 | h4
 ·exact key d e h1 h4 he
 ·exact key e d he2 h4 (by rw [he, Nat.mul_comm])
theorem prime_inv {P a : Nat} (hP : Prime P) (h0 : 0 < a) (h1 : a < P) : ∃ b, 0 < b ∧ b < P ∧ a * b % P = 1 := by
 have hg : Nat.gcd a P = 1 := by
  have h2 := Nat.gcd_le_left P h0
  have h3 := Nat.gcd_pos_of_pos_left P h0
  apply Classical.byContradiction
  intro hn
  exact hP.2 _ (by omega) (by omega) (Nat.gcd_dvd_right a P)
 obtain ⟨u, v, h⟩ := int_bez a P
 rw [hg] at h
 have hp := hP.1
 have e1 := Int.emod_nonneg u (show (P : Int) ≠ 0 by omega)
 have e2 := Int.emod_lt_of_pos u (show (0 : Int) < P by omega)
 have e3 := Int.emod_add_mul_ediv u P
 obtain ⟨b, hb⟩ : ∃ b : Nat, (b : Int) = u % P := ⟨(u % P).toNat, Int.toNat_of_nonneg e1⟩
 have h4 : ((a * b % P : Nat) : Int) = 1 := by
  have h5 : ((a * b : Nat) : Int) = 1 + (P : Int) * (-v - a * (u / P)) := by
   rw [Int.natCast_mul, hb]
   have : u % P = u - P * (u / P) := by omega
   rw [this]
   generalize u / (P : Int) = q at *
   have h6 : (1 : Int) = u * a + v * P := h.symm
   rw [h6]; grind
  rw [Int.natCast_emod, h5, Int.add_mul_emod_self_left]
  exact Int.emod_eq_of_lt (by omega) (by omega)
 have h5 : a * b % P = 1 := by omega
 refine ⟨b, Nat.pos_of_ne_zero fun e => ?_, by omega, h5⟩
 rw [e] at h5; simp at h5
theorem invA_spec {a p : Nat} : ∀ (f b c : Nat), b ≤ c → c < p → a * c % p = 1 → c < b + f → a * invA a p f b % p = 1
 | 0, b, c, h1, h2, h3, h4 => by omega
 | f + 1, b, c, h1, h2, h3, h4 => by
  rw [invA, if_pos (by omega)]
  by_cases h : a * b % p = 1
  ·rw [if_pos h]; exact h
  ·rw [if_neg h]
   have : b ≠ c := fun e => h (by rw [e]; exact h3)
   exact invA_spec f (b + 1) c (by omega) h2 h3 (by omega)
theorem LI.init {l : List Int} {P x : Nat} (hP : Prime P) (hx : (valM l x P).1 = 0) (hs : SimpleAt l P x) : LI l P x (lift0 l x P) := by
 have hp := hP.1
 obtain ⟨m1, m2⟩ := valM_ev x P l
 have hs2 : (valM l x P).2 ≠ 0 := by rcases hs with h | h; exact absurd hx h; exact h
 have e1 := Int.emod_nonneg (evD l x).2 (show (P : Int) ≠ 0 by omega)
 have e2 := Int.emod_lt_of_pos (evD l x).2 (show (0 : Int) < P by omega)
 rw [m2] at hs2
 obtain ⟨a, ha⟩ : ∃ a : Nat, (a : Int) = (evD l x).2 % P := ⟨_, Int.toNat_of_nonneg e1⟩
 obtain ⟨c, h1, h2, h3⟩ := prime_inv hP (show 0 < a by omega) (by omega)
 have h4 := invA_spec P 1 c (by omega) h2 h3 (by omega)
 have e3 : ((valM l x P).2 % P).toNat = a := by rw [m2, Int.emod_emod, ← ha]; rfl
 refine ⟨by show (1 : Int) < P; omega, ?_, ⟨0, by show (x : Int) - x = _; omega⟩, ⟨1, by show (P : Int) = (P : Int) ^ 1; rw [Int.pow_succ, Int.pow_zero, Int.one_mul], by omega⟩, P, ⟨1, by omega⟩, ⟨1, by show (P : Int) = P * 1; omega⟩, ⟨P, rfl⟩, ?_⟩
 ·show (P : Int) ∣ evI l x
  rw [m1] at hx; exact Int.dvd_of_emod_eq_zero hx
 ·show (P : Int) ∣ (invA ((valM l x P).2 % P).toNat P P 1 : Nat) * (evD l x).2 - 1
  rw [e3]
  obtain ⟨g, hg⟩ := emod_dvd (evD l x).2 P
  rw [← ha] at hg
  have h5 : ((a * invA a P P 1 : Nat) : Int) = (P : Int) * (a * invA a P P 1 / P : Nat) + 1 := by
   have := Nat.div_add_mod (a * invA a P P 1) P
   rw [h4] at this
   have h6 : ((P * (a * invA a P P 1 / P) + 1 : Nat) : Int) = ((a * invA a P P 1 : Nat) : Int) := by rw [this]
   rw [← h6]; simp
  rw [Int.natCast_mul] at h5
  generalize ((a * invA a P P 1 / P : Nat) : Int) = k at *
  generalize ((invA a P P 1 : Nat) : Int) = b at *
  exact ⟨k - g * b, by
   have e4 : (evD l x).2 = a - P * g := by omega
   rw [e4]
   have e5 : b * (a - P * g) - 1 = a * b - 1 - P * (g * b) := by grind
   rw [e5, h5]; grind⟩
theorem LI.run {l : List Int} {P : Nat} {x : Int} {most : Int} : ∀ (f : Nat) (s : Int × Int × Int), LI l P x s → LI l P x (liftF l most f s)
 | 0, s, h => h
 | f + 1, s, h => by
  rw [liftF]
  split
  ·exact LI.run f _ h.step
  ·exact h
theorem liftF_above {l : List Int} {most : Int} : ∀ (f : Nat) (s : Int × Int × Int), 1 < s.2.1 → (most - s.2.1 + 1).toNat ≤ f → most < (liftF l most f s).2.1
 | 0, s, h, hf => by
  show most < s.2.1
  omega
 | f + 1, s, h, hf => by
  rw [liftF]
  split
  ·have := liftS_pow (l := l) h
   exact liftF_above f _ (by omega) (by omega)
  ·omega
theorem lifted_is {l : List Int} {P x : Nat} {most : Int} (hP : Prime P) (hx : (valM l x P).1 = 0) (hs : SimpleAt l P x) : LI l P x (lifted l x P most) ∧ most < (lifted l x P most).2.1 := by
 have h := LI.init hP hx hs
 have hp := hP.1
 exact ⟨LI.run _ _ h, liftF_above _ _ h.w1 (by show (most - (P : Int) + 1).toNat ≤ (most + 1).toNat; omega)⟩
theorem cop_pow {f P : Int} {u v : Int} (h : u * f + v * P = 1) : ∀ k : Nat, ∃ u' v', u' * f + v' * P ^ k = 1
 | 0 => ⟨0, 1, by simp⟩
 | k + 1 => by
  obtain ⟨u', v', h2⟩ := cop_pow h k
  refine ⟨u' + v' * P ^ k * u, v' * v, ?_⟩
  rw [Int.pow_succ]
  generalize P ^ k = Q at *
  have : u' * f + v' * Q * (u * f + v * P) = 1 := by rw [h, Int.mul_one]; exact h2
  rw [← this]; grind
theorem lift_unique {l : List Int} {P : Nat} {x z : Int} {s : Int × Int × Int} (h : LI l P x s) (hz : s.2.1 ∣ evI l z) (hc : (P : Int) ∣ z - x) : s.2.1 ∣ z - s.1 := by
 obtain ⟨r, w, b⟩ := s
 obtain ⟨v, p1, p2, p3, p4⟩ := h.bk
 have hrt := h.rt
 have hcg := h.cg
 obtain ⟨k, hk, hk1⟩ := h.pw
 simp only at hrt hcg hk p4 hz ⊢
 obtain ⟨⟨q, hq⟩, _⟩ := taylor r (z - r) l
 rw [show r + (z - r) = z by omega] at hq
 -- w divides (z - r) F with F = n'(r) + (z - r) q, and b F is 1 modulo P
 obtain ⟨F, hF⟩ : ∃ F, F = (evD l r).2 + (z - r) * q := ⟨_, rfl⟩
 have h1 : w ∣ (z - r) * F := by
  have : (z - r) * F = evI l z - evI l r := by rw [hq, hF]; grind
  rw [this]; exact Int.dvd_sub hz hrt
 have h2 : ∃ c, b * F + c * P = 1 := by
  obtain ⟨g, hg⟩ := Int.dvd_trans p1 p4
  obtain ⟨e, he⟩ := Int.dvd_sub hc hcg
  rw [show z - x - (r - x) = z - r by omega] at he
  refine ⟨-g - b * e * q, ?_⟩
  rw [hF, he]
  have : b * (evD l r).2 = 1 + P * g := by omega
  have e2 : b * ((evD l r).2 + P * e * q) = b * (evD l r).2 + b * (P * e * q) := by rw [Int.mul_add]
  rw [e2, this]; grind
 obtain ⟨c, h3⟩ := h2
 obtain ⟨u', v', h4⟩ := cop_pow h3 k
 rw [← hk] at h4
 obtain ⟨t, ht⟩ := h1
 refine ⟨u' * t + v' * (z - r), ?_⟩
 have : z - r = (z - r) * (u' * F + v' * w) := by rw [h4, Int.mul_one]
 rw [this]
 have e2 : (z - r) * (u' * F + v' * w) = u' * ((z - r) * F) + v' * w * (z - r) := by grind
 rw [e2, ht]
 generalize z - r = d at *
 grind
end Go.Proofs.YtacenhlcfeepgaaGreat
namespace Go.Proofs.YtacenhlcfeepgaaGreat
open Go Eng
def hv (a s : Int) : List Int → Int
 | [] => 0
 | c :: l => c * s ^ l.length + a * hv a s l
theorem hv_rat {a s : Int} (hs : s ≠ 0) : ∀ l : List Int, (s : Rat) * (hv a s l : Rat) = ((s ^ l.length : Int) : Rat) * (castL l).eval ((a : Rat) / (s : Rat))
 | [] => by rw [show castL [] = 0 from Poly.of_nil, Poly.eval_zero, hv]; simp
 | c :: l => by
  have ih := hv_rat (a := a) hs l
  have hs2 : (s : Rat) ≠ 0 := fun e => hs (Rat.intCast_eq_zero_iff.1 e)
  rw [castL_cons, Poly.eval_cX, hv, List.length_cons, Int.pow_succ, Rat.intCast_add, Rat.intCast_mul, Rat.intCast_mul, Rat.intCast_mul]
  generalize ((s ^ l.length : Int) : Rat) = p at *
  generalize (hv a s l : Rat) = h at *
  generalize (castL l).eval ((a : Rat) / (s : Rat)) = e at *
  generalize (s : Rat) = s' at *
  generalize (a : Rat) = a' at *
  have : s' * (a' * h) = a' * (s' * h) := by grind
  rw [show s' * ((c : Rat) * p + a' * h) = s' * (c : Rat) * p + a' * (s' * h) by grind, ih]
  have e2 : a' / s' * s' = a' := by grind
  have e3 : p * s' * ((c : Rat) + a' / s' * e) = p * s' * (c : Rat) + p * (a' / s' * s') * e := by grind
  rw [e3, e2]; grind
theorem hv_mod {a s w z : Int} (hz : w ∣ s * z - a) : ∀ l : List Int, w ∣ s * hv a s l - s ^ l.length * evI l z
 | [] => ⟨0, by show s * 0 - s ^ 0 * 0 = w * 0; simp⟩
 | c :: l => by
  obtain ⟨k, hk⟩ := hv_mod hz l
  obtain ⟨t, ht⟩ := hz
  refine ⟨a * k - s ^ l.length * t * evI l z, ?_⟩
  show s * (c * s ^ l.length + a * hv a s l) - s ^ (l.length + 1) * (evI l z * z + c) = _
  rw [Int.pow_succ]
  generalize s ^ l.length = p at *
  generalize evI l z = e at *
  generalize hv a s l = h at *
  have e1 : s * z = a + w * t := by omega
  have e2 : s * (c * p + a * h) - p * s * (e * z + c) = a * (s * h) - p * (s * z) * e := by grind
  have e3 : s * h = w * k + p * e := by omega
  rw [e2, e1, e3]; grind
def sumA : List Int → Nat
 | [] => 0
 | c :: l => c.natAbs + sumA l
theorem bndI_sum : ∀ (l : List Int) (b : Int), bndI l b = b + (sumA l : Nat)
 | [], b => by show b = b + ((0 : Nat) : Int); omega
 | c :: l, b => by
  show bndI l (b + (c.natAbs : Int)) = _
  rw [bndI_sum l, sumA]; omega
theorem hv_last {a s : Int} {M : Nat} (hM1 : a.natAbs ≤ M) (hM2 : s.natAbs ≤ M) : ∀ (l : List Int), l ≠ [] → ∃ R, hv a s l = a ^ (l.length - 1) * lastI l + s * R ∧ R.natAbs * M ≤ sumA l * M ^ (l.length - 1)
 | [], h => absurd rfl h
 | [c], _ => ⟨0, by show c * s ^ 0 + a * 0 = a ^ 0 * c + s * 0; simp, by simp⟩
 | c :: d :: l, _ => by
  obtain ⟨R, h1, h2⟩ := hv_last hM1 hM2 (d :: l) (by simp)
  have hlast : lastI (c :: d :: l) = lastI (d :: l) := rfl
  refine ⟨c * s ^ l.length + a * R, ?_, ?_⟩
  ·rw [hlast]
   show c * s ^ (l.length + 1) + a * hv a s (d :: l) = a ^ (l.length + 1) * lastI (d :: l) + _
   rw [h1]
   show c * s ^ (l.length + 1) + a * (a ^ l.length * lastI (d :: l) + s * R) = _
   rw [Int.pow_succ, Int.pow_succ]
   generalize s ^ l.length = p
   generalize a ^ l.length = q
   grind
  ·have h3 : (c * s ^ l.length + a * R).natAbs ≤ c.natAbs * M ^ l.length + M * R.natAbs := by
    refine Nat.le_trans (Int.natAbs_add_le _ _) ?_
    rw [Int.natAbs_mul, Int.natAbs_mul, Int.natAbs_pow]
    exact Nat.add_le_add (Nat.mul_le_mul_left _ (Nat.pow_le_pow_left hM2 _)) (Nat.mul_le_mul_right _ hM1)
   have h2' : R.natAbs * M ≤ sumA (d :: l) * M ^ l.length := h2
   have h4 := Nat.mul_le_mul_right M h3
   have h5 := Nat.mul_le_mul_left M h2'
   show _ ≤ (c.natAbs + sumA (d :: l)) * M ^ (l.length + 1)
   rw [Nat.pow_succ]
   generalize M ^ l.length = p at *
   generalize sumA (d :: l) = S at *
   generalize R.natAbs = r at *
   generalize c.natAbs = k at *
   have e1 : (k * p + M * r) * M = k * (p * M) + M * (r * M) := by rw [Nat.add_mul, Nat.mul_assoc, Nat.mul_assoc]
   have e2 : (k + S) * (p * M) = k * (p * M) + M * (S * p) := by rw [Nat.add_mul]; congr 1; rw [← Nat.mul_assoc, Nat.mul_comm]
   omega
theorem pow_cancel {a b : Nat} {c n : Nat} (hc : 0 < c) (h : a * c ^ n ≤ b * c ^ n) : a ≤ b := Nat.le_of_mul_le_mul_right h (Nat.pow_pos hc)
theorem root_parts {l : List Int} (hl : l ≠ []) {a : Int} {s : Nat} (hs : 0 < s) (hc : ∃ u v : Int, u * a + v * s = 1) (h0 : hv a s l = 0) : ∃ t : Int, lastI l = s * t ∧ (a * t).natAbs ≤ (lastI l).natAbs + sumA l := by
 obtain ⟨u, v, huv⟩ := hc
 obtain ⟨R, h1, h2⟩ := hv_last (a := a) (s := s) (M := max a.natAbs s) (by omega) (by rw [Int.natAbs_natCast]; omega) l hl
 rw [h0] at h1
 obtain ⟨u', v', h3⟩ := cop_pow (f := s) (P := a) (u := v) (v := u) (by rw [← huv]; omega) (l.length - 1)
 obtain ⟨t, ht⟩ : ∃ t, lastI l = s * t := ⟨u' * lastI l - v' * R, by
  have e1 : a ^ (l.length - 1) * lastI l = -(s * R) := by omega
  have e2 : lastI l = (u' * s + v' * a ^ (l.length - 1)) * lastI l := by rw [h3, Int.one_mul]
  have e3 : (u' * s + v' * a ^ (l.length - 1)) * lastI l = u' * s * lastI l + v' * (a ^ (l.length - 1) * lastI l) := by rw [Int.add_mul, Int.mul_assoc v']
  rw [e3, e1] at e2
  refine e2.trans ?_
  generalize lastI l = L
  grind⟩
 refine ⟨t, ht, ?_⟩
 by_cases hle : a.natAbs ≤ s
 ·rw [Int.natAbs_mul, ht, Int.natAbs_mul, Int.natAbs_natCast]
  have := Nat.mul_le_mul_right t.natAbs hle
  omega
 ·rw [Nat.max_eq_left (by omega)] at h2
  have e1 : (a ^ (l.length - 1) * lastI l).natAbs = (s * R).natAbs := by
   have : a ^ (l.length - 1) * lastI l = -(s * R) := by omega
   rw [this, Int.natAbs_neg]
  rw [Int.natAbs_mul, Int.natAbs_mul, Int.natAbs_pow, Int.natAbs_natCast, ht, Int.natAbs_mul, Int.natAbs_natCast] at e1
  have e2 := Nat.mul_le_mul_left s h2
  have e3 : a.natAbs ^ (l.length - 1) * (s * t.natAbs) * a.natAbs ≤ s * (sumA l * a.natAbs ^ (l.length - 1)) := by
   rw [e1, Nat.mul_assoc]; exact e2
  have e4 : (s * (t.natAbs * a.natAbs)) * a.natAbs ^ (l.length - 1) ≤ (s * sumA l) * a.natAbs ^ (l.length - 1) := by
   generalize a.natAbs ^ (l.length - 1) = p at *
   have e5 : p * (s * t.natAbs) * a.natAbs = (s * (t.natAbs * a.natAbs)) * p := by
    simp only [Nat.mul_comm, Nat.mul_left_comm, Nat.mul_assoc]
   rw [← e5, Nat.mul_assoc s]; exact e3
  have e6 := pow_cancel (by omega) e4
  have e7 := Nat.le_of_mul_le_mul_left e6 hs
  rw [Int.natAbs_mul, Nat.mul_comm]; omega
theorem root_cand {l : List Int} (hl : l ≠ []) (hlast : lastI l ≠ 0) {P : Nat} (hP : First l P) {y : Rat} (hy : (castL l).eval y = 0) : ∃ x, x ∈ rootsM l P P ∧ candQ l P x = y ∧ ∃ t : Int, lastI l = y.den * t ∧ (P : Int) ∣ y.den * (x : Int) - y.num := by
 have hp := oddP_prime hP.ge hP.odd hP.prime
 have hp2 := hp.1
 obtain ⟨a, ha⟩ : ∃ a, a = y.num := ⟨_, rfl⟩
 obtain ⟨s, hs⟩ : ∃ s, s = y.den := ⟨_, rfl⟩
 have hs0 : 0 < s := by rw [hs]; exact Nat.pos_of_ne_zero y.den_nz
 have hyq : y = (a : Rat) / ((s : Int) : Rat) := by rw [ha, hs, ← Rat.divInt_eq_div]; exact (Rat.num_divInt_den y).symm
 have hsI : (s : Int) ≠ 0 := by omega
 have hcop : ∃ u v : Int, u * a + v * s = 1 := by
  obtain ⟨u, v, h⟩ := int_bez a.natAbs s
  have hg : Nat.gcd a.natAbs s = 1 := by rw [ha, hs]; exact y.reduced
  rw [hg] at h
  rcases Int.natAbs_eq a with h1 | h1
  ·exact ⟨u, v, by rw [← h1] at h; exact h⟩
  ·refine ⟨-u, v, ?_⟩
   have : (a.natAbs : Int) = -a := by omega
   rw [this] at h
   rw [← Int.neg_mul_comm] at h; exact h
 have h0 : hv a s l = 0 := by
  have h1 := hv_rat (a := a) hsI l
  rw [← hyq, hy, Rat.mul_zero] at h1
  have h2 : ((s : Int) : Rat) ≠ 0 := fun e => hsI (Rat.intCast_eq_zero_iff.1 e)
  have h3 : (hv a s l : Rat) = 0 := by
   generalize (hv a s l : Rat) = h at *
   generalize ((s : Int) : Rat) = s' at *
   grind
  exact Rat.intCast_eq_zero_iff.1 h3
 obtain ⟨t, ht, htb⟩ := root_parts hl hs0 hcop h0
 -- s is invertible modulo P
 have hPs : ¬ P ∣ s := fun h => by
  refine hP.simple.1 (Int.emod_eq_zero_of_dvd ?_)
  rw [ht]; exact Int.dvd_mul_of_dvd_left (Int.natCast_dvd_natCast.2 h)
 have hgs : Nat.gcd s P = 1 := by
  apply Classical.byContradiction
  intro hn
  have h1 := Nat.gcd_dvd_right s P
  have h2 := Nat.le_of_dvd (by omega) h1
  have h3 := Nat.gcd_pos_of_pos_left P hs0
  by_cases h4 : Nat.gcd s P = P
  ·exact hPs (by rw [← h4]; exact Nat.gcd_dvd_left s P)
  ·exact hp.2 _ (by omega) (by omega) h1
 obtain ⟨u, v, huv⟩ := int_bez s P
 rw [hgs] at huv
 have huv : u * s + v * P = 1 := huv
 -- the root modulo P
 have e1 := Int.emod_nonneg (u * a) (show (P : Int) ≠ 0 by omega)
 have e2 := Int.emod_lt_of_pos (u * a) (show (0 : Int) < P by omega)
 obtain ⟨x, hx⟩ : ∃ x : Nat, (x : Int) = u * a % P := ⟨_, Int.toNat_of_nonneg e1⟩
 obtain ⟨g, hg⟩ := emod_dvd (u * a) P
 rw [← hx] at hg
 have hsx : (P : Int) ∣ s * (x : Int) - a := ⟨s * g - v * a, by
  have e3 : (x : Int) = u * a + P * g := by omega
  rw [e3]
  have e4 : (s : Int) * (u * a + P * g) - a = (u * s + v * P) * a - a + P * (s * g - v * a) := by grind
  rw [e4, huv]; grind⟩
 have evz : ∀ {w z : Int}, w ∣ s * z - a → (∃ u' v', u' * s + v' * w = 1) → w ∣ evI l z := fun {w z} h1 ⟨u', v', h2⟩ => by
  have h3 := hv_mod h1 l
  rw [h0] at h3
  obtain ⟨p, q, h4⟩ := cop_pow (f := w) (P := s) (u := v') (v := u') (by rw [← h2]; omega) l.length
  obtain ⟨k, hk⟩ := h3
  refine ⟨p * evI l z - q * k, ?_⟩
  have e5 : s ^ l.length * evI l z = -(w * k) := by omega
  have e6 : evI l z = p * w * evI l z + q * (s ^ l.length * evI l z) := by
   have : evI l z = (p * w + q * s ^ l.length) * evI l z := by rw [h4, Int.one_mul]
   rw [Int.add_mul, Int.mul_assoc q] at this; exact this
  rw [e5] at e6
  generalize evI l z = E at *
  have e7 : p * w * E + q * -(w * k) = w * (p * E - q * k) := by grind
  rw [e7] at e6; exact e6
 have hroot : (valM l x P).1 = 0 := by
  rw [(valM_ev x P l).1]
  exact Int.emod_eq_zero_of_dvd (evz hsx ⟨u, v, huv⟩)
 have hxP : x < P := by omega
 have hxm : x ∈ rootsM l P P := by
  unfold rootsM
  exact List.mem_filter.2 ⟨List.mem_range.2 hxP, decide_eq_true hroot⟩
 refine ⟨x, hxm, ?_, t, by rw [← hs]; exact ht, by rw [← hs, ← ha]; exact hsx⟩
 obtain ⟨hLI, hmost⟩ := lifted_is (most := mostI l) hp hroot (hP.simple.2 x hxP)
 obtain ⟨k, hk, hk1⟩ := hLI.pw
 unfold candQ aboveI above0
 generalize (lifted l x P (mostI l)) = st at *
 obtain ⟨r, w, b⟩ := st
 simp only at hmost hk ⊢
 obtain ⟨u', v', h3⟩ := cop_pow huv k
 rw [← hk] at h3
 have hz : w ∣ s * (u' * a) - a := ⟨-(v' * a), by
  have e4 : (s : Int) * (u' * a) - a = (u' * s + v' * w) * a - a + w * (-(v' * a)) := by grind
  rw [e4, h3]; grind⟩
 have hw1 : 1 < w := hLI.w1
 have hPw : (P : Int) ∣ w := by
  obtain ⟨m, hm⟩ : ∃ m, k = m + 1 := ⟨k - 1, by omega⟩
  rw [hk, hm, Int.pow_succ]; exact Int.dvd_mul_left ..
 have hzx : (P : Int) ∣ u' * a - x := by
  have h4 := Int.dvd_sub (Int.dvd_trans hPw hz) hsx
  rw [show (s : Int) * (u' * a) - a - (s * (x : Int) - a) = s * (u' * a - x) by grind] at h4
  obtain ⟨c, hc⟩ := h4
  refine ⟨u * c + v * (u' * a - x), ?_⟩
  have : u' * a - (x : Int) = (u * s + v * P) * (u' * a - x) := by rw [huv, Int.one_mul]
  rw [this]
  generalize u' * a - (x : Int) = d at *
  rw [show (u * (s : Int) + v * P) * d = u * (s * d) + v * P * d by grind, hc]
  have e5 : (u * (s : Int) + v * P) * d = d := by rw [huv, Int.one_mul]
  grind
 have huniq := lift_unique hLI (evz hz ⟨u', v', h3⟩) hzx
 simp only at huniq
 -- r last is A modulo w
 have hA : w ∣ r * lastI l - a * t := by
  obtain ⟨c1, hc1⟩ := huniq
  obtain ⟨c2, hc2⟩ := hz
  refine ⟨c2 * t - c1 * s * t, ?_⟩
  have e5 : r = u' * a - w * c1 := by omega
  have e6 : (s : Int) * (u' * a) = a + w * c2 := by omega
  rw [ht, e5]
  have e7 : (u' * a - w * c1) * (s * t) - a * t = (s * (u' * a)) * t - a * t - w * (c1 * s * t) := by grind
  rw [e7, e6]; grind
 have hb := bndI_sum l (((lastI l).natAbs : Int) + 1)
 have hmost2 : mostI l = (((lastI l).natAbs : Int) + 1 + (sumA l : Nat)) * 2 := by unfold mostI; rw [hb]
 rw [hmost2] at hmost
 have hmod : r * lastI l % w = (a * t) % w := Int.emod_eq_emod_iff_emod_sub_eq_zero.2 (Int.emod_eq_zero_of_dvd hA)
 rw [hmod]
 have hfin : (if cmpI (a * t % w * 2) w > 0 then a * t % w - w else a * t % w) = a * t := by
  have hc := cmpI_le (a * t % w * 2) w
  rcases Int.le_total 0 (a * t) with h5 | h5
  ·have h6 : a * t % w = a * t := Int.emod_eq_of_lt h5 (by omega)
   rw [h6] at hc ⊢
   rw [if_neg (by omega)]
  ·by_cases h7 : a * t = 0
   ·rw [h7] at hc ⊢
    rw [Int.zero_emod] at hc ⊢
    rw [if_neg (by omega)]
   ·have h6 : a * t % w = a * t + w := by
     rw [← Int.add_emod_right]
     exact Int.emod_eq_of_lt (by omega) (by omega)
    rw [h6] at hc ⊢
    rw [if_pos (by omega)]; omega
 rw [hfin, ht]
 have ht0 : t ≠ 0 := fun e => hlast (by rw [ht, e, Int.mul_zero])
 rw [Rat.divInt_mul_right ht0, ha, hs]
 exact Rat.num_divInt_den y
end Go.Proofs.YtacenhlcfeepgaaGreat
namespace Go.Proofs.YtacenhlcfeepgaaGreat
open Go Eng
def Asc (l : List Rat) : Prop := l.Pairwise (· < ·)
theorem asc_put {l : List Rat} {x : Rat} {p : Nat} (h : Asc l) (h1 : ∀ i y, i < p → l[i]? = some y → y < x) (h2 : ∀ i y, p ≤ i → l[i]? = some y → x < y) : Asc (sw x l p) := by
 rw [← List.take_append_drop p l] at h
 obtain ⟨k1, k2, k3⟩ := List.pairwise_append.1 h
 unfold sw
 refine List.pairwise_append.2 ⟨k1, List.pairwise_cons.2 ⟨fun y hy => ?_, k2⟩, fun y hy z hz => ?_⟩
 ·obtain ⟨i, hi⟩ := List.mem_iff_getElem?.1 hy
  rw [List.getElem?_drop] at hi
  exact h2 (p + i) y (by omega) hi
 ·have hyx : y < x := by
   obtain ⟨i, hi⟩ := List.mem_iff_getElem?.1 hy
   rw [List.getElem?_take] at hi
   split at hi
   ·exact h1 i y ‹_› hi
   ·cases hi
  rcases List.mem_cons.1 hz with rfl | hz
  ·exact hyx
  ·exact k3 y hy z hz
theorem asc_at {l : List Rat} (h : Asc l) {i j : Nat} {x y : Rat} (hij : i < j) (hi : l[i]? = some x) (hj : l[j]? = some y) : x < y := by
 obtain ⟨a1, a2⟩ := List.getElem?_eq_some_iff.1 hi
 obtain ⟨b1, b2⟩ := List.getElem?_eq_some_iff.1 hj
 have := List.pairwise_iff_getElem.1 h i j a1 b1 hij
 rw [a2, b2] at this; exact this
theorem cmpQ_lt {x y : Rat} : cmpQ x y < 0 ↔ x < y := by
 unfold cmpQ
 split
 ·simp [*]
 ·split <;> simp [*]
theorem insPos_spec {x : Rat} {s : List Rat} (h : Asc s) (hx : x ∉ s) : ∀ j, j ≤ s.length → insPos x s j ≤ j ∧ (∀ i y, i < insPos x s j → s[i]? = some y → y < x) ∧ (∀ i y, insPos x s j ≤ i → i < j → s[i]? = some y → x < y)
 | 0, _ => ⟨Nat.le_refl _, fun i y hi => absurd hi (Nat.not_lt_zero i), fun i y _ hi => absurd hi (Nat.not_lt_zero i)⟩
 | j + 1, hj => by
  have hat : s[j]? = some (s.getD j 0) := by rw [List.getD_eq_getElem?_getD, List.getElem?_eq_getElem (by omega)]; rfl
  rw [insPos]
  split
  ·rename_i hc
   obtain ⟨h1, h2, h3⟩ := insPos_spec h hx j (by omega)
   refine ⟨by omega, h2, fun i y hi hij hy => ?_⟩
   by_cases e : i = j
   ·subst e; rw [hat] at hy; injection hy with hy; rw [← hy]; exact cmpQ_lt.1 hc
   ·exact h3 i y hi (by omega) hy
  ·rename_i hc
   have h4 : s.getD j 0 < x := by
    have h5 : ¬ x < s.getD j 0 := fun e => hc (cmpQ_lt.2 e)
    have h6 : x ≠ s.getD j 0 := fun e => hx (by rw [e]; exact List.mem_of_getElem? hat)
    grind
   refine ⟨Nat.le_refl _, fun i y hi hy => ?_, fun i y hi hij => by omega⟩
   by_cases e : i = j
   ·subst e; rw [hat] at hy; injection hy with hy; rw [← hy]; exact h4
   ·have := asc_at h (show i < j by omega) hy hat
    grind
theorem mem_sw {x y : Rat} {s : List Rat} {j : Nat} : y ∈ sw x s j ↔ y = x ∨ y ∈ s := by
 refine ⟨sw_mem, fun h => ?_⟩
 unfold sw
 rcases h with rfl | h
 ·simp
 ·rw [← List.take_append_drop j s] at h
  rcases List.mem_append.1 h with h | h
  ·exact List.mem_append.2 (.inl h)
  ·exact List.mem_append.2 (.inr (List.mem_cons_of_mem _ h))
theorem insQ_asc {x : Rat} {s : List Rat} (h : Asc s) (hx : x ∉ s) : Asc (insQ s x) := by
 obtain ⟨h1, h2, h3⟩ := insPos_spec h hx s.length (Nat.le_refl _)
 exact asc_put h h2 fun i y hi hy => h3 i y hi (List.getElem?_eq_some_iff.1 hy).1 hy
theorem isort_asc : ∀ (l s : List Rat), Asc s → l.Nodup → (∀ y ∈ l, y ∉ s) → Asc (l.foldl insQ s) ∧ ∀ y, y ∈ l.foldl insQ s ↔ y ∈ l ∨ y ∈ s
 | [], s, hs, _, _ => ⟨hs, fun y => by simp⟩
 | x :: l, s, hs, hn, hd => by
  obtain ⟨n1, n2⟩ := List.nodup_cons.1 hn
  have hx := hd x (by simp)
  obtain ⟨h1, h2⟩ := isort_asc l (insQ s x) (insQ_asc hs hx) n2 fun y hy hm => by
   rcases mem_sw.1 hm with e | e
   ·subst e; exact n1 hy
   ·exact hd y (by simp [hy]) e
  refine ⟨h1, fun y => ?_⟩
  rw [List.foldl_cons, h2 y, insQ, mem_sw, List.mem_cons]
  constructor
  ·rintro (h | h | h)
   ·exact .inl (.inr h)
   ·exact .inl (.inl h)
   ·exact .inr h
  ·rintro ((h | h) | h)
   ·exact .inr (.inl h)
   ·exact .inl h
   ·exact .inr (.inr h)
theorem castL_prim {p : Pol} (hp : p ≠ 0) : Poly.cst (primC p) * castL (primN p) = p := Poly.ext fun i => by
 rw [Poly.cst_mul, castL_co]
 by_cases hi : i < p.len
 ·have hy : p.c[i]? = some (p.co i) := cf_at hi
  have hx := primN_at hi
  rw [List.getD_eq_getElem?_getD, hx]
  exact primC_mul hp hx hy
 ·rw [List.getD_eq_getElem?_getD, List.getElem?_eq_none (by rw [primN_len]; omega), Poly.co_ge (by omega)]; exact Rat.mul_zero _
theorem primN_scale {m : Pol} (hm : m ≠ 0) {c : Rat} (hc : c ≠ 0) : primN (Poly.cst c * m) = primN m := by
 have hp : Poly.cst c * m ≠ 0 := Poly.mul_ne (Poly.cst_ne hc) hm
 have hlen : (Poly.cst c * m).len = m.len := by
  have h1 := (Poly.len_mul (Poly.cst_ne hc) hm).1
  rw [Poly.len_cst_ne hc] at h1
  have := Poly.len_pos hm; omega
 have e1 := castL_prim hp
 have e2 := castL_prim hm
 have l1 := primN_len (Poly.cst c * m)
 have l2 := primN_len m
 have g1 := primN_gcd hp
 have g2 := primN_gcd hm
 have p1 : ∀ x, (primN (Poly.cst c * m))[m.len - 1]? = some x → 0 < x := fun x hx => primN_pos hp (by rw [hlen]; exact hx)
 have p2 : ∀ x, (primN m)[m.len - 1]? = some x → 0 < x := fun x hx => primN_pos hm hx
 have hC : primC (Poly.cst c * m) ≠ 0 := fun e => hp (by rw [← e1, e, Poly.cst_zero]; grind)
 have hC2 : primC m ≠ 0 := fun e => hm (by rw [← e2, e, Poly.cst_zero]; grind)
 obtain ⟨q, hq⟩ : ∃ q, q = c * primC m / primC (Poly.cst c * m) := ⟨_, rfl⟩
 have hco : ∀ i, (castL (primN (Poly.cst c * m))).co i = q * (castL (primN m)).co i := fun i => by
  have h3 := congrArg (fun p => Poly.co p i) e1
  have h4 := congrArg (fun p => Poly.co p i) e2
  simp only [Poly.cst_mul] at h3 h4
  rw [← h4] at h3
  rw [hq]
  generalize primC (Poly.cst c * m) = C at *
  generalize primC m = C2 at *
  generalize (castL (primN (Poly.cst c * m))).co i = a at *
  generalize (castL (primN m)).co i = b at *
  grind
 rw [hlen] at l1
 generalize primN (Poly.cst c * m) = A at *
 generalize primN m = B at *
 have hml := Poly.len_pos hm
 have hint : ∀ i, A.getD i 0 * q.den = B.getD i 0 * q.num := fun i => by
  have h3 := hco i
  rw [castL_co, castL_co] at h3
  have hqd : ((q.den : Int) : Rat) ≠ 0 := fun e => by
   have := Rat.intCast_eq_zero_iff.1 e
   have := q.den_nz; omega
  have hq2 : q * ((q.den : Int) : Rat) = (q.num : Rat) := by
   have : q = (q.num : Rat) / ((q.den : Int) : Rat) := by rw [← Rat.divInt_eq_div]; exact (Rat.num_divInt_den q).symm
   generalize ((q.den : Int) : Rat) = d at *
   generalize (q.num : Rat) = n at *
   rw [this]; grind
  refine Rat.intCast_inj.1 ?_
  rw [Rat.intCast_mul, Rat.intCast_mul, h3, ← hq2]; grind
 have hmap : A.map (· * (q.den : Int)) = B.map (· * q.num) := by
  refine List.ext_getElem? fun i => ?_
  rw [List.getElem?_map, List.getElem?_map]
  have h3 := hint i
  by_cases hi : i < m.len
  ·rw [List.getD_eq_getElem?_getD, List.getD_eq_getElem?_getD, List.getElem?_eq_getElem (by omega), List.getElem?_eq_getElem (by omega)] at h3
   rw [List.getElem?_eq_getElem (by omega), List.getElem?_eq_getElem (by omega)]
   exact congrArg some h3
  ·rw [List.getElem?_eq_none (by omega), List.getElem?_eq_none (by omega)]; rfl
 have hg := congrArg gcdIs hmap
 rw [gcdIs_mul, gcdIs_mul, g1, g2, Int.natAbs_natCast] at hg
 have hd := q.den_nz
 have hn : q.num = q.den := by
  have h3 := hint (m.len - 1)
  have h4 : A[m.len - 1]? = some (A.getD (m.len - 1) 0) := by rw [List.getD_eq_getElem?_getD, List.getElem?_eq_getElem (by omega)]; rfl
  have h5 : B[m.len - 1]? = some (B.getD (m.len - 1) 0) := by rw [List.getD_eq_getElem?_getD, List.getElem?_eq_getElem (by omega)]; rfl
  have h6 := p1 _ h4
  have h7 := p2 _ h5
  have h8 : 0 < A.getD (m.len - 1) 0 * (q.den : Int) := Int.mul_pos h6 (by omega)
  rw [h3] at h8
  have h9 : 0 < q.num := by
   apply Classical.byContradiction
   intro hn
   have := Int.mul_nonpos_of_nonneg_of_nonpos (Int.le_of_lt h7) (show q.num ≤ 0 by omega)
   omega
  omega
 refine List.ext_getElem? fun i => ?_
 by_cases hi : i < m.len
 ·have h3 := hint i
  rw [hn] at h3
  have h4 := Int.eq_of_mul_eq_mul_right (show (q.den : Int) ≠ 0 by omega) h3
  rw [List.getD_eq_getElem?_getD, List.getD_eq_getElem?_getD, List.getElem?_eq_getElem (by omega), List.getElem?_eq_getElem (by omega)] at h4
  rw [List.getElem?_eq_getElem (by omega), List.getElem?_eq_getElem (by omega)]
  exact congrArg some h4
 ·rw [List.getElem?_eq_none (by omega), List.getElem?_eq_none (by omega)]
end Go.Proofs.YtacenhlcfeepgaaGreat
namespace Go.Proofs.YtacenhlcfeepgaaGreat
open Go Eng
def lin (y : Rat) : Pol := Poly.X - Poly.cst y
theorem lin_co (y : Rat) (i : Nat) : (lin y).co i = if i = 0 then -y else if i = 1 then 1 else 0 := by
 rw [lin, Poly.co_sub, Poly.X, Poly.co_mono, Poly.co_cst]
 by_cases h0 : i = 0
 ·subst h0; simp; grind
 ·by_cases h1 : i = 1
  ·subst h1; simp; grind
  ·rw [if_neg h1, if_neg h0, if_neg h0]; grind
theorem lin_len (y : Rat) : (lin y).len = 2 := Poly.len_eq (n := 1) (fun i hi => by rw [lin_co, if_neg (by omega), if_neg (by omega)]) (by rw [lin_co, if_neg (by decide), if_pos rfl]; decide +kernel)
theorem lin_ne (y : Rat) : lin y ≠ 0 := fun e => by have := lin_len y; rw [e, Poly.len_zero] at this; omega
theorem lin_irr (y : Rat) : Irr (lin y) := ⟨by rw [lin_len]; omega, fun d _ => by rw [lin_len]; omega⟩
theorem eval_X (x : Rat) : Poly.eval Poly.X x = x := by
 have := Poly.eval_cX (0 : Rat) 1 x
 rw [show Poly.cst (0 : Rat) + Poly.X * 1 = Poly.X by rw [Poly.cst_zero]; grind, show (1 : Pol) = Poly.cst 1 from rfl, Poly.eval_cst] at this
 rw [this]; grind
theorem lin_eval (y x : Rat) : (lin y).eval x = x - y := by rw [lin, Poly.eval_sub, eval_X, Poly.eval_cst]
theorem root_dvd {p : Pol} {y : Rat} : p.eval y = 0 ↔ lin y ∣ p := by
 constructor
 ·intro h
  rw [Poly.dvd_iff_mod (lin_ne y)]
  have h1 := Poly.div_add_mod (p := p) (lin_ne y)
  have h2 := Poly.mod_len (p := p) (lin_ne y)
  rw [lin_len] at h2
  have h3 := Poly.len_one_cst (show (p % lin y).len ≤ 1 by omega)
  have h4 := congrArg (fun q => Poly.eval q y) h1
  simp only [Poly.eval_add, Poly.eval_mul, lin_eval, h] at h4
  rw [h3, Poly.eval_cst] at h4
  have h5 : (p % lin y).co 0 = 0 := by
   generalize (p % lin y).co 0 = z at *
   grind
  rw [h3, h5]; rfl
 ·rintro ⟨s, rfl⟩
  rw [Poly.eval_mul, lin_eval]; grind
theorem roots_few : ∀ (l : List Rat) (p : Pol), p ≠ 0 → l.Nodup → (∀ y ∈ l, p.eval y = 0) → l.length + 1 ≤ p.len
  | [], p, hp, _, _ => Poly.len_pos hp
  | y :: l, p, hp, hn, h => by
    obtain ⟨n1, n2⟩ := List.nodup_cons.1 hn
    obtain ⟨s, hs⟩ := root_dvd.1 (h y (by simp))
    have hs0 : s ≠ 0 := fun e => hp (by rw [hs, e, Poly.mul_z])
    have h1 := (Poly.len_mul (lin_ne y) hs0).1
    rw [← hs, lin_len] at h1
    have h2 := roots_few l s hs0 n2 fun z hz => by
      have h3 := h z (by simp [hz])
      rw [hs, Poly.eval_mul, lin_eval] at h3
      have h4 : z - y ≠ 0 := fun e => n1 (by have : z = y := by grind
                                             rw [← this]; exact hz)
      exact Classical.byContradiction fun h5 => Poly.fmul_ne h4 h5 h3
    rw [List.length_cons]; omega
theorem cop_scale {p : Pol} {c : Rat} (hc : c ≠ 0) (h : Cop p p.deriv) : Cop (Poly.cst c * p) (Poly.cst c * p).deriv := by
 obtain ⟨s, t, h⟩ := h
 refine ⟨Poly.cst (1 / c) * s, Poly.cst (1 / c) * t, ?_⟩
 have hi := Poly.cst_inv hc
 rw [Poly.deriv_mul, Poly.deriv_cst]
 generalize Poly.cst (1 / c) = c1 at *
 generalize Poly.cst c = c2 at *
 have : c1 * s * (c2 * p) + c1 * t * (0 * p + c2 * p.deriv) = (c1 * c2) * (s * p + t * p.deriv) := by grind
 rw [this, hi, h]; grind
theorem free_facts {q : Pol} (hq : q ≠ 0) {n : Nat} (hC : CDB n q) (hl : q.len ≤ 4000) : ∃ a : Pol, Poly.Mon a ∧ a ∣ q ∧ Cop a a.deriv ∧ primN (freeP q) = primN a ∧ (∀ y, q.eval y = 0 → a.eval y = 0) ∧ (1 < q.len → 2 ≤ a.len) := by
 have hm0 := Poly.monic_ne hq
 have hmon := Poly.monic_Mon hq
 obtain ⟨a, g, hS, hag, hcop⟩ := sqf_is q hq
 have hgc : q.gcd q.deriv = q.monic.gcd q.monic.deriv := by
  have h1 : q.monic.deriv = Poly.cst (1 / q.lead) * q.deriv := by rw [Poly.monic, Poly.deriv_mul, Poly.deriv_cst]; grind
  rw [h1]
  have h2 := Poly.cst_inv (Poly.lead_ne hq)
  refine (((Poly.gcd_is q q.deriv).assoc ⟨(Poly.monic_dvd q).2, (Poly.monic_dvd q).1⟩ ⟨⟨Poly.cst (1 / q.lead), by grind⟩, ⟨Poly.cst q.lead, ?_⟩⟩).unique).symm.trans ?_ |>.symm
  ·generalize Poly.cst (1 / q.lead) = c1 at *
   generalize Poly.cst q.lead = c2 at *
   have : q.deriv = (c1 * c2) * q.deriv := by rw [h2]; grind
   rw [this]; grind
  ·exact Poly.gcd_monic q q.deriv
 have hg := Poly.gcd_is q.monic q.monic.deriv
 rw [← hgc] at hg
 have hgm := Poly.gcd_mon (p := q) (q := q.deriv) (fun e => hq e.1)
 obtain ⟨h1, h2⟩ := mon_div hmon hgm hg.left
 have hR : Rad q.monic (q.gcd q.deriv) (q.monic / q.gcd q.deriv) := ⟨hm0, h2, hgc.symm⟩
 have hfree : freeP q = Poly.cst q.lead * (q.monic / q.gcd q.deriv) := by
  have h3 := Poly.div_mul_of_dvd hgm.ne (Poly.gcd_is q q.deriv).left
  have h4 : q / q.gcd q.deriv * q.gcd q.deriv = Poly.cst q.lead * (q.monic / q.gcd q.deriv) * q.gcd q.deriv := by
   rw [h3]
   have h5 : Poly.cst q.lead * q.monic = q := by have := Poly.cst_inv (Poly.lead_ne hq); rw [Poly.monic]; generalize Poly.cst (1 / q.lead) = c1 at *; generalize Poly.cst q.lead = c2 at *; grind
   have h6 : Poly.cst q.lead * (q.monic / q.gcd q.deriv) * q.gcd q.deriv = Poly.cst q.lead * (q.monic / q.gcd q.deriv * q.gcd q.deriv) := by grind
   rw [h6, h2, h5]
  have h7 : q.gcd q.deriv * (q / q.gcd q.deriv) = q.gcd q.deriv * (Poly.cst q.lead * (q.monic / q.gcd q.deriv)) := by
   generalize q / q.gcd q.deriv = A at *
   generalize q.monic / q.gcd q.deriv = B at *
   generalize q.gcd q.deriv = G at *
   grind
  exact Poly.mul_cancel hgm.ne h7
 refine ⟨_, h1, Poly.dvd_trans ⟨_, h2.symm⟩ (Poly.monic_dvd q).1, hR.sqf, by rw [hfree]; exact primN_scale h1.ne (Poly.lead_ne hq), fun y hy => ?_, fun hlen => ?_⟩
 ·have h3 := Poly.dvd_trans (root_dvd.1 hy) (Poly.monic_dvd q).2
  exact root_dvd.2 (hR.irr (lin_irr y) h3).1
 ·obtain ⟨e, hi, hd⟩ := exists_irr _ q (Nat.le_refl _) hlen
  have h3 := (hR.irr hi (Poly.dvd_trans hd (Poly.monic_dvd q).2)).1
  have h4 := Poly.dvd_len h3 h1.ne
  have := hi.l; omega
theorem sizeI_le {l : List Int} {n : Nat} (h : ∀ x ∈ l, wl x.natAbs ≤ n) : sizeI l ≤ 32 * n := by
 unfold sizeI
 suffices hh : ∀ (l : List Int) (m : Nat), m ≤ 32 * n → (∀ x ∈ l, wl x.natAbs ≤ n) → l.foldl (fun n a => max n (bl a.natAbs)) m ≤ 32 * n from hh l 0 (Nat.zero_le _) h
 intro l
 induction l with
 | nil => intro m hm _; exact hm
 | cons x l ih =>
  intro m hm hl
  refine ih _ ?_ fun y hy => hl y (by simp [hy])
  have h1 : bl x.natAbs ≤ 32 * n := bl_le (by
   have h2 := lt_wl x.natAbs
   have h3 : (4294967296 : Nat) ^ wl x.natAbs ≤ 4294967296 ^ n := Nat.pow_le_pow_right (by decide) (hl x (by simp))
   rw [show (4294967296 : Nat) ^ n = 2 ^ (32 * n) by rw [show (4294967296 : Nat) = 2 ^ 32 from rfl, ← Nat.pow_mul]] at h3
   omega)
  show max m (bl x.natAbs) ≤ 32 * n
  omega
theorem outs_mem {q : Pol} {l : List Int} {P : Nat} {xs : List Nat} {y : Rat} : y ∈ outsQ q l P xs ↔ ∃ x ∈ xs, candQ l P x = y ∧ q.eval y = 0 := by
 unfold outsQ
 rw [List.mem_flatMap]
 constructor
 ·rintro ⟨x, hx, hy⟩
  split at hy
  ·rename_i h0
   obtain rfl : y = candQ l P x := by simpa using hy
   exact ⟨x, hx, rfl, h0⟩
  ·simp at hy
 ·rintro ⟨x, hx, rfl, h0⟩
  exact ⟨x, hx, by rw [if_pos h0]; simp⟩
theorem outs_nodup {q : Pol} {l : List Int} {P : Nat} : ∀ {xs : List Nat}, xs.Nodup → (∀ x ∈ xs, ∀ x' ∈ xs, q.eval (candQ l P x) = 0 → candQ l P x = candQ l P x' → x = x') → (outsQ q l P xs).Nodup
 | [], _, _ => List.nodup_nil
 | x :: xs, hn, h => by
  obtain ⟨n1, n2⟩ := List.nodup_cons.1 hn
  have ih := outs_nodup (q := q) (l := l) (P := P) n2 fun a ha b hb => h a (by simp [ha]) b (by simp [hb])
  have e : outsQ q l P (x :: xs) = (if q.eval (candQ l P x) = 0 then [candQ l P x] else []) ++ outsQ q l P xs := rfl
  rw [e]
  split
  ·rename_i h0
   refine List.nodup_cons.2 ⟨fun hm => ?_, ih⟩
   obtain ⟨x', hx', h1, h2⟩ := outs_mem.1 hm
   have := h x (by simp) x' (by simp [hx']) h0 h1.symm
   subst this
   exact n1 hx'
  ·exact ih
theorem cand_res {l : List Int} (hl : l ≠ []) (hlast : lastI l ≠ 0) {P : Nat} (hP : First l P) {x : Nat} (hx : x ∈ rootsM l P P) : (P : Int) ∣ aboveI l P x - x * lastI l := by
 have hp := oddP_prime hP.ge hP.odd hP.prime
 have hxP := rootsM_lt hx
 have hroot : (valM l x P).1 = 0 := by unfold rootsM at hx; exact of_decide_eq_true (List.mem_filter.1 hx).2
 obtain ⟨hLI, _⟩ := lifted_is (most := mostI l) hp hroot (hP.simple.2 x hxP)
 obtain ⟨k, hk, hk1⟩ := hLI.pw
 have hcg := hLI.cg
 unfold aboveI above0
 generalize (lifted l x P (mostI l)) = st at *
 obtain ⟨r, w, b⟩ := st
 simp only at hk hcg ⊢
 have hPw : (P : Int) ∣ w := by
  obtain ⟨m, hm⟩ : ∃ m, k = m + 1 := ⟨k - 1, by omega⟩
  rw [hk, hm, Int.pow_succ]; exact Int.dvd_mul_left ..
 have h1 : (P : Int) ∣ r * lastI l % w - r * lastI l := Int.dvd_trans hPw (emod_dvd _ _)
 have h2 : (P : Int) ∣ r * lastI l - x * lastI l := by rw [← Int.sub_mul]; exact Int.dvd_mul_of_dvd_left hcg
 have h3 : (P : Int) ∣ r * lastI l % w - x * lastI l := by
  have := Int.dvd_add h1 h2
  rw [show r * lastI l % w - r * lastI l + (r * lastI l - x * lastI l) = r * lastI l % w - x * lastI l by omega] at this; exact this
 split
 ·have := Int.dvd_sub h3 hPw
  rw [show r * lastI l % w - x * lastI l - w = r * lastI l % w - w - x * lastI l by omega] at this; exact this
 ·exact h3
theorem prime_cancel {P : Nat} (hp : Prime P) {c d : Int} (h : ¬ (P : Int) ∣ c) (k : (P : Int) ∣ c * d) : (P : Int) ∣ d := by
 have hp2 := hp.1
 obtain ⟨u, v, huv⟩ := int_bez c.natAbs P
 have hg : Nat.gcd c.natAbs P = 1 := by
  apply Classical.byContradiction
  intro hn
  have h1 := Nat.gcd_dvd_right c.natAbs P
  have h2 := Nat.le_of_dvd (by omega) h1
  have h3 := Nat.gcd_pos_of_pos_right c.natAbs (show 0 < P by omega)
  by_cases h4 : Nat.gcd c.natAbs P = P
  ·refine h ?_
   have h5 := Nat.gcd_dvd_left c.natAbs P
   rw [h4] at h5
   exact Int.dvd_natAbs.1 (Int.natCast_dvd_natCast.2 h5)
  ·exact hp.2 _ (by omega) (by omega) h1
 rw [hg] at huv
 have h6 : (P : Int) ∣ (c.natAbs : Int) * d := by
  rcases Int.natAbs_eq c with h5 | h5
  ·rw [← h5]; exact k
  ·have : (c.natAbs : Int) = -c := by omega
   rw [this, Int.neg_mul]; exact Int.dvd_neg.2 k
 obtain ⟨e, he⟩ := h6
 refine ⟨u * e + v * d, ?_⟩
 have h7 : d = (u * (c.natAbs : Int) + v * P) * d := by rw [huv]; simp
 have h8 : (u * (c.natAbs : Int) + v * P) * d = u * ((c.natAbs : Int) * d) + P * (v * d) := by grind
 rw [h8, he] at h7
 rw [Int.mul_add]
 refine h7.trans ?_
 generalize v * d = Z
 grind
theorem roots_is {q : Pol} (hq : q ≠ 0) {n : Nat} (hC : CDB n q) (hn : n ≤ 100) (hl : q.len ≤ 13) : ∃ R : List Rat, FnP Tryz.prog tb F_qpoly_Roots [encP q] (.tu [encQs R, .i .i64 0]) ∧ (∀ y, y ∈ R ↔ q.eval y = 0) ∧ Asc R := by
 have hs : sizeI (primN q) ≤ 4000 := Nat.le_trans (sizeI_le (primN_wl hC)) (by omega)
 by_cases h1 : q.len = 1
 ·refine ⟨[], qpoly_Roots1 q h1 hs hC hn, fun y => ⟨fun h => absurd h (by simp), fun h => ?_⟩, List.Pairwise.nil⟩
  have h2 := Poly.dvd_len (root_dvd.1 h) hq
  rw [lin_len] at h2; omega
 ·have hlp := Poly.len_pos hq
  obtain ⟨a, am, ad, ac, ap, ar, ag⟩ := free_facts hq hC (by omega)
  have hlen2 := ag (by omega)
  have haC := hC.dvd hq (by omega) ad am
  have hal := Poly.dvd_len ad hq
  have hpn := primN_len a
  have hne : primN a ≠ [] := fun e => by rw [e] at hpn; simp at hpn; omega
  have hlast := primN_last am.ne
  have hpc : primC a ≠ 0 := fun e => am.ne (by rw [← castL_prim am.ne, e, Poly.cst_zero]; grind)
  have hcast : castL (primN a) = Poly.cst (1 / primC a) * a := by
   have h2 := castL_prim am.ne
   have h3 := Poly.cst_inv hpc
   generalize Poly.cst (1 / primC a) = c1 at *
   generalize Poly.cst (primC a) = c2 at *
   generalize castL (primN a) = N at *
   have : N = (c1 * c2) * N := by rw [h3]; grind
   rw [this, ← h2]; grind
  obtain ⟨P, hP⟩ := first_exists (l := primN a) (W := n + q.len * (2 * n + 5)) (by omega) (by omega) hlast (primN_wl haC) (by have := Nat.mul_le_mul hl (show 2 * n + 5 ≤ 205 by omega); omega) (by rw [hcast]; exact cop_scale (Poly.finv_ne hpc) ac)
  have hp := oddP_prime hP.ge hP.odd hP.prime
  have hPl : ¬ (P : Int) ∣ lastI (primN a) := fun h => hP.simple.1 (Int.emod_eq_zero_of_dvd h)
  have hmem : ∀ y, y ∈ outsQ q (primN a) P (rootsM (primN a) P P) ↔ q.eval y = 0 := fun y => by
   rw [outs_mem]
   constructor
   ·rintro ⟨x, _, _, h⟩; exact h
   ·intro h
    obtain ⟨x, hx, hc, _⟩ := root_cand hne hlast hP (y := y) (by rw [hcast, Poly.eval_mul, ar y h, Rat.mul_zero])
    exact ⟨x, hx, hc, h⟩
  have hnd : (outsQ q (primN a) P (rootsM (primN a) P P)).Nodup := by
   refine outs_nodup (List.Pairwise.filter _ List.nodup_range) fun x hx x' hx' _ he => ?_
   have hA : aboveI (primN a) P x = aboveI (primN a) P x' := by
    unfold candQ at he
    rw [Rat.divInt_eq_div, Rat.divInt_eq_div] at he
    have hl0 : ((lastI (primN a) : Int) : Rat) ≠ 0 := fun e => hlast (Rat.intCast_eq_zero_iff.1 e)
    refine Rat.intCast_inj.1 ?_
    generalize ((lastI (primN a) : Int) : Rat) = L at *
    generalize ((aboveI (primN a) P x : Int) : Rat) = A1 at *
    generalize ((aboveI (primN a) P x' : Int) : Rat) = A2 at *
    grind
   have r1 := cand_res hne hlast hP hx
   have r2 := cand_res hne hlast hP hx'
   rw [← hA] at r2
   have r3 := Int.dvd_sub r2 r1
   rw [show aboveI (primN a) P x - (x' : Int) * lastI (primN a) - (aboveI (primN a) P x - (x : Int) * lastI (primN a)) = lastI (primN a) * ((x : Int) - x') by grind] at r3
   obtain ⟨g, hg⟩ := prime_cancel hp hPl r3
   have b1 := rootsM_lt hx
   have b2 := rootsM_lt hx'
   rcases Int.lt_trichotomy g 0 with h2 | h2 | h2
   ·have := Int.mul_le_mul_of_nonneg_left (show g ≤ -1 by omega) (show (0 : Int) ≤ P by omega)
    omega
   ·rw [h2] at hg; omega
   ·have := Int.mul_le_mul_of_nonneg_left (show 1 ≤ g by omega) (show (0 : Int) ≤ P by omega)
    omega
  have h12 := roots_few _ q hq hnd fun y hy => (hmem y).1 hy
  have hR := qpoly_Roots q (by omega) hl hC hn hs P (by rw [ap]; exact hP) (by rw [ap]; omega)
  unfold rootsQ at hR
  rw [ap] at hR
  obtain ⟨s1, s2⟩ := isort_asc _ [] List.Pairwise.nil hnd (by simp)
  refine ⟨_, hR, fun y => ?_, s1⟩
  rw [← hmem y, isort, s2 y]; simp
end Go.Proofs.YtacenhlcfeepgaaGreat
namespace Go.Proofs.YtacenhlcfeepgaaGreat
open Go Eng
theorem roots0 {p : Pol} (h : p = 0) : FnP Tryz.prog tb F_qpoly_Roots [encP p] (.tu [.sl T_Rat [], .i .i64 5]) := by
 subst h; rw [encP_0]; exact qpoly_RootsZ
end Go.Proofs.YtacenhlcfeepgaaGreat
namespace Go.Proofs.YtacenhlcfeepgaaGreat
open Go Eng
theorem rem_unique {p q a u v s U V : Pol} (ha : a = u * p + v * q) (hs : s = U * p + V * q) (hc : Cop u v) (hu : u ≠ 0) (hl : u.len + a.len ≤ q.len) (hU : U.len ≤ u.len) (hS : u.len + s.len ≤ q.len) : ∃ c : Rat, s = Poly.cst c * a ∧ U = Poly.cst c * u := by
 have hq : q ≠ 0 := fun e => by have := Poly.len_pos hu; rw [e, Poly.len_zero] at hl; omega
 have e1 : U * a - u * s = (U * v - u * V) * q := by rw [ha, hs]; grind
 have h1 := Poly.len_mul_le U a
 have h2 := Poly.len_mul_le u s
 have h3 := Poly.len_sub (U * a) (u * s)
 have h0 := Poly.len_pos hu
 have hq1 := Poly.len_pos hq
 have e2 : U * v - u * V = 0 := by
  apply Classical.byContradiction
  intro hne
  have h4 := (Poly.len_mul hne hq).1
  have h5 := Poly.len_pos hne
  rw [← e1] at h4
  omega
 obtain ⟨k, hk⟩ : u ∣ U := hc.dvd ⟨V, by
  have : U * v = u * V := by
   have h6 : U * v - u * V + u * V = u * V := by rw [e2]; grind
   rw [← h6]; grind
  rw [← this]; grind⟩
 have hk1 : k.len ≤ 1 := by
  by_cases hk0 : k = 0
  ·rw [hk0, Poly.len_zero]; omega
  ·have h4 := (Poly.len_mul hu hk0).1
   rw [← hk] at h4
   have := Poly.len_pos hk0
   omega
 have hkc := Poly.len_one_cst hk1
 refine ⟨k.co 0, ?_, by rw [← hkc, hk]; grind⟩
 rw [← hkc]
 have e3 : u * s = u * (k * a) := by
  have h6 : U * a - u * s = 0 := by rw [e1, e2]; grind
  have h7 : U * a = u * s := by
   have h8 : U * a - u * s + u * s = u * s := by rw [h6]; grind
   rw [← h8]; grind
  rw [← h7, hk]; grind
 exact Poly.mul_cancel hu e3
structure Ch (p q a b u v s t : Pol) : Prop where
 ea : a = u * p + v * q
 eb : b = s * p + t * q
 d : u * t - v * s = 1 ∨ u * t - v * s = -1
 l : s.len + a.len = q.len + 1
 k : u.len < s.len
 m : b.len < a.len
theorem Ch.init {p q : Pol} (hq : q ≠ 0) : Ch p q q (p % q) 0 1 1 (-(p / q)) := by
 have h := Poly.div_add_mod (p := p) hq
 refine ⟨by grind, ?_, .inr (by grind), by rw [Poly.one_len]; omega, by rw [Poly.len_zero, Poly.one_len]; omega, Poly.mod_len hq⟩
 generalize p / q = d at *
 generalize p % q = r at *
 rw [h]; grind
theorem Ch.step {p q a b u v s t : Pol} (h : Ch p q a b u v s t) (hb : b ≠ 0) : Ch p q b (a % b) s t (u - a / b * s) (v - a / b * t) := by
 have h1 := Poly.div_add_mod (p := a) hb
 have h2 := Poly.div_len hb (Nat.le_of_lt h.m)
 have hs : s ≠ 0 := fun e => by have := h.k; rw [e, Poly.len_zero] at this; omega
 have hk : a / b ≠ 0 := fun e => by rw [e, Poly.len_zero] at h2; omega
 have h3 := (Poly.len_mul hk hs).1
 have h4 := h.k
 have h5 := h.l
 have h6 := h.m
 have hlen : (u - a / b * s).len = (a / b).len + s.len - 1 := by
  have e : u - a / b * s = -(a / b * s) + u := by grind
  have hn : (-(a / b * s)).len = (a / b * s).len := by
   apply Nat.le_antisymm (Poly.len_neg _)
   have := Poly.len_neg (-(a / b * s))
   rw [show - -(a / b * s) = a / b * s by grind] at this; exact this
  rw [e, Poly.len_add_lt (by rw [hn]; omega), hn, h3]
 refine ⟨h.eb, ?_, ?_, by rw [hlen]; omega, by rw [hlen]; omega, Poly.mod_len hb⟩
 ·have ha := h.ea
  have hbb := h.eb
  generalize a / b = k at *
  generalize a % b = r at *
  have : r = a - k * b := by rw [h1]; grind
  rw [this, ha, hbb]; grind
 ·generalize a / b = k at *
  have e : s * (v - k * t) - t * (u - k * s) = -(u * t - v * s) := by grind
  rw [e]
  rcases h.d with h7 | h7
  ·exact .inr (by rw [h7])
  ·exact .inl (by rw [h7]; grind)
theorem Ch.cop {p q a b u v s t : Pol} (h : Ch p q a b u v s t) : Cop s t := by
 rcases h.d with h7 | h7
 ·exact ⟨-v, u, by rw [← h7]; grind⟩
 ·exact ⟨v, -u, by
   have : v * s + -u * t = -(u * t - v * s) := by grind
   rw [this, h7]; grind⟩
end Go.Proofs.YtacenhlcfeepgaaGreat
namespace Go.Proofs.YtacenhlcfeepgaaGreat
open Go Eng
theorem Ch.size {n : Nat} {p q a b u v s t : Pol} (h : Ch p q a b u v s t) (hb : b ≠ 0) (hp : CDB n p) (hq : CDB n q) (hs : p.len + q.len ≤ 28) : CDB ((q.len + 1 - a.len + (p.len + 1 - a.len)) * n + 6) b.monic := by
 have hb1 := Poly.len_pos hb
 have hk := h.k
 have hl := h.l
 have hm := h.m
 obtain ⟨D, D0, D1, D2⟩ := hp.ex
 obtain ⟨E, E0, E1, E2⟩ := hq.ex
 have hD := rint_ne D0
 have hE := rint_ne E0
 obtain ⟨α, hα⟩ := Classical.axiomOfChoice D2
 obtain ⟨β, hβ⟩ := Classical.axiomOfChoice E2
 obtain ⟨B, hB⟩ : ∃ B, B = 4294967296 ^ n := ⟨_, rfl⟩
 have hB2 : B = 2 ^ (32 * n) := by rw [hB, show (4294967296 : Nat) = 2 ^ 32 from rfl, ← Nat.pow_mul]
 have hB0 : 0 < B := by rw [hB]; exact Nat.pow_pos (by decide)
 have hα2 : ∀ i, (α i).natAbs ≤ B := fun i => by
  rw [hB]; exact Nat.le_of_lt (Nat.lt_of_lt_of_le (lt_wl _) (Nat.pow_le_pow_right (by decide) (hα i).1))
 have hβ2 : ∀ i, (β i).natAbs ≤ B := fun i => by
  rw [hB]; exact Nat.le_of_lt (Nat.lt_of_lt_of_le (lt_wl _) (Nat.pow_le_pow_right (by decide) (hβ i).1))
 obtain ⟨P, hP⟩ : ∃ P, P = Poly.cst (D : Rat) * p := ⟨_, rfl⟩
 obtain ⟨Q, hQ⟩ : ∃ Q, Q = Poly.cst (E : Rat) * q := ⟨_, rfl⟩
 have hPa : ∀ i, P.co i = (α i : Rat) := fun i => by rw [hP, Poly.cst_mul]; exact (hα i).2
 have hQb : ∀ i, Q.co i = (β i : Rat) := fun i => by rw [hQ, Poly.cst_mul]; exact (hβ i).2
 have hPl : P.len ≤ p.len := Poly.len_le fun i hi => by rw [hP, Poly.cst_mul, Poly.co_ge hi, Rat.mul_zero]
 have hQl : Q.len ≤ q.len := Poly.len_le fun i hi => by rw [hQ, Poly.cst_mul, Poly.co_ge hi, Rat.mul_zero]
 obtain ⟨m, hmd⟩ : ∃ m, m = q.len + 1 - a.len := ⟨_, rfl⟩
 obtain ⟨k, hkd⟩ : ∃ k, k = p.len + 1 - a.len := ⟨_, rfl⟩
 obtain ⟨M, hM⟩ : ∃ M, M + 1 = m + k := ⟨m + k - 1, by omega⟩
 obtain ⟨x, y, hx, hy, h0, hlen⟩ := small_comb (m := m) (n := k) (d := a.len - 1) (M := M) hPa hQb hα2 hβ2 (by omega) (by omega) (by omega)
 obtain ⟨H, hH⟩ : ∃ H, H = (2 * ((m + k) * B) + 1) ^ M := ⟨_, rfl⟩
 rw [← hH] at hx hy
 have hHs : H ≤ 2 ^ ((32 * n + 6) * M) := by
  have h3 : 2 * ((m + k) * B) + 1 ≤ 2 ^ (32 * n + 6) := by
   have h4 := Nat.mul_le_mul_right B (show m + k ≤ 30 by omega)
   have h5 : 2 ^ (32 * n + 6) = B * 64 := by rw [hB2, Nat.pow_add]
   omega
  rw [hH]; exact pow_le2 h3
 obtain ⟨S, hS⟩ : ∃ S, S = UP x m * P + UP y k * Q := ⟨_, rfl⟩
 rw [← hS] at hlen
 have hSco : ∀ i, S.co i = ((sumI m (fun j => if i < j then 0 else x j * α (i - j)) + sumI k (fun j => if i < j then 0 else y j * β (i - j)) : Int) : Rat) := fun i => by
  rw [hS, Poly.co_add, UP_mul x _ hPa, UP_mul y _ hQb, Rat.intCast_add]
 have hSC : CDB ((m + k) * n + 6) S := by
  refine ⟨1, by decide, wl_le (Nat.lt_of_lt_of_le (show (1 : Int).natAbs < 4294967296 ^ 1 by decide) (Nat.pow_le_pow_right (by decide) (by omega))), fun i => ⟨_, ?_, by rw [hSco]; exact Rat.one_mul _⟩⟩
  have h1 : (sumI m (fun j => if i < j then 0 else x j * α (i - j))).natAbs ≤ m * (H * B) := sumI_abs _ fun j _ => by
   split
   ·exact Nat.zero_le _
   ·rw [Int.natAbs_mul]; exact Nat.mul_le_mul (hx j) (hα2 _)
  have h2 : (sumI k (fun j => if i < j then 0 else y j * β (i - j))).natAbs ≤ k * (H * B) := sumI_abs _ fun j _ => by
   split
   ·exact Nat.zero_le _
   ·rw [Int.natAbs_mul]; exact Nat.mul_le_mul (hy j) (hβ2 _)
  have h3 := Int.natAbs_add_le (sumI m (fun j => if i < j then 0 else x j * α (i - j))) (sumI k (fun j => if i < j then 0 else y j * β (i - j)))
  have h4 : m * (H * B) + k * (H * B) ≤ 30 * (H * B) := by rw [← Nat.add_mul]; exact Nat.mul_le_mul_right _ (by omega)
  have h5 := mul_le2 hHs (Nat.le_of_eq hB2)
  have h6 : 0 < 2 ^ ((32 * n + 6) * M + 32 * n) := Nat.pow_pos (by decide)
  refine wl_le_bits (K := 32 * ((m + k) * n + 6)) rfl ?_
  refine Nat.lt_of_lt_of_le (m := 2 ^ ((32 * n + 6) * M + 32 * n) * 2 ^ 5) (by omega) ?_
  rw [← Nat.pow_add]
  refine Nat.pow_le_pow_right (by decide) ?_
  rw [← hM, Nat.add_mul, Nat.add_mul, Nat.one_mul, Nat.mul_assoc, Nat.mul_comm n M]
  have : M ≤ 29 := by omega
  generalize M * n = z at *
  omega
 obtain ⟨c, hc1, hc2⟩ := rem_unique (U := UP x m * Poly.cst (D : Rat)) (V := UP y k * Poly.cst (E : Rat)) (s := S) h.eb (by rw [hS, hP, hQ]; grind) h.cop (fun e => by rw [e, Poly.len_zero] at hk; omega) (by omega)
  (by
   have h1 := UP_len x m
   have h2 := Poly.len_mul_le (UP x m) (Poly.cst (D : Rat))
   have h3 := Poly.len_cst (D : Rat)
   omega) (by omega)
 have hc0 : c ≠ 0 := fun e => by
  rw [e, Poly.cst_zero, Poly.zero_mul'] at hc1 hc2
  have e1 : UP x m = 0 := by
   rcases Poly.mul_eq_zero hc2 with h1 | h1
   ·exact h1
   ·exact absurd h1 (Poly.cst_ne hD)
  have e2 : UP y k * Q = 0 := by rw [← hc1, hS, e1]; grind
  rcases Poly.mul_eq_zero e2 with h1 | h1
  ·exact h0 ⟨e1, h1⟩
  ·rw [hQ] at h1
   rcases Poly.mul_eq_zero h1 with h2 | h2
   ·exact Poly.cst_ne hE h2
   ·rw [h2, Poly.len_zero] at hl; omega
 have e : b.monic = S.monic := Poly.dvd_antisymm ⟨Poly.cst c, by rw [hc1]; grind⟩ ⟨Poly.cst (1 / c), by
  rw [hc1]
  have := Poly.cst_inv (F := Rat) hc0
  generalize Poly.cst (1 / c) = d at *
  generalize Poly.cst c = f at *
  grind⟩
 rw [e, ← hmd, ← hkd]
 exact hSC.monic
theorem monic_mul {a : Pol} (ha : a ≠ 0) : a = Poly.cst a.lead * a.monic := by
 have h := Poly.cst_inv (F := Rat) (Poly.lead_ne ha)
 unfold Poly.monic
 generalize Poly.cst a.lead = f at *
 generalize Poly.cst (1 / a.lead) = g at *
 grind
theorem mod_monic {a b : Pol} (ha : a ≠ 0) (hb : b ≠ 0) : a % b = Poly.cst a.lead * (a.monic % b.monic) := by
 have h1 := Poly.div_add_mod (p := a.monic) (Poly.monic_ne hb)
 have h2 := Poly.mod_len (p := a.monic) (Poly.monic_ne hb)
 rw [Poly.monic_len] at h2
 have h3 := monic_mul ha
 have hbm : b.monic = Poly.cst (1 / b.lead) * b := rfl
 refine (Poly.div_unique (p := a) (s := Poly.cst a.lead * (a.monic / b.monic) * Poly.cst (1 / b.lead)) hb ?_ ?_).2.symm
 ·rw [hbm] at h1
  rw [hbm]
  generalize Poly.cst a.lead = f at *
  generalize a.monic / (Poly.cst (1 / b.lead) * b) = d at *
  generalize a.monic % (Poly.cst (1 / b.lead) * b) = r at *
  generalize Poly.cst (1 / b.lead) = g at *
  generalize a.monic = am at *
  rw [h3, h1]; grind
 ·have h4 := Poly.len_mul_le (Poly.cst a.lead) (a.monic % b.monic)
  have h5 := Poly.len_cst a.lead
  have h6 := Poly.len_pos hb
  omega
theorem mod_lead {a b : Pol} {Ka Na Nb : Nat} (ha : a ≠ 0) (hb : b ≠ 0) (hr : a % b ≠ 0) (h1 : Bq Ka a.lead) (h2 : CDB Na a.monic) (h3 : CDB Nb b.monic) : Bq (Ka + (Na + (a.len + 1 - b.len) * (Nb + 1))) (a % b).lead := by
 have h4 := mod_monic ha hb
 have h5 : a.monic % b.monic ≠ 0 := fun e => hr (by rw [h4, e]; grind)
 have h6 := h2.mod h3 (Poly.monic_ne hb)
 rw [Poly.monic_len, Poly.monic_len] at h6
 rw [h4, (Poly.len_mul (Poly.cst_ne (Poly.lead_ne ha)) h5).2, Poly.lead_cst]
 exact h1.mul h6.pb.lead
theorem bl_wl {x n : Nat} (h : wl x ≤ n) : bl x ≤ 32 * n := by
 refine bl_le (Nat.lt_of_lt_of_le (lt_wl x) ?_)
 rw [Nat.pow_mul]
 exact Nat.pow_le_pow_right (by decide) h
theorem qb_bq {a : Rat} {K : Nat} (h : Bq K a) : qb a ≤ 32 * K := by
 have h1 := bl_wl h.num
 have h2 := bl_wl h.den
 unfold qb
 omega
theorem pw_of {a : Rat} {n K : Nat} (h : Bq K a) (hn : n * K ≤ 32768) : pwOK a n := by
 right
 have h1 := qb_bq h
 have h2 := Nat.mul_le_mul_left n h1
 have h3 : n * (32 * K) = 32 * (n * K) := by rw [← Nat.mul_assoc, Nat.mul_comm n 32, Nat.mul_assoc]
 omega
def chk (n pl ql : Nat) : Nat → Nat → Nat → Nat → Nat → Nat → Nat → Bool
 | 0, _, _, _, _, _, _ => true
 | f + 1, la, lb, Na, Nb, Ka, Kb => if lb ≤ 1 then decide ((la - 1) * Kb ≤ 32768) else
  (List.range lb).all fun lr => lr == 0 || (decide ((la - lr) * Kb ≤ 32768) && chk n pl ql f lb lr Nb ((ql + 1 - lb + (pl + 1 - lb)) * n + 6) Kb (Ka + (Na + (la + 1 - lb) * (Nb + 1))))
def chk0 (n pl ql : Nat) : Bool := if ql ≤ 1 then decide ((pl - 1) * n ≤ 32768) else
  (List.range ql).all fun lr => lr == 0 || (decide ((pl - lr) * n ≤ 32768) && chk n pl ql lr ql lr n ((ql + 1 - ql + (pl + 1 - ql)) * n + 6) n (n + (pl + 1 - ql) * (n + 1)))
theorem chk_all {n : Nat} {f : Nat → Bool} (h : ((List.range n).all fun lr => lr == 0 || f lr) = true) {i : Nat} (h0 : i ≠ 0) (hi : i < n) : f i = true := by
 have h1 := List.all_eq_true.1 h i (List.mem_range.2 hi)
 rw [beq_eq_false_iff_ne.2 h0] at h1; exact h1
theorem chk_ok {n : Nat} {p q : Pol} (hp : CDB n p) (hq : CDB n q) (hs : p.len + q.len ≤ 28) : ∀ (f : Nat) {a b u v s t : Pol} {Na Nb Ka Kb : Nat}, Ch p q a b u v s t → a ≠ 0 → b ≠ 0 → CDB Na a.monic → CDB Nb b.monic → Bq Ka a.lead → Bq Kb b.lead → chk n p.len q.len f a.len b.len Na Nb Ka Kb = true → resOK f a b
 | 0, _, _, _, _, _, _, _, _, _, _, _, _, _, _, _, _, _, _ => trivial
 | f + 1, a, b, u, v, s, t, Na, Nb, Ka, Kb, h, ha, hb, h1, h2, h3, h4, hc => by
  rw [resOK]
  rw [chk] at hc
  split
  ·rename_i hl
   rw [if_pos hl] at hc
   exact pw_of h4 (of_decide_eq_true hc)
  ·rename_i hl
   rw [if_neg hl] at hc
   split
   ·trivial
   ·rename_i hr
    have h5 := Poly.len_pos hr
    have h6 := chk_all hc (i := (a % b).len) (by omega) (Poly.mod_len hb)
    rw [Bool.and_eq_true] at h6
    exact ⟨pw_of h4 (of_decide_eq_true h6.1), chk_ok hp hq hs f (h.step hb) hb hr h2 ((h.step hb).size hr hp hq hs) h4 (mod_lead ha hb hr h3 h1 h2) h6.2⟩
theorem resOK_of {n : Nat} {p q : Pol} (hp0 : p ≠ 0) (hq0 : q ≠ 0) (hp : CDB n p) (hq : CDB n q) (hs : p.len + q.len ≤ 28) (hc : chk0 n p.len q.len = true) : resOK q.len p q := by
 obtain ⟨f, hf⟩ : ∃ f, q.len = f + 1 := ⟨q.len - 1, by have := Poly.len_pos hq0; omega⟩
 rw [hf, resOK]
 rw [chk0] at hc
 split
 ·rename_i hl
  rw [if_pos hl] at hc
  exact pw_of hq.pb.lead (of_decide_eq_true hc)
 ·rename_i hl
  rw [if_neg hl] at hc
  split
  ·trivial
  ·rename_i hr
   have h5 := Poly.len_pos hr
   have hm := Poly.mod_len (p := p) hq0
   have h6 := chk_all hc (i := (p % q).len) (by omega) hm
   rw [Bool.and_eq_true] at h6
   have hC := Ch.init (p := p) hq0
   refine ⟨pw_of hq.pb.lead (of_decide_eq_true h6.1), resOK_fuel _ _ _ _ hr (Nat.le_refl _) (by omega) (chk_ok hp hq hs (p % q).len hC hq0 hr hq.monic (hC.size hr hp hq hs) hq.pb.lead ?_ h6.2)⟩
   exact (hp.mod hq hq0).pb.lead
theorem chk7 : ∀ a, a < 8 → ∀ b, b < 8 → chk0 29 a b = true := by decide +kernel
end Go.Proofs.YtacenhlcfeepgaaGreat
namespace Go.Proofs.YtacenhlcfeepgaaGreat
open Go Eng
theorem pot7 : ∀ a, a < 8 → ∀ b, b < 8 → (a - b + 2) * 3 ^ b ≤ 4374 := by decide +kernel
theorem eb7 {p q : Pol} (hp : CDB 29 p) (hq : CDB 29 q) (hpl : p.len ≤ 7) (hql : q.len ≤ 7) : EB 131220 (max 29 29 + 1) p q :=
 EB.init hp hq (by
  have := pot7 p.len (by omega) q.len (by omega)
  rw [Nat.mul_assoc]
  exact Nat.le_trans (Nat.mul_le_mul_left 30 this) (by decide))
theorem res_is {p q : Pol} (hp : CDB 29 p) (hq : CDB 29 q) (hpl : p.len ≤ 7) (hql : q.len ≤ 7) : ∃ x : Tr, FnP Tryz.prog tb F_qpoly_Resultant [encP p, encP q] x := by
 by_cases h : p = 0 ∨ q = 0
 ·exact ⟨_, qpoly_Resultant0 p q h⟩
 ·have hp0 : p ≠ 0 := fun e => h (.inl e)
  have hq0 : q ≠ 0 := fun e => h (.inr e)
  exact ⟨_, qpoly_Resultant p q hp0 hq0 (resOK_of hp0 hq0 hp hq (by omega) (chk7 _ (by omega) _ (by omega))) (eb7 hp hq hpl hql) (by decide) (by omega)⟩
theorem sqf_any {p : Pol} (hp : CDB 29 p) (hpl : p.len ≤ 7) : ∃ x : Tr, FnP Tryz.prog tb F_qpoly_Squarefree [encP p] x := by
 by_cases h : p = 0
 ·exact ⟨_, squarefree0 h⟩
 ·exact ⟨_, qpoly_Squarefree p h hp (by decide) (by omega)⟩
theorem prim_is {p : Pol} (hp : CDB 29 p) : ∃ x : Tr, FnP Tryz.prog tb F_qpoly_Primitive [encP p] x := by
 by_cases h : p = 0
 ·exact ⟨_, primitive0 h⟩
 ·exact ⟨_, qpoly_Primitive p h hp (by decide)⟩
theorem roots_any {p : Pol} (hp : CDB 29 p) (hpl : p.len ≤ 7) : ∃ x : Tr, FnP Tryz.prog tb F_qpoly_Roots [encP p] x := by
 by_cases h : p = 0
 ·exact ⟨_, roots0 h⟩
 ·obtain ⟨R, hR, _⟩ := roots_is h hp (by decide) (by omega)
  exact ⟨_, hR⟩
theorem stayAllT (l : List Rat) : FnP Tryz.prog tb F_ref02_StayAll [encQs l, encQs l] (.b true) := by
 have := ref02_StayAll l l
 rw [decide_eq_true rfl] at this; exact this
theorem staysT (p : Rat) : FnP Tryz.prog tb F_ref02_Stays [encQ p, encQ p] (.b true) := by
 have := ref02_Stays p p
 rw [decide_eq_true rfl] at this; exact this
theorem isP_F {l : List RQ} (hw : WR l) (hq : WQ l) (h : isP l = false) : FnP Tryz.prog tb F_ref03_Is [encRs l] (.b false) := by
 have := ref03_IsR l hw hq
 rw [h] at this; exact this
theorem isP_T {l : List RQ} (hw : WR l) (hq : WQ l) (h : isP l = true) : FnP Tryz.prog tb F_ref03_Is [encRs l] (.b true) := by
 have := ref03_IsR l hw hq
 rw [h] at this; exact this
theorem isR_F {x : RQ} (h1 : Words x.1.2) (h2 : Words x.2.2) (h : fewR x 2) (h3 : isR x = false) : FnP Tryz.prog tb F_ref02_Is [encR x] (.b false) := by
 have := ref02_Is x.1.1 x.2.1 x.1.2 x.2.2 h1 h2 (by have := h.1; omega) (by have := h.2; omega)
 rw [show isQ x.1.1 x.1.2 x.2.1 x.2.2 = false from h3] at this; exact this
theorem isR_T {x : RQ} (h1 : Words x.1.2) (h2 : Words x.2.2) (h : fewR x 2) (h3 : isR x = true) : FnP Tryz.prog tb F_ref02_Is [encR x] (.b true) := by
 have := ref02_Is x.1.1 x.2.1 x.1.2 x.2.2 h1 h2 (by have := h.1; omega) (by have := h.2; omega)
 rw [show isQ x.1.1 x.1.2 x.2.1 x.2.2 = true from h3] at this; exact this
theorem pb_few {p : Pol} (h : ∀ x ∈ p.c.map rawR, fewR x 2) : PB 2 p := ⟨fun i => by
 by_cases hi : i < p.c.length
 ·have h2 := h (rawR p.c[i]) (List.mem_map_of_mem (List.getElem_mem hi))
  rw [show p.co i = p.c[i] from cf_lt hi]
  exact ⟨h2.1, h2.2⟩
 ·rw [Poly.co_ge (by show p.c.length ≤ i; omega)]; exact Bq.zero.le (by decide)⟩
theorem encRs_flat {l : List RQ} : (l.map encR).all Tr.flat = true := by
 rw [List.all_map]
 exact List.all_eq_true.2 fun x _ => rfl
theorem law_Stays (p q : List RQ) (r : RQ) (n : Int) (hp : WR p) (hq : WR q) (hr1 : Words r.1.2) (hr2 : Words r.2.2) (hn : n < 9223372036854775808) (hpL : p.length ≤ 1048576) (hqL : q.length ≤ 1048576) : FnP Tryz.prog tb F_law03_QpolyStays [encRs p, encRs q, encR r, .i .i64 n] (.b true) := by
 obtain ⟨l, hl⟩ : ∃ l, l = r :: p ++ q := ⟨_, rfl⟩
 have hlL : l.length ≤ 2097153 := by rw [hl, List.length_append, List.length_cons]; omega
 have hlw : WR l := fun x hx => by
  rw [hl] at hx
  rcases List.mem_append.1 hx with h | h
  ·rcases List.mem_cons.1 h with h | h
   ·rw [h]; exact ⟨hr1, hr2⟩
   ·exact hp x h
  ·exact hq x h
 refine fn1 Tryz.func11 fun G hG hK hF => ?_
 refine wp_ll 0 rfl rfl fun hbp => ?_
 refine wp_ll 1 rfl rfl fun hbq => ?_
 rw [encRs_len] at hbp hbq
 have hmp : (p.map encR).length = p.length := List.length_map _
 have hmq : (q.map encR).length = q.length := List.length_map _
 refine sx 6 ?_
 refine on' (.buildSliceMR (ye := as1) (yg := by decide) (yj := by decide) (yk := by decide)) ?_
 refine om ?_
 refine oed (appendW rfl rfl rfl (by decide) (by decide) rfl rfl rfl rfl (by rfl) (.inl rfl) (by exact encRs_flat) (by (simp; omega))) ?_
 refine om ?_
 refine oed (.appendFR (yd := by decide) (ye := by decide) (yk := List.length_map _) (yl := .inl rfl) (ym := by exact encRs_flat) (yn := by (simp; omega))) ?_
 refine sx 7 ?_
 refine wp_l2 hK (krc 0 rfl (krc 1 rfl (krc 3 rfl (krc 6 rfl krn)))) (khc 0 rfl (khc 1 rfl khn)) (fun sl' h' (i : Nat) => ⟨(9, .t (encRs l)) :: (10, .t (.i .i64 (i))) :: sl', h', 3, 0⟩) (fun i => i ≤ l.length ∧ ∀ j x, j < i → l[j]? = some x → fewR x 2 ∧ isR x = true) (fun i => l.length - i) 0 ?_ (fun _ => rfl) ?_ ?_
 ·exact ⟨Nat.zero_le _, fun j x hj => by omega⟩
 ·exact imp_less (by repeat' (first | exact trivial | (refine And.intro (by first | rfl | exact getl rfl (by rw [hl]; simp [encRs])) ?_))) ga (by exact Nat.le_of_ble_eq_true rfl)
 ·rintro i ⟨hi, he⟩
  refine sx 7 ?_
  refine wp_c rfl (fun hc => ?_) (fun hc => ?_)
  ·have hci : i < l.length := by simpa using hc
   obtain ⟨x, hx⟩ : ∃ x, l[i]? = some x := ⟨_, List.getElem?_eq_getElem hci⟩
   have hxl := List.mem_of_getElem? hx
   obtain ⟨hx1, hx2⟩ := hlw x hxl
   refine sx 4 ?_
   rcases (show ¬ x.1.2.length ≤ 2 ∨ (x.1.2.length ≤ 2 ∧ ¬ x.2.2.length ≤ 2) ∨ (fewR x 2 ∧ isR x = false) ∨ (fewR x 2 ∧ isR x = true) by by_cases a : x.1.2.length ≤ 2; (by_cases b : x.2.2.length ≤ 2; (cases h : isR x; exact .inr (.inr (.inl ⟨⟨a, b⟩, rfl⟩)); exact .inr (.inr (.inr ⟨⟨a, b⟩, rfl⟩))); exact .inr (.inl ⟨a, b⟩)); exact .inl a) with h1 | ⟨h1, h2⟩ | ⟨⟨h1, h2⟩, h3⟩ | ⟨⟨h1, h2⟩, h3⟩
   ·refine sx 28 ?_
    refine wp_cT rfl (by rfl) ?_
    refine sx 10 ?_
    exact ⟨.inr rfl, rfl, (by (refine res_t rfl ?_); (rfl)), trivial⟩
   ·refine sx 28 ?_
    refine wp_cT rfl (by rfl) ?_
    refine sx 10 ?_
    exact ⟨.inr rfl, rfl, (by (refine res_t rfl ?_); (rfl)), trivial⟩
   ·refine sx 24 ?_
    refine gq (z := by (simp; omega)) (.callR (yb := as1) (yc := isR_F hx1 hx2 ⟨h1, h2⟩ h3)) ?_
    refine sx 3 ?_
    refine wp_cT rfl (by rfl) ?_
    refine sx 10 ?_
    exact ⟨.inr rfl, rfl, (by (refine res_t rfl ?_); (rfl)), trivial⟩
   ·refine sx 24 ?_
    refine gq (z := by (simp; omega)) (.callR (yb := as1) (yc := isR_T hx1 hx2 ⟨h1, h2⟩ h3)) ?_
    refine sx 3 ?_
    refine wp_cF rfl (by rfl) ?_
    refine sx 8 ?_
    exact round_n (i + 1) (by exact ⟨by omega, fun j y hj hy => by rcases Nat.eq_or_lt_of_le (Nat.le_of_lt_succ hj) with rfl | h; rw [hx] at hy; cases hy; exact ⟨⟨h1, h2⟩, h3⟩; exact he j y h hy⟩) (by omega) (by exact il)
  ·obtain rfl : i = l.length := by { have : ¬ i < l.length := by { simpa using hc }; omega }
   have hfl : ∀ x, x ∈ l → fewR x 2 ∧ isR x = true := fun r hr => by { obtain ⟨j, hj, rfl⟩ := List.mem_iff_getElem.1 hr; exact he j _ hj (List.getElem?_eq_getElem hj) }
   have hpm : ∀ x, x ∈ p → x ∈ l := fun x hx => by { rw [hl]; exact List.mem_append_left _ (List.mem_cons_of_mem _ hx) }
   have hqm : ∀ x, x ∈ q → x ∈ l := fun x hx => by { rw [hl]; exact List.mem_append_right _ hx }
   have hrm : r ∈ l := by { rw [hl]; exact List.mem_append_left _ (List.mem_cons_self ..) }
   have hpQ : WQ p := fun x hx => by { have := (hfl x (hpm x hx)).1; exact ⟨by have := this.1; omega, by have := this.2; omega⟩ }
   have hqQ : WQ q := fun x hx => by { have := (hfl x (hqm x hx)).1; exact ⟨by have := this.1; omega, by have := this.2; omega⟩ }
   refine sx 6 ?_
   rcases (show ¬ p.length ≤ 7 ∨ (p.length ≤ 7 ∧ ¬ q.length ≤ 7) ∨ (p.length ≤ 7 ∧ q.length ≤ 7 ∧ isP p = false) ∨ (p.length ≤ 7 ∧ q.length ≤ 7 ∧ isP p = true ∧ isP q = false) ∨ (p.length ≤ 7 ∧ q.length ≤ 7 ∧ isP p = true ∧ isP q = true ∧ n < 0) ∨ (p.length ≤ 7 ∧ q.length ≤ 7 ∧ isP p = true ∧ isP q = true ∧ ¬ n < 0 ∧ n > 4) ∨ (p.length ≤ 7 ∧ q.length ≤ 7 ∧ isP p = true ∧ isP q = true ∧ ¬ n < 0 ∧ ¬ n > 4) by by_cases a : p.length ≤ 7 <;> by_cases b : q.length ≤ 7 <;> cases isP p <;> cases isP q <;> by_cases c : n < 0 <;> by_cases d : n > 4 <;> simp [a, b, c, d]) with g1 | ⟨g1, g2⟩ | ⟨g1, g2, g3⟩ | ⟨g1, g2, g3, g4⟩ | ⟨g1, g2, g3, g4, g5⟩ | ⟨g1, g2, g3, g4, g5, g6⟩ | ⟨g1, g2, g3, g4, g5, g6⟩
   ·refine sx 28 ?_
    refine wp_cT rfl (by rfl) ?_
    refine sx 6 ?_
    exact ⟨.inr rfl, rfl, (by (refine res_t rfl ?_); (rfl)), trivial⟩
   ·refine sx 28 ?_
    refine wp_cT rfl (by rfl) ?_
    refine sx 6 ?_
    exact ⟨.inr rfl, rfl, (by (refine res_t rfl ?_); (rfl)), trivial⟩
   ·refine sx 11 ?_
    refine gq (z := by (simp; omega)) (.callR (yb := as1) (yc := isP_F hp hpQ g3)) ?_
    refine sx 16 ?_
    refine wp_cT rfl (by rfl) ?_
    refine sx 6 ?_
    exact ⟨.inr rfl, rfl, (by (refine res_t rfl ?_); (rfl)), trivial⟩
   ·refine sx 11 ?_
    refine gq (z := by (simp; omega)) (.callR (yb := as1) (yc := isP_T hp hpQ g3)) ?_
    refine sx 4 ?_
    refine gq (.callR (yb := as1) (yc := isP_F hq hqQ g4)) ?_
    refine sx 11 ?_
    refine wp_cT rfl (by rfl) ?_
    refine sx 6 ?_
    exact ⟨.inr rfl, rfl, (by (refine res_t rfl ?_); (rfl)), trivial⟩
   ·refine sx 11 ?_
    refine gq (z := by (simp; omega)) (.callR (yb := as1) (yc := isP_T hp hpQ g3)) ?_
    refine sx 4 ?_
    refine gq (.callR (yb := as1) (yc := isP_T hq hqQ g4)) ?_
    refine sx 11 ?_
    refine wp_cT rfl (by rfl) ?_
    refine sx 6 ?_
    exact ⟨.inr rfl, rfl, (by (refine res_t rfl ?_); (rfl)), trivial⟩
   ·refine sx 11 ?_
    refine gq (z := by (simp; omega)) (.callR (yb := as1) (yc := isP_T hp hpQ g3)) ?_
    refine sx 4 ?_
    refine gq (.callR (yb := as1) (yc := isP_T hq hqQ g4)) ?_
    refine sx 11 ?_
    refine wp_cT rfl (by (simp; omega)) ?_
    refine sx 6 ?_
    exact ⟨.inr rfl, rfl, (by (refine res_t rfl ?_); (rfl)), trivial⟩
   ·refine sx 11 ?_
    refine gq (z := by (simp; omega)) (.callR (yb := as1) (yc := isP_T hp hpQ g3)) ?_
    refine sx 4 ?_
    refine gq (.callR (yb := as1) (yc := isP_T hq hqQ g4)) ?_
    refine sx 11 ?_
    refine wp_cF rfl (by (simp; omega)) ?_
    refine sx 2 ?_
    clear hl
    obtain ⟨p, rfl⟩ := isP_enc hp g3
    obtain ⟨q, rfl⟩ := isP_enc hq g4
    obtain ⟨a, _, rfl⟩ := isR_enc hr1 hr2 (hfl _ hrm).2
    rw [encRs_raw, encRs_raw, encR_raw]
    rw [List.length_map] at g1 g2
    have hpB : PB 2 p := pb_few fun x hx => (hfl x (hpm x hx)).1
    have hqB : PB 2 q := pb_few fun x hx => (hfl x (hqm x hx)).1
    have haB : Bq 2 a := ⟨(hfl _ hrm).1.1, (hfl _ hrm).1.2⟩
    have hpl : p.len ≤ 7 := g1
    have hql : q.len ≤ 7 := g2
    have hpC : CDB 29 p := hpB.cdb.le (by omega)
    have hqC : CDB 29 q := hqB.cdb.le (by omega)
    have hpq : p.len * q.len + 1 ≤ 50 := by { have := Nat.mul_le_mul hpl hql; omega }
    have hcs : 1 + 50 * (p.len * (29 + 2 + 50 + 2) + 2 * 29 + 2) ≤ 274877906944 := by omega
    obtain ⟨xr, hxr⟩ := res_is hpC hqC hpl hql
    obtain ⟨xs, hxs⟩ := sqf_any hpC hpl
    obtain ⟨xp, hxp⟩ := prim_is hpC
    obtain ⟨xo, hxo⟩ := roots_any hpC hpl
    refine sx 2 ?_
    refine dq (.callR (yb := as1) (yc := ref02_CloneAll p.c)) ?_
    refine sx 1 ?_
    refine dq (.callR (yb := as1) (yc := ref02_CloneAll q.c)) ?_
    refine sx 1 ?_
    refine dq (.callR (yb := as1) (yc := ref02_Clone a)) ?_
    refine sx 7 ?_
    refine oq (.callR (yb := as1) (yc := qpoly_IsP p (pc_bq (hpB.le (by decide))))) ?_
    refine sx 11 ?_
    refine oq (.callR (yb := as1) (yc := qpoly_Const a)) ?_
    refine sx 4 ?_
    refine oq (.callR (yb := asc (.inl rfl) as1) (yc := qpoly_Add p q (hpB.le (by decide)) (hqB.le (by decide)))) ?_
    refine sx 4 ?_
    refine oq (.callR (yb := asc (.inl rfl) as1) (yc := qpoly_Sub p q (hpB.le (by decide)) (hqB.le (by decide)))) ?_
    refine sx 4 ?_
    refine oq (.callR (yb := asc (.inl rfl) as1) (yc := qpoly_Mul p q hpB hqB (by omega) (by omega))) ?_
    refine sx 4 ?_
    refine oq (.callR (yb := asc (.inl rfl) as1) (yc := qpoly_Scale p a (hpB.le (by decide)) (haB.le (by decide)))) ?_
    refine sx 9 ?_
    refine oq (.callR (yb := asc (.inl rfl) as1) (yc := qpoly_DivR p q hpC hqC (by decide) (by decide) (by omega))) ?_
    refine sx 3 ?_
    refine oq (.callR (yb := as1) (yc := qpoly_Monic p (hpB.le (by decide)))) ?_
    refine sx 4 ?_
    refine oq (.callR (yb := asc (.inl rfl) as1) (yc := qpoly_Gcd p q (eb7 hpC.monic hqC.monic (by rw [Poly.monic_len]; exact hpl) (by rw [Poly.monic_len]; exact hql)) (by decide) (hpB.le (by decide)) (hqB.le (by decide)))) ?_
    refine sx 4 ?_
    refine oq (.callR (yb := asc (.inl rfl) as1) (yc := qpoly_Bezout p q (L := 19) (hpB.le (by decide)) (fun _ => eb7 hpC hqC hpl hql) (by decide) (by omega) (by decide))) ?_
    refine sx 4 ?_
    refine oq (.callR (yb := asc (.inl rfl) as1) (yc := qpoly_Eval p a hpB haB (by omega))) ?_
    refine sx 4 ?_
    refine oq (.callR (yb := asc (.inl rfl) as1) (yc := qpoly_Compose p q (comp_fit hpl hql) hpB hqC hpq hcs)) ?_
    refine sx 3 ?_
    refine oq (.callR (yb := as1) (yc := qpoly_Deriv p (hpB.le (by decide)))) ?_
    refine sx 3 ?_
    refine oq (.callR (yb := as1) (yc := qpoly_Integral p (by omega) (hpB.le (by decide)))) ?_
    refine sx 4 ?_
    refine oq (.callR (yb := asc (.inl rfl) as1) (yc := hxr)) ?_
    refine sx 3 ?_
    refine oq (.callR (yb := as1) (yc := hxs)) ?_
    refine sx 3 ?_
    refine oq (.callR (yb := as1) (yc := hxp)) ?_
    refine sx 3 ?_
    refine oq (.callR (yb := as1) (yc := hxo)) ?_
    refine sx 6 ?_
    refine gq (.callR (yb := asc (.inl rfl) as1) (yc := stayAllT p.c)) ?_
    refine sx 4 ?_
    refine gq (.callR (yb := asc (.inl rfl) as1) (yc := stayAllT q.c)) ?_
    refine sx 4 ?_
    refine gq (.callR (yb := asc (.inl rfl) as1) (yc := staysT a)) ?_
    refine sx 4 ?_
    exact ⟨.inr rfl, rfl, (by (refine res_t rfl ?_); (rfl)), trivial⟩
end Go.Proofs.YtacenhlcfeepgaaGreat
