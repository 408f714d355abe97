/- The law is true whatever its arguments are, and these read behind the call as they read before (the row, part 4 of 9: our program logic, contracts of the functions, the law). No conditions. -/
import Derived.Test.YtacenhlcfeepgaaGreatA3
import Derived.Laws.Externs
set_option linter.unusedVariables false
set_option linter.unusedSimpArgs false
set_option linter.unusedSectionVars false
set_option maxHeartbeats 4000000
set_option maxRecDepth 100000
namespace Go.Proofs.YtacenhlcfeepgaaGreat
open Go Eng
def sub64E : Array Value → Sem Value := fun args => do
 let (x, y, b) ← Extern.MathBitsCarry.three "Sub64" args
 pure (Extern.MathBitsCarry.pair ((x + Extern.MathBitsCarry.m64 - y - b) % Extern.MathBitsCarry.m64) (if x < y + b then 1 else 0))
theorem run_sub64E {P : Program} (x y b : Nat) (hb : b ≤ 1) (w : World) :
  (sub64E #[.int .u64 x, .int .u64 y, .int .u64 b]).run P w =
   .ok (.tuple #[.int .u64 (((x + 18446744073709551616 - y - b) % 18446744073709551616 : Nat) : Int), .int .u64 ((if x < y + b then 1 else 0 : Nat) : Int)]) w := by
 have : b = 0 ∨ b = 1 := by omega
 rcases this with rfl | rfl <;> rfl
theorem bits_Sub64 (x y b : Nat) (hb : b ≤ 1) : FnP Tryz.prog tb F_bits_Sub64 [.i .u64 x, .i .u64 y, .i .u64 b] (.tu [.i .u64 ((x + 18446744073709551616 - y - b) % 18446744073709551616 : Nat), .i .u64 (if x < y + b then 1 else 0 : Nat)]) := by
 intro w S vs N hrep hS hN
 have hvs : vs = #[.int .u64 x, .int .u64 y, .int .u64 b] := by
  apply Array.toList_inj.1
  generalize vs.toList = l at hrep
  cases hrep with | cons v1 t1 l1 u1 h1 h2 =>
  cases h2 with | cons v2 t2 l2 u2 h3 h4 =>
  cases h4 with | cons v3 t3 l3 u3 h5 h6 =>
  cases h6
  cases h1; cases h3; cases h5; rfl
 subst hvs
 have hrun : (callFunc F_bits_Sub64 #[.int .u64 x, .int .u64 y, .int .u64 b]).run Tryz.prog w = .ok (.value (.tuple #[.int .u64 (((x + 18446744073709551616 - y - b) % 18446744073709551616 : Nat) : Int), .int .u64 ((if x < y + b then 1 else 0 : Nat) : Int)])) w := by
  rw [run_callFunc_extern Tryz.func201 (by kernel_rfl) (by kernel_rfl) (by kernel_rfl) (e := sub64E) (by kernel_rfl), run_sub64E x y b hb]
  rfl
 rw [hrun]
 exact hN _ w S (.tu [_, _] [_, _] (.cons _ _ _ _ (.i _ _) (.cons _ _ _ _ (.i _ _) .nil))) (Fr.refl _ _) (Gr.refl hS (Nat.le_refl _))
theorem and32 {p : Nat} (hp : p < 18446744073709551616) : bitsTr .and .u64 (p : Int) 4294967295 = some ((p % 4294967296 : Nat) : Int) := by
 show some (IntKind.u64.wrap (((BitVec.ofInt 64 (p : Int) &&& BitVec.ofInt 64 ((4294967295 : Nat) : Int) : BitVec 64).toNat : Nat) : Int)) = _
 rw [ofInt_nat, ofInt_nat, BitVec.toNat_and, BitVec.toNat_ofNat, BitVec.toNat_ofNat, Nat.mod_eq_of_lt hp, Nat.mod_eq_of_lt (by decide)]
 have : p &&& 4294967295 = p % 4294967296 := Nat.and_two_pow_sub_one_eq_mod p 32
 rw [this]
 exact congrArg some (w64n (by omega))
theorem zeros_of_lt {ws : List Nat} {m : Nat} (hw : Words ws) (h : val ws < 4294967296 ^ m) : ∀ k, m ≤ k → ws.getD k 0 = 0 := by
 induction ws generalizing m with
 | nil => intro k _; simp
 | cons w ws ih =>
  intro k hk
  have hz : ∀ n, val ws < 4294967296 ^ n → ∀ k, n ≤ k → ws.getD k 0 = 0 := fun n hn => ih hw.tail hn
  simp only [val] at h
  cases m with
  | zero =>
   have hv : val ws < 4294967296 ^ 0 := by simp at h ⊢; omega
   cases k with
   | zero => simp at h ⊢; omega
   | succ k => simpa using hz 0 hv k (by omega)
  | succ m =>
   have hv : val ws < 4294967296 ^ m := by
    rw [Nat.pow_succ] at h
    generalize 4294967296 ^ m = P at *
    omega
   cases k with
   | zero => omega
   | succ k => simpa using hz m hv k (by omega)
theorem lt_of_zeros {ws : List Nat} {m : Nat} (hw : Words ws) (h : ∀ k, m ≤ k → ws.getD k 0 = 0) : val ws < 4294967296 ^ m := by
 have e : val (ws.take m) = val ws := by rw [← trimW_val, trimW_take h, trimW_val]
 rw [← e]
 refine Nat.lt_of_lt_of_le (val_lt (hw.take m)) (Nat.pow_le_pow_right (by decide) (by simp; omega))
theorem sub_word {x y b : Nat} (hx : x < 4294967296) (hy : y < 4294967296) (hb : b ≤ 1) :
  (x + 18446744073709551616 - y - b) % 18446744073709551616 % 4294967296 + y + b = x + 4294967296 * (if x < y + b then 1 else 0) := by
 split <;> omega
theorem take_step {P v v' o o' y b e c cy q w Bi Bj V R : Nat} (h1 : v' + P * o = v + P * o') (h2 : o' + y + b = o + 4294967296 * e) (h3 : y + 4294967296 * c = q * w + cy) (hP : P = Bi * Bj) (hi : v + Bi * (q * V) = R + P * (cy + b)) :
  v' + Bi * (q * (V + Bj * w)) = R + P * 4294967296 * (c + e) := by
 grind
theorem take_last {P v v' o o' y b e Q R : Nat} (h1 : v' + P * o = v + P * o') (h2 : o' + y + b = o + 4294967296 * e) (hi : v + Q = R + P * (y + b)) : v' + Q = R + P * 4294967296 * e := by
 grind
theorem add_step {P v v' o o' w c c' Bi Bj V R : Nat} (h1 : v' + P * o = v + P * o') (h2 : o' + 4294967296 * c' = o + w + c) (hP : P = Bi * Bj) (hi : v + P * c = R + Bi * V) : v' + P * 4294967296 * c' = R + Bi * (V + Bj * w) := by
 grind
def takeN (R V q i : Nat) : Nat := if 4294967296 ^ i * (q * V) ≤ R then R - 4294967296 ^ i * (q * V) else R + 4294967296 ^ i * V - 4294967296 ^ i * (q * V)
theorem take_fin {v4 ov M R Q W v2 : Nat} (h3 : v2 + Q = R + M) (h5 : v4 + M * ov = v2 + W) (h4 : v4 < M) (hov : ov ≤ 1) (hle : Q ≤ R + W) : v4 = R + W - Q := by
 rcases (show ov = 0 ∨ ov = 1 by omega) with rfl | rfl <;> omega
theorem pw {i j : Nat} : 4294967296 ^ i * 4294967296 ^ (j + 1) = 4294967296 ^ (i + j) * 4294967296 := by rw [Nat.pow_succ, Nat.pow_add, Nat.mul_assoc]
theorem num_take (rest b : List Nat) (hr : Words rest) (hb : Words b) (i q : Nat) (hq : q < 4294967296) (hi : i + b.length < rest.length) (hR : val rest < 4294967296 ^ (i + b.length + 1)) (hle : 4294967296 ^ i * (q * val b) ≤ val rest + 4294967296 ^ i * val b) :
  FnH Tryz.prog tb F_num_take [.own T_uint32 0 0 rest.length, .t (.sl T_uint32 (wds b)), .t (.i .i64 i), .t (.i .u64 q)] [.arr T_uint32 ((wds rest).map .t)] (.t (.b (decide (4294967296 ^ i * (q * val b) ≤ val rest)))) [(0, some (.arr T_uint32 ((wds (padW rest.length (takeN (val rest) (val b) q i))).map .t)))] 1 := by
 have hz := zeros_of_lt hr hR
 refine fnH_of tbOk Tryz.func186 rfl rfl (Nat.le_of_ble_eq_true rfl) fun G hG hK => ?_
 have hF : Wd Fence.wide := .inl rfl
 refine wp_boundO 0 rfl fun hbd => ?_
 have hbd : rest.length * 4 ≤ 140737488355328 := hbd
 refine sx 14 ?_
 refine wp_l hK (fun ((j, out, c, e) : Nat × List Nat × Nat × Nat) => ⟨[(0, .own T_uint32 0 0 rest.length), (1, .t (.sl T_uint32 (wds b))), (2, .t (.i .i64 i)), (3, .t (.i .u64 q)), (9, .t (.i .u64 e)), (10, .t (.i .u64 c)), (20, .t (.sl T_uint32 (wds b))), (21, .t (.i .i64 b.length)), (22, .t (.i .i64 j))], [(0, some (.arr T_uint32 ((wds out).map .t)))], 1, 0⟩) (fun (j, out, c, e) => j ≤ b.length ∧ out.length = rest.length ∧ Words out ∧ c < 4294967296 ∧ e ≤ 1 ∧ (∀ k, i + b.length + 1 ≤ k → out.getD k 0 = 0) ∧ val out + 4294967296 ^ i * (q * val (b.take j)) = val rest + (4294967296 ^ i * 4294967296 ^ j) * (c + e)) (fun (j, _) => b.length - j) (0, rest, 0, 0) ?_ (fun _ => rfl) ?_ ?_
 ·exact ⟨Nat.zero_le _, rfl, hr, by decide, by decide, hz, by simp [val]⟩
 ·exact il
 ·rintro ⟨j, out, c, e⟩ ⟨hj, hlen, hwo, hc32, he, hzo, hv⟩
  refine sx 4 ?_
  refine wp_c rfl (fun hc => ?_) (fun hc => ?_)
  ·have hcj : j < b.length := by simp at hc; omega
   have hw := hb.getD j
   have ho := hwo.getD (i + j)
   have hqw := mul_fit1 hq hw
   refine wp_k ?_
   refine then_n ?_
   refine wp_s ?_
   refine wp_b ?_
   refine rr ?_
   refine om ?_
   refine oq (.indexAddrR (yf := by omega) (yg := by exact wds_at2 j (by omega) (by omega))) ?_
   refine oq .loadR ?_
   refine oa ?_
   refine oa ?_
   refine wo_nil ?_
   refine rr ?_
   refine om ?_
   refine om ?_
   refine oq (.convR (yf := by exact wrap_u64 (by omega))) ?_
   refine oq (.arithR (yd := by exact (wrap_u64 (by omega)).trans (rfl : _ = ((q * b.getD j 0 : Nat) : Int)))) ?_
   refine om ?_
   refine oq (.arithR (yd := by exact (wrap_u64 (by omega)).trans (rfl : _ = ((q * b.getD j 0 + c : Nat) : Int)))) ?_
   refine sx 4 ?_
   refine oq (.shrR (yc := by omega) (yd := by exact (shr32.trans (rfl : _ = (((q * b.getD j 0 + c) / 4294967296 : Nat) : Int))))) ?_
   refine oa ?_
   refine wo_nil ?_
   refine rr ?_
   refine om ?_
   refine om ?_
   refine om ?_
   refine oq (.arithR (yd := by exact wrap_i64 (by omega))) ?_
   refine oq (.indexAddrOR (yf := by omega) (yg := by omega)) ?_
   refine oq (.loadPR (yd := by (exact wds_own2 (i + j) (by omega) (by omega)))) ?_
   refine oq (.convR (yf := by exact wrap_u64 (by omega))) ?_
   refine om ?_
   refine oq (.bitsR (yc := and32 (by omega))) ?_
   refine om ?_
   refine oq (.callR (yb := asc (.inl rfl) as2) (yc := bits_Sub64 (out.getD (i + j) 0) ((q * b.getD j 0 + c) % 4294967296) e he)) ?_
   refine sx 26 ?_
   have h1 := val_set (w := (out.getD (i + j) 0 + 18446744073709551616 - (q * b.getD j 0 + c) % 4294967296 - e) % 18446744073709551616 % 4294967296) (show i + j < out.length by omega)
   have h2 := sub_word ho (Nat.mod_lt (q * b.getD j 0 + c) (show 0 < 4294967296 by decide)) he
   have h3 := take_step (q := q) (w := b.getD j 0) (cy := c) (c := (q * b.getD j 0 + c) / 4294967296) h1 h2 (Nat.mod_add_div _ _) (Nat.pow_add _ i j) (by rw [Nat.pow_add]; exact hv)
   exact round_n (j + 1, out.set (i + j) ((out.getD (i + j) 0 + 18446744073709551616 - (q * b.getD j 0 + c) % 4294967296 - e) % 18446744073709551616 % 4294967296), (q * b.getD j 0 + c) / 4294967296, if out.getD (i + j) 0 < (q * b.getD j 0 + c) % 4294967296 + e then 1 else 0) (by refine ⟨hcj, by simp [hlen], hwo.set (Nat.mod_lt _ (by decide)) _, by omega, by split <;> omega, fun k hk => by rw [getD_set_ne (by omega)]; exact hzo k hk, ?_⟩; rw [val_take_succ hcj, h3, pw]) (by (simp only; omega)) (by exact imp_less ga (by repeat' (first | exact trivial | (refine And.intro (by exact geth rfl (wds_upd2 (i + j) (by omega) rfl)) ?_))) (by exact Nat.le_of_ble_eq_true rfl))
  ·obtain rfl : j = b.length := by simp at hc; omega
   have ho := hwo.getD (i + b.length)
   refine sx 16 ?_
   refine oq (.callR (yb := asc (.inl rfl) as2) (yc := bits_Sub64 (out.getD (i + b.length) 0) c e he)) ?_
   refine sx 17 ?_
   rw [List.take_length] at hv
   have h1 := val_set (w := (out.getD (i + b.length) 0 + 18446744073709551616 - c - e) % 18446744073709551616 % 4294967296) (show i + b.length < out.length by omega)
   have h2 := sub_word ho hc32 he
   have h3 := take_last (Q := 4294967296 ^ i * (q * val b)) h1 h2 (by rw [hv, Nat.pow_add])
   have hw2 := hwo.set (w := (out.getD (i + b.length) 0 + 18446744073709551616 - c - e) % 18446744073709551616 % 4294967296) (Nat.mod_lt _ (by decide)) (i + b.length)
   have hl2 : (out.set (i + b.length) ((out.getD (i + b.length) 0 + 18446744073709551616 - c - e) % 18446744073709551616 % 4294967296)).length = rest.length := by simp [hlen]
   have hz2 : ∀ k, i + b.length + 1 ≤ k → (out.set (i + b.length) ((out.getD (i + b.length) 0 + 18446744073709551616 - c - e) % 18446744073709551616 % 4294967296)).getD k 0 = 0 := fun k hk => by rw [getD_set_ne (by omega)]; exact hzo k hk
   obtain ⟨o2, ho2⟩ : ∃ o2, out.set (i + b.length) ((out.getD (i + b.length) 0 + 18446744073709551616 - c - e) % 18446744073709551616 % 4294967296) = o2 := ⟨_, rfl⟩
   obtain ⟨e2, he2⟩ : ∃ e2, (if out.getD (i + b.length) 0 < c + e then 1 else 0) = e2 := ⟨_, rfl⟩
   rw [ho2] at h3 hw2 hl2 hz2
   rw [he2] at h3
   have hlt2 := lt_of_zeros hw2 hz2
   rw [Nat.pow_succ] at hlt2
   have he21 : e2 = 0 ∨ e2 = 1 := by rw [← he2]; split <;> simp
   refine wp_imp hK (s' := ⟨[(0, .own T_uint32 0 0 rest.length), (1, .t (.sl T_uint32 (wds b))), (2, .t (.i .i64 i)), (9, .t (.i .u64 (e2 : Nat)))], [(0, some (.arr T_uint32 ((wds o2).map .t)))], 1, 0⟩) (by exact imp_less (by repeat' (first | exact trivial | (refine And.intro (by first | rfl | exact geti rfl (by omega)) ?_))) (by repeat' (first | exact trivial | (refine And.intro (by exact geth rfl (wds_upd2 (i + b.length) (by omega) ho2)) ?_))) (by exact Nat.le_of_ble_eq_true rfl)) ?_
   refine sx 5 ?_
   refine wp_c rfl (fun hc => ?_) (fun hc => ?_)
   ·obtain rfl : e2 = 0 := by simp at hc; omega
    rw [Nat.mul_zero, Nat.add_zero] at h3
    have hQ : 4294967296 ^ i * (q * val b) ≤ val rest := by omega
    refine sx 5 ?_
    exact ⟨.inr rfl, rfl, _, Imp.refl _ _, Nat.le_of_ble_eq_true rfl, Nat.le_of_ble_eq_true rfl, (by repeat' (first | exact trivial | (refine And.intro (by exact geth rfl (by rw [padW_eq hw2 hl2 (show val o2 = takeN (val rest) (val b) q i by rw [takeN, if_pos hQ]; omega)])) ?_))), (by (refine .inl ⟨[_], rfl, ?_, trivial⟩; refine res_t rfl ?_; (exact trb (decide_eq_true hQ).symm)))⟩
   ·obtain rfl : e2 = 1 := by simp at hc; omega
    rw [Nat.mul_one] at h3
    have hQ : ¬ 4294967296 ^ i * (q * val b) ≤ val rest := by omega
    refine sx 12 ?_
    refine wp_l hK (fun ((j, o3, k) : Nat × List Nat × Nat) => ⟨[(0, .own T_uint32 0 0 rest.length), (1, .t (.sl T_uint32 (wds b))), (2, .t (.i .i64 i)), (17, .t (.i .u32 k)), (82, .t (.sl T_uint32 (wds b))), (83, .t (.i .i64 b.length)), (84, .t (.i .i64 j))], [(0, some (.arr T_uint32 ((wds o3).map .t)))], 1, 0⟩) (fun (j, o3, k) => j ≤ b.length ∧ o3.length = rest.length ∧ Words o3 ∧ k ≤ 1 ∧ (∀ k, i + b.length + 1 ≤ k → o3.getD k 0 = 0) ∧ val o3 + (4294967296 ^ i * 4294967296 ^ j) * k = val o2 + 4294967296 ^ i * val (b.take j)) (fun (j, _) => b.length - j) (0, o2, 0) ?_ (fun _ => rfl) ?_ ?_
    ·exact ⟨Nat.zero_le _, hl2, hw2, by decide, hz2, by simp [val]⟩
    ·exact il
    ·rintro ⟨j, o3, k⟩ ⟨hj, hl3, hw3, hk1, hz3, hv3⟩
     refine sx 4 ?_
     refine wp_c rfl (fun hc => ?_) (fun hc => ?_)
     ·have hcj : j < b.length := by simp at hc; omega
      have hwj := hb.getD j
      have ho3 := hw3.getD (i + j)
      refine sx 24 ?_
      refine oq (.callR (yb := asc (.inl rfl) as2) (yc := bits_Add32 (o3.getD (i + j) 0) (b.getD j 0) k ho3 hwj (by omega))) ?_
      refine sx 13 ?_
      have g1 := val_set (w := (o3.getD (i + j) 0 + b.getD j 0 + k) % 4294967296) (show i + j < o3.length by omega)
      have g3 := add_step (w := b.getD j 0) (c := k) (c' := (o3.getD (i + j) 0 + b.getD j 0 + k) / 4294967296) g1 (Nat.mod_add_div _ _) (Nat.pow_add _ i j) (by rw [Nat.pow_add]; exact hv3)
      exact round_n (j + 1, o3.set (i + j) ((o3.getD (i + j) 0 + b.getD j 0 + k) % 4294967296), (o3.getD (i + j) 0 + b.getD j 0 + k) / 4294967296) (by refine ⟨hcj, by simp [hl3], hw3.set (Nat.mod_lt _ (by decide)) _, by omega, fun k hk => by rw [getD_set_ne (by omega)]; exact hz3 k hk, ?_⟩; rw [val_take_succ hcj, ← g3, pw]) (by (simp only; omega)) (by exact imp_less ga (by repeat' (first | exact trivial | (refine And.intro (by exact geth rfl (wds_upd2 (i + j) (by omega) rfl)) ?_))) (by exact Nat.le_of_ble_eq_true rfl))
     ·obtain rfl : j = b.length := by simp at hc; omega
      have ho3 := hw3.getD (i + b.length)
      refine sx 14 ?_
      refine oq (.arithR (yd := by exact (wrap_u32_mod.trans (rfl : _ = (((o3.getD (i + b.length) 0 + k) % 4294967296 : Nat) : Int))))) ?_
      refine sx 3 ?_
      rw [List.take_length] at hv3
      have g1 := val_set (w := (o3.getD (i + b.length) 0 + k) % 4294967296) (show i + b.length < o3.length by omega)
      have g3 := add_step (w := 0) (c := k) (c' := (o3.getD (i + b.length) 0 + k) / 4294967296) g1 (by rw [Nat.add_zero]; exact Nat.mod_add_div _ _) (Nat.pow_add _ i b.length) (by rw [Nat.pow_add]; exact hv3)
      rw [Nat.mul_zero, Nat.add_zero] at g3
      have hw4 := hw3.set (w := (o3.getD (i + b.length) 0 + k) % 4294967296) (Nat.mod_lt _ (by decide)) (i + b.length)
      have hlt4 := lt_of_zeros (m := i + b.length + 1) hw4 (fun k hk => by rw [getD_set_ne (by omega)]; exact hz3 k hk)
      rw [Nat.pow_succ] at hlt4
      have hfin := take_fin h3 g3 hlt4 (by omega) hle
      refine sx 4 ?_
      exact ⟨.inr rfl, rfl, _, Imp.refl _ _, Nat.le_of_ble_eq_true rfl, Nat.le_of_ble_eq_true rfl, (by repeat' (first | exact trivial | (refine And.intro (by exact geth rfl (by rw [wds_upd2 (i + b.length) (by omega) rfl, padW_eq (n := rest.length) hw4 (by simp [hl3]) (hfin.trans (show _ = takeN (val rest) (val b) q i by rw [takeN, if_neg hQ]))])) ?_))), (by (refine .inl ⟨[_], rfl, ?_, trivial⟩; refine res_t rfl ?_; (exact trb (decide_eq_false hQ).symm)))⟩
theorem padW_take : ∀ (n k v : Nat), k ≤ n → (padW n v).take k = padW k v
 | n, 0, v, _ => by simp [padW]
 | n + 1, k + 1, v, h => by simp [padW, padW_take n k _ (by omega)]
 | 0, k + 1, v, h => by omega
theorem padW_getD : ∀ (n i v : Nat), i < n → (padW n v).getD i 0 = v / 4294967296 ^ i % 4294967296
 | n + 1, 0, v, _ => by simp [padW]
 | n + 1, i + 1, v, h => by
  rw [padW, List.getD_cons_succ, padW_getD n i _ (by omega), Nat.div_div_eq_div_mul, Nat.pow_succ, Nat.mul_comm 4294967296]
 | 0, i, v, h => by omega
theorem padW_set {n i v w : Nat} (hi : i < n) (hv : v < 4294967296 ^ n) (hw : w < 4294967296) (h0 : v / 4294967296 ^ i % 4294967296 = 0) : (padW n v).set i w = padW n (v + 4294967296 ^ i * w) := by
 refine padW_eq ((padW_words n v).set hw i) (by simp [padW_len]) ?_
 have := val_set (ws := padW n v) (k := i) (w := w) (by rw [padW_len]; exact hi)
 rw [padW_getD n i v hi, h0, val_padW n v hv] at this
 omega
theorem shift_fits {n : Nat} (hn : n ≠ 0) {s : Nat} (hs : s = 32 - bl ((digits n).getD ((digits n).length - 1) 0)) : n * 2 ^ s < 4294967296 ^ (digits n).length := by
 have hne : digits n ≠ [] := fun e => hn (digits_nil.1 e)
 have hl : 0 < (digits n).length := List.length_pos_iff.2 hne
 obtain ⟨k, hk⟩ : ∃ k, (digits n).length = k + 1 := ⟨(digits n).length - 1, by omega⟩
 have htop := getD_digits_last hne
 rw [hk, Nat.add_sub_cancel] at htop hs
 have hlt := bl_lt ((digits n).getD k 0)
 have h32 := bl32 ((digits_words n).getD k)
 have hv : n = val ((digits n).take k) + 4294967296 ^ k * (digits n).getD k 0 := by
  have := val_take_succ (ws := digits n) (j := k) (by omega)
  rw [← hk, List.take_length, val_digits] at this
  exact this
 have hlow := val_lt ((digits_words n).take k)
 have hlen : ((digits n).take k).length = k := by simp; omega
 rw [hlen] at hlow
 generalize val ((digits n).take k) = L at *
 generalize (digits n).getD k 0 = t at *
 rw [hk, Nat.pow_succ]
 have h2 : 2 ^ bl t * 2 ^ s = 4294967296 := by rw [hs]; exact two32 h32
 have h3 : n + 1 ≤ 4294967296 ^ k * 2 ^ bl t := by
  have : 4294967296 ^ k * (t + 1) ≤ 4294967296 ^ k * 2 ^ bl t := Nat.mul_le_mul_left _ hlt
  rw [Nat.mul_add] at this
  omega
 have h4 : (n + 1) * 2 ^ s ≤ 4294967296 ^ k * 2 ^ bl t * 2 ^ s := Nat.mul_le_mul_right _ h3
 rw [Nat.mul_assoc, h2] at h4
 have h5 : 0 < 2 ^ s := Nat.two_pow_pos s
 rw [Nat.add_mul] at h4
 omega
theorem top_ge {V f P R : Nat} (hf : V / P = f) (hP : 0 < P) : V < (f + 1) * P := by
 subst hf
 have h1 := Nat.div_add_mod V P
 have h2 := Nat.mod_lt V hP
 rw [Nat.add_mul, Nat.mul_comm (V / P)]
 omega
theorem guess_near {U V V2 P Q3 w q B B1 : Nat} (hB : B = B1 + 1) (hP : 0 < P) (hV2 : V / P = V2) (hV20 : 0 < V2) (hQ : Q3 = U / P / V2) (hw : w = min Q3 B1) (hq : q = U / V) (hqB : q < B) (hBV : B ≤ V2) : q ≤ w ∧ w ≤ q + 1 := by
 have hVP : V2 * P ≤ V := by rw [← hV2]; exact Nat.div_mul_le_self V P
 have hV0 : 0 < V := Nat.lt_of_lt_of_le (Nat.mul_pos hV20 hP) hVP
 have h1 : q ≤ Q3 := by
  rw [hQ, hq, Nat.div_div_eq_div_mul]
  refine (Nat.le_div_iff_mul_le (Nat.mul_pos hP hV20)).2 ?_
  have : U / V * (P * V2) ≤ U / V * V := Nat.mul_le_mul_left _ (by rw [Nat.mul_comm]; exact hVP)
  exact Nat.le_trans this (Nat.div_mul_le_self U V)
 refine ⟨by omega, ?_⟩
 -- w V ≤ U + V
 have hw3 : w ≤ Q3 := by omega
 have hwB : w ≤ V2 := by omega
 have a1 : Q3 * V2 ≤ U / P := by rw [hQ]; exact Nat.div_mul_le_self _ _
 have a2 : w * V2 * P ≤ U := by
  have : w * V2 ≤ U / P := Nat.le_trans (Nat.mul_le_mul_right _ hw3) a1
  exact Nat.le_trans (Nat.mul_le_mul_right P this) (Nat.div_mul_le_self U P)
 have a3 : V < (V2 + 1) * P := top_ge (R := 0) hV2 hP
 have a4 : w * V ≤ U + V := by
  have b1 : w * V ≤ w * (V2 * P + P) := Nat.mul_le_mul_left _ (by rw [Nat.add_mul] at a3; omega)
  have b2 : w * (V2 * P + P) = w * V2 * P + w * P := by grind
  have b3 : w * P ≤ V2 * P := Nat.mul_le_mul_right _ hwB
  omega
 rw [hq]
 have : w ≤ (U + V) / V := (Nat.le_div_iff_mul_le hV0).2 a4
 rw [Nat.add_div_right _ hV0] at this
 omega
theorem div_succ (x j : Nat) : x / 4294967296 ^ (j + 1) = x / 4294967296 ^ j / 4294967296 := by
 rw [Nat.div_div_eq_div_mul, Nat.pow_succ]
theorem split2 {V : Nat} (h : V < 4294967296 * 4294967296) : V / 4294967296 % 4294967296 * 4294967296 + V % 4294967296 = V := by omega
theorem split3 {U V : Nat} (hx : U < (V + 1) * 4294967296) (h : V < 4294967296 * 4294967296) : (U / 4294967296 / 4294967296 % 4294967296 * 4294967296 + U / 4294967296 % 4294967296) * 4294967296 + U % 4294967296 = U := by omega
theorem split4 {U V : Nat} (hx : U < (V + 1) * 4294967296) (h : V < 4294967296 * 4294967296) (h2 : 4294967296 ≤ V) : 0 < V / 4294967296 % 4294967296 ∧ U / 4294967296 / 4294967296 % 4294967296 ≤ V / 4294967296 % 4294967296 := by omega
theorem parted_word {ρ V i e : Nat} (hV : V < 4294967296 ^ (e + 2)) (hVt : 4294967296 ^ (e + 1) ≤ V) (hρ : ρ < V * 4294967296 ^ (i + 1)) :
  0 < V / 4294967296 ^ (e + 1) % 4294967296 ∧ ρ / 4294967296 ^ (i + e + 2) % 4294967296 ≤ V / 4294967296 ^ (e + 1) % 4294967296 ∧
  ρ / (4294967296 ^ i * V) ≤ guessN (ρ / 4294967296 ^ (i + e + 2) % 4294967296) (ρ / 4294967296 ^ (i + e + 1) % 4294967296) (ρ / 4294967296 ^ (i + e) % 4294967296) (V / 4294967296 ^ (e + 1) % 4294967296) (V / 4294967296 ^ e % 4294967296) ∧
  guessN (ρ / 4294967296 ^ (i + e + 2) % 4294967296) (ρ / 4294967296 ^ (i + e + 1) % 4294967296) (ρ / 4294967296 ^ (i + e) % 4294967296) (V / 4294967296 ^ (e + 1) % 4294967296) (V / 4294967296 ^ e % 4294967296) ≤ ρ / (4294967296 ^ i * V) + 1 ∧
  ρ / (4294967296 ^ i * V) < 4294967296 := by
 have hPi : 0 < 4294967296 ^ i := Nat.pow_pos (by decide)
 have hPe : 0 < 4294967296 ^ e := Nat.pow_pos (by decide)
 have hV0 : 0 < V := Nat.lt_of_lt_of_le (Nat.pow_pos (by decide)) hVt
 -- the divisor's words
 have hv1 : V / 4294967296 ^ e < 4294967296 * 4294967296 := by
  refine (Nat.div_lt_iff_lt_mul hPe).2 ?_
  have : 4294967296 ^ (e + 2) = 4294967296 * 4294967296 * 4294967296 ^ e := by rw [Nat.pow_succ, Nat.pow_succ, Nat.mul_comm, Nat.mul_comm (4294967296 ^ e), Nat.mul_assoc]
  omega
 have hv2 : 4294967296 ≤ V / 4294967296 ^ e := by
  refine (Nat.le_div_iff_mul_le hPe).2 ?_
  have : 4294967296 ^ (e + 1) = 4294967296 * 4294967296 ^ e := by rw [Nat.pow_succ, Nat.mul_comm]
  omega
 -- the quotient is a word
 have hU : ρ / 4294967296 ^ i / V = ρ / (4294967296 ^ i * V) := Nat.div_div_eq_div_mul _ _ _
 have hq : ρ / (4294967296 ^ i * V) < 4294967296 := by
  refine (Nat.div_lt_iff_lt_mul (Nat.mul_pos hPi hV0)).2 ?_
  have : V * 4294967296 ^ (i + 1) = 4294967296 * (4294967296 ^ i * V) := by rw [Nat.pow_succ]; grind
  omega
 have hq' := hq
 -- the highest words of what is left
 have hx : ρ / 4294967296 ^ (i + e) < (V / 4294967296 ^ e + 1) * 4294967296 := by
  have h1 : V < (V / 4294967296 ^ e + 1) * 4294967296 ^ e := top_ge (R := 0) rfl hPe
  refine (Nat.div_lt_iff_lt_mul (Nat.pow_pos (by decide))).2 (Nat.lt_of_lt_of_le hρ ?_)
  have h2 : V * 4294967296 ^ (i + 1) ≤ (V / 4294967296 ^ e + 1) * 4294967296 ^ e * 4294967296 ^ (i + 1) := Nat.mul_le_mul_right _ (Nat.le_of_lt h1)
  refine Nat.le_trans h2 (Nat.le_of_eq ?_)
  rw [Nat.pow_succ, Nat.pow_add]
  grind
 have e1 : V / 4294967296 ^ (e + 1) = V / 4294967296 ^ e / 4294967296 := div_succ V e
 have e2 : ρ / 4294967296 ^ (i + e + 1) = ρ / 4294967296 ^ (i + e) / 4294967296 := div_succ ρ (i + e)
 have e3 : ρ / 4294967296 ^ (i + e + 2) = ρ / 4294967296 ^ (i + e) / 4294967296 / 4294967296 := by rw [div_succ ρ (i + e + 1), e2]
 have hUP : ρ / 4294967296 ^ i / 4294967296 ^ e = ρ / 4294967296 ^ (i + e) := by rw [Nat.div_div_eq_div_mul, Nat.pow_add]
 obtain ⟨Q3, hQ3⟩ : ∃ Q3, Q3 = ρ / 4294967296 ^ i / 4294967296 ^ e / (V / 4294967296 ^ e) := ⟨_, rfl⟩
 obtain ⟨w, hw⟩ : ∃ w, w = min Q3 4294967295 := ⟨_, rfl⟩
 have key := guess_near (U := ρ / 4294967296 ^ i) (V := V) (P := 4294967296 ^ e) (B := 4294967296) (B1 := 4294967295) (by omega) hPe rfl (by omega) hQ3 hw hU.symm hq hv2
 subst hw hQ3
 rw [hUP] at key
 rw [e1, e2, e3]
 generalize V / 4294967296 ^ e = V2 at *
 generalize ρ / 4294967296 ^ (i + e) = U3 at *
 have f1 := split2 hv1
 have f2 := split3 hx hv1
 obtain ⟨g1, g2⟩ := split4 hx hv1 hv2
 clear hx hv1 hv2 hq hρ hV hVt
 refine ⟨g1, g2, ?_, ?_, hq'⟩
 ·unfold guessN
  rw [f1, f2]; exact key.1
 ·unfold guessN
  rw [f1, f2]; exact key.2
theorem take_is {ρ V i w q : Nat} (hV : 0 < V) (hq : q = ρ / (4294967296 ^ i * V)) (h1 : q ≤ w) (h2 : w ≤ q + 1) :
  takeN ρ V w i = ρ - 4294967296 ^ i * (q * V) ∧ (4294967296 ^ i * (w * V) ≤ ρ → w = q) ∧ (¬ 4294967296 ^ i * (w * V) ≤ ρ → w = q + 1) ∧ 4294967296 ^ i * (q * V) ≤ ρ ∧ ρ - 4294967296 ^ i * (q * V) < 4294967296 ^ i * V ∧ 4294967296 ^ i * (w * V) ≤ ρ + 4294967296 ^ i * V := by
 have hM : 0 < 4294967296 ^ i * V := Nat.mul_pos (Nat.pow_pos (by decide)) hV
 have a1 : 4294967296 ^ i * (q * V) = 4294967296 ^ i * V * q := by grind
 have a2 : 4294967296 ^ i * (w * V) = 4294967296 ^ i * V * w := by grind
 have a3 := Nat.div_add_mod ρ (4294967296 ^ i * V)
 have a4 := Nat.mod_lt ρ hM
 rw [← hq] at a3
 unfold takeN
 rw [a1, a2]
 generalize 4294967296 ^ i * V = M at *
 rcases (show w = q ∨ w = q + 1 by omega) with rfl | rfl
 ·refine ⟨by rw [if_pos (by omega)], fun _ => rfl, fun h => by omega, by omega, by omega, by omega⟩
 ·have a5 : M * (q + 1) = M * q + M := by rw [Nat.mul_add, Nat.mul_one]
  rw [a5]
  refine ⟨by rw [if_neg (by omega)]; omega, fun h => by omega, fun _ => rfl, by omega, by omega, by omega⟩
def pq (m n : Nat) : List Nat := if m < n then [] else if (digits m).length ≤ 2 then padW 2 (m / n) else if (digits n).length = 1 then padW (digits m).length (m / n) else padW ((digits m).length - (digits n).length + 1) (m / n)
def pr (m n : Nat) : List Nat := if m < n then digits m else if (digits m).length ≤ 2 then padW 2 (m % n) else if (digits n).length = 1 then [m % n] else padW (digits n).length (m % n)
theorem len_le {m n : Nat} (h : n ≤ m) : (digits n).length ≤ (digits m).length := by
 rcases Nat.lt_or_ge (digits m).length (digits n).length with h1 | h1
 ·have := len_lt h1; omega
 ·exact h1
theorem lt_digits (n : Nat) : n < 4294967296 ^ (digits n).length := by
 have := val_lt (digits_words n); rw [val_digits] at this; exact this
theorem pq_words (m n : Nat) : Words (pq m n) := by
 unfold pq; split; exact .nil; split; exact padW_words _ _; split <;> exact padW_words _ _
theorem two_words {m : Nat} (h : (digits m).length ≤ 2) : m < 18446744073709551616 := by
 have := lt_digits m
 have h2 : 4294967296 ^ (digits m).length ≤ 4294967296 ^ 2 := Nat.pow_le_pow_right (by decide) h
 omega
theorem pr_words {m n : Nat} (hn : n ≠ 0) : Words (pr m n) := by
 unfold pr; split; exact digits_words _; split; exact padW_words _ _; split
 ·rename_i h
  obtain ⟨h1, _⟩ := digits_len1 h
  exact .cons (Nat.lt_trans (Nat.mod_lt _ (by omega)) h1) .nil
 ·exact padW_words _ _
theorem take_pad (L ρ lb V i q : Nat) (hρ : ρ < 4294967296 ^ L) (hV : V < 4294967296 ^ lb) (hq : q < 4294967296) (hi : i + lb < L) (hR : ρ < 4294967296 ^ (i + lb + 1)) (hle : 4294967296 ^ i * (q * V) ≤ ρ + 4294967296 ^ i * V) :
  FnH Tryz.prog tb F_num_take [.own T_uint32 0 0 L, .t (.sl T_uint32 (wds (padW lb V))), .t (.i .i64 i), .t (.i .u64 q)] [.arr T_uint32 ((wds (padW L ρ)).map .t)] (.t (.b (decide (4294967296 ^ i * (q * V) ≤ ρ)))) [(0, some (.arr T_uint32 ((wds (padW L (takeN ρ V q i))).map .t)))] 1 := by
 have h := num_take (padW L ρ) (padW lb V) (padW_words _ _) (padW_words _ _) i q hq (by rw [padW_len, padW_len]; exact hi) (by rw [val_padW _ _ hρ, padW_len]; exact hR) (by rw [val_padW _ _ hρ, val_padW _ _ hV]; exact hle)
 rw [val_padW _ _ hρ, val_padW _ _ hV, padW_len] at h
 exact h
theorem rep_pad {k k' : Nat} (h : k = k') : List.replicate k (AV.t (.i .u32 0)) = (wds (padW k' 0)).map .t := by
 subst h
 induction k with
 | zero => rfl
 | succ k ih => rw [List.replicate_succ, ih]; rfl
theorem q_fit {Q m n s la lb : Nat} (hm : m < 4294967296 ^ la) (hn : 4294967296 ^ (lb - 1) ≤ n) (hl : lb ≤ la) (hl1 : 1 ≤ lb) (h : Q * (n * 2 ^ s) ≤ m * 2 ^ s) : Q < 4294967296 ^ (la - lb + 1) := by
 have h1 : Q * n ≤ m := by
  refine Nat.le_of_mul_le_mul_right (c := 2 ^ s) ?_ (Nat.two_pow_pos s)
  rw [Nat.mul_assoc]; exact h
 have h2 : Q * 4294967296 ^ (lb - 1) ≤ m := Nat.le_trans (Nat.mul_le_mul_left _ hn) h1
 have h3 : 4294967296 ^ la = 4294967296 ^ (la - lb + 1) * 4294967296 ^ (lb - 1) := by rw [← Nat.pow_add]; congr 1; omega
 refine Nat.lt_of_mul_lt_mul_right (a := 4294967296 ^ (lb - 1)) ?_
 rw [← h3]; omega
theorem rest_fit {m n s la lb : Nat} (hm : m < 4294967296 ^ la) (hn : 4294967296 ^ (lb - 1) ≤ n) (hl : lb ≤ la) (hl1 : 1 ≤ lb) : m * 2 ^ s < n * 2 ^ s * 4294967296 ^ (la - lb + 1) := by
 have h3 : 4294967296 ^ la = 4294967296 ^ (la - lb + 1) * 4294967296 ^ (lb - 1) := by rw [← Nat.pow_add]; congr 1; omega
 have h4 : m < 4294967296 ^ (la - lb + 1) * n := Nat.lt_of_lt_of_le hm (by rw [h3]; exact Nat.mul_le_mul_left _ hn)
 have h5 : m * 2 ^ s < 4294967296 ^ (la - lb + 1) * n * 2 ^ s := Nat.mul_lt_mul_of_pos_right h4 (Nat.two_pow_pos s)
 have : 4294967296 ^ (la - lb + 1) * n * 2 ^ s = n * 2 ^ s * 4294967296 ^ (la - lb + 1) := by grind
 omega
theorem shl_fit {m s la : Nat} (hm : m < 4294967296 ^ la) (hs : s < 32) : m * 2 ^ s < 4294967296 ^ (la + 1) := by
 have h1 : 2 ^ s < 2 ^ 32 := Nat.pow_lt_pow_right (by decide) hs
 rw [Nat.pow_succ]
 exact Nat.mul_lt_mul'' hm h1
theorem fin_div {m n s Q ρ : Nat} (hn : n ≠ 0) (h : m * 2 ^ s = Q * (n * 2 ^ s) + ρ) (hρ : ρ < n * 2 ^ s) : Q = m / n ∧ ρ = m % n * 2 ^ s ∧ ρ / 2 ^ s = m % n := by
 have hp := Nat.two_pow_pos s
 have h1 : m * 2 ^ s / (n * 2 ^ s) = Q := by
  rw [h, Nat.mul_comm Q, Nat.mul_add_div (by omega), Nat.div_eq_of_lt hρ]; rfl
 have h2 : m * 2 ^ s % (n * 2 ^ s) = ρ := by
  rw [h, Nat.mul_comm Q, Nat.mul_add_mod]; exact Nat.mod_eq_of_lt hρ
 rw [Nat.mul_div_mul_right _ _ hp] at h1
 rw [Nat.mul_mod_mul_right] at h2
 exact ⟨h1.symm, h2.symm, by rw [← h2]; exact Nat.mul_div_cancel _ hp⟩
theorem take_drop_set {a b : List Nat} {i : Nat} (ha : i < a.length) (hb : i < b.length) : (a.take i ++ b.drop i).set i (a.getD i 0) = a.take (i + 1) ++ b.drop (i + 1) := by
 have hl : (a.take i).length = i := by simp; omega
 rw [List.set_append_right _ _ (by omega), hl, Nat.sub_self, List.drop_eq_getElem_cons hb, List.set_cons_zero, List.getD_eq_getElem?_getD, List.getElem?_eq_getElem ha, show a.take (i + 1) = a.take i ++ [a[i]] by rw [List.take_add_one, List.getElem?_eq_getElem ha]; rfl, List.append_assoc]
 rfl
theorem take_drop_getD {a b : List Nat} {i j : Nat} (ha : i ≤ a.length) (hj : i ≤ j) : (a.take i ++ b.drop i).getD j 0 = b.getD j 0 := by
 have hl : (a.take i).length = i := by simp; omega
 rw [List.getD_eq_getElem?_getD, List.getD_eq_getElem?_getD, List.getElem?_append_right (by omega), hl, List.getElem?_drop]
 congr 2; omega
theorem unshift_word {ρ i s : Nat} (hs : s < 32) : (4294967296 * (ρ / 4294967296 ^ (i + 1) % 4294967296) + ρ / 4294967296 ^ i % 4294967296) / 2 ^ s % 4294967296 = ρ / 2 ^ s / 4294967296 ^ i % 4294967296 := by
 have e1 : ρ / 2 ^ s / 4294967296 ^ i = ρ / 4294967296 ^ i / 2 ^ s := by rw [Nat.div_div_eq_div_mul, Nat.div_div_eq_div_mul, Nat.mul_comm]
 rw [e1, div_succ]
 generalize ρ / 4294967296 ^ i = x
 have h2 : 4294967296 * (x / 4294967296 % 4294967296) + x % 4294967296 = x % 18446744073709551616 := by omega
 rw [h2]
 have e2 : 18446744073709551616 = 2 ^ s * (2 ^ (32 - s) * 4294967296) := by
  rw [← Nat.mul_assoc, two32 (by omega)]
 rw [e2, Nat.mod_mul_right_div_self]
 exact Nat.mod_mod_of_dvd _ ⟨2 ^ (32 - s), by rw [Nat.mul_comm]⟩
theorem cmpN_neg {m n : Nat} : cmpN m n < 0 ↔ m < n := by
 unfold cmpN; split
 ·exact ⟨fun _ => by assumption, fun _ => by decide⟩
 ·split <;> exact ⟨fun h => by omega, fun h => by omega⟩
theorem num_pair1 (m : Nat) (h : (digits m).length ≤ 2) : FnP Tryz.prog tb F_num_pair [.sl T_uint32 (wds (digits m))] (.tu [.i .u64 m, .b true]) := by
 have := num_pair (digits m) (digits_words m)
 rw [if_pos h, val_digits, decide_eq_true h] at this
 exact this
theorem num_pair2 (m : Nat) (h : ¬ (digits m).length ≤ 2) : FnP Tryz.prog tb F_num_pair [.sl T_uint32 (wds (digits m))] (.tu [.i .u64 0, .b false]) := by
 have := num_pair (digits m) (digits_words m)
 rw [if_neg h, decide_eq_false h] at this
 exact this
theorem num_parted (m n : Nat) (hn : n ≠ 0) (hm16 : wl m ≤ 4398046511104) (hn16 : wl n ≤ 4398046511104) : FnP Tryz.prog tb F_num_parted [.sl T_uint32 (wds (digits m)), .sl T_uint32 (wds (digits n))] (.tu [.sl T_uint32 (wds (pq m n)), .sl T_uint32 (wds (pr m n))]) := by
 have hm16 : (digits m).length ≤ 4398046511104 := hm16
 have hn16 : (digits n).length ≤ 4398046511104 := hn16
 refine fnP_T tbOk Tryz.func161 rfl rfl (Nat.le_of_ble_eq_true rfl) rfl fun G hG hK => ?_
 have hF : Wd Fence.wide := .inl rfl
 refine wp_wl 0 rfl fun h0 => ?_
 refine wp_wl 1 rfl fun h1 => ?_
 have hlb : 0 < (digits n).length := by rcases Nat.eq_zero_or_pos (digits n).length with h | h; exact absurd (digits_len.1 h) hn; exact h
 refine sx 11 ?_
 refine wp_c rfl (fun hc => ?_) (fun hc => ?_)
 ·have hlt : m < n := cmpN_neg.1 (by simpa using hc)
  refine sx 7 ?_
  exact ⟨.inr rfl, rfl, (by (refine res_nl rfl ?_); (simp [pq, hlt, wds])), (by (refine res_t rfl ?_); (simp [pr, hlt])), trivial⟩
 ·have hge : n ≤ m := Nat.le_of_not_lt fun h => by simp [cmpN_neg.2 h] at hc
  have hnl : ¬ m < n := by omega
  have hle := len_le hge
  refine sx 3 ?_
  by_cases h2 : (digits m).length ≤ 2
  ·refine sx 2 ?_
   refine oq (.callR (yb := as1) (yc := num_pair1 m h2)) ?_
   refine sx 9 ?_
   refine wp_c rfl (fun hc => ?_) (fun hc => ?_)
   ·refine sx 2 ?_
    refine oq (.callR (yb := as1) (yc := num_pair1 n (by omega))) ?_
    refine sx 9 ?_
    refine dq (.quoR (yc := by omega) (yd := by exact tdivn (two_words h2))) ?_
    refine dq (.callR (yb := as1) (yc := num_words (m / n) (Nat.lt_of_le_of_lt (Nat.div_le_self _ _) (two_words h2)))) ?_
    refine sx 3 ?_
    refine dq (.callR (yb := as1) (yc := num_words (m % n) (Nat.lt_of_le_of_lt (Nat.mod_le _ _) (two_words h2)))) ?_
    refine sx 5 ?_
    exact ⟨.inr rfl, rfl, (by (refine res_t rfl ?_); (simp [pq, hnl, h2])), (by (refine res_t rfl ?_); (simp [pr, hnl, h2])), trivial⟩
   ·simp at hc
  ·refine sx 2 ?_
   refine oq (.callR (yb := as1) (yc := num_pair2 m h2)) ?_
   refine sx 9 ?_
   refine wp_c rfl (fun hc => ?_) (fun hc => ?_)
   ·simp at hc
   ·refine sx 8 ?_
    refine wp_c rfl (fun hc => ?_) (fun hc => ?_)
    ·have h3 : (digits n).length = 1 := by simp at hc; omega
     obtain ⟨hn32, hn0⟩ := digits_len1 h3
     refine sx 11 ?_
     refine wp_imp hK (s' := ⟨[(0, .t (.sl T_uint32 (wds (digits m)))), (1, .t (.sl T_uint32 (wds (digits n)))), (4, .own T_uint32 0 0 (digits m).length)], [(0, some (.arr T_uint32 ((wds (digits m)).map .t)))], 1, 0⟩) (by exact imp_less ga (by repeat' (first | exact trivial | (refine And.intro (by exact geth rfl (by simp [wds, List.take_of_length_le])) ?_))) (by exact Nat.le_of_ble_eq_true rfl)) ?_
     refine rr ?_
     refine om ?_
     refine om ?_
     refine om ?_
     refine oq (.indexAddrR (yf := by omega) (yg := by exact (wds_at2 (ws := digits n) 0 rfl (by omega)).trans (by rw [hn0]))) ?_
     refine oq .loadR ?_
     refine oed (callh [0] (num_short (digits m) (digits_words m) n hn32 (by omega)) (.inr ⟨_, rfl, rfl⟩) (hac rfl (hac rfl han)) rfl rfl rfl (by decide) (oic rfl (by exact ren_t) oin) (olts_c (by exact olt_t) olts_n) rfl (outs_s rfl (by exact ren_t) outs_0) rfl rfl rfl) ?_
     refine sx 4 ?_
     refine wp_imp hK (imp_fz 4 (wds (padW (digits m).length (m / n))) rfl rfl (by rw [val_digits]) (by rw [wds_len, padW_len])) ?_
     refine sx 2 ?_
     exact ⟨.inr rfl, rfl, (by (refine res_t rfl ?_); (simp [pq, hnl, h2, h3])), (by (refine res_t rfl ?_); (simp [pr, hnl, h2, h3, val_digits, wds])), trivial⟩
    ·have h3 : (digits n).length ≠ 1 := by simp at hc; omega
     have htop := getD_digits_last (n := n) (fun e => hn (digits_nil.1 e))
     have htop32 := (digits_words n).getD ((digits n).length - 1)
     have hbt := bl_pos htop
     obtain ⟨s, hs⟩ : ∃ s, s = 32 - bl ((digits n).getD ((digits n).length - 1) 0) := ⟨_, rfl⟩
     have hs32 : s < 32 := by omega
     have hVlt := shift_fits hn hs
     have hnge := val_ge (a := digits n) htop
     rw [val_digits] at hnge
     have hVge : 4294967296 ^ ((digits n).length - 1) ≤ n * 2 ^ s := Nat.le_trans hnge (Nat.le_mul_of_pos_right _ (Nat.two_pow_pos s))
     have hmlt := lt_digits m
     have hmv := val_digits m
     have hnv := val_digits n
     refine wp_k ?_
     refine then_n ?_
     refine rr ?_
     refine om ?_
     refine om ?_
     refine oq (.lenR (yc := .inl rfl) (yd := by exact wds_len)) ?_
     refine oq (.arithR (yd := by exact wrap_i64 (by omega))) ?_
     refine oq (.indexAddrR (yf := by omega) (yg := by exact wds_at2 ((digits n).length - 1) (by omega) (by omega))) ?_
     refine oq .loadR ?_
     refine oq (.callR (yb := as1) (yc := bits_LeadingZeros32 _ htop32)) ?_
     refine sx 2 ?_
     refine wp_imp hK (s' := ⟨[(0, .t (.sl T_uint32 (wds (digits m)))), (1, .t (.sl T_uint32 (wds (digits n)))), (10, .t (.i .i64 s))], [], 0, 0⟩) (by exact imp_less (by repeat' (first | exact trivial | (refine And.intro (by first | rfl | exact geti rfl (by omega)) ?_))) gb (by exact Nat.le_of_ble_eq_true rfl)) ?_
     refine sx 3 ?_
     refine wd_n rfl rfl rfl rfl (.callNR (yb := asc (.inl rfl) as1) (yc := num_shifted (digits m) (digits_words m) s hs32 (by omega)) (yd := by exact wds_len.trans (padW_len _ _))) ?_
     refine sx 2 ?_
     refine wd_n rfl rfl rfl rfl (.callNR (yb := asc (.inl rfl) as1) (yc := num_shifted (digits n) (digits_words n) s hs32 (by omega)) (yd := by exact wds_len.trans (padW_len _ _))) ?_
     refine sx 6 ?_
     refine wp_imp hK (imp_freeze 12 (wds (padW ((digits n).length + 1) (val (digits n) * 2 ^ s))) rfl rfl rfl (by rw [wds_len, padW_len]; simp) (r := wds (padW (digits n).length (n * 2 ^ s))) (by rw [hnv]; simp [wds_take, padW_take])) ?_
     refine sx 23 ?_
     refine wp_l hK (fun ((k, ρ, Q) : Nat × Nat × Nat) => ⟨[(4, .own T_uint32 2 0 ((digits m).length - (digits n).length + 1)), (10, .t (.i .i64 s)), (11, .own T_uint32 0 0 ((digits m).length + 1)), (12, .t (.sl T_uint32 (wds (padW (digits n).length (n * 2 ^ s))))), (13, .t (.i .i64 (digits n).length)), (14, .t (.i .i64 ((k : Int) - 1)))], [(0, some (.arr T_uint32 ((wds (padW ((digits m).length + 1) ρ)).map .t))), (2, some (.arr T_uint32 ((wds (padW ((digits m).length - (digits n).length + 1) Q)).map .t)))], 3, 0⟩) (fun (k, ρ, Q) => k ≤ (digits m).length - (digits n).length + 1 ∧ ρ < n * 2 ^ s * 4294967296 ^ k ∧ ρ < 4294967296 ^ ((digits m).length + 1) ∧ m * 2 ^ s = Q * (n * 2 ^ s) + ρ ∧ ∃ Q', Q = 4294967296 ^ k * Q') (fun (k, _, _) => k) ((digits m).length - (digits n).length + 1, m * 2 ^ s, 0) ?_ (fun _ => rfl) ?_ ?_
     ·exact ⟨Nat.le_refl _, rest_fit hmlt hnge hle hlb, shl_fit hmlt hs32, by simp, 0, by simp⟩
     ·exact imp_less (by repeat' (first | exact trivial | (refine And.intro (by first | rfl | exact geti rfl (by omega) | exact geto rfl (by omega)) ?_))) (by repeat' (first | exact trivial | (refine And.intro (by first | exact geth rfl (rep_pad (by omega)) | exact geth rfl (by rw [hmv])) ?_))) (by exact Nat.le_of_ble_eq_true rfl)
     ·rintro ⟨k, ρ, Q⟩ ⟨hk, hρ, hρ2, hm, Q', hQ'⟩
      have hQlt := q_fit hmlt hnge hle hlb (s := s) (show Q * (n * 2 ^ s) ≤ m * 2 ^ s by omega)
      refine sx 5 ?_
      refine wp_c rfl (fun hc => ?_) (fun hc => ?_)
      ·obtain ⟨i, rfl⟩ : ∃ j, k = j + 1 := ⟨k - 1, by simp at hc; omega⟩
       have e1 : ((i + 1 : Nat) : Int) - 1 = (i : Int) := by omega
       rw [e1]
       obtain ⟨e, he⟩ : ∃ e, (digits n).length = e + 2 := ⟨(digits n).length - 2, by omega⟩
       have hW := parted_word (i := i) (e := e) (by rw [← he]; exact hVlt) (by rw [show e + 1 = (digits n).length - 1 by omega]; exact hVge) hρ
       have d2 := padW_getD ((digits m).length + 1) (i + e + 2) ρ (by omega)
       have d1 := padW_getD ((digits m).length + 1) (i + e + 1) ρ (by omega)
       have d0 := padW_getD ((digits m).length + 1) (i + e) ρ (by omega)
       have f1 := padW_getD (digits n).length (e + 1) (n * 2 ^ s) (by omega)
       have f0 := padW_getD (digits n).length e (n * 2 ^ s) (by omega)
       rw [← d2, ← d1, ← d0, ← f1, ← f0] at hW
       obtain ⟨w1, w2, w3, w4, w5⟩ := hW
       have hpw := padW_words ((digits m).length + 1) ρ
       have hpv := padW_words (digits n).length (n * 2 ^ s)
       obtain ⟨w, hw⟩ : ∃ w, w = guessN ((padW ((digits m).length + 1) ρ).getD (i + e + 2) 0) ((padW ((digits m).length + 1) ρ).getD (i + e + 1) 0) ((padW ((digits m).length + 1) ρ).getD (i + e) 0) ((padW (digits n).length (n * 2 ^ s)).getD (e + 1) 0) ((padW (digits n).length (n * 2 ^ s)).getD e 0) := ⟨_, rfl⟩
       have hw32 : w < 4294967296 := by rw [hw]; exact Nat.lt_of_le_of_lt (Nat.min_le_right _ _) (by decide)
       rw [← hw] at w3 w4
       obtain ⟨q, hq⟩ : ∃ q, q = ρ / (4294967296 ^ i * (n * 2 ^ s)) := ⟨_, rfl⟩
       rw [← hq] at w3 w4 w5
       obtain ⟨k1, k2, k3, k4, k5, k6⟩ := take_is (by have := Nat.pow_pos (n := (digits n).length - 1) (show 0 < 4294967296 by decide); omega) hq w3 w4
       have hρ3 : ρ < 4294967296 ^ (i + (digits n).length + 1) := by
        have hh := Nat.mul_le_mul_right (4294967296 ^ (i + 1)) (Nat.le_of_lt hVlt)
        rw [← Nat.pow_add] at hh
        rw [show i + (digits n).length + 1 = (digits n).length + (i + 1) by omega]
        exact Nat.lt_of_lt_of_le hρ hh
       have hQi : Q / 4294967296 ^ i % 4294967296 = 0 := by rw [hQ', Nat.pow_succ, Nat.mul_assoc, Nat.mul_div_cancel_left _ (Nat.pow_pos (by decide)), Nat.mul_mod_right]
       refine sx 10 ?_
       refine dq (.loadPR (yd := by (exact wds_own2 (i + e + 2) (by omega) (by rw [padW_len]; omega)))) ?_
       refine sx 6 ?_
       refine dq (.loadPR (yd := by (exact wds_own2 (i + e + 1) (by omega) (by rw [padW_len]; omega)))) ?_
       refine sx 6 ?_
       refine dq (.loadPR (yd := by (exact wds_own2 (i + e) (by omega) (by rw [padW_len]; omega)))) ?_
       refine dq (.buildAR (yf := asc (.inl rfl) as2)) ?_
       refine sx 3 ?_
       refine dq (.indexAddrR (yf := by omega) (yg := by exact wds_at2 (e + 1) (by omega) (by rw [padW_len]; omega))) ?_
       refine sx 4 ?_
       refine dq (.indexAddrR (yf := by omega) (yg := by exact wds_at2 e (by omega) (by rw [padW_len]; omega))) ?_
       refine sx 1 ?_
       refine dq (.callR (yb := asc (.inl rfl) as2) (yc := num_guess _ _ _ _ _ (hpw.getD _) (hpw.getD _) (hpw.getD _) (hpv.getD _) (hpv.getD _) w1 w2)) ?_
       refine sx 2 ?_
       refine wp_imp hK (s' := ⟨[(4, .own T_uint32 2 0 ((digits m).length - (digits n).length + 1)), (10, .t (.i .i64 s)), (11, .own T_uint32 0 0 ((digits m).length + 1)), (12, .t (.sl T_uint32 (wds (padW (digits n).length (n * 2 ^ s))))), (13, .t (.i .i64 (digits n).length)), (14, .t (.i .i64 i)), (15, .t (.i .u64 w))], [(0, some (.arr T_uint32 ((wds (padW ((digits m).length + 1) ρ)).map .t))), (2, some (.arr T_uint32 ((wds (padW ((digits m).length - (digits n).length + 1) Q)).map .t)))], 3, 0⟩) (by exact imp_less (by repeat' (first | exact trivial | (refine And.intro (by first | rfl | exact geti rfl (by omega)) ?_))) ga (by exact Nat.le_of_ble_eq_true rfl)) ?_
       refine wp_j hK (fun _ : Unit => ⟨[(4, .own T_uint32 2 0 ((digits m).length - (digits n).length + 1)), (10, .t (.i .i64 s)), (11, .own T_uint32 0 0 ((digits m).length + 1)), (12, .t (.sl T_uint32 (wds (padW (digits n).length (n * 2 ^ s))))), (13, .t (.i .i64 (digits n).length)), (14, .t (.i .i64 i)), (15, .t (.i .u64 q))], [(0, some (.arr T_uint32 ((wds (padW ((digits m).length + 1) (ρ - 4294967296 ^ i * (q * (n * 2 ^ s))))).map .t))), (2, some (.arr T_uint32 ((wds (padW ((digits m).length - (digits n).length + 1) Q)).map .t)))], 3, 0⟩) (fun _ => True) (fun _ => rfl) ?_ ?_
       ·refine sx 5 ?_
        refine oed (callh [0] (take_pad ((digits m).length + 1) ρ (digits n).length (n * 2 ^ s) i w hρ2 hVlt hw32 (by omega) hρ3 k6) (.inr ⟨_, rfl, rfl⟩) (hac rfl (hac rfl (hac rfl (hac rfl han)))) rfl rfl rfl (by decide) (oic rfl (by exact ren_t) oin) (olts_c (by exact olt_t) olts_n) rfl (outs_s rfl (by exact ren_t) outs_0) rfl rfl rfl) ?_
        refine sx 2 ?_
        refine wp_c rfl (fun hc => ?_) (fun hc => ?_)
        ·have hwq := k3 (by simpa using hc)
         refine sx 2 ?_
         refine oq (.arithR (yd := by exact (wrap_u64 (by omega)).trans (by omega : _ = ((w - 1 : Nat) : Int)))) ?_
         refine sx 2 ?_
         exact join_n () (by trivial) (by exact imp_less (by repeat' (first | exact trivial | (refine And.intro (by first | rfl | exact geti rfl (by omega)) ?_))) (by repeat' (first | exact trivial | (refine And.intro (by first | rfl | exact geth rfl (by rw [k1])) ?_))) (by exact Nat.le_of_ble_eq_true rfl))
        ·have hwq := k2 (by simpa using hc)
         refine wp_k ?_
         exact join_n () (by trivial) (by exact imp_less (by repeat' (first | exact trivial | (refine And.intro (by first | rfl | exact geti rfl (by omega)) ?_))) (by repeat' (first | exact trivial | (refine And.intro (by first | rfl | exact geth rfl (by rw [k1])) ?_))) (by exact Nat.le_of_ble_eq_true rfl))
       ·intro _ _
        refine sx 4 ?_
        refine oq (.convR (yf := by exact w32n w5)) ?_
        refine sx 1 ?_
        refine oe (.storeR (ye := by (exact wds_idx (by rw [padW_len]; omega))) (yg := .inl rfl)) ?_
        refine sx 8 ?_
        exact round_n (i, ρ - 4294967296 ^ i * (q * (n * 2 ^ s)), Q + 4294967296 ^ i * q) (by refine ⟨by omega, by have h5 := k5; rw [Nat.mul_comm (4294967296 ^ i) (n * 2 ^ s)] at h5; exact h5, by omega, ?_, 4294967296 * Q' + q, by rw [hQ', Nat.pow_succ]; grind⟩; rw [Nat.add_mul, Nat.mul_assoc]; omega) (by (simp only; omega)) (by exact imp_less ga (by repeat' (first | exact trivial | (refine And.intro (by first | rfl | exact geth rfl (wds_upd2 i (by omega) (padW_set (by omega) hQlt w5 hQi))) ?_))) (by exact Nat.le_of_ble_eq_true rfl))
      ·obtain rfl : k = 0 := by simp at hc; omega
       rw [Nat.pow_zero, Nat.mul_one] at hρ
       obtain ⟨r1, r2, r3⟩ := fin_div hn hm hρ
       have hρ4 : ρ < 4294967296 ^ (digits n).length := Nat.lt_trans hρ hVlt
       refine sx 11 ?_
       refine wp_imp hK (s' := ⟨[(4, .own T_uint32 2 0 ((digits m).length - (digits n).length + 1)), (5, .own T_uint32 0 0 (digits n).length), (10, .t (.i .i64 s)), (11, .own T_uint32 0 0 ((digits m).length + 1))], [(0, some (.arr T_uint32 ((wds (padW ((digits m).length + 1) ρ)).map .t))), (2, some (.arr T_uint32 ((wds (padW ((digits m).length - (digits n).length + 1) Q)).map .t)))], 3, 0⟩) (by exact il) ?_
       refine sx 7 ?_
       refine wp_l hK (fun i : Nat => ⟨[(4, .own T_uint32 2 0 ((digits m).length - (digits n).length + 1)), (5, .own T_uint32 0 0 (digits n).length), (10, .t (.i .i64 s)), (11, .own T_uint32 0 0 ((digits m).length + 1)), (138, .t (.i .i64 (digits n).length)), (139, .t (.i .i64 i))], [(0, some (.arr T_uint32 ((wds ((padW (digits n).length (m % n)).take i ++ (padW ((digits m).length + 1) ρ).drop i)).map .t))), (2, some (.arr T_uint32 ((wds (padW ((digits m).length - (digits n).length + 1) Q)).map .t)))], 3, 0⟩) (fun i => i ≤ (digits n).length) (fun i => (digits n).length - i) 0 ?_ (fun _ => rfl) ?_ ?_
       ·omega
       ·exact il
       ·intro i hi
        refine sx 4 ?_
        refine wp_c rfl (fun hc => ?_) (fun hc => ?_)
        ·have hci : i < (digits n).length := by simp at hc; omega
         have hcl : ((padW (digits n).length (m % n)).take i ++ (padW ((digits m).length + 1) ρ).drop i).length = (digits m).length + 1 := by simp [padW_len]; omega
         have x1 : ((padW (digits n).length (m % n)).take i ++ (padW ((digits m).length + 1) ρ).drop i).getD (i + 1) 0 = ρ / 4294967296 ^ (i + 1) % 4294967296 := by rw [take_drop_getD (by rw [padW_len]; omega) (by omega), padW_getD _ _ _ (by omega)]
         have x0 : ((padW (digits n).length (m % n)).take i ++ (padW ((digits m).length + 1) ρ).drop i).getD i 0 = ρ / 4294967296 ^ i % 4294967296 := by rw [take_drop_getD (by rw [padW_len]; omega) (by omega), padW_getD _ _ _ (by omega)]
         have y1 : ((padW (digits n).length (m % n)).take i ++ (padW ((digits m).length + 1) ρ).drop i).getD (i + 1) 0 < 4294967296 := by rw [x1]; exact Nat.mod_lt _ (by decide)
         have y0 : ((padW (digits n).length (m % n)).take i ++ (padW ((digits m).length + 1) ρ).drop i).getD i 0 < 4294967296 := by rw [x0]; exact Nat.mod_lt _ (by decide)
         have hword := unshift_word (ρ := ρ) (i := i) hs32
         rw [← x1, ← x0, r3, ← padW_getD (digits n).length i (m % n) hci] at hword
         refine sx 15 ?_
         refine dq (.loadPR (yd := by (exact wds_own2 (i + 1) (by omega) (by rw [hcl]; omega)))) ?_
         refine sx 5 ?_
         refine dq (.loadPR (yd := by (exact wds_own2 i (by omega) (by rw [hcl]; omega)))) ?_
         refine sx 1 ?_
         refine dq (.bitsR (yc := or64 y1 y0)) ?_
         refine sx 4 ?_
         refine wd_e rfl rfl rfl (.storeR (ye := by (exact wds_idx (by rw [hcl]; omega))) (yg := .inl rfl)) (by exact trivial) ?_
         refine sx 7 ?_
         exact round_n (i + 1) (by omega) (by omega) (by exact imp_less ga (by repeat' (first | exact trivial | (refine And.intro (by first | rfl | exact geth rfl (wds_upd2 i (by omega) (by rw [hword]; exact take_drop_set (by rw [padW_len]; omega) (by rw [padW_len]; omega)))) ?_))) (by exact Nat.le_of_ble_eq_true rfl))
        ·obtain rfl : i = (digits n).length := by simp at hc; omega
         refine sx 5 ?_
         refine wp_imp hK (imp_fz 4 (wds (padW ((digits m).length - (digits n).length + 1) Q)) rfl rfl rfl (by rw [wds_len, padW_len])) ?_
         refine wp_imp hK (imp_freeze 5 (wds ((padW (digits n).length (m % n)).take (digits n).length ++ (padW ((digits m).length + 1) ρ).drop (digits n).length)) rfl rfl rfl (by simp [wds, padW_len]) (r := wds (padW (digits n).length (m % n))) (by simp [wds_take, padW_len, List.take_of_length_le])) ?_
         refine sx 7 ?_
         exact ⟨.inr rfl, rfl, (by (refine res_t rfl ?_); (simp [pq, hnl, h2, h3, r1])), (by (refine res_t rfl ?_); (simp [pr, hnl, h2, h3])), trivial⟩
theorem idiv {a b q r : Int} (hb : b ≠ 0) (h : a = b * q + r) (h0 : 0 ≤ r) (h1 : r < b.natAbs) : a / b = q ∧ a % b = r := by
 rcases Int.lt_or_gt_of_ne hb with hn | hp
 ·have hq := (Int.ediv_emod_unique (a := a) (b := -b) (r := r) (q := -q) (by omega)).2 ⟨by rw [Int.neg_mul_neg]; omega, h0, by omega⟩
  rw [Int.ediv_neg, Int.emod_neg] at hq
  exact ⟨by omega, hq.2⟩
 ·exact (Int.ediv_emod_unique hp).2 ⟨by omega, h0, by omega⟩
theorem pq_val {m n : Nat} (hn : n ≠ 0) : val (pq m n) = m / n := by
 unfold pq
 split
 ·rename_i h; rw [Nat.div_eq_of_lt h]; rfl
 ·rename_i h
  split
  ·rename_i h2
   exact val_padW _ _ (by rw [show (4294967296 : Nat) ^ 2 = 18446744073709551616 from rfl]; exact Nat.lt_of_le_of_lt (Nat.div_le_self _ _) (two_words h2))
  ·split
   ·exact val_padW _ _ (Nat.lt_of_le_of_lt (Nat.div_le_self _ _) (lt_digits m))
   ·have hne : digits n ≠ [] := fun e => hn (digits_nil.1 e)
    have hnge := val_ge (a := digits n) (getD_digits_last hne)
    rw [val_digits] at hnge
    refine val_padW _ _ (q_fit (s := 0) (lt_digits m) hnge (len_le (by omega)) (List.length_pos_iff.2 hne) ?_)
    simp only [Nat.pow_zero, Nat.mul_one]
    exact Nat.div_mul_le_self m n
theorem pr_val {m n : Nat} (hn : n ≠ 0) : val (pr m n) = m % n := by
 unfold pr
 split
 ·rename_i h; rw [Nat.mod_eq_of_lt h, val_digits]
 ·split
  ·rename_i h2
   exact val_padW _ _ (by rw [show (4294967296 : Nat) ^ 2 = 18446744073709551616 from rfl]; exact Nat.lt_of_le_of_lt (Nat.mod_le _ _) (two_words h2))
  ·split
   ·simp [val]
   ·exact val_padW _ _ (Nat.lt_trans (Nat.mod_lt _ (by omega)) (lt_digits n))
theorem div_parts {a b : Int} (hb : b ≠ 0) :
  (0 ≤ a → sgn (decide (a < 0) != decide (b < 0)) (a.natAbs / b.natAbs) = a / b ∧ ((a.natAbs % b.natAbs : Nat) : Int) = a % b) ∧
  (a < 0 → a.natAbs % b.natAbs = 0 → sgn (decide (a < 0) != decide (b < 0)) (a.natAbs / b.natAbs) = a / b ∧ ((a.natAbs % b.natAbs : Nat) : Int) = a % b) ∧
  (a < 0 → a.natAbs % b.natAbs ≠ 0 → sgn (decide (a < 0) != decide (b < 0)) (a.natAbs / b.natAbs) + sgn (decide (a < 0) != decide (b < 0)) 1 = a / b ∧ ((b.natAbs : Nat) : Int) - ((a.natAbs % b.natAbs : Nat) : Int) = a % b) := by
 have h1 := Nat.div_add_mod a.natAbs b.natAbs
 have h2 := Nat.mod_lt a.natAbs (show 0 < b.natAbs by omega)
 have hB : (b.natAbs : Int) = if b < 0 then -b else b := by split <;> omega
 have hA : (a.natAbs : Int) = if a < 0 then -a else a := by split <;> omega
 generalize a.natAbs / b.natAbs = q at *
 generalize a.natAbs % b.natAbs = r at *
 have h3 : (b.natAbs : Int) * q + r = a.natAbs := by exact_mod_cast h1
 refine ⟨fun ha => ?_, fun ha hr => ?_, fun ha hr => ?_⟩
 ·rw [hA, if_neg (by omega), hB] at h3
  have : ¬ a < 0 := by omega
  obtain ⟨e1, e2⟩ := idiv (a := a) (q := sgn (decide (a < 0) != decide (b < 0)) q) (r := r) hb (by
   by_cases hn : b < 0
   ·simp only [hn, this, sgn, decide_true, decide_false, if_true] at *; simp; grind
   ·simp only [hn, this, sgn, decide_true, decide_false, if_false] at *; simp; grind) (by omega) (by omega)
  exact ⟨e1.symm, e2.symm⟩
 ·rw [hA, if_pos ha, hB] at h3
  obtain ⟨e1, e2⟩ := idiv (a := a) (q := sgn (decide (a < 0) != decide (b < 0)) q) (r := r) hb (by
   by_cases hn : b < 0
   ·simp only [hn, ha, sgn, decide_true, decide_false, if_true] at *; simp; grind
   ·simp only [hn, ha, sgn, decide_true, decide_false, if_false] at *; simp; grind) (by omega) (by omega)
  exact ⟨e1.symm, e2.symm⟩
 ·rw [hA, if_pos ha, hB] at h3
  obtain ⟨e1, e2⟩ := idiv (a := a) (q := sgn (decide (a < 0) != decide (b < 0)) q + sgn (decide (a < 0) != decide (b < 0)) 1) (r := (b.natAbs : Int) - r) hb (by
   rw [hB]
   by_cases hn : b < 0
   ·simp only [hn, ha, sgn, decide_true, decide_false, if_true] at *; simp; grind
   ·simp only [hn, ha, sgn, decide_true, decide_false, if_false] at *; simp; grind) (by omega) (by omega)
  exact ⟨e1.symm, e2.symm⟩
theorem sgn_natAbs {s : Bool} {n : Nat} : (sgn s n).natAbs = n := by cases s <;> simp [sgn]
theorem num_Div (a b : Int) (hb : b ≠ 0) (ha16 : Fi 16 a := by first | assumption | exact Fi.small (by omega) | (apply Fi.le; (focus (repeat' (first | assumption | apply Fi.mul | apply Fi.add | apply Fi.sub | apply Fi.neg | apply Fi.abs | apply Fi.gcd | apply Fi.div | exact Fi.one | exact Fi.zero | exact Fi.small (by omega)))); decide)) (hb16 : Fi 16 b := by first | assumption | exact Fi.small (by omega) | (apply Fi.le; (focus (repeat' (first | assumption | apply Fi.mul | apply Fi.add | apply Fi.sub | apply Fi.neg | apply Fi.abs | apply Fi.gcd | apply Fi.div | exact Fi.one | exact Fi.zero | exact Fi.small (by omega)))); decide)) : FnP Tryz.prog tb F_num_Div [encI a, encI b] (.tu [encI (a / b), encI (a % b), .i .i64 0]) := by
 refine fnP_T tbOk Tryz.func117 rfl rfl (Nat.le_of_ble_eq_true rfl) rfl fun G hG hK => ?_
 have hF : Wd Fence.wide := .inl rfl
 have hn : b.natAbs ≠ 0 := by omega
 have hr16 : Fi 16 ((a.natAbs % b.natAbs : Nat) : Int) := hb16.mono (by rw [Int.natAbs_natCast]; exact Nat.le_of_lt (Nat.mod_lt _ (by omega)))
 have hq16 : wl (a.natAbs / b.natAbs) ≤ 4398046511104 := Nat.le_trans (wl_mono (Nat.div_le_self _ _)) ha16.wl'
 obtain ⟨d1, d2, d3⟩ := div_parts (a := a) hb
 have hne : (digits b.natAbs).length ≠ 0 := fun h => hn (digits_len.1 h)
 refine sx 15 ?_
 refine wp_c rfl (fun hc => ?_) (fun hc => ?_)
 ·simp at hc
 ·refine sx 9 ?_
  refine wp_c rfl (fun hc => ?_) (fun hc => ?_)
  ·simp at hc; exact absurd (by rw [hc]; rfl) hne
  ·refine sx 7 ?_
   refine oq (.callR (yb := asc (.inl rfl) as1) (yc := num_parted a.natAbs b.natAbs hn ha16.wl' hb16.wl')) ?_
   refine sx 13 ?_
   refine oq (.callR (yb := asc (.inl rfl) as1) (yc := num_made _ (pq a.natAbs b.natAbs) (pq_words _ _))) ?_
   refine om ?_
   refine oq (.callR (yb := asc (.inl rfl) as1) (yc := num_made false (pr a.natAbs b.natAbs) (pr_words hn))) ?_
   refine sx 3 ?_
   rw [pq_val hn, pr_val hn]
   refine wp_imp hK (s' := ⟨[(2, .t (.pt (encI a))), (3, .t (.pt (encI b))), (4, .ptr T_Int 0 0 0), (5, .ptr T_Int 1 0 0), (6, .t (.i .i64 0))], [(0, some (.arr T_Int [.t (encI (sgn (decide (a < 0) != decide (b < 0)) (a.natAbs / b.natAbs)))])), (1, some (.arr T_Int [.t (encI ((a.natAbs % b.natAbs : Nat) : Int))]))], 2, 0⟩) (by exact il) ?_
   refine wp_s ?_
   by_cases ha : a < 0
   ·refine sx 11 ?_
    refine wp_c rfl (fun hc => ?_) (fun hc => ?_)
    ·have hr0 : a.natAbs % b.natAbs = 0 := by simp at hc; exact digits_nil.1 hc
     obtain ⟨e1, e2⟩ := d2 ha hr0
     refine wp_d tbOk hF mixed hG [1] (by kernel_rfl) ?_
     refine sx 1 ?_
     refine wd_ql rfl rfl rfl (.loadPR (yd := by rfl)) ?_
     refine sx 6 ?_
     exact ⟨.inr rfl, rfl, (by (refine res_c rfl rfl rfl rfl rfl ?_); (rw [e1])), (by (refine res_c rfl rfl rfl rfl rfl ?_); (rw [e2])), (by (refine res_t rfl ?_); (rfl)), trivial⟩
    ·have hr0 : a.natAbs % b.natAbs ≠ 0 := by simp at hc; exact fun h => hc (digits_nil.2 h)
     obtain ⟨e1, e2⟩ := d3 ha hr0
     refine sx 16 ?_
     refine oq (.callR (yb := asc (.inl rfl) as3) (yc := num_signed (decide (a < 0) != decide (b < 0)) (decide (a < 0) != decide (b < 0)) (sgn (decide (a < 0) != decide (b < 0)) (a.natAbs / b.natAbs)).natAbs 1 (by rw [sgn_natAbs]; exact hq16) (by decide))) ?_
     refine sx 7 ?_
     refine dq (.callR (yb := asc (.inl rfl) as1) (yc := num_Sub ((b.natAbs : Nat) : Int) ((a.natAbs % b.natAbs : Nat) : Int) hb16.abs hr16)) ?_
     refine sx 5 ?_
     exact ⟨.inr rfl, rfl, (by (refine res_c rfl rfl rfl rfl rfl ?_); (rw [sgn_natAbs, e1])), (by (refine res_c rfl rfl rfl rfl rfl ?_); (rw [e2])), (by (refine res_t rfl ?_); (rfl)), trivial⟩
   ·refine sx 11 ?_
    refine wp_c rfl (fun hc => ?_) (fun hc => ?_)
    ·obtain ⟨e1, e2⟩ := d1 (by omega)
     refine wp_d tbOk hF mixed hG [1] (by kernel_rfl) ?_
     refine sx 1 ?_
     refine wd_ql rfl rfl rfl (.loadPR (yd := by rfl)) ?_
     refine sx 6 ?_
     exact ⟨.inr rfl, rfl, (by (refine res_c rfl rfl rfl rfl rfl ?_); (rw [e1])), (by (refine res_c rfl rfl rfl rfl rfl ?_); (rw [e2])), (by (refine res_t rfl ?_); (rfl)), trivial⟩
    ·simp [ha] at hc
theorem top_split {n : Nat} (hn : n ≠ 0) : ∃ k L, (digits n).length = k + 1 ∧ n = L + 4294967296 ^ k * (digits n).getD k 0 ∧ L < 4294967296 ^ k ∧ (digits n).getD k 0 ≠ 0 := by
 have hne : digits n ≠ [] := fun e => hn (digits_nil.1 e)
 have hl : 0 < (digits n).length := List.length_pos_iff.2 hne
 obtain ⟨k, hk⟩ : ∃ k, (digits n).length = k + 1 := ⟨(digits n).length - 1, by omega⟩
 have htop := getD_digits_last hne
 rw [hk, Nat.add_sub_cancel] at htop
 have hv := val_take_succ (ws := digits n) (j := k) (by omega)
 rw [← hk, List.take_length, val_digits] at hv
 have hlow := val_lt ((digits_words n).take k)
 rw [show ((digits n).take k).length = k by simp; omega] at hlow
 exact ⟨k, _, hk, hv, hlow, htop⟩
theorem bl_top {n : Nat} (hn : n ≠ 0) : bl n = 32 * ((digits n).length - 1) + bl ((digits n).getD ((digits n).length - 1) 0) := by
 obtain ⟨k, L, hk, hv, hL, ht⟩ := top_split hn
 rw [hk, Nat.add_sub_cancel]
 have e : (4294967296 : Nat) ^ k = 2 ^ (32 * k) := by rw [Nat.pow_mul]
 rw [e] at hv hL
 generalize (digits n).getD k 0 = t at *
 have hge : 2 ^ (32 * k) ≤ n := by
  have : 2 ^ (32 * k) * 1 ≤ 2 ^ (32 * k) * t := Nat.mul_le_mul_left _ (by omega)
  omega
 rw [bl_shift hge]
 have hd : n / 2 ^ (32 * k) = t := by
  rw [hv, Nat.add_mul_div_left _ _ (Nat.two_pow_pos _), Nat.div_eq_of_lt hL, Nat.zero_add]
 rw [hd, Nat.add_comm]
theorem num_Bits (a : Int) : FnP Tryz.prog tb F_num_Bits [encI a] (.i .i64 (bl a.natAbs)) := by
 refine fn1 Tryz.func151 fun G hG hK hF => ?_
 refine wp_il (neg := decide (a < 0)) (ws := digits a.natAbs) 0 rfl fun hb => ?_
 refine sx 11 ?_
 by_cases h0 : a = 0
 ·refine sx 4 ?_
  refine gs (z := by subst h0; rfl) ?_
  refine gs (z := by subst h0; rfl) ?_
  refine gs (z := by subst h0; rfl) ?_
  refine oq (.pickT rfl (by subst h0; rfl) rfl) ?_
  refine sx 1 ?_
  refine wp_c rfl (fun hc => ?_) (fun hc => ?_)
  ·refine sx 5 ?_
   exact ⟨.inr rfl, rfl, (by (refine res_t rfl ?_); (subst h0; rfl)), trivial⟩
  ·subst h0; simp [digits_zero] at hc
 ·refine sx 4 ?_
  refine gq (z := by simp; (exact fun h => h0 (digits_abs0 h))) .loadR ?_
  refine gq (z := by simp; (exact fun h => h0 (digits_abs0 h))) (.callR (yb := as1) (yc := num_IsI a)) ?_
  refine gq (z := by simp; (exact fun h => h0 (digits_abs0 h))) .notR ?_
  refine oq (.pickF rfl (by simp; (exact fun h => h0 (digits_abs0 h))) rfl) ?_
  refine sx 1 ?_
  refine wp_c rfl (fun hc => ?_) (fun hc => ?_)
  ·simp at hc
  ·have hn : a.natAbs ≠ 0 := by omega
   have hl : (digits a.natAbs).length ≠ 0 := fun h => hn (digits_len.1 h)
   have hbt := bl32 ((digits_words a.natAbs).getD ((digits a.natAbs).length - 1))
   refine sx 10 ?_
   refine oq (.indexAddrR (yf := by omega) (yg := by exact wds_at2 ((digits a.natAbs).length - 1) (by omega) (by omega))) ?_
   refine sx 1 ?_
   refine oq (.callR (yb := as1) (yc := bits_Len32 _ ((digits_words a.natAbs).getD _))) ?_
   refine sx 4 ?_
   exact ⟨.inr rfl, rfl, (by (refine res_t rfl ?_); (exact tri (by rw [bl_top hn]; omega))), trivial⟩
theorem num_Gcd (a b : Int) (ha16 : Fi 16 a := by first | assumption | exact Fi.small (by omega) | (apply Fi.le; (focus (repeat' (first | assumption | apply Fi.mul | apply Fi.add | apply Fi.sub | apply Fi.neg | apply Fi.abs | apply Fi.gcd | apply Fi.div | exact Fi.one | exact Fi.zero | exact Fi.small (by omega)))); decide)) (hb16 : Fi 16 b := by first | assumption | exact Fi.small (by omega) | (apply Fi.le; (focus (repeat' (first | assumption | apply Fi.mul | apply Fi.add | apply Fi.sub | apply Fi.neg | apply Fi.abs | apply Fi.gcd | apply Fi.div | exact Fi.one | exact Fi.zero | exact Fi.small (by omega)))); decide)) : FnP Tryz.prog tb F_num_Gcd [encI a, encI b] (encI (Int.gcd a b)) := by
 refine fn1 Tryz.func112 fun G hG hK hF => ?_
 refine sx 13 ?_
 refine wp_c rfl (fun hc => ?_) (fun hc => ?_)
 ·simp at hc
 ·refine sx 4 ?_
  refine dq (.callR (yb := as1) (yc := num_Abs a)) ?_
  refine sx 9 ?_
  refine wp_l hK (fun ((x, y) : Nat × Nat) => ⟨[(4, .ptr T_Int 0 0 0), (5, .ptr T_Int 1 0 0), (6, .ptr T_Int 2 0 0)], [(0, some (.arr T_Int [.t (encI 0)])), (1, some (.arr T_Int [.t (encI x)])), (2, some (.arr T_Int [.t (encI y)]))], 3, 0⟩) (fun (x, y) => Nat.gcd x y = Int.gcd a b ∧ wl x ≤ 4398046511104 ∧ wl y ≤ 4398046511104) (fun (_, y) => y) (a.natAbs, b.natAbs) ?_ (fun _ => rfl) ?_ ?_
  ·exact ⟨rfl, ha16.wl', hb16.wl'⟩
  ·exact il
  ·rintro ⟨x, y⟩ ⟨hg, hx16, hy16⟩
   refine sx 7 ?_
   refine wp_c rfl (fun hc => ?_) (fun hc => ?_)
   ·have hy : y ≠ 0 := by rintro rfl; simp [digits_zero] at hc
    refine sx 6 ?_
    refine oq (.callR (yb := as1) (yc := num_pair (digits x) (digits_words x))) ?_
    refine sx 9 ?_
    refine oq (.callR (yb := as1) (yc := num_pair (digits y) (digits_words y))) ?_
    refine sx 7 ?_
    by_cases hx2 : (digits x).length ≤ 2
    ·refine sx 6 ?_
     refine wp_c rfl (fun hc => ?_) (fun hc => ?_)
     ·have hy2 : (digits y).length ≤ 2 := by simpa using hc
      have hx64 := two_words hx2
      have hy64 := two_words hy2
      refine sx 2 ?_
      refine wp_l hK (fun ((p, q) : Nat × Nat) => ⟨[(4, .ptr T_Int 0 0 0), (7, .t (.i .u64 p)), (9, .t (.i .u64 q))], [(0, some (.arr T_Int [.t (encI 0)]))], 3, 0⟩) (fun (p, q) => Nat.gcd p q = Int.gcd a b ∧ p < 18446744073709551616 ∧ q < 18446744073709551616) (fun (_, q) => q) (x, y) ?_ (fun _ => rfl) ?_ ?_
      ·exact ⟨hg, hx64, hy64⟩
      ·exact imp_less (by repeat' (first | exact trivial | (refine And.intro (by first | rfl | exact geti rfl (by rw [if_pos hx2, val_digits]) | exact geti rfl (by rw [if_pos hy2, val_digits])) ?_))) ga (by exact Nat.le_of_ble_eq_true rfl)
      ·rintro ⟨p, q⟩ ⟨hg2, hp64, hq64⟩
       refine sx 5 ?_
       refine wp_c rfl (fun hc => ?_) (fun hc => ?_)
       ·have hq0 : 0 < q := by simp at hc; omega
        refine sx 12 ?_
        exact round_n (q, p % q) (by exact ⟨by rw [← hg2, Nat.gcd_comm p q, Nat.gcd_rec q p, Nat.gcd_comm], hq64, Nat.lt_of_le_of_lt (Nat.mod_le _ _) hp64⟩) (by exact Nat.mod_lt _ hq0) (by exact il)
       ·have hq0 : q = 0 := by simp at hc; omega
        refine sx 7 ?_
        refine oq (.callR (yb := asc (.inl rfl) as1) (yc := num_natural false p hp64)) ?_
        refine sx 8 ?_
        exact ⟨.inr rfl, rfl, (by (refine res_c rfl rfl rfl rfl rfl ?_); (subst hq0; rw [← hg2, Nat.gcd_zero_right]; rfl)), trivial⟩
     ·refine sx 22 ?_
      exact round_n (y, x % y) (by refine ⟨?_, hy16, Nat.le_trans (wl_mono (Nat.le_of_lt (Nat.mod_lt _ (Nat.pos_of_ne_zero hy)))) hy16⟩; show Nat.gcd y (x % y) = _; rw [← hg, Nat.gcd_comm x y, Nat.gcd_rec y x, Nat.gcd_comm]) (by exact Nat.mod_lt _ (Nat.pos_of_ne_zero hy)) (by exact imp_less ga (by repeat' (first | exact trivial | (refine And.intro (by first | rfl | exact geth rfl (by rw [pr_val hy]; rfl)) ?_))) (by exact Nat.le_of_ble_eq_true rfl))
    ·refine sx 6 ?_
     refine wp_c rfl (fun hc => ?_) (fun hc => ?_)
     ·simp at hc
     ·refine sx 22 ?_
      exact round_n (y, x % y) (by refine ⟨?_, hy16, Nat.le_trans (wl_mono (Nat.le_of_lt (Nat.mod_lt _ (Nat.pos_of_ne_zero hy)))) hy16⟩; show Nat.gcd y (x % y) = _; rw [← hg, Nat.gcd_comm x y, Nat.gcd_rec y x, Nat.gcd_comm]) (by exact Nat.mod_lt _ (Nat.pos_of_ne_zero hy)) (by exact imp_less ga (by repeat' (first | exact trivial | (refine And.intro (by first | rfl | exact geth rfl (by rw [pr_val hy]; rfl)) ?_))) (by exact Nat.le_of_ble_eq_true rfl))
   ·have hy : y = 0 := by simp at hc; exact digits_nil.1 hc
    refine sx 10 ?_
    exact ⟨.inr rfl, rfl, (by (refine res_c rfl rfl rfl rfl rfl ?_); (subst hy; rw [← hg, Nat.gcd_zero_right])), trivial⟩
theorem small_pow {a : Int} (h : bl a.natAbs ≤ 1) (n : Nat) : a ^ (n % 2 + 2 * min (n / 2) 1) = a ^ n := by
 have hlt := bl_lt a.natAbs
 have h2 : 2 ^ bl a.natAbs ≤ 2 ^ 1 := Nat.pow_le_pow_right (by decide) h
 have h3 : a = 0 ∨ a = 1 ∨ a = -1 := by omega
 have hn : n = n % 2 + 2 * (n / 2) := by omega
 rcases h3 with rfl | rfl | rfl
 ·rcases Nat.eq_zero_or_pos n with h0 | h0
  ·subst h0; rfl
  ·rw [Int.zero_pow (by omega), Int.zero_pow (by omega)]
 ·rw [Int.one_pow, Int.one_pow]
 ·conv => rhs; rw [hn]
  rw [Int.pow_add, Int.pow_add, Int.pow_mul, Int.pow_mul]
  have : ((-1 : Int)) ^ 2 = 1 := by decide
  rw [this, Int.one_pow, Int.one_pow]
theorem wl_le_bits {n k K : Nat} (hK : K = 32 * k) (h : n < 2 ^ K) : wl n ≤ k := wl_le (by rw [show (4294967296 : Nat) = 2 ^ 32 from rfl, ← Nat.pow_mul, ← hK]; exact h)
theorem powI_fit {a : Int} {n : Nat} (h : bl a.natAbs ≤ 1 ∨ n ≤ 1048576 / bl a.natAbs) : wl (a ^ n).natAbs ≤ 32768 := by
 obtain ⟨K, hK⟩ : ∃ K : Nat, K = 32 * 32768 := ⟨_, rfl⟩
 refine wl_le_bits hK ?_
 rw [Int.natAbs_pow]
 rcases h with h | h
 ·have h1 := bl_lt a.natAbs
  have h2 : 2 ^ bl a.natAbs ≤ 2 ^ 1 := Nat.pow_le_pow_right (by decide) h
  have h3 : a.natAbs ^ n ≤ 1 := Nat.le_trans (Nat.pow_le_pow_left (show a.natAbs ≤ 1 by omega) n) (by simp)
  exact Nat.lt_of_le_of_lt h3 (Nat.one_lt_two_pow (by omega))
 ·have h1 : a.natAbs ^ n ≤ (2 ^ bl a.natAbs) ^ n := Nat.pow_le_pow_left (Nat.le_of_lt (bl_lt _)) n
  rw [← Nat.pow_mul] at h1
  have h2 : bl a.natAbs * n ≤ 1048576 := by rw [Nat.mul_comm]; exact Nat.mul_le_of_le_div _ _ _ h
  rcases Nat.eq_zero_or_pos n with rfl | hn
  ·rw [Nat.pow_zero]; exact Nat.one_lt_two_pow (by omega)
  ·have h3 : a.natAbs ^ n < (2 ^ bl a.natAbs) ^ n := Nat.pow_lt_pow_left (bl_lt _) (by omega)
   rw [← Nat.pow_mul] at h3
   exact Nat.lt_of_lt_of_le h3 (Nat.pow_le_pow_right (by decide) (by omega))
def PowInv (o x : Int) : Prop := (o.natAbs ≤ 1 ∧ x.natAbs ≤ 1) ∨ (o ≠ 0 ∧ x ≠ 0)
theorem PowInv.start (a : Int) : PowInv 1 a := by
 by_cases h : a = 0
 ·subst h; exact .inl ⟨by decide, by decide⟩
 ·exact .inr ⟨by decide, h⟩
theorem one_mul_le {a b : Nat} (ha : a ≤ 1) (hb : b ≤ 1) : a * b ≤ 1 := by
 rcases (show a = 0 ∨ a = 1 by omega) with rfl | rfl <;> simp <;> omega
theorem PowInv.mul {o x : Int} (h : PowInv o x) : PowInv (o * x) x := by
 rcases h with ⟨h1, h2⟩ | ⟨h1, h2⟩
 ·exact .inl ⟨by rw [Int.natAbs_mul]; exact one_mul_le h1 h2, h2⟩
 ·exact .inr ⟨Int.mul_ne_zero h1 h2, h2⟩
theorem PowInv.sq {o x : Int} (h : PowInv o x) : PowInv o (x * x) := by
 rcases h with ⟨h1, h2⟩ | ⟨h1, h2⟩
 ·exact .inl ⟨h1, by rw [Int.natAbs_mul]; exact one_mul_le h2 h2⟩
 ·exact .inr ⟨h1, Int.mul_ne_zero h2 h2⟩
theorem PowInv.fit {o x a : Int} {k n : Nat} (h : PowInv o x) (e : o * x ^ k = a ^ n) (hk : 0 < k) (hf : wl (a ^ n).natAbs ≤ 32768) : Fi 1 o ∧ Fi 1 x := by
 rcases h with ⟨h1, h2⟩ | ⟨h1, h2⟩
 ·exact ⟨Fi.small (by omega), Fi.small (by omega)⟩
 ·have e2 := congrArg Int.natAbs e
  rw [Int.natAbs_mul, Int.natAbs_pow] at e2
  have hx : 0 < x.natAbs := by omega
  have ho : 0 < o.natAbs := by omega
  have hp : 0 < x.natAbs ^ k := Nat.pow_pos hx
  have l1 : o.natAbs ≤ (a ^ n).natAbs := by rw [← e2]; exact Nat.le_mul_of_pos_right _ hp
  have l2 : x.natAbs ≤ (a ^ n).natAbs := by
   rw [← e2]
   exact Nat.le_trans (Nat.le_self_pow (by omega) _) (Nat.le_mul_of_pos_left _ ho)
  constructor
  ·exact ⟨by have := wl_mono l1; omega⟩
  ·exact ⟨by have := wl_mono l2; omega⟩
theorem num_Pow (a : Int) (n : Nat) (hn : (n : Int) < 9223372036854775808) (hok : bl a.natAbs ≤ 1 ∨ n ≤ 1048576 / bl a.natAbs) : FnP Tryz.prog tb F_num_Pow [encI a, .i .i64 n] (.tu [encI (a ^ n), .i .i64 0]) := by
 have hf := powI_fit hok
 refine fnP_T tbOk Tryz.func152 rfl rfl (Nat.le_of_ble_eq_true rfl) rfl fun G hG hK => ?_
 have hF : Wd Fence.wide := .inl rfl
 refine rr ?_
 refine oq (.boxR (yb := .inl rfl)) ?_
 refine on' .allocR ?_
 refine oa ?_
 refine wo_nil ?_
 refine wp_s ?_
 refine wp_b ?_
 refine rr ?_
 refine oq .loadR ?_
 refine oq (.callR (yb := as1) (yc := num_IsI a)) ?_
 refine oq .notR ?_
 refine oa ?_
 refine wo_nil ?_
 refine wp_c rfl (fun hc => ?_) (fun hc => ?_)
 ·simp at hc
 ·refine sx 5 ?_
  refine wp_c rfl (fun hc => ?_) (fun hc => ?_)
  ·simp at hc; omega
  ·by_cases hb : bl a.natAbs ≤ 1
   ·refine sx 13 ?_
    refine wp_c rfl (fun hc => ?_) (fun hc => ?_)
    ·simp at hc
    ·refine sx 3 ?_
     refine wp_d tbOk hF mixed hG [1] (by kernel_rfl) ?_
     refine sx 1 ?_
     refine wd_ql rfl rfl rfl .loadR ?_
     refine wd_n rfl rfl rfl rfl .allocR ?_
     refine wd_n rfl rfl rfl rfl .allocR ?_
     refine wd_e rfl rfl rfl (.storeR (ye := by decide) (yg := .inl rfl)) (by (exact ⟨trivial, .load _ _ _ _ _ rfl rfl rfl⟩)) ?_
     refine wd_e rfl rfl rfl (.storeR (ye := by decide) (yg := .inl rfl)) (by (exact ⟨trivial, .load _ _ _ _ _ rfl rfl rfl⟩)) ?_
     refine wd_nil ?_
     refine wp_j hK (fun k : Nat => ⟨[(1, .t (.i .i64 k)), (2, .t (.pt (encI a))), (4, .ptr T_Int 0 0 0), (6, .ptr T_Int 1 0 0), (7, .ptr T_Int 2 0 0)], [(0, some (.arr T_Int [.t (encI 0)])), (1, some (.arr T_Int [.t (encI 1)])), (2, some (.arr T_Int [.t (encI a)]))], 3, 0⟩) (fun k => a ^ k = a ^ n ∧ (k : Int) < 9223372036854775808) (fun _ => rfl) ?_ ?_
     ·refine sx 5 ?_
      refine wp_c rfl (fun hc => ?_) (fun hc => ?_)
      ·have hb1 : bl a.natAbs ≤ 1 := by simp at hc; omega
       refine sx 10 ?_
       exact join_n (n % 2 + 2 * min (n / 2) 1) (by exact ⟨small_pow hb1 n, by omega⟩) (by exact imp_less (by repeat' (first | exact trivial | (refine And.intro (by first | rfl | exact geti rfl (by omega)) ?_))) ga (by exact Nat.le_of_ble_eq_true rfl))
      ·refine wp_k ?_
       exact join_n n (by exact ⟨rfl, hn⟩) (by exact il)
     ·rintro k ⟨hk, hk63⟩
      refine sx 2 ?_
      refine wp_l hK (fun ((k, o, x) : Nat × Int × Int) => ⟨[(1, .t (.i .i64 k)), (4, .ptr T_Int 0 0 0), (6, .ptr T_Int 1 0 0), (7, .ptr T_Int 2 0 0)], [(0, some (.arr T_Int [.t (encI 0)])), (1, some (.arr T_Int [.t (encI o)])), (2, some (.arr T_Int [.t (encI x)]))], 3, 0⟩) (fun (k, o, x) => o * x ^ k = a ^ n ∧ (k : Int) < 9223372036854775808 ∧ PowInv o x) (fun (k, _, _) => k) (k, 1, a) ?_ (fun _ => rfl) ?_ ?_
      ·exact ⟨by rw [Int.one_mul]; exact hk, hk63, .start a⟩
      ·exact il
      ·rintro ⟨k, o, x⟩ ⟨hox, hk63, hpi⟩
       refine sx 5 ?_
       refine wp_c rfl (fun hc => ?_) (fun hc => ?_)
       ·have hk0 : 0 < k := by simp at hc; omega
        obtain ⟨hfo, hfx⟩ := hpi.fit hox hk0 hf
        refine sx 2 ?_
        refine wp_j hK (fun ((o2, x2) : Int × Int) => ⟨[(1, .t (.i .i64 k)), (4, .ptr T_Int 0 0 0), (6, .ptr T_Int 1 0 0), (7, .ptr T_Int 2 0 0)], [(0, some (.arr T_Int [.t (encI 0)])), (1, some (.arr T_Int [.t (encI o2)])), (2, some (.arr T_Int [.t (encI x2)]))], 3, 0⟩) (fun (o2, x2) => o2 * x2 ^ (k / 2) = a ^ n ∧ PowInv o2 x2) (fun _ => rfl) ?_ ?_
        ·refine wp_b ?_
         refine wp_j hK (fun o2 : Int => ⟨[(1, .t (.i .i64 k)), (4, .ptr T_Int 0 0 0), (6, .ptr T_Int 1 0 0), (7, .ptr T_Int 2 0 0)], [(0, some (.arr T_Int [.t (encI 0)])), (1, some (.arr T_Int [.t (encI o2)])), (2, some (.arr T_Int [.t (encI x)]))], 3, 0⟩) (fun o2 => o2 * x ^ (2 * (k / 2)) = a ^ n ∧ PowInv o2 x) (fun _ => rfl) ?_ ?_
         ·refine sx 5 ?_
          refine wp_c rfl (fun hc => ?_) (fun hc => ?_)
          ·refine sx 6 ?_
           exact join_n (o * x) (by have h1 : k % 2 = 1 := by { simp at hc; omega }; refine ⟨?_, hpi.mul⟩; rw [← hox, Int.mul_assoc, ← Int.pow_succ']; congr 2; omega) (by exact il)
          ·refine wp_k ?_
           exact join_n o (by have h1 : k % 2 = 0 := by { simp at hc; omega }; refine ⟨?_, hpi⟩; rw [← hox]; congr 2; omega) (by exact il)
         ·rintro o2 ⟨ho2, hpi2⟩
          refine sx 4 ?_
          refine wp_c rfl (fun hc => ?_) (fun hc => ?_)
          ·refine sx 7 ?_
           exact join_n (o2, x * x) (by refine ⟨?_, hpi2.sq⟩; show o2 * (x * x) ^ (k / 2) = _; rw [← ho2, Int.pow_mul]; congr 2; rw [Int.pow_succ, Int.pow_succ, Int.pow_zero, Int.one_mul]) (by exact il)
          ·refine sx 2 ?_
           exact join_n (o2, x) (by have h1 : k / 2 = 0 := by { simp at hc; omega }; refine ⟨?_, hpi2⟩; show o2 * x ^ (k / 2) = _; rw [← ho2, h1]) (by exact il)
        ·rintro ⟨o2, x2⟩ ⟨hx2, hpi3⟩
         refine sx 5 ?_
         exact round_n (k / 2, o2, x2) (by exact ⟨hx2, by omega, hpi3⟩) (by exact Nat.div_lt_self hk0 (by decide)) (by exact il)
       ·have hk0 : k = 0 := by simp at hc; omega
        refine sx 11 ?_
        exact ⟨.inr rfl, rfl, (by (refine res_c rfl rfl rfl rfl rfl ?_); (subst hk0; rw [← hox, Int.pow_zero, Int.mul_one])), (by (refine res_t rfl ?_); (rfl)), trivial⟩
   ·refine sx 8 ?_
    refine gq (z := by (simp; omega)) (.quoR (yc := by omega) (yd := by exact (congrArg IntKind.i64.wrap (Int.ofNat_tdiv 1048576 (bl a.natAbs)).symm).trans (wrap_i64 (by have := Nat.div_le_self 1048576 (bl a.natAbs); omega)))) ?_
    refine sx 4 ?_
    refine wp_c rfl (fun hc => ?_) (fun hc => ?_)
    ·have h5 := of_decide_eq_true hc; have h6 := hok.resolve_left hb; generalize 1048576 / bl a.natAbs = t at *; omega
    ·refine sx 3 ?_
     refine wp_d tbOk hF mixed hG [1] (by kernel_rfl) ?_
     refine sx 1 ?_
     refine wd_ql rfl rfl rfl .loadR ?_
     refine wd_n rfl rfl rfl rfl .allocR ?_
     refine wd_n rfl rfl rfl rfl .allocR ?_
     refine wd_e rfl rfl rfl (.storeR (ye := by decide) (yg := .inl rfl)) (by (exact ⟨trivial, .load _ _ _ _ _ rfl rfl rfl⟩)) ?_
     refine wd_e rfl rfl rfl (.storeR (ye := by decide) (yg := .inl rfl)) (by (exact ⟨trivial, .load _ _ _ _ _ rfl rfl rfl⟩)) ?_
     refine wd_nil ?_
     refine wp_j hK (fun k : Nat => ⟨[(1, .t (.i .i64 k)), (2, .t (.pt (encI a))), (4, .ptr T_Int 0 0 0), (6, .ptr T_Int 1 0 0), (7, .ptr T_Int 2 0 0)], [(0, some (.arr T_Int [.t (encI 0)])), (1, some (.arr T_Int [.t (encI 1)])), (2, some (.arr T_Int [.t (encI a)]))], 3, 0⟩) (fun k => a ^ k = a ^ n ∧ (k : Int) < 9223372036854775808) (fun _ => rfl) ?_ ?_
     ·refine sx 5 ?_
      refine wp_c rfl (fun hc => ?_) (fun hc => ?_)
      ·have hb1 : bl a.natAbs ≤ 1 := by simp at hc; omega
       refine sx 10 ?_
       exact join_n (n % 2 + 2 * min (n / 2) 1) (by exact ⟨small_pow hb1 n, by omega⟩) (by exact imp_less (by repeat' (first | exact trivial | (refine And.intro (by first | rfl | exact geti rfl (by omega)) ?_))) ga (by exact Nat.le_of_ble_eq_true rfl))
      ·refine wp_k ?_
       exact join_n n (by exact ⟨rfl, hn⟩) (by exact il)
     ·rintro k ⟨hk, hk63⟩
      refine sx 2 ?_
      refine wp_l hK (fun ((k, o, x) : Nat × Int × Int) => ⟨[(1, .t (.i .i64 k)), (4, .ptr T_Int 0 0 0), (6, .ptr T_Int 1 0 0), (7, .ptr T_Int 2 0 0)], [(0, some (.arr T_Int [.t (encI 0)])), (1, some (.arr T_Int [.t (encI o)])), (2, some (.arr T_Int [.t (encI x)]))], 3, 0⟩) (fun (k, o, x) => o * x ^ k = a ^ n ∧ (k : Int) < 9223372036854775808 ∧ PowInv o x) (fun (k, _, _) => k) (k, 1, a) ?_ (fun _ => rfl) ?_ ?_
      ·exact ⟨by rw [Int.one_mul]; exact hk, hk63, .start a⟩
      ·exact il
      ·rintro ⟨k, o, x⟩ ⟨hox, hk63, hpi⟩
       refine sx 5 ?_
       refine wp_c rfl (fun hc => ?_) (fun hc => ?_)
       ·have hk0 : 0 < k := by simp at hc; omega
        obtain ⟨hfo, hfx⟩ := hpi.fit hox hk0 hf
        refine sx 2 ?_
        refine wp_j hK (fun ((o2, x2) : Int × Int) => ⟨[(1, .t (.i .i64 k)), (4, .ptr T_Int 0 0 0), (6, .ptr T_Int 1 0 0), (7, .ptr T_Int 2 0 0)], [(0, some (.arr T_Int [.t (encI 0)])), (1, some (.arr T_Int [.t (encI o2)])), (2, some (.arr T_Int [.t (encI x2)]))], 3, 0⟩) (fun (o2, x2) => o2 * x2 ^ (k / 2) = a ^ n ∧ PowInv o2 x2) (fun _ => rfl) ?_ ?_
        ·refine wp_b ?_
         refine wp_j hK (fun o2 : Int => ⟨[(1, .t (.i .i64 k)), (4, .ptr T_Int 0 0 0), (6, .ptr T_Int 1 0 0), (7, .ptr T_Int 2 0 0)], [(0, some (.arr T_Int [.t (encI 0)])), (1, some (.arr T_Int [.t (encI o2)])), (2, some (.arr T_Int [.t (encI x)]))], 3, 0⟩) (fun o2 => o2 * x ^ (2 * (k / 2)) = a ^ n ∧ PowInv o2 x) (fun _ => rfl) ?_ ?_
         ·refine sx 5 ?_
          refine wp_c rfl (fun hc => ?_) (fun hc => ?_)
          ·refine sx 6 ?_
           exact join_n (o * x) (by have h1 : k % 2 = 1 := by { simp at hc; omega }; refine ⟨?_, hpi.mul⟩; rw [← hox, Int.mul_assoc, ← Int.pow_succ']; congr 2; omega) (by exact il)
          ·refine wp_k ?_
           exact join_n o (by have h1 : k % 2 = 0 := by { simp at hc; omega }; refine ⟨?_, hpi⟩; rw [← hox]; congr 2; omega) (by exact il)
         ·rintro o2 ⟨ho2, hpi2⟩
          refine sx 4 ?_
          refine wp_c rfl (fun hc => ?_) (fun hc => ?_)
          ·refine sx 7 ?_
           exact join_n (o2, x * x) (by refine ⟨?_, hpi2.sq⟩; show o2 * (x * x) ^ (k / 2) = _; rw [← ho2, Int.pow_mul]; congr 2; rw [Int.pow_succ, Int.pow_succ, Int.pow_zero, Int.one_mul]) (by exact il)
          ·refine sx 2 ?_
           exact join_n (o2, x) (by have h1 : k / 2 = 0 := by { simp at hc; omega }; refine ⟨?_, hpi2⟩; show o2 * x ^ (k / 2) = _; rw [← ho2, h1]) (by exact il)
        ·rintro ⟨o2, x2⟩ ⟨hx2, hpi3⟩
         refine sx 5 ?_
         exact round_n (k / 2, o2, x2) (by exact ⟨hx2, by omega, hpi3⟩) (by exact Nat.div_lt_self hk0 (by decide)) (by exact il)
       ·have hk0 : k = 0 := by simp at hc; omega
        refine sx 11 ?_
        exact ⟨.inr rfl, rfl, (by (refine res_c rfl rfl rfl rfl rfl ?_); (subst hk0; rw [← hox, Int.pow_zero, Int.mul_one])), (by (refine res_t rfl ?_); (rfl)), trivial⟩
structure Bq (n : Nat) (q : Rat) : Prop where
 num : wl q.num.natAbs ≤ n
 den : wl q.den ≤ n
theorem Bq.le {i n : Nat} {q : Rat} (h : Bq i q) (hi : i ≤ n) : Bq n q := ⟨Nat.le_trans h.1 hi, Nat.le_trans h.2 hi⟩
theorem Bq.fi {q : Rat} (h : Bq 274877906944 q) : Fi 1 q.num ∧ Fi 1 (q.den : Int) := ⟨⟨by rw [Nat.one_mul]; exact h.1⟩, ⟨by rw [Nat.one_mul, Int.natAbs_natCast]; exact h.2⟩⟩
theorem divInt_num_le (n d : Int) (hd : d ≠ 0) : (Rat.divInt n d).num.natAbs ≤ n.natAbs ∧ (Rat.divInt n d).den ≤ d.natAbs := by
 rw [Rat.num_divInt, Rat.den_divInt, if_neg hd]
 constructor
 ·refine Nat.le_trans (Int.natAbs_ediv_le_natAbs _ _) ?_
  rw [Int.natAbs_mul]
  have : d.sign.natAbs ≤ 1 := by
   rcases Int.lt_trichotomy d 0 with h | h | h
   ·rw [Int.sign_eq_neg_one_of_neg h]; decide
   ·exact absurd h hd
   ·rw [Int.sign_eq_one_of_pos h]; decide
  have h2 := Nat.mul_le_mul_right n.natAbs this
  omega
 ·exact Nat.div_le_self _ _
theorem Bq.divInt {i j : Nat} {n d : Int} (hn : wl n.natAbs ≤ i) (hd : wl d.natAbs ≤ j) : Bq (i + j + 1) (Rat.divInt n d) := by
 by_cases h0 : d = 0
 ·subst h0
  rw [Rat.divInt_zero]
  refine ⟨Nat.zero_le _, ?_⟩
  have : wl 1 ≤ 1 := wl_le (by decide)
  exact Nat.le_trans this (Nat.le_add_left _ _)
 ·obtain ⟨h1, h2⟩ := divInt_num_le n d h0
  have h3 := wl_mono h1
  have h4 := wl_mono h2
  exact ⟨by omega, by omega⟩
theorem Bq.mul {i j : Nat} {p q : Rat} (hp : Bq i p) (hq : Bq j q) : Bq (i + j) (p * q) := by
 have hd : (p.den : Int) * q.den ≠ 0 := Int.mul_ne_zero (by have := p.den_nz; omega) (by have := q.den_nz; omega)
 have e : p * q = Rat.divInt (p.num * q.num) (p.den * q.den) := by
  rw [← Rat.divInt_mul_divInt, Rat.num_divInt_den, Rat.num_divInt_den]
 obtain ⟨h1, h2⟩ := divInt_num_le (p.num * q.num) (p.den * q.den) hd
 have h3 := wl_mono h1
 have h4 := wl_mono h2
 rw [Int.natAbs_mul] at h3 h4
 rw [Int.natAbs_natCast, Int.natAbs_natCast] at h4
 have h5 := wl_mul p.num.natAbs q.num.natAbs
 have h6 := wl_mul p.den q.den
 have a1 := hp.1
 have a2 := hp.2
 have b1 := hq.1
 have b2 := hq.2
 rw [e]
 exact ⟨by omega, by omega⟩
theorem Bq.add {i j : Nat} {p q : Rat} (hp : Bq i p) (hq : Bq j q) : Bq (i + j + 1) (p + q) := by
 have hd : (p.den : Int) * q.den ≠ 0 := Int.mul_ne_zero (by have := p.den_nz; omega) (by have := q.den_nz; omega)
 have e : p + q = Rat.divInt (p.num * q.den + q.num * p.den) (p.den * q.den) := by
  rw [← Rat.divInt_add_divInt _ _ (by have := p.den_nz; omega) (by have := q.den_nz; omega), Rat.num_divInt_den, Rat.num_divInt_den]
 obtain ⟨h1, h2⟩ := divInt_num_le (p.num * q.den + q.num * p.den) (p.den * q.den) hd
 have h3 := Nat.le_trans (wl_mono h1) (wl_mono (Int.natAbs_add_le _ _))
 have h4 := wl_mono h2
 rw [Int.natAbs_mul, Int.natAbs_mul] at h3
 rw [Int.natAbs_mul] at h4
 simp only [Int.natAbs_natCast] at h3 h4
 have h5 := wl_add (p.num.natAbs * q.den) (q.num.natAbs * p.den)
 have h6 := wl_mul p.num.natAbs q.den
 have h7 := wl_mul q.num.natAbs p.den
 have h8 := wl_mul p.den q.den
 have a1 := hp.1
 have a2 := hp.2
 have b1 := hq.1
 have b2 := hq.2
 rw [e]
 exact ⟨by omega, by omega⟩
theorem Bq.neg {i : Nat} {p : Rat} (hp : Bq i p) : Bq i (-p) := by
 refine ⟨?_, ?_⟩
 ·show wl (-p.num).natAbs ≤ i; rw [Int.natAbs_neg]; exact hp.1
 ·exact hp.2
theorem Bq.inv {i : Nat} {p : Rat} (hp : Bq i p) : Bq (i + 1) p⁻¹ := by
 have e : p⁻¹ = Rat.divInt p.den p.num := by conv => lhs; rw [← Rat.num_divInt_den p, Rat.inv_divInt]
 by_cases h0 : p.num = 0
 ·rw [e, h0, Rat.divInt_zero]
  have : wl 1 ≤ 1 := wl_le (by decide)
  exact ⟨Nat.zero_le _, Nat.le_trans this (Nat.le_add_left _ _)⟩
 ·obtain ⟨h1, h2⟩ := divInt_num_le p.den p.num h0
  have h3 := wl_mono h1
  have h4 := wl_mono h2
  rw [Int.natAbs_natCast] at h3
  have a1 := hp.1
  have a2 := hp.2
  rw [e]
  exact ⟨by omega, by omega⟩
theorem Bq.div {i j : Nat} {p q : Rat} (hp : Bq i p) (hq : Bq j q) : Bq (i + j + 1) (p / q) := by
 rw [Rat.div_def]; exact hp.mul hq.inv
theorem Bq.small {z : Int} (h : z.natAbs < 18446744073709551616) : Bq 2 (z : Rat) := by
 refine ⟨?_, ?_⟩
 ·rw [Rat.num_intCast]; exact wl_small h
 ·rw [Rat.den_intCast]; exact wl_small (by decide)
theorem Bq.zero : Bq 1 (0 : Rat) := ⟨Nat.zero_le _, wl_le (by decide)⟩
theorem Bq.one : Bq 1 (1 : Rat) := ⟨wl_le (by decide), wl_le (by decide)⟩
theorem wl_val {ws : List Nat} (h : Words ws) : wl (val ws) ≤ ws.length := wl_le (val_lt h)
theorem fi_sgn {b : Bool} {ws : List Nat} (h : Words ws) (hl : ws.length ≤ 4398046511104) : Fi 16 (sgn b (val ws)) := ⟨by
 rw [sgn_natAbs]
 exact Nat.le_trans (wl_val h) hl⟩
theorem rat_one : FnP Tryz.prog tb F_rat_one [] (encI 1) := by
 refine fn1 Tryz.func143 fun G hG hK hF => ?_
 refine sx 8 ?_
 exact ⟨.inr rfl, rfl, (by (refine res_c rfl rfl rfl rfl rfl ?_); (rfl)), trivial⟩
theorem rat_whole (a b : Int) (hb : b ≠ 0) (ha16 : Fi 16 a := by first | assumption | exact Fi.small (by omega) | (apply Fi.le; (focus (repeat' (first | assumption | apply Fi.mul | apply Fi.add | apply Fi.sub | apply Fi.neg | apply Fi.abs | apply Fi.gcd | apply Fi.div | exact Fi.one | exact Fi.zero | exact Fi.small (by omega)))); decide)) (hb16 : Fi 16 b := by first | assumption | exact Fi.small (by omega) | (apply Fi.le; (focus (repeat' (first | assumption | apply Fi.mul | apply Fi.add | apply Fi.sub | apply Fi.neg | apply Fi.abs | apply Fi.gcd | apply Fi.div | exact Fi.one | exact Fi.zero | exact Fi.small (by omega)))); decide)) : FnP Tryz.prog tb F_rat_whole [encI a, encI b] (encI (a / b)) := by
 refine fn1 Tryz.func157 fun G hG hK hF => ?_
 refine sx 8 ?_
 refine oq (.callR (yb := asc (.inl rfl) as1) (yc := num_Div a b hb)) ?_
 refine sx 15 ?_
 exact ⟨.inr rfl, rfl, (by (refine res_c rfl rfl rfl rfl rfl ?_); (rfl)), trivial⟩
theorem rat_WholeI (n : Int) : FnP Tryz.prog tb F_rat_Whole [encI n] (encQI n 1) := by
 refine fn1 Tryz.func145 fun G hG hK hF => ?_
 refine sx 11 ?_
 exact ⟨.inr rfl, rfl, (by (refine res_c rfl rfl rfl rfl rfl ?_); (rfl)), trivial⟩
theorem rat_SignI (n d : Int) : FnP Tryz.prog tb F_rat_Sign [encQI n d] (.i .i64 n.sign) := by
 refine fn1 Tryz.func144 fun G hG hK hF => ?_
 refine sx 7 ?_
 refine oq (.callR (yb := as1) (yc := num_Sign n)) ?_
 refine sx 3 ?_
 exact ⟨.inr rfl, rfl, (by (refine res_t rfl ?_); (rfl)), trivial⟩
theorem rat_NegI (n d : Int) : FnP Tryz.prog tb F_rat_Neg [encQI n d] (encQI (-n) d) := by
 refine fn1 Tryz.func104 fun G hG hK hF => ?_
 refine sx 7 ?_
 refine dq (.callR (yb := as1) (yc := num_Neg n)) ?_
 refine sx 6 ?_
 exact ⟨.inr rfl, rfl, (by (refine res_c rfl rfl rfl rfl rfl ?_); (rfl)), trivial⟩
theorem isOne_cases (z : Int) : ((digits z.natAbs).length ≠ 1 ∧ z ≠ 1) ∨ ((digits z.natAbs).length = 1 ∧ (digits z.natAbs).getD 0 0 ≠ 1 ∧ z ≠ 1) ∨ ((digits z.natAbs).length = 1 ∧ (digits z.natAbs).getD 0 0 = 1 ∧ z.natAbs = 1) := by
 by_cases h1 : (digits z.natAbs).length = 1
 ·obtain ⟨_, h2⟩ := digits_len1 h1
  by_cases h3 : z.natAbs = 1
  ·exact .inr (.inr ⟨h1, by rw [h2, h3], h3⟩)
  ·exact .inr (.inl ⟨h1, by rw [h2]; exact h3, fun e => h3 (by subst e; rfl)⟩)
 ·exact .inl ⟨h1, fun e => h1 (by subst e; rfl)⟩
theorem rat_isOne (z : Int) : FnP Tryz.prog tb F_rat_isOne [encI z] (.b (decide (z = 1))) := by
 refine fn1 Tryz.func147 fun G hG hK hF => ?_
 refine sx 4 ?_
 rcases isOne_cases z with ⟨h1, h2⟩ | ⟨h1, h2, h3⟩ | ⟨h1, h2, h3⟩
 ·refine sx 20 ?_
  exact ⟨.inr rfl, rfl, (by (refine res_t rfl ?_); (simp [h2])), trivial⟩
 ·refine rr ?_
  refine oq .fieldAddrR ?_
  refine oq .loadR ?_
  refine oq (.lenR (yc := .inl rfl) (yd := by exact wds_len)) ?_
  refine oq .cmpR ?_
  refine om ?_
  refine gq (z := by (simp [h1]; done)) .fieldAddrR ?_
  refine gq (z := by (simp [h1]; done)) .loadR ?_
  refine gq (z := by (simp [h1]; done)) (.indexAddrR (yf := by omega) (yg := by exact wds_at2 0 rfl (by omega))) ?_
  refine gq (z := by (simp [h1]; done)) .loadR ?_
  refine gq (z := by (simp [h1]; done)) .cmpR ?_
  refine oq (.pickT rfl (by (simp [h1]; done)) rfl) ?_
  refine om ?_
  refine gs (z := by (rw [show ((((digits z.natAbs).getD 0 0 : Nat) : Int) == 1) = false from beq_eq_false_iff_ne.2 (by omega)]; rfl)) ?_
  refine gs (z := by (rw [show ((((digits z.natAbs).getD 0 0 : Nat) : Int) == 1) = false from beq_eq_false_iff_ne.2 (by omega)]; rfl)) ?_
  refine sx 5 ?_
  exact ⟨.inr rfl, rfl, (by (refine res_t rfl ?_); (simp [h3])), trivial⟩
 ·refine rr ?_
  refine oq .fieldAddrR ?_
  refine oq .loadR ?_
  refine oq (.lenR (yc := .inl rfl) (yd := by exact wds_len)) ?_
  refine oq .cmpR ?_
  refine om ?_
  refine gq (z := by (simp [h1]; done)) .fieldAddrR ?_
  refine gq (z := by (simp [h1]; done)) .loadR ?_
  refine gq (z := by (simp [h1]; done)) (.indexAddrR (yf := by omega) (yg := by exact wds_at2 0 rfl (by omega))) ?_
  refine gq (z := by (simp [h1]; done)) .loadR ?_
  refine gq (z := by (simp [h1]; done)) .cmpR ?_
  refine oq (.pickT rfl (by (simp [h1]; done)) rfl) ?_
  refine om ?_
  refine gq (z := by (rw [show ((((digits z.natAbs).getD 0 0 : Nat) : Int) == 1) = true from beq_iff_eq.2 (by omega)]; rfl)) .fieldAddrR ?_
  refine gq (z := by (rw [show ((((digits z.natAbs).getD 0 0 : Nat) : Int) == 1) = true from beq_iff_eq.2 (by omega)]; rfl)) .loadR ?_
  refine gq (z := by (rw [show ((((digits z.natAbs).getD 0 0 : Nat) : Int) == 1) = true from beq_iff_eq.2 (by omega)]; rfl)) .notR ?_
  refine sx 4 ?_
  exact ⟨.inr rfl, rfl, (by (refine res_t rfl ?_); (exact trb (by by_cases h : z < 0 <;> simp [h] <;> omega))), trivial⟩
theorem encQ_divInt (n d : Int) (hd : d ≠ 0) : encQ (Rat.divInt n d) = encQI (d.sign * n / (Int.gcd d n : Nat)) ((d.natAbs / Int.gcd d n : Nat) : Int) := by
 unfold encQ
 rw [Rat.num_divInt, Rat.den_divInt, if_neg hd]
theorem divInt_pos {n d : Int} (hd : 0 < d) : encQ (Rat.divInt n d) = encQI (n / (Int.gcd n d : Nat)) (d / (Int.gcd n d : Nat)) := by
 rw [encQ_divInt n d (by omega), Int.sign_eq_one_of_pos hd, Int.one_mul, Int.gcd_comm]
 congr 1
 rw [Int.natCast_ediv, Int.natAbs_of_nonneg (by omega)]
theorem divInt_neg {n d : Int} (hd : d < 0) : encQ (Rat.divInt n d) = encQI (n / -(Int.gcd n d : Nat)) (d / -(Int.gcd n d : Nat)) := by
 rw [encQ_divInt n d (by omega), Int.sign_eq_neg_one_of_neg hd, Int.gcd_comm]
 have h1 : ((Int.gcd n d : Nat) : Int) ∣ n := Int.gcd_dvd_left ..
 congr 1
 ·rw [Int.ediv_neg, Int.neg_one_mul, Int.neg_ediv_of_dvd h1]
 ·rw [Int.ediv_neg, Int.natCast_ediv, ← Int.neg_ediv_of_dvd (Int.gcd_dvd_right ..)]
  congr 1; omega
theorem divInt_one {n d : Int} (hd : 0 < d) (hg : Int.gcd n d = 1) : encQ (Rat.divInt n d) = encQI n d := by
 rw [divInt_pos hd, hg]; simp
theorem rat_over (n d : Int) (hd : d ≠ 0) (hn16 : Fi 16 n := by first | assumption | exact Fi.small (by omega) | (apply Fi.le; (focus (repeat' (first | assumption | apply Fi.mul | apply Fi.add | apply Fi.sub | apply Fi.neg | apply Fi.abs | apply Fi.gcd | apply Fi.div | exact Fi.one | exact Fi.zero | exact Fi.small (by omega)))); decide)) (hd16 : Fi 16 d := by first | assumption | exact Fi.small (by omega) | (apply Fi.le; (focus (repeat' (first | assumption | apply Fi.mul | apply Fi.add | apply Fi.sub | apply Fi.neg | apply Fi.abs | apply Fi.gcd | apply Fi.div | exact Fi.one | exact Fi.zero | exact Fi.small (by omega)))); decide)) : FnP Tryz.prog tb F_rat_over [encI n, encI d] (encQ (Rat.divInt n d)) := by
 have hg0 : Int.gcd n d ≠ 0 := fun h => hd (Int.gcd_eq_zero_iff.1 h).2
 have hgf : Fi 16 (Int.gcd n d : Int) := hd16.gcdr n hd
 refine fn1 Tryz.func146 fun G hG hK hF => ?_
 refine sx 8 ?_
 refine oq (.callR (yb := as1) (yc := rat_isOne d)) ?_
 refine sx 1 ?_
 refine wp_c rfl (fun hc => ?_) (fun hc => ?_)
 ·have h1 : d = 1 := by simpa using hc
  refine sx 8 ?_
  exact ⟨.inr rfl, rfl, (by (refine res_c rfl rfl rfl rfl rfl ?_); (rw [divInt_one (n := n) (d := d) (by omega) (by rw [h1]; exact Int.gcd_one)]; rfl)), trivial⟩
 ·refine sx 5 ?_
  refine oq (.callR (yb := asc (.inl rfl) as1) (yc := num_Gcd n d)) ?_
  refine sx 4 ?_
  by_cases hg : Int.gcd n d = 1
  ·refine sx 9 ?_
   refine wp_c rfl (fun hc => ?_) (fun hc => ?_)
   ·have hp : ¬ d < 0 := by simpa using hc
    refine sx 8 ?_
    exact ⟨.inr rfl, rfl, (by (refine res_c rfl rfl rfl rfl rfl ?_); (rw [divInt_one (by omega) hg]; rfl)), trivial⟩
   ·refine sx 8 ?_
    refine wp_c rfl (fun hc => ?_) (fun hc => ?_)
    ·simp at hc; omega
    ·refine sx 2 ?_
     refine wp_j hK (fun g : Int => ⟨[(2, .t (.pt (encI n))), (3, .t (.pt (encI d))), (4, .ptr T_Rat 0 0 0), (5, .ptr T_Int 1 0 0)], [(0, some (.arr T_Rat [.t (encQI 0 0)])), (1, some (.arr T_Int [.t (encI g)]))], 2, 0⟩) (fun g => g = if d < 0 then -(Int.gcd n d : Int) else Int.gcd n d) (fun _ => rfl) ?_ ?_
     ·refine sx 5 ?_
      refine wp_c rfl (fun hc => ?_) (fun hc => ?_)
      ·have hn : d < 0 := Int.sign_neg_iff.1 (by simpa using hc)
       refine sx 5 ?_
       exact join_n (-(Int.gcd n d : Int)) (by rw [if_pos hn]) (by exact il)
      ·have hn : ¬ d < 0 := fun h => by simp [Int.sign_eq_neg_one_of_neg h] at hc
       refine wp_k ?_
       exact join_n ((Int.gcd n d : Nat) : Int) (by rw [if_neg hn]) (by exact il)
     ·rintro g hg'
      have hgz : g ≠ 0 := by subst hg'; split <;> omega
      have hg16 : Fi 16 g := by subst hg'; split; exact hgf.neg; exact hgf
      refine sx 11 ?_
      have heq : encQ (Rat.divInt n d) = encQI (n / g) (d / g) := by
       by_cases hn : d < 0
       ·rw [divInt_neg hn, hg', if_pos hn]
       ·rw [divInt_pos (by omega), hg', if_neg hn]
      exact ⟨.inr rfl, rfl, (by (refine res_c rfl rfl rfl rfl rfl ?_); (rw [heq]; rfl)), trivial⟩
  ·refine sx 9 ?_
   refine wp_c rfl (fun hc => ?_) (fun hc => ?_)
   ·simp at hc
   ·refine sx 8 ?_
    refine wp_c rfl (fun hc => ?_) (fun hc => ?_)
    ·simp at hc; omega
    ·refine sx 2 ?_
     refine wp_j hK (fun g : Int => ⟨[(2, .t (.pt (encI n))), (3, .t (.pt (encI d))), (4, .ptr T_Rat 0 0 0), (5, .ptr T_Int 1 0 0)], [(0, some (.arr T_Rat [.t (encQI 0 0)])), (1, some (.arr T_Int [.t (encI g)]))], 2, 0⟩) (fun g => g = if d < 0 then -(Int.gcd n d : Int) else Int.gcd n d) (fun _ => rfl) ?_ ?_
     ·refine sx 5 ?_
      refine wp_c rfl (fun hc => ?_) (fun hc => ?_)
      ·have hn : d < 0 := Int.sign_neg_iff.1 (by simpa using hc)
       refine sx 5 ?_
       exact join_n (-(Int.gcd n d : Int)) (by rw [if_pos hn]) (by exact il)
      ·have hn : ¬ d < 0 := fun h => by simp [Int.sign_eq_neg_one_of_neg h] at hc
       refine wp_k ?_
       exact join_n ((Int.gcd n d : Nat) : Int) (by rw [if_neg hn]) (by exact il)
     ·rintro g hg'
      have hgz : g ≠ 0 := by subst hg'; split <;> omega
      have hg16 : Fi 16 g := by subst hg'; split; exact hgf.neg; exact hgf
      refine sx 11 ?_
      have heq : encQ (Rat.divInt n d) = encQI (n / g) (d / g) := by
       by_cases hn : d < 0
       ·rw [divInt_neg hn, hg', if_pos hn]
       ·rw [divInt_pos (by omega), hg', if_neg hn]
      exact ⟨.inr rfl, rfl, (by (refine res_c rfl rfl rfl rfl rfl ?_); (rw [heq]; rfl)), trivial⟩
theorem den_ne (p : Rat) : (p.den : Int) ≠ 0 := by have := p.den_nz; omega
theorem mul_den (p q : Rat) : (p.den : Int) * q.den ≠ 0 := Int.mul_ne_zero (den_ne p) (den_ne q)
theorem rat_Mul (p q : Rat) (hp16 : Bq 274877906944 p := by first | assumption | (apply Bq.le; (focus (repeat' (first | assumption | apply Bq.mul | apply Bq.add | apply Bq.sub | apply Bq.neg | apply Bq.div | apply Bq.inv | exact Bq.zero | exact Bq.one | exact Bq.small (by omega)))); omega)) (hq16 : Bq 274877906944 q := by first | assumption | (apply Bq.le; (focus (repeat' (first | assumption | apply Bq.mul | apply Bq.add | apply Bq.sub | apply Bq.neg | apply Bq.div | apply Bq.inv | exact Bq.zero | exact Bq.one | exact Bq.small (by omega)))); omega)) : FnP Tryz.prog tb F_rat_Mul [encQ p, encQ q] (encQ (p * q)) := by
 refine fn1 Tryz.func85 fun G hG hK hF => ?_
 obtain ⟨p1, p2⟩ := hp16.fi
 obtain ⟨q1, q2⟩ := hq16.fi
 refine sx 10 ?_
 refine dq (.callR (yb := asc (.inl rfl) as1) (yc := num_Mul p.num q.num)) ?_
 refine sx 5 ?_
 refine dq (.callR (yb := asc (.inl rfl) as1) (yc := rat_over (p.num * q.num) (p.den * q.den) (mul_den p q))) ?_
 refine sx 3 ?_
 exact ⟨.inr rfl, rfl, (by (refine res_c rfl rfl rfl rfl rfl ?_); (rw [← Rat.divInt_mul_divInt, Rat.num_divInt_den, Rat.num_divInt_den])), trivial⟩
theorem rat_inverse (p : Rat) (hp : p.num ≠ 0) (hp16 : Bq 274877906944 p := by first | assumption | (apply Bq.le; (focus (repeat' (first | assumption | apply Bq.mul | apply Bq.add | apply Bq.sub | apply Bq.neg | apply Bq.div | apply Bq.inv | exact Bq.zero | exact Bq.one | exact Bq.small (by omega)))); omega)) : FnP Tryz.prog tb F_rat_inverse [encQ p] (encQ p⁻¹) := by
 refine fn1 Tryz.func148 fun G hG hK hF => ?_
 obtain ⟨p1, p2⟩ := hp16.fi
 refine sx 9 ?_
 refine oq (.callR (yb := asc (.inl rfl) as1) (yc := rat_over p.den p.num hp)) ?_
 refine sx 3 ?_
 exact ⟨.inr rfl, rfl, (by (refine res_c rfl rfl rfl rfl rfl ?_); (rw [show Rat.divInt p.den p.num = p⁻¹ by conv => { rhs; rw [← Rat.num_divInt_den p, Rat.inv_divInt] }])), trivial⟩
theorem rat_Neg (p : Rat) : FnP Tryz.prog tb F_rat_Neg [encQ p] (encQ (-p)) := by
 have := rat_NegI p.num p.den
 exact this
theorem add_divInt (p q : Rat) : Rat.divInt (p.num * q.den + q.num * p.den) (p.den * q.den) = p + q := by
 rw [← Rat.divInt_add_divInt _ _ (den_ne p) (den_ne q), Rat.num_divInt_den, Rat.num_divInt_den]
theorem rat_Add (p q : Rat) (hp16 : Bq 274877906944 p := by first | assumption | (apply Bq.le; (focus (repeat' (first | assumption | apply Bq.mul | apply Bq.add | apply Bq.sub | apply Bq.neg | apply Bq.div | apply Bq.inv | exact Bq.zero | exact Bq.one | exact Bq.small (by omega)))); omega)) (hq16 : Bq 274877906944 q := by first | assumption | (apply Bq.le; (focus (repeat' (first | assumption | apply Bq.mul | apply Bq.add | apply Bq.sub | apply Bq.neg | apply Bq.div | apply Bq.inv | exact Bq.zero | exact Bq.one | exact Bq.small (by omega)))); omega)) : FnP Tryz.prog tb F_rat_Add [encQ p, encQ q] (encQ (p + q)) := by
 refine fn1 Tryz.func87 fun G hG hK hF => ?_
 obtain ⟨p1, p2⟩ := hp16.fi
 obtain ⟨q1, q2⟩ := hq16.fi
 refine sx 6 ?_
 by_cases h1 : (p.den : Int) = 1
 ·refine sx 10 ?_
  refine wp_c rfl (fun hc => ?_) (fun hc => ?_)
  ·have h2 : (q.den : Int) = 1 := by simpa using hc
   refine sx 5 ?_
   refine oq (.callR (yb := asc (.inl rfl) as1) (yc := num_Add p.num q.num)) ?_
   refine oq (.callR (yb := as1) (yc := rat_WholeI (p.num + q.num))) ?_
   refine sx 4 ?_
   have heq : encQ (p + q) = encQI (p.num + q.num) 1 := by
    rw [← add_divInt, h1, h2, divInt_one (by decide) (by simp)]; simp
   exact ⟨.inr rfl, rfl, (by (refine res_c rfl rfl rfl rfl rfl ?_); (rw [heq])), trivial⟩
  ·refine sx 23 ?_
   exact ⟨.inr rfl, rfl, (by (refine res_c rfl rfl rfl rfl rfl ?_); (rw [add_divInt])), trivial⟩
 ·refine sx 10 ?_
  refine wp_c rfl (fun hc => ?_) (fun hc => ?_)
  ·simp at hc
  ·refine sx 23 ?_
   exact ⟨.inr rfl, rfl, (by (refine res_c rfl rfl rfl rfl rfl ?_); (rw [add_divInt])), trivial⟩
theorem rat_Sub (p q : Rat) (hp16 : Bq 274877906944 p := by first | assumption | (apply Bq.le; (focus (repeat' (first | assumption | apply Bq.mul | apply Bq.add | apply Bq.sub | apply Bq.neg | apply Bq.div | apply Bq.inv | exact Bq.zero | exact Bq.one | exact Bq.small (by omega)))); omega)) (hq16 : Bq 274877906944 q := by first | assumption | (apply Bq.le; (focus (repeat' (first | assumption | apply Bq.mul | apply Bq.add | apply Bq.sub | apply Bq.neg | apply Bq.div | apply Bq.inv | exact Bq.zero | exact Bq.one | exact Bq.small (by omega)))); omega)) : FnP Tryz.prog tb F_rat_Sub [encQ p, encQ q] (encQ (p - q)) := by
 refine fn1 Tryz.func90 fun G hG hK hF => ?_
 refine sx 8 ?_
 refine dq (.callR (yb := as1) (yc := rat_Neg q)) ?_
 refine dq (.callR (yb := asc (.inl rfl) as1) (yc := rat_Add p (-q))) ?_
 refine sx 3 ?_
 exact ⟨.inr rfl, rfl, (by (refine res_c rfl rfl rfl rfl rfl ?_); (rw [Rat.sub_eq_add_neg])), trivial⟩
theorem rat_Div (p q : Rat) (hq : q ≠ 0) (hp16 : Bq 274877906943 p := by first | assumption | (apply Bq.le; (focus (repeat' (first | assumption | apply Bq.mul | apply Bq.add | apply Bq.sub | apply Bq.neg | apply Bq.div | apply Bq.inv | exact Bq.zero | exact Bq.one | exact Bq.small (by omega)))); omega)) (hq16 : Bq 274877906943 q := by first | assumption | (apply Bq.le; (focus (repeat' (first | assumption | apply Bq.mul | apply Bq.add | apply Bq.sub | apply Bq.neg | apply Bq.div | apply Bq.inv | exact Bq.zero | exact Bq.one | exact Bq.small (by omega)))); omega)) : FnP Tryz.prog tb F_rat_Div [encQ p, encQ q] (.tu [encQ (p / q), .i .i64 0]) := by
 have hn : q.num ≠ 0 := fun h => hq (Rat.num_eq_zero.1 h)
 refine fnP_T tbOk Tryz.func96 rfl rfl (Nat.le_of_ble_eq_true rfl) rfl fun G hG hK => ?_
 have hF : Wd Fence.wide := .inl rfl
 refine sx 9 ?_
 refine oq (.callR (yb := as1) (yc := rat_SignI q.num q.den)) ?_
 refine sx 2 ?_
 refine wp_c rfl (fun hc => ?_) (fun hc => ?_)
 ·simp at hc; exact absurd hc hq
 ·refine sx 5 ?_
  refine dq (.callR (yb := as1) (yc := rat_inverse q hn)) ?_
  refine dq (.callR (yb := asc (.inl rfl) as1) (yc := rat_Mul p q⁻¹)) ?_
  refine sx 4 ?_
  exact ⟨.inr rfl, rfl, (by (refine res_c rfl rfl rfl rfl rfl ?_); (rw [Rat.div_def])), (by (refine res_t rfl ?_); (rfl)), trivial⟩
theorem rat_Make (n d : Int) (hd : d ≠ 0) (hn16 : Fi 16 n := by first | assumption | exact Fi.small (by omega) | (apply Fi.le; (focus (repeat' (first | assumption | apply Fi.mul | apply Fi.add | apply Fi.sub | apply Fi.neg | apply Fi.abs | apply Fi.gcd | apply Fi.div | exact Fi.one | exact Fi.zero | exact Fi.small (by omega)))); decide)) (hd16 : Fi 16 d := by first | assumption | exact Fi.small (by omega) | (apply Fi.le; (focus (repeat' (first | assumption | apply Fi.mul | apply Fi.add | apply Fi.sub | apply Fi.neg | apply Fi.abs | apply Fi.gcd | apply Fi.div | exact Fi.one | exact Fi.zero | exact Fi.small (by omega)))); decide)) : FnP Tryz.prog tb F_rat_Make [encI n, encI d] (.tu [encQ (Rat.divInt n d), .i .i64 0]) := by
 refine fnP_T tbOk Tryz.func118 rfl rfl (Nat.le_of_ble_eq_true rfl) rfl fun G hG hK => ?_
 have hF : Wd Fence.wide := .inl rfl
 refine sx 10 ?_
 refine oq (.callR (yb := as1) (yc := num_IsI n)) ?_
 refine sx 3 ?_
 refine gq (.callR (yb := as1) (yc := num_IsI d)) ?_
 refine sx 4 ?_
 refine wp_c rfl (fun hc => ?_) (fun hc => ?_)
 ·simp at hc
 ·refine sx 6 ?_
  refine wp_c rfl (fun hc => ?_) (fun hc => ?_)
  ·simp at hc; exact absurd hc hd
  ·refine sx 6 ?_
   refine oq (.callR (yb := asc (.inl rfl) as1) (yc := rat_over n d hd)) ?_
   refine sx 4 ?_
   exact ⟨.inr rfl, rfl, (by (refine res_c rfl rfl rfl rfl rfl ?_); (rfl)), (by (refine res_t rfl ?_); (rfl)), trivial⟩
def cmpQ (p q : Rat) : Int := if p < q then -1 else if p = q then 0 else 1
theorem cmpQ_eq (p q : Rat) : cmpI (p.num * q.den) (q.num * p.den) = cmpQ p q := by
 unfold cmpI cmpQ
 have h1 : p < q ↔ p.num * q.den < q.num * p.den := Rat.lt_iff p q
 have h2 : p = q ↔ p.num * q.den = q.num * p.den := by
  constructor
  ·rintro rfl; rfl
  ·intro h
   rw [← Rat.num_divInt_den p, ← Rat.num_divInt_den q]
   exact (Rat.divInt_eq_divInt_iff (den_ne p) (den_ne q)).2 h
 simp only [h1, h2]
theorem rat_Cmp (p q : Rat) (hp16 : Bq 274877906944 p := by first | assumption | (apply Bq.le; (focus (repeat' (first | assumption | apply Bq.mul | apply Bq.add | apply Bq.sub | apply Bq.neg | apply Bq.div | apply Bq.inv | exact Bq.zero | exact Bq.one | exact Bq.small (by omega)))); omega)) (hq16 : Bq 274877906944 q := by first | assumption | (apply Bq.le; (focus (repeat' (first | assumption | apply Bq.mul | apply Bq.add | apply Bq.sub | apply Bq.neg | apply Bq.div | apply Bq.inv | exact Bq.zero | exact Bq.one | exact Bq.small (by omega)))); omega)) : FnP Tryz.prog tb F_rat_Cmp [encQ p, encQ q] (.i .i64 (cmpQ p q)) := by
 refine fn1 Tryz.func135 fun G hG hK hF => ?_
 obtain ⟨p1, p2⟩ := hp16.fi
 obtain ⟨q1, q2⟩ := hq16.fi
 refine sx 6 ?_
 by_cases h1 : (p.den : Int) = 1
 ·refine sx 10 ?_
  refine wp_c rfl (fun hc => ?_) (fun hc => ?_)
  ·have h2 : (q.den : Int) = 1 := by simpa using hc
   refine sx 5 ?_
   refine oq (.callR (yb := asc (.inl rfl) as1) (yc := num_Cmp p.num q.num)) ?_
   refine sx 4 ?_
   exact ⟨.inr rfl, rfl, (by (refine res_t rfl ?_); (rw [← cmpQ_eq, h1, h2, Int.mul_one, Int.mul_one])), trivial⟩
  ·refine sx 17 ?_
   exact ⟨.inr rfl, rfl, (by (refine res_t rfl ?_); (rw [cmpQ_eq])), trivial⟩
 ·refine sx 10 ?_
  refine wp_c rfl (fun hc => ?_) (fun hc => ?_)
  ·simp at hc
  ·refine sx 17 ?_
   exact ⟨.inr rfl, rfl, (by (refine res_t rfl ?_); (rw [cmpQ_eq])), trivial⟩
theorem raw_enc {neg : Bool} {ws : List Nat} (hw : Words ws) (h : isW neg ws = true) : rawI neg ws = encI (sgn neg (val ws)) := by
 unfold isW at h
 by_cases h0 : ws.length = 0
 ·rw [if_pos h0] at h
  have : ws = [] := List.length_eq_zero_iff.1 h0
  subst this
  cases neg
  ·rfl
  ·cases h
 ·rw [if_neg h0] at h
  have hl : ws.getD (ws.length - 1) 0 ≠ 0 := by simpa using h
  have hd : digits (val ws) = ws := by rw [digits_eq_trim hw]; exact trimW_of_last (.inr hl)
  have hv : val ws ≠ 0 := fun e => h0 (by rw [e] at hd; rw [← hd]; rfl)
  rw [encI_sgn hv, hd]
def isQ (n1 : Bool) (w1 : List Nat) (n2 : Bool) (w2 : List Nat) : Bool := isW n1 w1 && (isW n2 w2 && (decide (0 < sgn n2 (val w2)) && decide (Int.gcd (sgn n1 (val w1)) (sgn n2 (val w2)) = 1)))
theorem rat_Is (n1 n2 : Bool) (w1 w2 : List Nat) (h1 : Words w1) (h2 : Words w2) (hw1 : w1.length ≤ 4398046511104) (hw2 : w2.length ≤ 4398046511104) : FnP Tryz.prog tb F_rat_Is [rawQ n1 w1 n2 w2] (.b (isQ n1 w1 n2 w2)) := by
 refine fn1 Tryz.func76 fun G hG hK hF => ?_
 refine sx 4 ?_
 rcases (show isW n1 w1 = false ∨ (isW n1 w1 = true ∧ isW n2 w2 = false) ∨ (isW n1 w1 = true ∧ isW n2 w2 = true ∧ ¬ 0 < sgn n2 (val w2)) ∨ (isW n1 w1 = true ∧ isW n2 w2 = true ∧ 0 < sgn n2 (val w2)) by cases isW n1 w1 <;> cases isW n2 w2 <;> simp <;> omega) with c1 | ⟨c1, c2⟩ | ⟨c1, c2, c3⟩ | ⟨c1, c2, c3⟩
 ·refine sx 28 ?_
  exact ⟨.inr rfl, rfl, (by (refine res_t rfl ?_); (rw [isQ, c1]; rfl)), trivial⟩
 ·refine sx 28 ?_
  exact ⟨.inr rfl, rfl, (by (refine res_t rfl ?_); (rw [isQ, c1, c2]; rfl)), trivial⟩
 ·refine sx 28 ?_
  exact ⟨.inr rfl, rfl, (by (refine res_t rfl ?_); (rw [isQ, c1, c2]; refine trb ?_; have h := mt Int.sign_pos_iff.1 c3; simp [c3]; try omega)), trivial⟩
 ·refine sx 20 ?_
  refine gq (z := by (simp; omega)) (.callR (yb := asc (.inl rfl) as1) (yc := raw_enc h1 c1 ▸ raw_enc h2 c2 ▸ num_Gcd (sgn n1 (val w1)) (sgn n2 (val w2)) (fi_sgn h1 hw1) (fi_sgn h2 hw2))) ?_
  refine sx 1 ?_
  refine gq (z := by (simp; omega)) (.callR (yb := asc (.inl rfl) as1) (yc := num_Cmp _ 1)) ?_
  refine sx 5 ?_
  exact ⟨.inr rfl, rfl, (by (refine res_t rfl ?_); (rw [isQ, c1, c2]; refine trb ?_; unfold cmpI; by_cases hg : Int.gcd (sgn n1 (val w1)) (sgn n2 (val w2)) = 1; simp [c3, hg]; simp only [hg, c3]; split; simp; rw [if_neg (by omega)]; simp)), trivial⟩
def lcmI (l : List Int) : Int := l.foldl (fun a x => a * (x / (Int.gcd a x : Int))) 1
theorem encIs_at {l : List Int} {i : Nat} {x : Int} (h : l[i]? = some x) : (l.map encI)[i]? = some (encI x) := by rw [List.getElem?_map, h]; rfl
theorem lcmI_take {l : List Int} {i : Nat} {x : Int} (h : l[i]? = some x) : lcmI (l.take (i + 1)) = lcmI (l.take i) * (x / (Int.gcd (lcmI (l.take i)) x : Int)) := by
 rw [List.take_add_one, h]; simp [lcmI]
theorem rat_multiple (l : List Int) (hl : ∀ x ∈ l, x ≠ 0) (hf1 : ∀ i, i ≤ l.length → Fi 4 (lcmI (l.take i))) (hf2 : ∀ x ∈ l, Fi 4 x) : FnP Tryz.prog tb F_rat_multiple [.sl T_Int (l.map encI)] (encI (lcmI l)) := by
 have hlen : (l.map encI).length = l.length := List.length_map _
 refine fn1 Tryz.func156 fun G hG hK hF => ?_
 refine wp_ll 0 rfl rfl fun hb => ?_
 rw [hlen] at hb
 refine sx 15 ?_
 refine wp_l hK (fun i : Nat => ⟨[(2, .ptr T_Int 0 0 0), (3, .ptr T_Int 1 0 0), (7, .t (.sl T_Int (l.map encI))), (8, .t (.i .i64 l.length)), (9, .t (.i .i64 i))], [(0, some (.arr T_Int [.t (encI 0)])), (1, some (.arr T_Int [.t (encI (lcmI (l.take i)))]))], 2, 0⟩) (fun i => i ≤ l.length) (fun i => l.length - i) 0 ?_ (fun _ => rfl) ?_ ?_
 ·omega
 ·exact il
 ·intro i hi
  refine sx 4 ?_
  refine wp_c rfl (fun hc => ?_) (fun hc => ?_)
  ·have hci : i < l.length := by simp at hc; omega
   obtain ⟨x, hx⟩ : ∃ x, l[i]? = some x := ⟨_, List.getElem?_eq_getElem hci⟩
   have hx0 := hl x (List.mem_of_getElem? hx)
   have hxf := hf2 x (List.mem_of_getElem? hx)
   have hlf := hf1 i hi
   refine sx 5 ?_
   refine oq (.indexAddrR (yf := by omega) (yg := by exact encIs_at hx)) ?_
   refine sx 9 ?_
   refine dq (.callR (yb := asc (.inl rfl) as1) (yc := num_Gcd (lcmI (l.take i)) x)) ?_
   refine dq (.callR (yb := asc (.inl rfl) as1) (yc := rat_whole x (Int.gcd (lcmI (l.take i)) x : Nat) (by have : Int.gcd (lcmI (l.take i)) x ≠ 0 := fun h => hx0 (Int.gcd_eq_zero_iff.1 h).2; omega))) ?_
   refine dq (.callR (yb := asc (.inl rfl) as1) (yc := num_Mul (lcmI (l.take i)) (x / (Int.gcd (lcmI (l.take i)) x : Int)))) ?_
   refine sx 8 ?_
   exact round_n (i + 1) (by omega) (by omega) (by exact imp_trim ga (by repeat' (first | exact trivial | (refine And.intro (by first | rfl | exact geth rfl (by rw [lcmI_take hx]; rfl)) ?_))) rfl (by repeat' (first | exact trivial | refine ⟨Nat.le_of_ble_eq_true rfl, by exact olt_l rfl, ?_⟩)))
  ·obtain rfl : i = l.length := by simp at hc; omega
   refine sx 10 ?_
   exact ⟨.inr rfl, rfl, (by (refine res_c rfl rfl rfl rfl rfl ?_); (rw [List.take_length])), trivial⟩
end Go.Proofs.YtacenhlcfeepgaaGreat
namespace Go.Proofs.YtacenhlcfeepgaaGreat
abbrev headOf {F : Type → Type} {a : Type} (_ : F a) : Type → Type := F
abbrev CRing := headOf Dyadic.instCommRing
class HasF (a : Type) [i : CRing a] where
 dummy : Unit
abbrev fldHead {F : Type → Type} {g : ∀ {a : Type}, F a → CRing a} {a : Type} {x : F a} (_ : @HasF a (g x)) : Type → Type := F
instance hasRat : HasF Rat := ⟨()⟩
abbrev Fld := fldHead hasRat
section
variable {R : Type} [i0 : CRing R] [DecidableEq R]
def trimZ : List R → List R
 | [] => []
 | a :: l => match trimZ l with
  | [] => if a = 0 then [] else [a]
  | b :: m => a :: b :: m
def cf (l : List R) (i : Nat) : R := l.getD i 0
theorem cf_nil (i : Nat) : cf ([] : List R) i = 0 := by simp [cf]
theorem cf_zero (a : R) (l : List R) : cf (a :: l) 0 = a := by simp [cf]
theorem cf_succ (a : R) (l : List R) (i : Nat) : cf (a :: l) (i + 1) = cf l i := by simp [cf]
theorem cf_lt {l : List R} {i : Nat} (h : i < l.length) : cf l i = l[i] := by simp [cf, h]
theorem cf_ge {l : List R} {i : Nat} (h : l.length ≤ i) : cf l i = 0 := by simp [cf, h]
theorem cf_getElem? {l : List R} {i : Nat} {a : R} (h : l[i]? = some a) : cf l i = a := by simp [cf, List.getD_eq_getElem?_getD, h]
theorem trimZ_cf (l : List R) (i : Nat) : cf (trimZ l) i = cf l i := by
 induction l generalizing i with
 | nil => rfl
 | cons a l ih =>
  simp only [trimZ]
  split
  ·rename_i h
   rw [h] at ih
   split
   ·rename_i ha
    cases i with
    | zero => rw [cf_nil, cf_zero, ha]
    | succ i => rw [cf_succ, ← ih i, cf_nil, cf_nil]
   ·cases i with
    | zero => rw [cf_zero, cf_zero]
    | succ i => rw [cf_succ, cf_succ, ih]
  ·rename_i b m h
   rw [h] at ih
   cases i with
   | zero => rw [cf_zero, cf_zero]
   | succ i => rw [cf_succ, cf_succ, ih]
theorem trimZ_idem (l : List R) : trimZ (trimZ l) = trimZ l := by
 induction l with
 | nil => rfl
 | cons a l ih =>
  simp only [trimZ]
  split
  ·rename_i h
   split
   ·rfl
   ·rename_i ha; simp [trimZ, ha]
  ·rename_i b m h
   rw [h] at ih
   rw [trimZ, ih]
theorem trimZ_nil {l : List R} (h : ∀ i, cf l i = 0) : trimZ l = [] := by
 induction l with
 | nil => rfl
 | cons a l ih =>
  have h0 := h 0
  rw [cf_zero] at h0
  simp only [trimZ, ih fun i => by rw [← cf_succ a]; exact h (i + 1), h0, if_true]
theorem trimZ_congr {l m : List R} (h : ∀ i, cf l i = cf m i) : trimZ l = trimZ m := by
 induction l generalizing m with
 | nil => exact (trimZ_nil fun i => by rw [← h, cf_nil]).symm
 | cons a l ih =>
  cases m with
  | nil => exact trimZ_nil fun i => by rw [h, cf_nil]
  | cons b m =>
   have h0 := h 0
   rw [cf_zero, cf_zero] at h0
   have := ih (m := m) fun i => by have := h (i + 1); rwa [cf_succ, cf_succ] at this
   simp only [trimZ, this, h0]
theorem trimZ_last {l : List R} (h : trimZ l ≠ []) : cf (trimZ l) ((trimZ l).length - 1) ≠ 0 := by
 induction l with
 | nil => exact absurd rfl h
 | cons a l ih =>
  simp only [trimZ] at h ⊢
  split at h
  ·rename_i he
   split at h
   ·exact absurd rfl h
   ·rename_i ha
    rw [if_neg ha]; exact (cf_zero a []).symm ▸ ha
  ·rename_i b m he
   have := ih (by rw [he]; simp)
   rw [he] at this
   simpa [cf] using this
theorem trimZ_of_last {l : List R} (h : l = [] ∨ cf l (l.length - 1) ≠ 0) : trimZ l = l := by
 induction l with
 | nil => rfl
 | cons a l ih =>
  cases l with
  | nil =>
   have : a ≠ 0 := by
    rcases h with h | h
    ·cases h
    ·simpa [cf] using h
   simp [trimZ, this]
  | cons b l =>
   have := ih (.inr (by
    rcases h with h | h
    ·cases h
    ·simpa [cf] using h))
   rw [trimZ, this]
end
structure Poly (R : Type) [i0 : CRing R] [DecidableEq R] where
 c : List R
 can : trimZ c = c
namespace Poly
section
variable {R : Type} [i0 : CRing R] [DecidableEq R]
def of (l : List R) : Poly R := ⟨trimZ l, trimZ_idem l⟩
def co (p : Poly R) (i : Nat) : R := cf p.c i
theorem co_of (l : List R) (i : Nat) : (of l).co i = cf l i := trimZ_cf l i
theorem ext' {p q : Poly R} (h : p.c = q.c) : p = q := by cases p; cases q; cases h; rfl
theorem ext {p q : Poly R} (h : ∀ i, p.co i = q.co i) : p = q := ext' (by rw [← p.can, ← q.can]; exact trimZ_congr h)
theorem of_c (p : Poly R) : of p.c = p := ext' p.can
theorem of_can {l : List R} (h : trimZ l = l) : (of l).c = l := h
instance : DecidableEq (Poly R) := fun p q => if h : p.c = q.c then isTrue (ext' h) else isFalse fun e => h (e ▸ rfl)
def addL : List R → List R → List R
 | [], q => q
 | p, [] => p
 | a :: p, b :: q => (a + b) :: addL p q
def smulL (a : R) (p : List R) : List R := p.map (a * ·)
def mulL : List R → List R → List R
 | [], _ => []
 | a :: p, q => addL (smulL a q) (0 :: mulL p q)
theorem cf_addL (p q : List R) (i : Nat) : cf (addL p q) i = cf p i + cf q i := by
 induction p generalizing q i with
 | nil => simp only [addL, cf_nil]; grind
 | cons a p ih =>
  cases q with
  | nil => simp only [addL, cf_nil]; grind
  | cons b q =>
   cases i with
   | zero => simp only [addL, cf_zero]
   | succ i => simp only [addL, cf_succ, ih]
theorem cf_smulL (a : R) (p : List R) (i : Nat) : cf (smulL a p) i = a * cf p i := by
 induction p generalizing i with
 | nil => simp only [smulL, List.map_nil, cf_nil]; grind
 | cons b p ih =>
  cases i with
  | zero => simp only [smulL, List.map_cons, cf_zero]
  | succ i => simp only [smulL, List.map_cons, cf_succ]; exact ih i
theorem cf_mulL_cons (a : R) (p q : List R) (i : Nat) : cf (mulL (a :: p) q) i = a * cf q i + cf (0 :: mulL p q) i := by
 rw [mulL, cf_addL, cf_smulL]
def Eqv (p q : List R) : Prop := ∀ i, cf p i = cf q i
theorem Eqv.cons {p q : List R} (a : R) (h : Eqv p q) : Eqv (a :: p) (a :: q) := fun i => by
 cases i with
 | zero => rw [cf_zero, cf_zero]
 | succ i => rw [cf_succ, cf_succ, h]
theorem mulL_right {p q q' : List R} (h : Eqv q q') : Eqv (mulL p q) (mulL p q') := by
 induction p with
 | nil => exact fun i => rfl
 | cons a p ih => exact fun i => by rw [cf_mulL_cons, cf_mulL_cons, h i, ih.cons 0 i]
theorem mulL_nil (p : List R) (i : Nat) : cf (mulL p []) i = 0 := by
 induction p generalizing i with
 | nil => exact cf_nil i
 | cons a p ih =>
  rw [cf_mulL_cons, cf_nil]
  cases i with
  | zero => rw [cf_zero]; grind
  | succ i => rw [cf_succ, ih]; grind
theorem mulL_cons_right (p : List R) (b : R) (q : List R) (i : Nat) : cf (mulL p (b :: q)) i = b * cf p i + cf (0 :: mulL p q) i := by
 induction p generalizing i with
 | nil => cases i <;> simp only [mulL, cf_nil, cf_zero, cf_succ] <;> grind
 | cons a p ih =>
  rw [cf_mulL_cons]
  cases i with
  | zero => simp only [cf_zero]; grind
  | succ i =>
   simp only [cf_succ, ih, cf_mulL_cons]
   grind
theorem mulL_comm (p q : List R) : Eqv (mulL p q) (mulL q p) := by
 induction p with
 | nil => exact fun i => by rw [mulL_nil, mulL, cf_nil]
 | cons a p ih => exact fun i => by rw [cf_mulL_cons, mulL_cons_right, ih.cons 0 i]
theorem mulL_left {p p' q : List R} (h : Eqv p p') : Eqv (mulL p q) (mulL p' q) := fun i => by rw [mulL_comm, mulL_right h i, mulL_comm]
theorem mulL_add (p q r : List R) (i : Nat) : cf (mulL p (addL q r)) i = cf (mulL p q) i + cf (mulL p r) i := by
 induction p generalizing i with
 | nil => simp only [mulL, cf_nil]; grind
 | cons a p ih =>
  simp only [cf_mulL_cons, cf_addL]
  cases i with
  | zero => simp only [cf_zero]; grind
  | succ i => simp only [cf_succ, ih]; grind
theorem add_mulL (p q r : List R) (i : Nat) : cf (mulL (addL p q) r) i = cf (mulL p r) i + cf (mulL q r) i := by
 rw [mulL_comm, mulL_add, mulL_comm r p i, mulL_comm r q i]
theorem smul_mulL (a : R) (p q : List R) (i : Nat) : cf (mulL (smulL a p) q) i = a * cf (mulL p q) i := by
 induction p generalizing i with
 | nil => simp only [smulL, List.map_nil, mulL, cf_nil]; grind
 | cons b p ih =>
  have e : smulL a (b :: p) = (a * b) :: smulL a p := rfl
  rw [e, cf_mulL_cons, cf_mulL_cons]
  cases i with
  | zero => simp only [cf_zero]; grind
  | succ i => simp only [cf_succ, ih]; grind
theorem shift_mulL (p q : List R) (i : Nat) : cf (mulL (0 :: p) q) i = cf (0 :: mulL p q) i := by
 rw [cf_mulL_cons]; grind
theorem mulL_assoc (p q r : List R) : Eqv (mulL (mulL p q) r) (mulL p (mulL q r)) := by
 induction p with
 | nil => exact fun i => rfl
 | cons a p ih =>
  intro i
  rw [cf_mulL_cons, mulL, add_mulL, smul_mulL, shift_mulL, ih.cons 0 i]
theorem mulL_ge {p q : List R} {i : Nat} (h : p.length + q.length ≤ i + 1) : cf (mulL p q) i = 0 := by
 induction p generalizing i with
 | nil => rw [mulL, cf_nil]
 | cons a p ih =>
  simp only [List.length_cons] at h
  rw [cf_mulL_cons, cf_ge (l := q) (by omega)]
  cases i with
  | zero => rw [cf_zero]; grind
  | succ i => rw [cf_succ, ih (by omega)]; grind
theorem mulL_lead {p q : List R} {i j : Nat} (hi : p.length = i + 1) (hj : q.length = j + 1) : cf (mulL p q) (i + j) = cf p i * cf q j := by
 induction p generalizing i with
 | nil => cases hi
 | cons a p ih =>
  simp only [List.length_cons, Nat.add_right_cancel_iff] at hi
  rw [cf_mulL_cons]
  cases i with
  | zero =>
   have : p = [] := List.length_eq_zero_iff.1 hi
   subst this
   rw [cf_zero, Nat.zero_add]
   cases j with
   | zero => rw [cf_zero]; grind
   | succ j => rw [cf_succ, mulL, cf_nil]; grind
  | succ i =>
   rw [cf_ge (l := q) (by omega), show i + 1 + j = (i + j) + 1 by omega, cf_succ, cf_succ, ih hi]; grind
def add (p q : Poly R) : Poly R := of (addL p.c q.c)
def mul (p q : Poly R) : Poly R := of (mulL p.c q.c)
def smul (a : R) (p : Poly R) : Poly R := of (smulL a p.c)
def neg (p : Poly R) : Poly R := smul (-1) p
def cst (a : R) : Poly R := of [a]
instance : Add (Poly R) := ⟨add⟩
instance : Mul (Poly R) := ⟨mul⟩
instance : Neg (Poly R) := ⟨neg⟩
instance : Sub (Poly R) := ⟨fun p q => add p (neg q)⟩
theorem co_add (p q : Poly R) (i : Nat) : (p + q).co i = p.co i + q.co i := by show (of _).co i = _; rw [co_of, cf_addL]; rfl
theorem co_smul (a : R) (p : Poly R) (i : Nat) : (smul a p).co i = a * p.co i := by rw [smul, co_of, cf_smulL]; rfl
theorem co_neg (p : Poly R) (i : Nat) : (-p).co i = - p.co i := by show (smul (-1) p).co i = _; rw [co_smul]; grind
theorem co_sub (p q : Poly R) (i : Nat) : (p - q).co i = p.co i - q.co i := by show (p + -q).co i = _; rw [co_add, co_neg]; grind
theorem co_mul (p q : Poly R) (i : Nat) : (p * q).co i = cf (mulL p.c q.c) i := co_of _ i
theorem co_cst (a : R) (i : Nat) : (cst a).co i = if i = 0 then a else 0 := by
 rw [cst, co_of]
 cases i with
 | zero => rw [cf_zero]; rfl
 | succ i => rw [cf_succ, cf_nil]; rfl
def ic (i : Int) : R := @IntCast.intCast R i0.toRing.intCast i
theorem ic_neg (i : Int) : (ic (-i) : R) = - ic i := i0.toRing.intCast_neg i
theorem ic_nat (n : Nat) : (ic (OfNat.ofNat n : Int) : R) = OfNat.ofNat n := i0.toRing.intCast_ofNat n
def npow (p : Poly R) : Nat → Poly R
 | 0 => cst 1
 | n + 1 => npow p n * p
instance : HPow (Poly R) Nat (Poly R) := ⟨npow⟩
instance (n : Nat) : OfNat (Poly R) n := ⟨cst (OfNat.ofNat n)⟩
instance : NatCast (Poly R) := ⟨fun n => cst (OfNat.ofNat n)⟩
instance : SMul Nat (Poly R) := ⟨fun n p => cst (OfNat.ofNat n) * p⟩
instance : IntCast (Poly R) := ⟨fun i => cst (ic i)⟩
instance : SMul Int (Poly R) := ⟨fun i p => cst (ic i) * p⟩
theorem co_zero (i : Nat) : (0 : Poly R).co i = 0 := by rw [show (0 : Poly R) = cst 0 from rfl, co_cst]; split <;> rfl
theorem cst_mul (a : R) (p : Poly R) (i : Nat) : (cst a * p).co i = a * p.co i := by
 show (of (mulL (trimZ [a]) p.c)).co i = _
 rw [co_of, mulL_left (fun j => trimZ_cf [a] j) i, cf_mulL_cons]
 cases i with
 | zero => rw [cf_zero]; show a * p.co 0 + 0 = _; grind
 | succ i => rw [cf_succ, mulL, cf_nil]; show a * p.co (i + 1) + 0 = _; grind
theorem add_assoc' (p q r : Poly R) : p + q + r = p + (q + r) := ext fun i => by simp only [co_add]; grind
theorem add_comm' (p q : Poly R) : p + q = q + p := ext fun i => by simp only [co_add]; grind
theorem mul_comm' (p q : Poly R) : p * q = q * p := ext fun i => by rw [co_mul, co_mul, mulL_comm]
theorem mul_assoc' (p q r : Poly R) : p * q * r = p * (q * r) := ext fun i => by
 rw [co_mul, co_mul]
 exact (mulL_left (fun j => trimZ_cf _ j) i).trans ((mulL_assoc _ _ _ i).trans (mulL_right (fun j => (trimZ_cf _ j).symm) i))
theorem mul_add' (p q r : Poly R) : p * (q + r) = p * q + p * r := ext fun i => by
 rw [co_add, co_mul, co_mul, co_mul, ← mulL_add]
 exact mulL_right (fun j => trimZ_cf _ j) i
theorem one_mul' (p : Poly R) : 1 * p = p := ext fun i => by rw [show (1 : Poly R) = cst 1 from rfl, cst_mul]; grind
theorem zero_mul' (p : Poly R) : 0 * p = 0 := ext fun i => by rw [show (0 : Poly R) * p = cst 0 * p from rfl, cst_mul, co_zero]; grind
instance : CRing (Poly R) where
 add_zero p := ext fun i => by rw [co_add, co_zero]; grind
 add_comm := add_comm'
 add_assoc := add_assoc'
 mul_assoc := mul_assoc'
 mul_comm := mul_comm'
 one_mul := one_mul'
 mul_one p := by rw [mul_comm', one_mul']
 left_distrib := mul_add'
 right_distrib p q r := by rw [mul_comm', mul_add', mul_comm' r p, mul_comm' r q]
 zero_mul := zero_mul'
 mul_zero p := by rw [mul_comm', zero_mul']
 pow_zero p := rfl
 pow_succ p n := rfl
 ofNat_succ n := ext fun i => by
  show (cst (OfNat.ofNat (n + 1)) : Poly R).co i = (cst (OfNat.ofNat n) + cst 1 : Poly R).co i
  rw [co_add, co_cst, co_cst, co_cst]; split
  ·exact i0.toRing.toSemiring.ofNat_succ n
  ·grind
 sub_eq_add_neg p q := rfl
 neg_add_cancel p := ext fun i => by rw [co_add, co_neg, co_zero]; grind
 neg_zsmul i p := ext fun j => by
  show (cst (ic (-i) : R) * p).co j = (-(cst (ic i : R) * p)).co j
  rw [co_neg, cst_mul, cst_mul, ic_neg]; grind
 zsmul_natCast_eq_nsmul n p := ext fun j => by
  show (cst (ic (n : Int) : R) * p).co j = (cst (OfNat.ofNat n) * p).co j
  rw [cst_mul, cst_mul, ← ic_nat]; rfl
 intCast_ofNat n := by
  show cst (ic (OfNat.ofNat n : Int) : R) = cst (OfNat.ofNat n)
  rw [ic_nat]
 intCast_neg i := ext fun j => by
  show (cst (ic (-i) : R)).co j = (-(cst (ic i : R))).co j
  rw [co_neg, co_cst, co_cst, ic_neg]; split <;> grind
theorem pow_z (p : Poly R) : p ^ 0 = 1 := rfl
theorem pow_s (p : Poly R) (n : Nat) : p ^ (n + 1) = p ^ n * p := rfl
theorem mul_z (p : Poly R) : p * 0 = 0 := by rw [mul_comm', zero_mul']
theorem cst_mul_cst (a b : R) : cst (a * b) = cst a * cst b := ext fun i => by rw [cst_mul, co_cst, co_cst]; split <;> grind
theorem cst_zero : cst (0 : R) = 0 := rfl
end
end Poly
example (p q : Poly Rat) : (p + q) * (p - q) = p * p - q * q := by grind
namespace Poly
section
variable {R : Type} [CRing R] [DecidableEq R]
def len (p : Poly R) : Nat := p.c.length
def lead (p : Poly R) : R := p.co (p.len - 1)
theorem co_ge {p : Poly R} {i : Nat} (h : p.len ≤ i) : p.co i = 0 := cf_ge h
theorem len_zero : (0 : Poly R).len = 0 := by
 have : (0 : Poly R).c = [] := by
  show trimZ [(0 : R)] = []
  exact trimZ_nil fun i => by cases i <;> simp [cf]
 rw [len, this]; rfl
theorem eq_zero_of_len {p : Poly R} (h : p.len = 0) : p = 0 := ext fun i => by rw [co_ge (by omega), co_zero]
theorem len_pos {p : Poly R} (h : p ≠ 0) : 0 < p.len := Nat.pos_of_ne_zero fun e => h (eq_zero_of_len e)
theorem lead_ne {p : Poly R} (h : p ≠ 0) : p.lead ≠ 0 := by
 have h1 : trimZ p.c ≠ [] := by rw [p.can]; intro e; exact h (eq_zero_of_len (by rw [len, e]; rfl))
 have := trimZ_last h1
 rw [p.can] at this; exact this
theorem len_le {p : Poly R} {n : Nat} (h : ∀ i, n ≤ i → p.co i = 0) : p.len ≤ n := by
 apply Classical.byContradiction
 intro hn
 have hp : p ≠ 0 := fun e => by subst e; rw [len_zero] at hn; omega
 exact lead_ne hp (h (p.len - 1) (by omega))
theorem len_eq {p : Poly R} {n : Nat} (h : ∀ i, n < i → p.co i = 0) (hn : p.co n ≠ 0) : p.len = n + 1 := by
 have h1 := len_le (n := n + 1) fun i hi => h i (by omega)
 apply Classical.byContradiction
 intro hne
 exact hn (co_ge (by omega))
theorem len_add (p q : Poly R) : (p + q).len ≤ max p.len q.len := len_le fun i hi => by rw [co_add, co_ge (by omega), co_ge (by omega)]; grind
theorem len_sub (p q : Poly R) : (p - q).len ≤ max p.len q.len := len_le fun i hi => by rw [co_sub, co_ge (by omega), co_ge (by omega)]; grind
theorem len_mul_le (p q : Poly R) : (p * q).len ≤ p.len + q.len - 1 := len_le fun i hi => by
 rw [co_mul]
 by_cases h : p.len + q.len = 0
 ·exact mulL_ge (by simp only [len] at h; omega)
 ·exact mulL_ge (by simp only [len] at h hi; omega)
theorem len_cst (a : R) : (cst a).len ≤ 1 := len_le fun i hi => by rw [co_cst, if_neg (by omega)]
theorem len_cst_ne {a : R} (h : a ≠ 0) : (cst a).len = 1 := len_eq (n := 0) (fun i hi => by rw [co_cst, if_neg (by omega)]) (by rw [co_cst]; exact h)
theorem len_one_cst {p : Poly R} (h : p.len ≤ 1) : p = cst (p.co 0) := ext fun i => by
 rw [co_cst]; split
 ·rename_i e; rw [e]
 ·exact co_ge (by omega)
def mono (a : R) (n : Nat) : Poly R := of (List.replicate n 0 ++ [a])
theorem cf_mono (a : R) (n i : Nat) : cf (List.replicate n 0 ++ [a]) i = if i = n then a else 0 := by
 simp only [cf, List.getD_eq_getElem?_getD]
 by_cases h1 : i < n
 ·rw [List.getElem?_append_left (by simpa using h1)]; simp [h1, show i ≠ n by omega]
 ·rw [List.getElem?_append_right (by simpa using h1)]
  simp only [List.length_replicate]
  by_cases h2 : i = n
  ·subst h2; simp
  ·rw [List.getElem?_eq_none (by simp; omega)]; simp [h2]
theorem co_mono (a : R) (n i : Nat) : (mono a n).co i = if i = n then a else 0 := by rw [mono, co_of, cf_mono]
theorem co_mono_mul (a : R) (n : Nat) (p : Poly R) (i : Nat) : (mono a n * p).co i = if i < n then 0 else a * p.co (i - n) := by
 show (of (mulL (trimZ (List.replicate n 0 ++ [a])) p.c)).co i = _
 rw [co_of, mulL_left (fun j => trimZ_cf _ j) i]
 induction n generalizing i with
 | zero =>
  simp only [List.replicate_zero, List.nil_append, Nat.not_lt_zero, if_false, Nat.sub_zero]
  rw [cf_mulL_cons]
  cases i with
  | zero => rw [cf_zero]; show a * p.co 0 + 0 = _; grind
  | succ i => rw [cf_succ, mulL, cf_nil]; show a * p.co (i + 1) + 0 = _; grind
 | succ n ih =>
  rw [List.replicate_succ, List.cons_append, shift_mulL]
  cases i with
  | zero => rw [cf_zero, if_pos (by omega)]
  | succ i => rw [cf_succ, ih]; simp only [Nat.add_lt_add_iff_right, Nat.add_sub_add_right]
theorem mono_zero (a : R) : mono a 0 = cst a := rfl
end
section
variable {F : Type} [Fld F] [DecidableEq F]
theorem fld_mul_inv {a : F} (h : a ≠ 0) : a * a⁻¹ = 1 := by grind
theorem fld_div (a b : F) : a / b = a * b⁻¹ := by grind
theorem fld_ne : (0 : F) ≠ 1 := by grind
theorem fmul_ne {a b : F} (ha : a ≠ 0) (hb : b ≠ 0) : a * b ≠ 0 := fun h => hb (by
 have h1 : a * a⁻¹ = 1 := fld_mul_inv ha
 have : a⁻¹ * (a * b) = a⁻¹ * 0 := by rw [h]
 grind)
theorem fone_ne : (1 : F) ≠ 0 := fun h => fld_ne h.symm
theorem len_mul {p q : Poly F} (hp : p ≠ 0) (hq : q ≠ 0) : (p * q).len = p.len + q.len - 1 ∧ (p * q).lead = p.lead * q.lead := by
 have h1 := len_pos hp
 have h2 := len_pos hq
 have h3 : (p * q).co (p.len - 1 + (q.len - 1)) = p.lead * q.lead := by
  rw [co_mul]; exact mulL_lead (by simp only [len] at h1 ⊢; omega) (by simp only [len] at h2 ⊢; omega)
 have h4 : (p * q).len = p.len - 1 + (q.len - 1) + 1 := len_eq (fun i hi => by rw [co_mul]; exact mulL_ge (by simp only [len] at hi h1 h2; omega)) (by rw [h3]; exact fmul_ne (lead_ne hp) (lead_ne hq))
 refine ⟨by omega, ?_⟩
 rw [lead, h4, Nat.add_sub_cancel]; exact h3
theorem mul_ne {p q : Poly F} (hp : p ≠ 0) (hq : q ≠ 0) : p * q ≠ 0 := fun h => by
 have h1 := (len_mul hp hq).1
 have := len_pos hp
 have := len_pos hq
 rw [h, len_zero] at h1; omega
theorem mul_eq_zero {p q : Poly F} (h : p * q = 0) : p = 0 ∨ q = 0 := by
 by_cases hp : p = 0
 ·exact .inl hp
 ·by_cases hq : q = 0
  ·exact .inr hq
  ·exact absurd h (mul_ne hp hq)
theorem mul_cancel {p q r : Poly F} (hp : p ≠ 0) (h : p * q = p * r) : q = r := by
 have h1 : p * (q - r) = 0 := by grind
 rcases mul_eq_zero h1 with h2 | h2
 ·exact absurd h2 hp
 ·grind
def part (p q : Poly F) : Poly F := mono (p.lead / q.lead) (p.len - q.len)
def dmAux : Nat → Poly F → Poly F → Poly F × Poly F
 | 0, p, _ => (0, p)
 | n + 1, p, q => if p.len < q.len then (0, p) else let d := dmAux n (p - part p q * q) q; (part p q + d.1, d.2)
theorem part_len {p q : Poly F} (hq : q ≠ 0) (h : q.len ≤ p.len) : (p - part p q * q).len < p.len := by
 have h1 := len_pos hq
 have h2 : (p - part p q * q).len ≤ p.len - 1 := len_le fun i hi => by
  rw [co_sub, part, co_mono_mul, if_neg (by omega)]
  by_cases he : i = p.len - 1
  ·subst he
   rw [show p.len - 1 - (p.len - q.len) = q.len - 1 by omega]
   have h3 : q.lead ≠ 0 := lead_ne hq
   have h4 : q.co (q.len - 1) = q.lead := rfl
   have h5 : p.co (p.len - 1) = p.lead := rfl
   have h6 : q.lead * q.lead⁻¹ = 1 := fld_mul_inv h3
   rw [h4, h5, fld_div]; grind
  ·rw [co_ge (p := p) (by omega), co_ge (p := q) (by omega)]; grind
 omega
theorem dmAux_spec {q : Poly F} (hq : q ≠ 0) : ∀ (n : Nat) (p : Poly F), p.len ≤ n → p = (dmAux n p q).1 * q + (dmAux n p q).2 ∧ (dmAux n p q).2.len < q.len
 | 0, p, hn => by
  have := len_pos hq
  simp only [dmAux]
  exact ⟨by grind, by omega⟩
 | n + 1, p, hn => by
  simp only [dmAux]
  split
  ·rename_i h; exact ⟨by grind, h⟩
  ·rename_i h
   have h1 := part_len hq (show q.len ≤ p.len by omega)
   obtain ⟨h2, h3⟩ := dmAux_spec hq n (p - part p q * q) (by omega)
   refine ⟨?_, h3⟩
   generalize dmAux n (p - part p q * q) q = d at *
   grind
instance : Div (Poly F) := ⟨fun p q => (dmAux p.len p q).1⟩
instance : Mod (Poly F) := ⟨fun p q => (dmAux p.len p q).2⟩
theorem div_add_mod {p q : Poly F} (hq : q ≠ 0) : p = p / q * q + p % q := (dmAux_spec hq p.len p (Nat.le_refl _)).1
theorem mod_len {p q : Poly F} (hq : q ≠ 0) : (p % q).len < q.len := (dmAux_spec hq p.len p (Nat.le_refl _)).2
theorem div_unique {p q s r : Poly F} (hq : q ≠ 0) (h : p = s * q + r) (hr : r.len < q.len) : s = p / q ∧ r = p % q := by
 have h1 := div_add_mod (p := p) hq
 have h2 := mod_len (p := p) hq
 generalize p / q = s' at *
 generalize p % q = r' at *
 have h3 : (s - s') * q = r' - r := by grind
 by_cases h4 : s - s' = 0
 ·have : s = s' := by grind
  exact ⟨this, by grind⟩
 ·exfalso
  have h5 := (len_mul h4 hq).1
  have h6 := len_sub r' r
  have h7 := len_pos h4
  rw [h3] at h5
  omega
theorem mod_of_lt {p q : Poly F} (hq : q ≠ 0) (h : p.len < q.len) : p % q = p ∧ p / q = 0 := by
 have := div_unique (p := p) (s := 0) (r := p) hq (by grind) h
 exact ⟨this.2.symm, this.1.symm⟩
instance : Dvd (Poly F) := ⟨fun p q => ∃ s, q = p * s⟩
theorem dvd_refl (p : Poly F) : p ∣ p := ⟨1, by grind⟩
theorem dvd_zero (p : Poly F) : p ∣ 0 := ⟨0, by grind⟩
theorem dvd_trans {p q r : Poly F} (h : p ∣ q) (k : q ∣ r) : p ∣ r := by
 obtain ⟨s, rfl⟩ := h; obtain ⟨t, rfl⟩ := k; exact ⟨s * t, by grind⟩
theorem dvd_add {d p q : Poly F} (h : d ∣ p) (k : d ∣ q) : d ∣ p + q := by
 obtain ⟨s, rfl⟩ := h; obtain ⟨t, rfl⟩ := k; exact ⟨s + t, by grind⟩
theorem dvd_sub {d p q : Poly F} (h : d ∣ p) (k : d ∣ q) : d ∣ p - q := by
 obtain ⟨s, rfl⟩ := h; obtain ⟨t, rfl⟩ := k; exact ⟨s - t, by grind⟩
theorem dvd_mul_left {d p : Poly F} (q : Poly F) (h : d ∣ p) : d ∣ q * p := by
 obtain ⟨s, rfl⟩ := h; exact ⟨q * s, by grind⟩
theorem dvd_iff_mod {p q : Poly F} (hq : q ≠ 0) : q ∣ p ↔ p % q = 0 := by
 constructor
 ·rintro ⟨s, rfl⟩
  exact ((div_unique (s := s) (r := 0) hq (by grind) (by rw [len_zero]; exact len_pos hq)).2).symm
 ·intro h
  have := div_add_mod (p := p) hq
  exact ⟨p / q, by rw [h] at this; grind⟩
theorem div_mul_of_dvd {p q : Poly F} (hq : q ≠ 0) (h : q ∣ p) : p / q * q = p := by
 have h1 := div_add_mod (p := p) hq
 rw [(dvd_iff_mod hq).1 h] at h1; grind
theorem zero_dvd {p : Poly F} (h : (0 : Poly F) ∣ p) : p = 0 := by obtain ⟨s, rfl⟩ := h; grind
theorem dvd_len {p q : Poly F} (h : p ∣ q) (hq : q ≠ 0) : p.len ≤ q.len := by
 obtain ⟨s, rfl⟩ := h
 have hp : p ≠ 0 := fun e => hq (by rw [e]; grind)
 have hs : s ≠ 0 := fun e => hq (by rw [e]; grind)
 have := (len_mul hp hs).1
 have := len_pos hs
 have := len_pos hp
 omega
def monic (p : Poly F) : Poly F := cst (1 / p.lead) * p
def Mon (p : Poly F) : Prop := p.lead = 1
theorem finv {a : F} (h : a ≠ 0) : 1 / a * a = 1 := by
 rw [fld_div]
 have : a * a⁻¹ = 1 := fld_mul_inv h
 grind
theorem finv_ne {a : F} (h : a ≠ 0) : 1 / a ≠ 0 := fun e => by
 have := finv h
 rw [e] at this
 have h1 : (0 : F) = 1 := by grind
 exact fld_ne h1
theorem cst_ne {a : F} (h : a ≠ 0) : cst a ≠ 0 := fun e => by
 have := len_cst_ne h
 rw [e, len_zero] at this; cases this
theorem cst_inv {a : F} (h : a ≠ 0) : cst (1 / a) * cst a = (1 : Poly F) := by rw [← cst_mul_cst, finv h]; rfl
theorem lead_cst (a : F) : (cst a).lead = a := by
 by_cases h : a = 0
 ·subst h; rw [lead, cst_zero, co_zero]
 ·rw [lead, len_cst_ne h, co_cst]; rfl
theorem monic_zero : monic (0 : Poly F) = 0 := by rw [monic]; grind
theorem monic_Mon {p : Poly F} (h : p ≠ 0) : Mon (monic p) := by
 rw [Mon, monic, (len_mul (cst_ne (finv_ne (lead_ne h))) h).2, lead_cst, finv (lead_ne h)]
theorem monic_len (p : Poly F) : (monic p).len = p.len := by
 by_cases h : p = 0
 ·subst h; rw [monic_zero]
 ·rw [monic, (len_mul (cst_ne (finv_ne (lead_ne h))) h).1, len_cst_ne (finv_ne (lead_ne h))]; omega
theorem monic_dvd (p : Poly F) : monic p ∣ p ∧ p ∣ monic p := by
 by_cases h : p = 0
 ·subst h; rw [monic_zero]; exact ⟨dvd_refl _, dvd_refl _⟩
 ·refine ⟨⟨cst p.lead, ?_⟩, ⟨cst (1 / p.lead), by rw [monic]; grind⟩⟩
  have := cst_inv (lead_ne h)
  rw [monic]; grind
theorem one_len : (1 : Poly F).len = 1 := len_cst_ne fone_ne
theorem Mon.ne {p : Poly F} (h : Mon p) : p ≠ 0 := fun e => by
 subst e
 rw [Mon, lead, co_zero] at h
 exact fld_ne h
theorem Mon.monic {p : Poly F} (h : Mon p) : monic p = p := by
 rw [Poly.monic, h]
 have : (1 : F) / 1 = 1 := by have := finv (F := F) fone_ne; grind
 rw [this]
 show (1 : Poly F) * p = p
 grind
theorem dvd_antisymm {p q : Poly F} (h : p ∣ q) (k : q ∣ p) : monic p = monic q := by
 obtain ⟨s, hs⟩ := h
 obtain ⟨t, ht⟩ := k
 by_cases hp : p = 0
 ·subst hp
  have : q = 0 := by rw [hs]; grind
  rw [this]
 ·have hq : q ≠ 0 := fun e => hp (by rw [ht, e]; grind)
  have hs0 : s ≠ 0 := fun e => hq (by rw [hs, e]; grind)
  have ht0 : t ≠ 0 := fun e => hp (by rw [ht, e]; grind)
  have h1 := (len_mul hp hs0).1
  have h2 := (len_mul hq ht0).1
  rw [← hs] at h1
  rw [← ht] at h2
  have := len_pos hs0
  have := len_pos ht0
  have := len_pos hp
  have hs1 := len_one_cst (p := s) (by omega)
  have hsl := (len_mul hp hs0).2
  rw [← hs] at hsl
  have hsc : s.lead ≠ 0 := lead_ne hs0
  have hlc : s.lead = s.co 0 := by rw [lead, show s.len = 1 by omega]
  rw [← hlc] at hs1
  rw [Poly.monic, Poly.monic, hsl]
  have h3 : (1 : F) / (p.lead * s.lead) * s.lead = 1 / p.lead := by
   have a1 := finv (lead_ne hp)
   have a2 := finv hsc
   have a3 := finv (fmul_ne (lead_ne hp) hsc)
   generalize 1 / (p.lead * s.lead) = z at *
   generalize 1 / p.lead = x at *
   grind
  rw [← h3, cst_mul_cst]
  conv => rhs; rw [hs, hs1]
  grind
def gcdAux : Nat → Poly F → Poly F → Poly F
 | 0, p, _ => p
 | n + 1, p, q => if q = 0 then p else gcdAux n q (p % q)
def gcd (p q : Poly F) : Poly F := monic (gcdAux (q.len + 1) p q)
structure IsGcd (g p q : Poly F) : Prop where
 left : g ∣ p
 right : g ∣ q
 comb : ∃ u v, g = u * p + v * q
theorem IsGcd.dvd {g p q d : Poly F} (h : IsGcd g p q) (h1 : d ∣ p) (h2 : d ∣ q) : d ∣ g := by
 obtain ⟨u, v, rfl⟩ := h.comb
 exact dvd_add (dvd_mul_left _ h1) (dvd_mul_left _ h2)
theorem IsGcd.step {g p q : Poly F} (hq : q ≠ 0) (h : IsGcd g q (p % q)) : IsGcd g p q := by
 have h1 := div_add_mod (p := p) hq
 refine ⟨?_, h.left, ?_⟩
 ·rw [h1]; exact dvd_add (dvd_mul_left _ h.left) h.right
 ·obtain ⟨u, v, h2⟩ := h.comb
  exact ⟨v, u - v * (p / q), by grind⟩
theorem IsGcd.unstep {g p q : Poly F} (hq : q ≠ 0) (h : IsGcd g p q) : IsGcd g q (p % q) := by
 have h1 := div_add_mod (p := p) hq
 refine ⟨h.right, ?_, ?_⟩
 ·have : p % q = p - p / q * q := by grind
  rw [this]; exact dvd_sub h.left (dvd_mul_left _ h.right)
 ·obtain ⟨u, v, h2⟩ := h.comb
  exact ⟨v + u * (p / q), u, by grind⟩
theorem IsGcd.zero (p : Poly F) : IsGcd p p 0 := ⟨dvd_refl p, dvd_zero p, 1, 0, by grind⟩
theorem IsGcd.symm {g p q : Poly F} (h : IsGcd g p q) : IsGcd g q p := by
 obtain ⟨u, v, h2⟩ := h.comb
 exact ⟨h.right, h.left, v, u, by grind⟩
theorem IsGcd.of_dvd {g g' p q : Poly F} (h : IsGcd g p q) (h1 : g' ∣ g) (h2 : g ∣ g') : IsGcd g' p q := by
 refine ⟨dvd_trans h1 h.left, dvd_trans h1 h.right, ?_⟩
 obtain ⟨u, v, h3⟩ := h.comb
 obtain ⟨s, rfl⟩ := h2
 exact ⟨u * s, v * s, by rw [h3]; grind⟩
theorem gcdAux_is : ∀ (n : Nat) (p q : Poly F), q.len < n → IsGcd (gcdAux n p q) p q
 | 0, p, q, h => by omega
 | n + 1, p, q, h => by
  simp only [gcdAux]
  split
  ·rename_i e; subst e; exact .zero p
  ·rename_i hq
   have := mod_len (p := p) hq
   exact (gcdAux_is n q (p % q) (by omega)).step hq
theorem gcd_is (p q : Poly F) : IsGcd (gcd p q) p q := (gcdAux_is _ p q (Nat.lt_succ_self _)).of_dvd (monic_dvd _).1 (monic_dvd _).2
theorem IsGcd.unique {g p q : Poly F} (h : IsGcd g p q) : monic g = gcd p q := by
 have h1 := gcdAux_is (q.len + 1) p q (Nat.lt_succ_self _)
 exact dvd_antisymm (h1.dvd h.left h.right) (h.dvd h1.left h1.right)
theorem gcd_zero_iff {p q : Poly F} : gcd p q = 0 ↔ p = 0 ∧ q = 0 := by
 constructor
 ·intro h
  have h1 := gcd_is p q
  rw [h] at h1
  exact ⟨zero_dvd h1.left, zero_dvd h1.right⟩
 ·rintro ⟨rfl, rfl⟩
  rw [← (IsGcd.zero (0 : Poly F)).unique, monic_zero]
theorem gcd_monic (p q : Poly F) : monic (gcd p q) = gcd p q := (gcd_is p q).unique
theorem gcd_zero (p : Poly F) : gcd p 0 = monic p := (IsGcd.zero p).unique.symm
theorem gcd_symm (p q : Poly F) : gcd p q = gcd q p := by rw [← (gcd_is p q).symm.unique, gcd_monic]
theorem gcd_mod {p q : Poly F} (hq : q ≠ 0) : gcd p q = gcd q (p % q) := by rw [← ((gcd_is p q).unstep hq).unique, gcd_monic]
theorem IsGcd.assoc {g p q p' q' : Poly F} (h : IsGcd g p q) (hp : p ∣ p' ∧ p' ∣ p) (hq : q ∣ q' ∧ q' ∣ q) : IsGcd g p' q' := by
 refine ⟨dvd_trans h.left hp.1, dvd_trans h.right hq.1, ?_⟩
 obtain ⟨u, v, h3⟩ := h.comb
 obtain ⟨s, rfl⟩ := hp.2
 obtain ⟨t, rfl⟩ := hq.2
 exact ⟨u * s, v * t, by rw [h3]; grind⟩
theorem gcd_monics (p q : Poly F) : gcd (monic p) (monic q) = gcd p q := by
 rw [← ((gcd_is p q).assoc ⟨(monic_dvd p).2, (monic_dvd p).1⟩ ⟨(monic_dvd q).2, (monic_dvd q).1⟩).unique, gcd_monic]
end
end Poly
namespace Poly
section
variable {R : Type} [i0 : CRing R] [DecidableEq R]
def X : Poly R := mono 1 1
theorem co_X_mul (p : Poly R) (i : Nat) : (X * p).co i = if i = 0 then 0 else p.co (i - 1) := by
 rw [X, co_mono_mul]
 by_cases h : i = 0
 ·subst h; rfl
 ·rw [if_neg (by omega), if_neg h]; grind
theorem of_cons (a : R) (l : List R) : of (a :: l) = cst a + X * of l := ext fun i => by
 rw [co_of, co_add, co_cst, co_X_mul]
 cases i with
 | zero => rw [cf_zero]; simp only [if_true]; grind
 | succ i => rw [cf_succ, if_neg (by omega), if_neg (by omega), Nat.add_sub_cancel, co_of]; grind
theorem of_nil : of ([] : List R) = 0 := ext fun i => by rw [co_of, cf_nil, co_zero]
theorem ind {M : Poly R → Prop} (h0 : M 0) (h : ∀ a p, M p → M (cst a + X * p)) (p : Poly R) : M p := by
 rw [← of_c p]
 generalize p.c = l
 induction l with
 | nil => rw [of_nil]; exact h0
 | cons a l ih => rw [of_cons]; exact h a _ ih
def evalL : List R → R → R
 | [], _ => 0
 | a :: l, x => a + x * evalL l x
def eval (p : Poly R) (x : R) : R := evalL p.c x
theorem evalL_zero {l : List R} (h : ∀ i, cf l i = 0) (x : R) : evalL l x = 0 := by
 induction l with
 | nil => rfl
 | cons a l ih =>
  have h0 := h 0
  rw [cf_zero] at h0
  rw [evalL, ih fun i => by rw [← cf_succ a]; exact h (i + 1), h0]; grind
theorem evalL_congr {l m : List R} (h : ∀ i, cf l i = cf m i) (x : R) : evalL l x = evalL m x := by
 induction l generalizing m with
 | nil => rw [evalL_zero (l := m) fun i => by rw [← h, cf_nil]]; rfl
 | cons a l ih =>
  cases m with
  | nil => rw [evalL_zero (l := a :: l) fun i => by rw [h, cf_nil]]; rfl
  | cons b m =>
   have h0 := h 0
   rw [cf_zero, cf_zero] at h0
   rw [evalL, evalL, h0, ih (m := m) fun i => by have := h (i + 1); rwa [cf_succ, cf_succ] at this]
theorem eval_of (l : List R) (x : R) : (of l).eval x = evalL l x := evalL_congr (fun i => trimZ_cf l i) x
theorem eval_zero (x : R) : (0 : Poly R).eval x = 0 := by rw [← of_nil, eval_of]; rfl
theorem evalL_addL (l m : List R) (x : R) : evalL (addL l m) x = evalL l x + evalL m x := by
 induction l generalizing m with
 | nil => rw [addL, evalL]; grind
 | cons a l ih =>
  cases m with
  | nil => rw [addL, evalL, evalL]; grind; simp
  | cons b m => rw [addL, evalL, evalL, evalL, ih]; grind
theorem eval_add (p q : Poly R) (x : R) : (p + q).eval x = p.eval x + q.eval x := by
 show (of (addL p.c q.c)).eval x = _
 rw [eval_of, evalL_addL]; rfl
theorem eval_cX (a : R) (p : Poly R) (x : R) : (cst a + X * p).eval x = a + x * p.eval x := by
 rw [← of_c p, ← of_cons, eval_of, evalL, eval_of]
theorem eval_mul (p q : Poly R) (x : R) : (p * q).eval x = p.eval x * q.eval x := by
 revert p
 apply ind
 ·rw [zero_mul', eval_zero]; grind
 ·intro a p ih
  have e : (cst a + X * p) * q = cst a * q + (cst 0 + X * (p * q)) := by rw [cst_zero]; grind
  rw [e, eval_add, eval_cX, eval_cX, ih]
  have e2 : (cst a * q).eval x = a * q.eval x := by
   revert q
   apply ind
   ·have : cst a * (0 : Poly R) = 0 := by grind
    rw [this, eval_zero]; grind
   ·intro b q ihq
    intro ih e
    have e3 : cst a * (cst b + X * q) = cst (a * b) + X * (cst a * q) := by rw [cst_mul_cst]; grind
    rw [e3, eval_cX, eval_cX]
    have : (cst a * q).eval x = a * q.eval x := by
     clear ih e e3 ihq
     revert q
     apply ind
     ·have : cst a * (0 : Poly R) = 0 := by grind
      rw [this, eval_zero]; grind
     ·intro b q ihq
      have e3 : cst a * (cst b + X * q) = cst (a * b) + X * (cst a * q) := by rw [cst_mul_cst]; grind
      rw [e3, eval_cX, eval_cX, ihq]; grind
    rw [this]; grind
  rw [e2]; grind
def compL : List R → Poly R → Poly R
 | [], _ => 0
 | a :: l, q => compL l q * q + cst a
def comp (p q : Poly R) : Poly R := compL p.c q
def derivL : List R → List R
 | [] => []
 | _ :: l => addL l (0 :: derivL l)
def deriv (p : Poly R) : Poly R := of (derivL p.c)
def nc (n : Nat) : R := OfNat.ofNat n
theorem nc_succ (n : Nat) : (nc (n + 1) : R) = nc n + 1 := i0.toRing.toSemiring.ofNat_succ n
theorem cf_derivL (l : List R) (i : Nat) : cf (derivL l) i = nc (i + 1) * cf l (i + 1) := by
 induction l generalizing i with
 | nil => rw [derivL, cf_nil, cf_nil]; grind
 | cons a l ih =>
  rw [derivL, cf_addL, cf_succ]
  cases i with
  | zero =>
   rw [cf_zero, nc_succ]
   have : (nc 0 : R) = 0 := rfl
   rw [this]; grind
  | succ i => rw [cf_succ, ih, nc_succ (i + 1)]; grind
theorem co_deriv (p : Poly R) (i : Nat) : p.deriv.co i = nc (i + 1) * p.co (i + 1) := by rw [deriv, co_of, cf_derivL]; rfl
theorem deriv_zero : deriv (0 : Poly R) = 0 := ext fun i => by rw [co_deriv, co_zero, co_zero]; grind
end
def integ (p : Poly Rat) : Poly Rat := of ((List.range (p.len + 1)).map fun i => if i = 0 then 0 else p.co (i - 1) / (i : Rat))
end Poly
namespace Poly
section
variable {R : Type} [CRing R] [DecidableEq R]
theorem cf_set {l : List R} {k : Nat} (h : k < l.length) (v : R) (i : Nat) : cf (l.set k v) i = if i = k then v else cf l i := by
 simp only [cf, List.getD_eq_getElem?_getD, List.getElem?_set]
 by_cases hi : i = k
 ·subst hi; simp [h]
 ·rw [if_neg (fun e => hi e.symm), if_neg hi]
theorem of_set {l : List R} {k : Nat} (h : k < l.length) (v : R) : of (l.set k v) = of l + mono (v - cf l k) k := ext fun i => by
 rw [co_of, co_add, co_of, co_mono, cf_set h]
 split
 ·rename_i e; rw [e]; grind
 ·grind
theorem cf_take (l : List R) (n i : Nat) : cf (l.take n) i = if i < n then cf l i else 0 := by
 simp only [cf, List.getD_eq_getElem?_getD, List.getElem?_take]
 split <;> rfl
theorem of_take_succ {l : List R} {i : Nat} {a : R} (h : l[i]? = some a) : of (l.take (i + 1)) = of (l.take i) + mono a i := ext fun j => by
 rw [co_of, co_add, co_of, co_mono, cf_take, cf_take]
 by_cases hj : j = i
 ·subst hj; rw [if_pos (by omega), if_neg (by omega), if_pos rfl, cf_getElem? h]; grind
 ·rw [if_neg hj]
  by_cases hlt : j < i
  ·rw [if_pos (by omega), if_pos hlt]; grind
  ·rw [if_neg (by omega), if_neg hlt]; grind
theorem mono_mul (a b : R) (i j : Nat) : mono a i * mono b j = mono (a * b) (i + j) := ext fun k => by
 rw [co_mono_mul, co_mono, co_mono]
 by_cases h1 : k < i
 ·rw [if_pos h1, if_neg (by omega)]
 ·rw [if_neg h1]
  by_cases h2 : k - i = j
  ·rw [if_pos h2, if_pos (by omega)]
  ·rw [if_neg h2, if_neg (by omega)]; grind
theorem mono_0 (n : Nat) : mono (0 : R) n = 0 := ext fun i => by rw [co_mono, co_zero]; split <;> rfl
theorem of_take_all {p : Poly R} {n : Nat} (h : p.len ≤ n) : of (p.c.take n) = p := by
 rw [List.take_of_length_le h, of_c]
theorem of_take_zero (l : List R) : of (l.take 0) = 0 := by rw [List.take_zero, of_nil]
theorem trim_of_len {l : List R} (h : (of l).len = l.length) : trimZ l = l := by
 by_cases h0 : l = []
 ·subst h0; rfl
 ·refine trimZ_of_last (.inr ?_)
  have hp := List.length_pos_iff.2 h0
  have hne : of l ≠ 0 := fun e => by rw [e, len_zero] at h; omega
  have := lead_ne hne
  rw [lead, h, co_of] at this; exact this
theorem len_add_lt {p q : Poly R} (h : q.len < p.len) : (p + q).len = p.len := by
 have h1 := len_add p q
 have hp : p ≠ 0 := fun e => by rw [e, len_zero] at h; omega
 have : (p + q).len = p.len - 1 + 1 := len_eq (fun i hi => by rw [co_add, co_ge (by omega), co_ge (by omega)]; grind) (by
  rw [co_add, co_ge (p := q) (by omega)]
  have := lead_ne hp
  intro e
  have e2 : p.co (p.len - 1) = 0 := by grind
  exact this e2)
 omega
end
section
variable {F : Type} [Fld F] [DecidableEq F]
theorem div_len {p q : Poly F} (hq : q ≠ 0) (h : q.len ≤ p.len) : (p / q).len = p.len - q.len + 1 := by
 have h1 := div_add_mod (p := p) hq
 have h2 := mod_len (p := p) hq
 have hd : p / q ≠ 0 := fun e => by
  rw [e] at h1
  have : p = p % q := by grind
  rw [← this] at h2; omega
 have h3 := (len_mul hd hq).1
 have h4 := len_pos hd
 have h5 := len_pos hq
 have h6 := len_add_lt (p := p / q * q) (q := p % q) (by omega)
 rw [← h1] at h6
 omega
end
end Poly
namespace Poly
section
variable {F : Type} [Fld F] [DecidableEq F]
noncomputable def bezU (p q : Poly F) : Poly F := Classical.choose (gcd_is p q).comb % (q / gcd p q)
noncomputable def bezV (p q : Poly F) : Poly F := (gcd p q - bezU p q * p) / q
theorem per_ne {p q : Poly F} (hq : q ≠ 0) : gcd p q ≠ 0 ∧ q / gcd p q ≠ 0 ∧ q / gcd p q * gcd p q = q := by
 have hg : gcd p q ≠ 0 := fun e => hq (gcd_zero_iff.1 e).2
 have h1 := div_mul_of_dvd hg (gcd_is p q).right
 refine ⟨hg, fun e => hq ?_, h1⟩
 rw [← h1, e]; grind
theorem bez_mod {p q u v : Poly F} (hq : q ≠ 0) (h : gcd p q = u * p + v * q) : ∃ w, gcd p q = u % (q / gcd p q) * p + w * q := by
 obtain ⟨hg, hd, hm⟩ := per_ne (p := p) hq
 have hp := div_mul_of_dvd hg (gcd_is p q).left
 have h1 := div_add_mod (p := u) hd
 generalize gcd p q = g at *
 generalize q / g = d at *
 generalize p / g = e at *
 refine ⟨v + u / d * e, ?_⟩
 generalize u / d = k at *
 generalize u % d = r at *
 grind
theorem bezU_spec {p q : Poly F} (hq : q ≠ 0) : (bezU p q).len < (q / gcd p q).len ∧ ∃ w, gcd p q = bezU p q * p + w * q := by
 obtain ⟨v, hv⟩ := Classical.choose_spec (gcd_is p q).comb
 exact ⟨mod_len (per_ne hq).2.1, bez_mod hq hv⟩
theorem bezU_unique {p q u w : Poly F} (hq : q ≠ 0) (hl : u.len < (q / gcd p q).len) (h : gcd p q = u * p + w * q) : u = bezU p q := by
 obtain ⟨h1, w', h2⟩ := bezU_spec (p := p) hq
 obtain ⟨hg, hd, hm⟩ := per_ne (p := p) hq
 have hp := div_mul_of_dvd hg (gcd_is p q).left
 generalize bezU p q = u' at *
 generalize gcd p q = g at *
 generalize q / g = d at *
 generalize p / g = e at *
 -- d divides u - u'
 have h3 : g * ((u - u') * e) = g * ((w' - w) * d) := by grind
 have h4 := mul_cancel hg h3
 have h5 : g * 1 = g * (u * e + w * d) := by grind
 have h6 := mul_cancel hg h5
 have h7 : u - u' = d * ((u - u') * w + u * (w' - w)) := by grind
 apply Classical.byContradiction
 intro hne
 have h8 : u - u' ≠ 0 := fun e => hne (by grind)
 have h9 := dvd_len (p := d) ⟨_, h7⟩ h8
 have := len_sub u u'
 omega
noncomputable def bez (p q : Poly F) : Poly F × Poly F × Poly F := if q = 0 then (if p = 0 then (0, 0, 0) else (monic p, cst (1 / p.lead), 0)) else (gcd p q, bezU p q, bezV p q)
theorem bez_gcd (p q : Poly F) : (bez p q).1 = gcd p q := by
 unfold bez
 split
 ·rename_i h; subst h
  split
  ·rename_i h; subst h; rw [gcd_zero, monic_zero]
  ·rw [gcd_zero]
 ·rfl
end
end Poly
namespace Poly
section
variable {F : Type} [Fld F] [DecidableEq F]
def sqfAux : Nat → Poly F → Poly F → List (Poly F)
 | 0, _, _ => []
 | n + 1, a, g => if a.len ≤ 1 then [] else (a / gcd a g) :: sqfAux n (gcd a g) (g / gcd a g)
def sqf (p : Poly F) : List (Poly F) := sqfAux (2 * p.len + 1) (monic p / gcd p (deriv p)) (gcd p (deriv p))
theorem sqf_step {a g : Poly F} (ha : 1 < a.len) (hg : g ≠ 0) : gcd a g ≠ 0 ∧ g / gcd a g ≠ 0 ∧ (gcd a g).len + (g / gcd a g).len < a.len + g.len := by
 have ha0 : a ≠ 0 := fun e => by rw [e, len_zero] at ha; omega
 have hc : gcd a g ≠ 0 := fun e => ha0 (gcd_zero_iff.1 e).1
 have h1 := dvd_len (gcd_is a g).left ha0
 have h2 := dvd_len (gcd_is a g).right hg
 have h3 := div_len hc h2
 have h4 := len_pos hc
 refine ⟨hc, fun e => by rw [e, len_zero] at h3; omega, ?_⟩
 omega
theorem sqfAux_fuel : ∀ (n m : Nat) (a g : Poly F), g ≠ 0 → a.len + g.len ≤ n → a.len + g.len ≤ m → sqfAux n a g = sqfAux m a g
 | 0, m, a, g, hg, hn, _ => by have := len_pos hg; omega
 | n + 1, 0, a, g, hg, _, hm => by have := len_pos hg; omega
 | n + 1, m + 1, a, g, hg, hn, hm => by
  simp only [sqfAux]
  split
  ·rfl
  ·rename_i h
   obtain ⟨_, h2, h3⟩ := sqf_step (show 1 < a.len by omega) hg
   rw [sqfAux_fuel n m _ _ h2 (by omega) (by omega)]
end
end Poly
end Go.Proofs.YtacenhlcfeepgaaGreat
namespace Go.Proofs.YtacenhlcfeepgaaGreat
open Go Eng
theorem encQs_at {l : List Rat} {i : Nat} {x : Rat} (h : l[i]? = some x) : (l.map encQ)[i]? = some (encQ x) := by rw [List.getElem?_map, h]; rfl
theorem encQs_len {l : List Rat} : (l.map encQ).length = l.length := List.length_map _
theorem take_map {α β : Type} {l : List α} {i : Nat} {x : α} (f : α → β) (h : l[i]? = some x) : (l.take i).map f ++ [f x] = (l.take (i + 1)).map f := by
 rw [List.take_add_one, h]; simp
def lcmQ (l : List Rat) : Int := lcmI (l.map fun q => (q.den : Int))
theorem rat_Common (l : List Rat) (hf1 : ∀ i, i ≤ l.length → Fi 4 (lcmI ((l.map fun q => (q.den : Int)).take i))) (hf2 : ∀ q ∈ l, Bq 274877906944 q) : FnP Tryz.prog tb F_rat_Common [encQs l] (.tu [encIs (l.map fun q => q.num * (lcmQ l / q.den)), encI (lcmQ l), .i .i64 0]) := by
 have hlen : (l.map encQ).length = l.length := List.length_map _
 refine fnP_T tbOk Tryz.func110 rfl rfl (Nat.le_of_ble_eq_true rfl) rfl fun G hG hK => ?_
 have hF : Wd Fence.wide := .inl rfl
 refine wp_bound 0 rfl fun hb => ?_
 have hb : (l.map encQ).length * 64 ≤ 140737488355328 := hb
 rw [hlen] at hb
 refine sx 15 ?_
 refine wp_l2 hK (krc 0 rfl (krc 2 rfl (krc 3 rfl (krc 10 rfl (krc 11 rfl krn))))) (khc 0 rfl khn) (fun sl' h' (i : Nat) => ⟨(5, ap T_Int 1 ((l.take i).map fun q => encI (q.den : Int))) :: (12, .t (.i .i64 (i))) :: sl', (1, apO T_Int ((l.take i).map fun q => encI (q.den : Int))) :: h', 2, 0⟩) (fun i => i ≤ l.length) (fun i => l.length - i) 0 ?_ (fun _ => rfl) ?_ ?_
 ·omega
 ·exact imp_ap0 5 rfl (by rfl) ga ga rfl (by repeat' (first | exact trivial | refine ⟨Nat.le_of_ble_eq_true rfl, by exact olt_l rfl, ?_⟩)) rfl
 ·intro i hi
  refine sx 4 ?_
  refine wp_c rfl (fun hc => ?_) (fun hc => ?_)
  ·have hci : i < l.length := by simp at hc; omega
   obtain ⟨x, hx⟩ : ∃ x, l[i]? = some x := ⟨_, List.getElem?_eq_getElem hci⟩
   refine sx 24 ?_
   exact round_n (i + 1) (by omega) (by omega) (by exact imp_ap 5 rfl rfl (by exact take_map _ hx) ga ga rfl (by repeat' (first | exact trivial | refine ⟨Nat.le_of_ble_eq_true rfl, by exact olt_l rfl, ?_⟩)) rfl rfl)
  ·obtain rfl : i = l.length := by simp at hc; omega
   refine sx 5 ?_
   refine wp_imp hK (imp_apF 5 rfl rfl (ts' := (l.map fun q => (q.den : Int)).map encI) (by rw [List.take_length, List.map_map]; rfl)) ?_
   refine sx 2 ?_
   refine oq (.callR (yb := as1) (yc := rat_multiple _ (by intro x hx; obtain ⟨q, _, rfl⟩ := List.mem_map.1 hx; exact den_ne q) (fun i hi => hf1 i (by rw [List.length_map] at hi; exact hi)) (by intro x hx; obtain ⟨q, hq, rfl⟩ := List.mem_map.1 hx; exact (hf2 q hq).fi.2.le (by decide)))) ?_
   refine sx 9 ?_
   refine wp_l2 hK (krc 3 rfl (krc 24 rfl (krc 25 rfl krn))) (khc 0 rfl (khc 1 rfl khn)) (fun sl' h' (i : Nat) => ⟨(2, ap T_Int 2 ((l.take i).map fun q => encI (q.num * (lcmQ l / q.den)))) :: (26, .t (.i .i64 (i))) :: sl', (2, apO T_Int ((l.take i).map fun q => encI (q.num * (lcmQ l / q.den)))) :: h', 3, 0⟩) (fun i => i ≤ l.length) (fun i => l.length - i) 0 ?_ (fun _ => rfl) ?_ ?_
   ·omega
   ·exact imp_ap0 2 rfl (by rfl) ga ga rfl (by repeat' (first | exact trivial | refine ⟨Nat.le_of_ble_eq_true rfl, by exact olt_l rfl, ?_⟩)) rfl
   ·intro i hi
    refine sx 4 ?_
    refine wp_c rfl (fun hc => ?_) (fun hc => ?_)
    ·have hci : i < l.length := by simp at hc; omega
     obtain ⟨x, hx⟩ : ∃ x, l[i]? = some x := ⟨_, List.getElem?_eq_getElem hci⟩
     refine sx 4 ?_
     obtain ⟨x1, x2⟩ := (hf2 x (List.mem_of_getElem? hx)).fi
     have hlf : Fi 4 (lcmQ l) := by have := hf1 l.length (Nat.le_refl _); rw [List.take_of_length_le (by simp)] at this; exact this
     refine sx 13 ?_
     refine dq (.callR (yb := asc (.inl rfl) as1) (yc := rat_whole (lcmQ l) x.den (den_ne x))) ?_
     refine dq (.callR (yb := asc (.inl rfl) as1) (yc := num_Mul x.num _)) ?_
     refine sx 1 ?_
     refine wd_ed rfl rfl rfl (.appendAR (yd := by decide) (ye := by decide) (yj := .inl rfl) (yk := by rfl) (yl := by (simp [wds_len]; omega))) (by exact trivial) ?_
     refine sx 8 ?_
     exact round_n (i + 1) (by omega) (by omega) (by exact imp_ap 2 rfl rfl (by exact take_map (fun q : Rat => encI (q.num * (lcmQ l / q.den))) hx) ga ga rfl (by repeat' (first | exact trivial | refine ⟨Nat.le_of_ble_eq_true rfl, by exact olt_l rfl, ?_⟩)) rfl rfl)
    ·obtain rfl : i = l.length := by simp at hc; omega
     refine sx 5 ?_
     refine wp_imp hK (imp_apF 2 rfl rfl (ts' := (l.map fun q => q.num * (lcmQ l / q.den)).map encI) (by rw [List.take_length, List.map_map]; rfl)) ?_
     refine sx 8 ?_
     exact ⟨.inr rfl, rfl, (by (refine res_t rfl ?_); (rfl)), (by (refine res_c rfl rfl rfl rfl rfl ?_); (rfl)), (by (refine res_t rfl ?_); (rfl)), trivial⟩
def qb (a : Rat) : Nat := max (bl a.num.natAbs) (bl a.den)
theorem qb_one {a : Rat} (h : qb a ≤ 1) : a = 0 ∨ a = 1 ∨ a = -1 := by
 have h1 := bl_lt a.num.natAbs
 have h2 := bl_lt a.den
 unfold qb at h
 have h3 : 2 ^ bl a.num.natAbs ≤ 2 ^ 1 := Nat.pow_le_pow_right (by decide) (by omega)
 have h4 : 2 ^ bl a.den ≤ 2 ^ 1 := Nat.pow_le_pow_right (by decide) (by omega)
 have h5 := a.den_nz
 have hd : a.den = 1 := by omega
 have hn : a.num = 0 ∨ a.num = 1 ∨ a.num = -1 := by omega
 rcases hn with hn | hn | hn
 ·exact .inl (Rat.ext hn hd)
 ·exact .inr (.inl (Rat.ext hn hd))
 ·exact .inr (.inr (Rat.ext hn hd))
theorem rone_pow (k : Nat) : (1 : Rat) ^ k = 1 := by
 induction k with
 | zero => exact Rat.pow_zero 1
 | succ k ih => rw [Rat.pow_succ, ih, Rat.mul_one]
theorem rpow2 (a : Rat) (k : Nat) : a ^ (2 * k) = (a * a) ^ k := by
 induction k with
 | zero => rw [Nat.mul_zero, Rat.pow_zero, Rat.pow_zero]
 | succ k ih => rw [Rat.pow_succ, ← ih, show 2 * (k + 1) = 2 * k + 1 + 1 by omega, Rat.pow_succ, Rat.pow_succ, Rat.mul_assoc]
theorem qb_even {a : Rat} (h : qb a ≤ 1) {n : Nat} (h0 : n ≠ 0) (h2 : n % 2 = 0) : a * a = a ^ n := by
 obtain ⟨k, rfl⟩ : ∃ k, n = 2 * k := ⟨n / 2, by omega⟩
 have hk : k ≠ 0 := by omega
 rw [rpow2]
 rcases qb_one h with rfl | rfl | rfl
 ·rw [Rat.zero_mul]
  obtain ⟨j, rfl⟩ := Nat.exists_eq_succ_of_ne_zero hk
  rw [Rat.pow_succ, Rat.mul_zero]
 ·rw [Rat.one_mul, rone_pow]
 ·rw [show (-1 : Rat) * -1 = 1 by grind, rone_pow]
theorem qb_odd {a : Rat} (h : qb a ≤ 1) {n : Nat} (h2 : n % 2 = 1) : a = a ^ n := by
 obtain ⟨k, rfl⟩ : ∃ k, n = 2 * k + 1 := ⟨n / 2, by omega⟩
 rw [Rat.pow_succ]
 by_cases hk : k = 0
 ·subst hk; rw [Rat.pow_zero, Rat.one_mul]
 ·rw [← qb_even h (n := 2 * k) (by omega) (by omega)]
  rcases qb_one h with rfl | rfl | rfl <;> grind
theorem encQ_pow (a : Rat) (n : Nat) : encQI (a.num ^ n) ((a.den : Int) ^ n) = encQ (a ^ n) := by
 rw [encQ, Rat.num_pow, Rat.den_pow, Int.natCast_pow]
theorem rat_Pow (a : Rat) (n : Nat) (hn : (n : Int) < 9223372036854775808) (hok : qb a ≤ 1 ∨ n * qb a ≤ 1048576) : FnP Tryz.prog tb F_rat_Pow [encQ a, .i .i64 n] (.tu [encQ (a ^ n), .i .i64 0]) := by
 have hq : max ((bl a.num.natAbs : Nat) : Int) ((bl (a.den : Int).natAbs : Nat) : Int) = ((qb a : Nat) : Int) := by unfold qb; rw [Int.natAbs_natCast]; omega
 have hN : bl a.num.natAbs ≤ qb a := Nat.le_max_left _ _
 have hD : bl a.den ≤ qb a := Nat.le_max_right _ _
 have hmul : ∀ k, k ≤ qb a → ¬ qb a ≤ 1 → bl k = bl k := fun _ _ _ => rfl
 have hb1 : qb a ≤ 1 → Bq 274877906944 a := fun h => by
  rcases qb_one h with rfl | rfl | rfl
  ·exact Bq.zero.le (by decide)
  ·exact Bq.one.le (by decide)
  ·exact Bq.one.neg.le (by decide)
 have lim : ∀ k, k ≤ qb a → n * qb a ≤ 1048576 → k ≤ 1 ∨ n ≤ 1048576 / k := fun k hk h => by
  by_cases h1 : k ≤ 1
  ·exact .inl h1
  ·refine .inr ((Nat.le_div_iff_mul_le (by omega)).2 (Nat.le_trans (Nat.mul_le_mul_left n hk) h))
 refine fnP_T tbOk Tryz.func103 rfl rfl (Nat.le_of_ble_eq_true rfl) rfl fun G hG hK => ?_
 have hF : Wd Fence.wide := .inl rfl
 refine sx 8 ?_
 refine dq (.callR (yb := as1) (yc := num_Bits a.num)) ?_
 refine sx 2 ?_
 refine dq (.callR (yb := as1) (yc := num_Bits a.den)) ?_
 refine sx 3 ?_
 rw [hq]
 refine sx 2 ?_
 rcases (show n = 0 ∨ (n ≠ 0 ∧ qb a ≤ 1 ∧ n % 2 = 0) ∨ (n ≠ 0 ∧ qb a ≤ 1 ∧ n % 2 = 1) ∨ (n ≠ 0 ∧ ¬ qb a ≤ 1 ∧ n * qb a ≤ 1048576) by omega) with h | ⟨h, h1, h2⟩ | ⟨h, h1, h2⟩ | ⟨h, h1, h2⟩
 ·refine sx 5 ?_
  refine wp_cT rfl (by (simp; omega)) ?_
  refine sx 2 ?_
  refine oq (.callR (yb := as1) (yc := rat_WholeI 1)) ?_
  refine sx 6 ?_
  exact ⟨.inr rfl, rfl, (by (refine res_c rfl rfl rfl rfl rfl ?_); (subst h; rw [Rat.pow_zero]; rfl)), (by (refine res_t rfl ?_); (rfl)), trivial⟩
 ·refine sx 5 ?_
  refine wp_cF rfl (by (simp; omega)) ?_
  by_cases hs : a.num.sign = 0
  ·refine sx 10 ?_
   refine wp_cF rfl (by rfl) ?_
   refine sx 10 ?_
   refine wp_cT rfl (by simp; omega) ?_
   refine sx 10 ?_
   exact ⟨.inr rfl, rfl, (by (refine res_c rfl rfl rfl rfl rfl ?_); (rw [qb_even h1 h h2])), (by (refine res_t rfl ?_); (rfl)), trivial⟩
  ·refine sx 10 ?_
   refine wp_cF rfl (by rfl) ?_
   refine sx 10 ?_
   refine wp_cT rfl (by simp; omega) ?_
   refine sx 10 ?_
   exact ⟨.inr rfl, rfl, (by (refine res_c rfl rfl rfl rfl rfl ?_); (rw [qb_even h1 h h2])), (by (refine res_t rfl ?_); (rfl)), trivial⟩
 ·refine sx 5 ?_
  refine wp_cF rfl (by (simp; omega)) ?_
  by_cases hs : a.num.sign = 0
  ·refine sx 10 ?_
   refine wp_cF rfl (by rfl) ?_
   refine sx 10 ?_
   refine wp_cF rfl (by simp; omega) ?_
   refine sx 5 ?_
   refine wp_cT rfl (by (simp; omega)) ?_
   refine sx 8 ?_
   exact ⟨.inr rfl, rfl, (by (refine res_c rfl rfl rfl rfl rfl ?_); (exact congrArg encQ (qb_odd h1 h2))), (by (refine res_t rfl ?_); (rfl)), trivial⟩
  ·refine sx 10 ?_
   refine wp_cF rfl (by rfl) ?_
   refine sx 10 ?_
   refine wp_cF rfl (by simp; omega) ?_
   refine sx 5 ?_
   refine wp_cT rfl (by (simp; omega)) ?_
   refine sx 8 ?_
   exact ⟨.inr rfl, rfl, (by (refine res_c rfl rfl rfl rfl rfl ?_); (exact congrArg encQ (qb_odd h1 h2))), (by (refine res_t rfl ?_); (rfl)), trivial⟩
 ·refine sx 5 ?_
  refine wp_cF rfl (by (simp; omega)) ?_
  by_cases hs : a.num.sign = 0
  ·refine sx 10 ?_
   refine wp_cF rfl (by rfl) ?_
   refine sx 10 ?_
   refine wp_cF rfl (by rfl) ?_
   refine sx 5 ?_
   refine wp_cF rfl (by (simp; omega)) ?_
   have hnb : n ≤ 1048576 := Nat.le_trans (Nat.le_mul_of_pos_right n (show 0 < qb a by omega)) h2
   have hmx : max (n : Int) (-(n : Int)) * ((qb a : Nat) : Int) = ((n * qb a : Nat) : Int) := by rw [show max (n : Int) (-(n : Int)) = n by omega]; rfl
   refine sx 13 ?_
   refine gq (.arithR (yd := by exact (congrArg IntKind.i64.wrap ((congrArg (fun x => max (n : Int) x * ((qb a : Nat) : Int)) (Int.zero_sub (n : Int))).trans hmx)).trans (wrap_i64 (by omega)))) ?_
   refine sx 4 ?_
   refine wp_cF rfl (by simp; omega) ?_
   refine sx 5 ?_
   refine wp_cF rfl (by rfl) ?_
   refine sx 36 ?_
   refine wp_cF rfl (by rfl) ?_
   refine sx 10 ?_
   exact ⟨.inr rfl, rfl, (by (refine res_c rfl rfl rfl rfl rfl ?_); (exact encQ_pow a n)), (by (refine res_t rfl ?_); (rfl)), trivial⟩
  ·refine sx 10 ?_
   refine wp_cF rfl (by rfl) ?_
   refine sx 10 ?_
   refine wp_cF rfl (by rfl) ?_
   refine sx 5 ?_
   refine wp_cF rfl (by (simp; omega)) ?_
   have hnb : n ≤ 1048576 := Nat.le_trans (Nat.le_mul_of_pos_right n (show 0 < qb a by omega)) h2
   have hmx : max (n : Int) (-(n : Int)) * ((qb a : Nat) : Int) = ((n * qb a : Nat) : Int) := by rw [show max (n : Int) (-(n : Int)) = n by omega]; rfl
   refine sx 13 ?_
   refine gq (.arithR (yd := by exact (congrArg IntKind.i64.wrap ((congrArg (fun x => max (n : Int) x * ((qb a : Nat) : Int)) (Int.zero_sub (n : Int))).trans hmx)).trans (wrap_i64 (by omega)))) ?_
   refine sx 4 ?_
   refine wp_cF rfl (by simp; omega) ?_
   refine sx 5 ?_
   refine wp_cF rfl (by rfl) ?_
   refine sx 36 ?_
   refine wp_cF rfl (by rfl) ?_
   refine sx 10 ?_
   exact ⟨.inr rfl, rfl, (by (refine res_c rfl rfl rfl rfl rfl ?_); (exact encQ_pow a n)), (by (refine res_t rfl ?_); (rfl)), trivial⟩
abbrev Pol := Poly Rat
def encP (p : Pol) : Tr := encQs p.c
theorem encQ_int (n : Int) : encQ (n : Rat) = encQI n 1 := by
 rw [encQ, Rat.num_intCast, Rat.den_intCast]; rfl
theorem bz {n : Nat} (h : ((n : Int) == 0) = true) : n = 0 := by simpa using h
theorem bnz {n : Nat} (h : ((n : Int) == 0) = false) : n ≠ 0 := by simpa using h
theorem fnP_own {P : Program} {tb : Tab} {f : FuncId} {args : List Tr} {e : TypeId} {l : List Tr} (h : FnH P tb f (args.map .t) [] (.own e 0 0 l.length) [(0, some (.arr e (l.map .t)))] 1) : FnP P tb f args (.sl e l) := by
 intro w S vs N hrep hS hN
 refine h w (fun _ => none) S vs N hrep.vs ⟨fun id o ho => by simp [mkH, Eng.get] at ho, fun i j b hi => (by obtain ⟨o, ho⟩ := hi; simp [mkH, Eng.get] at ho), fun _ _ => rfl, fun i b hb => (by cases hb), fun i b hb => (by cases hb), hS, fun _ h => h, fun _ h => .inl h, Fr.refl _ _⟩ ?_
 intro v w' φ' S' hk hr hnc hv
 obtain ⟨b, h1, h2, h3, h4⟩ := hr.hh 0 _ rfl
 have hfr : Fr X0 w w' := hr.frame.mono fun i ⟨j, hj⟩ => by cases hj
 have hge : w.heap.size ≤ b := by
  rcases hr.φX 0 b h1 with ⟨j, hj⟩ | h
  ·cases hj
  ·exact h
 have := frozen_rep (S' := fun c => S' c ∨ c = b) hv h1 h4 (by omega) (.inr rfl) fun _ h => .inl h
 rw [List.drop_zero, List.take_of_length_le (Nat.le_refl _)] at this
 refine hN v w' _ this hfr ⟨fun c hc => .inl (hk.hS c hc), fun c hc => ?_, fun c hc => ?_⟩
 ·rcases hc with hc | rfl
  ·rcases hr.Snew c hc with hs | hs | ⟨j, hj⟩
   ·exact .inl hs
   ·exact .inr hs
   ·cases hj
  ·exact .inr hge
 ·rcases hc with hc | rfl
  ·exact hr.Slt c hc
  ·exact h2
theorem rat_Whole (n : Int) : FnP Tryz.prog tb F_rat_Whole [encI n] (encQ (n : Rat)) := by rw [encQ_int]; exact rat_WholeI n
theorem rat_Sign (q : Rat) : FnP Tryz.prog tb F_rat_Sign [encQ q] (.i .i64 q.num.sign) := rat_SignI q.num q.den
theorem qpoly_whole (n : Int) (h1 : -9223372036854775808 ≤ n) (h2 : n < 9223372036854775808) : FnP Tryz.prog tb F_qpoly_whole [.i .i64 n] (encQ (n : Rat)) := by
 refine fn1 Tryz.func79 fun G hG hK hF => ?_
 refine sx 5 ?_
 refine oq (.callR (yb := as1) (yc := num_Of _ (by assumption) (by assumption))) ?_
 refine oq (.callR (yb := as1) (yc := rat_Whole _)) ?_
 refine sx 3 ?_
 exact ⟨.inr rfl, rfl, (by (refine res_c rfl rfl rfl rfl rfl ?_); (rfl)), trivial⟩
theorem qsign {q : Rat} : q.num.sign = 0 ↔ q = 0 := by rw [Int.sign_eq_zero_iff_zero]; exact ⟨fun h => Rat.num_eq_zero.1 h, fun h => by rw [h]; rfl⟩
theorem qpoly_zero (q : Rat) : FnP Tryz.prog tb F_qpoly_zero [encQ q] (.b (decide (q = 0))) := by
 refine fn1 Tryz.func77 fun G hG hK hF => ?_
 refine sx 6 ?_
 refine oq (.callR (yb := as1) (yc := rat_Sign _)) ?_
 refine sx 4 ?_
 exact ⟨.inr rfl, rfl, (by (refine res_t rfl ?_); (refine trb ?_; by_cases h : q = 0; subst h; rfl; simp [h, qsign])), trivial⟩
theorem qpoly_Deg (l : List Rat) : FnP Tryz.prog tb F_qpoly_Deg [encQs l] (.i .i64 (l.length - 1)) := by
 refine fn1 Tryz.func17 fun G hG hK hF => ?_
 refine wp_ll 0 rfl rfl fun hb => ?_
 rw [encQs_len] at hb
 refine sx 10 ?_
 exact ⟨.inr rfl, rfl, (by (refine res_t rfl ?_); (rfl)), trivial⟩
theorem cf_last {l : List Rat} (h : l ≠ []) : l[l.length - 1]? = some (cf l (l.length - 1)) := by
 have : l.length - 1 < l.length := by have := List.length_pos_iff.2 h; omega
 rw [cf_lt this, List.getElem?_eq_getElem this]
theorem encQs_atn {l : List Rat} {n : Int} {i : Nat} {x : Rat} (e : n.toNat = i) (h : l[i]? = some x) : (l.map encQ)[n.toNat]? = some (encQ x) := by rw [e]; exact encQs_at h
theorem qpoly_Lead (l : List Rat) : FnP Tryz.prog tb F_qpoly_Lead [encQs l] (encQ (cf l (l.length - 1))) := by
 refine fn1 Tryz.func20 fun G hG hK hF => ?_
 refine wp_ll 0 rfl rfl fun hb => ?_
 rw [encQs_len] at hb
 refine sx 9 ?_
 refine wp_c rfl (fun hc => ?_) (fun hc => ?_)
 ·have h0 : l = [] := List.length_eq_zero_iff.1 (bz hc)
  refine sx 6 ?_
  exact ⟨.inr rfl, rfl, (by (refine res_c rfl rfl rfl rfl rfl ?_); (subst h0; rfl)), trivial⟩
 ·have h0 : l ≠ [] := fun e => bnz hc (by rw [e]; rfl)
  have hp := List.length_pos_iff.2 h0
  refine sx 7 ?_
  refine oq (.indexAddrR (yf := by omega) (yg := by exact encQs_atn (i := l.length - 1) (by omega) (cf_last h0))) ?_
  refine sx 4 ?_
  exact ⟨.inr rfl, rfl, (by (refine res_c rfl rfl rfl rfl rfl ?_); (rfl)), trivial⟩
theorem qpoly_at (l : List Rat) (i : Nat) (hi : (i : Int) < 9223372036854775808) : FnP Tryz.prog tb F_qpoly_at [encQs l, .i .i64 i] (encQ (cf l i)) := by
 refine fn1 Tryz.func88 fun G hG hK hF => ?_
 refine sx 10 ?_
 refine wp_c rfl (fun hc => ?_) (fun hc => ?_)
 ·have h0 : i < l.length := by simpa using hc
  refine sx 3 ?_
  refine oq (.indexAddrR (yf := by omega) (yg := by exact encQs_atn (i := i) (x := cf l i) rfl (by rw [cf_lt h0, List.getElem?_eq_getElem h0]))) ?_
  refine sx 5 ?_
  exact ⟨.inr rfl, rfl, (by (refine res_c rfl rfl rfl rfl rfl ?_); (rfl)), trivial⟩
 ·have h0 : l.length ≤ i := by simpa using hc
  refine sx 7 ?_
  exact ⟨.inr rfl, rfl, (by (refine res_c rfl rfl rfl rfl rfl ?_); (rw [cf_ge h0]; rfl)), trivial⟩
theorem trimZ_take {R : Type} [CRing R] [DecidableEq R] {l : List R} {n : Nat} (h : ∀ i, n ≤ i → cf l i = 0) : trimZ (l.take n) = trimZ l :=
 trimZ_congr fun i => by
  by_cases hi : i < n
  ·simp only [cf, List.getD_eq_getElem?_getD, List.getElem?_take, hi, if_true]
  ·rw [h i (by omega), cf_ge (by simp; omega)]
theorem qpoly_trimmed (l : List Rat) : FnP Tryz.prog tb F_qpoly_trimmed [encQs l] (encQs (trimZ l)) := by
 refine fn1 Tryz.func81 fun G hG hK hF => ?_
 refine wp_ll 0 rfl rfl fun hb => ?_
 rw [encQs_len] at hb
 refine sx 10 ?_
 refine wp_l2 hK (krc 0 rfl krn) khn (fun sl' h' (i : Nat) => ⟨(3, .t (.i .i64 (i))) :: sl', h', 0, 0⟩) (fun i => i ≤ l.length ∧ ∀ j, i ≤ j → cf l j = 0) (fun i => i) l.length ?_ (fun _ => rfl) ?_ ?_
 ·exact ⟨Nat.le_refl _, fun j hj => cf_ge hj⟩
 ·exact il
 ·rintro i ⟨hi, hz⟩
  refine wp_s ?_
  by_cases h0 : i = 0
  ·refine sx 12 ?_
   refine wp_cF rfl (by rfl) ?_
   refine sx 12 ?_
   exact ⟨.inr rfl, rfl, (by (refine res_t rfl ?_); (subst h0; simp; rw [trimZ_nil fun j => hz j (Nat.zero_le _)]; rfl)), trivial⟩
  ·refine sx 7 ?_
   refine gq (z := by simp; omega) (.indexAddrR (yf := by omega) (yg := by exact encQs_atn (i := i - 1) (x := cf l (i - 1)) (by omega) (by rw [cf_lt (show i - 1 < l.length by omega), List.getElem?_eq_getElem]))) ?_
   refine sx 4 ?_
   refine wp_c rfl (fun hc => ?_) (fun hc => ?_)
   ·refine sx 9 ?_
    exact round_n (i - 1) (by refine ⟨by omega, fun j hj => ?_⟩; by_cases e : j = i - 1; subst e; simpa using hc; exact hz j (by omega)) (by omega) (by exact imp_less (by repeat' (first | exact trivial | (refine And.intro (by first | rfl | exact geti rfl (by omega)) ?_))) gb (by exact Nat.le_of_ble_eq_true rfl))
   ·have hcn : cf l (i - 1) ≠ 0 := by simpa using hc
    refine sx 12 ?_
    have e : trimZ l = l.take i := by
     rw [← trimZ_take hz, trimZ_of_last]
     right
     simp only [List.length_take, show min i l.length = i by omega]
     simp only [cf, List.getD_eq_getElem?_getD, List.getElem?_take, show i - 1 < i by omega, if_true]
     simpa [cf, List.getD_eq_getElem?_getD] using hcn
    exact ⟨.inr rfl, rfl, (by (refine res_t rfl ?_); (rw [e]; simp [encQs])), trivial⟩
structure PB (n : Nat) (p : Pol) : Prop where
 co : ∀ i, Bq n (p.co i)
theorem PB.le {i n : Nat} {p : Pol} (h : PB i p) (hi : i ≤ n) : PB n p := ⟨fun k => (h.co k).le hi⟩
theorem PB.cf {n : Nat} {p : Pol} (h : PB n p) (i : Nat) : Bq n (cf p.c i) := h.co i
theorem PB.lead {n : Nat} {p : Pol} (h : PB n p) : Bq n p.lead := h.co _
theorem PB.zero : PB 1 (0 : Pol) := ⟨fun i => by rw [Poly.co_zero]; exact Bq.zero⟩
theorem PB.cst {n : Nat} {c : Rat} (h : Bq n c) : PB (n + 1) (Poly.cst c) := ⟨fun i => by rw [Poly.co_cst]; split; exact h.le (by omega); exact Bq.zero.le (by omega)⟩
theorem PB.neg {n : Nat} {p : Pol} (h : PB n p) : PB n (-p) := ⟨fun i => by rw [Poly.co_neg]; exact (h.co i).neg⟩
theorem PB.add {n m : Nat} {p q : Pol} (h : PB n p) (k : PB m q) : PB (n + m + 1) (p + q) := ⟨fun i => by rw [Poly.co_add]; exact (h.co i).add (k.co i)⟩
structure CDB (n : Nat) (p : Pol) : Prop where
 ex : ∃ D : Int, D ≠ 0 ∧ wl D.natAbs ≤ n ∧ ∀ i, ∃ z : Int, wl z.natAbs ≤ n ∧ (D : Rat) * p.co i = z
theorem CDB.le {i n : Nat} {p : Pol} (h : CDB i p) (hi : i ≤ n) : CDB n p := by
 obtain ⟨D, h1, h2, h3⟩ := h.ex
 exact ⟨D, h1, Nat.le_trans h2 hi, fun k => by obtain ⟨z, h4, h5⟩ := h3 k; exact ⟨z, Nat.le_trans h4 hi, h5⟩⟩
theorem rint_ne {D : Int} (h : D ≠ 0) : (D : Rat) ≠ 0 := fun e => h (by have := congrArg Rat.num e; rw [Rat.num_intCast] at this; exact this)
theorem CDB.pb {n : Nat} {p : Pol} (h : CDB n p) : PB n p := ⟨fun i => by
 obtain ⟨D, h1, h2, h3⟩ := h.ex
 obtain ⟨z, h4, h5⟩ := h3 i
 have hD := rint_ne h1
 have e : p.co i = Rat.divInt z D := by
  rw [Rat.divInt_eq_div, ← h5]; grind
 obtain ⟨k1, k2⟩ := divInt_num_le z D h1
 rw [← e] at k1 k2
 exact ⟨Nat.le_trans (wl_mono k1) h4, Nat.le_trans (wl_mono k2) h2⟩⟩
theorem wl_addI {a b : Int} {n m : Nat} (ha : wl a.natAbs ≤ n) (hb : wl b.natAbs ≤ m) : wl (a + b).natAbs ≤ max n m + 1 := by
 have h1 := wl_mono (Int.natAbs_add_le a b)
 have h2 := wl_add a.natAbs b.natAbs
 omega
theorem wl_mulI {a b : Int} {n m : Nat} (ha : wl a.natAbs ≤ n) (hb : wl b.natAbs ≤ m) : wl (a * b).natAbs ≤ n + m := by
 rw [Int.natAbs_mul]
 have := wl_mul a.natAbs b.natAbs
 omega
theorem wl_subI {a b : Int} {n m : Nat} (ha : wl a.natAbs ≤ n) (hb : wl b.natAbs ≤ m) : wl (a - b).natAbs ≤ max n m + 1 := by
 rw [Int.sub_eq_add_neg]; exact wl_addI ha (by rw [Int.natAbs_neg]; exact hb)
theorem CDB.add {n m : Nat} {p q : Pol} (h : CDB n p) (k : CDB m q) : CDB (n + m + 1) (p + q) := by
 obtain ⟨D, h1, h2, h3⟩ := h.ex
 obtain ⟨E, k1, k2, k3⟩ := k.ex
 refine ⟨D * E, Int.mul_ne_zero h1 k1, Nat.le_trans (wl_mulI h2 k2) (by omega), fun i => ?_⟩
 obtain ⟨z, h4, h5⟩ := h3 i
 obtain ⟨y, k4, k5⟩ := k3 i
 refine ⟨z * E + y * D, Nat.le_trans (wl_addI (wl_mulI h4 k2) (wl_mulI k4 h2)) (by omega), ?_⟩
 rw [Poly.co_add, Rat.intCast_add, Rat.intCast_mul, Rat.intCast_mul, Rat.intCast_mul, ← h5, ← k5]; grind
theorem CDB.neg {n : Nat} {p : Pol} (h : CDB n p) : CDB n (-p) := by
 obtain ⟨D, h1, h2, h3⟩ := h.ex
 refine ⟨D, h1, h2, fun i => ?_⟩
 obtain ⟨z, h4, h5⟩ := h3 i
 exact ⟨-z, by rw [Int.natAbs_neg]; exact h4, by rw [Poly.co_neg, Rat.intCast_neg, ← h5]; grind⟩
theorem CDB.sub {n m : Nat} {p q : Pol} (h : CDB n p) (k : CDB m q) : CDB (n + m + 1) (p - q) := h.add k.neg
theorem CDB.mono {n : Nat} {c : Rat} (h : Bq n c) (k : Nat) : CDB (n + 1) (Poly.mono c k) := by
 refine ⟨c.den, by have := c.den_nz; omega, by rw [Int.natAbs_natCast]; exact Nat.le_trans h.den (by omega), fun i => ?_⟩
 rw [Poly.co_mono]
 split
 ·refine ⟨c.num, Nat.le_trans h.num (by omega), ?_⟩
  have h1 : Rat.divInt c.num c.den = c := Rat.num_divInt_den c
  rw [Rat.divInt_eq_div] at h1
  have h2 := rint_ne (D := (c.den : Int)) (by have := c.den_nz; omega)
  generalize hx : ((c.den : Int) : Rat) = x at *
  generalize hy : (c.num : Rat) = y at *
  rw [← h1]; grind
 ·exact ⟨0, Nat.zero_le _, by simp⟩
theorem CDB.zero : CDB 1 (0 : Pol) := ⟨1, by decide, wl_le (by decide), fun i => ⟨0, Nat.zero_le _, by rw [Poly.co_zero]; simp⟩⟩
theorem CDB.of_list (l : List Rat) {n : Nat} (h : ∀ q ∈ l, Bq n q) : ∀ k, k ≤ l.length → CDB (k * (n + 2) + 1) (Poly.of (l.take k))
 | 0, _ => by rw [List.take_zero, Poly.of_nil]; exact CDB.zero.le (by omega)
 | k + 1, hk => by
  have hx : l[k]? = some l[k] := List.getElem?_eq_getElem (by omega)
  rw [Poly.of_take_succ hx]
  refine ((CDB.of_list l h k (by omega)).add (CDB.mono (h _ (List.getElem_mem _)) k)).le ?_
  rw [Nat.succ_mul]; omega
theorem PB.cdb {n : Nat} {p : Pol} (h : PB n p) : CDB (p.len * (n + 2) + 1) p := by
 have := CDB.of_list p.c (n := n) (fun q hq => by
  obtain ⟨i, hi, rfl⟩ := List.mem_iff_getElem.1 hq
  have := h.co i
  rw [show p.co i = p.c[i] from cf_lt hi] at this; exact this) p.c.length (Nat.le_refl _)
 rw [List.take_length, Poly.of_c] at this; exact this
theorem CDB.step {n m : Nat} {p q : Pol} (h : CDB n p) (k : CDB m q) (hq : q ≠ 0) (t s : Nat) : CDB (n + m + 1) (p - Poly.mono (p.co t / q.lead) s * q) := by
 obtain ⟨D, h1, h2, h3⟩ := h.ex
 obtain ⟨E, k1, k2, k3⟩ := k.ex
 obtain ⟨l, l1, l2⟩ := k3 (q.len - 1)
 have hl := Poly.lead_ne hq
 have l3 : (E : Rat) * q.lead = l := l2
 have hl0 : l ≠ 0 := fun e => by
  rw [e] at l3
  have := rint_ne k1
  have h6 : (E : Rat) * q.lead ≠ 0 := Poly.fmul_ne this hl
  exact h6 (by rw [l3]; rfl)
 obtain ⟨zt, t1, t2⟩ := h3 t
 refine ⟨D * l, Int.mul_ne_zero h1 hl0, Nat.le_trans (wl_mulI h2 l1) (by omega), fun i => ?_⟩
 obtain ⟨z, h4, h5⟩ := h3 i
 rw [Poly.co_sub, Poly.co_mono_mul]
 by_cases hi : i < s
 ·rw [if_pos hi]
  refine ⟨z * l, Nat.le_trans (wl_mulI h4 l1) (by omega), ?_⟩
  rw [Rat.intCast_mul, Rat.intCast_mul, ← h5]; grind
 ·rw [if_neg hi]
  obtain ⟨y, k4, k5⟩ := k3 (i - s)
  refine ⟨z * l - zt * y, Nat.le_trans (wl_subI (wl_mulI h4 l1) (wl_mulI t1 k4)) (by omega), ?_⟩
  rw [Rat.intCast_sub, Rat.intCast_mul, Rat.intCast_mul, Rat.intCast_mul, ← h5, ← k5, ← t2, ← l3]
  grind
theorem CDB.part {n m : Nat} {p q : Pol} (h : PB n p) (k : PB m q) (t s : Nat) : CDB (n + m + 2) (Poly.mono (p.co t / q.lead) s) := CDB.mono ((h.co t).div k.lead) s
theorem CDB.dm {m : Nat} {q : Pol} (k : CDB m q) (hq : q ≠ 0) : ∀ (f n : Nat) (p : Pol), CDB n p → p.len ≤ f →
  CDB (n + (p.len + 1 - q.len) * (m + 1)) (Poly.dmAux f p q).2 ∧ CDB ((p.len + 1 - q.len) * (n + (p.len + 1 - q.len) * (m + 1) + m + 3) + 1) (Poly.dmAux f p q).1
 | 0, n, p, h, hf => by
  simp only [Poly.dmAux]
  exact ⟨h.le (by omega), CDB.zero.le (by omega)⟩
 | f + 1, n, p, h, hf => by
  simp only [Poly.dmAux]
  split
  ·exact ⟨h.le (by omega), CDB.zero.le (by omega)⟩
  ·rename_i hlt
   have hlen := Poly.part_len hq (show q.len ≤ p.len by omega)
   have h1 : CDB (n + m + 1) (p - Poly.part p q * q) := h.step k hq (p.len - 1) (p.len - q.len)
   obtain ⟨h2, h3⟩ := CDB.dm k hq f _ _ h1 (by omega)
   have hpt : CDB (n + m + 2) (Poly.part p q) := CDB.part h.pb k.pb (p.len - 1) (p.len - q.len)
   generalize Poly.dmAux f (p - Poly.part p q * q) q = d at *
   generalize hL' : (p - Poly.part p q * q).len = L' at *
   obtain ⟨s, hs⟩ : ∃ s, p.len + 1 - q.len = s + 1 := ⟨p.len - q.len, by omega⟩
   have hs' : L' + 1 - q.len ≤ s := by omega
   have m1 := Nat.mul_le_mul_right (m + 1) hs'
   rw [hs]
   have e1 : (s + 1) * (m + 1) = s * (m + 1) + (m + 1) := Nat.succ_mul _ _
   refine ⟨h2.le (by omega), (hpt.add h3).le ?_⟩
   have m2 : (L' + 1 - q.len) * (n + m + 1 + (L' + 1 - q.len) * (m + 1) + m + 3) ≤ s * (n + (s + 1) * (m + 1) + m + 3) :=
    Nat.mul_le_mul hs' (by omega)
   have e2 : (s + 1) * (n + (s + 1) * (m + 1) + m + 3) = s * (n + (s + 1) * (m + 1) + m + 3) + (n + (s + 1) * (m + 1) + m + 3) := Nat.succ_mul _ _
   omega
theorem CDB.mod {n m : Nat} {p q : Pol} (h : CDB n p) (k : CDB m q) (hq : q ≠ 0) : CDB (n + (p.len + 1 - q.len) * (m + 1)) (p % q) := (CDB.dm k hq p.len n p h (Nat.le_refl _)).1
theorem CDB.div {n m : Nat} {p q : Pol} (h : CDB n p) (k : CDB m q) (hq : q ≠ 0) : CDB ((p.len + 1 - q.len) * (n + (p.len + 1 - q.len) * (m + 1) + m + 3) + 1) (p / q) := (CDB.dm k hq p.len n p h (Nat.le_refl _)).2
theorem CDB.mul {n m : Nat} {p q : Pol} (h : CDB n p) (k : CDB m q) : CDB (n + m + p.len) (p * q) := by
 obtain ⟨D, h1, h2, h3⟩ := h.ex
 obtain ⟨E, k1, k2, k3⟩ := k.ex
 have key : ∀ t, t ≤ p.c.length → ∀ i, ∃ z : Int, wl z.natAbs ≤ n + m + t ∧ ((D * E : Int) : Rat) * (Poly.of (p.c.take t) * q).co i = z := by
  intro t
  induction t with
  | zero => intro _ i; exact ⟨0, Nat.zero_le _, by rw [List.take_zero, Poly.of_nil, Poly.zero_mul', Poly.co_zero]; simp⟩
  | succ t ih =>
   intro ht i
   obtain ⟨z, z1, z2⟩ := ih (by omega) i
   have hx : p.c[t]? = some p.c[t] := List.getElem?_eq_getElem (by omega)
   have e : (Poly.of (p.c.take (t + 1)) * q).co i = (Poly.of (p.c.take t) * q).co i + (Poly.mono p.c[t] t * q).co i := by
    rw [← Poly.co_add]; congr 1; rw [Poly.of_take_succ hx]; grind
   rw [e, Poly.co_mono_mul]
   by_cases hi : i < t
   ·rw [if_pos hi]
    exact ⟨z, by omega, by rw [← z2]; grind⟩
   ·rw [if_neg hi]
    obtain ⟨a, a1, a2⟩ := h3 t
    obtain ⟨b, b1, b2⟩ := k3 (i - t)
    have hco : p.co t = p.c[t] := cf_lt (by omega)
    refine ⟨z + a * b, Nat.le_trans (wl_addI z1 (wl_mulI a1 b1)) (by omega), ?_⟩
    rw [Rat.intCast_add, Rat.intCast_mul a b, ← z2, ← a2, ← b2, hco, Rat.intCast_mul]; grind
 refine ⟨D * E, Int.mul_ne_zero h1 k1, Nat.le_trans (wl_mulI h2 k2) (by omega), fun i => ?_⟩
 have := key p.c.length (Nat.le_refl _) i
 rw [List.take_length, Poly.of_c] at this
 exact this
theorem mono_zero_cst (c : Rat) : Poly.mono c 0 = Poly.cst c := Poly.ext fun i => by rw [Poly.co_mono, Poly.co_cst]
theorem CDB.cst {n : Nat} {c : Rat} (h : Bq n c) : CDB (n + 1) (Poly.cst c) := by rw [← mono_zero_cst]; exact CDB.mono h 0
theorem CDB.one : CDB 2 (1 : Pol) := CDB.cst (n := 1) Bq.one
theorem CDB.scale {n k : Nat} {p : Pol} {c : Rat} (h : CDB n p) (hc : Bq k c) : CDB (n + k) (Poly.cst c * p) := by
 obtain ⟨D, h1, h2, h3⟩ := h.ex
 refine ⟨D * c.den, Int.mul_ne_zero h1 (by have := c.den_nz; omega), Nat.le_trans (wl_mulI h2 (n := n) (m := k) (by rw [Int.natAbs_natCast]; exact hc.den)) (Nat.le_refl _), fun i => ?_⟩
 obtain ⟨z, h4, h5⟩ := h3 i
 refine ⟨z * c.num, wl_mulI h4 hc.num, ?_⟩
 have e1 : Rat.divInt c.num c.den = c := Rat.num_divInt_den c
 rw [Rat.divInt_eq_div] at e1
 have h6 := rint_ne (D := (c.den : Int)) (by have := c.den_nz; omega)
 rw [Poly.cst_mul, Rat.intCast_mul, Rat.intCast_mul, ← h5]
 generalize hx : ((c.den : Int) : Rat) = x at *
 generalize hy : (c.num : Rat) = y at *
 have e2 : x * c = y := by rw [← e1]; grind
 rw [← e2]; grind
theorem CDB.monic {n : Nat} {p : Pol} (h : CDB n p) : CDB n p.monic := by
 by_cases hp : p = 0
 ·subst hp; rw [Poly.monic_zero]; exact h
 obtain ⟨D, h1, h2, h3⟩ := h.ex
 obtain ⟨l, l1, l2⟩ := h3 (p.len - 1)
 have hl := Poly.lead_ne hp
 have l3 : (D : Rat) * p.lead = l := l2
 have hl0 : l ≠ 0 := fun e => by
  rw [e] at l3
  have := rint_ne h1
  have h6 : (D : Rat) * p.lead ≠ 0 := Poly.fmul_ne this hl
  exact h6 (by rw [l3]; rfl)
 refine ⟨l, hl0, l1, fun i => ?_⟩
 obtain ⟨z, h4, h5⟩ := h3 i
 refine ⟨z, h4, ?_⟩
 have e : p.monic.co i = 1 / p.lead * p.co i := by rw [Poly.monic, Poly.cst_mul]
 rw [e, ← h5, ← l3]; grind
theorem CDB.compL {n m L : Nat} {q : Pol} (hq : CDB m q) : ∀ {l : List Rat}, (∀ a ∈ l, Bq n a) → l.length * q.len + 1 ≤ L → CDB (l.length * (m + n + L + 2) + 1) (Poly.compL l q) ∧ (Poly.compL l q).len ≤ l.length * q.len + 1
 | [], _, _ => by
  rw [Poly.compL]
  exact ⟨CDB.zero.le (by omega), by rw [Poly.len_zero]; omega⟩
 | a :: l, h, hL => by
  have e0 : (a :: l).length * q.len = l.length * q.len + q.len := by rw [List.length_cons, Nat.succ_mul]
  rw [e0] at hL
  obtain ⟨h1, h2⟩ := CDB.compL hq (l := l) (n := n) (L := L) (fun b hb => h b (List.mem_cons_of_mem _ hb)) (by omega)
  rw [Poly.compL]
  have h3 := (h1.mul hq).add (CDB.cst (h a (List.mem_cons_self ..)))
  refine ⟨h3.le ?_, ?_⟩
  ·have e1 : (a :: l).length * (m + n + L + 2) = l.length * (m + n + L + 2) + (m + n + L + 2) := by rw [List.length_cons, Nat.succ_mul]
   omega
  ·have h4 := Poly.len_add (Poly.compL l q * q) (Poly.cst a)
   have h5 := Poly.len_mul_le (Poly.compL l q) q
   have h6 := Poly.len_cst a
   omega
theorem len_pow (p : Pol) : ∀ k : Nat, (p ^ k).len ≤ k * p.len + 1
 | 0 => by rw [Poly.pow_z, Poly.one_len]; omega
 | k + 1 => by
  rw [Poly.pow_s]
  have h1 := Poly.len_mul_le (p ^ k) p
  have h2 := len_pow p k
  rw [Nat.succ_mul]; omega
theorem CDB.pow {m L : Nat} {p : Pol} (h : CDB m p) : ∀ k : Nat, k * p.len + 1 ≤ L → CDB (k * (m + L) + 2) (p ^ k)
 | 0, _ => by rw [Poly.pow_z]; exact CDB.one.le (by omega)
 | k + 1, hL => by
  rw [Nat.succ_mul] at hL
  rw [Poly.pow_s]
  have h1 := (CDB.pow h k (L := L) (by omega)).mul h
  have h2 := len_pow p k
  refine h1.le ?_
  rw [Nat.succ_mul]; omega
structure EB (K T : Nat) (a b : Pol) : Prop where
 ex : ∃ n m, CDB n a ∧ CDB m b ∧ n + 1 ≤ T ∧ m + 1 ≤ T
 pot : T * ((a.len - b.len) + 2) * 3 ^ b.len ≤ K
theorem three_pow (d : Nat) : d + 2 ≤ 3 ^ d + 1 := by
 induction d with
 | zero => decide
 | succ d ih => rw [Nat.pow_succ]; have := Nat.one_le_pow d 3 (by decide); omega
theorem three_pow' {d : Nat} (h : 1 ≤ d) : d + 2 ≤ 3 ^ d := by
 obtain ⟨e, rfl⟩ : ∃ e, d = e + 1 := ⟨d - 1, by omega⟩
 rw [Nat.pow_succ]; have := three_pow e; omega
theorem EB.le {K T : Nat} {a b : Pol} (h : EB K T a b) : 2 * T ≤ K := by
 have h1 := h.pot
 have h2 := Nat.one_le_pow b.len 3 (by decide)
 have h3 : T * (a.len - b.len + 2) * 1 ≤ T * (a.len - b.len + 2) * 3 ^ b.len := Nat.mul_le_mul_left _ h2
 have h4 : T * 2 ≤ T * (a.len - b.len + 2) := Nat.mul_le_mul_left _ (by omega)
 omega
theorem EB.step {K T : Nat} {a b : Pol} (h : EB K T a b) (hb : b ≠ 0) : EB K (T * (a.len - b.len + 2)) b (a % b) := by
 obtain ⟨n, m, h1, h2, h3, h4⟩ := h.ex
 have hr := Poly.mod_len (p := a) hb
 refine ⟨⟨m, _, h2, h1.mod h2 hb, ?_, ?_⟩, ?_⟩
 ·have : T * 2 ≤ T * (a.len - b.len + 2) := Nat.mul_le_mul_left _ (by omega)
  omega
 ·have e1 : (a.len + 1 - b.len) * (m + 1) ≤ (a.len - b.len + 1) * T := Nat.mul_le_mul (by omega) h4
  have e2 : T * (a.len - b.len + 2) = (a.len - b.len + 1) * T + T := by rw [show a.len - b.len + 2 = a.len - b.len + 1 + 1 by omega, Nat.mul_succ, Nat.mul_comm]
  omega
 ·have h5 := h.pot
  have h6 : b.len - (a % b).len + 2 ≤ 3 ^ (b.len - (a % b).len) := three_pow' (by omega)
  have e : 3 ^ b.len = 3 ^ (b.len - (a % b).len) * 3 ^ (a % b).len := by rw [← Nat.pow_add]; congr 1; omega
  rw [e, ← Nat.mul_assoc] at h5
  exact Nat.le_trans (Nat.mul_le_mul_right _ (Nat.mul_le_mul_left _ h6)) h5
theorem EB.div {K T : Nat} {a b : Pol} (h : EB K T a b) (hb : b ≠ 0) : ∃ n m, CDB n a ∧ CDB m b ∧ n + (a.len + 1 - b.len) * (m + 1) + m ≤ K := by
 obtain ⟨n, m, h1, h2, h3, h4⟩ := h.ex
 refine ⟨n, m, h1, h2, ?_⟩
 have hl := Poly.len_pos hb
 have e1 : (a.len + 1 - b.len) * (m + 1) ≤ (a.len - b.len + 1) * T := Nat.mul_le_mul (by omega) h4
 have e2 : T * (a.len - b.len + 2) = (a.len - b.len + 1) * T + T := by rw [show a.len - b.len + 2 = a.len - b.len + 1 + 1 by omega, Nat.mul_succ, Nat.mul_comm]
 have h5 := h.pot
 have h6 : 3 ^ 1 ≤ 3 ^ b.len := Nat.pow_le_pow_right (by decide) hl
 have h7 := Nat.mul_le_mul_left (T * (a.len - b.len + 2)) h6
 omega
theorem EB.init {n m K : Nat} {a b : Pol} (h1 : CDB n a) (h2 : CDB m b) (h : (max n m + 1) * (a.len - b.len + 2) * 3 ^ b.len ≤ K) : EB K (max n m + 1) a b := ⟨⟨n, m, h1, h2, by omega, by omega⟩, h⟩
structure CB (K L : Nat) (a b s w : Pol) : Prop where
 ex : ∃ V, CDB V s ∧ CDB V w ∧ V * 3 ^ b.len ≤ (3 * L + 2) * K
 l1 : s.len + b.len ≤ L
 l2 : w.len + a.len ≤ L
 l3 : w.len + b.len ≤ L
theorem EB.pow_le {K T : Nat} {a b : Pol} (h : EB K T a b) : 2 * 3 ^ b.len ≤ K := by
 obtain ⟨n, m, h1, h2, h3, h4⟩ := h.ex
 have h5 : 2 ≤ T * (a.len - b.len + 2) := Nat.mul_le_mul (show 1 ≤ T by omega) (show 2 ≤ a.len - b.len + 2 by omega)
 exact Nat.le_trans (Nat.mul_le_mul_right _ h5) h.pot
theorem CB.init {K T L : Nat} {p q : Pol} (h : EB K T p q) (hL : p.len + q.len + 1 ≤ L) : CB K L p q 1 0 := by
 refine ⟨⟨2, CDB.one, CDB.zero.le (by omega), ?_⟩, by rw [Poly.one_len]; omega, by rw [Poly.len_zero]; omega, by rw [Poly.len_zero]; omega⟩
 refine Nat.le_trans h.pow_le ?_
 rw [Nat.add_mul]; omega
theorem div_len_le {a b : Pol} (hb : b ≠ 0) : (a / b).len ≤ a.len + 1 - b.len := by
 by_cases h : b.len ≤ a.len
 ·rw [Poly.div_len hb h]; omega
 ·rw [(Poly.mod_of_lt hb (show a.len < b.len by omega)).2, Poly.len_zero]; omega
theorem CB.step {K T L : Nat} {a b s w : Pol} (hE : EB K T a b) (h : CB K L a b s w) (hb : b ≠ 0) : CB K L b (a % b) w (s - a / b * w) := by
 obtain ⟨V, v1, v2, v3⟩ := h.ex
 obtain ⟨n, m, h1, h2, h3, h4⟩ := hE.ex
 have hl := Poly.len_pos hb
 have hr := Poly.mod_len (p := a) hb
 have hdl := div_len_le (a := a) hb
 have hL1 := h.l1
 have hL2 := h.l2
 have hL3 := h.l3
 have hml := Poly.len_mul_le (a / b) w
 have hsl := Poly.len_sub s (a / b * w)
 have hw0 : w = 0 ∨ w.len + a.len ≤ L := .inr hL2
 refine ⟨⟨_, v2.le (Nat.le_max_left V (2 * V + (2 * L * (T * (a.len - b.len + 2)) + 1) + L + 1)), ((v1.sub ((h1.div h2 hb).mul v2)).le ?_).le (Nat.le_max_right V _), ?_⟩, by omega, by omega, by omega⟩
 ·have e1 : (a.len + 1 - b.len) * (m + 1) ≤ (a.len - b.len + 1) * T := Nat.mul_le_mul (by omega) h4
  have e2 : T * (a.len - b.len + 2) = (a.len - b.len + 1) * T + T := by rw [show a.len - b.len + 2 = a.len - b.len + 1 + 1 by omega, Nat.mul_succ, Nat.mul_comm]
  have e3 : (a.len + 1 - b.len) * (n + (a.len + 1 - b.len) * (m + 1) + m + 3) ≤ L * (2 * (T * (a.len - b.len + 2))) := by
   refine Nat.mul_le_mul (by omega) ?_
   have : T ≤ (a.len - b.len + 1) * T := Nat.le_mul_of_pos_left _ (by omega)
   omega
  have e4 : L * (2 * (T * (a.len - b.len + 2))) = 2 * L * (T * (a.len - b.len + 2)) := by rw [← Nat.mul_assoc, Nat.mul_comm L 2]
  omega
 ·have hp := hE.pot
  have hp2 := hE.pow_le
  have e5 : 3 * 3 ^ (a % b).len ≤ 3 ^ b.len := by
   rw [Nat.mul_comm, ← Nat.pow_succ]; exact Nat.pow_le_pow_right (by decide) (by omega)
  generalize T * (a.len - b.len + 2) = T' at *
  generalize 3 ^ (a % b).len = y at *
  generalize 3 ^ b.len = x at *
  have e6 : max V (2 * V + (2 * L * T' + 1) + L + 1) = 2 * V + (2 * L * T' + 1) + L + 1 := by omega
  rw [e6]
  have e7 : (2 * V + (2 * L * T' + 1) + L + 1) * (3 * y) ≤ (2 * V + (2 * L * T' + 1) + L + 1) * x := Nat.mul_le_mul_left _ e5
  have e8 : (2 * V + (2 * L * T' + 1) + L + 1) * x = 2 * (V * x) + 2 * (L * (T' * x)) + L * x + 2 * x := by grind
  have e9 : L * (T' * x) ≤ L * K := Nat.mul_le_mul_left _ hp
  have e10 : L * x ≤ L * K := Nat.mul_le_mul_left _ (by omega)
  have e11 : (3 * L + 2) * K = 3 * (L * K) + 2 * K := by grind
  have e12 : (2 * V + (2 * L * T' + 1) + L + 1) * (3 * y) = 3 * ((2 * V + (2 * L * T' + 1) + L + 1) * y) := by grind
  omega
def synL : List Int → Int → List Int
 | [], _ => []
 | [_], _ => []
 | _ :: m, s => Poly.evalL m s :: synL m s
theorem synL_len (l : List Int) (s : Int) : (synL l s).length = l.length - 1 := by
 induction l with
 | nil => rfl
 | cons a m ih =>
  cases m with
  | nil => rfl
  | cons b m => rw [synL, List.length_cons, ih]; rfl; simp
theorem synL_eval (l : List Int) (s x : Int) : Poly.evalL l x - Poly.evalL l s = (x - s) * Poly.evalL (synL l s) x := by
 induction l with
 | nil => simp [synL, Poly.evalL]
 | cons a m ih =>
  cases m with
  | nil => simp [synL, Poly.evalL]
  | cons b m =>
   ·rw [synL, show Poly.evalL (a :: b :: m) x = a + x * Poly.evalL (b :: m) x from rfl, show Poly.evalL (a :: b :: m) s = a + s * Poly.evalL (b :: m) s from rfl, show Poly.evalL (Poly.evalL (b :: m) s :: synL (b :: m) s) x = Poly.evalL (b :: m) s + x * Poly.evalL (synL (b :: m) s) x from rfl]
    ·generalize Poly.evalL (b :: m) x = u at *
     generalize Poly.evalL (b :: m) s = v at *
     generalize Poly.evalL (synL (b :: m) s) x = w at *
     grind
    ·simp
theorem synL_mem {l : List Int} {s : Int} {k : Nat} (hq : ∀ c ∈ synL l s, wl c.natAbs ≤ k) {v : Nat} (hv : wl (Poly.evalL l s).natAbs ≤ v) : ∀ c ∈ l, wl c.natAbs ≤ max v (wl s.natAbs + k) + 1 := by
 induction l generalizing v with
 | nil => intro c h; simp at h
 | cons a m ih =>
  intro c hc
  cases m with
  | nil =>
   obtain rfl : c = a := by simpa using hc
   have : Poly.evalL [c] s = c := by simp [Poly.evalL]
   rw [this] at hv; omega
  | cons b m =>
   have h1 : Poly.evalL (b :: m) s ∈ synL (a :: b :: m) s := by rw [synL]; exact List.mem_cons_self ..; simp
   have h2 := hq _ h1
   rcases List.mem_cons.1 hc with rfl | hc
   ·have e : c = Poly.evalL (c :: b :: m) s - s * Poly.evalL (b :: m) s := by rw [Poly.evalL]; generalize Poly.evalL (b :: m) s = w; grind
    have h3 := wl_subI hv (wl_mulI (Nat.le_refl (wl s.natAbs)) h2)
    rw [← e] at h3; exact h3
   ·have h4 := ih (v := k) (fun c hc => hq c (by rw [synL]; exact List.mem_cons_of_mem _ hc; simp)) h2 c hc
    omega
theorem coef_words (ws : Nat) : ∀ (e v : Nat) (l : List Int) (s : Int), l.length ≤ e + 1 → (∀ i : Nat, i ≤ e → wl (s + i).natAbs ≤ ws ∧ wl (Poly.evalL l (s + i)).natAbs ≤ v) → ∀ c ∈ l, wl c.natAbs ≤ v + e * (ws + 2)
 | 0, v, l, s, hl, h, c, hc => by
  match l, hl with
  | [], _ => simp at hc
  | [a], _ =>
   obtain rfl : c = a := by simpa using hc
   have := (h 0 (Nat.le_refl _)).2
   rw [Poly.evalL, Poly.evalL] at this
   have e : c + (s + ((0 : Nat) : Int)) * 0 = c := by grind
   rw [e] at this; omega
 | e + 1, v, l, s, hl, h, c, hc => by
  have h0 := h 0 (Nat.zero_le _)
  have es : s + ((0 : Nat) : Int) = s := by omega
  rw [es] at h0
  have hq : ∀ c ∈ synL l s, wl c.natAbs ≤ (v + 1) + e * (ws + 2) := by
   refine coef_words ws e (v + 1) (synL l s) (s + 1) (by rw [synL_len]; omega) fun i hi => ?_
   have h1 := h (i + 1) (by omega)
   have e1 : s + ((i + 1 : Nat) : Int) = s + 1 + (i : Int) := by omega
   rw [e1] at h1
   refine ⟨h1.1, ?_⟩
   have h2 := synL_eval l s (s + 1 + i)
   have h3 := wl_subI h1.2 h0.2
   rw [h2, Int.natAbs_mul] at h3
   have h4 : 1 ≤ (s + 1 + i - s : Int).natAbs := by omega
   have h5 := wl_mono (Nat.mul_le_mul_right (Poly.evalL (synL l s) (s + 1 + i)).natAbs h4)
   rw [Nat.one_mul] at h5
   omega
  have h6 := synL_mem hq h0.2 c hc
  have h7 : (e + 1) * (ws + 2) = e * (ws + 2) + (ws + 2) := Nat.succ_mul _ _
  omega
theorem evalL_words {n ws : Nat} {x : Int} (hx : wl x.natAbs ≤ ws) : ∀ {l : List Int}, (∀ c ∈ l, wl c.natAbs ≤ n) → wl (Poly.evalL l x).natAbs ≤ n + l.length * (ws + 1)
 | [], _ => Nat.zero_le _
 | a :: l, h => by
  rw [Poly.evalL]
  have h1 := evalL_words hx (l := l) fun c hc => h c (List.mem_cons_of_mem _ hc)
  have h2 := wl_addI (h a (List.mem_cons_self ..)) (wl_mulI hx h1)
  rw [List.length_cons, Nat.succ_mul]; omega
theorem evalL_ne {M : Nat} {x : Int} (hx : (M : Int) + 2 ≤ x) : ∀ {l : List Int}, (∀ c ∈ l, c.natAbs ≤ M) → (∀ h : l ≠ [], l.getLast h ≠ 0) → l ≠ [] → 1 ≤ (Poly.evalL l x).natAbs
 | [], _, _, h => absurd rfl h
 | [a], _, hl, _ => by
  have h1 := hl (by simp)
  simp only [List.getLast_singleton] at h1
  rw [Poly.evalL, Poly.evalL, Int.mul_zero, Int.add_zero]; omega
 | a :: b :: l, h, hl, _ => by
  have h1 := evalL_ne hx (l := b :: l) (fun c hc => h c (List.mem_cons_of_mem _ hc)) (fun _ => by have := hl (by simp); rwa [List.getLast_cons (by simp)] at this) (by simp)
  have h2 := h a (List.mem_cons_self ..)
  rw [Poly.evalL]
  generalize Poly.evalL (b :: l) x = y at *
  have h3 : M + 2 ≤ (x * y).natAbs := by
   rw [Int.natAbs_mul]
   exact Nat.le_trans (Nat.le_trans (show M + 2 ≤ x.natAbs by omega) (Nat.le_mul_of_pos_right _ h1)) (Nat.le_refl _)
  omega
def PrL (l : Nat) : Prop := 1 < l ∧ ∀ x y : Int, (l : Int) ∣ x * y → (l : Int) ∣ x ∨ (l : Int) ∣ y
theorem exists_min {P : Nat → Prop} : ∀ n, P n → ∃ m, P m ∧ ∀ k, k < m → ¬ P k := by
 intro n
 induction n using Nat.strongRecOn with
 | _ n ih =>
  intro h
  by_cases hx : ∃ k, k < n ∧ P k
  ·obtain ⟨k, hk, hp⟩ := hx
   exact ih k hk hp
  ·exact ⟨n, h, fun k hk hp => hx ⟨k, hk, hp⟩⟩
theorem ncd {l : Nat} {x : Int} : (l : Int) ∣ x ↔ l ∣ x.natAbs := by rw [← Int.natAbs_dvd_natAbs, Int.natAbs_natCast]
theorem exists_prL {e : Nat} (he : 1 < e) : ∃ l, PrL l ∧ l ∣ e := by
 obtain ⟨l, ⟨h1, h2⟩, h3⟩ := exists_min (P := fun l => 1 < l ∧ l ∣ e) e ⟨he, Nat.dvd_refl e⟩
 refine ⟨l, ⟨h1, fun x y hxy => ?_⟩, h2⟩
 have h4 : l ∣ x.natAbs * y.natAbs := by rw [← Int.natAbs_mul]; exact ncd.1 hxy
 have h5 : Nat.gcd l x.natAbs ∣ e := Nat.dvd_trans (Nat.gcd_dvd_left ..) h2
 have h6 : Nat.gcd l x.natAbs ≤ l := Nat.le_of_dvd (by omega) (Nat.gcd_dvd_left ..)
 have h7 : 0 < Nat.gcd l x.natAbs := Nat.gcd_pos_of_pos_left _ (by omega)
 by_cases h8 : Nat.gcd l x.natAbs = 1
 ·exact .inr (ncd.2 (Nat.Coprime.dvd_of_dvd_mul_left h8 h4))
 ·refine .inl (ncd.2 ?_)
  have h9 : Nat.gcd l x.natAbs = l := by
   rcases Nat.lt_or_ge (Nat.gcd l x.natAbs) l with h | h
   ·exact absurd ⟨by omega, h5⟩ (h3 _ h)
   ·omega
  rw [← h9]; exact Nat.gcd_dvd_right ..
structure IntP (p : Pol) : Prop where
 co : ∀ i, ∃ z : Int, p.co i = z
structure DvP (l : Nat) (p : Pol) : Prop where
 co : ∀ i, ∃ z : Int, p.co i = (((l : Int) * z : Int) : Rat)
theorem rint_inj {a b : Int} (h : (a : Rat) = b) : a = b := by have := congrArg Rat.num h; rwa [Rat.num_intCast, Rat.num_intCast] at this
theorem DvP.zero (l : Nat) : DvP l 0 := ⟨fun i => ⟨0, by rw [Poly.co_zero]; simp⟩⟩
theorem DvP.sub {l : Nat} {p q : Pol} (h : DvP l p) (k : DvP l q) : DvP l (p - q) := ⟨fun i => by
 obtain ⟨a, ha⟩ := h.co i
 obtain ⟨b, hb⟩ := k.co i
 exact ⟨a - b, by rw [Poly.co_sub, ha, hb, Int.mul_sub, Rat.intCast_sub]⟩⟩
theorem DvP.add {l : Nat} {p q : Pol} (h : DvP l p) (k : DvP l q) : DvP l (p + q) := ⟨fun i => by
 obtain ⟨a, ha⟩ := h.co i
 obtain ⟨b, hb⟩ := k.co i
 exact ⟨a + b, by rw [Poly.co_add, ha, hb, Int.mul_add, Rat.intCast_add]⟩⟩
theorem DvP.mono_mul {l : Nat} {q : Pol} (h : IntP q) (a : Int) (s : Nat) : DvP l (Poly.mono ((((l : Int) * a : Int)) : Rat) s * q) := ⟨fun i => by
 rw [Poly.co_mono_mul]
 split
 ·exact ⟨0, by simp⟩
 ·obtain ⟨b, hb⟩ := h.co (i - s)
  exact ⟨a * b, by rw [hb, ← Rat.intCast_mul, Int.mul_assoc]⟩⟩
theorem DvP.mono {l : Nat} (a : Int) (s : Nat) : DvP l (Poly.mono ((((l : Int) * a : Int)) : Rat) s) := ⟨fun i => by
 rw [Poly.co_mono]
 split
 ·exact ⟨a, rfl⟩
 ·exact ⟨0, by simp⟩⟩
theorem IntP.sub_mono {q : Pol} (h : IntP q) (a : Int) (s : Nat) : IntP (q - Poly.mono (a : Rat) s) := ⟨fun i => by
 obtain ⟨b, hb⟩ := h.co i
 rw [Poly.co_sub, Poly.co_mono, hb]
 split
 ·exact ⟨b - a, by rw [Rat.intCast_sub]⟩
 ·exact ⟨b, by grind⟩⟩
theorem cut_len {q : Pol} (hq : q ≠ 0) : (q - Poly.mono q.lead (q.len - 1)).len < q.len := by
 have hl := Poly.len_pos hq
 refine Nat.lt_of_le_of_lt (Poly.len_le (n := q.len - 1) fun i hi => ?_) (by omega)
 rw [Poly.co_sub, Poly.co_mono]
 split
 ·subst_vars; rw [Poly.lead]; grind
 ·rw [Poly.co_ge (show q.len ≤ i by omega)]; grind
theorem dvP_mul {l : Nat} (hl : PrL l) : ∀ (n : Nat) (A B : Pol), A.len + B.len ≤ n → IntP A → IntP B → DvP l (A * B) → DvP l A ∨ DvP l B
 | 0, A, B, h, _, _, _ => .inl (by rw [Poly.eq_zero_of_len (p := A) (by omega)]; exact DvP.zero l)
 | n + 1, A, B, h, hA, hB, hD => by
  by_cases a0 : A = 0
  ·exact .inl (by rw [a0]; exact DvP.zero l)
  by_cases b0 : B = 0
  ·exact .inr (by rw [b0]; exact DvP.zero l)
  obtain ⟨a, ha⟩ := hA.co (A.len - 1)
  obtain ⟨b, hb⟩ := hB.co (B.len - 1)
  obtain ⟨z, hz⟩ := hD.co ((A * B).len - 1)
  have ha' : A.lead = a := ha
  have hb' : B.lead = b := hb
  have hm := (Poly.len_mul a0 b0).2
  have hz' : (A * B).lead = (((l : Int) * z : Int) : Rat) := hz
  rw [hz', ha', hb', ← Rat.intCast_mul] at hm
  have hm := rint_inj hm
  rcases hl.2 a b ⟨z, hm.symm⟩ with ⟨c, hc⟩ | ⟨c, hc⟩
  ·have hlen := cut_len a0
   have hD2 : DvP l ((A - Poly.mono A.lead (A.len - 1)) * B) := by
    have e : (A - Poly.mono A.lead (A.len - 1)) * B = A * B - Poly.mono A.lead (A.len - 1) * B := by grind
    rw [e, ha', hc]
    exact hD.sub (DvP.mono_mul hB c _)
   rcases dvP_mul hl n _ B (by omega) (by rw [ha']; exact hA.sub_mono a _) hB hD2 with h1 | h1
   ·left
    have e : A = (A - Poly.mono A.lead (A.len - 1)) + Poly.mono A.lead (A.len - 1) := by grind
    rw [e]
    refine h1.add ?_
    rw [ha', hc]; exact DvP.mono c _
   ·exact .inr h1
  ·have hlen := cut_len b0
   have hD2 : DvP l (A * (B - Poly.mono B.lead (B.len - 1))) := by
    have e : A * (B - Poly.mono B.lead (B.len - 1)) = A * B - Poly.mono B.lead (B.len - 1) * A := by grind
    rw [e, hb', hc]
    exact hD.sub (DvP.mono_mul hA c _)
   rcases dvP_mul hl n A _ (by omega) hA (by rw [hb']; exact hB.sub_mono b _) hD2 with h1 | h1
   ·exact .inl h1
   ·right
    have e : B = (B - Poly.mono B.lead (B.len - 1)) + Poly.mono B.lead (B.len - 1) := by grind
    rw [e]
    refine h1.add ?_
    rw [hb', hc]; exact DvP.mono c _
theorem CDB.exists_int {n : Nat} {p : Pol} (h : CDB n p) : ∃ c : Nat, 0 < c ∧ IntP (Poly.cst (c : Rat) * p) := by
 obtain ⟨D, h1, h2, h3⟩ := h.ex
 refine ⟨D.natAbs, by omega, ⟨fun i => ?_⟩⟩
 obtain ⟨z, _, hz⟩ := h3 i
 rw [Poly.cst_mul]
 rcases Int.natAbs_eq D with e | e
 ·exact ⟨z, by rw [← hz, ← Rat.intCast_natCast, ← e]⟩
 ·have e2 : ((D.natAbs : Int) : Rat) = -(D : Rat) := by rw [← Rat.intCast_neg]; congr 1; omega
  exact ⟨-z, by rw [Rat.intCast_neg, ← hz, ← Rat.intCast_natCast, e2]; grind⟩
theorem exists_bq : ∀ l : List Rat, ∃ n, ∀ a ∈ l, Bq n a
 | [] => ⟨0, fun a h => by simp at h⟩
 | a :: l => by
  obtain ⟨n, hn⟩ := exists_bq l
  refine ⟨max n (max (wl a.num.natAbs) (wl a.den)), fun b hb => ?_⟩
  rcases List.mem_cons.1 hb with rfl | hb
  ·exact ⟨by omega, by omega⟩
  ·exact (hn b hb).le (by omega)
theorem exists_cdb (p : Pol) : ∃ n, CDB n p := by
 obtain ⟨n, hn⟩ := exists_bq p.c
 have := CDB.of_list p.c hn p.c.length (Nat.le_refl _)
 rw [List.take_length, Poly.of_c] at this
 exact ⟨_, this⟩
theorem gauss {f h P : Pol} (fm : f.lead = 1) (hP : IntP P) (hm : P = f * h) : ∃ (c : Nat) (G : Pol), 0 < c ∧ IntP (Poly.cst (c : Rat) * f) ∧ IntP G ∧ (Poly.cst (c : Rat) * f) * G = P := by
 obtain ⟨nf, hf⟩ := exists_cdb f
 obtain ⟨c0, hc0⟩ := hf.exists_int
 obtain ⟨c, ⟨hc, hF⟩, hmin⟩ := exists_min (P := fun c : Nat => 0 < c ∧ IntP (Poly.cst (c : Rat) * f)) c0 hc0
 have hcr : (c : Rat) ≠ 0 := by rw [← Rat.intCast_natCast]; exact rint_ne (by omega)
 have hG : (Poly.cst (c : Rat) * f) * (Poly.cst (1 / (c : Rat)) * h) = P := by
  have e : Poly.cst (c : Rat) * Poly.cst (1 / (c : Rat)) = 1 := by
   rw [← Poly.cst_mul_cst]
   have : (c : Rat) * (1 / c) = 1 := by grind
   rw [this]; rfl
  rw [hm]
  generalize Poly.cst (1 / (c : Rat)) = u at *
  generalize Poly.cst (c : Rat) = v at *
  have : v * f * (u * h) = (v * u) * (f * h) := by grind
  rw [this, e]; grind
 generalize Poly.cst (1 / (c : Rat)) * h = G at *
 obtain ⟨nG, hGb⟩ := exists_cdb G
 obtain ⟨e0, he0⟩ := hGb.exists_int
 obtain ⟨e, ⟨he, hI⟩, hemin⟩ := exists_min (P := fun e : Nat => 0 < e ∧ IntP (Poly.cst (e : Rat) * G)) e0 he0
 refine ⟨c, G, hc, hF, ?_, hG⟩
 by_cases h1 : e = 1
 ·subst h1
  have : Poly.cst ((1 : Nat) : Rat) * G = G := by
   have e : Poly.cst ((1 : Nat) : Rat) = 1 := rfl
   rw [e]; grind
  rw [this] at hI; exact hI
 exfalso
 obtain ⟨l, hl, e', he'⟩ := exists_prL (e := e) (by omega)
 have hl1 := hl.1
 have hlr : ((l : Int) : Rat) ≠ 0 := rint_ne (by omega)
 have hcast : ∀ a b : Nat, ((a * b : Nat) : Rat) = ((a : Int) : Rat) * (b : Rat) := fun a b => by
  rw [← Rat.intCast_natCast, ← Rat.intCast_natCast, ← Rat.intCast_mul]; rfl
 have hD : DvP l ((Poly.cst (c : Rat) * f) * (Poly.cst (e : Rat) * G)) := ⟨fun i => by
  have e1 : (Poly.cst (c : Rat) * f) * (Poly.cst (e : Rat) * G) = Poly.cst (e : Rat) * P := by rw [← hG]; generalize Poly.cst (e : Rat) = u; generalize Poly.cst (c : Rat) = v; grind
  obtain ⟨z, hz⟩ := hP.co i
  rw [e1, Poly.cst_mul, hz, he', hcast]
  refine ⟨e' * z, ?_⟩
  rw [Rat.intCast_mul, Rat.intCast_mul, Rat.intCast_natCast e', Rat.mul_assoc]⟩
 rcases dvP_mul hl _ _ _ (Nat.le_refl _) hF hI hD with h2 | h2
 ·-- c is a multiple of l
  obtain ⟨z, hz⟩ := h2.co (f.len - 1)
  have h3 : f.co (f.len - 1) = 1 := fm
  rw [Poly.cst_mul, h3, Rat.mul_one, ← Rat.intCast_natCast] at hz
  have hz := rint_inj hz
  have hzp : 0 < z := by
   apply Classical.byContradiction; intro hn
   have : (l : Int) * z ≤ 0 := Int.mul_nonpos_of_nonneg_of_nonpos (by omega) (by omega)
   omega
  obtain ⟨k, rfl⟩ := Int.eq_ofNat_of_zero_le (show 0 ≤ z by omega)
  have hck : c = l * k := by have : ((l : Int) * k : Int) = ((l * k : Nat) : Int) := rfl; omega
  refine hmin k ?_ ⟨by omega, ⟨fun i => ?_⟩⟩
  ·rw [hck]; have := Nat.mul_le_mul_right k hl1; omega
  ·obtain ⟨y, hy⟩ := h2.co i
   refine ⟨y, ?_⟩
   rw [Poly.cst_mul, hck, hcast, Rat.mul_assoc, Rat.intCast_mul] at hy
   rw [Poly.cst_mul]
   generalize (k : Rat) * f.co i = u at *
   generalize (y : Rat) = v at *
   generalize ((l : Int) : Rat) = w at *
   grind
 ·refine hemin e' ?_ ⟨?_, ⟨fun i => ?_⟩⟩
  ·have : 0 < e' := Nat.pos_of_ne_zero fun e0 => by subst e0; omega
   rw [he']; have := Nat.mul_le_mul_right e' hl1; omega
  ·exact Nat.pos_of_ne_zero fun e0 => by subst e0; omega
  ·obtain ⟨y, hy⟩ := h2.co i
   refine ⟨y, ?_⟩
   rw [Poly.cst_mul, he', hcast, Rat.mul_assoc, Rat.intCast_mul] at hy
   rw [Poly.cst_mul]
   generalize (e' : Rat) * G.co i = u at *
   generalize (y : Rat) = v at *
   generalize ((l : Int) : Rat) = w at *
   grind
def intCs (p : Pol) : List Int := p.c.map Rat.num
theorem evalL_int (x : Int) : ∀ {l : List Rat}, (∀ a ∈ l, ∃ z : Int, a = z) → ((Poly.evalL (l.map Rat.num) x : Int) : Rat) = Poly.evalL l (x : Rat)
 | [], _ => rfl
 | a :: l, h => by
  obtain ⟨z, hz⟩ := h a (List.mem_cons_self ..)
  have ih := evalL_int x (l := l) fun b hb => h b (List.mem_cons_of_mem _ hb)
  rw [List.map_cons, Poly.evalL, Poly.evalL, Rat.intCast_add, Rat.intCast_mul, ih, hz, Rat.num_intCast]
theorem IntP.mem {p : Pol} (h : IntP p) : ∀ a ∈ p.c, ∃ z : Int, a = z := fun a ha => by
 obtain ⟨i, hi, rfl⟩ := List.mem_iff_getElem.1 ha
 obtain ⟨z, hz⟩ := h.co i
 exact ⟨z, by rw [← hz]; exact (cf_lt hi).symm⟩
theorem IntP.eval {p : Pol} (h : IntP p) (x : Int) : ((Poly.evalL (intCs p) x : Int) : Rat) = p.eval (x : Rat) := evalL_int x h.mem
theorem CDB.dvd {n : Nat} {p f : Pol} (hp : CDB n p) (p0 : p ≠ 0) (hpl : p.len ≤ 4000000000) (hf : f ∣ p) (fm : f.lead = 1) : CDB (n + p.len * (2 * n + 5)) f := by
 obtain ⟨D, d1, d2, d3⟩ := hp.ex
 have hDr := rint_ne d1
 have hI : IntP (Poly.cst (D : Rat) * p) := ⟨fun i => by obtain ⟨z, _, h⟩ := d3 i; exact ⟨z, by rw [Poly.cst_mul]; exact h⟩⟩
 have hP0 : Poly.cst (D : Rat) * p ≠ 0 := Poly.mul_ne (fun e => hDr (by have := congrArg (fun q => q.co 0) e; simpa [Poly.co_cst, Poly.co_zero] using this)) p0
 have hPl : (Poly.cst (D : Rat) * p).len ≤ p.len := by have := Poly.len_mul_le (Poly.cst (D : Rat)) p; have := Poly.len_cst (D : Rat); omega
 have hPw : ∀ c ∈ intCs (Poly.cst (D : Rat) * p), wl c.natAbs ≤ n := fun c hc => by
  obtain ⟨a, ha, rfl⟩ := List.mem_map.1 hc
  obtain ⟨i, hi, rfl⟩ := List.mem_iff_getElem.1 ha
  obtain ⟨z, h1, h2⟩ := d3 i
  have e : (Poly.cst (D : Rat) * p).c[i] = (z : Rat) := by rw [← cf_lt hi]; show (Poly.cst (D : Rat) * p).co i = _; rw [Poly.cst_mul]; exact h2
  rw [e, Rat.num_intCast]; exact h1
 obtain ⟨h, hh⟩ := hf
 generalize hPe : Poly.cst (D : Rat) * p = P at *
 obtain ⟨c, G, hc, hF, hG, hm⟩ := gauss (f := f) (h := Poly.cst (D : Rat) * h) fm hI (by rw [← hPe, hh]; generalize Poly.cst (D : Rat) = u; grind)
 generalize hFe : Poly.cst (c : Rat) * f = F at *
 have hcr : (c : Rat) ≠ 0 := by rw [← Rat.intCast_natCast]; exact rint_ne (by omega)
 have f0 : f ≠ 0 := fun e => by rw [e] at fm; rw [Poly.lead, Poly.co_zero] at fm; exact absurd fm (by decide)
 have hFl : F.len ≤ p.len := by
  have h1 := Poly.dvd_len (p := F) (q := P) ⟨G, hm.symm⟩ hP0
  omega
 -- values of P
 have hb : 0 < 4294967296 ^ n := Nat.pow_pos (by decide)
 have hval : ∀ i : Nat, i ≤ p.len → wl (((4294967296 ^ n : Nat) : Int) + 2 + i).natAbs ≤ n + 1 ∧ wl (Poly.evalL (intCs F) (((4294967296 ^ n : Nat) : Int) + 2 + i)).natAbs ≤ n + p.len * (n + 2) := by
  intro i hi
  have hx : wl (((4294967296 ^ n : Nat) : Int) + 2 + i).natAbs ≤ n + 1 := wl_le (by rw [Nat.pow_succ]; omega)
  refine ⟨hx, ?_⟩
  have h1 := evalL_words hx hPw
  have h2 : 1 ≤ (Poly.evalL (intCs P) (((4294967296 ^ n : Nat) : Int) + 2 + i)).natAbs := by
   refine evalL_ne (M := 4294967296 ^ n) (by omega) (fun c hc => ?_) (fun hne => ?_) (fun e => hP0 (Poly.eq_zero_of_len (by have := congrArg List.length e; rw [intCs, List.length_map] at this; exact this)))
   ·have h3 := lt_wl c.natAbs
    have h4 : 4294967296 ^ wl c.natAbs ≤ 4294967296 ^ n := Nat.pow_le_pow_right (by decide) (hPw c hc)
    omega
   ·intro e
    have hl := Poly.len_pos hP0
    have h3 : (intCs P).getLast hne = P.lead.num := by
     have hlt : P.c.length - 1 < P.c.length := by have : P.len = P.c.length := rfl; omega
     rw [List.getLast_eq_getElem]
     simp only [intCs, List.length_map, List.getElem_map]
     rw [← cf_lt hlt]; rfl
    rw [h3] at e
    exact Poly.lead_ne hP0 (Rat.num_eq_zero.1 e)
  have h5 : Poly.evalL (intCs F) (((4294967296 ^ n : Nat) : Int) + 2 + i) * Poly.evalL (intCs G) (((4294967296 ^ n : Nat) : Int) + 2 + i) = Poly.evalL (intCs P) (((4294967296 ^ n : Nat) : Int) + 2 + i) := rint_inj (by
   rw [Rat.intCast_mul, hF.eval, hG.eval, hI.eval, ← Poly.eval_mul, hm])
  have h6 : (Poly.evalL (intCs F) (((4294967296 ^ n : Nat) : Int) + 2 + i)).natAbs ≤ (Poly.evalL (intCs P) (((4294967296 ^ n : Nat) : Int) + 2 + i)).natAbs := by
   rw [← h5, Int.natAbs_mul]
   refine Nat.le_mul_of_pos_right _ (Nat.pos_of_ne_zero fun e => ?_)
   rw [← h5, Int.natAbs_mul, e] at h2; omega
  have h7 : (intCs P).length * (n + 1 + 1) ≤ p.len * (n + 2) := Nat.mul_le_mul_right _ (by rw [intCs, List.length_map]; exact hPl)
  exact Nat.le_trans (wl_mono h6) (Nat.le_trans h1 (by omega))
 have hco := coef_words (n + 1) (p.len - 1) (n + p.len * (n + 2)) (intCs F) (((4294967296 ^ n : Nat) : Int) + 2) (by rw [intCs, List.length_map]; show F.len ≤ _; omega) (fun i hi => hval i (by omega))
 have hle : n + p.len * (n + 2) + (p.len - 1) * (n + 1 + 2) ≤ n + p.len * (2 * n + 5) := by
  show n + p.len * (n + 2) + (p.len - 1) * (n + 3) ≤ _
  have h1 := Nat.mul_le_mul_right (n + 3) (show p.len - 1 ≤ p.len by omega)
  have h2 : p.len * (2 * n + 5) = p.len * (n + 2) + p.len * (n + 3) := by rw [← Nat.mul_add]; congr 1; omega
  omega
 have hFc : ∀ i, ∃ z : Int, F.co i = z ∧ wl z.natAbs ≤ n + p.len * (2 * n + 5) := fun i => by
  obtain ⟨z, hz⟩ := hF.co i
  refine ⟨z, hz, ?_⟩
  by_cases hi : i < F.c.length
  ·refine Nat.le_trans (hco z ?_) hle
   refine List.mem_map.2 ⟨F.c[i], List.getElem_mem _, ?_⟩
   rw [← cf_lt hi]; show (F.co i).num = z; rw [hz, Rat.num_intCast]
  ·have : F.co i = 0 := Poly.co_ge (by have : F.len = F.c.length := rfl; omega)
   rw [this] at hz
   have hz : z = 0 := (rint_inj (a := 0) (b := z) hz).symm
   rw [hz]; exact Nat.zero_le _
 refine ⟨c, by omega, ?_, fun i => ?_⟩
 ·obtain ⟨z, h1, h2⟩ := hFc (f.len - 1)
  have h3 : f.co (f.len - 1) = 1 := fm
  rw [← hFe, Poly.cst_mul, h3, Rat.mul_one, ← Rat.intCast_natCast] at h1
  have h1 := rint_inj h1
  rw [h1]; exact h2
 ·obtain ⟨z, h1, h2⟩ := hFc i
  refine ⟨z, h2, ?_⟩
  rw [← h1, ← hFe, Poly.cst_mul]; rfl
theorem CDB.deriv {n : Nat} {p : Pol} (h : CDB n p) (hl : p.len ≤ 4000000000) : CDB (n + 1) p.deriv := by
 obtain ⟨D, h1, h2, h3⟩ := h.ex
 refine ⟨D, h1, by omega, fun i => ?_⟩
 by_cases hi : i + 1 < p.len
 ·obtain ⟨z, h4, h5⟩ := h3 (i + 1)
  refine ⟨((i + 1 : Nat) : Int) * z, ?_, ?_⟩
  ·have h6 : wl ((i + 1 : Nat) : Int).natAbs ≤ 1 := wl_le (by rw [Int.natAbs_natCast]; omega)
   have := wl_mulI h6 h4
   omega
  ·rw [Poly.co_deriv, Rat.intCast_mul, ← h5, Rat.intCast_natCast]
   have e : (Poly.nc (i + 1) : Rat) = ((i + 1 : Nat) : Rat) := by
    generalize i + 1 = k
    induction k with
    | zero => rfl
    | succ n ih => rw [Poly.nc_succ, ih]; grind
   rw [e]; grind
 ·exact ⟨0, Nat.zero_le _, by rw [Poly.co_deriv, Poly.co_ge (by omega)]; simp⟩
theorem gcd_Mon {p q : Pol} (h : p.gcd q ≠ 0) : Poly.Mon (p.gcd q) := by
 have h1 := (Poly.gcd_is p q).unique
 rw [← h1]; exact Poly.monic_Mon h
theorem div_Mon {p q : Pol} (hp : Poly.Mon p) (hq : Poly.Mon q) (h : q ∣ p) : Poly.Mon (p / q) := by
 have h1 := Poly.div_mul_of_dvd hq.ne h
 have h0 : p / q ≠ 0 := fun e => by rw [e, Poly.zero_mul'] at h1; exact hp.ne h1.symm
 have h2 := (Poly.len_mul h0 hq.ne).2
 rw [h1, hp, hq] at h2
 show (p / q).lead = 1
 rw [h2]; grind
structure SqI (p a g : Pol) : Prop where
 ad : a ∣ p
 gd : g ∣ p
 am : Poly.Mon a
 gm : Poly.Mon g
 len : a.len + g.len ≤ p.len + 1
theorem SqI.init {p : Pol} (hp : p ≠ 0) : SqI p (p.monic / p.gcd p.deriv) (p.gcd p.deriv) := by
 have hg : p.gcd p.deriv ≠ 0 := fun e => hp (Poly.gcd_zero_iff.1 e).1
 have hd := (Poly.gcd_is p p.deriv).left
 have hm := gcd_Mon hg
 have hd2 : p.gcd p.deriv ∣ p.monic := Poly.dvd_trans hd (Poly.monic_dvd p).2
 have h1 := Poly.div_mul_of_dvd hg hd2
 refine ⟨Poly.dvd_trans ⟨_, h1.symm⟩ (Poly.monic_dvd p).1, hd, div_Mon (Poly.monic_Mon hp) hm hd2, hm, ?_⟩
 have h2 := Poly.dvd_len hd hp
 have h3 := Poly.div_len (p := p.monic) hg (by rw [Poly.monic_len]; exact h2)
 rw [Poly.monic_len] at h3; omega
theorem SqI.step {p a g : Pol} (h : SqI p a g) : SqI p (a.gcd g) (g / a.gcd g) := by
 have hc : a.gcd g ≠ 0 := fun e => h.am.ne (Poly.gcd_zero_iff.1 e).1
 have h1 := (Poly.gcd_is a g).left
 have h2 := (Poly.gcd_is a g).right
 have hm := gcd_Mon hc
 have h3 := Poly.div_mul_of_dvd hc h2
 have hl1 := Poly.dvd_len h1 h.am.ne
 have hl2 := Poly.dvd_len h2 h.gm.ne
 have hl3 := Poly.div_len hc hl2
 have hl4 := h.len
 have hl5 := Poly.len_pos h.am.ne
 exact ⟨Poly.dvd_trans h1 h.ad, Poly.dvd_trans ⟨a.gcd g, h3.symm⟩ h.gd, hm, div_Mon h.gm hm h2, by omega⟩
theorem eb_of {n m N D L : Nat} {a b : Pol} (ha : CDB n a) (hb : CDB m b) (hn : n ≤ N) (hm : m ≤ N) (hD : a.len - b.len + 2 ≤ D) (hL : b.len ≤ L) {K : Nat} (hK : (N + 1) * D * 3 ^ L ≤ K) : EB K (max n m + 1) a b :=
 EB.init ha hb (Nat.le_trans (Nat.mul_le_mul (Nat.mul_le_mul (by omega) hD) (Nat.pow_le_pow_right (by decide) hL)) hK)
theorem SqI.sizes {p a g : Pol} (h : SqI p a g) {n : Nat} (hp : CDB n p) (p0 : p ≠ 0) (hn : n ≤ 100) (hl : p.len ≤ 13) : CDB 2765 a ∧ CDB 2765 g := by
 have h1 : n + p.len * (2 * n + 5) ≤ 2765 := by have := Nat.mul_le_mul hl (show 2 * n + 5 ≤ 205 by omega); omega
 exact ⟨(hp.dvd p0 (by omega) h.ad h.am).le h1, (hp.dvd p0 (by omega) h.gd h.gm).le h1⟩
theorem SqI.eb {p a g : Pol} (h : SqI p a g) {n : Nat} (hp : CDB n p) (p0 : p ≠ 0) (hn : n ≤ 100) (hl : p.len ≤ 13) (ha : 1 < a.len) : EB 22050000000 (max 2765 2765 + 1) a.monic g.monic := by
 obtain ⟨h1, h2⟩ := h.sizes hp p0 hn hl
 rw [h.am.monic, h.gm.monic]
 have := h.len
 have := Poly.len_pos h.gm.ne
 exact eb_of h1 h2 (Nat.le_refl _) (Nat.le_refl _) (D := 15) (L := 12) (by omega) (by omega) (by decide)
theorem sq_eb {p : Pol} {n : Nat} (hp : CDB n p) (p0 : p ≠ 0) (hn : n ≤ 100) (hl : p.len ≤ 13) : ∃ T, EB 22050000000 T p.monic p.deriv.monic := by
 have h1 : CDB 101 p.deriv.monic := ((hp.deriv (by omega)).le (by omega)).monic
 have h2 : CDB 101 p.monic := (hp.le (by omega)).monic
 have h3 : p.deriv.len ≤ p.len - 1 := Poly.len_le fun i hi => by rw [Poly.co_deriv, Poly.co_ge (by omega)]; grind
 have h4 := Poly.len_pos p0
 exact ⟨_, eb_of h2 h1 (Nat.le_refl _) (Nat.le_refl _) (D := 15) (L := 12) (by rw [Poly.monic_len, Poly.monic_len]; omega) (by rw [Poly.monic_len]; omega) (by decide)⟩
theorem lcmI_pos {l : List Int} (hl : ∀ x ∈ l, 0 < x) : 0 < lcmI l := by
 unfold lcmI
 suffices h : ∀ (l : List Int) (a : Int), 0 < a → (∀ x ∈ l, 0 < x) → 0 < l.foldl (fun a x => a * (x / (Int.gcd a x : Int))) a from h l 1 (by decide) hl
 intro l
 induction l with
 | nil => intro a ha _; exact ha
 | cons x l ih =>
  intro a ha hl
  refine ih _ (Int.mul_pos ha ?_) fun y hy => hl y (by simp [hy])
  have hx := hl x (by simp)
  have hg : 0 < Int.gcd a x := Int.gcd_pos_of_ne_zero_left _ (by omega)
  have hd : (Int.gcd a x : Int) ∣ x := Int.gcd_dvd_right ..
  have h3 := Int.mul_ediv_cancel' hd
  generalize (x / (Int.gcd a x : Int)) = k at *
  apply Classical.byContradiction
  intro hn
  have : (Int.gcd a x : Int) * k ≤ 0 := Int.mul_nonpos_of_nonneg_of_nonpos (by omega) (by omega)
  omega
theorem lcmQ_pos (l : List Rat) : 0 < lcmQ l := lcmI_pos fun x hx => by
 obtain ⟨q, _, rfl⟩ := List.mem_map.1 hx
 have := q.den_nz; omega
theorem lcmI_dvd {l : List Int} : ∀ x ∈ l, x ∣ lcmI l := by
 have key : ∀ (l : List Int) (a : Int), a ∣ l.foldl (fun a x => a * (x / (Int.gcd a x : Int))) a ∧ ∀ x ∈ l, x ∣ l.foldl (fun a x => a * (x / (Int.gcd a x : Int))) a := by
  intro l
  induction l with
  | nil => intro a; exact ⟨Int.dvd_refl a, fun x h => by simp at h⟩
  | cons y l ih =>
   intro a
   obtain ⟨h1, h2⟩ := ih (a * (y / (Int.gcd a y : Int)))
   refine ⟨Int.dvd_trans (Int.dvd_mul_right a _) h1, fun x hx => ?_⟩
   rcases List.mem_cons.1 hx with rfl | hx
   ·refine Int.dvd_trans ?_ h1
    obtain ⟨k, hk⟩ : (Int.gcd a x : Int) ∣ a := Int.gcd_dvd_left ..
    have hdx : (Int.gcd a x : Int) ∣ x := Int.gcd_dvd_right ..
    refine ⟨k, ?_⟩
    have h3 := Int.mul_ediv_cancel' hdx
    generalize (x / (Int.gcd a x : Int)) = m at *
    conv => lhs; lhs; rw [hk]
    conv => rhs; lhs; rw [← h3]
    grind
   ·exact h2 x hx
 exact (key l 1).2
theorem den_dvd {q : Rat} {D z : Int} (h : (D : Rat) * q = z) : (q.den : Int) ∣ D := by
 have e1 : Rat.divInt q.num q.den = q := Rat.num_divInt_den q
 rw [Rat.divInt_eq_div] at e1
 have h6 := rint_ne (D := (q.den : Int)) (by have := q.den_nz; omega)
 have h2 : D * q.num = z * q.den := rint_inj (by
  rw [Rat.intCast_mul, Rat.intCast_mul, ← h]
  generalize hx : ((q.den : Int) : Rat) = x at *
  generalize hy : (q.num : Rat) = y at *
  have e2 : x * q = y := by rw [← e1]; grind
  rw [← e2]; grind)
 have h3 : q.den ∣ q.num.natAbs * D.natAbs := by
  have h4 : (q.den : Int) ∣ q.num * D := ⟨z, by rw [Int.mul_comm, h2, Int.mul_comm]⟩
  rw [← Int.natAbs_mul]; exact ncd.1 h4
 exact ncd.2 (Nat.Coprime.dvd_of_dvd_mul_left (Nat.Coprime.symm q.reduced) h3)
theorem lcm_step_dvd {a x D : Int} (ha : a ∣ D) (hx : x ∣ D) (hx0 : x ≠ 0) : a * (x / (Int.gcd a x : Int)) ∣ D := by
  obtain ⟨k, hk⟩ := ha
  have hg0 : Int.gcd a x ≠ 0 := fun e => hx0 (Int.gcd_eq_zero_iff.1 e).2
  have hgx : (Int.gcd a x : Int) ∣ x := Int.gcd_dvd_right ..
  have hga : (Int.gcd a x : Int) ∣ a := Int.gcd_dvd_left ..
  obtain ⟨x', hx'⟩ := hgx
  obtain ⟨a', ha'⟩ := hga
  have hgi : (Int.gcd a x : Int) ≠ 0 := by omega
  have hq : x / (Int.gcd a x : Int) = x' := by
    conv => lhs; lhs; rw [hx']
    exact Int.mul_ediv_cancel_left _ hgi
  rw [hq, hk]
  refine Int.mul_dvd_mul_left a ?_
  obtain ⟨m, hm⟩ := hx
  have h1 : a' * k = x' * m := by
    have h2 : (Int.gcd a x : Int) * (a' * k) = (Int.gcd a x : Int) * (x' * m) := by
      rw [← Int.mul_assoc, ← ha', ← Int.mul_assoc, ← hx', ← hk, hm]
    exact Int.eq_of_mul_eq_mul_left hgi h2
  have hco : Nat.Coprime x'.natAbs a'.natAbs := by
    have h3 : Int.gcd a x = Int.gcd a x * Nat.gcd a'.natAbs x'.natAbs := by
      conv => lhs; rw [Int.gcd]
      have e1 : a.natAbs = Int.gcd a x * a'.natAbs := by conv => lhs; rw [ha']
                                                         rw [Int.natAbs_mul, Int.natAbs_natCast]
      have e2 : x.natAbs = Int.gcd a x * x'.natAbs := by conv => lhs; rw [hx']
                                                         rw [Int.natAbs_mul, Int.natAbs_natCast]
      conv => lhs; rw [e1, e2]
      exact Nat.gcd_mul_left ..
    have h4 : Nat.gcd a'.natAbs x'.natAbs = 1 := by
      have := Nat.eq_of_mul_eq_mul_left (Nat.pos_of_ne_zero hg0) (show Int.gcd a x * 1 = Int.gcd a x * Nat.gcd a'.natAbs x'.natAbs by omega)
      omega
    exact (Nat.coprime_iff_gcd_eq_one.2 h4).symm
  have h5 : x'.natAbs ∣ a'.natAbs * k.natAbs := by rw [← Int.natAbs_mul, h1, Int.natAbs_mul]; exact Nat.dvd_mul_right ..
  exact Int.natAbs_dvd_natAbs.1 (Nat.Coprime.dvd_of_dvd_mul_left hco h5)
theorem lcmI_dvd_of {D : Int} : ∀ {l : List Int}, (∀ x ∈ l, x ∣ D ∧ x ≠ 0) → lcmI l ∣ D := by
 intro l hl
 unfold lcmI
 suffices h : ∀ (l : List Int) (a : Int), a ∣ D → (∀ x ∈ l, x ∣ D ∧ x ≠ 0) → l.foldl (fun a x => a * (x / (Int.gcd a x : Int))) a ∣ D from h l 1 (Int.one_dvd D) hl
 intro l
 induction l with
 | nil => intro a ha _; exact ha
 | cons x l ih =>
  intro a ha hl
  have h1 := hl x (by simp)
  exact ih _ (lcm_step_dvd ha h1.1 h1.2) fun y hy => hl y (by simp [hy])
theorem wl_dvd {a b : Int} (h : a ∣ b) (hb : b ≠ 0) : wl a.natAbs ≤ wl b.natAbs := wl_mono (Nat.le_of_dvd (by omega) (Int.natAbs_dvd_natAbs.2 h))
theorem CDB.lcm {n : Nat} {p : Pol} (h : CDB n p) (i : Nat) : wl (lcmI ((p.c.map fun q => (q.den : Int)).take i)).natAbs ≤ n := by
 obtain ⟨D, h1, h2, h3⟩ := h.ex
 refine Nat.le_trans (wl_dvd (lcmI_dvd_of fun x hx => ?_) h1) h2
 obtain ⟨q, hq, rfl⟩ := List.mem_map.1 (List.mem_of_mem_take hx)
 obtain ⟨j, hj, rfl⟩ := List.mem_iff_getElem.1 hq
 obtain ⟨z, h4, h5⟩ := h3 j
 rw [show p.co j = p.c[j] from cf_lt hj] at h5
 exact ⟨den_dvd h5, by have := (p.c[j]).den_nz; omega⟩
theorem CDB.nums {n : Nat} {p : Pol} (h : CDB n p) : ∀ x ∈ p.c.map (fun q => q.num * (lcmQ p.c / q.den)), wl x.natAbs ≤ n := fun x hx => by
 obtain ⟨D, h1, h2, h3⟩ := h.ex
 obtain ⟨q, hq, rfl⟩ := List.mem_map.1 hx
 have hD : lcmQ p.c ∣ D := lcmI_dvd_of fun x hx => by
  obtain ⟨q, hq, rfl⟩ := List.mem_map.1 hx
  obtain ⟨j, hj, rfl⟩ := List.mem_iff_getElem.1 hq
  obtain ⟨z, h4, h5⟩ := h3 j
  rw [show p.co j = p.c[j] from cf_lt hj] at h5
  exact ⟨den_dvd h5, by have := (p.c[j]).den_nz; omega⟩
 obtain ⟨j, hj, rfl⟩ := List.mem_iff_getElem.1 hq
 obtain ⟨z, h4, h5⟩ := h3 j
 rw [show p.co j = p.c[j] from cf_lt hj] at h5
 have hqm0 := List.getElem_mem hj
 generalize p.c[j] = q at *
 obtain ⟨k, hk⟩ := hD
 by_cases h0 : q.num = 0
 ·rw [h0, Int.zero_mul]; exact Nat.zero_le _
 have e1 : Rat.divInt q.num q.den = q := Rat.num_divInt_den q
 rw [Rat.divInt_eq_div] at e1
 have h6 := rint_ne (D := (q.den : Int)) (by have := q.den_nz; omega)
 have hz : D * q.num = z * q.den := rint_inj (by
  rw [Rat.intCast_mul, Rat.intCast_mul, ← h5]
  generalize hx : ((q.den : Int) : Rat) = x at *
  generalize hy : (q.num : Rat) = y at *
  have e2 : x * q = y := by rw [← e1]; grind
  rw [← e2]; grind)
 have hz0 : z ≠ 0 := fun e => by
  rw [e, Int.zero_mul] at hz
  rcases Int.mul_eq_zero.1 hz with h | h
  ·exact h1 h
  ·exact h0 h
 refine Nat.le_trans (wl_dvd ?_ hz0) h4
 -- q.num * (lcm / den) divides z = q.num * (D / den)
 have hqm : q ∈ p.c := hqm0
 obtain ⟨m, hm⟩ : (q.den : Int) ∣ lcmQ p.c := lcmI_dvd _ (List.mem_map.2 ⟨q, hqm, rfl⟩)
 have hd : (q.den : Int) ≠ 0 := by have := q.den_nz; omega
 refine ⟨k, Int.eq_of_mul_eq_mul_left hd ?_⟩
 rw [hm, Int.mul_ediv_cancel_left _ hd]
 rw [hk, hm] at hz
 grind
theorem CDB.lcmQ {n : Nat} {p : Pol} (h : CDB n p) : wl (Proofs.YtacenhlcfeepgaaGreat.lcmQ p.c).natAbs ≤ n := by
 have := h.lcm p.c.length
 rw [List.take_of_length_le (by rw [List.length_map]; omega)] at this; exact this
theorem wl_gcd (a b : Int) {n : Nat} (ha : wl a.natAbs ≤ n) (hb : wl b.natAbs ≤ n) : wl ((Int.gcd a b : Int)).natAbs ≤ n := by
 by_cases h0 : b = 0
 ·subst h0
  rw [Int.natAbs_natCast, show Int.gcd a 0 = a.natAbs from by simp]; exact ha
 ·exact Nat.le_trans (wl_dvd (Int.gcd_dvd_right ..) h0) hb
end Go.Proofs.YtacenhlcfeepgaaGreat
