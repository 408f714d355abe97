/- The law is true whatever its arguments are, and these read behind the call as they read before (the row, part 1 of 9: our program logic, contracts of the functions, the law). No conditions. -/
import Derived.CallsIn
import Derived.OrdersIn
import Derived.Below
import Derived.Laws.World
import Derived.Laws.Sem
import Derived.Laws.Entries
import Derived.Laws.Slices
import Derived.Laws.Cells
import Derived.Laws.Tables
import Derived.Laws.Small
import Derived.Laws.MakeOwn
import Derived.Room.Make
import Derived.WideLaws
import Derived.Room.AppendOwn
import Derived.RangeFuncOwn
import Derived.Room.AppendAsks
set_option linter.unusedVariables false
set_option linter.unusedSimpArgs false
set_option linter.unusedSectionVars false
set_option maxHeartbeats 4000000
set_option maxRecDepth 100000
namespace Go.Proofs.YtacenhlcfeepgaaGreat.Eng
open Go
def get {α : Type} : List (Nat × α) → Nat → Option α
 | [], _ => none
 | (k, v) :: r, i => match Nat.beq k i with
  | true => some v
  | false => get r i
inductive Tr where
 | i (k : IntKind) (n : Int)
 | b (b : Bool)
 | s (s : ByteArray)
 | ag (l : List Tr)
 | tu (l : List Tr)
 | sl (e : TypeId) (l : List Tr)
 | fn (f : FuncId) (l : List Tr)
 | pt (t : Tr)
 deriving Inhabited
def Tr.cells : Tr → List Tr
 | .ag l => l
 | t => [t]
def Tr.isAg : Tr → Bool
 | .ag _ => true
 | _ => false
def Tr.leaf : Tr → Bool
 | .ag _ => false
 | .tu _ => false
 | _ => true
def Tr.flat : Tr → Bool
 | .ag l => l.all Tr.leaf
 | .tu _ => false
 | _ => true
inductive TD where
 | int (k : IntKind)
 | bool
 | str
 | slice (e : TypeId)
 | struct (fs : List (TypeId × Nat))
 | arr (n : Nat) (e : TypeId)
 | ptr (e : TypeId)
 | other
structure TI where
 d : TD
 sz : Nat
 by_ : Nat
 zero : Tr
def TI.agg (t : TI) : Bool := match t.d with
 | .struct _ => true
 | .arr _ _ => true
 | _ => false
abbrev Tab := List (Nat × TI)
def szOf (tb : Tab) (e : TypeId) : Nat := match get tb e with
 | some t => t.sz
 | none => 0
def byOf (tb : Tab) (e : TypeId) : Nat := match get tb e with
 | some t => t.by_
 | none => 0
def SC (w : World) (S : Nat → Prop) (b : Nat) : Prop := S b ∧ ∃ cs ty fr, w.heap[b]? = some (.cells cs ty fr)
mutual
inductive RepT (tb : Tab) (w : World) (S : Nat → Prop) : Value → Tr → Prop
 | i (k n) : RepT tb w S (.int k n) (.i k n)
 | b (b) : RepT tb w S (.bool b) (.b b)
 | s (s) : RepT tb w S (.string s) (.s s)
 | ag (vs l) : RepL tb w S vs l → RepT tb w S (.agg vs.toArray) (.ag l)
 | tu (vs l) : RepL tb w S vs l → RepT tb w S (.tuple vs.toArray) (.tu l)
 | fn (f vs l) : RepL tb w S vs l → RepT tb w S (.func (.func f) #[] vs.toArray) (.fn f l)
 | emp (a c e) : RepT tb w S (.slice a 0 c) (.sl e [])
 | sl (b o n c e l) : l.length = n → n ≤ c → n * byOf tb e ≤ 140737488355328 → SC w S b → RepEs tb w S b o (szOf tb e) l → RepT tb w S (.slice (some ⟨b, o, none⟩) n c) (.sl e l)
 | pt (b o t) : SC w S b → RepCs tb w S b o t.cells → RepT tb w S (.pointer (some ⟨b, o, none⟩)) (.pt t)
inductive RepL (tb : Tab) (w : World) (S : Nat → Prop) : List Value → List Tr → Prop
 | nil : RepL tb w S [] []
 | cons (v t vs l) : RepT tb w S v t → RepL tb w S vs l → RepL tb w S (v :: vs) (t :: l)
inductive RepCs (tb : Tab) (w : World) (S : Nat → Prop) : Nat → Nat → List Tr → Prop
 | nil (b o) : RepCs tb w S b o []
 | cons (b o v t l) : w.cell? ⟨b, o, none⟩ = some v → RepT tb w S v t → RepCs tb w S b (o + 1) l → RepCs tb w S b o (t :: l)
inductive RepEs (tb : Tab) (w : World) (S : Nat → Prop) : Nat → Nat → Nat → List Tr → Prop
 | nil (b o z) : RepEs tb w S b o z []
 | cons (b o z t l) : t.cells.length = z → RepCs tb w S b o t.cells → RepEs tb w S b (o + z) z l → RepEs tb w S b o z (t :: l)
end
theorem SC.mono {w w' : World} {S S' : Nat → Prop} {b : Nat} (hw : ∀ b, S b → w'.heap[b]? = w.heap[b]?) (hS : ∀ b, S b → S' b) (h : SC w S b) : SC w' S' b := by
 obtain ⟨h1, cs, ty, fr, h2⟩ := h
 exact ⟨hS b h1, cs, ty, fr, (hw b h1).trans h2⟩
theorem cell_same {w w' : World} {b o : Nat} (h : w'.heap[b]? = w.heap[b]?) : w'.cell? ⟨b, o, none⟩ = w.cell? ⟨b, o, none⟩ := by
 unfold World.cell?; rw [h]
section mono
variable {tb : Tab} {w w' : World} {S S' : Nat → Prop}
mutual
theorem RepT.mono (hw : ∀ b, S b → w'.heap[b]? = w.heap[b]?) (hS : ∀ b, S b → S' b) : ∀ {v : Value} {t : Tr}, RepT tb w S v t → RepT tb w' S' v t
 | _, _, .i k n => .i k n
 | _, _, .b b => .b b
 | _, _, .s s => .s s
 | _, _, .ag vs l h => .ag vs l (RepL.mono hw hS h)
 | _, _, .tu vs l h => .tu vs l (RepL.mono hw hS h)
 | _, _, .fn f vs l h => .fn f vs l (RepL.mono hw hS h)
 | _, _, .emp a c e => .emp a c e
 | _, _, .sl b o n c e l h1 h2 h3 h4 h5 => .sl b o n c e l h1 h2 h3 (h4.mono hw hS) (RepEs.mono hw hS h4.1 h5)
 | _, _, .pt b o t h1 h2 => .pt b o t (h1.mono hw hS) (RepCs.mono hw hS h1.1 h2)
theorem RepL.mono (hw : ∀ b, S b → w'.heap[b]? = w.heap[b]?) (hS : ∀ b, S b → S' b) : ∀ {vs : List Value} {l : List Tr}, RepL tb w S vs l → RepL tb w' S' vs l
 | _, _, .nil => .nil
 | _, _, .cons v t vs l h1 h2 => .cons v t vs l (RepT.mono hw hS h1) (RepL.mono hw hS h2)
theorem RepCs.mono (hw : ∀ b, S b → w'.heap[b]? = w.heap[b]?) (hS : ∀ b, S b → S' b) : ∀ {b o : Nat} {l : List Tr}, S b → RepCs tb w S b o l → RepCs tb w' S' b o l
 | _, _, _, _, .nil _ _ => .nil _ _
 | b, _, _, hb, .cons _ o v t l h1 h2 h3 => .cons b o v t l ((cell_same (hw b hb)).trans h1) (RepT.mono hw hS h2) (RepCs.mono hw hS hb h3)
theorem RepEs.mono (hw : ∀ b, S b → w'.heap[b]? = w.heap[b]?) (hS : ∀ b, S b → S' b) : ∀ {b o z : Nat} {l : List Tr}, S b → RepEs tb w S b o z l → RepEs tb w' S' b o z l
 | _, _, _, _, _, .nil _ _ _ => .nil _ _ _
 | b, _, _, _, hb, .cons _ o z t l h1 h2 h3 => .cons b o z t l h1 (RepCs.mono hw hS hb h2) (RepEs.mono hw hS hb h3)
end
end mono
section lists
variable {tb : Tab} {w : World} {S : Nat → Prop}
theorem RepL.length {vs : List Value} {l : List Tr} (h : RepL tb w S vs l) : vs.length = l.length := by
 induction l generalizing vs with
 | nil => cases h; rfl
 | cons t l ih => cases h with | cons v t vs l h1 h2 => simp [ih h2]
theorem RepL.at {vs : List Value} {l : List Tr} (h : RepL tb w S vs l) (i : Nat) {t : Tr} (ht : l[i]? = some t) : ∃ v, vs[i]? = some v ∧ RepT tb w S v t := by
 induction l generalizing vs i with
 | nil => simp at ht
 | cons t' l ih =>
  cases h with
  | cons v t vs l h1 h2 =>
   cases i with
   | zero => simp at ht; subst ht; exact ⟨v, rfl, h1⟩
   | succ i => simpa using ih h2 i (by simpa using ht)
theorem RepL.append {vs us : List Value} {l m : List Tr} (h : RepL tb w S vs l) (k : RepL tb w S us m) : RepL tb w S (vs ++ us) (l ++ m) := by
 induction l generalizing vs with
 | nil => cases h; simpa using k
 | cons t l ih => cases h with | cons v t vs l h1 h2 => exact .cons _ _ _ _ h1 (ih h2)
theorem RepL.drop {vs : List Value} {l : List Tr} (h : RepL tb w S vs l) (n : Nat) : RepL tb w S (vs.drop n) (l.drop n) := by
 induction n generalizing vs l with
 | zero => simpa using h
 | succ n ih =>
  cases h with
  | nil => simpa using RepL.nil
  | cons v t vs l h1 h2 => simpa using ih h2
theorem RepL.take {vs : List Value} {l : List Tr} (h : RepL tb w S vs l) (n : Nat) : RepL tb w S (vs.take n) (l.take n) := by
 induction n generalizing vs l with
 | zero => simpa using RepL.nil
 | succ n ih =>
  cases h with
  | nil => simpa using RepL.nil
  | cons v t vs l h1 h2 => simpa using RepL.cons _ _ _ _ h1 (ih h2)
theorem RepL.of_at {vs : List Value} {l : List Tr} (hn : vs.length = l.length) (h : ∀ (i : Nat) (v : Value) (t : Tr), vs[i]? = some v → l[i]? = some t → RepT tb w S v t) : RepL tb w S vs l := by
 induction l generalizing vs with
 | nil => cases vs with | nil => exact .nil | cons _ _ => simp at hn
 | cons t l ih =>
  cases vs with
  | nil => simp at hn
  | cons v vs => exact .cons _ _ _ _ (h 0 v t rfl rfl) (ih (by simpa using hn) fun i v t hv ht => h (i + 1) v t (by simpa using hv) (by simpa using ht))
theorem RepT.cells {v : Value} {t : Tr} (h : RepT tb w S v t) : RepL tb w S v.cells.toList t.cells := by
 cases h with
 | ag vs l h => simpa [Value.cells, Tr.cells] using h
 | i k n => exact .cons _ _ _ _ (.i k n) .nil
 | b b => exact .cons _ _ _ _ (.b b) .nil
 | s s => exact .cons _ _ _ _ (.s s) .nil
 | tu vs l h => exact .cons _ _ _ _ (.tu vs l h) .nil
 | fn f vs l h => exact .cons _ _ _ _ (.fn f vs l h) .nil
 | emp a c e => exact .cons _ _ _ _ (.emp a c e) .nil
 | sl b o n c e l h1 h2 h3 h4 h5 => exact .cons _ _ _ _ (.sl b o n c e l h1 h2 h3 h4 h5) .nil
 | pt b o t h1 h2 => exact .cons _ _ _ _ (.pt b o t h1 h2) .nil
theorem RepCs.at {b o : Nat} {l : List Tr} (h : RepCs tb w S b o l) (i : Nat) {t : Tr} (ht : l[i]? = some t) : ∃ v, w.cell? ⟨b, o + i, none⟩ = some v ∧ RepT tb w S v t := by
 induction l generalizing o i with
 | nil => simp at ht
 | cons t' l ih =>
  cases h with
  | cons b o v t l h1 h2 h3 =>
   cases i with
   | zero => simp at ht; subst ht; exact ⟨v, h1, h2⟩
   | succ i =>
    obtain ⟨v', a, c⟩ := ih h3 i (by simpa using ht)
    exact ⟨v', by rw [← a]; congr 2; omega, c⟩
theorem RepCs.of_at {b o : Nat} {l : List Tr} (h : ∀ (i : Nat) (t : Tr), l[i]? = some t → ∃ v, w.cell? ⟨b, o + i, none⟩ = some v ∧ RepT tb w S v t) : RepCs tb w S b o l := by
 induction l generalizing o with
 | nil => exact .nil b o
 | cons t l ih =>
  obtain ⟨v, h1, h2⟩ := h 0 t rfl
  refine .cons b o v t l h1 h2 (ih fun i t ht => ?_)
  obtain ⟨v, h1, h2⟩ := h (i + 1) t (by simpa using ht)
  exact ⟨v, by rw [← h1]; congr 2; omega, h2⟩
theorem RepCs.drop {b o : Nat} {l : List Tr} (h : RepCs tb w S b o l) (n : Nat) : RepCs tb w S b (o + n) (l.drop n) :=
 .of_at fun i t ht => by
  obtain ⟨v, h1, h2⟩ := h.at (n + i) (by simpa [List.getElem?_drop] using ht)
  exact ⟨v, by rw [← h1]; congr 2; omega, h2⟩
theorem RepCs.take {b o : Nat} {l : List Tr} (h : RepCs tb w S b o l) (n : Nat) : RepCs tb w S b o (l.take n) :=
 .of_at fun i t ht => by
  rw [List.getElem?_take] at ht
  split at ht
  ·exact h.at i ht
  ·cases ht
theorem RepEs.at {b o z : Nat} {l : List Tr} (h : RepEs tb w S b o z l) (i : Nat) {t : Tr} (ht : l[i]? = some t) : t.cells.length = z ∧ RepCs tb w S b (o + i * z) t.cells := by
 induction l generalizing o i with
 | nil => simp at ht
 | cons t' l ih =>
  cases h with
  | cons b o z t l h1 h2 h3 =>
   cases i with
   | zero => simp at ht; subst ht; exact ⟨h1, by simpa using h2⟩
   | succ i =>
    have := ih h3 i (by simpa using ht)
    refine ⟨this.1, ?_⟩
    have e : o + (i + 1) * z = o + z + i * z := by rw [Nat.add_mul]; omega
    rw [e]; exact this.2
theorem RepEs.of_at {b o z : Nat} {l : List Tr} (h : ∀ (i : Nat) (t : Tr), l[i]? = some t → t.cells.length = z ∧ RepCs tb w S b (o + i * z) t.cells) : RepEs tb w S b o z l := by
 induction l generalizing o with
 | nil => exact .nil b o z
 | cons t l ih =>
  have h0 := h 0 t rfl
  refine .cons b o z t l h0.1 (by simpa using h0.2) (ih fun i t ht => ?_)
  have := h (i + 1) t (by simpa using ht)
  refine ⟨this.1, ?_⟩
  have e : o + (i + 1) * z = o + z + i * z := by rw [Nat.add_mul]; omega
  rw [← e]; exact this.2
theorem RepEs.drop {b o z : Nat} {l : List Tr} (h : RepEs tb w S b o z l) (n : Nat) : RepEs tb w S b (o + n * z) z (l.drop n) :=
 .of_at fun i t ht => by
  have := h.at (n + i) (by simpa [List.getElem?_drop] using ht)
  refine ⟨this.1, ?_⟩
  have e : o + n * z + i * z = o + (n + i) * z := by rw [Nat.add_mul]; omega
  rw [e]; exact this.2
theorem RepEs.take {b o z : Nat} {l : List Tr} (h : RepEs tb w S b o z l) (n : Nat) : RepEs tb w S b o z (l.take n) :=
 .of_at fun i t ht => by
  rw [List.getElem?_take] at ht
  split at ht
  ·exact h.at i ht
  ·cases ht
end lists
inductive AV where
 | t (t : Tr)
 | nilS
 | own (e : TypeId) (id off len : Nat)
 | ptr (e : TypeId) (id idx off : Nat)
 | clo (f : FuncId) (l : List AV)
 | tu (l : List AV)
 | yld (id : Nat)
 | unk
 deriving Inhabited
abbrev Slots := List (Nat × AV)
inductive Obj where
 | arr (e : TypeId) (l : List AV)
 | loop (sl : Slots) (ps : Array Tmp) (asg body : Code) (nt : Nat) (st : LoopState) (pend : Option Code)
 deriving Inhabited
abbrev Heap := List (Nat × Option Obj)
abbrev Phi := Nat → Option Nat
mutual
inductive RepV (tb : Tab) (w : World) (φ : Phi) (S : Nat → Prop) : Value → AV → Prop
 | t (v t) : RepT tb w S v t → RepV tb w φ S v (.t t)
 | nilS : RepV tb w φ S (.slice none 0 0) .nilS
 | own (e id off len b c cs) : φ id = some b → len ≤ c → len * byOf tb e ≤ 140737488355328 → w.heap[b]? = some (.cells cs e (0, 0)) → (off + c) * szOf tb e = cs.size →
   RepV tb w φ S (.slice (some ⟨b, off * szOf tb e, none⟩) len c) (.own e id off len)
 | ptr (e id idx off b) : φ id = some b → RepV tb w φ S (.pointer (some ⟨b, idx * szOf tb e + off, none⟩)) (.ptr e id idx off)
 | clo (f vs l) : RepVs tb w φ S vs l → RepV tb w φ S (.func (.func f) #[] vs.toArray) (.clo f l)
 | tu (vs l) : RepVs tb w φ S vs l → RepV tb w φ S (.tuple vs.toArray) (.tu l)
 | yld (id b) : φ id = some b → RepV tb w φ S (.func (.yield b) #[] #[]) (.yld id)
 | unk (v) : RepV tb w φ S v .unk
inductive RepVs (tb : Tab) (w : World) (φ : Phi) (S : Nat → Prop) : List Value → List AV → Prop
 | nil : RepVs tb w φ S [] []
 | cons (v t vs l) : RepV tb w φ S v t → RepVs tb w φ S vs l → RepVs tb w φ S (v :: vs) (t :: l)
end
inductive RepE (tb : Tab) (w : World) (φ : Phi) (S : Nat → Prop) (b o z : Nat) : AV → Prop
 | t (t) : t.cells.length = z → RepCs tb w S b o t.cells → RepE tb w φ S b o z (.t t)
 | v (v a) : z = 1 → (∀ t, a ≠ .t t) → w.cell? ⟨b, o, none⟩ = some v → RepV tb w φ S v a → RepE tb w φ S b o z a
def RepO (tb : Tab) (w : World) (φ : Phi) (S : Nat → Prop) (b : Nat) : Obj → Prop
 | .arr e l => (∃ cs, w.heap[b]? = some (.cells cs e (0, 0))) ∧ ∀ (i : Nat) (a : AV), l[i]? = some a → RepE tb w φ S b (i * szOf tb e) (szOf tb e) a
 | .loop sl ps asg body nt st pend => ∃ (fn : FuncId) (tmps : Array Value) (D : Nat), w.heap[b]? = some (.loop { state := st, pending := pend, fn, tmps, params := ps, assign := asg, body, defers := D }) ∧ tmps.size = nt ∧
   ∀ d v, get sl d = some v → RepV tb w φ S (tmps.getD d undef) v
section monoV
variable {tb : Tab} {w w' : World} {φ φ' : Phi} {S S' : Nat → Prop}
structure Keeps (w w' : World) (φ φ' : Phi) (S S' : Nat → Prop) : Prop where
 hw : ∀ b, S b → w'.heap[b]? = w.heap[b]?
 hS : ∀ b, S b → S' b
 hφ : ∀ id b, φ id = some b → φ' id = some b
 hz : ∀ id b cs ty, φ id = some b → w.heap[b]? = some (.cells cs ty (0, 0)) → ∃ cs', w'.heap[b]? = some (.cells cs' ty (0, 0)) ∧ cs'.size = cs.size
theorem Keeps.refl (w : World) (φ : Phi) (S : Nat → Prop) : Keeps w w φ φ S S := ⟨fun _ _ => rfl, fun _ h => h, fun _ _ h => h, fun _ _ cs ty _ h => ⟨cs, h, rfl⟩⟩
theorem Keeps.trans {w'' : World} {φ'' : Phi} {S'' : Nat → Prop} (h : Keeps w w' φ φ' S S') (k : Keeps w' w'' φ' φ'' S' S'') : Keeps w w'' φ φ'' S S'' :=
 ⟨fun b hb => (k.hw b (h.hS b hb)).trans (h.hw b hb), fun b hb => k.hS b (h.hS b hb), fun id b hb => k.hφ id b (h.hφ id b hb), fun id b cs ty hb hc => by
  obtain ⟨cs1, h1, h2⟩ := h.hz id b cs ty hb hc
  obtain ⟨cs2, h3, h4⟩ := k.hz id b cs1 ty (h.hφ id b hb) h1
  exact ⟨cs2, h3, by omega⟩⟩
mutual
theorem RepV.mono (k : Keeps w w' φ φ' S S') : ∀ {v : Value} {a : AV}, RepV tb w φ S v a → RepV tb w' φ' S' v a
 | _, _, .t v t h => .t v t (h.mono k.hw k.hS)
 | _, _, .nilS => .nilS
 | _, _, .own e id off len b c cs h1 h2 h3 h4 h5 => by
  obtain ⟨cs', h6, h7⟩ := k.hz id b cs e h1 h4
  exact .own e id off len b c cs' (k.hφ _ _ h1) h2 h3 h6 (by omega)
 | _, _, .ptr e id idx off b h1 => .ptr e id idx off b (k.hφ _ _ h1)
 | _, _, .clo f vs l h => .clo f vs l (RepVs.mono k h)
 | _, _, .tu vs l h => .tu vs l (RepVs.mono k h)
 | _, _, .yld id b h1 => .yld id b (k.hφ _ _ h1)
 | _, _, .unk v => .unk v
theorem RepVs.mono (k : Keeps w w' φ φ' S S') : ∀ {vs : List Value} {l : List AV}, RepVs tb w φ S vs l → RepVs tb w' φ' S' vs l
 | _, _, .nil => .nil
 | _, _, .cons v t vs l h1 h2 => .cons v t vs l (RepV.mono k h1) (RepVs.mono k h2)
end
theorem RepVs.at {vs : List Value} {l : List AV} (h : RepVs tb w φ S vs l) (i : Nat) {t : AV} (ht : l[i]? = some t) : ∃ v, vs[i]? = some v ∧ RepV tb w φ S v t := by
 induction l generalizing vs i with
 | nil => simp at ht
 | cons t' l ih =>
  cases h with
  | cons v t vs l h1 h2 =>
   cases i with
   | zero => simp at ht; subst ht; exact ⟨v, rfl, h1⟩
   | succ i => simpa using ih h2 i (by simpa using ht)
theorem RepE.mono (k : Keeps w w' φ φ' S S') {b o z : Nat} {a : AV} (hb : ∀ j, j < z → w'.cell? ⟨b, o + j, none⟩ = w.cell? ⟨b, o + j, none⟩) (h : RepE tb w φ S b o z a) : RepE tb w' φ' S' b o z a := by
 cases h with
 | t t h1 h2 =>
  refine .t t h1 (.of_at fun i t' ht => ?_)
  obtain ⟨v, h3, h4⟩ := h2.at i ht
  exact ⟨v, by rw [hb i (by rw [← h1]; exact (List.getElem?_eq_some_iff.1 ht).1)]; exact h3, h4.mono k.hw k.hS⟩
 | v v a h1 h2 h3 h4 => exact .v v a h1 h2 (by have := hb 0 (by omega); rw [Nat.add_zero] at this; rw [this]; exact h3) (h4.mono k)
theorem RepO.mono (k : Keeps w w' φ φ' S S') {b : Nat} {o : Obj} (hb : w'.heap[b]? = w.heap[b]?) (h : RepO tb w φ S b o) : RepO tb w' φ' S' b o := by
 cases o with
 | arr e l =>
  obtain ⟨⟨cs, h1⟩, h2⟩ := h
  exact ⟨⟨cs, by rw [hb]; exact h1⟩, fun i a ha => (h2 i a ha).mono k fun j _ => cell_same hb⟩
 | loop sl ps asg body nt st pend =>
  obtain ⟨fn, tmps, D, h1, h2, h3⟩ := h
  exact ⟨fn, tmps, D, hb.trans h1, h2, fun d v hv => (h3 d v hv).mono k⟩
end monoV
def Tr.leafVal : Tr → Value
 | .i k n => .int k n
 | .b x => .bool x
 | .s x => .string x
 | .sl _ _ => .slice none 0 0
 | _ => .bool false
def Tr.val : Tr → Value
 | .ag l => .agg (l.map Tr.leafVal).toArray
 | t => t.leafVal
def Tr.zeroLeaf : Tr → Bool
 | .i _ _ => true
 | .b _ => true
 | .s _ => true
 | .sl _ [] => true
 | _ => false
def Tr.zeroOk : Tr → Bool
 | .ag l => l.all Tr.zeroLeaf
 | t => t.zeroLeaf
structure TypeOk (P : Program) (e : TypeId) (t : TI) : Prop where
 und : match t.d with
  | .int k => P.underlying e = some (.int k)
  | .bool => P.underlying e = some .bool
  | .str => P.underlying e = some .string
  | .slice e' => P.underlying e = some (.slice e')
  | .struct fs => ∃ fields : Array Field, P.underlying e = some (.struct fields) ∧ fields.toList.map (fun f => (f.type, f.offset)) = fs
  | .arr n e' => P.underlying e = some (.array n e')
  | .ptr e' => P.underlying e = some (.pointer e')
  | .other => ∃ d, P.underlying e = some d ∧ (∀ n e', d ≠ .array n e') ∧ ∀ fs, d ≠ .struct fs
 info : ∃ i, P.info? e = some i ∧ i.size = t.sz ∧ i.bytes = t.by_ ∧ (t.zero.zeroOk = true → i.zero = some t.zero.val)
def TabOk (P : Program) (tb : Tab) : Prop := ∀ e t, get tb e = some t → TypeOk P e t
structure Fr (X : Nat → Prop) (w w' : World) : Prop where
 os : w'.os = w.os
 tape : w'.tape = w.tape
 output : w'.output = w.output
 size : w.heap.size ≤ w'.heap.size
 blk : ∀ i, i < w.heap.size → ¬ X i → w'.heap[i]? = w.heap[i]?
def X0 : Nat → Prop := fun _ => False
theorem Fr.refl (X : Nat → Prop) (w : World) : Fr X w w := ⟨rfl, rfl, rfl, Nat.le_refl _, fun _ _ _ => rfl⟩
theorem Fr.trans {X Y : Nat → Prop} {w w1 w2 : World} (h : Fr X w w1) (k : Fr Y w1 w2) (hY : ∀ i, i < w.heap.size → Y i → X i) : Fr X w w2 :=
 ⟨k.os.trans h.os, k.tape.trans h.tape, k.output.trans h.output, Nat.le_trans h.size k.size, fun i hi hx =>
  (k.blk i (Nat.lt_of_lt_of_le hi h.size) fun y => hx (hY i hi y)).trans (h.blk i hi hx)⟩
theorem Fr.mono {X Y : Nat → Prop} {w w1 : World} (h : Fr X w w1) (hX : ∀ i, X i → Y i) : Fr Y w w1 :=
 ⟨h.os, h.tape, h.output, h.size, fun i hi hy => h.blk i hi fun hx => hy (hX i hx)⟩
theorem heap_alloc_lt (w : World) (o : Go.Obj) {i : Nat} (h : i < w.heap.size) : (w.alloc o).heap[i]? = w.heap[i]? := by
 show (w.heap.push o)[i]? = _
 rw [Array.getElem?_push_lt h, Array.getElem?_eq_getElem h]
theorem heap_alloc_at (w : World) (o : Go.Obj) : (w.alloc o).heap[w.heap.size]? = some o := by
 show (w.heap.push o)[w.heap.size]? = _
 simp
theorem fr_alloc (X : Nat → Prop) (w : World) (o : Go.Obj) : Fr X w (w.alloc o) :=
 ⟨rfl, rfl, rfl, by simp, fun i hi _ => heap_alloc_lt w o hi⟩
theorem fr_drew (X : Nat → Prop) (w : World) : Fr X w w.drew := ⟨rfl, rfl, rfl, Nat.le_refl _, fun _ _ _ => rfl⟩
def UponU (P : Program) (N : Value → World → Prop) : Result Next → Prop
 | .ok (.value v) w' => N v w'
 | .ok .skip w' => N undef w'
 | .ok (.enter f args) w' => Calls P f args w' fun e w'' => ∃ v, e = .returned v ∧ N v w''
 | _ => False
structure Gr (w w' : World) (S S' : Nat → Prop) : Prop where
 hS : ∀ b, S b → S' b
 new : ∀ b, S' b → S b ∨ w.heap.size ≤ b
 lt : ∀ b, S' b → b < w'.heap.size
theorem Gr.refl {w w' : World} {S : Nat → Prop} (h : ∀ b, S b → b < w.heap.size) (k : w.heap.size ≤ w'.heap.size) : Gr w w' S S := ⟨fun _ h => h, fun _ h => .inl h, fun b hb => Nat.lt_of_lt_of_le (h b hb) k⟩
def FnP (P : Program) (tb : Tab) (f : FuncId) (args : List Tr) (t : Tr) : Prop :=
 ∀ (w : World) (S : Nat → Prop) (vs : Array Value) (N : Value → World → Prop), RepL tb w S vs.toList args → (∀ b, S b → b < w.heap.size) →
  (∀ v w' S', RepT tb w' S' v t → Fr X0 w w' → Gr w w' S S' → N v w') → UponU P N ((callFunc f vs).run P w)
def FnN (P : Program) (tb : Tab) (f : FuncId) (args : List Tr) (e : TypeId) (l : List Tr) : Prop :=
 ∀ (w : World) (S : Nat → Prop) (vs : Array Value) (N : Value → World → Prop), RepL tb w S vs.toList args → (∀ b, S b → b < w.heap.size) →
  (∀ v w' b, Fr X0 w w' → w.heap.size ≤ b → b < w'.heap.size → (∀ (φ : Phi) id, φ id = some b → RepV tb w' φ S v (.own e id 0 l.length) ∧ RepO tb w' φ S b (.arr e (l.map .t))) → N v w') → UponU P N ((callFunc f vs).run P w)
inductive Res where
 | val (v : AV)
 | new (v : AV) (id : Nat) (o : Obj)
def constAV : Value → Option AV
 | .int k n => some (.t (.i k n))
 | .bool b => some (.t (.b b))
 | .string s => some (.t (.s s))
 | .slice none 0 0 => some .nilS
 | _ => some .unk
def opAV (sl : Slots) : Operand → Option AV
 | .tmp t => get sl t
 | .const v => constAV v
 | .func f => some (.t (.fn f []))
 | .global _ => none
def AsTr (g : Operand → Option AV) (x : Operand) (t : Tr) : Prop := g x = some (.t t) ∨ (g x = some .nilS ∧ ∃ e, t = .sl e [])
def AsTrs (g : Operand → Option AV) : List Operand → List Tr → Prop
 | [], [] => True
 | x :: xs, t :: ts => AsTr g x t ∧ AsTrs g xs ts
 | _, _ => False
def AsAVs (g : Operand → Option AV) : List Operand → List AV → Prop
 | [], [] => True
 | x :: xs, t :: ts => g x = some t ∧ AsAVs g xs ts
 | _, _ => False
def BdIs (g : Operand → Option AV) : Option Operand → Int → Int → Prop
 | some y, n, _ => ∃ k, g y = some (.t (.i k n))
 | none, n, d => n = d
def Tr.part (off n : Nat) (agg : Bool) (t : Tr) : Option Tr := match agg with
 | true => match t with
  | .ag l => if off + n ≤ l.length then some (.ag ((l.drop off).take n)) else none
  | _ => none
 | false => match t with
  | .ag l => l[off]?
  | _ => none
def fits (ti : TI) (t : Tr) : Bool := t.isAg == ti.agg && t.cells.length == ti.sz
def fieldIn (tb : Tab) (fs : List (TypeId × Nat)) (f : Nat) (t : Tr) : Option Tr := match fs[f]? with
 | some (ft, off) => match get tb ft with
  | some ti => match t.part off ti.sz ti.agg with
   | some u => match Nat.ble 1 ti.sz && (ti.agg || (Nat.beq ti.sz 1 && u.leaf)) with
    | true => some u
    | false => none
   | none => none
  | none => none
 | none => none
def fieldOf (tb : Tab) (T : TypeId) (f : Nat) (t : Tr) : Option Tr := match get tb T with
 | some ti => match ti.d with
  | .struct fs => fieldIn tb fs f t
  | _ => none
 | none => none
def arith : BinOp → Int → Int → Option Int
 | .add, a, b => some (a + b)
 | .sub, a, b => some (a - b)
 | .mul, a, b => some (a * b)
 | _, _, _ => none
def cmpTr : BinOp → Int → Int → Option Bool
 | .eql, a, b => some (a == b)
 | .neq, a, b => some (a != b)
 | .lss, a, b => some (decide (a < b))
 | .leq, a, b => some (decide (a ≤ b))
 | .gtr, a, b => some (decide (a > b))
 | .geq, a, b => some (decide (a ≥ b))
 | _, _, _ => none
def bitsTr (op : BinOp) (k : IntKind) (x y : Int) : Option Int :=
 let a := BitVec.ofInt k.bits x
 let b := BitVec.ofInt k.bits y
 match op with
 | .and => some (k.wrap (a &&& b).toNat)
 | .or => some (k.wrap (a ||| b).toNat)
 | .xor => some (k.wrap (a ^^^ b).toNat)
 | .andNot => some (k.wrap (a &&& ~~~b).toNat)
 | _ => none
def fillTr (fs : List (TypeId × Nat)) (tb : Tab) (cells : List Tr) : List (Nat × Tr) → Option (List Tr)
 | [] => some cells
 | (i, t) :: rest => match fs[i]? with
  | none => none
  | some (ft, off) => match Nat.beq t.cells.length (szOf tb ft) && Nat.ble (off + t.cells.length) cells.length with
   | true => fillTr fs tb (cells.take off ++ t.cells ++ cells.drop (off + t.cells.length)) rest
   | false => none
section
variable (P : Program) (tb : Tab)
inductive QEv (hb : Heap) (g : Operand → Option AV) : Op → TypeId → Res → Prop
 | move (x ty v) : g x = some v → QEv hb g (.move x) ty (.val v)
 | assign (x ty v) : g x = some v → QEv hb g (.assign x) ty (.val v)
 | moveT (x ty t) : AsTr g x t → QEv hb g (.move x) ty (.val (.t t))
 | assignT (x ty t) : AsTr g x t → QEv hb g (.assign x) ty (.val (.t t))
 | pick (c a b ty) (cb : Bool) (v) : g c = some (.t (.b cb)) → cond cb (g a) (g b) = some v → QEv hb g (.pick c a b) ty (.val v)
 | alloc (T ty ti id) : get tb T = some ti → ti.zero.zeroOk = true → (ti.zero.cells.length == ti.sz) = true → QEv hb g (.alloc T) ty (.new (.ptr T id 0 0) id (.arr T [.t ti.zero]))
 | allocNil (T ty ti id e) : get tb T = some ti → ti.d = .slice e → ti.zero = .sl e [] → ti.sz = 1 → QEv hb g (.alloc T) ty (.new (.ptr T id 0 0) id (.arr T [.nilS]))
 | box (T x ty ti t) : get tb T = some ti → AsTr g x t → t.cells.length = ti.sz → QEv hb g (.box T x) ty (.val (.t (.pt t)))
 | boxM (T x ty ti t id) : get tb T = some ti → AsTr g x t → t.cells.length = ti.sz → QEv hb g (.box T x) ty (.new (.ptr T id 0 0) id (.arr T [.t t]))
 | boxV (T x ty ti v id) : get tb T = some ti → ti.sz = 1 → g x = some v → (∀ t, v ≠ .t t) → v ≠ .unk → (∀ l, v ≠ .tu l) → QEv hb g (.box T x) ty (.new (.ptr T id 0 0) id (.arr T [v]))
 | build (T parts ty ti fs zl ts l) : get tb T = some ti → ti.d = .struct fs → (fs.all fun x => (get tb x.1).isSome) = true → ti.zero = .ag zl → ti.zero.zeroOk = true → AsTrs g (parts.toList.map (·.2)) ts →
   fillTr fs tb zl ((parts.toList.map (·.1)).zip ts) = some l → QEv hb g (.build T parts) ty (.val (.t (.ag l)))
 | buildA (T parts ty ti m e tie zl ts l) : get tb T = some ti → ti.d = .arr m e → get tb e = some tie → ti.zero = .ag zl → ti.zero.zeroOk = true → AsTrs g (parts.toList.map (·.2)) ts →
   fillTr ((List.range m).map fun i => (e, i * tie.sz)) tb zl ((parts.toList.map (·.1)).zip ts) = some l → QEv hb g (.build T parts) ty (.val (.t (.ag l)))
 | indexS (T x ix ty ti s k n b) : get tb T = some ti → ti.d = .str → g x = some (.t (.s s)) → g ix = some (.t (.i k n)) → 0 ≤ n → s[n.toNat]? = some b → QEv hb g (.index T x ix) ty (.val (.t (.i .u8 b.toNat)))
 | buildSlice (T n parts ty ti tie e ts) : get tb T = some ti → ti.d = .slice e → get tb e = some tie → parts.toList.map (·.1) = List.range n → AsTrs g (parts.toList.map (·.2)) ts →
   (ts.all fun t => t.cells.length == tie.sz) = true → 0 < tie.sz → (tie.zero.cells.length == tie.sz) = true → tie.zero.zeroOk = true → n * tie.sz ≤ 16777216 → n * tie.by_ ≤ 140737488355328 → QEv hb g (.buildSlice T n parts) ty (.val (.t (.sl e ts)))
 | buildSliceM (T n parts ty ti tie e ts id) : get tb T = some ti → ti.d = .slice e → get tb e = some tie → parts.toList.map (·.1) = List.range n → AsTrs g (parts.toList.map (·.2)) ts →
   (ts.all fun t => t.cells.length == tie.sz) = true → 0 < tie.sz → (tie.zero.cells.length == tie.sz) = true → tie.zero.zeroOk = true → n * tie.sz ≤ 16777216 → n * tie.by_ ≤ 140737488355328 → QEv hb g (.buildSlice T n parts) ty (.new (.own e id 0 n) id (.arr e (ts.map .t)))
 | load (T x ty ti t) : get tb T = some ti → g x = some (.t (.pt t)) → fits ti t = true → QEv hb g (.load T x) ty (.val (.t t))
 | loadP (T x ty ti e id idx l t) : get tb T = some ti → g x = some (.ptr e id idx 0) → get hb id = some (some (.arr e l)) → l[idx]? = some (.t t) → fits ti t = true → QEv hb g (.load T x) ty (.val (.t t))
 | loadF (T x ty ti e id idx off l t u) : get tb T = some ti → g x = some (.ptr e id idx off) → get hb id = some (some (.arr e l)) → l[idx]? = some (.t (.ag u)) → Tr.part off ti.sz ti.agg (.ag u) = some t → (ti.agg || ti.sz == 1) = true → QEv hb g (.load T x) ty (.val (.t t))
 | loadV (T x ty ti e id idx l v) : get tb T = some ti → g x = some (.ptr e id idx 0) → get hb id = some (some (.arr e l)) → l[idx]? = some v → ti.agg = false → (∀ t, v ≠ .t t) → QEv hb g (.load T x) ty (.val v)
 | fieldAddr (T x f ty t u) : g x = some (.t (.pt t)) → fieldOf tb T f t = some u → QEv hb g (.fieldAddr T x f) ty (.val (.t (.pt u)))
 | fieldAddrP (T x f ty ti fs ft off o e id idx tif) : get tb T = some ti → ti.d = .struct fs → fs[f]? = some (ft, off) → get tb ft = some tif → 0 < tif.sz → g x = some (.ptr e id idx o) → QEv hb g (.fieldAddr T x f) ty (.val (.ptr e id idx (o + off)))
 | field (T x f ty t u) : AsTr g x t → fieldOf tb T f t = some u → QEv hb g (.field T x f) ty (.val (.t u))
 | indexAddr (T x ix ty ti tie e l k n t) : get tb T = some ti → ti.d = .slice e → get tb e = some tie → g x = some (.t (.sl e l)) → g ix = some (.t (.i k n)) → 0 ≤ n → l[n.toNat]? = some t → QEv hb g (.indexAddr T x ix) ty (.val (.t (.pt t)))
 | indexAddrO (T x ix ty ti tie e id off len k n) : get tb T = some ti → ti.d = .slice e → get tb e = some tie → g x = some (.own e id off len) → g ix = some (.t (.i k n)) → 0 ≤ n → n < len → QEv hb g (.indexAddr T x ix) ty (.val (.ptr e id (off + n.toNat) 0))
 | indexAddrA (T x ix ty ti tie e l k n m t) : get tb T = some ti → ti.d = .arr m e → get tb e = some tie → tie.sz = 1 → tie.agg = false → g x = some (.t (.pt (.ag l))) → l.length = m → g ix = some (.t (.i k n)) → 0 ≤ n → l[n.toNat]? = some t → t.leaf = true → QEv hb g (.indexAddr T x ix) ty (.val (.t (.pt t)))
 | slice (T x lo hi ty ti tie e l) (nl nh : Int) : get tb T = some ti → ti.d = .slice e → get tb e = some tie → AsTr g x (.sl e l) →
   BdIs g lo nl 0 → BdIs g hi nh l.length →
   0 ≤ nl → nl ≤ nh → nh ≤ l.length → QEv hb g (.slice T x lo hi none) ty (.val (.t (.sl e ((l.take nh.toNat).drop nl.toNat))))
 | sliceX (T x lo y mx ty ti tie e l ky km) (nl nh nm : Int) : get tb T = some ti → ti.d = .slice e → get tb e = some tie → AsTr g x (.sl e l) →
   BdIs g lo nl 0 → g y = some (.t (.i ky nh)) → g mx = some (.t (.i km nm)) →
   0 ≤ nl → nl ≤ nh → nh ≤ nm → nm ≤ l.length → QEv hb g (.slice T x lo (some y) (some mx)) ty (.val (.t (.sl e ((l.take nh.toNat).drop nl.toNat))))
 | sliceO (T x lo hi ty ti tie e id off len) (nl nh : Int) : get tb T = some ti → ti.d = .slice e → get tb e = some tie → g x = some (.own e id off len) →
   BdIs g lo nl 0 → BdIs g hi nh len →
   0 ≤ nl → nl ≤ nh → nh ≤ len → (nl < nh ∨ nl = 0) → QEv hb g (.slice T x lo hi none) ty (.val (.own e id (off + nl.toNat) (nh - nl).toNat))
 | makeSlice (T x y ty ti tie e kx ky n id) : get tb T = some ti → ti.d = .slice e → get tb e = some tie → tie.zero.zeroOk = true → (tie.zero.cells.length == tie.sz) = true → 0 < tie.sz → g x = some (.t (.i kx n)) → g y = some (.t (.i ky n)) →
   0 ≤ n → n * tie.by_ ≤ 140737488355328 → n ≤ 9223372036854775807 → QEv hb g (.makeSlice T x y) ty (.new (.own e id 0 n.toNat) id (.arr e (List.replicate n.toNat (.t tie.zero))))
 | makeSlice0 (T x y ty ti tie e kx ky m id) : get tb T = some ti → ti.d = .slice e → get tb e = some tie → tie.zero.zeroOk = true → (tie.zero.cells.length == tie.sz) = true → 0 < tie.sz → g x = some (.t (.i kx 0)) → g y = some (.t (.i ky m)) →
   0 ≤ m → m * tie.by_ ≤ 281474976710656 → m ≤ 9223372036854775807 → QEv hb g (.makeSlice T x y) ty (.new (.own e id 0 0) id (.arr e []))
 | arith (op T x y ty ty2 k a b r) (n : Int) : g x = some (.t (.i k a)) → g y = some (.t (.i k b)) → arith op a b = some r → k.wrap r = n → QEv hb g (.binOp op T x y ty2) ty (.val (.t (.i k n)))
 | cmp (op T x y ty ty2 k a b r) : g x = some (.t (.i k a)) → g y = some (.t (.i k b)) → cmpTr op a b = some r → QEv hb g (.binOp op T x y ty2) ty (.val (.t (.b r)))
 | quo (T x y ty ty2 k a b) (n : Int) : g x = some (.t (.i k a)) → g y = some (.t (.i k b)) → b ≠ 0 → k.wrap (a.tdiv b) = n → QEv hb g (.binOp .quo T x y ty2) ty (.val (.t (.i k n)))
 | rem (T x y ty ty2 k a b) (n : Int) : g x = some (.t (.i k a)) → g y = some (.t (.i k b)) → b ≠ 0 → a.tmod b = n → QEv hb g (.binOp .rem T x y ty2) ty (.val (.t (.i k n)))
 | bits (op T x y ty ty2 k a b r) (n : Int) : g x = some (.t (.i k a)) → g y = some (.t (.i k b)) → bitsTr op k a b = some r → r = n → QEv hb g (.binOp op T x y ty2) ty (.val (.t (.i k n)))
 | shl (T x y ty ty2 k k2 a b) (n : Int) : g x = some (.t (.i k a)) → g y = some (.t (.i k2 b)) → 0 ≤ b → k.wrap (a * 2 ^ (min b.toNat k.bits)) = n → QEv hb g (.binOp .shl T x y ty2) ty (.val (.t (.i k n)))
 | shr (T x y ty ty2 k k2 a b) (n : Int) : g x = some (.t (.i k a)) → g y = some (.t (.i k2 b)) → 0 ≤ b → a.fdiv (2 ^ (min b.toNat k.bits)) = n → QEv hb g (.binOp .shr T x y ty2) ty (.val (.t (.i k n)))
 | eqB (T x y ty ty2 ti a b) : get tb T = some ti → ti.d = .bool → g x = some (.t (.b a)) → g y = some (.t (.b b)) → QEv hb g (.binOp .eql T x y ty2) ty (.val (.t (.b (a == b))))
 | neB (T x y ty ty2 ti a b) : get tb T = some ti → ti.d = .bool → g x = some (.t (.b a)) → g y = some (.t (.b b)) → QEv hb g (.binOp .neq T x y ty2) ty (.val (.t (.b (a != b))))
 | neg (T x ty k a) (n : Int) : g x = some (.t (.i k a)) → k.wrap (0 - a) = n → QEv hb g (.unOp .neg T x) ty (.val (.t (.i k n)))
 | compl (T x ty k a r) (n : Int) : g x = some (.t (.i k a)) → bitsTr .xor k (if k.signed then -1 else k.max) a = some r → r = n → QEv hb g (.unOp .xor T x) ty (.val (.t (.i k n)))
 | not (T x ty b) : g x = some (.t (.b b)) → QEv hb g (.unOp .not T x) ty (.val (.t (.b (!b))))
 | conv (A B x ty ta tbi ka kb k a) (n : Int) : get tb A = some ta → ta.d = .int ka → get tb B = some tbi → tbi.d = .int kb → g x = some (.t (.i k a)) → kb.wrap a = n → QEv hb g (.convert A B x) ty (.val (.t (.i kb n)))
 | fn (f caps ty ts) : AsTrs g caps.toList ts → QEv hb g (.makeFunc (.func f) #[] caps) ty (.val (.t (.fn f ts)))
 | clo (f caps ty vs) : AsAVs g caps.toList vs → QEv hb g (.makeFunc (.func f) #[] caps) ty (.val (.clo f vs))
 | extract (x ix ty l t) : g x = some (.t (.tu l)) → l[ix]? = some t → QEv hb g (.extract x ix) ty (.val (.t t))
 | extractV (x ix ty l v) : g x = some (.tu l) → l[ix]? = some v → QEv hb g (.extract x ix) ty (.val v)
 | len (T x ty ti e l) (n : Nat) : get tb T = some ti → ti.d = .slice e → AsTr g x (.sl e l) → l.length = n → QEv hb g (.call { callee := .builtin .len, args := #[x], argTypes := #[T] }) ty (.val (.t (.i .i64 n)))
 | lenO (T x ty ti e e2 id off n) : get tb T = some ti → ti.d = .slice e → g x = some (.own e2 id off n) → QEv hb g (.call { callee := .builtin .len, args := #[x], argTypes := #[T] }) ty (.val (.t (.i .i64 n)))
 | max (ts ty x y k a b) : g x = some (.t (.i k a)) → g y = some (.t (.i k b)) → QEv hb g (.call { callee := .builtin .max, args := #[x, y], argTypes := ts }) ty (.val (.t (.i k (max a b))))
 | min (ts ty x y k a b) : g x = some (.t (.i k a)) → g y = some (.t (.i k b)) → QEv hb g (.call { callee := .builtin .min, args := #[x, y], argTypes := ts }) ty (.val (.t (.i k (min a b))))
 | call (f fx args tys ty caps ts t) : g fx = some (.t (.fn f caps)) → AsTrs g args.toList ts → FnP P tb f (ts ++ caps) t → QEv hb g (.call { callee := .value fx, args := args, argTypes := tys }) ty (.val (.t t))
 | callN (f fx args tys ty caps ts e l n id) : g fx = some (.t (.fn f caps)) → AsTrs g args.toList ts → FnN P tb f (ts ++ caps) e l → l.length = n → QEv hb g (.call { callee := .value fx, args := args, argTypes := tys }) ty (.new (.own e id 0 n) id (.arr e (l.map .t)))
 | nilCheck (x ty t) : g x = some (.t (.pt t)) → QEv hb g (.nilCheck x) ty (.val (.t (.pt t)))
 | nilCheckP (x ty e id idx off) : g x = some (.ptr e id idx off) → QEv hb g (.nilCheck x) ty (.val (.ptr e id idx off))
end
theorem add_eq (b o j : Nat) : (⟨b, o, none⟩ : Addr).add j = ⟨b, o + j, none⟩ := by
 unfold Addr.add; split <;> simp_all
def RelH (tb : Tab) (w : World) (φ : Phi) (S : Nat → Prop) (h : Heap) : Prop :=
 ∀ id o, get h id = some (some o) → ∃ b, φ id = some b ∧ b < w.heap.size ∧ ¬ S b ∧ RepO tb w φ S b o
def Post (tb : Tab) (w : World) (φ : Phi) (S : Nat → Prop) (N : Value → World → Prop) : Res → Prop
 | .val av => ∀ v w' S', Fr X0 w w' → Gr w w' S S' → RepV tb w' φ S' v av → N v w'
 | .new av id ob => ∀ v w' b, Fr X0 w w' → w.heap.size ≤ b → b < w'.heap.size →
   (∀ φ' : Phi, (∀ i c, φ i = some c → φ' i = some c) → φ' id = some b → RepV tb w' φ' S v av ∧ RepO tb w' φ' S b ob) → N v w'
section
variable {P : Program} {tb : Tab} {w : World} {φ : Phi} {S : Nat → Prop}
theorem AsTr.rep {g : Operand → Option AV} {ρ : Operand → Value} (hg : ∀ x v, g x = some v → RepV tb w φ S (ρ x) v) {x : Operand} {t : Tr} (h : AsTr g x t) : RepT tb w S (ρ x) t := by
 rcases h with h | ⟨h, e, rfl⟩
 ·have := hg x _ h
  generalize ρ x = v at this
  cases this with | t v t h => exact h
 ·have := hg x _ h
  generalize ρ x = v at this
  cases this with | nilS => exact .emp _ _ _
theorem AsTrs.rep {g : Operand → Option AV} {ρ : Operand → Value} (hg : ∀ x v, g x = some v → RepV tb w φ S (ρ x) v) {xs : List Operand} {ts : List Tr} (h : AsTrs g xs ts) : RepL tb w S (xs.map ρ) ts := by
 induction xs generalizing ts with
 | nil => cases ts with | nil => exact .nil | cons _ _ => exact h.elim
 | cons x xs ih =>
  cases ts with
  | nil => exact h.elim
  | cons t ts => exact .cons _ _ _ _ (h.1.rep hg) (ih h.2)
theorem AsAVs.rep {g : Operand → Option AV} {ρ : Operand → Value} (hg : ∀ x v, g x = some v → RepV tb w φ S (ρ x) v) {xs : List Operand} {ts : List AV} (h : AsAVs g xs ts) : RepVs tb w φ S (xs.map ρ) ts := by
 induction xs generalizing ts with
 | nil => cases ts with | nil => exact .nil | cons _ _ => exact h.elim
 | cons x xs ih =>
  cases ts with
  | nil => exact h.elim
  | cons t ts => exact .cons _ _ _ _ (hg _ _ h.1) (ih h.2)
theorem repT_of {v : Value} {t : Tr} (h : RepV tb w φ S v (.t t)) : RepT tb w S v t := by cases h with | t v t h => exact h
theorem int_of {v : Value} {k : IntKind} {n : Int} (h : RepV tb w φ S v (.t (.i k n))) : v = .int k n := by cases repT_of h with | i k n => rfl
theorem bool_of {v : Value} {b : Bool} (h : RepV tb w φ S v (.t (.b b))) : v = .bool b := by cases repT_of h with | b b => rfl
theorem fn_of {v : Value} {f : FuncId} {l : List Tr} (h : RepV tb w φ S v (.t (.fn f l))) : ∃ vs, v = .func (.func f) #[] vs.toArray ∧ RepL tb w S vs l := by cases repT_of h with | fn f vs l h => exact ⟨vs, rfl, h⟩
theorem pt_of {v : Value} {t : Tr} (h : RepV tb w φ S v (.t (.pt t))) : ∃ b o, v = .pointer (some ⟨b, o, none⟩) ∧ SC w S b ∧ RepCs tb w S b o t.cells := by cases repT_of h with | pt b o t h1 h2 => exact ⟨b, o, rfl, h1, h2⟩
theorem tu_of {v : Value} {l : List Tr} (h : RepV tb w φ S v (.t (.tu l))) : ∃ vs, v = .tuple vs.toArray ∧ RepL tb w S vs l := by cases repT_of h with | tu vs l h => exact ⟨vs, rfl, h⟩
theorem ptr_of {v : Value} {e id idx off : Nat} (h : RepV tb w φ S v (.ptr e id idx off)) : ∃ b, φ id = some b ∧ v = .pointer (some ⟨b, idx * szOf tb e + off, none⟩) := by cases h with | ptr e id idx off b h => exact ⟨b, h, rfl⟩
theorem RepCs.vals {b o : Nat} {l : List Tr} (h : RepCs tb w S b o l) : ∃ cs : List Value, RepL tb w S cs l ∧ ∀ j v, cs[j]? = some v → w.cell? ⟨b, o + j, none⟩ = some v := by
 induction l generalizing o with
 | nil => exact ⟨[], .nil, fun j v hv => by simp at hv⟩
 | cons t l ih =>
  cases h with
  | cons b o v t l h1 h2 h3 =>
   obtain ⟨cs, h4, h5⟩ := ih h3
   refine ⟨v :: cs, .cons _ _ _ _ h2 h4, fun j u hu => ?_⟩
   cases j with
   | zero => simp at hu; subst hu; exact h1
   | succ j => have := h5 j u (by simpa using hu); rw [← this]; congr 2; omega
theorem TypeOk.isAgg {T : TypeId} {ti : TI} (h : TypeOk P T ti) : (isAgg T).run P w = .ok ti.agg w := by
 have hu := h.und
 unfold TI.agg
 split at hu <;> rename_i hd <;> rw [hd]
 case h_5 =>
  obtain ⟨fields, hf, _⟩ := hu
  simp [Go.isAgg, Go.underlying, hf]
 case h_8 =>
  obtain ⟨d, hd, h1, h2⟩ := hu
  cases d <;> first | exact absurd rfl (h1 _ _) | exact absurd rfl (h2 _) | simp [Go.isAgg, Go.underlying, hd]
 all_goals simp [Go.isAgg, Go.underlying, hu]
theorem TypeOk.sizeOf {T : TypeId} {ti : TI} (h : TypeOk P T ti) : (sizeOf T).run P w = .ok ti.sz w := by
 obtain ⟨i, h1, h2, h3, h4⟩ := h.info
 simp [Go.sizeOf, typeInfo, h1, h2]
theorem TypeOk.slice {T e : TypeId} {ti : TI} (h : TypeOk P T ti) (hd : ti.d = .slice e) : P.underlying T = some (.slice e) := by
 have := h.und; rw [hd] at this; exact this
theorem TypeOk.elem {T e : TypeId} {ti : TI} (h : TypeOk P T ti) (hd : ti.d = .slice e) : P.underlying T = some (.slice (P.elem T)) ∧ P.elem T = e := by
 have := h.slice hd
 have he : P.elem T = e := by simp [Program.elem, this]
 rw [he]; exact ⟨this, rfl⟩
theorem szOf_eq {e : TypeId} {ti : TI} (h : get tb e = some ti) : szOf tb e = ti.sz := by simp [szOf, h]
theorem byOf_eq {e : TypeId} {ti : TI} (h : get tb e = some ti) : byOf tb e = ti.by_ := by simp [byOf, h]
theorem run_load_cell {a : Addr} {v : Value} (h : w.cell? a = some v) : (load a).run P w = .ok v w := by
 rw [run_load, h]
theorem run_loadVar_leaf {T : TypeId} {ti : TI} (hT : TypeOk P T ti) (hagg : ti.agg = false) {a : Addr} {v : Value} (h : w.cell? a = some v) : (loadVar T a).run P w = .ok v w := by
 simp only [loadVar, Sem.run_bind, hT.isAgg, Result.andThen_ok, hagg]
 exact run_load_cell h
theorem run_loadVar_agg {T : TypeId} {ti : TI} (hT : TypeOk P T ti) (hagg : ti.agg = true) {b o : Nat} (cs : List Value) (hn : cs.length = ti.sz) (h : ∀ j v, cs[j]? = some v → w.cell? ⟨b, o + j, none⟩ = some v) :
  (loadVar T ⟨b, o, none⟩).run P w = .ok (.agg cs.toArray) w := by
 have hl := run_loadCells_list (P := P) (w := w) ⟨b, o, none⟩ cs (fun j v hv => by rw [add_eq]; exact h j v hv)
 rw [hn] at hl
 simp [loadVar, hT.isAgg, hagg, hT.sizeOf, hl]
theorem run_loadVar_fits {T : TypeId} {ti : TI} (hT : TypeOk P T ti) {b o : Nat} {t : Tr} (hf : fits ti t = true) (h : RepCs tb w S b o t.cells) :
  ∃ v, (loadVar T ⟨b, o, none⟩).run P w = .ok v w ∧ RepT tb w S v t := by
 simp only [fits, Bool.and_eq_true, beq_iff_eq] at hf
 obtain ⟨h1, h2⟩ := hf
 cases hagg : ti.agg with
 | true =>
  rw [hagg] at h1
  cases t with
  | ag l =>
   obtain ⟨cs, h3, h4⟩ := h.vals
   exact ⟨_, run_loadVar_agg hT hagg cs (by rw [h3.length]; exact h2) h4, .ag cs l h3⟩
  | _ => simp [Tr.isAg] at h1
 | false =>
  rw [hagg] at h1
  have hc : t.cells = [t] := by cases t <;> first | rfl | simp [Tr.isAg] at h1
  rw [hc] at h
  cases h with
  | cons b o v t l h3 h4 h5 => exact ⟨v, run_loadVar_leaf hT hagg h3, h4⟩
theorem run_loadVar_part {T : TypeId} {ti : TI} (hT : TypeOk P T ti) {b o off : Nat} {l : List Tr} {t : Tr} (hf : Tr.part off ti.sz ti.agg (.ag l) = some t) (h : RepCs tb w S b o l) :
  ∃ v, (loadVar T ⟨b, o + off, none⟩).run P w = .ok v w ∧ RepT tb w S v t := by
 cases hagg : ti.agg with
 | true =>
  rw [hagg] at hf
  simp only [Tr.part] at hf
  split at hf
  ·injection hf with hf
   subst hf
   rename_i hle
   obtain ⟨cs, h3, h4⟩ := ((h.drop off).take ti.sz).vals
   exact ⟨_, run_loadVar_agg hT hagg cs (by rw [h3.length]; simp; omega) h4, .ag cs _ h3⟩
  ·cases hf
 | false =>
  rw [hagg] at hf
  simp only [Tr.part] at hf
  obtain ⟨v, h1, h2⟩ := h.at off hf
  exact ⟨v, run_loadVar_leaf hT hagg h1, h2⟩
theorem part_cells {off n : Nat} {agg : Bool} {t u : Tr} (h : Tr.part off n agg t = some u) (hn : agg = false → n = 1) (hl : agg = false → u.isAg = false) : ∃ l, t = .ag l ∧ u.cells = (l.drop off).take n := by
 cases t with
 | ag l =>
  refine ⟨l, rfl, ?_⟩
  cases agg with
  | true =>
   simp only [Tr.part] at h
   split at h
   ·injection h with h; subst h; rfl
   ·cases h
  | false =>
   have h : l[off]? = some u := h
   have hu : u.cells = [u] := by have := hl rfl; cases u <;> first | rfl | simp [Tr.isAg] at this
   rw [hu, hn rfl]
   obtain ⟨hlt, rfl⟩ := List.getElem?_eq_some_iff.1 h
   rw [List.drop_eq_getElem_cons hlt]; rfl
 | _ => cases agg <;> simp [Tr.part] at h
end
section
variable {P : Program} {tb : Tab} {w : World} {φ : Phi} {S : Nat → Prop} {N : Value → World → Prop} {ρ : Operand → Value} {o : Oper}
theorem upon_of {v : Value} {w' : World} (h : (execOp ρ o).run P w = .ok (.value v) w') (hN : N v w') : UponU P N ((execOp ρ o).run P w) := by rw [h]; exact hN
theorem exec_v {s : Sem Value} {v : Value} {w' : World} (h : s.run P w = .ok v w') : ((do pure (.value (← s)) : Sem Next)).run P w = .ok (.value v) w' := by simp [h]
theorem post_val {av : AV} (hN : Post tb w φ S N (.val av)) (hS : ∀ b, S b → b < w.heap.size) {v : Value} (h : RepV tb w φ S v av) : N v w :=
 hN v w S (Fr.refl _ _) (Gr.refl hS (Nat.le_refl _)) h
theorem alloc_row {w : World} {φ : Phi} {S : Nat → Prop} (hS : ∀ b, S b → b < w.heap.size) (e : TypeId) (cells : List Value) (φ' : Phi) (hφ : ∀ i c, φ i = some c → φ' i = some c) (hlt : ∀ i c, φ i = some c → c < w.heap.size) :
  Keeps w (w.alloc (.cells cells.toArray e)) φ φ' S S :=
 ⟨fun b hb => heap_alloc_lt _ _ (hS b hb), fun _ h => h, hφ, fun id b cs ty h1 h2 => ⟨cs, by rw [heap_alloc_lt _ _ (hlt _ _ h1)]; exact h2, rfl⟩⟩
theorem cell_alloc_at (w : World) (cells : List Value) (e : TypeId) (j : Nat) : (w.alloc (.cells cells.toArray e)).cell? ⟨w.heap.size, j, none⟩ = cells[j]? := by
 rw [World.cell?_alloc_new]; simp
theorem repCs_alloc {vs : List Value} {l : List Tr} (h : RepL tb w S vs l) (hS : ∀ b, S b → b < w.heap.size) (e : TypeId) (S' : Nat → Prop) (hSS : ∀ b, S b → S' b) : RepCs tb (w.alloc (.cells vs.toArray e)) S' w.heap.size 0 l :=
 .of_at fun i t ht => by
  obtain ⟨v, h1, h2⟩ := h.at i ht
  exact ⟨v, by rw [cell_alloc_at, Nat.zero_add]; exact h1, h2.mono (fun b hb => heap_alloc_lt _ _ (hS b hb)) hSS⟩
theorem zeroLeaf_rep {t : Tr} (h : t.zeroLeaf = true) : RepT tb w S t.leafVal t := by
 cases t with
 | i k n => exact RepT.i k n
 | b b => exact RepT.b b
 | s s => exact RepT.s s
 | sl e l =>
  cases l with
  | nil => exact RepT.emp none 0 e
  | cons _ _ => simp [Tr.zeroLeaf] at h
 | _ => simp [Tr.zeroLeaf] at h
theorem zero_rep {t : Tr} (h : t.zeroOk = true) : RepT tb w S t.val t := by
 cases t with
 | ag l =>
  have hl : ∀ x ∈ l, x.zeroLeaf = true := by simpa [Tr.zeroOk] using h
  refine .ag _ _ (.of_at (by simp) fun i v t hv ht => ?_)
  simp [ht] at hv
  subst hv
  exact zeroLeaf_rep (hl t (List.mem_of_getElem? ht))
 | _ => exact zeroLeaf_rep (by simpa [Tr.zeroOk] using h)
theorem TypeOk.zero {T : TypeId} {ti : TI} (h : TypeOk P T ti) (hz : ti.zero.zeroOk = true) : (zeroValue T).run P w = .ok ti.zero.val w := by
 obtain ⟨i, h1, h2, h3, h4⟩ := h.info
 simp [zeroValue, typeInfo, h1, h4 hz]
theorem post_pt {t : Tr} (hN : Post tb w φ S N (.val (.t (.pt t)))) (hS : ∀ b, S b → b < w.heap.size) (e : TypeId) {cells : List Value} (h : RepL tb w S cells t.cells) :
  N (.pointer (some ⟨w.heap.size, 0, none⟩)) (w.alloc (.cells cells.toArray e)) := by
 have hgr : Gr w (w.alloc (.cells cells.toArray e)) S (fun b => S b ∨ b = w.heap.size) :=
  ⟨fun b hb => .inl hb, fun b hb => hb.imp id fun h => by omega, fun b hb => by rcases hb with hb | hb <;> simp <;> first | (have := hS b hb; omega) | omega⟩
 exact hN _ _ (fun b => S b ∨ b = w.heap.size) (fr_alloc _ _ _) hgr (.t _ _ (.pt _ _ _ ⟨.inr rfl, _, _, _, heap_alloc_at _ _⟩ (repCs_alloc h hS e _ fun _ hb => .inl hb)))
theorem post_new1 {T : TypeId} {ti : TI} (hsz : szOf tb T = ti.sz) {id : Nat} {t : Tr} (hN : Post tb w φ S N (.new (.ptr T id 0 0) id (.arr T [.t t]))) (hS : ∀ b, S b → b < w.heap.size) {cells : List Value} (h : RepL tb w S cells t.cells) (hn : t.cells.length = ti.sz) :
  N (.pointer (some ⟨w.heap.size, 0, none⟩)) (w.alloc (.cells cells.toArray T)) := by
 refine hN _ _ w.heap.size (fr_alloc _ _ _) (Nat.le_refl _) (by simp) fun φ' h1 h2 => ⟨?_, ⟨_, heap_alloc_at _ _⟩, ?_⟩
 ·have := RepV.ptr (tb := tb) (w := w.alloc (.cells cells.toArray T)) (φ := φ') (S := S) T id 0 0 _ h2
  simpa using this
 ·intro i a ha
  cases i with
  | zero =>
   simp at ha; subst ha
   rw [hsz]
   simp only [Nat.zero_mul]
   exact .t _ hn (repCs_alloc h hS T S fun _ h => h)
  | succ i => simp at ha
structure Ctx (P : Program) (tb : Tab) (w : World) (φ : Phi) (S : Nat → Prop) (hb : Heap) (g : Operand → Option AV) (ρ : Operand → Value) : Prop where
 hT : TabOk P tb
 hg : ∀ x v, g x = some v → RepV tb w φ S (ρ x) v
 hh : RelH tb w φ S hb
 hS : ∀ b, S b → b < w.heap.size
 hφ : ∀ i c, φ i = some c → c < w.heap.size
variable {hb : Heap} {g : Operand → Option AV}
theorem ok_move {x : Operand} {v : AV} (c : Ctx P tb w φ S hb g ρ) (ho : o.op = .move x ∨ o.op = .assign x) (h : g x = some v) (hN : Post tb w φ S N (.val v)) : UponU P N ((execOp ρ o).run P w) := by
 refine upon_of (v := ρ x) (w' := w) ?_ (post_val hN c.hS (c.hg _ _ h))
 rcases ho with ho | ho <;> simp [execOp, ho]
theorem ok_moveT {x : Operand} {t : Tr} (c : Ctx P tb w φ S hb g ρ) (ho : o.op = .move x ∨ o.op = .assign x) (h : AsTr g x t) (hN : Post tb w φ S N (.val (.t t))) : UponU P N ((execOp ρ o).run P w) := by
 refine upon_of (v := ρ x) (w' := w) ?_ (post_val hN c.hS (.t _ _ (h.rep c.hg)))
 rcases ho with ho | ho <;> simp [execOp, ho]
theorem ok_pick {x a b : Operand} {cb : Bool} {v : AV} (c : Ctx P tb w φ S hb g ρ) (ho : o.op = .pick x a b) (h : g x = some (.t (.b cb))) (hv : cond cb (g a) (g b) = some v) (hN : Post tb w φ S N (.val v)) : UponU P N ((execOp ρ o).run P w) := by
 have e := bool_of (c.hg _ _ h)
 cases cb
 ·refine upon_of (v := ρ b) (w' := w) ?_ (post_val hN c.hS (c.hg _ _ hv))
  simp [execOp, ho, e, asBool]
 ·refine upon_of (v := ρ a) (w' := w) ?_ (post_val hN c.hS (c.hg _ _ hv))
  simp [execOp, ho, e, asBool]
theorem ok_alloc {T : TypeId} {ti : TI} {id : Nat} (c : Ctx P tb w φ S hb g ρ) (ho : o.op = .alloc T) (ht : get tb T = some ti) (hz : ti.zero.zeroOk = true) (hn : ti.zero.cells.length = ti.sz)
  (hN : Post tb w φ S N (.new (.ptr T id 0 0) id (.arr T [.t ti.zero]))) : UponU P N ((execOp ρ o).run P w) := by
 have hz' := (c.hT _ _ ht).zero (w := w) hz
 have hr := (zero_rep (tb := tb) (w := w) (S := S) hz).cells
 refine upon_of (v := .pointer (some ⟨w.heap.size, 0, none⟩)) (w' := w.alloc (.cells ti.zero.val.cells.toList.toArray T)) ?_ (post_new1 (szOf_eq ht) hN c.hS hr hn)
 simp [execOp, ho, Instr.alloc, hz', newVar, newRow]
theorem ok_box_run {T : TypeId} {x : Operand} (ho : o.op = .box T x) : (execOp ρ o).run P w = .ok (.value (.pointer (some ⟨w.heap.size, 0, none⟩))) (w.alloc (.cells (ρ x).cells.toList.toArray T)) := by
 simp [execOp, ho, Instr.box, newVar, newRow]
theorem ok_box {T : TypeId} {x : Operand} {ti : TI} {t : Tr} (c : Ctx P tb w φ S hb g ρ) (ho : o.op = .box T x) (h : AsTr g x t) (hN : Post tb w φ S N (.val (.t (.pt t)))) : UponU P N ((execOp ρ o).run P w) :=
 upon_of (ok_box_run ho) (post_pt hN c.hS T (h.rep c.hg).cells)
theorem ok_boxM {T : TypeId} {x : Operand} {ti : TI} {t : Tr} {id : Nat} (c : Ctx P tb w φ S hb g ρ) (ho : o.op = .box T x) (ht : get tb T = some ti) (h : AsTr g x t) (hn : t.cells.length = ti.sz) (hN : Post tb w φ S N (.new (.ptr T id 0 0) id (.arr T [.t t]))) : UponU P N ((execOp ρ o).run P w) :=
 upon_of (ok_box_run ho) (post_new1 (szOf_eq ht) hN c.hS (h.rep c.hg).cells hn)
theorem cells_one {v : Value} {a : AV} (h : RepV tb w φ S v a) (h1 : ∀ t, a ≠ .t t) (h2 : a ≠ .unk) (h3 : ∀ l, a ≠ .tu l) : v.cells = #[v] := by
 cases h <;> first | rfl | exact absurd rfl (h1 _) | exact absurd rfl h2 | exact absurd rfl (h3 _)
theorem post_newV {T : TypeId} {ti : TI} (hsz : szOf tb T = ti.sz) (h1 : ti.sz = 1) {id : Nat} {a : AV} (hfr : φ id = none) (hφ : ∀ i c, φ i = some c → c < w.heap.size) (hN : Post tb w φ S N (.new (.ptr T id 0 0) id (.arr T [a]))) (hS : ∀ b, S b → b < w.heap.size) {v : Value} (h : RepV tb w φ S v a) (hne : ∀ t, a ≠ .t t) :
  N (.pointer (some ⟨w.heap.size, 0, none⟩)) (w.alloc (.cells [v].toArray T)) := by
 refine hN _ _ w.heap.size (fr_alloc _ _ _) (Nat.le_refl _) (by simp) fun φ' k1 k2 => ⟨?_, ⟨_, heap_alloc_at _ _⟩, ?_⟩
 ·have := RepV.ptr (tb := tb) (w := w.alloc (.cells [v].toArray T)) (φ := φ') (S := S) T id 0 0 _ k2
  simpa using this
 ·intro i b hb
  cases i with
  | zero =>
   simp at hb; subst hb
   rw [hsz, h1]
   simp only [Nat.zero_mul]
   exact .v v _ rfl hne (by rw [cell_alloc_at]; rfl) (h.mono (alloc_row hS T [v] φ' k1 hφ))
  | succ i => simp at hb
end
section
variable {P : Program} {tb : Tab} {w : World} {φ : Phi} {S : Nat → Prop} {N : Value → World → Prop} {ρ : Operand → Value} {o : Oper} {hb : Heap} {g : Operand → Option AV}
theorem ok_load_run {T : TypeId} {x : Operand} {a : Addr} {v : Value} (ho : o.op = .load T x) (hx : ρ x = .pointer (some a)) (h : (loadVar T a).run P w = .ok v w) : (execOp ρ o).run P w = .ok (.value v) w := by
 simp [execOp, ho, Instr.loadAt, Instr.sureAddr, hx, h]
theorem ok_load {T : TypeId} {x : Operand} {ti : TI} {t : Tr} (c : Ctx P tb w φ S hb g ρ) (ho : o.op = .load T x) (ht : get tb T = some ti) (h : g x = some (.t (.pt t))) (hf : fits ti t = true) (hN : Post tb w φ S N (.val (.t t))) : UponU P N ((execOp ρ o).run P w) := by
 obtain ⟨b, off, hx, hb, hc⟩ := pt_of (c.hg _ _ h)
 obtain ⟨v, h1, h2⟩ := run_loadVar_fits (c.hT _ _ ht) hf hc
 exact upon_of (ok_load_run ho hx h1) (post_val hN c.hS (.t _ _ h2))
theorem obj_at {id : Nat} {e : TypeId} {l : List AV} {idx : Nat} {a : AV} (c : Ctx P tb w φ S hb g ρ) (h : get hb id = some (some (.arr e l))) (hi : l[idx]? = some a) {b : Nat} (hb' : φ id = some b) : RepE tb w φ S b (idx * szOf tb e) (szOf tb e) a := by
 obtain ⟨b', h1, h2, h3, h4, h5⟩ := c.hh _ _ h
 rw [hb'] at h1
 injection h1 with h1
 subst h1
 exact h5 idx a hi
theorem ok_loadP {T : TypeId} {x : Operand} {ti : TI} {t : Tr} {e id idx : Nat} {l : List AV} (c : Ctx P tb w φ S hb g ρ) (ho : o.op = .load T x) (ht : get tb T = some ti) (h : g x = some (.ptr e id idx 0)) (hl : get hb id = some (some (.arr e l))) (hi : l[idx]? = some (.t t)) (hf : fits ti t = true) (hN : Post tb w φ S N (.val (.t t))) : UponU P N ((execOp ρ o).run P w) := by
 obtain ⟨b, hb, hx⟩ := ptr_of (c.hg _ _ h)
 cases obj_at c hl hi hb with
 | t t h1 h2 =>
  obtain ⟨v, h3, h4⟩ := run_loadVar_fits (c.hT _ _ ht) hf h2
  exact upon_of (ok_load_run ho (by rw [hx, Nat.add_zero]) h3) (post_val hN c.hS (.t _ _ h4))
 | v v a h1 h2 h3 h4 => exact absurd rfl (h2 t)
theorem ok_loadF {T : TypeId} {x : Operand} {ti : TI} {t : Tr} {e id idx off : Nat} {l : List AV} {u : List Tr} (c : Ctx P tb w φ S hb g ρ) (ho : o.op = .load T x) (ht : get tb T = some ti) (h : g x = some (.ptr e id idx off)) (hl : get hb id = some (some (.arr e l))) (hi : l[idx]? = some (.t (.ag u))) (hf : Tr.part off ti.sz ti.agg (.ag u) = some t) (hN : Post tb w φ S N (.val (.t t))) : UponU P N ((execOp ρ o).run P w) := by
 obtain ⟨b, hb, hx⟩ := ptr_of (c.hg _ _ h)
 cases obj_at c hl hi hb with
 | t t h1 h2 =>
  obtain ⟨v, h3, h4⟩ := run_loadVar_part (c.hT _ _ ht) hf h2
  exact upon_of (ok_load_run ho hx h3) (post_val hN c.hS (.t _ _ h4))
 | v v a h1 h2 h3 h4 => exact absurd rfl (h2 _)
theorem ok_loadV {T : TypeId} {x : Operand} {ti : TI} {v : AV} {e id idx : Nat} {l : List AV} (c : Ctx P tb w φ S hb g ρ) (ho : o.op = .load T x) (ht : get tb T = some ti) (h : g x = some (.ptr e id idx 0)) (hl : get hb id = some (some (.arr e l))) (hi : l[idx]? = some v) (hagg : ti.agg = false) (hne : ∀ t, v ≠ .t t) (hN : Post tb w φ S N (.val v)) : UponU P N ((execOp ρ o).run P w) := by
 obtain ⟨b, hb, hx⟩ := ptr_of (c.hg _ _ h)
 cases obj_at c hl hi hb with
 | t t h1 h2 => exact absurd rfl (hne _)
 | v u a h1 h2 h3 h4 => exact upon_of (ok_load_run ho (by rw [hx, Nat.add_zero]) (run_loadVar_leaf (c.hT _ _ ht) hagg h3)) (post_val hN c.hS h4)
theorem field_get {fields : Array Field} {fs : List (TypeId × Nat)} (h : fields.toList.map (fun f => (f.type, f.offset)) = fs) {f : Nat} {ft off : Nat} (hf : fs[f]? = some (ft, off)) : ∃ fl, fields[f]? = some fl ∧ fl.type = ft ∧ fl.offset = off := by
 subst h
 rw [List.getElem?_map] at hf
 obtain ⟨fl, h1, h2⟩ := Option.map_eq_some_iff.1 hf
 injection h2 with h2 h3
 exact ⟨fl, by simpa using h1, h2, h3⟩
theorem ok_fieldAddr_run {T : TypeId} {x : Operand} {f : Nat} {ti tif : TI} {fs : List (TypeId × Nat)} {ft off b p : Nat} (hT : TabOk P tb) (ho : o.op = .fieldAddr T x f) (ht : get tb T = some ti) (hd : ti.d = .struct fs) (hf : fs[f]? = some (ft, off)) (htf : get tb ft = some tif) (hsz : 0 < tif.sz) (hx : ρ x = .pointer (some ⟨b, p, none⟩)) :
  (execOp ρ o).run P w = .ok (.value (.pointer (some ⟨b, p + off, none⟩))) w := by
 have hu := (hT _ _ ht).und
 rw [hd] at hu
 obtain ⟨fields, h1, h2⟩ := hu
 obtain ⟨fl, h3, h4, h5⟩ := field_get h2 hf
 have hs := (hT _ _ htf).sizeOf (w := w)
 have hne : ¬ tif.sz = 0 := by omega
 have hb : ∀ z w', (fieldPlace (⟨b, p, none⟩ : Addr) fl).run P w = .ok z w' ↔ z = ⟨b, p + off, none⟩ ∧ w' = w := by
  intro z w'
  simp only [fieldPlace, h4, h5, Sem.run_bind, hs, Result.andThen_ok, if_neg hne, add_eq, Sem.run_pure]
  constructor
  ·intro h; injection h with h k; exact ⟨h.symm, k.symm⟩
  ·rintro ⟨rfl, rfl⟩; rfl
 have hb' := (hb ⟨b, p + off, none⟩ w).2 ⟨rfl, rfl⟩
 simp [execOp, ho, Instr.fieldAt, underlying, h1, h3, Instr.sureAddr, hx, hb']
theorem fieldOf_some {T : TypeId} {f : Nat} {t u : Tr} (h : fieldOf tb T f t = some u) : ∃ ti fs ft off tif, get tb T = some ti ∧ ti.d = .struct fs ∧ fs[f]? = some (ft, off) ∧ get tb ft = some tif ∧ t.part off tif.sz tif.agg = some u ∧ 0 < tif.sz ∧ (tif.agg = false → tif.sz = 1 ∧ u.isAg = false) := by
 unfold fieldOf at h
 split at h
 ·rename_i ti ht
  split at h
  ·rename_i fs hd
   unfold fieldIn at h
   split at h
   ·rename_i ft off hf
    split at h
    ·rename_i tif htf
     split at h
     ·rename_i v hv
      split at h
      ·rename_i hc
       injection h with h
       subst h
       simp only [Bool.and_eq_true, Nat.ble_eq, Bool.or_eq_true, Nat.beq_eq_true_eq] at hc
       refine ⟨ti, fs, ft, off, tif, ht, hd, hf, htf, hv, hc.1, fun ha => ?_⟩
       rcases hc.2 with h1 | h1
       ·rw [ha] at h1; cases h1
       ·refine ⟨Nat.eq_of_beq_eq_true h1.1, ?_⟩
        have := h1.2
        cases v <;> first | rfl | simp [Tr.leaf] at this
      ·cases h
     ·cases h
    ·cases h
   ·cases h
  ·cases h
 ·cases h
theorem ok_fieldAddr {T : TypeId} {x : Operand} {f : Nat} {t u : Tr} (c : Ctx P tb w φ S hb g ρ) (ho : o.op = .fieldAddr T x f) (h : g x = some (.t (.pt t))) (hf : fieldOf tb T f t = some u) (hN : Post tb w φ S N (.val (.t (.pt u)))) : UponU P N ((execOp ρ o).run P w) := by
 obtain ⟨ti, fs, ft, off, tif, h1, h2, h3, h4, h5, h6, h7⟩ := fieldOf_some hf
 obtain ⟨b, p, hx, hb, hc⟩ := pt_of (c.hg _ _ h)
 obtain ⟨l, rfl, h8⟩ := part_cells h5 (fun ha => (h7 ha).1) (fun ha => (h7 ha).2)
 refine upon_of (ok_fieldAddr_run c.hT ho h1 h2 h3 h4 h6 hx) (post_val hN c.hS (.t _ _ (.pt _ _ _ hb ?_)))
 rw [h8]
 exact (RepCs.drop hc off).take tif.sz
theorem ok_fieldAddrP {T : TypeId} {x : Operand} {f : Nat} {ti tif : TI} {fs : List (TypeId × Nat)} {ft off p e id idx : Nat} (c : Ctx P tb w φ S hb g ρ) (ho : o.op = .fieldAddr T x f) (ht : get tb T = some ti) (hd : ti.d = .struct fs) (hf : fs[f]? = some (ft, off)) (htf : get tb ft = some tif) (hsz : 0 < tif.sz)
  (h : g x = some (.ptr e id idx p)) (hN : Post tb w φ S N (.val (.ptr e id idx (p + off)))) : UponU P N ((execOp ρ o).run P w) := by
 obtain ⟨b, hb, hx⟩ := ptr_of (c.hg _ _ h)
 refine upon_of (ok_fieldAddr_run c.hT ho ht hd hf htf hsz hx) (post_val hN c.hS ?_)
 rw [Nat.add_assoc]
 exact .ptr _ _ _ _ _ hb
theorem ok_field {T : TypeId} {x : Operand} {f : Nat} {t u : Tr} (c : Ctx P tb w φ S hb g ρ) (ho : o.op = .field T x f) (h : AsTr g x t) (hf : fieldOf tb T f t = some u) (hN : Post tb w φ S N (.val (.t u))) : UponU P N ((execOp ρ o).run P w) := by
 obtain ⟨ti, fs, ft, off, tif, h1, h2, h3, h4, h5, h6, h7⟩ := fieldOf_some hf
 obtain ⟨l, rfl, h8⟩ := part_cells h5 (fun ha => (h7 ha).1) (fun ha => (h7 ha).2)
 have hr := h.rep c.hg
 have hu := (c.hT _ _ h1).und
 rw [h2] at hu
 obtain ⟨fields, k1, k2⟩ := hu
 obtain ⟨fl, k3, k4, k5⟩ := field_get k2 h3
 generalize hv : ρ x = v at hr
 cases hr with
 | ag vs l hl =>
  have hs := (c.hT _ _ h4).sizeOf (w := w)
  have hi := (c.hT _ _ h4).isAgg (w := w)
  cases hagg : tif.agg with
  | true =>
   rw [hagg] at h5
   simp only [Tr.part] at h5
   split at h5
   ·rename_i hle
    injection h5 with h5
    subst h5
    refine upon_of (v := .agg ((vs.drop off).take tif.sz).toArray) (w' := w) ?_ (post_val hN c.hS (.t _ _ (.ag _ _ ((hl.drop off).take tif.sz))))
    have e : (vs.toArray).extract off (off + tif.sz) = ((vs.drop off).take tif.sz).toArray := by
     simp [List.extract_eq_take_drop]
    simp [execOp, ho, Instr.field, underlying, k1, k3, k4, k5, asAgg, hv, part, hi, hagg, hs, e]
   ·cases h5
  | false =>
   rw [hagg] at h5
   simp only [Tr.part] at h5
   obtain ⟨z, hz, hz2⟩ := hl.at off h5
   refine upon_of (v := z) (w' := w) ?_ (post_val hN c.hS (.t _ _ hz2))
   simp [execOp, ho, Instr.field, underlying, k1, k3, k4, k5, asAgg, hv, part, hi, hagg, hz]
theorem sl_of {v : Value} {e : TypeId} {l : List Tr} (h : RepT tb w S v (.sl e l)) : ∃ a c, v = .slice a l.length c ∧ l.length ≤ c ∧ l.length * byOf tb e ≤ 140737488355328 ∧ (l = [] ∨ ∃ b o, a = some ⟨b, o, none⟩ ∧ SC w S b ∧ RepEs tb w S b o (szOf tb e) l) := by
 cases h with
 | emp a c e => exact ⟨a, c, rfl, Nat.zero_le _, by simp, .inl rfl⟩
 | sl b o n c e l h1 h2 h3 h4 h5 => subst h1; exact ⟨_, c, rfl, h2, h3, .inr ⟨b, o, rfl, h4, h5⟩⟩
theorem ok_indexAddr {T : TypeId} {x ix : Operand} {ti tie : TI} {e : TypeId} {l : List Tr} {k : IntKind} {n : Int} {t : Tr} (c : Ctx P tb w φ S hb g ρ) (ho : o.op = .indexAddr T x ix) (ht : get tb T = some ti) (hd : ti.d = .slice e) (hte : get tb e = some tie) (h : g x = some (.t (.sl e l))) (hi : g ix = some (.t (.i k n))) (h0 : 0 ≤ n) (hl : l[n.toNat]? = some t)
  (hN : Post tb w φ S N (.val (.t (.pt t)))) : UponU P N ((execOp ρ o).run P w) := by
 obtain ⟨a, cap, hx, h1, h2, h3⟩ := sl_of (repT_of (c.hg _ _ h))
 have hix := int_of (c.hg _ _ hi)
 have hlt := (List.getElem?_eq_some_iff.1 hl).1
 rcases h3 with rfl | ⟨b, p, rfl, hb, hes⟩
 ·simp at hlt
 ·obtain ⟨h4, h5⟩ := hes.at n.toNat hl
  obtain ⟨hu1, hu2⟩ := (c.hT _ _ ht).elem hd
  have hrun := run_indexAt_slice (P := P) w T ⟨b, p, none⟩ l.length cap k n hu1
  rw [if_pos ⟨h0, by omega⟩, hu2, (c.hT _ _ hte).sizeOf, Result.andThen_ok, add_eq, ← szOf_eq hte] at hrun
  refine upon_of (v := .pointer (some ⟨b, p + n.toNat * szOf tb e, none⟩)) (w' := w) ?_ (post_val hN c.hS (.t _ _ (.pt _ _ _ hb h5)))
  simp [execOp, ho, hx, hix, hrun]
theorem own_of {v : Value} {e id off len : Nat} (h : RepV tb w φ S v (.own e id off len)) : ∃ b c cs, φ id = some b ∧ v = .slice (some ⟨b, off * szOf tb e, none⟩) len c ∧ len ≤ c ∧ len * byOf tb e ≤ 140737488355328 ∧ w.heap[b]? = some (.cells cs e (0, 0)) ∧ (off + c) * szOf tb e = cs.size := by
 cases h with | own e id off len b c cs h1 h2 h3 h4 h5 => exact ⟨b, c, cs, h1, rfl, h2, h3, h4, h5⟩
theorem ok_indexAddrO {T : TypeId} {x ix : Operand} {ti tie : TI} {e id off len : Nat} {k : IntKind} {n : Int} (c : Ctx P tb w φ S hb g ρ) (ho : o.op = .indexAddr T x ix) (ht : get tb T = some ti) (hd : ti.d = .slice e) (hte : get tb e = some tie) (h : g x = some (.own e id off len)) (hi : g ix = some (.t (.i k n))) (h0 : 0 ≤ n) (hl : n < len)
  (hN : Post tb w φ S N (.val (.ptr e id (off + n.toNat) 0))) : UponU P N ((execOp ρ o).run P w) := by
 obtain ⟨b, cap, cs, h1, hx, h2, h3, h4, h5⟩ := own_of (c.hg _ _ h)
 have hix := int_of (c.hg _ _ hi)
 obtain ⟨hu1, hu2⟩ := (c.hT _ _ ht).elem hd
 have hrun := run_indexAt_slice (P := P) w T ⟨b, off * szOf tb e, none⟩ len cap k n hu1
 rw [if_pos ⟨h0, by omega⟩, hu2, (c.hT _ _ hte).sizeOf, Result.andThen_ok, add_eq, ← szOf_eq hte, ← Nat.add_mul] at hrun
 refine upon_of (v := .pointer (some ⟨b, (off + n.toNat) * szOf tb e, none⟩)) (w' := w) ?_ (post_val hN c.hS (.ptr _ _ _ 0 _ h1))
 simp [execOp, ho, hx, hix, hrun]
theorem ok_indexAddrA {T : TypeId} {x ix : Operand} {ti tie : TI} {e m : Nat} {l : List Tr} {k : IntKind} {n : Int} {t : Tr} (c : Ctx P tb w φ S hb g ρ) (ho : o.op = .indexAddr T x ix) (ht : get tb T = some ti) (hd : ti.d = .arr m e) (hte : get tb e = some tie) (hsz : tie.sz = 1) (h : g x = some (.t (.pt (.ag l)))) (hm : l.length = m) (hi : g ix = some (.t (.i k n))) (h0 : 0 ≤ n) (hl : l[n.toNat]? = some t) (hlf : t.leaf = true)
  (hN : Post tb w φ S N (.val (.t (.pt t)))) : UponU P N ((execOp ρ o).run P w) := by
 obtain ⟨b, p, hx, hb, hc⟩ := pt_of (c.hg _ _ h)
 have hix := int_of (c.hg _ _ hi)
 have hlt := (List.getElem?_eq_some_iff.1 hl).1
 have hu := (c.hT _ _ ht).und
 rw [hd] at hu
 have hu' : P.underlying T = some (.array m e) := hu
 have he : P.elem T = e := by simp [Program.elem, hu']
 have hn : P.arrayLen T = m := by simp [Program.arrayLen, hu']
 have hrun := run_indexAt_array (P := P) w T ⟨b, p, none⟩ k n (by rw [he, hn]; exact hu')
 rw [hn, if_pos ⟨h0, by omega⟩, he, (c.hT _ _ hte).sizeOf, Result.andThen_ok, add_eq, hsz, Nat.mul_one] at hrun
 refine upon_of (v := .pointer (some ⟨b, p + n.toNat, none⟩)) (w' := w) ?_ (post_val hN c.hS (.t _ _ (.pt _ _ _ hb ?_)))
 ·simp [execOp, ho, hx, hix, hrun]
 ·have htc : t.cells = [t] := by cases t <;> first | rfl | simp [Tr.leaf] at hlf
  rw [htc]
  have hc' : RepCs tb w S b p l := hc
  obtain ⟨v, h1, h2⟩ := hc'.at _ hl
  exact .cons _ _ _ _ _ h1 h2 (.nil _ _)
theorem run_bounds {lo hi : Option Operand} {nl nh : Int} {len cap : Nat} (hg : ∀ x v, g x = some v → RepV tb w φ S (ρ x) v) (hl : BdIs g lo nl 0) (hh : BdIs g hi nh len) (h0 : 0 ≤ nl) (h1 : nl ≤ nh) (h2 : nh ≤ len) (hc : len ≤ cap) :
  (Instr.sliceBounds true len cap (lo.map ρ) (hi.map ρ) none).run P w = .ok (nl.toNat, nh.toNat, cap) w := by
 cases lo with
 | none =>
  have hl : nl = 0 := hl
  subst hl
  cases hi with
  | none => have hh : nh = len := hh; subst hh; simp [Instr.sliceBounds]
  | some y =>
   obtain ⟨k, hy⟩ := hh
   have := int_of (hg _ _ hy)
   simp [Instr.sliceBounds, this, run_sliceBound (P := P) w k nh cap .sliceAcap (by omega) (by omega)]
 | some z =>
  obtain ⟨kz, hz⟩ := hl
  have ez := int_of (hg _ _ hz)
  cases hi with
  | none =>
   have hh : nh = len := hh
   subst hh
   simp [Instr.sliceBounds, ez, run_sliceBound (P := P) w kz nl len .sliceB (by omega) (by omega)]
  | some y =>
   obtain ⟨k, hy⟩ := hh
   have := int_of (hg _ _ hy)
   have e2 : ((nh.toNat : Nat) : Int) = nh := Int.toNat_of_nonneg (by omega)
   simp [Instr.sliceBounds, ez, this, run_sliceBound (P := P) w k nh cap .sliceAcap (by omega) (by omega), run_sliceBound (P := P) w kz nl nh.toNat .sliceB (by omega) (by omega)]
theorem ok_slice {T : TypeId} {x : Operand} {lo hi : Option Operand} {ti tie : TI} {e : TypeId} {l : List Tr} {nl nh : Int} (c : Ctx P tb w φ S hb g ρ) (ho : o.op = .slice T x lo hi none) (ht : get tb T = some ti) (hd : ti.d = .slice e) (hte : get tb e = some tie) (h : AsTr g x (.sl e l)) (h1 : BdIs g lo nl 0) (h2 : BdIs g hi nh l.length) (h3 : 0 ≤ nl) (h4 : nl ≤ nh) (h5 : nh ≤ l.length)
  (hN : Post tb w φ S N (.val (.t (.sl e ((l.take nh.toNat).drop nl.toNat))))) : UponU P N ((execOp ρ o).run P w) := by
 obtain ⟨a, cap, hx, k1, k2, k3⟩ := sl_of (h.rep c.hg)
 obtain ⟨hu1, hu2⟩ := (c.hT _ _ ht).elem hd
 have hb' := run_bounds (P := P) c.hg h1 h2 h3 h4 h5 k1
 have hr := run_slice_any (P := P) w T a l.length cap hu1 (lo.map ρ) (hi.map ρ) none
 rw [hb', Result.andThen_ok, hu2, (c.hT _ _ hte).sizeOf, Result.andThen_ok] at hr
 refine upon_of (v := sliced a nl.toNat nh.toNat cap tie.sz) (w' := w) ?_ (post_val hN c.hS (.t _ _ ?_))
 ·have hs := run_sliceAt_slice (P := P) w T (.slice a l.length cap) (lo.map ρ) (hi.map ρ) none hu1
  rw [hr] at hs
  simp [execOp, ho, hx, hs]
 ·have hlen : ((l.take nh.toNat).drop nl.toNat).length = nh.toNat - nl.toNat := by simp; omega
  by_cases he : nh.toNat - nl.toNat = 0
  ·have e0 : (l.take nh.toNat).drop nl.toNat = [] := List.eq_nil_of_length_eq_zero (by omega)
   rw [e0]
   unfold sliced
   rw [he]
   exact .emp _ _ _
  ·rcases k3 with rfl | ⟨b, p, rfl, hb, hes⟩
   ·simp at hlen; omega
   ·unfold sliced
    rw [if_neg (by omega), Option.map_some, add_eq, ← szOf_eq hte]
    refine .sl _ _ _ _ _ _ hlen (by omega) (Nat.le_trans (Nat.mul_le_mul_right _ (show nh.toNat - nl.toNat ≤ l.length by omega)) k2) hb ?_
    exact (hes.take _).drop _
theorem ok_sliceX {T : TypeId} {x y mx : Operand} {lo : Option Operand} {ti tie : TI} {e : TypeId} {l : List Tr} {nl nh nm : Int} {ky km : IntKind} (c : Ctx P tb w φ S hb g ρ) (ho : o.op = .slice T x lo (some y) (some mx)) (ht : get tb T = some ti) (hd : ti.d = .slice e) (hte : get tb e = some tie) (h : AsTr g x (.sl e l)) (h1 : BdIs g lo nl 0) (h2 : g y = some (.t (.i ky nh))) (hm : g mx = some (.t (.i km nm))) (h3 : 0 ≤ nl) (h4 : nl ≤ nh) (h5 : nh ≤ nm) (h6 : nm ≤ l.length)
  (hN : Post tb w φ S N (.val (.t (.sl e ((l.take nh.toNat).drop nl.toNat))))) : UponU P N ((execOp ρ o).run P w) := by
 obtain ⟨a, cap, hx, k1, k2, k3⟩ := sl_of (h.rep c.hg)
 obtain ⟨hu1, hu2⟩ := (c.hT _ _ ht).elem hd
 have ey := int_of (c.hg _ _ h2)
 have em := int_of (c.hg _ _ hm)
 have hb' : (Instr.sliceBounds true l.length cap (lo.map ρ) (some (ρ y)) (some (ρ mx))).run P w = .ok (nl.toNat, nh.toNat, nm.toNat) w := by
  have e2 : ((nh.toNat : Nat) : Int) = nh := Int.toNat_of_nonneg (by omega)
  have e3 : ((nm.toNat : Nat) : Int) = nm := Int.toNat_of_nonneg (by omega)
  cases lo with
  | none =>
   have h1 : nl = 0 := h1
   subst h1
   simp [Instr.sliceBounds, ey, em, run_sliceBound (P := P) w km nm cap .slice3Acap (by omega) (by omega), run_sliceBound (P := P) w ky nh nm.toNat .slice3B (by omega) (by omega)]
  | some z =>
   obtain ⟨kz, hz⟩ := h1
   have ez := int_of (c.hg _ _ hz)
   simp [Instr.sliceBounds, ey, em, ez, run_sliceBound (P := P) w km nm cap .slice3Acap (by omega) (by omega), run_sliceBound (P := P) w ky nh nm.toNat .slice3B (by omega) (by omega), run_sliceBound (P := P) w kz nl nh.toNat .slice3C (by omega) (by omega)]
 have hr := run_slice_any (P := P) w T a l.length cap hu1 (lo.map ρ) (some (ρ y)) (some (ρ mx))
 rw [hb', Result.andThen_ok, hu2, (c.hT _ _ hte).sizeOf, Result.andThen_ok] at hr
 have hmc : nm.toNat ≤ cap := by omega
 refine upon_of (v := sliced a nl.toNat nh.toNat nm.toNat tie.sz) (w' := w) ?_ (post_val hN c.hS (.t _ _ ?_))
 ·have hs := run_sliceAt_slice (P := P) w T (.slice a l.length cap) (lo.map ρ) (some (ρ y)) (some (ρ mx)) hu1
  rw [hr] at hs
  simp [execOp, ho, hx, hs]
 ·have hlen : ((l.take nh.toNat).drop nl.toNat).length = nh.toNat - nl.toNat := by simp; omega
  have hby : (nh.toNat - nl.toNat) * byOf tb e ≤ 140737488355328 := Nat.le_trans (Nat.mul_le_mul_right _ (show nh.toNat - nl.toNat ≤ l.length by omega)) k2
  by_cases he : nh.toNat - nl.toNat = 0
  ·have e0 : (l.take nh.toNat).drop nl.toNat = [] := List.eq_nil_of_length_eq_zero (by omega)
   rw [e0]
   unfold sliced
   rw [he]
   exact .emp _ _ _
  ·rcases k3 with rfl | ⟨b, p, rfl, hb, hes⟩
   ·simp at hlen; omega
   ·unfold sliced
    rw [if_neg (by omega), Option.map_some, add_eq, ← szOf_eq hte]
    refine .sl _ _ _ _ _ _ hlen (by omega) hby hb ?_
    exact (hes.take _).drop _
theorem ok_sliceO {T : TypeId} {x : Operand} {lo hi : Option Operand} {ti tie : TI} {e id off len : Nat} {nl nh : Int} (c : Ctx P tb w φ S hb g ρ) (ho : o.op = .slice T x lo hi none) (ht : get tb T = some ti) (hd : ti.d = .slice e) (hte : get tb e = some tie) (h : g x = some (.own e id off len)) (h1 : BdIs g lo nl 0) (h2 : BdIs g hi nh len) (h3 : 0 ≤ nl) (h4 : nl ≤ nh) (h5 : nh ≤ len) (h6 : nl < nh ∨ nl = 0)
  (hN : Post tb w φ S N (.val (.own e id (off + nl.toNat) (nh - nl).toNat))) : UponU P N ((execOp ρ o).run P w) := by
 obtain ⟨b, cap, cs, k1, hx, k2, k3, k4, k5⟩ := own_of (c.hg _ _ h)
 obtain ⟨hu1, hu2⟩ := (c.hT _ _ ht).elem hd
 have hb' := run_bounds (P := P) c.hg h1 h2 h3 h4 h5 k2
 have hr := run_slice_any (P := P) w T (some ⟨b, off * szOf tb e, none⟩) len cap hu1 (lo.map ρ) (hi.map ρ) none
 rw [hb', Result.andThen_ok, hu2, (c.hT _ _ hte).sizeOf, Result.andThen_ok] at hr
 refine upon_of (v := sliced (some ⟨b, off * szOf tb e, none⟩) nl.toNat nh.toNat cap tie.sz) (w' := w) ?_ (post_val hN c.hS ?_)
 ·have hs := run_sliceAt_slice (P := P) w T (.slice (some ⟨b, off * szOf tb e, none⟩) len cap) (lo.map ρ) (hi.map ρ) none hu1
  rw [hr] at hs
  simp [execOp, ho, hx, hs]
 ·have e1 : sliced (some (⟨b, off * szOf tb e, none⟩ : Addr)) nl.toNat nh.toNat cap tie.sz = .slice (some ⟨b, (off + nl.toNat) * szOf tb e, none⟩) (nh - nl).toNat (cap - nl.toNat) := by
   have e2 : (nh - nl).toNat = nh.toNat - nl.toNat := by omega
   unfold sliced
   rw [e2, Nat.add_mul]
   congr 1
   split
   ·have : nl.toNat = 0 := by omega
    rw [this]; simp
   ·rw [Option.map_some, add_eq, ← szOf_eq hte]
  rw [e1]
  refine .own _ _ _ _ _ _ cs k1 (by omega) (Nat.le_trans (Nat.mul_le_mul_right _ (show (nh - nl).toNat ≤ len by omega)) k3) k4 ?_
  have : off + nl.toNat + (cap - nl.toNat) = off + cap := by omega
  rw [this]; exact k5
end
theorem fold_set (off : Nat) : ∀ (vs : List Value) (j : Nat) (cs : Array Value), off + j + vs.length ≤ cs.size →
  ((vs.zipIdx j).foldl (fun (cs : Array Value) (p : Value × Nat) => cs.setIfInBounds (off + p.2) p.1) cs).toList = cs.toList.take (off + j) ++ vs ++ cs.toList.drop (off + j + vs.length)
 | [], j, cs, _ => by simp
 | v :: vs, j, cs, h => by
  simp only [List.length_cons] at h
  simp only [List.zipIdx_cons, List.foldl_cons]
  rw [fold_set off vs (j + 1) _ (by simp; omega)]
  have hlt : off + j < cs.toList.length := by simp; omega
  rw [Array.toList_setIfInBounds, List.drop_set_of_lt (by omega)]
  have e1 : off + (j + 1) = off + j + 1 := by omega
  rw [e1, List.take_succ_eq_append_getElem (by simpa using hlt), List.getElem_set_self, List.take_set_of_le (Nat.le_refl _)]
  simp only [List.append_assoc, List.singleton_append, List.length_cons, List.cons_append, List.nil_append]
  congr 4
  omega
theorem fold_arr (off : Nat) (v : Array Value) (cs : Array Value) (h : off + v.size ≤ cs.size) :
  (v.zipIdx.foldl (fun (cs : Array Value) (p : Value × Nat) => cs.setIfInBounds (off + p.2) p.1) cs).toList = cs.toList.take off ++ v.toList ++ cs.toList.drop (off + v.size) := by
 rw [← Array.foldl_toList, Array.toList_zipIdx]
 have := fold_set off v.toList 0 cs (by simpa using h)
 simpa using this
theorem fold_size (off : Nat) (v : Array Value) (cs : Array Value) (h : off + v.size ≤ cs.size) :
  (v.zipIdx.foldl (fun (cs : Array Value) (p : Value × Nat) => cs.setIfInBounds (off + p.2) p.1) cs).size = cs.size := by
 rw [← Array.length_toList, fold_arr off v cs h]
 simp only [List.length_append, List.length_take, List.length_drop, Array.length_toList]
 omega
section
variable {P : Program} {tb : Tab} {w : World} {φ : Phi} {S : Nat → Prop} {N : Value → World → Prop} {ρ : Operand → Value} {o : Oper} {hb : Heap} {g : Operand → Option AV}
theorem size_cells {v : Value} {t : Tr} (h : RepT tb w S v t) : v.cells.size = t.cells.length := by have := h.cells.length; simpa using this
theorem places_of (hT : TabOk P tb) : ∀ (fields : List Field), ((fields.map fun f => (f.type, f.offset)).all fun x => (get tb x.1).isSome) = true →
  fields.mapM (fun f => (P.info? f.type).map fun i => (f.offset, i.size)) = some (fields.map fun f => (f.offset, szOf tb f.type))
 | [], _ => rfl
 | f :: fs, h => by
  simp only [List.map_cons, List.all_cons, Bool.and_eq_true] at h
  obtain ⟨ti, ht⟩ := Option.isSome_iff_exists.1 h.1
  obtain ⟨i, h1, h2, _⟩ := (hT _ _ ht).info
  rw [List.mapM_cons, places_of hT fs h.2, h1]
  simp [szOf_eq ht, h2]
theorem fill_ok (fs : List (TypeId × Nat)) (places : Nat → Option (Nat × Nat)) (hp : ∀ (i : Nat) (ft off : Nat), fs[i]? = some (ft, off) → places i = some (off, szOf tb ft)) :
  ∀ (is : List Nat) (vs : List Value) (ts : List Tr) (cells : Array Value) (l m : List Tr), RepL tb w S vs ts → RepL tb w S cells.toList l → fillTr fs tb l (is.zip ts) = some m →
   ∃ out, Instr.fill places cells (is.zip vs) = some out ∧ RepL tb w S out.toList m
 | [], vs, ts, cells, l, m, hv, hc, hf => by simp [fillTr] at hf; subst hf; exact ⟨cells, by simp [Instr.fill], hc⟩
 | i :: is, [], ts, cells, l, m, hv, hc, hf => by cases hv; simp [fillTr] at hf; subst hf; exact ⟨cells, by simp [Instr.fill], hc⟩
 | i :: is, v :: vs, _, cells, l, m, .cons _ t _ ts h1 h2, hc, hf => by
  simp only [List.zip_cons_cons, fillTr] at hf
  split at hf
  ·cases hf
  ·rename_i ft off hfi
   split at hf
   ·rename_i hcond
    simp only [Bool.and_eq_true, Nat.ble_eq] at hcond
    have hn : t.cells.length = szOf tb ft := Nat.eq_of_beq_eq_true hcond.1
    have hsz := size_cells h1
    have hcl : cells.size = l.length := by simpa using hc.length
    have hle : ¬ (v.cells.size ≠ szOf tb ft ∨ off + v.cells.size > cells.size) := by omega
    have hfold := fold_arr off v.cells cells (by omega)
    obtain ⟨out, h3, h4⟩ := fill_ok fs places hp is vs ts _ m h2 (l := l.take off ++ t.cells ++ l.drop (off + t.cells.length)) (by
     rw [hfold, hsz]
     exact ((hc.take off).append h1.cells).append (hc.drop _)) hf
    refine ⟨out, ?_, h4⟩
    simp only [List.zip_cons_cons, Instr.fill, hp i ft off hfi]
    rw [if_neg (by simpa using hle)]
    exact h3
   ·cases hf
theorem ok_build {T : TypeId} {parts : Array (Nat × Operand)} {ti : TI} {fs : List (TypeId × Nat)} {zl : List Tr} {ts l : List Tr} (c : Ctx P tb w φ S hb g ρ) (ho : o.op = .build T parts) (ht : get tb T = some ti) (hd : ti.d = .struct fs) (hall : (fs.all fun x => (get tb x.1).isSome) = true) (hz : ti.zero = .ag zl) (hzo : ti.zero.zeroOk = true)
  (hx : AsTrs g (parts.toList.map (·.2)) ts) (hf : fillTr fs tb zl ((parts.toList.map (·.1)).zip ts) = some l) (hN : Post tb w φ S N (.val (.t (.ag l)))) : UponU P N ((execOp ρ o).run P w) := by
 have hvs := hx.rep c.hg
 have hu := (c.hT _ _ ht).und
 rw [hd] at hu
 obtain ⟨fields, h1, h2⟩ := hu
 obtain ⟨i, h3, h4, h5, h6⟩ := (c.hT _ _ ht).info
 have hz0 : RepL tb w S ti.zero.val.cells.toList zl := by have := (zero_rep (tb := tb) (w := w) (S := S) hzo).cells; rw [hz] at this ⊢; exact this
 have hpl := places_of c.hT fields.toList (by rw [h2]; exact hall)
 obtain ⟨out, h7, h8⟩ := fill_ok fs ((fields.toList.map fun f => (f.offset, szOf tb f.type)).toArray[·]?) (fun i ft off hi => by
  rw [← h2] at hi
  rw [List.getElem?_map] at hi
  obtain ⟨f, k1, k2⟩ := Option.map_eq_some_iff.1 hi
  injection k2 with k2 k3
  subst k2 k3
  simp only [List.getElem?_toArray, List.getElem?_map, k1]; rfl) _ _ _ _ _ _ hvs hz0 hf
 have hzip : (parts.toList.map (·.1)).zip ((parts.toList.map (·.2)).map ρ) = (parts.map fun (i, x) => (i, ρ x)).toList := by
  rw [List.map_map, List.zip_map', Array.toList_map]; rfl
 rw [hzip] at h7
 have hb : P.built T (parts.map fun (i, x) => (i, ρ x)).toList = some out := by
  unfold Program.built
  rw [h3, h1]
  simp only [h6 hzo, hpl]
  exact h7
 have hr := run_build (P := P) w T (parts.map fun (i, x) => (i, ρ x)) out hb
 refine upon_of (v := .agg out) (w' := w) ?_ (post_val hN c.hS (.t _ _ ?_))
 ·simp only [execOp, ho]; exact exec_v hr
 ·have := RepT.ag (tb := tb) (w := w) (S := S) _ _ h8
  simpa using this
theorem ok_buildA {T : TypeId} {parts : Array (Nat × Operand)} {ti tie : TI} {m e : Nat} {zl : List Tr} {ts l : List Tr} (c : Ctx P tb w φ S hb g ρ) (ho : o.op = .build T parts) (ht : get tb T = some ti) (hd : ti.d = .arr m e) (hte : get tb e = some tie) (hz : ti.zero = .ag zl) (hzo : ti.zero.zeroOk = true)
  (hx : AsTrs g (parts.toList.map (·.2)) ts) (hf : fillTr ((List.range m).map fun i => (e, i * tie.sz)) tb zl ((parts.toList.map (·.1)).zip ts) = some l) (hN : Post tb w φ S N (.val (.t (.ag l)))) : UponU P N ((execOp ρ o).run P w) := by
 have hvs := hx.rep c.hg
 have hu := (c.hT _ _ ht).und
 rw [hd] at hu
 obtain ⟨i, h3, h4, h5, h6⟩ := (c.hT _ _ ht).info
 obtain ⟨ie, h3', h4', _⟩ := (c.hT _ _ hte).info
 have hz0 : RepL tb w S ti.zero.val.cells.toList zl := by have := (zero_rep (tb := tb) (w := w) (S := S) hzo).cells; rw [hz] at this ⊢; exact this
 obtain ⟨out, h7, h8⟩ := fill_ok ((List.range m).map fun i => (e, i * tie.sz)) (fun i => some (i * ie.size, ie.size)) (fun i ft off hi => by
  rw [List.getElem?_map] at hi
  obtain ⟨j, k1, k2⟩ := Option.map_eq_some_iff.1 hi
  have : j = i := by
   obtain ⟨hh, hj⟩ := List.getElem?_eq_some_iff.1 k1
   simpa using hj.symm
  subst this
  injection k2 with k2 k3
  subst k2 k3
  rw [h4', szOf_eq hte]) _ _ _ _ _ _ hvs hz0 hf
 have hzip : (parts.toList.map (·.1)).zip ((parts.toList.map (·.2)).map ρ) = (parts.map fun (i, x) => (i, ρ x)).toList := by
  rw [List.map_map, List.zip_map', Array.toList_map]; rfl
 rw [hzip] at h7
 have hu' : P.underlying T = some (.array m e) := hu
 have hb : P.built T (parts.map fun (i, x) => (i, ρ x)).toList = some out := by
  unfold Program.built
  rw [h3, hu']
  simp only [h6 hzo, h3']
  exact h7
 have hr := run_build (P := P) w T (parts.map fun (i, x) => (i, ρ x)) out hb
 refine upon_of (v := .agg out) (w' := w) ?_ (post_val hN c.hS (.t _ _ ?_))
 ·simp only [execOp, ho]; exact exec_v hr
 ·have := RepT.ag (tb := tb) (w := w) (S := S) _ _ h8
  simpa using this
theorem ok_indexS {T : TypeId} {x ix : Operand} {ti : TI} {s : ByteArray} {k : IntKind} {n : Int} {b : UInt8} (c : Ctx P tb w φ S hb g ρ) (ho : o.op = .index T x ix) (ht : get tb T = some ti) (hd : ti.d = .str) (hx : g x = some (.t (.s s))) (hi : g ix = some (.t (.i k n))) (h0 : 0 ≤ n) (hs : s[n.toNat]? = some b)
  (hN : Post tb w φ S N (.val (.t (.i .u8 b.toNat)))) : UponU P N ((execOp ρ o).run P w) := by
 have hu := (c.hT _ _ ht).und
 rw [hd] at hu
 have hu' : P.underlying T = some .string := hu
 have e1 : ρ x = .string s := by
  have := repT_of (c.hg _ _ hx)
  generalize ρ x = v at this
  cases this with | s s => rfl
 have e2 := int_of (c.hg _ _ hi)
 refine upon_of (v := .int .u8 b.toNat) (w' := w) ?_ (post_val hN c.hS (.t _ _ (.i _ _)))
 have hr : (Instr.index T (.string s) (.int k n)).run P w = .ok (.int .u8 b.toNat) w := by
  simp [Instr.index, run_underlying hu', asIntOf, h0, hs]
 simp only [execOp, ho, e1, e2]; exact exec_v hr
theorem fill_dense (sz : Nat) : ∀ (vs : List Value) (i : Nat) (cells : Array Value), (∀ v ∈ vs, v.cells.size = sz) → (i + vs.length) * sz ≤ cells.size →
  ∃ out, Instr.fill (fun i => some (i * sz, sz)) cells ((List.range' i vs.length).zip vs) = some out ∧ out.toList = cells.toList.take (i * sz) ++ vs.flatMap (fun v => v.cells.toList) ++ cells.toList.drop ((i + vs.length) * sz)
 | [], i, cells, _, _ => ⟨cells, by simp [Instr.fill], by simp⟩
 | v :: vs, i, cells, hv, hn => by
  have h1 := hv v (by simp)
  simp only [List.length_cons] at hn
  have e0 : (i + (vs.length + 1)) * sz = i * sz + sz + vs.length * sz := by rw [Nat.add_mul, Nat.add_mul]; omega
  have hfold := fold_arr (i * sz) v.cells cells (by omega)
  have hsz := fold_size (i * sz) v.cells cells (by omega)
  have e2 : (i + 1 + vs.length) * sz = (i + (vs.length + 1)) * sz := by rw [show i + 1 + vs.length = i + (vs.length + 1) from by omega]
  obtain ⟨out, h2, h3⟩ := fill_dense sz vs (i + 1) _ (fun u hu => hv u (by simp [hu])) (by rw [hsz, show i + 1 + vs.length = i + (vs.length + 1) from by omega]; exact hn)
  refine ⟨out, ?_, ?_⟩
  ·simp only [List.length_cons, List.range'_succ, List.zip_cons_cons, Instr.fill]
   rw [if_neg (by simp; omega)]
   exact h2
  ·rw [h3, hfold, e2]
   have e3 : (i + 1) * sz = i * sz + sz := by rw [Nat.add_mul]; omega
   have hl : i * sz ≤ cells.toList.length := by simp; omega
   rw [e3]
   simp only [List.length_cons, List.flatMap_cons]
   have t1 : List.take (i * sz + sz) (List.take (i * sz) cells.toList ++ v.cells.toList ++ List.drop (i * sz + v.cells.size) cells.toList) = List.take (i * sz) cells.toList ++ v.cells.toList := by
    rw [List.take_append_of_le_length (by simp only [List.length_append, List.length_take, Array.length_toList]; omega)]
    rw [List.take_of_length_le (by simp only [List.length_append, List.length_take, Array.length_toList]; omega)]
   have t2 : List.drop ((i + (vs.length + 1)) * sz) (List.take (i * sz) cells.toList ++ v.cells.toList ++ List.drop (i * sz + v.cells.size) cells.toList) = List.drop ((i + (vs.length + 1)) * sz) cells.toList := by
    rw [List.drop_append, List.drop_of_length_le (by simp only [List.length_append, List.length_take, Array.length_toList]; omega), List.nil_append, List.drop_drop]
    congr 1
    simp only [List.length_append, List.length_take, Array.length_toList]
    omega
   rw [t1, t2, List.append_assoc, List.append_assoc]
   simp
theorem flat_len {ts : List Tr} {sz : Nat} (h : ∀ t ∈ ts, t.cells.length = sz) : (ts.flatMap Tr.cells).length = ts.length * sz := by
 induction ts with
 | nil => simp
 | cons t ts ih => simp only [List.flatMap_cons, List.length_append, List.length_cons, ih fun u hu => h u (by simp [hu]), h t (by simp), Nat.add_mul]; omega
theorem flat_at {ts : List Tr} {sz : Nat} (h : ∀ t ∈ ts, t.cells.length = sz) (i : Nat) {t : Tr} (ht : ts[i]? = some t) (j : Nat) (hj : j < sz) : (ts.flatMap Tr.cells)[i * sz + j]? = t.cells[j]? := by
 induction ts generalizing i with
 | nil => simp at ht
 | cons u ts ih =>
  have hu := h u (by simp)
  simp only [List.flatMap_cons]
  cases i with
  | zero => simp at ht; subst ht; rw [Nat.zero_mul, Nat.zero_add, List.getElem?_append_left (by omega)]
  | succ i =>
   rw [List.getElem?_append_right (by rw [Nat.add_mul]; omega), ← ih (fun u hu => h u (by simp [hu])) i (by simpa using ht)]
   congr 1
   rw [Nat.add_mul]; omega
theorem repL_flat {vs : List Value} {ts : List Tr} (h : RepL tb w S vs ts) : RepL tb w S (vs.flatMap fun v => v.cells.toList) (ts.flatMap Tr.cells) := by
 induction ts generalizing vs with
 | nil => cases h; exact .nil
 | cons t ts ih => cases h with | cons v t vs l h1 h2 => simp only [List.flatMap_cons]; exact h1.cells.append (ih h2)
theorem repEs_alloc {cells : List Value} {ts : List Tr} {sz : Nat} (h : RepL tb w S cells (ts.flatMap Tr.cells)) (hz : ∀ t ∈ ts, t.cells.length = sz) (hS : ∀ b, S b → b < w.heap.size) (e : TypeId) (S' : Nat → Prop) (hSS : ∀ b, S b → S' b) :
  ∀ (i : Nat) (t : Tr), ts[i]? = some t → t.cells.length = sz ∧ RepCs tb (w.alloc (.cells cells.toArray e)) S' w.heap.size (i * sz) t.cells := by
 intro i t ht
 have htz := hz t (List.mem_of_getElem? ht)
 refine ⟨htz, .of_at fun j u hu => ?_⟩
 have hj : j < sz := by rw [← htz]; exact (List.getElem?_eq_some_iff.1 hu).1
 have hat := flat_at hz i ht j hj
 rw [hu] at hat
 obtain ⟨v, h1, h2⟩ := h.at _ hat
 exact ⟨v, by rw [cell_alloc_at]; exact h1, h2.mono (fun b hb => heap_alloc_lt _ _ (hS b hb)) hSS⟩
theorem run_buildSlice {T e n : Nat} {parts : Array (Nat × Operand)} {ti tie : TI} {ts : List Tr} (c : Ctx P tb w φ S hb g ρ) (ho : o.op = .buildSlice T n parts) (ht : get tb T = some ti) (hd : ti.d = .slice e) (hte : get tb e = some tie) (hp : parts.toList.map (·.1) = List.range n) (hx : AsTrs g (parts.toList.map (·.2)) ts)
  (hz : ∀ t ∈ ts, t.cells.length = tie.sz) (hpos : 0 < tie.sz) (hzl : tie.zero.cells.length = tie.sz) (hzo : tie.zero.zeroOk = true) (hbig : n * tie.sz ≤ 16777216) :
  ∃ cells : List Value, RepL tb w S cells (ts.flatMap Tr.cells) ∧ ts.length = n ∧ (execOp ρ o).run P w = .ok (.value (.slice (some ⟨w.heap.size, 0, none⟩) n n)) (w.alloc (.cells cells.toArray e)) := by
 have hvs := hx.rep c.hg
 have hlen := hvs.length
 have hn : ts.length = n := by
  have := congrArg List.length hp
  simp at this hlen
  omega
 have hu := (c.hT _ _ ht).slice hd
 have hs := (c.hT _ _ hte).sizeOf (w := w)
 have hzv := (c.hT _ _ hte).zero (w := w) hzo
 have hsz : ∀ v ∈ (parts.toList.map (·.2)).map ρ, v.cells.size = tie.sz := by
  intro v hv
  obtain ⟨i, hi⟩ := List.mem_iff_getElem?.1 hv
  have hi' : i < ts.length := by rw [← hlen]; exact (List.getElem?_eq_some_iff.1 hi).1
  obtain ⟨u, h1, h2⟩ := hvs.at i (List.getElem?_eq_getElem hi')
  rw [hi] at h1
  injection h1 with h1
  subst h1
  rw [size_cells h2]
  exact hz _ (List.getElem_mem hi')
 have hl0 : ((parts.toList.map (·.2)).map ρ).length = n := by rw [hlen, hn]
 obtain ⟨z, hzz⟩ : ∃ z : Array Value, z = (Array.range (n * tie.sz)).map ((if n * tie.sz = 0 then #[] else tie.zero.val.cells)[· % (if n * tie.sz = 0 then #[] else tie.zero.val.cells).size]!) := ⟨_, rfl⟩
 have hzs : z.size = n * tie.sz := by rw [hzz]; simp
 obtain ⟨out, h1, h2⟩ := fill_dense tie.sz _ 0 z hsz (by rw [hl0, Nat.zero_add, hzs]; exact Nat.le_refl _)
 rw [hl0, ← List.range_eq_range', ← hp] at h1
 have hzip : (parts.toList.map (·.1)).zip ((parts.toList.map (·.2)).map ρ) = (parts.map fun (i, x) => (i, ρ x)).toList := by
  rw [List.map_map, List.zip_map', Array.toList_map]; rfl
 rw [hzip] at h1
 have h3 : out.toList = ((parts.toList.map (·.2)).map ρ).flatMap fun v => v.cells.toList := by
  rw [h2, hl0]
  simp only [Nat.zero_mul, Nat.zero_add, List.take_zero, List.nil_append]
  rw [List.drop_of_length_le (by rw [Array.length_toList, hzs]; exact Nat.le_refl _), List.append_nil]
 refine ⟨out.toList, by rw [h3]; exact repL_flat hvs, hn, ?_⟩
 have hnb : ¬ (16777216 < n * tie.sz) := by omega
 have hr : (Instr.buildSlice T n (parts.map fun (i, x) => (i, ρ x))).run P w = .ok (.slice (some ⟨w.heap.size, 0, none⟩) n n) (w.alloc (.cells out.toList.toArray e)) := by
  by_cases h0 : n * tie.sz = 0
  ·simp only [h0, if_true] at hzz
   simp [Instr.buildSlice, underlying, hu, hs, hnb, h0]
   rw [hzz] at h1
   simp at h1
   simp [h1, newRow]
  ·simp only [if_neg h0] at hzz
   simp [Instr.buildSlice, underlying, hu, hs, hnb, h0, hzv]
   rw [hzz] at h1
   simp at h1
   simp [h1, newRow]
 simp only [execOp, ho]
 exact exec_v hr
theorem all_len {ts : List Tr} {n : Nat} (h : (ts.all fun t => t.cells.length == n) = true) : ∀ t ∈ ts, t.cells.length = n := by simpa using h
theorem ok_buildSlice {T e n : Nat} {parts : Array (Nat × Operand)} {ti tie : TI} {ts : List Tr} (c : Ctx P tb w φ S hb g ρ) (ho : o.op = .buildSlice T n parts) (ht : get tb T = some ti) (hd : ti.d = .slice e) (hte : get tb e = some tie) (hp : parts.toList.map (·.1) = List.range n) (hx : AsTrs g (parts.toList.map (·.2)) ts)
  (hz : (ts.all fun t => t.cells.length == tie.sz) = true) (hpos : 0 < tie.sz) (hzl : tie.zero.cells.length = tie.sz) (hzo : tie.zero.zeroOk = true) (hbig : n * tie.sz ≤ 16777216) (hby : n * tie.by_ ≤ 140737488355328) (hN : Post tb w φ S N (.val (.t (.sl e ts)))) : UponU P N ((execOp ρ o).run P w) := by
 obtain ⟨cells, h1, h2, h3⟩ := run_buildSlice c ho ht hd hte hp hx (all_len hz) hpos hzl hzo hbig
 have hgr : Gr w (w.alloc (.cells cells.toArray e)) S (fun b => S b ∨ b = w.heap.size) :=
  ⟨fun b hb => .inl hb, fun b hb => hb.imp id fun h => by omega, fun b hb => by rcases hb with hb | hb <;> simp <;> first | (have := c.hS b hb; omega) | omega⟩
 refine upon_of h3 (hN _ _ (fun b => S b ∨ b = w.heap.size) (fr_alloc _ _ _) hgr (.t _ _ (.sl _ _ _ _ _ _ h2 (Nat.le_refl _) (by rw [byOf_eq hte]; exact hby) ⟨.inr rfl, _, _, _, heap_alloc_at _ _⟩ ?_)))
 have h4 := repEs_alloc h1 (all_len hz) c.hS e (fun b => S b ∨ b = w.heap.size) fun _ hb => .inl hb
 rw [szOf_eq hte]
 refine .of_at fun i t ht => ?_
 have := h4 i t ht
 rw [Nat.zero_add]; exact this
theorem post_row {e id n : Nat} {tie : TI} (hte : get tb e = some tie) {cells : List Value} {ts : List Tr} (h1 : RepL tb w S cells (ts.flatMap Tr.cells)) (hz : ∀ t ∈ ts, t.cells.length = tie.sz) (hn : ts.length = n) (hS : ∀ b, S b → b < w.heap.size) (hby : n * tie.by_ ≤ 140737488355328)
  (hN : Post tb w φ S N (.new (.own e id 0 n) id (.arr e (ts.map .t)))) : N (.slice (some ⟨w.heap.size, 0, none⟩) n n) (w.alloc (.cells cells.toArray e)) := by
 have hsz := szOf_eq hte
 refine hN _ _ w.heap.size (fr_alloc _ _ _) (Nat.le_refl _) (by simp) fun φ' k1 k2 => ⟨?_, ⟨_, heap_alloc_at _ _⟩, fun i a ha => ?_⟩
 ·have hc : cells.length = n * tie.sz := by rw [h1.length, flat_len hz, hn]
  have := RepV.own (tb := tb) (w := w.alloc (.cells cells.toArray e)) (φ := φ') (S := S) e id 0 n _ n cells.toArray k2 (Nat.le_refl _) (by rw [byOf_eq hte]; exact hby) (heap_alloc_at _ _) (by rw [hsz]; simp [hc])
  simpa using this
 ·rw [List.getElem?_map] at ha
  obtain ⟨t, h2, rfl⟩ := Option.map_eq_some_iff.1 ha
  have := repEs_alloc h1 hz hS e S (fun _ h => h) i t h2
  rw [hsz]
  exact .t _ this.1 this.2
theorem ok_buildSliceM {T e n id : Nat} {parts : Array (Nat × Operand)} {ti tie : TI} {ts : List Tr} (c : Ctx P tb w φ S hb g ρ) (ho : o.op = .buildSlice T n parts) (ht : get tb T = some ti) (hd : ti.d = .slice e) (hte : get tb e = some tie) (hp : parts.toList.map (·.1) = List.range n) (hx : AsTrs g (parts.toList.map (·.2)) ts)
  (hz : (ts.all fun t => t.cells.length == tie.sz) = true) (hpos : 0 < tie.sz) (hzl : tie.zero.cells.length = tie.sz) (hzo : tie.zero.zeroOk = true) (hbig : n * tie.sz ≤ 16777216) (hby : n * tie.by_ ≤ 140737488355328) (hN : Post tb w φ S N (.new (.own e id 0 n) id (.arr e (ts.map .t)))) : UponU P N ((execOp ρ o).run P w) := by
 obtain ⟨cells, h1, h2, h3⟩ := run_buildSlice c ho ht hd hte hp hx (all_len hz) hpos hzl hzo hbig
 exact upon_of h3 (post_row hte h1 (all_len hz) h2 c.hS hby hN)
theorem made_cells {z : Tr} {sz : Nat} (hz : z.zeroOk = true) (hn : z.cells.length = sz) (hpos : 0 < sz) (n : Nat) : RepL tb w S (madeCells z.val.cells (n * sz)).toList ((List.replicate n z).flatMap Tr.cells) := by
 have hr := (zero_rep (tb := tb) (w := w) (S := S) hz).cells
 have hall : ∀ t ∈ List.replicate n z, t.cells.length = sz := fun t ht => by rw [List.eq_of_mem_replicate ht]; exact hn
 have hvl : z.val.cells.size = sz := by have := hr.length; simp at this; omega
 refine .of_at (by rw [flat_len hall]; simp [madeCells]) fun i v t hv ht => ?_
 have hi : i < n * sz := by
  have := (List.getElem?_eq_some_iff.1 ht).1
  rw [flat_len hall] at this
  simpa using this
 have hdm := Nat.div_add_mod i sz
 have hr1 : i % sz < sz := Nat.mod_lt _ hpos
 have hq : i / sz < n := Nat.div_lt_of_lt_mul (by rw [Nat.mul_comm]; exact hi)
 have hat := flat_at hall (i / sz) (t := z) (by simp [hq]) (i % sz) hr1
 rw [Nat.mul_comm, hdm, ht] at hat
 obtain ⟨u, h1, h2⟩ := hr.at (i % sz) hat.symm
 have hv' : v = u := by
  simp [madeCells, hi] at hv
  rw [← hv, hvl]
  have h3 : z.val.cells[i % sz]? = some u := by simpa using h1
  simp [getElem!_def, h3]
 rw [hv']; exact h2
theorem ok_makeSlice {T e id : Nat} {x y : Operand} {ti tie : TI} {kx ky : IntKind} {n : Int} (c : Ctx P tb w φ S hb g ρ) (ho : o.op = .makeSlice T x y) (ht : get tb T = some ti) (hd : ti.d = .slice e) (hte : get tb e = some tie) (hzo : tie.zero.zeroOk = true) (hzl : tie.zero.cells.length = tie.sz) (hpos : 0 < tie.sz) (hx : g x = some (.t (.i kx n))) (hy : g y = some (.t (.i ky n)))
  (h0 : 0 ≤ n) (h1 : n * tie.by_ ≤ 140737488355328) (h63 : n ≤ 9223372036854775807) (hN : Post tb w φ S N (.new (.own e id 0 n.toNat) id (.arr e (List.replicate n.toNat (.t tie.zero))))) : UponU P N ((execOp ρ o).run P w) := by
 have hxv := int_of (c.hg _ _ hx)
 have hyv := int_of (c.hg _ _ hy)
 obtain ⟨i, hi, hsz, hby, hz⟩ := (c.hT _ _ hte).info
 have hu := (c.hT _ _ ht).slice hd
 have hr := run_make (P := P) w T e i tie.zero.val hu hi (hz hzo) kx ky n n h0 (Int.le_refl _) (by rw [hby, Int.mul_comm]; omega) h63
 have hB : n.toNat * tie.by_ ≤ 140737488355328 := by
  obtain ⟨m, rfl⟩ : ∃ m : Nat, n = m := ⟨n.toNat, (Int.toNat_of_nonneg h0).symm⟩
  rw [Int.toNat_natCast]; rw [← Int.natCast_mul] at h1; omega
 refine upon_of (v := .slice (some ⟨w.heap.size, 0, none⟩) n.toNat n.toNat) (w' := w.alloc (.cells (madeCells tie.zero.val.cells (n.toNat * i.size)).toList.toArray e)) ?_ ?_
 ·simp [execOp, ho, hxv, hyv, hr]
 ·rw [hsz]
  refine post_row (φ := φ) (id := id) hte (made_cells hzo hzl hpos n.toNat) (fun t ht => by rw [List.eq_of_mem_replicate ht]; exact hzl) (by simp) c.hS hB ?_
  simpa using hN
theorem ok_makeSlice0 {T e id : Nat} {x y : Operand} {ti tie : TI} {kx ky : IntKind} {m : Int} (c : Ctx P tb w φ S hb g ρ) (ho : o.op = .makeSlice T x y) (ht : get tb T = some ti) (hd : ti.d = .slice e) (hte : get tb e = some tie) (hzo : tie.zero.zeroOk = true) (hzl : tie.zero.cells.length = tie.sz) (hpos : 0 < tie.sz) (hx : g x = some (.t (.i kx 0))) (hy : g y = some (.t (.i ky m)))
  (h0 : 0 ≤ m) (h1 : m * tie.by_ ≤ 281474976710656) (h63 : m ≤ 9223372036854775807) (hN : Post tb w φ S N (.new (.own e id 0 0) id (.arr e []))) : UponU P N ((execOp ρ o).run P w) := by
 have hxv := int_of (c.hg _ _ hx)
 have hyv := int_of (c.hg _ _ hy)
 obtain ⟨i, hi, hsz, hby, hz⟩ := (c.hT _ _ hte).info
 have hu := (c.hT _ _ ht).slice hd
 have hr := run_make (P := P) w T e i tie.zero.val hu hi (hz hzo) kx ky 0 m (Int.le_refl _) h0 (by rw [hby, Int.mul_comm]; exact h1) h63
 refine upon_of (v := .slice (some ⟨w.heap.size, 0, none⟩) 0 m.toNat) (w' := w.alloc (.cells (madeCells tie.zero.val.cells (m.toNat * i.size)).toList.toArray e)) ?_ ?_
 ·simp [execOp, ho, hxv, hyv, hr]
 ·rw [hsz]
  have hse := szOf_eq hte
  refine hN _ _ w.heap.size (fr_alloc _ _ _) (Nat.le_refl _) (by simp) fun φ' k1 k2 => ⟨?_, ⟨_, heap_alloc_at _ _⟩, fun i a ha => by simp at ha⟩
  have := RepV.own (tb := tb) (w := w.alloc (.cells (madeCells tie.zero.val.cells (m.toNat * tie.sz)).toList.toArray e)) (φ := φ') (S := S) e id 0 0 _ m.toNat _ k2 (Nat.zero_le _) (by simp) (heap_alloc_at _ _) (by rw [hse]; simp [madeCells])
  simpa using this
end
section
variable {P : Program} {tb : Tab} {w : World} {φ : Phi} {S : Nat → Prop} {N : Value → World → Prop} {ρ : Operand → Value} {o : Oper} {hb : Heap} {g : Operand → Option AV}
theorem arr_map (a : Array Operand) : (a.toList.map ρ).toArray = a.map ρ := by rw [← Array.toList_map]
theorem guard_int (op : BinOp) (T : TypeId) (x y : Operand) (k k' : IntKind) (a b : Int) : (eqGuard op T x y (.int k a) (.int k' b)).run P w = .ok () w := by
 cases op <;> simp [eqGuard]
theorem guard_bool (op : BinOp) (T : TypeId) (x y : Operand) (a b : Bool) : (eqGuard op T x y (.bool a) (.bool b)).run P w = .ok () w := by
 cases op <;> simp [eqGuard]
theorem ok_int2 {op : BinOp} {T : TypeId} {x y : Operand} {ty2 : TypeId} {k k2 : IntKind} {a b : Int} {t : Tr} {v : Value} (c : Ctx P tb w φ S hb g ρ) (ho : o.op = .binOp op T x y ty2) (hx : g x = some (.t (.i k a))) (hy : g y = some (.t (.i k2 b)))
  (h : (binOp op T (.int k a) (.int k2 b)).run P w = .ok v w) (hr : RepT tb w S v t) (hN : Post tb w φ S N (.val (.t t))) : UponU P N ((execOp ρ o).run P w) := by
 have e1 := int_of (c.hg _ _ hx)
 have e2 := int_of (c.hg _ _ hy)
 refine upon_of (v := v) (w' := w) ?_ (post_val hN c.hS (.t _ _ hr))
 simp [execOp, ho, e1, e2, guard_int, h]
theorem ok_arith {op : BinOp} {T : TypeId} {x y : Operand} {ty2 : TypeId} {k : IntKind} {a b r n : Int} (c : Ctx P tb w φ S hb g ρ) (ho : o.op = .binOp op T x y ty2) (hx : g x = some (.t (.i k a))) (hy : g y = some (.t (.i k b))) (hr : arith op a b = some r) (hn : k.wrap r = n)
  (hN : Post tb w φ S N (.val (.t (.i k n)))) : UponU P N ((execOp ρ o).run P w) := by
 subst hn
 refine ok_int2 c ho hx hy ?_ (.i _ _) hN
 cases op <;> simp [arith] at hr <;> subst hr <;> simp [binOp, Op.intArith]
theorem ok_cmp {op : BinOp} {T : TypeId} {x y : Operand} {ty2 : TypeId} {k : IntKind} {a b : Int} {r : Bool} (c : Ctx P tb w φ S hb g ρ) (ho : o.op = .binOp op T x y ty2) (hx : g x = some (.t (.i k a))) (hy : g y = some (.t (.i k b))) (hr : cmpTr op a b = some r)
  (hN : Post tb w φ S N (.val (.t (.b r)))) : UponU P N ((execOp ρ o).run P w) := by
 refine ok_int2 c ho hx hy ?_ (.b r) hN
 cases op <;> simp [cmpTr] at hr <;> subst hr <;> simp [binOp, Op.intCmp]
theorem ok_quo {T : TypeId} {x y : Operand} {ty2 : TypeId} {k : IntKind} {a b n : Int} (c : Ctx P tb w φ S hb g ρ) (ho : o.op = .binOp .quo T x y ty2) (hx : g x = some (.t (.i k a))) (hy : g y = some (.t (.i k b))) (h0 : b ≠ 0) (hn : k.wrap (a.tdiv b) = n)
  (hN : Post tb w φ S N (.val (.t (.i k n)))) : UponU P N ((execOp ρ o).run P w) := by
 subst hn
 refine ok_int2 c ho hx hy ?_ (.i _ _) hN
 simp [binOp, Op.intDiv, h0]
theorem ok_rem {T : TypeId} {x y : Operand} {ty2 : TypeId} {k : IntKind} {a b n : Int} (c : Ctx P tb w φ S hb g ρ) (ho : o.op = .binOp .rem T x y ty2) (hx : g x = some (.t (.i k a))) (hy : g y = some (.t (.i k b))) (h0 : b ≠ 0) (hn : a.tmod b = n)
  (hN : Post tb w φ S N (.val (.t (.i k n)))) : UponU P N ((execOp ρ o).run P w) := by
 subst hn
 refine ok_int2 c ho hx hy ?_ (.i _ _) hN
 simp [binOp, Op.intDiv, h0]
theorem ok_bits {op : BinOp} {T : TypeId} {x y : Operand} {ty2 : TypeId} {k : IntKind} {a b r n : Int} (c : Ctx P tb w φ S hb g ρ) (ho : o.op = .binOp op T x y ty2) (hx : g x = some (.t (.i k a))) (hy : g y = some (.t (.i k b))) (hr : bitsTr op k a b = some r) (hn : r = n)
  (hN : Post tb w φ S N (.val (.t (.i k n)))) : UponU P N ((execOp ρ o).run P w) := by
 subst hn
 refine ok_int2 c ho hx hy ?_ (.i _ _) hN
 cases op <;> simp [bitsTr] at hr <;> subst hr <;> simp [binOp, Op.intBits]
theorem ok_shl {T : TypeId} {x y : Operand} {ty2 : TypeId} {k k2 : IntKind} {a b n : Int} (c : Ctx P tb w φ S hb g ρ) (ho : o.op = .binOp .shl T x y ty2) (hx : g x = some (.t (.i k a))) (hy : g y = some (.t (.i k2 b))) (h0 : 0 ≤ b) (hn : k.wrap (a * 2 ^ (min b.toNat k.bits)) = n)
  (hN : Post tb w φ S N (.val (.t (.i k n)))) : UponU P N ((execOp ρ o).run P w) := by
 subst hn
 refine ok_int2 c ho hx hy ?_ (.i _ _) hN
 have : ¬ b < 0 := by omega
 simp [binOp, Op.shift, this]
theorem ok_shr {T : TypeId} {x y : Operand} {ty2 : TypeId} {k k2 : IntKind} {a b n : Int} (c : Ctx P tb w φ S hb g ρ) (ho : o.op = .binOp .shr T x y ty2) (hx : g x = some (.t (.i k a))) (hy : g y = some (.t (.i k2 b))) (h0 : 0 ≤ b) (hn : a.fdiv (2 ^ (min b.toNat k.bits)) = n)
  (hN : Post tb w φ S N (.val (.t (.i k n)))) : UponU P N ((execOp ρ o).run P w) := by
 subst hn
 refine ok_int2 c ho hx hy ?_ (.i _ _) hN
 have : ¬ b < 0 := by omega
 simp [binOp, Op.shift, this]
theorem ok_eqB {T : TypeId} {x y : Operand} {ty2 : TypeId} {ti : TI} {a b : Bool} (c : Ctx P tb w φ S hb g ρ) (neg : Bool) (ho : o.op = .binOp (if neg then .neq else .eql) T x y ty2) (ht : get tb T = some ti) (hd : ti.d = .bool) (hx : g x = some (.t (.b a))) (hy : g y = some (.t (.b b)))
  (hN : Post tb w φ S N (.val (.t (.b (if neg then a != b else a == b))))) : UponU P N ((execOp ρ o).run P w) := by
 have e1 := bool_of (c.hg _ _ hx)
 have e2 := bool_of (c.hg _ _ hy)
 have hu := (c.hT _ _ ht).und
 rw [hd] at hu
 have hu' : P.underlying T = some .bool := hu
 cases neg
 ·refine upon_of (v := .bool (a == b)) (w' := w) ?_ (post_val hN c.hS (.t _ _ (.b _)))
  have := run_eql_bool (P := P) w T a b hu'
  simp [execOp, ho, e1, e2, guard_bool, this]
 ·refine upon_of (v := .bool (a != b)) (w' := w) ?_ (post_val hN c.hS (.t _ _ (.b _)))
  have h1 : (Op.equal T (.bool a) (.bool b)).run P w = .ok (a == b) w := by
   unfold Op.equal
   rw [show Op.maxDepth = 9999 + 1 from rfl]
   unfold Op.equalIn
   simp [run_underlying hu']
  simp [execOp, ho, e1, e2, guard_bool, binOp, h1, bne]
theorem ok_neg {T : TypeId} {x : Operand} {k : IntKind} {a n : Int} (c : Ctx P tb w φ S hb g ρ) (ho : o.op = .unOp .neg T x) (hx : g x = some (.t (.i k a))) (hn : k.wrap (0 - a) = n) (hN : Post tb w φ S N (.val (.t (.i k n)))) : UponU P N ((execOp ρ o).run P w) := by
 subst hn
 have e1 := int_of (c.hg _ _ hx)
 refine upon_of (v := .int k (k.wrap (0 - a))) (w' := w) ?_ (post_val hN c.hS (.t _ _ (.i _ _)))
 simp [execOp, ho, e1, Op.unary, Op.intArith]
theorem ok_compl {T : TypeId} {x : Operand} {k : IntKind} {a r n : Int} (c : Ctx P tb w φ S hb g ρ) (ho : o.op = .unOp .xor T x) (hx : g x = some (.t (.i k a))) (hr : bitsTr .xor k (if k.signed then -1 else k.max) a = some r) (hn : r = n) (hN : Post tb w φ S N (.val (.t (.i k n)))) : UponU P N ((execOp ρ o).run P w) := by
 subst hn
 have e1 := int_of (c.hg _ _ hx)
 refine upon_of (v := .int k r) (w' := w) ?_ (post_val hN c.hS (.t _ _ (.i _ _)))
 simp [bitsTr] at hr
 subst hr
 simp [execOp, ho, e1, Op.unary, Op.intBits]
theorem ok_not {T : TypeId} {x : Operand} {b : Bool} (c : Ctx P tb w φ S hb g ρ) (ho : o.op = .unOp .not T x) (hx : g x = some (.t (.b b))) (hN : Post tb w φ S N (.val (.t (.b (!b))))) : UponU P N ((execOp ρ o).run P w) := by
 have e1 := bool_of (c.hg _ _ hx)
 refine upon_of (v := .bool (!b)) (w' := w) ?_ (post_val hN c.hS (.t _ _ (.b _)))
 simp [execOp, ho, e1, Op.unary]
theorem ok_conv {A B : TypeId} {x : Operand} {ta tbi : TI} {ka kb k : IntKind} {a n : Int} (c : Ctx P tb w φ S hb g ρ) (ho : o.op = .convert A B x) (hA : get tb A = some ta) (hdA : ta.d = .int ka) (hB : get tb B = some tbi) (hdB : tbi.d = .int kb) (hx : g x = some (.t (.i k a))) (hn : kb.wrap a = n)
  (hN : Post tb w φ S N (.val (.t (.i kb n)))) : UponU P N ((execOp ρ o).run P w) := by
 subst hn
 have e1 := int_of (c.hg _ _ hx)
 have hu := (c.hT _ _ hA).und
 rw [hdA] at hu
 have hu2 := (c.hT _ _ hB).und
 rw [hdB] at hu2
 have hu' : P.underlying A = some (.int ka) := hu
 have hu2' : P.underlying B = some (.int kb) := hu2
 refine upon_of (v := .int kb (kb.wrap a)) (w' := w) ?_ (post_val hN c.hS (.t _ _ (.i _ _)))
 simp [execOp, ho, e1, convert, underlying, hu', hu2', Conv.intToInt]
theorem ok_fn {f : FuncId} {caps : Array Operand} {ts : List Tr} (c : Ctx P tb w φ S hb g ρ) (ho : o.op = .makeFunc (.func f) #[] caps) (hx : AsTrs g caps.toList ts) (hN : Post tb w φ S N (.val (.t (.fn f ts)))) : UponU P N ((execOp ρ o).run P w) := by
 refine upon_of (v := .func (.func f) #[] (caps.toList.map ρ).toArray) (w' := w) ?_ (post_val hN c.hS (.t _ _ (.fn _ _ _ (hx.rep c.hg))))
 simp [execOp, ho, Instr.makeFunc, arr_map]
theorem ok_clo {f : FuncId} {caps : Array Operand} {ts : List AV} (c : Ctx P tb w φ S hb g ρ) (ho : o.op = .makeFunc (.func f) #[] caps) (hx : AsAVs g caps.toList ts) (hN : Post tb w φ S N (.val (.clo f ts))) : UponU P N ((execOp ρ o).run P w) := by
 refine upon_of (v := .func (.func f) #[] (caps.toList.map ρ).toArray) (w' := w) ?_ (post_val hN c.hS (.clo _ _ _ (hx.rep c.hg)))
 simp [execOp, ho, Instr.makeFunc, arr_map]
theorem ok_extract {x : Operand} {ix : Nat} {l : List Tr} {t : Tr} (c : Ctx P tb w φ S hb g ρ) (ho : o.op = .extract x ix) (hx : g x = some (.t (.tu l))) (hi : l[ix]? = some t) (hN : Post tb w φ S N (.val (.t t))) : UponU P N ((execOp ρ o).run P w) := by
 obtain ⟨vs, e, hl⟩ := tu_of (c.hg _ _ hx)
 obtain ⟨v, h1, h2⟩ := hl.at ix hi
 refine upon_of (v := v) (w' := w) ?_ (post_val hN c.hS (.t _ _ h2))
 simp [execOp, ho, e, Instr.extract, h1]
theorem ok_extractV {x : Operand} {ix : Nat} {l : List AV} {t : AV} (c : Ctx P tb w φ S hb g ρ) (ho : o.op = .extract x ix) (hx : g x = some (.tu l)) (hi : l[ix]? = some t) (hN : Post tb w φ S N (.val t)) : UponU P N ((execOp ρ o).run P w) := by
 have hr := c.hg _ _ hx
 generalize hv : ρ x = v at hr
 cases hr with
 | tu vs l hl =>
  obtain ⟨v, h1, h2⟩ := hl.at ix hi
  refine upon_of (v := v) (w' := w) ?_ (post_val hN c.hS h2)
  simp [execOp, ho, hv, Instr.extract, h1]
theorem builtin_run {b : Builtin} {args : Array Operand} {tys : Array TypeId} (ho : o.op = .call { callee := .builtin b, args := args, argTypes := tys }) :
  ∃ cs, (execOp ρ o).run P w = (builtin b tys o.type cs (args.map ρ)).run P w := by
 refine ⟨args.map fun | .const _ => true | _ => false, ?_⟩
 simp only [execOp, ho, resolve, invoke]
 rfl
theorem ok_len_run {T : TypeId} {x : Operand} {ti : TI} {e : TypeId} {a : Option Addr} {n cap : Nat} (hT : TabOk P tb) (ho : o.op = .call { callee := .builtin .len, args := #[x], argTypes := #[T] }) (ht : get tb T = some ti) (hd : ti.d = .slice e) (hx : ρ x = .slice a n cap) :
  (execOp ρ o).run P w = .ok (.value (.int .i64 n)) w := by
 have hu := (hT _ _ ht).elem hd
 have hr := run_len_slice (P := P) w T o.type a n cap hu.1
 obtain ⟨cs, hcs⟩ := builtin_run (P := P) (w := w) (ρ := ρ) ho
 rw [hcs]
 simp [builtin, hx, hr, goInt]
theorem ok_len {T : TypeId} {x : Operand} {ti : TI} {e : TypeId} {l : List Tr} (c : Ctx P tb w φ S hb g ρ) (ho : o.op = .call { callee := .builtin .len, args := #[x], argTypes := #[T] }) (ht : get tb T = some ti) (hd : ti.d = .slice e) (hx : AsTr g x (.sl e l)) (hN : Post tb w φ S N (.val (.t (.i .i64 l.length)))) : UponU P N ((execOp ρ o).run P w) := by
 obtain ⟨a, cap, e1, _, _, _⟩ := sl_of (hx.rep c.hg)
 exact upon_of (ok_len_run c.hT ho ht hd e1) (post_val hN c.hS (.t _ _ (.i _ _)))
theorem ok_lenO {T : TypeId} {x : Operand} {ti : TI} {e e2 id off n : Nat} (c : Ctx P tb w φ S hb g ρ) (ho : o.op = .call { callee := .builtin .len, args := #[x], argTypes := #[T] }) (ht : get tb T = some ti) (hd : ti.d = .slice e) (hx : g x = some (.own e2 id off n)) (hN : Post tb w φ S N (.val (.t (.i .i64 n)))) : UponU P N ((execOp ρ o).run P w) := by
 obtain ⟨b, cap, cs, _, e1, _⟩ := own_of (c.hg _ _ hx)
 exact upon_of (ok_len_run c.hT ho ht hd e1) (post_val hN c.hS (.t _ _ (.i _ _)))
theorem ok_max {ts : Array TypeId} {x y : Operand} {k : IntKind} {a b : Int} (c : Ctx P tb w φ S hb g ρ) (ho : o.op = .call { callee := .builtin .max, args := #[x, y], argTypes := ts }) (hx : g x = some (.t (.i k a))) (hy : g y = some (.t (.i k b))) (hN : Post tb w φ S N (.val (.t (.i k (max a b))))) : UponU P N ((execOp ρ o).run P w) := by
 have e1 := int_of (c.hg _ _ hx)
 have e2 := int_of (c.hg _ _ hy)
 have e3 : (if b > a then b else a) = max a b := by omega
 refine upon_of (v := .int k (max a b)) (w' := w) ?_ (post_val hN c.hS (.t _ _ (.i _ _)))
 obtain ⟨cs, hcs⟩ := builtin_run (P := P) (w := w) (ρ := ρ) ho
 rw [hcs]
 simp [builtin, e1, e2, Builtin.max_, Builtin.max2]
 omega
theorem ok_min {ts : Array TypeId} {x y : Operand} {k : IntKind} {a b : Int} (c : Ctx P tb w φ S hb g ρ) (ho : o.op = .call { callee := .builtin .min, args := #[x, y], argTypes := ts }) (hx : g x = some (.t (.i k a))) (hy : g y = some (.t (.i k b))) (hN : Post tb w φ S N (.val (.t (.i k (min a b))))) : UponU P N ((execOp ρ o).run P w) := by
 have e1 := int_of (c.hg _ _ hx)
 have e2 := int_of (c.hg _ _ hy)
 refine upon_of (v := .int k (min a b)) (w' := w) ?_ (post_val hN c.hS (.t _ _ (.i _ _)))
 obtain ⟨cs, hcs⟩ := builtin_run (P := P) (w := w) (ρ := ρ) ho
 rw [hcs]
 simp [builtin, e1, e2, Builtin.min_, Builtin.min2]
 omega
theorem call_run {fx : Operand} {args : Array Operand} {tys : Array TypeId} {f : FuncId} {vs : Array Value} (ho : o.op = .call { callee := .value fx, args := args, argTypes := tys }) (hf : ρ fx = .func (.func f) #[] vs) :
  (execOp ρ o).run P w = (callFunc f (args.map ρ ++ vs)).run P w := by
 simp [execOp, ho, resolve, hf, Deferred.ofValue, invoke]
theorem ok_call {f : FuncId} {fx : Operand} {args : Array Operand} {tys : Array TypeId} {caps ts : List Tr} {t : Tr} (c : Ctx P tb w φ S hb g ρ) (ho : o.op = .call { callee := .value fx, args := args, argTypes := tys }) (hf : g fx = some (.t (.fn f caps))) (hx : AsTrs g args.toList ts) (h : FnP P tb f (ts ++ caps) t)
  (hN : Post tb w φ S N (.val (.t t))) : UponU P N ((execOp ρ o).run P w) := by
 obtain ⟨vs, e, hl⟩ := fn_of (c.hg _ _ hf)
 rw [call_run ho e]
 refine h w S _ N ?_ c.hS fun v w' S' h1 h2 h3 => hN v w' S' h2 h3 (.t _ _ h1)
 have := (hx.rep c.hg).append hl
 simpa using this
theorem ok_callN {f : FuncId} {fx : Operand} {args : Array Operand} {tys : Array TypeId} {caps ts : List Tr} {e id n : Nat} {l : List Tr} (c : Ctx P tb w φ S hb g ρ) (ho : o.op = .call { callee := .value fx, args := args, argTypes := tys }) (hf : g fx = some (.t (.fn f caps))) (hx : AsTrs g args.toList ts) (h : FnN P tb f (ts ++ caps) e l) (hn : l.length = n)
  (hN : Post tb w φ S N (.new (.own e id 0 n) id (.arr e (l.map .t)))) : UponU P N ((execOp ρ o).run P w) := by
 obtain ⟨vs, e', hl⟩ := fn_of (c.hg _ _ hf)
 rw [call_run ho e']
 subst hn
 refine h w S _ N ?_ c.hS fun v w' b h1 h2 h3 h4 => hN v w' b h1 h2 h3 fun φ' _ h5 => h4 φ' id h5
 have := (hx.rep c.hg).append hl
 simpa using this
theorem ok_nilCheck {x : Operand} {v : AV} (c : Ctx P tb w φ S hb g ρ) (ho : o.op = .nilCheck x) (hx : g x = some v) (hp : ∃ a, ρ x = .pointer (some a)) (hN : Post tb w φ S N (.val v)) : UponU P N ((execOp ρ o).run P w) := by
 obtain ⟨a, e⟩ := hp
 refine upon_of (v := ρ x) (w' := w) ?_ (post_val hN c.hS (c.hg _ _ hx))
 simp [execOp, ho, e]
theorem QEv.ok {r : Res} (c : Ctx P tb w φ S hb g ρ) (h : QEv P tb hb g o.op o.type r) (hfr : ∀ v id ob, r = .new v id ob → φ id = none) (hN : Post tb w φ S N r) : UponU P N ((execOp ρ o).run P w) := by
 generalize ho : o.op = op at h
 generalize hty : o.type = ty at h
 cases h with
 | makeSlice0 T x y ty ti tie e kx ky m id h1 h2 h3 h4 h5 h6 h7 h8 h9 h10 h11 => exact ok_makeSlice0 c ho h1 h2 h3 h4 (by simpa using h5) h6 h7 h8 h9 h10 h11 hN
 | makeSlice T x y ty ti tie e kx ky n id h1 h2 h3 h4 h5 h6 h7 h8 h9 h10 h11 => exact ok_makeSlice c ho h1 h2 h3 h4 (by simpa using h5) h6 h7 h8 h9 h10 h11 hN
 | move x ty v h => exact ok_move c (.inl ho) h hN
 | assign x ty v h => exact ok_move c (.inr ho) h hN
 | moveT x ty t h => exact ok_moveT c (.inl ho) h hN
 | assignT x ty t h => exact ok_moveT c (.inr ho) h hN
 | pick x a b ty cb v h1 h2 => exact ok_pick c ho h1 h2 hN
 | alloc T ty ti id h1 h2 h3 => exact ok_alloc c ho h1 h2 (by simpa using h3) hN
 | allocNil T ty ti id e h1 h2 h3 h4 =>
  have hz : ti.zero.zeroOk = true := by rw [h3]; rfl
  have hz' := (c.hT _ _ h1).zero (w := w) hz
  have hv : ti.zero.val = .slice none 0 0 := by rw [h3]; rfl
  refine upon_of (v := .pointer (some ⟨w.heap.size, 0, none⟩)) (w' := w.alloc (.cells [Value.slice none 0 0].toArray T)) ?_ (post_newV (szOf_eq h1) h4 (hfr _ _ _ rfl) c.hφ hN c.hS .nilS fun t => by simp)
  simp [execOp, ho, Instr.alloc, hz', hv, newVar, newRow, Value.cells]
 | box T x ty ti t h1 h2 h3 => exact ok_box (ti := ti) c ho h2 hN
 | boxM T x ty ti t id h1 h2 h3 => exact ok_boxM c ho h1 h2 h3 hN
 | boxV T x ty ti v id h1 h2 h3 h4 h5 h6 =>
  have hr := c.hg _ _ h3
  have hc := cells_one hr h4 h5 h6
  refine upon_of (ok_box_run ho) ?_
  rw [hc]
  exact post_newV (szOf_eq h1) h2 (hfr _ _ _ rfl) c.hφ hN c.hS hr h4
 | build T parts ty ti fs zl ts l h1 h2 h3 h4 h5 h6 h7 => exact ok_build c ho h1 h2 h3 h4 h5 h6 h7 hN
 | buildA T parts ty ti m e tie zl ts l h1 h2 h3 h4 h5 h6 h7 => exact ok_buildA c ho h1 h2 h3 h4 h5 h6 h7 hN
 | indexS T x ix ty ti s k n b h1 h2 h3 h4 h5 h6 => exact ok_indexS c ho h1 h2 h3 h4 h5 h6 hN
 | buildSlice T n parts ty ti tie e ts h1 h2 h3 h4 h5 h6 h7 h8 h9 h10 h11 => exact ok_buildSlice c ho h1 h2 h3 h4 h5 h6 h7 (by simpa using h8) h9 h10 h11 hN
 | buildSliceM T n parts ty ti tie e ts id h1 h2 h3 h4 h5 h6 h7 h8 h9 h10 h11 => exact ok_buildSliceM c ho h1 h2 h3 h4 h5 h6 h7 (by simpa using h8) h9 h10 h11 hN
 | load T x ty ti t h1 h2 h3 => exact ok_load c ho h1 h2 h3 hN
 | loadP T x ty ti e id idx l t h1 h2 h3 h4 h5 => exact ok_loadP c ho h1 h2 h3 h4 h5 hN
 | loadF T x ty ti e id idx off l t u h1 h2 h3 h4 h5 => exact ok_loadF c ho h1 h2 h3 h4 h5 hN
 | loadV T x ty ti e id idx l v h1 h2 h3 h4 h5 h6 => exact ok_loadV c ho h1 h2 h3 h4 h5 h6 hN
 | fieldAddr T x f ty t u h1 h2 => exact ok_fieldAddr c ho h1 h2 hN
 | fieldAddrP T x f ty ti fs ft off p e id idx tif h1 h2 h3 h4 h5 h6 => exact ok_fieldAddrP c ho h1 h2 h3 h4 h5 h6 hN
 | field T x f ty t u h1 h2 => exact ok_field c ho h1 h2 hN
 | indexAddr T x ix ty ti tie e l k n t h1 h2 h3 h4 h5 h6 h7 => exact ok_indexAddr c ho h1 h2 h3 h4 h5 h6 h7 hN
 | indexAddrO T x ix ty ti tie e id off len k n h1 h2 h3 h4 h5 h6 h7 => exact ok_indexAddrO c ho h1 h2 h3 h4 h5 h6 h7 hN
 | indexAddrA T x ix ty ti tie e l k n m t h1 h2 h3 h4 h5 h6 h7 h8 h9 h10 h11 => exact ok_indexAddrA c ho h1 h2 h3 h4 h6 h7 h8 h9 h10 h11 hN
 | slice T x lo hi ty ti tie e l nl nh h1 h2 h3 h4 h5 h6 h7 h8 h9 => exact ok_slice c ho h1 h2 h3 h4 h5 h6 h7 h8 h9 hN
 | sliceX T x lo y mx ty ti tie e l ky km nl nh nm h1 h2 h3 h4 h5 h6 h7 h8 h9 h10 h11 => exact ok_sliceX c ho h1 h2 h3 h4 h5 h6 h7 h8 h9 h10 h11 hN
 | sliceO T x lo hi ty ti tie e id off len nl nh h1 h2 h3 h4 h5 h6 h7 h8 h9 h10 => exact ok_sliceO c ho h1 h2 h3 h4 h5 h6 h7 h8 h9 h10 hN
 | arith op T x y ty ty2 k a b r n h1 h2 h3 h4 => exact ok_arith c ho h1 h2 h3 h4 hN
 | cmp op T x y ty ty2 k a b r h1 h2 h3 => exact ok_cmp c ho h1 h2 h3 hN
 | quo T x y ty ty2 k a b n h1 h2 h3 h4 => exact ok_quo c ho h1 h2 h3 h4 hN
 | rem T x y ty ty2 k a b n h1 h2 h3 h4 => exact ok_rem c ho h1 h2 h3 h4 hN
 | bits op T x y ty ty2 k a b r n h1 h2 h3 h4 => exact ok_bits c ho h1 h2 h3 h4 hN
 | shl T x y ty ty2 k k2 a b n h1 h2 h3 h4 => exact ok_shl c ho h1 h2 h3 h4 hN
 | shr T x y ty ty2 k k2 a b n h1 h2 h3 h4 => exact ok_shr c ho h1 h2 h3 h4 hN
 | eqB T x y ty ty2 ti a b h1 h2 h3 h4 => exact ok_eqB c false ho h1 h2 h3 h4 hN
 | neB T x y ty ty2 ti a b h1 h2 h3 h4 => exact ok_eqB c true ho h1 h2 h3 h4 hN
 | neg T x ty k a n h1 h2 => exact ok_neg c ho h1 h2 hN
 | compl T x ty k a r n h1 h2 h3 => exact ok_compl c ho h1 h2 h3 hN
 | not T x ty b h1 => exact ok_not c ho h1 hN
 | conv A B x ty ta tbi ka kb k a n h1 h2 h3 h4 h5 h6 => exact ok_conv c ho h1 h2 h3 h4 h5 h6 hN
 | fn f caps ty ts h1 => exact ok_fn c ho h1 hN
 | clo f caps ty vs h1 => exact ok_clo c ho h1 hN
 | extract x ix ty l t h1 h2 => exact ok_extract c ho h1 h2 hN
 | extractV x ix ty l v h1 h2 => exact ok_extractV c ho h1 h2 hN
 | len T x ty ti e l n h1 h2 h3 h4 => subst h4; exact ok_len c ho h1 h2 h3 hN
 | lenO T x ty ti e e2 id off n h1 h2 h3 => exact ok_lenO c ho h1 h2 h3 hN
 | max ts ty x y k a b h1 h2 => exact ok_max c ho h1 h2 hN
 | min ts ty x y k a b h1 h2 => exact ok_min c ho h1 h2 hN
 | call f fx args tys ty caps ts t h1 h2 h3 => exact ok_call c ho h1 h2 h3 hN
 | callN f fx args tys ty caps ts e l n id h1 h2 h3 h4 => exact ok_callN c ho h1 h2 h3 h4 hN
 | nilCheck x ty t h1 =>
  obtain ⟨b, p, e, _⟩ := pt_of (c.hg _ _ h1)
  exact ok_nilCheck c ho h1 ⟨_, e⟩ hN
 | nilCheckP x ty e id idx off h1 =>
  obtain ⟨b, _, e⟩ := ptr_of (c.hg _ _ h1)
  exact ok_nilCheck c ho h1 ⟨_, e⟩ hN
end
structure Gh where
 w0 : World
 S0 : Nat → Prop
 X : Nat → Prop
 nt : Nat
 k0 : Nat
 φ0 : Phi
 hφ0 : ∀ i b, φ0 i = some b → i < k0
def Vis (h : Heap) (id : Nat) : Prop := ∃ o, get h id = some (some o)
structure HR (tb : Tab) (G : Gh) (w : World) (φ : Phi) (S : Nat → Prop) (h : Heap) (nx : Nat) : Prop where
 hh : RelH tb w φ S h
 inj : ∀ i j b, Vis h i → Vis h j → φ i = some b → φ j = some b → i = j
 fr : ∀ i, nx ≤ i → φ i = none
 φlt : ∀ i b, φ i = some b → b < w.heap.size
 φX : ∀ i b, φ i = some b → G.X b ∨ G.w0.heap.size ≤ b
 Slt : ∀ b, S b → b < w.heap.size
 SS : ∀ b, G.S0 b → S b
 Snew : ∀ b, S b → G.S0 b ∨ G.w0.heap.size ≤ b ∨ G.X b
 frame : Fr G.X G.w0 w
def isDef : Go.Obj → Bool
 | .deferred _ => true
 | _ => false
def NC (w w' : World) : Prop := ∀ (b : Nat) (o : Go.Obj), w.heap[b]? = some o → isDef o = true → w'.heap[b]? = some o
theorem NC.refl (w : World) : NC w w := fun _ _ h _ => h
theorem NC.trans {w w1 w2 : World} (h : NC w w1) (k : NC w1 w2) : NC w w2 := fun b o hb ho => k b o (h b o hb ho) ho
theorem NC.of_fr {w w' : World} (h : Fr X0 w w') : NC w w' := fun b o hb ho => (h.blk b (Array.getElem?_eq_some_iff.1 hb).1 id).trans hb
def After (tb : Tab) (G : Gh) (w : World) (φ : Phi) (S : Nat → Prop) (N : Value → World → Prop) (av : AV) (h' : Heap) (nx' : Nat) : Prop :=
 ∀ v w' φ' S', Keeps w w' φ φ' S S' → HR tb G w' φ' S' h' nx' → NC w w' → RepV tb w' φ' S' v av → N v w'
theorem get_cons (k : Nat) {α : Type} (v : α) (r : List (Nat × α)) (i : Nat) : get ((k, v) :: r) i = if k = i then some v else get r i := by
 show (match Nat.beq k i with | true => some v | false => get r i) = _
 by_cases h : k = i
 ·subst h; simp
 ·have : Nat.beq k i = false := by
   cases hb : Nat.beq k i with
   | false => rfl
   | true => exact absurd (Nat.eq_of_beq_eq_true hb) h
  rw [if_neg h, this]
section
variable {P : Program} {tb : Tab} {G : Gh} {w : World} {φ : Phi} {S : Nat → Prop} {N : Value → World → Prop} {ρ : Operand → Value} {o : Oper} {h : Heap} {nx : Nat} {g : Operand → Option AV}
theorem keeps_fr {w' : World} {φ' : Phi} {S' : Nat → Prop} (hr : HR tb G w φ S h nx) (hf : Fr X0 w w') (hS : ∀ b, S b → S' b) (hφ : ∀ i b, φ i = some b → φ' i = some b) : Keeps w w' φ φ' S S' :=
 ⟨fun b hb => hf.blk b (hr.Slt b hb) id, hS, hφ, fun id b cs ty h1 h2 => ⟨cs, by rw [hf.blk b (hr.φlt id b h1) fun x => x]; exact h2, rfl⟩⟩
theorem hr_val {w' : World} {S' : Nat → Prop} (hr : HR tb G w φ S h nx) (hf : Fr X0 w w') (hg : Gr w w' S S') : HR tb G w' φ S' h nx := by
 have hk := keeps_fr hr hf hg.hS (fun _ _ h => h)
 refine ⟨fun id ob hob => ?_, hr.inj, hr.fr, fun i b hb => Nat.lt_of_lt_of_le (hr.φlt i b hb) hf.size, hr.φX, hg.lt, fun b hb => hg.hS b (hr.SS b hb), fun b hb => ?_, hr.frame.trans hf fun _ _ => False.elim⟩
 ·obtain ⟨b, h1, h2, h3, h4⟩ := hr.hh id ob hob
  refine ⟨b, h1, Nat.lt_of_lt_of_le h2 hf.size, fun hs => ?_, h4.mono hk (hf.blk b h2 fun x => x)⟩
  rcases hg.new b hs with hs | hs
  ·exact h3 hs
  ·omega
 ·rcases hg.new b hb with hs | hs
  ·exact hr.Snew b hs
  ·exact .inr (.inl (Nat.le_trans hr.frame.size hs))
theorem hr_new {w' : World} {b : Nat} {ob : Obj} (hr : HR tb G w φ S h nx) (hf : Fr X0 w w') (h1 : w.heap.size ≤ b) (h2 : b < w'.heap.size)
  (ho : RepO tb w' (fun i => if i = nx then some b else φ i) S b ob) : HR tb G w' (fun i => if i = nx then some b else φ i) S ((nx, some ob) :: h) (nx + 1) := by
 have hφ : ∀ i c, φ i = some c → (if i = nx then some b else φ i) = some c := fun i c hc => by
  rw [if_neg]; · exact hc
  ·intro e; subst e; rw [hr.fr i (Nat.le_refl _)] at hc; cases hc
 have hk := keeps_fr (S' := S) hr hf (fun _ h => h) hφ
 have old : ∀ i c, i ≠ nx → (if i = nx then some b else φ i) = some c → φ i = some c := fun i c hi hc => by rwa [if_neg hi] at hc
 refine ⟨fun id o' ho' => ?_, fun i j c hi hj h3 h4 => ?_, fun i hi => ?_, fun i c hc => ?_, fun i c hc => ?_, fun c hc => Nat.lt_of_lt_of_le (hr.Slt c hc) hf.size, hr.SS, hr.Snew, hr.frame.trans hf fun _ _ => False.elim⟩
 ·rw [get_cons] at ho'
  split at ho'
  ·rename_i e
   subst e
   injection ho' with ho'
   injection ho' with ho'
   subst ho'
   exact ⟨b, if_pos rfl, h2, fun hs => by have := hr.Slt b hs; omega, ho⟩
  ·obtain ⟨c, k1, k2, k3, k4⟩ := hr.hh id o' ho'
   exact ⟨c, hφ _ _ k1, Nat.lt_of_lt_of_le k2 hf.size, k3, k4.mono hk (hf.blk c k2 fun x => x)⟩
 ·by_cases hi' : i = nx <;> by_cases hj' : j = nx
  ·omega
  ·rw [if_pos hi'] at h3; rw [if_neg hj'] at h4
   injection h3 with h3; subst h3
   have := hr.φlt j _ h4; omega
  ·rw [if_neg hi'] at h3; rw [if_pos hj'] at h4
   injection h4 with h4; subst h4
   have := hr.φlt i _ h3; omega
  ·rw [if_neg hi'] at h3; rw [if_neg hj'] at h4
   refine hr.inj i j c ?_ ?_ h3 h4
   ·obtain ⟨o', ho'⟩ := hi; rw [get_cons, if_neg (fun e => hi' e.symm)] at ho'; exact ⟨o', ho'⟩
   ·obtain ⟨o', ho'⟩ := hj; rw [get_cons, if_neg (fun e => hj' e.symm)] at ho'; exact ⟨o', ho'⟩
 ·have h4 : i ≠ nx := by omega
  show (if i = nx then some b else φ i) = none
  rw [if_neg h4]; exact hr.fr i (by omega)
 ·by_cases hi : i = nx
  ·have hc : (if i = nx then some b else φ i) = some c := hc
   rw [if_pos hi] at hc; injection hc with hc; omega
  ·exact Nat.lt_of_lt_of_le (hr.φlt i c (old i c hi hc)) hf.size
 ·by_cases hi : i = nx
  ·have hc : (if i = nx then some b else φ i) = some c := hc
   rw [if_pos hi] at hc; injection hc with hc; subst hc
   exact .inr (Nat.le_trans hr.frame.size h1)
  ·exact hr.φX i c (old i c hi hc)
def resH (h : Heap) (nx : Nat) : Res → AV × Heap × Nat
 | .val v => (v, h, nx)
 | .new v id ob => (v, (id, some ob) :: h, id + 1)
theorem post_of_after {r : Res} (hr : HR tb G w φ S h nx) (hid : ∀ v id ob, r = .new v id ob → id = nx) (hN : After tb G w φ S N (resH h nx r).1 (resH h nx r).2.1 (resH h nx r).2.2) : Post tb w φ S N r := by
 cases r with
 | val av =>
  intro v w' S' h1 h2 h3
  exact hN v w' φ S' (keeps_fr hr h1 h2.hS fun _ _ h => h) (hr_val hr h1 h2) (NC.of_fr h1) h3
 | new av id ob =>
  have := hid _ _ _ rfl
  subst this
  intro v w' b h1 h2 h3 h4
  have hφ : ∀ i c, φ i = some c → (if i = id then some b else φ i) = some c := fun i c hc => by
   rw [if_neg]; · exact hc
   ·intro e; subst e; rw [hr.fr i (Nat.le_refl _)] at hc; cases hc
  obtain ⟨k1, k2⟩ := h4 (fun i => if i = id then some b else φ i) hφ (if_pos rfl)
  exact hN v w' _ S (keeps_fr hr h1 (fun _ h => h) hφ) (hr_new hr h1 h2 h3 k2) (NC.of_fr h1) k1
theorem QEv.after {r : Res} (hT : TabOk P tb) (hr : HR tb G w φ S h nx) (hg : ∀ x v, g x = some v → RepV tb w φ S (ρ x) v) (hq : QEv P tb h g o.op o.type r) (hid : ∀ v id ob, r = .new v id ob → id = nx)
  (hN : After tb G w φ S N (resH h nx r).1 (resH h nx r).2.1 (resH h nx r).2.2) : UponU P N ((execOp ρ o).run P w) :=
 hq.ok ⟨hT, hg, hr.hh, hr.Slt, hr.φlt⟩ (fun v id ob e => by rw [hid v id ob e]; exact hr.fr _ (Nat.le_refl _)) (post_of_after hr hid hN)
theorem setCell_block (w : World) (a : Addr) (v : Value) {i : Nat} (hi : i ≠ a.block) : (w.setCell a v).heap[i]? = w.heap[i]? := by
 show (w.heap.modify a.block _)[i]? = _
 rw [Array.getElem?_modify]
 simp [Ne.symm hi]
theorem setCell_at (w : World) (b o : Nat) (v : Value) {cs : Array Value} {ty : TypeId} {fr : Nat × Nat} (h : w.heap[b]? = some (.cells cs ty fr)) : (w.setCell ⟨b, o, none⟩ v).heap[b]? = some (.cells (cs.setIfInBounds o v) ty fr) := by
 show (w.heap.modify b _)[b]? = _
 rw [Array.getElem?_modify]
 simp [h]
theorem run_storeCells {b o : Nat} {ty : TypeId} : ∀ (vs : List Value) (i : Nat) (w : World) (cs : Array Value), w.heap[b]? = some (.cells cs ty (0, 0)) → o + i + vs.length ≤ cs.size → (∀ v ∈ vs, v.oneCell' = true) →
  ∃ w' cs', (storeCells ⟨b, o, none⟩ vs i).run P w = .ok () w' ∧ w'.heap[b]? = some (.cells cs' ty (0, 0)) ∧ cs'.toList = cs.toList.take (o + i) ++ vs ++ cs.toList.drop (o + i + vs.length) ∧
   w'.os = w.os ∧ w'.tape = w.tape ∧ w'.output = w.output ∧ w'.heap.size = w.heap.size ∧ ∀ k, k ≠ b → w'.heap[k]? = w.heap[k]?
 | [], i, w, cs, hb, _, _ => ⟨w, cs, by simp [storeCells], hb, by simp, rfl, rfl, rfl, rfl, fun _ _ => rfl⟩
 | v :: vs, i, w, cs, hb, hn, h1 => by
  simp only [List.length_cons] at hn
  have hlt : o + i < cs.size := by omega
  have hcell : w.cell? ⟨b, o + i, none⟩ = some cs[o + i] := by simp [World.cell?, hb, hlt]
  have hfz : w.frozen? ⟨b, o + i, none⟩ = false := by simp [World.frozen?, hb]
  have hst := run_store P w ((⟨b, o, none⟩ : Addr).add i) v .plain (h1 v (by simp))
  rw [add_eq, hcell, hfz] at hst
  obtain ⟨w', cs', h2, h3, h4, h5, h6, h7, h8, h9⟩ := run_storeCells (b := b) (o := o) (ty := ty) vs (i + 1) (w.setCell ⟨b, o + i, none⟩ v) (cs.setIfInBounds (o + i) v) (setCell_at w b (o + i) v hb) (by simp; omega) (fun u hu => h1 u (by simp [hu]))
  refine ⟨w', cs', ?_, h3, ?_, h5, h6, h7, by rw [h8]; simp, fun k hk => (h9 k hk).trans (setCell_block w _ v hk)⟩
  ·simp only [storeCells, Sem.run_bind, add_eq]
   rw [hst]
   simpa using h2
  ·rw [h4, Array.toList_setIfInBounds]
   have hl : o + i < cs.toList.length := by simpa using hlt
   have e1 : o + (i + 1) = o + i + 1 := by omega
   rw [e1, List.take_succ_eq_append_getElem (by simpa using hl), List.getElem_set_self, List.take_set_of_le (Nat.le_refl _), List.drop_set_of_lt (show o + i < o + i + 1 + vs.length by omega)]
   simp only [List.append_assoc, List.singleton_append, List.length_cons, List.cons_append, List.nil_append]
   congr 4
   omega
theorem leaf_one {v : Value} {t : Tr} (h : RepT tb w S v t) (hl : t.leaf = true) : v.oneCell' = true := by
 cases h <;> first | rfl | simp [Tr.leaf] at hl
theorem flat_one {v : Value} {t : Tr} (h : RepT tb w S v t) (hl : t.flat = true) : ∀ u ∈ v.cells.toList, u.oneCell' = true := by
 have hc : ∀ x ∈ t.cells, x.leaf = true := by
  intro x hx
  cases t with
  | ag l => simp only [Tr.flat, List.all_eq_true] at hl; exact hl x hx
  | tu l => simp [Tr.flat] at hl
  | _ => simp [Tr.cells] at hx; subst hx; rfl
 intro u hu
 obtain ⟨i, hi⟩ := List.mem_iff_getElem?.1 hu
 have hr := h.cells
 have hlt : i < t.cells.length := by rw [← hr.length]; exact (List.getElem?_eq_some_iff.1 hi).1
 obtain ⟨u', h1, h2⟩ := hr.at i (List.getElem?_eq_getElem hlt)
 rw [hi] at h1
 injection h1 with h1
 subst h1
 exact leaf_one h2 (hc _ (List.getElem_mem hlt))
theorem hr_write {w' : World} {id b : Nat} {e : TypeId} {l l' : List AV} {cs cs' : Array Value} (hr : HR tb G w φ S h nx) (hid : get h id = some (some (.arr e l))) (hb : φ id = some b) (hcs : w.heap[b]? = some (.cells cs e (0, 0)))
  (hcs' : w'.heap[b]? = some (.cells cs' e (0, 0))) (hsz : cs'.size = cs.size) (hos : w'.os = w.os) (htp : w'.tape = w.tape) (hout : w'.output = w.output) (hhs : w'.heap.size = w.heap.size) (hoth : ∀ k, k ≠ b → w'.heap[k]? = w.heap[k]?)
  (hnew : Keeps w w' φ φ S S → RepO tb w' φ S b (.arr e l')) : Keeps w w' φ φ S S ∧ HR tb G w' φ S ((id, some (.arr e l')) :: h) nx ∧ NC w w' := by
 obtain ⟨b', k1, k2, k3, k4⟩ := hr.hh id _ hid
 rw [hb] at k1
 injection k1 with k1
 subst k1
 have hS : ∀ c, S c → c ≠ b := fun c hc e => k3 (e ▸ hc)
 have hk : Keeps w w' φ φ S S := ⟨fun c hc => hoth c (hS c hc), fun _ h => h, fun _ _ h => h, fun i c cs1 ty h1 h2 => by
  by_cases hc : c = b
  ·subst hc
   rw [hcs] at h2
   injection h2 with h2
   injection h2 with h2 h3 h4
   subst h2 h3
   exact ⟨cs', hcs', hsz⟩
  ·exact ⟨cs1, (hoth c hc).trans h2, rfl⟩⟩
 have hfr : Fr (fun c => c = b) w w' := ⟨hos, htp, hout, by omega, fun i hi hx => hoth i hx⟩
 refine ⟨hk, ⟨fun i o' ho' => ?_, fun i j c hi hj => hr.inj i j c (?_) (?_), hr.fr, fun i c hc => by rw [hhs]; exact hr.φlt i c hc, hr.φX, fun c hc => by rw [hhs]; exact hr.Slt c hc, hr.SS, hr.Snew, hr.frame.trans hfr fun i hi hib => ?_⟩, fun c o' hc ho' => ?_⟩
 ·rw [get_cons] at ho'
  split at ho'
  ·rename_i e'
   subst e'
   injection ho' with ho'
   injection ho' with ho'
   subst ho'
   exact ⟨b, hb, by rw [hhs]; exact k2, k3, hnew hk⟩
  ·rename_i hne
   obtain ⟨c, j1, j2, j3, j4⟩ := hr.hh i o' ho'
   have hcb : c ≠ b := fun e' => hne (hr.inj id i b ⟨_, hid⟩ ⟨_, ho'⟩ hb (e' ▸ j1))
   exact ⟨c, j1, by rw [hhs]; exact j2, j3, j4.mono hk (hoth c hcb)⟩
 ·obtain ⟨o', ho'⟩ := hi
  rw [get_cons] at ho'
  split at ho'
  ·rename_i e'; subst e'; exact ⟨_, hid⟩
  ·exact ⟨o', ho'⟩
 ·obtain ⟨o', ho'⟩ := hj
  rw [get_cons] at ho'
  split at ho'
  ·rename_i e'; subst e'; exact ⟨_, hid⟩
  ·exact ⟨o', ho'⟩
 ·subst hib
  rcases hr.φX id i hb with h1 | h1
  ·exact h1
  ·exact absurd hi (by omega)
 ·have hcb : c ≠ b := fun e' => by
   subst e'
   rw [hcs] at hc
   injection hc with hc
   subst hc
   simp [isDef] at ho'
  exact (hoth c hcb).trans hc
theorem store_core {T : TypeId} {x y : Operand} {ti tie : TI} {e id idx off : Nat} {l : List AV} {new : AV} (hT : TabOk P tb) (hr : HR tb G w φ S h nx) (hg : ∀ x v, g x = some v → RepV tb w φ S (ρ x) v)
  (ho : o.op = .store T x y) (ht : get tb T = some ti) (hte : get tb e = some tie) (hx : g x = some (.ptr e id idx off)) (hid : get h id = some (some (.arr e l))) (hidx : idx < l.length) (hoff : off + ti.sz ≤ tie.sz)
  (hsz : (ρ y).cells.size = ti.sz) (h1 : ∀ u ∈ (ρ y).cells.toList, u.oneCell' = true)
  (hnew : ∀ w' b, φ id = some b → Keeps w w' φ φ S S → (∀ j, j < ti.sz → w'.cell? ⟨b, idx * tie.sz + off + j, none⟩ = (ρ y).cells[j]?) →
   (∀ j, j < tie.sz → (j < off ∨ off + ti.sz ≤ j) → w'.cell? ⟨b, idx * tie.sz + j, none⟩ = w.cell? ⟨b, idx * tie.sz + j, none⟩) → RepE tb w' φ S b (idx * tie.sz) tie.sz new)
  (hN : After tb G w φ S N .unk ((id, some (.arr e (l.set idx new))) :: h) nx) : UponU P N ((execOp ρ o).run P w) := by
 obtain ⟨b, hb, hxv⟩ := ptr_of (hg _ _ hx)
 obtain ⟨b', k1, k2, k3, ⟨cs, hcs⟩, k5⟩ := hr.hh id _ hid
 rw [hb] at k1
 injection k1 with k1
 subst k1
 have hse := szOf_eq hte
 rw [hse] at hxv k5
 -- the element lies in the block
 have hin : 0 < tie.sz → idx * tie.sz + tie.sz ≤ cs.size := by
  intro hpos
  have hlast : ∃ v, w.cell? ⟨b, idx * tie.sz + (tie.sz - 1), none⟩ = some v := by
   have hel := k5 idx _ (List.getElem?_eq_getElem hidx)
   generalize l[idx] = el at hel
   cases hel with
   | t t h2 h3 =>
    obtain ⟨v, h4, _⟩ := h3.at (tie.sz - 1) (List.getElem?_eq_getElem (by omega))
    exact ⟨v, h4⟩
   | v v a h2 h3 h4 h5 => exact ⟨v, by rw [show idx * tie.sz + (tie.sz - 1) = idx * tie.sz by omega]; exact h4⟩
  obtain ⟨v, hv⟩ := hlast
  simp only [World.cell?, hcs] at hv
  have := (Array.getElem?_eq_some_iff.1 (by simpa using hv)).1
  omega
 have hlen : (ρ y).cells.toList.length = ti.sz := by simpa using hsz
 have hfit : idx * tie.sz + off + 0 + (ρ y).cells.toList.length ≤ cs.size := by
  by_cases hp : 0 < tie.sz
  ·have := hin hp; omega
  ·have h0 : ti.sz = 0 := by omega
   have h2 : tie.sz = 0 := by omega
   rw [hlen, h0, h2]; simp; omega
 obtain ⟨w', cs', r1, r2, r3, r4, r5, r6, r7, r8⟩ := run_storeCells (P := P) _ 0 w cs hcs hfit h1
 have hcl : cs'.size = cs.size := by
  have := congrArg List.length r3
  simp only [List.length_append, List.length_take, List.length_drop, Array.length_toList] at this
  rw [Array.length_toList] at hfit
  omega
 have hcell : ∀ j, w'.cell? ⟨b, j, none⟩ = cs'[j]? := fun j => by simp [World.cell?, r2]
 have hcell0 : ∀ j, w.cell? ⟨b, j, none⟩ = cs[j]? := fun j => by simp [World.cell?, hcs]
 have hsame : ∀ j, (j < idx * tie.sz + off ∨ idx * tie.sz + off + ti.sz ≤ j) → w'.cell? ⟨b, j, none⟩ = w.cell? ⟨b, j, none⟩ := by
  intro j hj
  rw [hcell, hcell0, ← Array.getElem?_toList, ← Array.getElem?_toList, r3, Nat.add_zero, hlen]
  rcases hj with hj | hj
  ·rw [List.append_assoc, List.getElem?_append_left (by simp only [List.length_take, Array.length_toList]; omega), List.getElem?_take_of_lt hj]
  ·by_cases hjs : j < cs.size
   ·rw [List.getElem?_append_right (by simp only [List.length_append, List.length_take, Array.length_toList]; omega), List.getElem?_drop]
    congr 1
    simp only [List.length_append, List.length_take, Array.length_toList]; omega
   ·rw [List.getElem?_eq_none (by simp only [List.length_append, List.length_take, List.length_drop, Array.length_toList]; omega), List.getElem?_eq_none (by simp; omega)]
 have hval : ∀ j, j < ti.sz → w'.cell? ⟨b, idx * tie.sz + off + j, none⟩ = (ρ y).cells[j]? := by
  intro j hj
  rw [hcell, ← Array.getElem?_toList, r3, Nat.add_zero, List.append_assoc, List.getElem?_append_right (by simp only [List.length_take, Array.length_toList]; omega), List.getElem?_append_left (by simp only [List.length_take, Array.length_toList]; omega), ← Array.getElem?_toList]
  congr 1
  simp only [List.length_take, Array.length_toList]; omega
 obtain ⟨q1, q2, q3⟩ := hr_write (w' := w') (l' := l.set idx new) hr hid hb hcs r2 hcl r4 r5 r6 r7 r8 fun hk => by
  refine ⟨⟨cs', r2⟩, fun i a ha => ?_⟩
  rw [hse]
  by_cases hi : i = idx
  ·subst hi
   rw [List.getElem?_set_self hidx] at ha
   injection ha with ha
   subst ha
   exact hnew w' b hb hk hval fun j hj hjo => hsame _ (by omega)
  ·rw [List.getElem?_set_ne (Ne.symm hi)] at ha
   refine (k5 i a ha).mono hk fun j hj => hsame _ ?_
   rcases Nat.lt_or_gt_of_ne hi with hlt | hgt
   ·left
    have : (i + 1) * tie.sz ≤ idx * tie.sz := Nat.mul_le_mul_right _ hlt
    rw [Nat.add_mul] at this
    omega
   ·right
    have : (idx + 1) * tie.sz ≤ i * tie.sz := Nat.mul_le_mul_right _ hgt
    rw [Nat.add_mul] at this
    omega
 have hexec : (execOp ρ o).run P w = .ok .skip w' := by
  have hs := (hT _ _ ht).sizeOf (w := w)
  simp [execOp, ho, Instr.storeAt, hxv, Instr.sureAddr, storeVar, hs, hsz, r1]
 rw [hexec]
 exact hN undef w' φ S q1 q2 q3 (.unk _)
theorem ok_store {T : TypeId} {x y : Operand} {ti tie : TI} {e id idx : Nat} {l : List AV} {t : Tr} (hT : TabOk P tb) (hr : HR tb G w φ S h nx) (hg : ∀ x v, g x = some v → RepV tb w φ S (ρ x) v)
  (ho : o.op = .store T x y) (ht : get tb T = some ti) (hte : get tb e = some tie) (hx : g x = some (.ptr e id idx 0)) (hid : get h id = some (some (.arr e l))) (hidx : idx < l.length) (hsz : tie.sz = ti.sz) (hy : AsTr g y t) (hfl : t.flat = true) (hn : t.cells.length = ti.sz)
  (hN : After tb G w φ S N .unk ((id, some (.arr e (l.set idx (.t t)))) :: h) nx) : UponU P N ((execOp ρ o).run P w) := by
 have hrep := hy.rep hg
 refine store_core hT hr hg ho ht hte hx hid hidx (by omega) (by rw [size_cells hrep, hn]) (flat_one hrep hfl) (fun w' b hb hk hv _ => ?_) hN
 refine .t t (by omega) (.of_at fun j u hu => ?_)
 have hj : j < ti.sz := by rw [← hn]; exact (List.getElem?_eq_some_iff.1 hu).1
 obtain ⟨v, h1, h2⟩ := hrep.cells.at j hu
 refine ⟨v, ?_, h2.mono hk.hw hk.hS⟩
 have := hv j hj
 rw [Nat.add_zero] at this
 rw [this]; simpa using h1
theorem ok_storeF {T : TypeId} {x y : Operand} {ti tie : TI} {e id idx off : Nat} {l : List AV} {t : Tr} {u : List Tr} (hT : TabOk P tb) (hr : HR tb G w φ S h nx) (hg : ∀ x v, g x = some v → RepV tb w φ S (ρ x) v)
  (ho : o.op = .store T x y) (ht : get tb T = some ti) (hte : get tb e = some tie) (hx : g x = some (.ptr e id idx off)) (hid : get h id = some (some (.arr e l))) (hl : l[idx]? = some (.t (.ag u))) (hoff : off + ti.sz ≤ u.length) (hy : AsTr g y t) (hfl : t.flat = true) (hn : t.cells.length = ti.sz)
  (hN : After tb G w φ S N .unk ((id, some (.arr e (l.set idx (.t (.ag (u.take off ++ t.cells ++ u.drop (off + ti.sz))))))) :: h) nx) : UponU P N ((execOp ρ o).run P w) := by
 have hrep := hy.rep hg
 have hidx := (List.getElem?_eq_some_iff.1 hl).1
 obtain ⟨b0, k1, k2, k3, ⟨cs, hcs⟩, k5⟩ := hr.hh id _ hid
 have hse := szOf_eq hte
 rw [hse] at k5
 have hel := k5 idx _ hl
 cases hel with
 | v v a h1 h2 h3 h4 => exact absurd rfl (h2 _)
 | t t0 h1 h2 =>
  have hul : u.length = tie.sz := h1
  refine store_core hT hr hg ho ht hte hx hid hidx (by omega) (by rw [size_cells hrep, hn]) (flat_one hrep hfl) (fun w' b hb hk hv hs => ?_) hN
  have hbb : b = b0 := by rw [k1] at hb; injection hb with hb; exact hb.symm
  subst hbb
  refine .t _ (by show (u.take off ++ t.cells ++ u.drop (off + ti.sz)).length = _; simp only [List.length_append, List.length_take, List.length_drop]; omega) (.of_at fun j q hq => ?_)
  have hq : (u.take off ++ t.cells ++ u.drop (off + ti.sz))[j]? = some q := hq
  by_cases hj1 : j < off
  ·rw [List.append_assoc, List.getElem?_append_left (by simp only [List.length_take]; omega), List.getElem?_take_of_lt hj1] at hq
   obtain ⟨v, h3, h4⟩ := h2.at j hq
   exact ⟨v, by rw [hs j (by omega) (.inl hj1)]; exact h3, h4.mono hk.hw hk.hS⟩
  ·by_cases hj2 : j < off + ti.sz
   ·rw [List.append_assoc, List.getElem?_append_right (by simp only [List.length_take]; omega), List.getElem?_append_left (by simp only [List.length_take]; omega)] at hq
    have e1 : j - (u.take off).length = j - off := by simp only [List.length_take]; omega
    rw [e1] at hq
    obtain ⟨v, h3, h4⟩ := hrep.cells.at _ hq
    refine ⟨v, ?_, h4.mono hk.hw hk.hS⟩
    have := hv (j - off) (by omega)
    have e2 : idx * tie.sz + off + (j - off) = idx * tie.sz + j := by omega
    rw [e2] at this
    rw [this]; simpa using h3
   ·rw [List.getElem?_append_right (by simp only [List.length_append, List.length_take]; omega), List.getElem?_drop] at hq
    have e1 : off + ti.sz + (j - (u.take off ++ t.cells).length) = j := by simp only [List.length_append, List.length_take]; omega
    rw [e1] at hq
    obtain ⟨v, h3, h4⟩ := h2.at j hq
    have hj : j < tie.sz := by rw [← hul]; exact (List.getElem?_eq_some_iff.1 hq).1
    exact ⟨v, by rw [hs j hj (.inr (by omega))]; exact h3, h4.mono hk.hw hk.hS⟩
theorem ok_storeV {T : TypeId} {x y : Operand} {ti tie : TI} {e id idx : Nat} {l : List AV} {a : AV} (hT : TabOk P tb) (hr : HR tb G w φ S h nx) (hg : ∀ x v, g x = some v → RepV tb w φ S (ρ x) v)
  (ho : o.op = .store T x y) (ht : get tb T = some ti) (hte : get tb e = some tie) (hx : g x = some (.ptr e id idx 0)) (hid : get h id = some (some (.arr e l))) (hidx : idx < l.length) (hs1 : tie.sz = 1) (hs2 : ti.sz = 1) (hy : g y = some a) (h1 : ∀ t, a ≠ .t t) (h2 : a ≠ .unk) (h3 : ∀ l, a ≠ .tu l)
  (hN : After tb G w φ S N .unk ((id, some (.arr e (l.set idx a))) :: h) nx) : UponU P N ((execOp ρ o).run P w) := by
 have hrep := hg _ _ hy
 have hc := cells_one hrep h1 h2 h3
 have hone : (ρ y).oneCell' = true := by
  generalize ρ y = v at hrep
  cases hrep <;> first | rfl | exact absurd rfl (h1 _) | exact absurd rfl h2 | exact absurd rfl (h3 _)
 refine store_core hT hr hg ho ht hte hx hid hidx (by omega) (by rw [hc, hs2]; rfl) (by rw [hc]; intro u hu; simp at hu; subst hu; exact hone) (fun w' b hb hk hv _ => ?_) hN
 have := hv 0 (by omega)
 rw [hc] at this
 exact .v (ρ y) a hs1 h1 (by simpa using this) (hrep.mono hk)
end
section
variable {P : Program} {tb : Tab} {G : Gh} {w : World} {φ : Phi} {S : Nat → Prop} {N : Value → World → Prop} {ρ : Operand → Value} {o : Oper} {h : Heap} {nx : Nat} {g : Operand → Option AV}
theorem vis_kill {id i : Nat} (hi : Vis ((id, none) :: h) i) : i ≠ id ∧ Vis h i := by
 obtain ⟨o, ho⟩ := hi
 rw [get_cons] at ho
 split at ho
 ·injection ho with ho; cases ho
 ·rename_i hne; exact ⟨fun e => hne e.symm, o, ho⟩
theorem hr_kill (hr : HR tb G w φ S h nx) (id : Nat) : HR tb G w φ S ((id, none) :: h) nx :=
 ⟨fun i o ho => by
  rw [get_cons] at ho
  split at ho
  ·injection ho with ho; cases ho
  ·exact hr.hh i o ho, fun i j b hi hj => hr.inj i j b (vis_kill hi).2 (vis_kill hj).2, hr.fr, hr.φlt, hr.φX, hr.Slt, hr.SS, hr.Snew, hr.frame⟩
theorem hr_freeze {id b : Nat} {ob : Obj} (hr : HR tb G w φ S h nx) (hid : get h id = some (some ob)) (hb : φ id = some b) : HR tb G w φ (fun c => S c ∨ c = b) ((id, none) :: h) nx ∧ Keeps w w φ φ S (fun c => S c ∨ c = b) := by
 have hk : Keeps w w φ φ S (fun c => S c ∨ c = b) := ⟨fun _ _ => rfl, fun _ h => .inl h, fun _ _ h => h, fun _ _ cs ty _ h => ⟨cs, h, rfl⟩⟩
 refine ⟨⟨fun i o ho => ?_, fun i j c hi hj => hr.inj i j c (vis_kill hi).2 (vis_kill hj).2, hr.fr, hr.φlt, hr.φX, fun c hc => ?_, fun c hc => .inl (hr.SS c hc), fun c hc => ?_, hr.frame⟩, hk⟩
 ·have hv := vis_kill ⟨o, ho⟩
  rw [get_cons, if_neg (fun e => hv.1 e.symm)] at ho
  obtain ⟨c, h1, h2, h3, h4⟩ := hr.hh i o ho
  refine ⟨c, h1, h2, fun hc => ?_, h4.mono hk rfl⟩
  rcases hc with hc | hc
  ·exact h3 hc
  ·exact hv.1 (hr.inj i id b ⟨o, ho⟩ ⟨ob, hid⟩ (hc ▸ h1) hb)
 ·rcases hc with hc | hc
  ·exact hr.Slt c hc
  ·subst hc; exact hr.φlt _ _ hb
 ·rcases hc with hc | hc
  ·exact hr.Snew c hc
  ·subst hc
   rcases hr.φX _ _ hb with hx | hx
   ·exact .inr (.inr hx)
   ·exact .inr (.inl hx)
theorem repEs_of {b : Nat} {e : TypeId} {ts : List Tr} (h : RepO tb w φ S b (.arr e (ts.map .t))) : RepEs tb w S b 0 (szOf tb e) ts :=
 .of_at fun i t ht => by
  have := h.2 i (.t t) (by rw [List.getElem?_map, ht]; rfl)
  cases this with
  | t t h1 h2 => exact ⟨h1, by rw [Nat.zero_add]; exact h2⟩
  | v v a h1 h2 => exact absurd rfl (h2 t)
theorem frozen_rep {v : Value} {e id off len b : Nat} {ts : List Tr} {S' : Nat → Prop} (hv : RepV tb w φ S v (.own e id off len)) (hb : φ id = some b) (ho : RepO tb w φ S b (.arr e (ts.map .t))) (hle : off + len ≤ ts.length) (hS : S' b) (hSS : ∀ c, S c → S' c) :
  RepT tb w S' v (.sl e ((ts.drop off).take len)) := by
 obtain ⟨b', c, cs, h1, h2, h3, h4, h5, h6⟩ := own_of hv
 rw [hb] at h1
 injection h1 with h1
 subst h1 h2
 refine .sl _ _ _ _ _ _ (by simp; omega) h3 h4 ⟨hS, _, _, _, h5⟩ ?_
 have hk : Keeps w w φ φ S S' := ⟨fun _ _ => rfl, hSS, fun _ _ h => h, fun _ _ cs ty _ h => ⟨cs, h, rfl⟩⟩
 have := ((repEs_of (ho.mono hk rfl)).drop off).take len
 rw [Nat.zero_add] at this
 exact this
theorem frozen_pt {v : Value} {e id b : Nat} {t : Tr} {S' : Nat → Prop} (hv : RepV tb w φ S v (.ptr e id 0 0)) (hb : φ id = some b) (ho : RepO tb w φ S b (.arr e [.t t])) (hS : S' b) (hSS : ∀ c, S c → S' c) :
  RepT tb w S' v (.pt t) := by
 obtain ⟨b', h1, h2⟩ := ptr_of hv
 rw [hb] at h1
 injection h1 with h1
 subst h1 h2
 have hk : Keeps w w φ φ S S' := ⟨fun _ _ => rfl, hSS, fun _ _ h => h, fun _ _ cs ty _ h => ⟨cs, h, rfl⟩⟩
 have := repEs_of (ts := [t]) (ho.mono hk rfl)
 cases this with
 | cons b o z t l h3 h4 h5 => simpa using RepT.pt b 0 t ⟨hS, _, _, _, ho.1.choose_spec⟩ h4
theorem hr_rename {id b : Nat} {ob : Obj} (hr : HR tb G w φ S h nx) (hid : get h id = some (some ob)) (hb : φ id = some b) :
  HR tb G w (fun i => if i = nx then some b else φ i) S ((nx, some ob) :: (id, none) :: h) (nx + 1) ∧ Keeps w w φ (fun i => if i = nx then some b else φ i) S S := by
 have hφ : ∀ i c, φ i = some c → (if i = nx then some b else φ i) = some c := fun i c hc => by
  rw [if_neg]; · exact hc
  ·intro e; subst e; rw [hr.fr i (Nat.le_refl _)] at hc; cases hc
 have hk : Keeps w w φ (fun i => if i = nx then some b else φ i) S S := ⟨fun _ _ => rfl, fun _ h => h, hφ, fun i c cs ty hc h => ⟨cs, h, rfl⟩⟩
 obtain ⟨b', k1, k2, k3, k4⟩ := hr.hh id _ hid
 rw [hb] at k1; injection k1 with k1; subst k1
 have vis : ∀ i, i ≠ nx → Vis ((nx, some ob) :: (id, none) :: h) i → i ≠ id ∧ Vis h i := fun i hi hv => by
  obtain ⟨o', ho'⟩ := hv
  rw [get_cons, if_neg (fun e => hi e.symm)] at ho'
  exact vis_kill ⟨o', ho'⟩
 refine ⟨⟨fun i o' ho' => ?_, fun i j c hi hj h3 h4 => ?_, fun i hi => ?_, fun i c hc => ?_, fun i c hc => ?_, hr.Slt, hr.SS, hr.Snew, hr.frame⟩, hk⟩
 ·rw [get_cons] at ho'
  split at ho'
  ·rename_i e'
   subst e'
   injection ho' with ho'
   injection ho' with ho'
   subst ho'
   exact ⟨b, if_pos rfl, k2, k3, k4.mono hk rfl⟩
  ·have hv := vis_kill ⟨o', ho'⟩
   rw [get_cons, if_neg (fun e => hv.1 e.symm)] at ho'
   obtain ⟨c, j1, j2, j3, j4⟩ := hr.hh i o' ho'
   exact ⟨c, hφ _ _ j1, j2, j3, j4.mono hk rfl⟩
 ·by_cases hi' : i = nx <;> by_cases hj' : j = nx
  ·omega
  ·rw [if_pos hi'] at h3; rw [if_neg hj'] at h4
   injection h3 with h3; subst h3
   have := vis j hj' hj
   exact absurd (hr.inj j id b this.2 ⟨ob, hid⟩ h4 hb) this.1
  ·rw [if_neg hi'] at h3; rw [if_pos hj'] at h4
   injection h4 with h4; subst h4
   have := vis i hi' hi
   exact absurd (hr.inj i id b this.2 ⟨ob, hid⟩ h3 hb) this.1
  ·rw [if_neg hi'] at h3; rw [if_neg hj'] at h4
   exact hr.inj i j c (vis i hi' hi).2 (vis j hj' hj).2 h3 h4
 ·show (if i = nx then some b else φ i) = none
  rw [if_neg (by omega)]; exact hr.fr i (by omega)
 ·have hc : (if i = nx then some b else φ i) = some c := hc
  split at hc
  ·injection hc with hc; subst hc; exact k2
  ·exact hr.φlt i c hc
 ·have hc : (if i = nx then some b else φ i) = some c := hc
  split at hc
  ·injection hc with hc; subst hc; exact hr.φX _ _ hb
  ·exact hr.φX i c hc
theorem RepEs.vals {b p z : Nat} {l : List Tr} (h : RepEs tb w S b p z l) : ∃ cs : List Value, RepL tb w S cs (l.flatMap Tr.cells) ∧ cs.length = l.length * z ∧ ∀ j v, cs[j]? = some v → w.cell? ⟨b, p + j, none⟩ = some v := by
 induction l generalizing p with
 | nil => exact ⟨[], .nil, by simp, fun j v hv => by simp at hv⟩
 | cons t l ih =>
  cases h with
  | cons b p z t l h1 h2 h3 =>
   obtain ⟨cs1, h4, h5⟩ := h2.vals
   obtain ⟨cs2, h6, h7, h8⟩ := ih h3
   have hl : cs1.length = z := by rw [h4.length]; exact h1
   refine ⟨cs1 ++ cs2, by simp only [List.flatMap_cons]; exact h4.append h6, by simp only [List.length_append, List.length_cons, hl, h7, Nat.add_mul]; omega, fun j v hv => ?_⟩
   by_cases hj : j < cs1.length
   ·rw [List.getElem?_append_left hj] at hv; exact h5 j v hv
   ·rw [List.getElem?_append_right (by omega)] at hv
    have := h8 _ v hv
    rw [← this]; congr 2; omega
theorem flat_cells {ts : List Tr} (h : (ts.all Tr.flat) = true) : ∀ x ∈ ts.flatMap Tr.cells, x.leaf = true := by
 intro x hx
 obtain ⟨t, ht, hxt⟩ := List.mem_flatMap.1 hx
 have hf : t.flat = true := by rw [List.all_eq_true] at h; exact h t ht
 cases t with
 | ag l => simp only [Tr.flat, List.all_eq_true] at hf; exact hf x hxt
 | tu l => simp [Tr.flat] at hf
 | _ => simp [Tr.cells] at hxt; subst hxt; rfl
theorem repL_one {vs : List Value} {l : List Tr} (h : RepL tb w S vs l) (hl : ∀ x ∈ l, x.leaf = true) : ∀ u ∈ vs, u.oneCell' = true := by
 intro u hu
 obtain ⟨i, hi⟩ := List.mem_iff_getElem?.1 hu
 have hlt : i < l.length := by rw [← h.length]; exact (List.getElem?_eq_some_iff.1 hi).1
 obtain ⟨u', h1, h2⟩ := h.at i (List.getElem?_eq_getElem hlt)
 rw [hi] at h1; injection h1 with h1; subst h1
 exact leaf_one h2 (hl _ (List.getElem_mem hlt))
theorem exec_append {T : TypeId} {s x : Operand} {vs vx v : Value} {w' : World} (ho : o.op = .call { callee := .builtin .append, args := #[s, x], argTypes := #[T, T] }) (hs : ρ s = vs) (hx : ρ x = vx)
  (h : (Builtin.append_ #[T, T] o.type #[vs, vx]).run P w = .ok v w') : (execOp ρ o).run P w = .ok (.value v) w' := by
 simp [execOp, ho, resolve, invoke, builtin, hs, hx, h]
theorem elems_append {e b : Nat} {tie : TI} (hte : get tb e = some tie) {w' : World} {φ' : Phi} {S' : Nat → Prop} {cs : Array Value} {ts us : List Tr} {vs1 vs2 : List Value} (hcs : w'.heap[b]? = some (.cells cs e (0, 0)))
  (h1 : RepL tb w' S' vs1 (ts.flatMap Tr.cells)) (h2 : RepL tb w' S' vs2 (us.flatMap Tr.cells)) (hz1 : ∀ t ∈ ts, t.cells.length = tie.sz) (hz2 : ∀ t ∈ us, t.cells.length = tie.sz) (hc : ∀ (j : Nat) (v : Value), (vs1 ++ vs2)[j]? = some v → cs[j]? = some v) :
  RepO tb w' φ' S' b (.arr e ((ts ++ us).map .t)) := by
 have hz : ∀ t ∈ ts ++ us, t.cells.length = tie.sz := fun t ht => by rcases List.mem_append.1 ht with h | h; exact hz1 t h; exact hz2 t h
 have hl : RepL tb w' S' (vs1 ++ vs2) ((ts ++ us).flatMap Tr.cells) := by rw [List.flatMap_append]; exact h1.append h2
 refine ⟨⟨cs, hcs⟩, fun i a ha => ?_⟩
 rw [List.getElem?_map] at ha
 obtain ⟨t, ht, rfl⟩ := Option.map_eq_some_iff.1 ha
 have htz := hz t (List.mem_of_getElem? ht)
 rw [szOf_eq hte]
 refine .t _ htz (.of_at fun j u hu => ?_)
 have hj : j < tie.sz := by rw [← htz]; exact (List.getElem?_eq_some_iff.1 hu).1
 have hat := flat_at hz i ht j hj
 rw [hu] at hat
 obtain ⟨v, h3, h4⟩ := hl.at _ hat
 exact ⟨v, by simp only [World.cell?, hcs]; simpa using hc _ v h3, h4⟩
theorem row_vals {e b : Nat} {tie : TI} (hte : get tb e = some tie) {ts : List Tr} (ho : RepO tb w φ S b (.arr e (ts.map .t))) : ∃ cs : List Value, RepL tb w S cs (ts.flatMap Tr.cells) ∧ cs.length = ts.length * tie.sz ∧ ∀ j v, cs[j]? = some v → w.cell? ⟨b, j, none⟩ = some v := by
 obtain ⟨cs, h1, h2, h3⟩ := (repEs_of ho).vals
 rw [szOf_eq hte] at h2
 exact ⟨cs, h1, h2, fun j v hv => by have := h3 j v hv; rwa [Nat.zero_add] at this⟩
theorem row_z {e b : Nat} {tie : TI} (hte : get tb e = some tie) {ts : List Tr} (ho : RepO tb w φ S b (.arr e (ts.map .t))) : ∀ t ∈ ts, t.cells.length = tie.sz := by
 intro t ht
 obtain ⟨i, hi⟩ := List.mem_iff_getElem?.1 ht
 have := (repEs_of ho).at i hi
 rw [szOf_eq hte] at this
 exact this.1
inductive Src (tb : Tab) (w : World) (φ : Phi) (S : Nat → Prop) (h : Heap) (e : TypeId) : Value → List Tr → Option Nat → Prop
 | nil : Src tb w φ S h e (.slice none 0 0) [] none
 | own (id b c cs ts) : get h id = some (some (.arr e (ts.map .t))) → φ id = some b → ts.length ≤ c → ts.length * byOf tb e ≤ 140737488355328 → w.heap[b]? = some (.cells cs e (0, 0)) → c * szOf tb e = cs.size →
   Src tb w φ S h e (.slice (some ⟨b, 0, none⟩) ts.length c) ts (some id)
structure AppR (tb : Tab) (G : Gh) (w w' : World) (φ φ' : Phi) (S : Nat → Prop) (h : Heap) (nx : Nat) (e : TypeId) (k : Option Nat) (ts us : List Tr) (v : Value) : Prop where
 keeps : Keeps w w' φ φ' S S
 hr : HR tb G w' φ' S ((nx, some (.arr e ((ts ++ us).map .t))) :: (match k with | some id => (id, none) :: h | none => h)) (nx + 1)
 nc : NC w w'
 v : RepV tb w' φ' S v (.own e nx 0 (ts.length + us.length))
theorem append_core {T e : TypeId} {ti tie : TI} {s x : Operand} {ts us : List Tr} {k : Option Nat} (hT : TabOk P tb) (hr : HR tb G w φ S h nx) (ho : o.op = .call { callee := .builtin .append, args := #[s, x], argTypes := #[T, T] })
  (ht : get tb T = some ti) (hd : ti.d = .slice e) (hte : get tb e = some tie) (hpos : 0 < tie.sz) (hby : 0 < tie.by_) (hzo : tie.zero.zeroOk = true) (hzl : tie.zero.cells.length = tie.sz) (hs : Src tb w φ S h e (ρ s) ts k) (hx : RepT tb w S (ρ x) (.sl e us)) (hfl : (us.all Tr.flat) = true) (hne : us ≠ [] ∨ k ≠ none) (hbig : (ts.length + us.length) * tie.by_ ≤ 140737488355328) :
  ∃ v w' φ', (execOp ρ o).run P w = .ok (.value v) w' ∧ AppR tb G w w' φ φ' S h nx e k ts us v := by
 obtain ⟨i, hi, hsz, hib, hz⟩ := (hT _ _ hte).info
 have hu := (hT _ _ ht).slice hd
 have hzc : tie.zero.val.cells.size = tie.sz := by have := size_cells (zero_rep (tb := tb) (w := w) (S := S) hzo); omega
 obtain ⟨ax, cx, hxv, hx1, hx2, hx3⟩ := sl_of hx
 by_cases hm : us = []
 ·-- nothing is appended
  subst hm
  rcases hne with hne | hne
  ·exact absurd rfl hne
  ·generalize hsv : ρ s = sv at hs
   cases hs with
   | nil => exact absurd rfl hne
   | own id b c cs ts h1 h2 h3 h4 h5 h6 =>
    have hrun : (Builtin.append_ #[T, T] o.type #[.slice (some ⟨b, 0, none⟩) ts.length c, .slice ax 0 cx]).run P w = .ok (.slice (some ⟨b, 0, none⟩) ts.length c) w := by
     have hf : (Builtin.firstCells i.size 0 (.slice ax 0 cx)).run P w = .ok #[] w := by
      cases ax with
      | none => simp [Builtin.firstCells]
      | some a => simp [Builtin.firstCells, loadCells, loadCellsFrom]
     have h3' : ts.length ≤ c := h3
     simp [Builtin.append_, run_underlying hu, sizeOf, typeInfo, hi, Builtin.lenOf, h3', hf, storeCells]
    obtain ⟨q1, q2⟩ := hr_rename hr h1 h2
    refine ⟨_, w, _, exec_append ho hsv (by simpa using hxv) hrun, q2, by simpa using q1, NC.refl w, ?_⟩
    have := RepV.own (tb := tb) (w := w) (φ := fun i => if i = nx then some b else φ i) (S := S) e nx 0 ts.length b c cs (if_pos rfl) h3 h4 h5 (by rw [Nat.zero_add]; exact h6)
    simpa using this
 ·rcases hx3 with hx3 | ⟨bx, px, rfl, hbx, hes⟩
  ·exact absurd hx3 hm
  ·have hmpos : 0 < us.length := List.length_pos_iff.2 hm
   obtain ⟨news, hn1, hn2, hn3⟩ := hes.vals
   rw [szOf_eq hte] at hn2
   have hnews : ∀ j v, news[j]? = some v → w.cell? ((⟨bx, px, none⟩ : Addr).add j) = some v := fun j v hv => by rw [add_eq]; exact hn3 j v hv
   have hone := repL_one hn1 (flat_cells hfl)
   have hzx : ∀ t ∈ us, t.cells.length = tie.sz := fun t ht => by
    obtain ⟨j, hj⟩ := List.mem_iff_getElem?.1 ht
    have := hes.at j hj; rw [szOf_eq hte] at this; exact this.1
   have hholds : Room.holdsV w ⟨bx, px, none⟩ (us.length * i.size) = true := by
    rw [hsz]
    have hl0 : news.length - 1 < news.length := by
     have : 0 < us.length * tie.sz := Nat.mul_pos hmpos hpos
     omega
    have := hn3 _ _ (List.getElem?_eq_getElem hl0)
    unfold World.cell? at this
    unfold Room.holdsV World.shape?
    cases hc : w.heap[bx]? with
    | none => simp [hc] at this
    | some ob =>
     cases ob with
     | cells cs ty fr =>
      simp [hc] at this
      have h2 := (Array.getElem?_eq_some_iff.1 this).1
      simp
      omega
     | _ => simp [hc] at this
   have hbi : 0 < i.bytes := by omega
   -- a new block
   have fresh : ∀ (ts' : List Tr) (olds : List Value) (cap : Nat) (zs : Array Value), RepL tb w S olds (ts'.flatMap Tr.cells) → (∀ t ∈ ts', t.cells.length = tie.sz) → ts'.length + us.length ≤ cap → (ts'.length + us.length) * tie.by_ ≤ 140737488355328 → zs.size = (cap - (ts'.length + us.length)) * tie.sz →
     ∀ h0, HR tb G w φ S h0 nx → AppR tb G w (w.drew.alloc (.cells (olds.toArray ++ news.toArray ++ zs) e)) φ (fun j => if j = nx then some w.heap.size else φ j) S h0 nx e none ts' us (.slice (some ⟨w.heap.size, 0, none⟩) (ts'.length + us.length) cap) := by
    intro ts' olds cap zs ho1 hz1 hle hcap hzs h0 hr0
    have hfr : Fr X0 w (w.drew.alloc (.cells (olds.toArray ++ news.toArray ++ zs) e)) := (fr_drew X0 w).trans (fr_alloc X0 w.drew _) fun _ _ h => h
    have hat : (w.drew.alloc (.cells (olds.toArray ++ news.toArray ++ zs) e)).heap[w.heap.size]? = some (.cells (olds.toArray ++ news.toArray ++ zs) e (0, 0)) := heap_alloc_at w.drew _
    have hφ : ∀ i c, φ i = some c → (if i = nx then some w.heap.size else φ i) = some c := fun i c hc => by
     rw [if_neg]; · exact hc
     ·intro e; subst e; rw [hr0.fr i (Nat.le_refl _)] at hc; cases hc
    have hkp := keeps_fr (S' := S) hr0 hfr (fun _ h => h) hφ
    have hRO : RepO tb (w.drew.alloc (.cells (olds.toArray ++ news.toArray ++ zs) e)) (fun j => if j = nx then some w.heap.size else φ j) S w.heap.size (.arr e ((ts' ++ us).map .t)) := by
     refine elems_append hte hat (vs1 := olds) (vs2 := news) ?_ ?_ hz1 hzx fun j v hv => ?_
     ·exact RepL.of_at ho1.length fun j v t hv ht => by
       obtain ⟨v', k1, k2⟩ := ho1.at j ht
       rw [hv] at k1; injection k1 with k1; subst k1
       exact k2.mono hkp.hw hkp.hS
     ·exact RepL.of_at hn1.length fun j v t hv ht => by
       obtain ⟨v', k1, k2⟩ := hn1.at j ht
       rw [hv] at k1; injection k1 with k1; subst k1
       exact k2.mono hkp.hw hkp.hS
     ·have hj : j < (olds ++ news).length := (List.getElem?_eq_some_iff.1 hv).1
      rw [← Array.getElem?_toList]
      simp only [Array.toList_append]
      rw [List.getElem?_append_left hj]
      exact hv
    have hszz : (0 + cap) * szOf tb e = (olds.toArray ++ news.toArray ++ zs).size := by
     have l1 : olds.length = ts'.length * tie.sz := by rw [ho1.length, flat_len hz1]
     have e1 : cap * tie.sz = (ts'.length + us.length) * tie.sz + (cap - (ts'.length + us.length)) * tie.sz := by rw [← Nat.add_mul]; congr 1; omega
     rw [szOf_eq hte, Nat.zero_add]
     simp only [Array.size_append, List.size_toArray]
     rw [l1, hn2, hzs, e1, Nat.add_mul]
    refine ⟨hkp, hr_new hr0 hfr (Nat.le_refl _) (by simp) hRO, NC.of_fr hfr, ?_⟩
    have := RepV.own (tb := tb) (w := w.drew.alloc (.cells (olds.toArray ++ news.toArray ++ zs) e)) (φ := fun j => if j = nx then some w.heap.size else φ j) (S := S) e nx 0 (ts'.length + us.length) w.heap.size cap _ (if_pos rfl) hle (by rw [byOf_eq hte]; exact hcap) hat hszz
    simpa using this
   generalize hsv : ρ s = sv at hs
   cases hs with
   | nil =>
    have hbig' : us.length * tie.by_ ≤ 140737488355328 := by simpa using hbig
    have hmb : us.length * i.bytes ≤ 281474976710656 := by rw [hib]; omega
    have hm63 : (us.length : Int) ≤ 9223372036854775807 := by
     have : us.length ≤ us.length * i.bytes := Nat.le_mul_of_pos_right _ hbi
     omega
    have hr2 := run_append_nil (P := P) w T o.type e i tie.zero.val hu hi (hz hzo) ⟨bx, px, none⟩ us.length cx news (by rw [hn2, hsz]) hnews hmpos hm63 hmb
    have hge := grownCap_ge w us.length 0 e
    refine ⟨_, _, fun j => if j = nx then some w.heap.size else φ j, exec_append ho hsv hxv hr2, ?_⟩
    have := fresh [] [] (grownCap w us.length 0 e) (Builtin.zeroCells tie.zero.val.cells (grownCap w us.length 0 e - us.length)) .nil (fun t ht => by simp at ht) (by simpa using hge) (by simpa using hbig) (by simp [Builtin.zeroCells, hzc]) h hr
    simpa using this
   | own id b c cs ts h1 h2 h3 h4 h5 h6 =>
    obtain ⟨b', j1, j2, j3, j4⟩ := hr.hh id _ h1
    rw [h2] at j1; injection j1 with j1; subst j1
    obtain ⟨olds, q1, q2, q3⟩ := row_vals hte j4
    have hzo1 := row_z hte j4
    have holds : ∀ j v, olds[j]? = some v → w.cell? ((⟨b, 0, none⟩ : Addr).add j) = some v := fun j v hv => by rw [add_eq, Nat.zero_add]; exact q3 j v hv
    rw [byOf_eq hte] at h4
    rw [szOf_eq hte] at h6
    by_cases hroom : ts.length + us.length ≤ c
    ·-- in place
     have hfit : 0 + ts.length * tie.sz + 0 + news.length ≤ cs.size := by
      rw [hn2, ← h6]
      have := Nat.mul_le_mul_right tie.sz hroom
      rw [Nat.add_mul] at this
      omega
     obtain ⟨w', cs', r1, r2, r3, r4, r5, r6, r7, r8⟩ := run_storeCells (P := P) (b := b) (o := ts.length * tie.sz) news 0 w cs h5 (by omega) hone
     have hcl : cs'.size = cs.size := by
      have := congrArg List.length r3
      simp only [List.length_append, List.length_take, List.length_drop, Array.length_toList] at this
      omega
     have hrun : (Builtin.append_ #[T, T] o.type #[.slice (some ⟨b, 0, none⟩) ts.length c, .slice (some ⟨bx, px, none⟩) us.length cx]).run P w = .ok (.slice (some ⟨b, 0, none⟩) (ts.length + us.length) c) w' := by
      have hf := run_firstCells_some (P := P) w i.size us.length ⟨bx, px, none⟩ us.length cx news (by rw [hn2, hsz]) hnews
      rw [hsz] at hf
      simp [Builtin.append_, run_underlying hu, sizeOf, typeInfo, hi, Builtin.lenOf, hroom, hf, hsz, add_eq, r1]
     have holdl : olds.length ≤ cs.size := by rw [q2, ← h6]; exact Nat.mul_le_mul_right _ h3
     obtain ⟨p1, p2, p3⟩ := hr_write (w' := w') (l' := (ts ++ us).map .t) hr h1 h2 h5 r2 hcl r4 r5 r6 r7 r8 fun hk => by
      refine elems_append hte r2 (vs1 := olds) (vs2 := news) ?_ ?_ hzo1 hzx fun j v hv => ?_
      ·exact RepL.of_at q1.length fun j v t hv ht => by
        obtain ⟨v', k1, k2⟩ := q1.at j ht
        rw [hv] at k1; injection k1 with k1; subst k1
        exact k2.mono hk.hw hk.hS
      ·exact RepL.of_at hn1.length fun j v t hv ht => by
        obtain ⟨v', k1, k2⟩ := hn1.at j ht
        rw [hv] at k1; injection k1 with k1; subst k1
        exact k2.mono hk.hw hk.hS
      ·rw [← Array.getElem?_toList, r3, Nat.add_zero]
       by_cases hj : j < olds.length
       ·rw [List.getElem?_append_left hj] at hv
        rw [List.append_assoc, List.getElem?_append_left (by simp only [List.length_take, Array.length_toList]; omega), List.getElem?_take_of_lt (by omega)]
        have := q3 j v hv
        simp only [World.cell?, h5] at this
        simpa using this
       ·have hv0 := hv
        rw [List.getElem?_append_right (by omega)] at hv
        have hjn := (List.getElem?_eq_some_iff.1 hv).1
        rw [List.append_assoc, List.getElem?_append_right (by simp only [List.length_take, Array.length_toList]; omega), List.getElem?_append_left (by simp only [List.length_take, Array.length_toList]; omega)]
        rw [← hv]; congr 1
        simp only [List.length_take, Array.length_toList]; omega
     have hid' : get ((id, some (Obj.arr e ((ts ++ us).map .t))) :: h) id = some (some (.arr e ((ts ++ us).map .t))) := by rw [get_cons, if_pos rfl]
     obtain ⟨s1, s2⟩ := hr_rename p2 hid' h2
     have hr3 : HR tb G w' (fun i => if i = nx then some b else φ i) S ((nx, some (.arr e ((ts ++ us).map .t))) :: (id, none) :: h) (nx + 1) := by
      refine ⟨fun i' o' ho' => s1.hh i' o' ?_, fun i' j' c' hi' hj' => s1.inj i' j' c' ?_ ?_, s1.fr, s1.φlt, s1.φX, s1.Slt, s1.SS, s1.Snew, s1.frame⟩
      ·simp only [get_cons] at ho' ⊢; split <;> simp_all
      ·obtain ⟨o', ho'⟩ := hi'; refine ⟨o', ?_⟩; simp only [get_cons] at ho' ⊢; split <;> simp_all
      ·obtain ⟨o', ho'⟩ := hj'; refine ⟨o', ?_⟩; simp only [get_cons] at ho' ⊢; split <;> simp_all
     refine ⟨_, w', _, exec_append ho hsv hxv hrun, p1.trans s2, hr3, p3, ?_⟩
     have := RepV.own (tb := tb) (w := w') (φ := fun i => if i = nx then some b else φ i) (S := S) e nx 0 (ts.length + us.length) b c cs' (if_pos rfl) hroom (by rw [byOf_eq hte]; exact hbig) r2 (by rw [Nat.zero_add, szOf_eq hte, h6, hcl])
     simpa using this
    ·have hp : Builtin.nextslicecap (ts.length + us.length) c * i.bytes ≤ 281474976710656 := growslice_fits (by omega) (by rw [hib]; exact hbig)
     have h63 : ((ts.length + us.length : Nat) : Int) ≤ 9223372036854775807 := by
      have : ts.length + us.length ≤ (ts.length + us.length) * tie.by_ := Nat.le_mul_of_pos_right _ hby
      omega
     have hr2 := run_append_grow (P := P) w T o.type e i tie.zero.val hu hi (hz hzo) ⟨b, 0, none⟩ ts.length c olds (by rw [q2, hsz]) holds ⟨bx, px, none⟩ us.length cx news (by rw [hn2, hsz]) hnews (by omega) h63 hp
     have hge := grownCap_ge w (ts.length + us.length) c e
     refine ⟨_, _, fun j => if j = nx then some w.heap.size else φ j, exec_append ho hsv hxv hr2, ?_⟩
     have := fresh ts olds (grownCap w (ts.length + us.length) c e) (Builtin.zeroCells tie.zero.val.cells (grownCap w (ts.length + us.length) c e - (ts.length + us.length))) q1 hzo1 hge hbig (by simp [Builtin.zeroCells, hzc]) _ (hr_kill hr id)
     exact ⟨this.keeps, this.hr, this.nc, this.v⟩
theorem ok_copy {T T2 e id off len : Nat} {ti tie : TI} {s x : Operand} {l : List AV} {us : List Tr} (hT : TabOk P tb) (hr : HR tb G w φ S h nx) (hg : ∀ x v, g x = some v → RepV tb w φ S (ρ x) v) (ho : o.op = .call { callee := .builtin .copy, args := #[s, x], argTypes := #[T, T2] })
    (ht : get tb T = some ti) (hd : ti.d = .slice e) (hte : get tb e = some tie) (hs : g s = some (.own e id off len)) (hid : get h id = some (some (.arr e l))) (hin : off + len ≤ l.length) (hx : RepT tb w S (ρ x) (.sl e us)) (hfl : (us.all Tr.flat) = true)
    (hN : After tb G w φ S N (.t (.i .i64 (min us.length len : Nat))) ((id, some (.arr e (l.take off ++ (us.take len).map .t ++ l.drop (off + min us.length len)))) :: h) nx) : UponU P N ((execOp ρ o).run P w) := by
  obtain ⟨b, c, cs, k1, k2, k3, k4, k5, k6⟩ := own_of (hg _ _ hs)
  obtain ⟨b', j1, j2, j3, ⟨cs0, hcs0⟩, j5⟩ := hr.hh id _ hid
  rw [k1] at j1; injection j1 with j1; subst j1
  have hse := szOf_eq hte
  rw [hse] at k2 k6 j5
  have hu := (hT _ _ ht).slice hd
  have hsz := (hT _ _ hte).sizeOf (w := w)
  obtain ⟨ax, cx, hxv, hx1, hx2, hx3⟩ := sl_of hx
  obtain ⟨n, hn⟩ : ∃ n, n = min us.length len := ⟨_, rfl⟩
  -- the cells that are copied
  obtain ⟨news, q1, q2, q3⟩ : ∃ news : List Value, RepL tb w S news ((us.take n).flatMap Tr.cells) ∧ news.length = n * tie.sz ∧ (Builtin.firstCells tie.sz n (.slice ax us.length cx)).run P w = .ok news.toArray w := by
    rcases hx3 with hx3 | ⟨bx, px, rfl, hbx, hes⟩
    · subst hx3
      have hn0 : n = 0 := by simp at hn; omega
      subst hn0
      refine ⟨[], by simpa using RepL.nil, by simp, ?_⟩
      cases ax with
      | none => simp [Builtin.firstCells]
      | some a => simp [Builtin.firstCells, loadCells, loadCellsFrom]
    · obtain ⟨news, h1, h2, h3⟩ := (hes.take n).vals
      have hl : (us.take n).length = n := by simp; omega
      rw [hl, hse] at h2
      exact ⟨news, h1, h2, run_firstCells_some (P := P) w tie.sz n ⟨bx, px, none⟩ us.length cx news h2 fun j v hv => by rw [add_eq]; exact h3 j v hv⟩
  have hone : ∀ u ∈ news, u.oneCell' = true := repL_one q1 (flat_cells (by rw [List.all_eq_true] at hfl ⊢; intro t ht; exact hfl t (List.mem_of_mem_take ht)))
  have hzx : ∀ t ∈ us.take n, t.cells.length = tie.sz := fun t ht => by
    rcases hx3 with hx3 | ⟨bx, px, rfl, hbx, hes⟩
    · subst hx3; simp at ht
    · obtain ⟨j, hj⟩ := List.mem_iff_getElem?.1 (List.mem_of_mem_take ht)
      have := hes.at j hj; rw [hse] at this; exact this.1
  have hfit : off * tie.sz + 0 + news.length ≤ cs.size := by
    rw [q2, ← k6, Nat.add_zero, ← Nat.add_mul]
    exact Nat.mul_le_mul_right _ (by omega)
  obtain ⟨w', cs', r1, r2, r3, r4, r5, r6, r7, r8⟩ := run_storeCells (P := P) (b := b) (o := off * tie.sz) news 0 w cs k5 hfit hone
  have hcl : cs'.size = cs.size := by
    have := congrArg List.length r3
    simp only [List.length_append, List.length_take, List.length_drop, Array.length_toList] at this
    omega
  have hcell : ∀ j, w'.cell? ⟨b, j, none⟩ = cs'[j]? := fun j => by simp [World.cell?, r2]
  have hcell0 : ∀ j, w.cell? ⟨b, j, none⟩ = cs[j]? := fun j => by simp [World.cell?, k5]
  have hsame : ∀ j, (j < off * tie.sz ∨ off * tie.sz + n * tie.sz ≤ j) → w'.cell? ⟨b, j, none⟩ = w.cell? ⟨b, j, none⟩ := by
    intro j hj
    rw [hcell, hcell0, ← Array.getElem?_toList, ← Array.getElem?_toList, r3, Nat.add_zero, q2]
    rcases hj with hj | hj
    · rw [List.append_assoc, List.getElem?_append_left (by simp only [List.length_take, Array.length_toList]; omega), List.getElem?_take_of_lt hj]
    · by_cases hjs : j < cs.size
      · rw [List.getElem?_append_right (by simp only [List.length_append, List.length_take, Array.length_toList]; omega), List.getElem?_drop]
        congr 1
        simp only [List.length_append, List.length_take, Array.length_toList]; omega
      · rw [List.getElem?_eq_none (by simp only [List.length_append, List.length_take, List.length_drop, Array.length_toList]; omega), List.getElem?_eq_none (by simp; omega)]
  have hval : ∀ j, j < n * tie.sz → w'.cell? ⟨b, off * tie.sz + j, none⟩ = news[j]? := by
    intro j hj
    rw [hcell, ← Array.getElem?_toList, r3, Nat.add_zero, List.append_assoc, List.getElem?_append_right (by simp only [List.length_take, Array.length_toList]; omega), List.getElem?_append_left (by simp only [List.length_take, Array.length_toList]; omega)]
    congr 1
    simp only [List.length_take, Array.length_toList]; omega
  have hut : us.take len = us.take n := by rw [hn]; by_cases h : us.length ≤ len
                                           · rw [Nat.min_eq_left h, List.take_of_length_le h, List.take_length]
                                           · rw [Nat.min_eq_right (by omega)]
  rw [hut, ← hn] at hN
  obtain ⟨p1, p2, p3⟩ := hr_write (w' := w') (l' := l.take off ++ (us.take n).map .t ++ l.drop (off + n)) hr hid k1 k5 r2 hcl r4 r5 r6 r7 r8 fun hk => by
    refine ⟨⟨cs', r2⟩, fun i a ha => ?_⟩
    rw [hse]
    have hl1 : (l.take off).length = off := by simp; omega
    have hl2 : ((us.take n).map AV.t).length = n := by simp; omega
    by_cases hi1 : i < off
    · rw [List.append_assoc, List.getElem?_append_left (by omega), List.getElem?_take_of_lt hi1] at ha
      refine (j5 i a ha).mono hk fun j hj => hsame _ (.inl ?_)
      have : (i + 1) * tie.sz ≤ off * tie.sz := Nat.mul_le_mul_right _ hi1
      rw [Nat.add_mul] at this; omega
    · by_cases hi2 : i < off + n
      · rw [List.append_assoc, List.getElem?_append_right (by omega), List.getElem?_append_left (by omega), hl1, List.getElem?_map] at ha
        obtain ⟨t, ht', rfl⟩ := Option.map_eq_some_iff.1 ha
        have htz := hzx t (List.mem_of_getElem? ht')
        refine .t _ htz (.of_at fun j u hu' => ?_)
        have hj : j < tie.sz := by rw [← htz]; exact (List.getElem?_eq_some_iff.1 hu').1
        have hat := flat_at hzx (i - off) ht' j hj
        rw [hu'] at hat
        obtain ⟨v, h3, h4⟩ := q1.at _ hat
        refine ⟨v, ?_, h4.mono hk.hw hk.hS⟩
        have hlt : (i - off) * tie.sz + j < n * tie.sz := by
          have : (i - off + 1) * tie.sz ≤ n * tie.sz := Nat.mul_le_mul_right _ (by omega)
          rw [Nat.add_mul] at this; omega
        have e1 : i * tie.sz + j = off * tie.sz + ((i - off) * tie.sz + j) := by
          have : i * tie.sz = off * tie.sz + (i - off) * tie.sz := by rw [← Nat.add_mul]; congr 1; omega
          omega
        rw [e1, hval _ hlt]; exact h3
      · rw [List.getElem?_append_right (by simp only [List.length_append]; omega), List.getElem?_drop] at ha
        have e1 : off + n + (i - (l.take off ++ (us.take n).map AV.t).length) = i := by simp only [List.length_append]; omega
        rw [e1] at ha
        refine (j5 i a ha).mono hk fun j hj => hsame _ (.inr ?_)
        have : (off + n) * tie.sz ≤ i * tie.sz := Nat.mul_le_mul_right _ (by omega)
        rw [Nat.add_mul] at this; omega
  have hrun : (Builtin.copy_ #[T, T2] o.type #[.slice (some ⟨b, off * tie.sz, none⟩) len c, .slice ax us.length cx]).run P w = .ok (.int .i64 n) w' := by
    have hmin : Nat.min us.length len = n := hn.symm
    simp [Builtin.copy_, run_underlying hu, Builtin.lenOf, hsz, ← hn, q3, r1, goInt]
  obtain ⟨cc, hcc⟩ := builtin_run (P := P) (w := w) (ρ := ρ) ho
  have hexec : (execOp ρ o).run P w = .ok (.value (.int .i64 n)) w' := by
    rw [hcc]
    simp [builtin, k2, hxv, hrun]
  rw [hexec]
  exact hN _ w' φ S p1 p2 p3 (.t _ _ (.i _ _))
end
mutual
def AV.lt (n : Nat) : AV → Bool
 | .own _ id _ _ => Nat.blt id n
 | .ptr _ id _ _ => Nat.blt id n
 | .yld id => Nat.blt id n
 | .clo _ l => AV.lts n l
 | .tu l => AV.lts n l
 | _ => true
def AV.lts (n : Nat) : List AV → Bool
 | [] => true
 | a :: l => AV.lt n a && AV.lts n l
end
def slLt (n : Nat) : Slots → Bool
 | [] => true
 | (_, v) :: r => AV.lt n v && slLt n r
theorem slLt.spec {n : Nat} {sl : Slots} (h : slLt n sl = true) : ∀ d v, get sl d = some v → AV.lt n v = true := by
 induction sl with
 | nil => intro d v hv; simp [get] at hv
 | cons p r ih =>
  obtain ⟨k, u⟩ := p
  simp only [slLt, Bool.and_eq_true] at h
  intro d v hv
  rw [get_cons] at hv
  split at hv
  ·injection hv with hv; subst hv; exact h.1
  ·exact ih h.2 d v hv
def Obj.lt (n : Nat) : Obj → Prop
 | .arr _ l => ∀ a ∈ l, AV.lt n a = true
 | .loop sl _ _ _ _ _ _ => slLt n sl = true
mutual
def AV.ren (r : Nat → Nat) : AV → AV
 | .own e id off len => .own e (r id) off len
 | .ptr e id idx off => .ptr e (r id) idx off
 | .clo f l => .clo f (AV.rens r l)
 | .tu l => .tu (AV.rens r l)
 | .t x => .t x
 | .nilS => .nilS
 | .yld id => .yld (r id)
 | .unk => .unk
def AV.rens (r : Nat → Nat) : List AV → List AV
 | [] => []
 | a :: l => a.ren r :: AV.rens r l
end
def Obj.ren (r : Nat → Nat) : Obj → Obj
 | .arr e l => .arr e (l.map (AV.ren r))
 | .loop sl ps asg body nt st pend => .loop (sl.map fun p => (p.1, p.2.ren r)) ps asg body nt st pend
theorem get_ren (r : Nat → Nat) (sl : Slots) (d : Nat) : get (sl.map fun p => (p.1, p.2.ren r)) d = (get sl d).map (AV.ren r) := by
 induction sl with
 | nil => rfl
 | cons p sl ih =>
  obtain ⟨k, v⟩ := p
  rw [List.map_cons, get_cons, get_cons, ih]
  split <;> rfl
theorem ren_t {r : Nat → Nat} {e : TypeId} {ts : List Tr} : (Obj.arr e (ts.map .t)).ren r = .arr e (ts.map .t) := by
 simp [Obj.ren, AV.ren]
theorem ren_c {r : Nat → Nat} {e : TypeId} {x : Tr} : (Obj.arr e [.t x]).ren r = .arr e [.t x] := rfl
theorem ren_not_t {r : Nat → Nat} {a : AV} (h : ∀ t, a ≠ .t t) : ∀ t, a.ren r ≠ .t t := by
 intro t e
 cases a <;> simp [AV.ren] at e
 exact h _ rfl
theorem ren_not_t' {r : Nat → Nat} {a : AV} (h : ∀ t, a.ren r ≠ .t t) : ∀ t, a ≠ .t t := by
 rintro t rfl; exact h t rfl
section
variable {P : Program} {tb : Tab} {G : Gh} {w : World} {φ φ2 : Phi} {S : Nat → Prop} {N : Value → World → Prop} {ρ : Operand → Value} {o : Oper} {h : Heap} {nx : Nat} {g : Operand → Option AV} {r : Nat → Nat}
mutual
theorem RepV.back {k : Nat} (hφ : ∀ i b, i < k → φ (r i) = some b → φ2 i = some b) : ∀ {v : Value} (a : AV), RepV tb w φ S v (a.ren r) → AV.lt k a = true → RepV tb w φ2 S v a
 | _, .t t, h, _ => by simp only [AV.ren] at h; exact .t _ _ (repT_of h)
 | _, .nilS, h, _ => by simp only [AV.ren] at h; cases h; exact .nilS
 | _, .own e id off len, h, hl => by
  simp only [AV.ren] at h
  cases h with
  | own e id' off len b c cs h1 h2 h3 h4 h5 => exact .own e id off len b c cs (hφ _ _ (Nat.le_of_ble_eq_true hl) h1) h2 h3 h4 h5
 | _, .ptr e id idx off, h, hl => by
  simp only [AV.ren] at h
  cases h with
  | ptr e id' idx off b h1 => exact .ptr e id idx off b (hφ _ _ (Nat.le_of_ble_eq_true hl) h1)
 | _, .clo f l, h, hl => by
  simp only [AV.ren] at h
  cases h with
  | clo f vs l' h1 => exact .clo f vs l (RepVs.back hφ l h1 hl)
 | _, .tu l, h, hl => by
  simp only [AV.ren] at h
  cases h with
  | tu vs l' h1 => exact .tu vs l (RepVs.back hφ l h1 hl)
 | _, .yld id, h, hl => by
  simp only [AV.ren] at h
  cases h with
  | yld id' b h1 => exact .yld id b (hφ _ _ (Nat.le_of_ble_eq_true hl) h1)
 | _, .unk, _, _ => .unk _
theorem RepVs.back {k : Nat} (hφ : ∀ i b, i < k → φ (r i) = some b → φ2 i = some b) : ∀ {vs : List Value} (l : List AV), RepVs tb w φ S vs (AV.rens r l) → AV.lts k l = true → RepVs tb w φ2 S vs l
 | _, [], h, _ => by simp only [AV.rens] at h; cases h; exact .nil
 | _, a :: l, h, hl => by
  simp only [AV.rens] at h
  simp only [AV.lts, Bool.and_eq_true] at hl
  cases h with
  | cons v t vs l' h1 h2 => exact .cons v a vs l (RepV.back hφ a h1 hl.1) (RepVs.back hφ l h2 hl.2)
end
mutual
theorem RepV.fwd (hφ : ∀ i b, φ i = some b → φ2 (r i) = some b) : ∀ {v : Value} {a : AV}, RepV tb w φ S v a → RepV tb w φ2 S v (a.ren r)
 | _, _, .t v t h => .t v t h
 | _, _, .nilS => .nilS
 | _, _, .own e id off len b c cs h1 h2 h3 h4 h5 => .own e (r id) off len b c cs (hφ _ _ h1) h2 h3 h4 h5
 | _, _, .ptr e id idx off b h1 => .ptr e (r id) idx off b (hφ _ _ h1)
 | _, _, .clo f vs l h => .clo f vs (AV.rens r l) (RepVs.fwd hφ h)
 | _, _, .tu vs l h => .tu vs (AV.rens r l) (RepVs.fwd hφ h)
 | _, _, .yld id b h1 => .yld (r id) b (hφ _ _ h1)
 | _, _, .unk v => .unk v
theorem RepVs.fwd (hφ : ∀ i b, φ i = some b → φ2 (r i) = some b) : ∀ {vs : List Value} {l : List AV}, RepVs tb w φ S vs l → RepVs tb w φ2 S vs (AV.rens r l)
 | _, _, .nil => .nil
 | _, _, .cons v t vs l h1 h2 => .cons v (t.ren r) vs (AV.rens r l) (RepV.fwd hφ h1) (RepVs.fwd hφ h2)
end
theorem RepO.back {k b : Nat} (hφ : ∀ i b, i < k → φ (r i) = some b → φ2 i = some b) {ob : Obj} (h : RepO tb w φ S b (ob.ren r)) (hl : ob.lt k) : RepO tb w φ2 S b ob := by
 cases ob with
 | arr e l =>
  refine ⟨h.1, fun i a ha => ?_⟩
  have hla := hl a (List.mem_of_getElem? ha)
  have := h.2 i (a.ren r) (by rw [List.getElem?_map, ha]; rfl)
  generalize hb : a.ren r = a' at this
  cases this with
  | t t h1 h2 => cases a <;> simp [AV.ren] at hb; subst hb; exact .t _ h1 h2
  | v v a' h1 h2 h3 h4 => subst hb; exact .v v a h1 (ren_not_t' h2) h3 (RepV.back hφ a h4 hla)
 | loop sl ps asg body nt st pend =>
  obtain ⟨fn, tmps, D, h1, h2, h3⟩ := h
  exact ⟨fn, tmps, D, h1, h2, fun d v hv => RepV.back hφ v (h3 d (v.ren r) (by rw [get_ren, hv]; rfl)) (slLt.spec hl d v hv)⟩
theorem RepO.fwd {b : Nat} (hφ : ∀ i b, φ i = some b → φ2 (r i) = some b) {ob : Obj} (h : RepO tb w φ S b ob) : RepO tb w φ2 S b (ob.ren r) := by
 cases ob with
 | arr e l =>
  refine ⟨h.1, fun i a ha => ?_⟩
  rw [List.getElem?_map] at ha
  obtain ⟨a', h1, h2⟩ := Option.map_eq_some_iff.1 ha
  subst h2
  cases h.2 i a' h1 with
  | t t k1 k2 => exact .t t k1 k2
  | v v a k1 k2 k3 k4 => exact .v v _ k1 (ren_not_t k2) k3 (k4.fwd hφ)
 | loop sl ps asg body nt st pend =>
  obtain ⟨fn, tmps, D, h1, h2, h3⟩ := h
  refine ⟨fn, tmps, D, h1, h2, fun d v hv => ?_⟩
  rw [get_ren] at hv
  obtain ⟨u, h4, h5⟩ := Option.map_eq_some_iff.1 hv
  subst h5
  exact (h3 d u h4).fwd hφ
def mkH : Nat → List Obj → Heap
 | _, [] => []
 | i, o :: os => (i, some o) :: mkH (i + 1) os
theorem get_mkH : ∀ (l : List Obj) (i j : Nat), get (mkH i l) j = if i ≤ j then (l[j - i]?).map some else none
 | [], i, j => by simp [mkH, get]
 | o :: l, i, j => by
  simp only [mkH, get_cons, get_mkH l (i + 1) j]
  by_cases h1 : i = j
  ·subst h1; simp
  ·by_cases h2 : i ≤ j
   ·rw [if_neg h1, if_pos (by omega), if_pos h2]
    have : j - i = (j - (i + 1)) + 1 := by omega
    rw [this]; simp
   ·rw [if_neg h1, if_neg (by omega), if_neg h2]
def calleeG (w : World) (φ : Phi) (S : Nat → Prop) : Gh := ⟨w, S, fun b => ∃ i, φ i = some b, 0, 0, fun _ => none, fun _ _ h => by cases h⟩
def FnH (P : Program) (tb : Tab) (f : FuncId) (args : List AV) (objs : List Obj) (t : AV) (h1 : Heap) (k1 : Nat) : Prop :=
 ∀ (w : World) (φ : Phi) (S : Nat → Prop) (vs : Array Value) (N : Value → World → Prop), RepVs tb w φ S vs.toList args → HR tb (calleeG w φ S) w φ S (mkH 0 objs) objs.length →
  After tb (calleeG w φ S) w φ S N t h1 k1 → UponU P N ((callFunc f vs).run P w)
def rn (ids : List Nat) (nx i : Nat) : Nat := match ids[i]? with
 | some j => j
 | none => nx + (i - ids.length)
def ObjsIn (h : Heap) (r : Nat → Nat) : List Nat → List Obj → Prop
 | [], [] => True
 | i :: is, o :: os => (∃ o', get h i = some (some o') ∧ o.ren r = o') ∧ ObjsIn h r is os
 | _, _ => False
theorem ObjsIn.at : ∀ {ids : List Nat} {os : List Obj}, ObjsIn h r ids os → ∀ (i : Nat) (ob : Obj), os[i]? = some ob → ∃ j, ids[i]? = some j ∧ get h j = some (some (ob.ren r))
 | [], [], _, i, ob, h => by simp at h
 | j :: is, o :: os, hin, i, ob, h => by
  cases i with
  | zero => simp at h; subst h; obtain ⟨o', h1, h2⟩ := hin.1; exact ⟨j, rfl, by rw [h2]; exact h1⟩
  | succ i => simpa using ObjsIn.at hin.2 i ob (by simpa using h)
 | [], _ :: _, hin, _, _, _ => hin.elim
 | _ :: _, [], hin, _, _, _ => hin.elim
def Outs (r : Nat → Nat) : Heap → Heap → Prop
 | [], [] => True
 | (i, none) :: a, (j, none) :: b => j = r i ∧ Outs r a b
 | (i, some o) :: a, (j, some o') :: b => j = r i ∧ o.ren r = o' ∧ Outs r a b
 | _, _ => False
theorem Outs.eq : ∀ {a b : Heap}, Outs r a b → b = a.map fun p => (r p.1, p.2.map (Obj.ren r))
 | [], [], _ => rfl
 | (i, none) :: a, (j, none) :: b, h => by rw [h.1, Outs.eq h.2]; rfl
 | (i, some o) :: a, (j, some o') :: b, h => by rw [h.1, ← h.2.1, Outs.eq h.2.2]; rfl
 | [], _ :: _, h => h.elim
 | (_, none) :: _, [], h => h.elim
 | (_, some _) :: _, [], h => h.elim
 | (_, none) :: _, (_, some _) :: _, h => h.elim
 | (_, some _) :: _, (_, none) :: _, h => h.elim
theorem get_map_inj {k : Nat} (hinj : ∀ i j, r i = r j → i = j) : ∀ (a : Heap) (i : Nat), get (a.map fun p => (r p.1, p.2.map (Obj.ren r))) (r i) = (get a i).map (·.map (Obj.ren r))
 | [], i => rfl
 | (j, x) :: a, i => by
  simp only [List.map_cons, get_cons, get_map_inj (k := k) hinj a i]
  by_cases hj : j = i
  ·subst hj; simp
  ·rw [if_neg hj, if_neg fun e => hj (hinj _ _ e)]
theorem get_map_some : ∀ (a : Heap) (j : Nat) (x : Option Obj), get (a.map fun p => (r p.1, p.2.map (Obj.ren r))) j = some x → ∃ i, j = r i
 | [], j, x, h => by simp [get] at h
 | (i, y) :: a, j, x, h => by
  rw [List.map_cons, get_cons] at h
  split at h
  ·rename_i e; exact ⟨i, e.symm⟩
  ·exact get_map_some a j x h
theorem get_append (a b : Heap) (j : Nat) : get (a ++ b) j = (get a j).or (get b j) := by
 induction a with
 | nil => simp [get]
 | cons p a ih =>
  obtain ⟨i, x⟩ := p
  rw [List.cons_append, get_cons, get_cons]
  split
  ·simp
  ·exact ih
def IsFn (v : Option AV) (f : FuncId) (caps : List AV) : Prop := v = some (.clo f caps) ∨ ∃ ts, v = some (.t (.fn f ts)) ∧ caps = ts.map .t
def AsAV (g : Operand → Option AV) (x : Operand) (v : AV) : Prop := g x = some v ∨ (g x = some .nilS ∧ ∃ e, v = .t (.sl e []))
def AsAVN (g : Operand → Option AV) : List Operand → List AV → Prop
 | [], [] => True
 | x :: xs, v :: vs => AsAV g x v ∧ AsAVN g xs vs
 | _, _ => False
theorem AsAVN.rep (hg : ∀ x v, g x = some v → RepV tb w φ S (ρ x) v) : ∀ {xs : List Operand} {vs : List AV}, AsAVN g xs vs → RepVs tb w φ S (xs.map ρ) vs
 | [], [], _ => .nil
 | x :: xs, v :: vs, h => by
  refine .cons _ _ _ _ ?_ (AsAVN.rep hg h.2)
  rcases h.1 with h1 | ⟨h1, e, rfl⟩
  ·exact hg _ _ h1
  ·exact .t _ _ (AsTr.rep hg (.inr ⟨h1, e, rfl⟩))
 | [], _ :: _, h => h.elim
 | _ :: _, [], h => h.elim
theorem RepVs.append {vs us : List Value} {l m : List AV} (h : RepVs tb w φ S vs l) (k : RepVs tb w φ S us m) : RepVs tb w φ S (vs ++ us) (l ++ m) := by
 induction l generalizing vs with
 | nil => cases h; simpa using k
 | cons t l ih => cases h with | cons v t vs l h1 h2 => exact .cons _ _ _ _ h1 (ih h2)
theorem RepL.vs {vs : List Value} {l : List Tr} (h : RepL tb w S vs l) : RepVs tb w φ S vs (l.map .t) := by
 induction l generalizing vs with
 | nil => cases h; exact .nil
 | cons t l ih => cases h with | cons v t vs l h1 h2 => exact .cons _ _ _ _ (.t _ _ h1) (ih h2)
theorem IsFn.rep {f : FuncId} {caps : List AV} {v : Value} {x : AV} (h : IsFn (some x) f caps) (hv : RepV tb w φ S v x) : ∃ vs, v = .func (.func f) #[] vs.toArray ∧ RepVs tb w φ S vs caps := by
 rcases h with h | ⟨ts, h, rfl⟩
 ·injection h with h; subst h
  cases hv with | clo f vs l h => exact ⟨vs, rfl, h⟩
 ·injection h with h; subst h
  obtain ⟨vs, h1, h2⟩ := fn_of hv
  exact ⟨vs, h1, h2.vs⟩
theorem ok_callH {f : FuncId} {fx : Operand} {args : Array Operand} {tys : Array TypeId} {caps avs cargs : List AV} {objs : List Obj} {ids : List Nat} {t : AV} {h1 h1' : Heap} {k1 : Nat} (hr : HR tb G w φ S h nx) (hg : ∀ x v, g x = some v → RepV tb w φ S (ρ x) v)
  (ho : o.op = .call { callee := .value fx, args := args, argTypes := tys }) (hf : IsFn (g fx) f caps) (hx : AsAVN g args.toList avs) (hren : avs ++ caps = AV.rens (rn ids nx) cargs) (hlt : AV.lts objs.length cargs = true) (hl : ids.length = objs.length) (hnd : ids.Nodup)
  (hin : ObjsIn h (rn ids nx) ids objs) (holt : ∀ ob ∈ objs, ob.lt objs.length) (hF : FnH P tb f cargs objs t h1 k1) (hcov : ∀ i, i < objs.length → ∃ x, get h1 i = some x) (hout : Outs (rn ids nx) h1 h1') (hk1 : objs.length ≤ k1)
  (hN : After tb G w φ S N (t.ren (rn ids nx)) (h1' ++ h) (nx + (k1 - objs.length))) : UponU P N ((execOp ρ o).run P w) := by
 obtain ⟨x, hxf⟩ : ∃ x, g fx = some x := by rcases hf with h | ⟨ts, h, _⟩ <;> exact ⟨_, h⟩
 rw [hxf] at hf
 obtain ⟨cvs, hfv, hcv⟩ := hf.rep (hg _ _ hxf)
 have hrun : (execOp ρ o).run P w = (callFunc f (args.map ρ ++ cvs.toArray)).run P w := by
  simp [execOp, ho, resolve, hfv, Deferred.ofValue, invoke]
 rw [hrun]
 let k := objs.length
 let φc : Phi := fun i => (ids[i]?).bind φ
 have hat : ∀ i, i < k → ∃ j ob b, ids[i]? = some j ∧ objs[i]? = some ob ∧ get h j = some (some (ob.ren (rn ids nx))) ∧ φ j = some b ∧ b < w.heap.size ∧ ¬ S b ∧ RepO tb w φ S b (ob.ren (rn ids nx)) := fun i hi => by
  have h2 : objs[i]? = some objs[i] := List.getElem?_eq_getElem hi
  obtain ⟨j, h3, h4⟩ := hin.at i _ h2
  obtain ⟨b, h5, h6, h7, h8⟩ := hr.hh j _ h4
  exact ⟨j, _, b, h3, h2, h4, h5, h6, h7, h8⟩
 have hφc : ∀ i b, φc i = some b → i < k ∧ φ (rn ids nx i) = some b := fun i b hb => by
  obtain ⟨j, h2, h3⟩ := Option.bind_eq_some_iff.1 hb
  have : i < ids.length := (List.getElem?_eq_some_iff.1 h2).1
  exact ⟨by omega, by simp only [rn, h2]; exact h3⟩
 have hback : ∀ i b, i < k → φ (rn ids nx i) = some b → φc i = some b := fun i b hi hb => by
  obtain ⟨j, ob, _, h2, _⟩ := hat i hi
  simp only [rn, h2] at hb
  simp only [φc, h2]; exact hb
 have hrinj : ∀ i j, i < k → j < k → rn ids nx i = rn ids nx j → i = j := fun i j hi hj he => by
  obtain ⟨a, _, _, h2, _⟩ := hat i hi
  obtain ⟨c, _, _, h3, _⟩ := hat j hj
  simp only [rn, h2, h3] at he
  subst he
  exact (List.getElem?_inj (by omega) hnd).1 (h2.trans h3.symm)
 have hrlt : ∀ i, i < k → rn ids nx i < nx := fun i hi => by
  obtain ⟨j, _, b, h2, _, _, h3, _⟩ := hat i hi
  simp only [rn, h2]
  by_cases hj : j < nx
  ·exact hj
  ·rw [hr.fr j (by omega)] at h3; cases h3
 have hrge : ∀ i, k ≤ i → rn ids nx i = nx + (i - k) := fun i hi => by
  simp only [rn, List.getElem?_eq_none (show ids.length ≤ i by omega), hl]; rfl
 have hrall : ∀ i j, rn ids nx i = rn ids nx j → i = j := fun i j he => by
  by_cases hi : i < k <;> by_cases hj : j < k
  ·exact hrinj i j hi hj he
  ·have := hrlt i hi; rw [he, hrge j (by omega)] at this; omega
  ·have := hrlt j hj; rw [← he, hrge i (by omega)] at this; omega
  ·rw [hrge i (by omega), hrge j (by omega)] at he; omega
 have hvis : ∀ i, i < k → Vis h (rn ids nx i) := fun i hi => by
  obtain ⟨j, ob, _, h2, _, h4, _⟩ := hat i hi
  simp only [rn, h2]; exact ⟨_, h4⟩
 have hrepc : RepVs tb w φc S (args.map ρ ++ cvs.toArray).toList cargs := by
  have h2 := (hx.rep hg).append hcv
  rw [hren] at h2
  have h3 := RepVs.back (k := k) hback cargs h2 hlt
  simpa using h3
 refine hF w φc S _ N hrepc ⟨fun id ob hob => ?_, fun i j b hi hj h2 h3 => ?_, fun i hi => ?_, fun i b hb => hr.φlt _ b (hφc i b hb).2, fun i b hb => .inl ⟨i, hb⟩, hr.Slt, fun _ h => h, fun _ h => .inl h, Fr.refl _ _⟩ ?_
 ·rw [get_mkH] at hob
  simp only [Nat.zero_le, if_true, Nat.sub_zero] at hob
  have hob' : objs[id]? = some ob := by
   cases hq : objs[id]? with
   | none => rw [hq] at hob; cases hob
   | some q => rw [hq] at hob; simp at hob; rw [hob]
  have hid : id < k := (List.getElem?_eq_some_iff.1 hob').1
  obtain ⟨j, ob2, b, h2, h3, h4, h5, h6, h7, h8⟩ := hat id hid
  rw [hob'] at h3; injection h3 with h3; subst h3
  exact ⟨b, hback id b hid (by simp only [rn, h2]; exact h5), h6, h7, RepO.back hback h8 (holt _ (List.mem_of_getElem? hob'))⟩
 ·have := hr.inj _ _ b (hvis i (hφc i b h2).1) (hvis j (hφc j b h3).1) (hφc i b h2).2 (hφc j b h3).2
  exact hrall i j this
 ·have hi : objs.length ≤ i := hi
  simp only [φc, List.getElem?_eq_none (show ids.length ≤ i by omega)]; rfl
 ·intro v w' φ' S' hk hr' hnc hv
  have hout' := hout.eq
  let φn : Phi := fun j => if j < nx then φ j else φ' (k + (j - nx))
  have hφn : ∀ i b, φ' i = some b → φn (rn ids nx i) = some b := fun i b hb => by
   by_cases hi : i < k
   ·obtain ⟨j, _, b', h2, _, _, h3, _⟩ := hat i hi
    have h4 : φc i = some b' := hback i b' hi (by simp only [rn, h2]; exact h3)
    have h5 := hk.hφ i b' h4
    rw [hb] at h5; injection h5 with h5
    simp only [φn, hrlt i hi, if_true]
    rw [h5]; exact (hφc i b' h4).2
   ·have := hrge i (by omega)
    simp only [φn]
    rw [this, if_neg (by omega)]
    have e : k + (nx + (i - k) - nx) = i := by omega
    rw [e]; exact hb
  have hφnb : ∀ j b, φn j = some b → (j < nx ∧ φ j = some b) ∨ (nx ≤ j ∧ ∃ i, k ≤ i ∧ rn ids nx i = j ∧ φ' i = some b) := fun j b hb => by
   by_cases hj : j < nx
   ·simp only [φn, hj, if_true] at hb; exact .inl ⟨hj, hb⟩
   ·simp only [φn, hj, if_false] at hb
    exact .inr ⟨by omega, k + (j - nx), by omega, by rw [hrge _ (by omega)]; omega, hb⟩
  -- a block that an old name, not handed over, has is left alone
  have hold : ∀ j b, Vis h j → φ j = some b → (∀ i, i < k → rn ids nx i ≠ j) → ¬ ∃ i, φc i = some b := fun j b hj hb hne ⟨i, hi⟩ => by
   obtain ⟨h2, h3⟩ := hφc i b hi
   exact hne i h2 (hr.inj _ _ b (hvis i h2) hj h3 hb)
  have hkeeps : Keeps w w' φ φn S S' := by
   refine ⟨hk.hw, hk.hS, fun j b hb => ?_, fun j b cs ty hb hc => ?_⟩
   ·by_cases hj : j < nx
    ·simp only [φn, hj, if_true]; exact hb
    ·rw [hr.fr j (by omega)] at hb; cases hb
   ·by_cases hX : ∃ i, φc i = some b
    ·obtain ⟨i, hi⟩ := hX
     exact hk.hz i b cs ty hi hc
    ·exact ⟨cs, by rw [hr'.frame.blk b (hr.φlt j b hb) hX]; exact hc, rfl⟩
  have getn : ∀ j x, get (h1' ++ h) j = some x → (∃ i y, j = rn ids nx i ∧ get h1 i = some y ∧ x = y.map (Obj.ren (rn ids nx))) ∨ (get h j = some x ∧ ∀ i, i < k → rn ids nx i ≠ j) := fun j x hx => by
   rw [get_append, hout'] at hx
   cases hq : get (h1.map fun p => (rn ids nx p.1, p.2.map (Obj.ren (rn ids nx)))) j with
   | some y =>
    obtain ⟨i, hi⟩ := get_map_some _ _ _ hq
    rw [hq] at hx
    subst hi
    rw [get_map_inj (k := 0) hrall] at hq
    obtain ⟨y', h2, h3⟩ := Option.map_eq_some_iff.1 hq
    simp at hx
    exact .inl ⟨i, y', rfl, h2, by rw [← hx, h3]⟩
   | none =>
    rw [hq] at hx
    refine .inr ⟨by simpa using hx, fun i hi he => ?_⟩
    obtain ⟨y, hy⟩ := hcov i hi
    rw [← he, get_map_inj (k := 0) hrall, hy] at hq
    cases hq
  have visn : ∀ j, Vis (h1' ++ h) j → (∃ i, j = rn ids nx i ∧ Vis h1 i) ∨ (Vis h j ∧ ∀ i, i < k → rn ids nx i ≠ j) := fun j ⟨ob, hob⟩ => by
   rcases getn j _ hob with ⟨i, y, h2, h3, h4⟩ | ⟨h2, h3⟩
   ·cases y with
    | none => cases h4
    | some y => exact .inl ⟨i, h2, y, h3⟩
   ·exact .inr ⟨⟨ob, h2⟩, h3⟩
  -- where the new names' blocks lie
  have hnew : ∀ i b, φ' i = some b → (∃ i, φc i = some b) ∨ w.heap.size ≤ b := fun i b hb => hr'.φX i b hb
  have hren2 : ∀ i b, Vis h1 i → φn (rn ids nx i) = some b → φ' i = some b := fun i b hi hb => by
   obtain ⟨ob, hob⟩ := hi
   obtain ⟨b', h2, _⟩ := hr'.hh i ob hob
   have := hφn i b' h2
   rw [hb] at this; injection this with this; rw [this]; exact h2
  refine hN v w' φn S' hkeeps ⟨fun id ob hob => ?_, fun i j b hi hj h2 h3 => ?_, fun i hi => ?_, fun i b hb => ?_, fun i b hb => ?_, hr'.Slt, fun b hb => hr'.SS b (hr.SS b hb), fun b hb => ?_, hr.frame.trans hr'.frame fun i hi hX => ?_⟩ hnc (hv.fwd hφn)
  ·rcases getn id _ hob with ⟨i, y, h2, h3, h4⟩ | ⟨h2, h3⟩
   ·cases y with
    | none => cases h4
    | some y =>
     simp at h4
     subst h4 h2
     obtain ⟨b, h5, h6, h7, h8⟩ := hr'.hh i y h3
     exact ⟨b, hφn i b h5, h6, h7, h8.fwd hφn⟩
   ·obtain ⟨b, h5, h6, h7, h8⟩ := hr.hh id ob h2
    have hX := hold id b ⟨ob, h2⟩ h5 h3
    have hbk := hr'.frame.blk b h6 hX
    refine ⟨b, hkeeps.hφ _ _ h5, Nat.lt_of_lt_of_le h6 hr'.frame.size, fun hs => ?_, h8.mono hkeeps hbk⟩
    rcases hr'.Snew b hs with hs | hs | hs
    ·exact h7 hs
    ·have : w.heap.size ≤ b := hs
     omega
    ·exact hX hs
  ·rcases visn i hi with ⟨i', e1, v1⟩ | ⟨v1, n1⟩ <;> rcases visn j hj with ⟨j', e2, v2⟩ | ⟨v2, n2⟩
   ·subst e1 e2
    rw [hr'.inj i' j' b v1 v2 (hren2 i' b v1 h2) (hren2 j' b v2 h3)]
   ·subst e1
    obtain ⟨ob, hob⟩ := v2
    obtain ⟨b', h5, h6, _⟩ := hr.hh j ob hob
    have := hkeeps.hφ j b' h5
    rw [h3] at this; injection this with this; subst this
    rcases hnew i' b (hren2 i' b v1 h2) with hX | hX
    ·exact absurd hX (hold j b ⟨ob, hob⟩ h5 n2)
    ·omega
   ·subst e2
    obtain ⟨ob, hob⟩ := v1
    obtain ⟨b', h5, h6, _⟩ := hr.hh i ob hob
    have := hkeeps.hφ i b' h5
    rw [h2] at this; injection this with this; subst this
    rcases hnew j' b (hren2 j' b v2 h3) with hX | hX
    ·exact absurd hX (hold i b ⟨ob, hob⟩ h5 n1)
    ·omega
   ·obtain ⟨ob, hob⟩ := v1
    obtain ⟨b1, h5, _⟩ := hr.hh i ob hob
    have := hkeeps.hφ i b1 h5
    rw [h2] at this; injection this with this; subst this
    obtain ⟨ob', hob'⟩ := v2
    obtain ⟨b2, h6, _⟩ := hr.hh j ob' hob'
    have := hkeeps.hφ j b2 h6
    rw [h3] at this; injection this with this; subst this
    exact hr.inj i j b ⟨ob, hob⟩ ⟨ob', hob'⟩ h5 h6
  ·simp only [φn]
   rw [if_neg (by omega)]
   exact hr'.fr _ (by omega)
  ·rcases hφnb i b hb with ⟨_, h2⟩ | ⟨_, i', _, _, h2⟩
   ·exact Nat.lt_of_lt_of_le (hr.φlt i b h2) hr'.frame.size
   ·exact hr'.φlt i' b h2
  ·rcases hφnb i b hb with ⟨_, h2⟩ | ⟨_, i', _, _, h2⟩
   ·exact hr.φX i b h2
   ·rcases hnew i' b h2 with ⟨i2, hX⟩ | hX
    ·exact hr.φX _ b (hφc i2 b hX).2
    ·exact .inr (Nat.le_trans hr.frame.size hX)
  ·rcases hr'.Snew b hb with hs | hs | ⟨i2, hs⟩
   ·exact hr.Snew b hs
   ·exact .inr (.inl (Nat.le_trans hr.frame.size hs))
   ·rcases hr.φX _ b (hφc i2 b hs).2 with hx | hx
    ·exact .inr (.inr hx)
    ·exact .inr (.inl hx)
  ·obtain ⟨i2, hX⟩ := hX
   rcases hr.φX _ i (hφc i2 i hX).2 with hx | hx
   ·exact hx
   ·omega
end
end Go.Proofs.YtacenhlcfeepgaaGreat.Eng
