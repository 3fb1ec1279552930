/- The symbolic evaluator: types, states, operations. -/
import GoSem.Core.World
import GoSem.Core.Lib
import Derived.RowKit3
import Derived.Calls
import Derived.Deep.MidRow
import Derived.Laws.BytesString
set_option linter.unusedVariables false
/- The types of the symbolic evaluator: data as plain Lean values, and how data stands in the program's memory. -/
namespace Go.Sym
/-- The kinds of data. A struct is a row of pairs that ends in 'unit'. -/
inductive Ty where
  | int (k : IntKind) | bool | str | slice (t : Ty) | unit | pair (a b : Ty) | arr (n : Nat) (t : Ty) | map (k v : Ty) | pt (t : Ty) | clo (f : Nat) (t : Ty)
  deriving DecidableEq, Inhabited
def kindN : IntKind → Nat | .i8 => 0 | .i16 => 1 | .i32 => 2 | .i64 => 3 | .u8 => 4 | .u16 => 5 | .u32 => 6 | .u64 => 7
theorem kindN_inj {a b : IntKind} (h : Nat.beq (kindN a) (kindN b) = true) : a = b := by
  cases a <;> cases b <;> first | rfl | exact absurd h (by decide)
/-- Equality of types, for the kernel to compute. -/
def tyq : Ty → Ty → Bool
  | .int a, .int b => Nat.beq (kindN a) (kindN b)
  | .bool, .bool | .str, .str | .unit, .unit => true
  | .slice a, .slice b => tyq a b
  | .pair a b, .pair c d => match tyq a c with | true => tyq b d | false => false
  | .arr n a, .arr m b => match Nat.beq n m with | true => tyq a b | false => false
  | .map a b, .map c d => match tyq a c with | true => tyq b d | false => false
  | .pt a, .pt b => tyq a b
  | .clo n a, .clo m b => match Nat.beq n m with | true => tyq a b | false => false
  | _, _ => false
theorem tyq_eq : ∀ {a b : Ty}, tyq a b = true → a = b := by
  intro a
  induction a with
  | int k => intro b h; cases b <;> first | (exact congrArg Ty.int (kindN_inj h)) | (exact absurd h (by simp [tyq]))
  | bool => intro b h; cases b <;> first | rfl | (exact absurd h (by simp [tyq]))
  | str => intro b h; cases b <;> first | rfl | (exact absurd h (by simp [tyq]))
  | unit => intro b h; cases b <;> first | rfl | (exact absurd h (by simp [tyq]))
  | slice a ih => intro b h; cases b <;> first | (exact congrArg Ty.slice (ih h)) | (exact absurd h (by simp [tyq]))
  | pair a b iha ihb =>
    intro c h
    cases c with
    | pair c d =>
      simp only [tyq] at h
      split at h
      · rename_i h1
        rw [iha h1, ihb h]
      · cases h
    | _ => exact absurd h (by simp [tyq])
  | arr n a ih =>
    intro c h
    cases c with
    | arr m b =>
      simp only [tyq] at h
      split at h
      · rename_i h1
        rw [Nat.eq_of_beq_eq_true h1, ih h]
      · cases h
    | _ => exact absurd h (by simp [tyq])
  | map a b iha ihb =>
    intro c h
    cases c with
    | map c d =>
      simp only [tyq] at h
      split at h
      · rename_i h1
        rw [iha h1, ihb h]
      · cases h
    | _ => exact absurd h (by simp [tyq])
  | pt a ih => intro b h; cases b <;> first | (exact congrArg Ty.pt (ih h)) | (exact absurd h (by simp [tyq]))
  | clo n a ih =>
    intro c h
    cases c with
    | clo m b =>
      simp only [tyq] at h
      split at h
      · rename_i h1
        rw [Nat.eq_of_beq_eq_true h1, ih h]
      · cases h
    | _ => exact absurd h (by simp [tyq])
@[reducible] def Ty.den : Ty → Type
  | .int _ => Int | .bool => Bool | .str => ByteArray | .slice t => List t.den | .unit => Unit | .pair a b => a.den × b.den | .arr _ t => List t.den | .map k v => List (k.den × v.den) | .pt t => t.den | .clo _ t => t.den
def Ty.sz : Ty → Nat
  | .unit => 0 | .pair a b => a.sz + b.sz | .arr n t => n * t.sz | _ => 1
def Ty.agg : Ty → Bool | .unit | .pair .. | .arr .. => true | _ => false
def Ty.zero : (t : Ty) → t.den
  | .int _ => (0 : Int) | .bool => false | .str => ByteArray.empty | .slice _ => [] | .unit => () | .pair a b => (a.zero, b.zero) | .arr n t => List.replicate n t.zero | .map .. => [] | .pt t => t.zero | .clo _ t => t.zero
/-- A datum with its type. -/
structure DV where
  t : Ty
  x : t.den
def Fn : List Ty → Type → Type
  | [], R => R
  | t :: ts, R => t.den → Fn ts R
def curry {R : Type} : (ts : List Ty) → (List DV → R) → Fn ts R
  | [], f => f []
  | t :: ts, f => fun x => curry ts (fun vs => f (⟨t, x⟩ :: vs))
def cast {t u : Ty} (h : t = u) (x : t.den) : u.den := h ▸ x
def appl {R : Type} : (ts : List Ty) → Fn ts (Option R) → List DV → Option R
  | [], f, vs => match vs with | [] => f | _ :: _ => none
  | t :: ts, f, vs => match vs with | [] => none | v :: vs => if h : tyq v.t t = true then appl ts (f (cast (tyq_eq h) v.x)) vs else none
theorem appl_curry {R : Type} : ∀ (ts : List Ty) (f : List DV → Option R) (vs : List DV) (r : R), appl ts (curry ts f) vs = some r → f vs = some r ∧ vs.map DV.t = ts
  | [], f, vs, r, h => by
    cases vs with
    | nil => exact ⟨h, rfl⟩
    | cons v vs => exact absurd h (by simp [appl])
  | t :: ts, f, vs, r, h => by
    cases vs with
    | nil => exact absurd h (by simp [appl])
    | cons v vs =>
      simp only [appl] at h
      split at h
      · rename_i e
        obtain ⟨u, x⟩ := v
        have e2 : u = t := tyq_eq e
        subst e2
        have := appl_curry ts _ vs r h
        exact ⟨this.1, by simp [this.2]⟩
      · cases h
theorem appl_tys {R : Type} : ∀ (ts : List Ty) (f : Fn ts (Option R)) (vs : List DV) (r : R), appl ts f vs = some r → vs.map DV.t = ts
  | [], f, vs, r, h => by
    cases vs with
    | nil => rfl
    | cons v vs => exact absurd h (by simp [appl])
  | t :: ts, f, vs, r, h => by
    cases vs with
    | nil => exact absurd h (by simp [appl])
    | cons v vs =>
      simp only [appl] at h
      split at h
      · rename_i e
        obtain ⟨u, x⟩ := v
        have e2 : u = t := tyq_eq e
        subst e2
        simp [appl_tys ts _ vs r h]
      · cases h

/-! ### data in memory -/
/-- A row of data, laid end to end. -/
def LR {α : Type} (R : α → List Value → Prop) : List α → List Value → Prop
  | [], cs => cs = []
  | x :: xs, cs => ∃ c1 c2, cs = c1 ++ c2 ∧ R x c1 ∧ LR R xs c2
/-- How a datum stands in cells. 'ok': the blocks in which what it leads to may lie. -/
def TR (w : World) (ok : Nat → Prop) : (t : Ty) → t.den → List Value → Prop
  | .int k, n, cs => cs = [.int k n]
  | .bool, b, cs => cs = [.bool b]
  | .str, s, cs => cs = [.string s]
  | .slice t, xs, cs => ∃ A cap, cs = [.slice A (List.length xs) cap] ∧ List.length xs ≤ cap ∧ (xs = [] ∨ ∃ b off c e fr, A = some ⟨b, off, none⟩ ∧ ok b ∧ w.heap[b]? = some (.cells c e fr) ∧ LR (TR w ok t) xs ((c.toList.drop off).take (List.length xs * t.sz)))
  | .unit, _, cs => cs = []
  | .pair a b, x, cs => ∃ c1 c2, cs = c1 ++ c2 ∧ TR w ok a x.1 c1 ∧ TR w ok b x.2 c2
  | .arr n t, xs, cs => List.length xs = n ∧ LR (TR w ok t) xs cs
  | .map .., _, _ => False
  | .pt t, x, cs => ∃ b off c e fr, cs = [.pointer (some ⟨b, off, none⟩)] ∧ ok b ∧ w.heap[b]? = some (.cells c e fr) ∧ TR w ok t x ((c.toList.drop off).take t.sz)
  | .clo f t, x, cs => ∃ b off c e fr, cs = [.func (.func f) #[] #[.pointer (some ⟨b, off, none⟩)]] ∧ ok b ∧ w.heap[b]? = some (.cells c e fr) ∧ TR w ok t x ((c.toList.drop off).take t.sz)
def isOne : Value → Bool | .agg _ | .tuple _ => false | _ => true

theorem LR.mono {α : Type} {R R' : α → List Value → Prop} : ∀ {xs : List α} {cs : List Value}, LR R xs cs → (∀ x c, R x c → R' x c) → LR R' xs cs
  | [], _, h, _ => h
  | _ :: _, _, ⟨c1, c2, e, h1, h2⟩, hR => ⟨c1, c2, e, hR _ _ h1, LR.mono h2 hR⟩
theorem LR.len {α : Type} {R : α → List Value → Prop} {n : Nat} : ∀ {xs : List α} {cs : List Value}, LR R xs cs → (∀ x c, R x c → c.length = n) → cs.length = xs.length * n
  | [], _, h, _ => by rw [h]; simp
  | _ :: xs, _, ⟨c1, c2, e, h1, h2⟩, hR => by
    rw [e, List.length_append, hR _ _ h1, LR.len h2 hR, List.length_cons, Nat.succ_mul, Nat.add_comm]
theorem LR.all {α : Type} {R : α → List Value → Prop} {p : Value → Prop} : ∀ {xs : List α} {cs : List Value}, LR R xs cs → (∀ x c, R x c → ∀ u ∈ c, p u) → ∀ u ∈ cs, p u
  | [], _, h, _ => by rw [h]; simp
  | _ :: xs, _, ⟨c1, c2, e, h1, h2⟩, hR => by
    intro u hu
    rw [e] at hu
    rcases List.mem_append.1 hu with hu | hu
    · exact hR _ _ h1 u hu
    · exact LR.all h2 hR u hu
theorem LR.app {α : Type} {R : α → List Value → Prop} : ∀ {xs ys : List α} {cs ds : List Value}, LR R xs cs → LR R ys ds → LR R (xs ++ ys) (cs ++ ds)
  | [], _, _, _, h, k => by rw [h]; exact k
  | _ :: _, _, _, _, ⟨c1, c2, e, h1, h2⟩, k => ⟨c1, c2 ++ _, by rw [e, List.append_assoc], h1, LR.app h2 k⟩
theorem TR.len {w : World} {ok : Nat → Prop} : ∀ {t : Ty} {x : t.den} {cs : List Value}, TR w ok t x cs → cs.length = t.sz
  | .int _, _, _, h | .bool, _, _, h | .str, _, _, h => by rw [show _ = _ from h]; rfl
  | .slice _, _, _, ⟨_, _, h, _⟩ => by rw [h]; rfl
  | .unit, _, _, h => by rw [show _ = _ from h]; rfl
  | .pair _ _, _, _, ⟨_, _, h, h1, h2⟩ => by rw [h, List.length_append, TR.len h1, TR.len h2]; rfl
  | .arr n t, xs, _, ⟨h1, h2⟩ => by rw [LR.len h2 (fun _ _ h => TR.len h), h1]; rfl
  | .pt _, _, _, ⟨_, _, _, _, _, h, _⟩ | .clo _ _, _, _, ⟨_, _, _, _, _, h, _⟩ => by rw [h]; rfl
theorem TR.one {w : World} {ok : Nat → Prop} : ∀ {t : Ty} {x : t.den} {cs : List Value}, TR w ok t x cs → ∀ u ∈ cs, isOne u = true
  | .int _, _, _, h | .bool, _, _, h | .str, _, _, h => by rw [show _ = _ from h]; simp [isOne]
  | .slice _, _, _, ⟨_, _, h, _⟩ => by rw [h]; simp [isOne]
  | .unit, _, _, h => by rw [show _ = _ from h]; simp
  | .pair _ _, _, _, ⟨_, _, h, h1, h2⟩ => by
    intro u hu
    rw [h] at hu
    rcases List.mem_append.1 hu with hu | hu
    · exact TR.one h1 u hu
    · exact TR.one h2 u hu
  | .arr _ _, _, _, ⟨_, h2⟩ => LR.all h2 (fun _ _ h => TR.one h)
  | .pt _, _, _, ⟨_, _, _, _, _, h, _⟩ | .clo _ _, _, _, ⟨_, _, _, _, _, h, _⟩ => by rw [h]; simp [isOne]
theorem lt_heap {w : World} {b : Nat} {o : Obj} (h : w.heap[b]? = some o) : b < w.heap.size := by
  rcases Nat.lt_or_ge b w.heap.size with h' | h'
  · exact h'
  · rw [Array.getElem?_eq_none h'] at h
    cases h
/-- Data stays while its blocks do. -/
theorem TR.mono {w w' : World} {ok ok' : Nat → Prop} (hw : ∀ b, ok b → b < w.heap.size → w'.heap[b]? = w.heap[b]? ∧ ok' b) :
    ∀ {t : Ty} {x : t.den} {cs : List Value}, TR w ok t x cs → TR w' ok' t x cs
  | .int _, _, _, h | .bool, _, _, h | .str, _, _, h | .unit, _, _, h => h
  | .slice t, xs, _, ⟨A, cap, h, hc, h2⟩ => ⟨A, cap, h, hc, by
    rcases h2 with h2 | ⟨b, off, c, e, fr, hA, hb, hc, hl⟩
    · exact .inl h2
    · have hlt : b < w.heap.size := by
        rcases Nat.lt_or_ge b w.heap.size with h' | h'
        · exact h'
        · rw [Array.getElem?_eq_none h'] at hc
          cases hc
      obtain ⟨h3, h4⟩ := hw b hb hlt
      exact .inr ⟨b, off, c, e, fr, hA, h4, by rw [h3]; exact hc, hl.mono (fun _ _ h => TR.mono hw h)⟩⟩
  | .pair _ _, _, _, ⟨c1, c2, h, h1, h2⟩ => ⟨c1, c2, h, TR.mono hw h1, TR.mono hw h2⟩
  | .arr _ _, _, _, ⟨h1, h2⟩ => ⟨h1, h2.mono (fun _ _ h => TR.mono hw h)⟩
  | .pt _, _, _, ⟨b, off, c, e, fr, h, hb, hc, h2⟩ | .clo _ _, _, _, ⟨b, off, c, e, fr, h, hb, hc, h2⟩ => ⟨b, off, c, e, fr, h, (hw b hb (lt_heap hc)).2, by rw [(hw b hb (lt_heap hc)).1]; exact hc, TR.mono hw h2⟩
/-- A datum as one value. -/
def VR (w : World) (ok : Nat → Prop) (t : Ty) (x : t.den) (v : Value) : Prop :=
  if t.agg then ∃ cs : Array Value, v = .agg cs ∧ TR w ok t x cs.toList else TR w ok t x [v]
theorem VR.cells {w : World} {ok : Nat → Prop} {t : Ty} {x : t.den} {v : Value} (h : VR w ok t x v) : TR w ok t x v.cells.toList := by
  unfold VR at h
  split at h
  · obtain ⟨cs, rfl, h⟩ := h
    exact h
  · have := TR.one h v (by simp)
    cases v <;> first | exact h | simp [isOne] at this
theorem VR.mono {w w' : World} {ok ok' : Nat → Prop} (hw : ∀ b, ok b → b < w.heap.size → w'.heap[b]? = w.heap[b]? ∧ ok' b) {t : Ty} {x : t.den} {v : Value} (h : VR w ok t x v) : VR w' ok' t x v := by
  unfold VR at *
  split at h
  · rename_i ha
    rw [if_pos ha]
    obtain ⟨cs, e, h⟩ := h
    exact ⟨cs, e, TR.mono hw h⟩
  · rename_i ha
    rw [if_neg ha]
    exact TR.mono hw h
theorem LR.nth {α : Type} {R : α → List Value → Prop} {n : Nat} (hR : ∀ x c, R x c → c.length = n) : ∀ {xs : List α} {cs : List Value}, LR R xs cs → ∀ (i : Nat) (h : i < xs.length), R xs[i] ((cs.drop (i * n)).take n)
  | x :: xs, _, ⟨c1, c2, e, h1, h2⟩, 0, _ => by
    have := hR _ _ h1
    rw [e]
    simp [← this]
    exact h1
  | x :: xs, _, ⟨c1, c2, e, h1, h2⟩, i + 1, h => by
    have hl := hR _ _ h1
    have := LR.nth hR h2 i (by simpa using h)
    have e1 : (i + 1) * n = n + i * n := by rw [Nat.succ_mul, Nat.add_comm]
    have e2 : ((c1 ++ c2).drop ((i + 1) * n)) = c2.drop (i * n) := by
      rw [e1, List.drop_append, hl, List.drop_eq_nil_of_le (by omega), Nat.add_sub_cancel_left, List.nil_append]
    subst e
    rw [e2]
    exact this
/-- A row whose element i is replaced. -/
theorem LR.set {α : Type} {R : α → List Value → Prop} {n : Nat} (hR : ∀ x c, R x c → c.length = n) : ∀ {xs : List α} {cs : List Value}, LR R xs cs → ∀ (i : Nat), i < xs.length → ∀ (y : α) (ds : List Value), R y ds →
    LR R (xs.set i y) (cs.take (i * n) ++ ds ++ cs.drop ((i + 1) * n))
  | x :: xs, _, ⟨c1, c2, e, h1, h2⟩, 0, _, y, ds, hy => by
    have hl := hR _ _ h1
    refine ⟨ds, c2, ?_, hy, h2⟩
    rw [e]
    simp [hl]
  | x :: xs, _, ⟨c1, c2, e, h1, h2⟩, i + 1, h, y, ds, hy => by
    have hl := hR _ _ h1
    have := LR.set hR h2 i (by simpa using h) y ds hy
    refine ⟨c1, _, ?_, h1, this⟩
    have e1 : (i + 1) * n = n + i * n := by rw [Nat.succ_mul, Nat.add_comm]
    have e2 : (i + 1 + 1) * n = n + (i + 1) * n := by rw [Nat.succ_mul, Nat.add_comm]
    have e3 : (c1 ++ c2).take ((i + 1) * n) = c1 ++ c2.take (i * n) := by
      rw [e1, List.take_append, hl, List.take_of_length_le (by omega), Nat.add_sub_cancel_left]
    have e4 : (c1 ++ c2).drop ((i + 1 + 1) * n) = c2.drop ((i + 1) * n) := by
      rw [e2, List.drop_append, hl, List.drop_eq_nil_of_le (by omega), Nat.add_sub_cancel_left, List.nil_append]
    rw [e, e3, e4]
    simp
theorem LR.take {α : Type} {R : α → List Value → Prop} {n : Nat} (hR : ∀ x c, R x c → c.length = n) : ∀ {xs : List α} {cs : List Value}, LR R xs cs → ∀ (i : Nat), LR R (xs.take i) (cs.take (i * n))
  | [], _, h, i => by rw [show _ = _ from h]; simp [LR]
  | x :: xs, cs, h, 0 => by simp [LR]
  | x :: xs, _, ⟨c1, c2, e, h1, h2⟩, i + 1 => by
    have hl := hR _ _ h1
    refine ⟨c1, c2.take (i * n), ?_, h1, LR.take hR h2 i⟩
    have e1 : (i + 1) * n = n + i * n := by rw [Nat.succ_mul, Nat.add_comm]
    generalize i * n = q at e1
    rw [e, e1, List.take_append, hl, List.take_of_length_le (by omega), Nat.add_sub_cancel_left]
theorem LR.drop {α : Type} {R : α → List Value → Prop} {n : Nat} (hR : ∀ x c, R x c → c.length = n) : ∀ {xs : List α} {cs : List Value}, LR R xs cs → ∀ (i : Nat), LR R (xs.drop i) (cs.drop (i * n))
  | [], _, h, i => by rw [show _ = _ from h]; simp [LR]
  | x :: xs, cs, h, 0 => by simpa using h
  | x :: xs, _, ⟨c1, c2, e, h1, h2⟩, i + 1 => by
    have hl := hR _ _ h1
    have e1 : (i + 1) * n = n + i * n := by rw [Nat.succ_mul, Nat.add_comm]
    have e2 : (c1 ++ c2).drop ((i + 1) * n) = c2.drop (i * n) := by
      generalize i * n = q at e1
      rw [e1, List.drop_append, hl, List.drop_eq_nil_of_le (by omega), Nat.add_sub_cancel_left, List.nil_append]
    rw [e, e2]
    exact LR.drop hR h2 i
theorem LR.replicate {α : Type} {R : α → List Value → Prop} {x : α} {c : List Value} (h : R x c) : ∀ n, LR R (List.replicate n x) (List.replicate n c).flatten
  | 0 => rfl
  | n + 1 => ⟨c, _, by rw [List.replicate_succ, List.flatten_cons], h, LR.replicate h n⟩
end Go.Sym

/- The symbolic state: values in slots, objects of the call's own, and what it says of a frame and a world. -/
namespace Go.Sym
/-- A symbolic value. References number the objects of the state. -/
inductive SV where
  | unk
  | kb (b : Bool)
  | v (t : Ty) (x : t.den)
  | nil
  | own (r : Nat)
  | sub (r off len : Nat)
  | ptr (r i : Nat)
  | eptr (r i j : Nat)
  | bx (r : Nat)
  | xptr (r i j k n : Nat) (e : Ty)
  | asl (r i j lo len n : Nat) (e : Ty)
  | imm (t : Ty) (x : t.den)
  | nilp
  | mp (r : Nat)
  | fn (f : Nat) (caps : List (Nat × Nat))
inductive Slot where
  | one (x : SV)
  | many (l : List SV)
  | cells (l : List SV)
/-- An object: a row of data, a row that was handed out (never written again), cells of their own, a map. -/
inductive HO where
  | arr (t : Ty) (xs : List t.den)
  | froz (t : Ty) (xs : List t.den)
  | cells (l : List SV)
  | map (k v : Ty) (m : List (k.den × v.den))
  | dead
def HO.live : HO → Bool | .arr .. | .cells _ | .map .. => true | _ => false
/-- n: how many slots the frame has; a slot that is not told is unknown. -/
structure St where
  n : Nat
  slots : List (Nat × Slot)
  heap : List HO
/-- Where an object lies: a row's block, its first cell, its capacity. -/
inductive RV where
  | none
  | at (b off cap : Nat)
def getL {α : Type} (d : α) : List α → Nat → α
  | [], _ => d
  | y :: _, 0 => y
  | _ :: r, i + 1 => getL d r i
def setL {α : Type} : List α → Nat → α → List α
  | [], _, _ => []
  | _ :: r, 0, x => x :: r
  | y :: r, i + 1, x => y :: setL r i x
/-- As 'setL', but a row that is too short is filled up. -/
def putL {α : Type} (d : α) : List α → Nat → α → List α
  | [], 0, x => [x]
  | [], i + 1, x => d :: putL d [] i x
  | _ :: r, 0, x => x :: r
  | y :: r, i + 1, x => y :: putL d r i x
def getS : List (Nat × Slot) → Nat → Slot
  | [], _ => .one .unk
  | (j, x) :: l, i => match Nat.beq j i with | true => x | false => getS l i
def delS : List (Nat × Slot) → Nat → List (Nat × Slot)
  | [], _ => []
  | (j, x) :: l, i => match Nat.beq j i with | true => delS l i | false => (j, x) :: delS l i
def putS (n : Nat) (l : List (Nat × Slot)) (d : Nat) (x : Slot) : List (Nat × Slot) := match Nat.ble (d + 1) n with | true => (d, x) :: delS l d | false => l
theorem getS_del : ∀ (l : List (Nat × Slot)) (d i : Nat), i ≠ d → getS (delS l d) i = getS l i
  | [], _, _, _ => rfl
  | (j, x) :: l, d, i, h => by
    simp only [delS]
    cases h1 : Nat.beq j d with
    | true =>
      have e := Nat.eq_of_beq_eq_true h1
      subst e
      have h2 : Nat.beq j i = false := by
        cases h3 : Nat.beq j i with
        | false => rfl
        | true => exact absurd (Nat.eq_of_beq_eq_true h3).symm h
      simp only [getS, h2]
      exact getS_del l j i h
    | false => simp only [getS, getS_del l d i h]
theorem getS_put (n : Nat) (l : List (Nat × Slot)) (d i : Nat) (x : Slot) : getS (putS n l d x) i = if i = d ∧ d < n then x else getS l i := by
  unfold putS
  cases h1 : Nat.ble (d + 1) n with
  | true =>
    have hlt : d < n := Nat.le_of_ble_eq_true h1
    by_cases h : i = d
    · subst h
      simp only [getS, Nat.beq_refl, hlt, and_self, if_true]
    · have h2 : Nat.beq d i = false := by
        cases h3 : Nat.beq d i with
        | false => rfl
        | true => exact absurd (Nat.eq_of_beq_eq_true h3).symm h
      simp only [getS, h2, h, false_and, if_false, getS_del l d i h]
  | false =>
    have hge : ¬ d < n := fun h => by
      have : Nat.ble (d + 1) n = true := Nat.ble_eq_true_of_le h
      rw [h1] at this
      cases this
    simp only [hge, and_false, if_false]
abbrev getO : List HO → Nat → HO := getL .dead
theorem getL_set {α : Type} (d : α) (x : α) : ∀ (l : List α) (i j : Nat), getL d (setL l i x) j = if j = i ∧ i < l.length then x else getL d l j
  | [], i, j => by simp [setL, getL]
  | y :: r, 0, 0 => by simp [setL, getL]
  | y :: r, 0, j + 1 => by simp [setL, getL]
  | y :: r, i + 1, 0 => by simp [setL, getL]
  | y :: r, i + 1, j + 1 => by simp [setL, getL, getL_set d x r i j]
theorem setL_length {α : Type} (x : α) : ∀ (l : List α) (i : Nat), (setL l i x).length = l.length
  | [], _ => rfl
  | _ :: _, 0 => rfl
  | _ :: r, i + 1 => by simp [setL, setL_length x r i]
theorem getL_put {α : Type} (d : α) (x : α) : ∀ (l : List α) (i j : Nat), getL d (putL d l i x) j = if j = i then x else getL d l j
  | [], 0, 0 => by simp [putL, getL]
  | [], 0, j + 1 => by simp [putL, getL]
  | [], i + 1, 0 => by simp [putL, getL]
  | [], i + 1, j + 1 => by simp [putL, getL, getL_put d x [] i j]
  | y :: r, 0, 0 => by simp [putL, getL]
  | y :: r, 0, j + 1 => by simp [putL, getL]
  | y :: r, i + 1, 0 => by simp [putL, getL]
  | y :: r, i + 1, j + 1 => by simp [putL, getL, getL_put d x r i j]
theorem getL_get {α : Type} (d : α) : ∀ (l : List α) (i : Nat), getL d l i = l.getD i d
  | [], _ => by simp [getL]
  | _ :: _, 0 => by simp [getL]
  | _ :: r, i + 1 => by simp [getL, getL_get d r i]
theorem getL_ge {α : Type} (d : α) (l : List α) (i : Nat) (h : l.length ≤ i) : getL d l i = d := by
  rw [getL_get, List.getD_eq_getElem?_getD, List.getElem?_eq_none h]
  rfl

/-- What a map holds: keys and values in the order in which they came. -/
def MR (w : World) (ok : Nat → Prop) (k v : Ty) : List (k.den × v.den) → List MapEntry → Prop
  | [], es => es = []
  | p :: m, es => ∃ e es', es = e :: es' ∧ VR w ok k p.1 e.key ∧ VR w ok v p.2 e.val ∧ MR w ok k v m es'
theorem MR.mono {w w' : World} {ok ok' : Nat → Prop} (hw : ∀ b, ok b → b < w.heap.size → w'.heap[b]? = w.heap[b]? ∧ ok' b) {k v : Ty} : ∀ {m : List (k.den × v.den)} {es : List MapEntry}, MR w ok k v m es → MR w' ok' k v m es
  | [], _, h => h
  | _ :: _, _, ⟨e, es', h, h1, h2, h3⟩ => ⟨e, es', h, h1.mono hw, h2.mono hw, MR.mono hw h3⟩
/-- A row in memory. -/
def AR (w : World) (ok : Nat → Prop) (mk : Nat × Nat → Prop) (t : Ty) (xs : List t.den) : RV → Prop
  | .none => xs = []
  | .at b off cap => ∃ c e fr, w.heap[b]? = some (.cells c e fr) ∧ mk fr ∧ xs.length ≤ cap ∧ off + cap * t.sz ≤ c.size ∧ LR (TR w ok t) xs ((c.toList.drop off).take (xs.length * t.sz))
section
variable (w : World) (ok : Nat → Prop) (ρ : Nat → RV) (H : Nat → HO)
/-- What a symbolic value says of a value. -/
def SR : SV → Value → Prop
  | .unk, _ => True
  | .kb b, u => u = .bool b
  | .v t x, u => VR w ok t x u
  | .nil, u => u = .slice none 0 0
  | .own r, u => match H r with
    | .arr _ xs | .froz _ xs => (match ρ r with
      | .none => u = .slice none 0 0
      | .at b off cap => u = .slice (some ⟨b, off, none⟩) xs.length cap)
    | _ => True
  | .sub r o n, u => match H r with
    | .arr t xs | .froz t xs => o + n ≤ xs.length ∧ ∃ A cap, u = .slice A n cap ∧ n ≤ cap ∧ (match ρ r with
      | .none => True
      | .at b off _ => n = 0 ∨ A = some ⟨b, off + o * t.sz, none⟩)
    | _ => True
  | .ptr r i, u => ∃ b, u = .pointer (some ⟨b, i, none⟩) ∧ (match H r with
    | .cells _ => ∃ off cap, ρ r = .at b off cap
    | _ => True)
  | .eptr r i j, u => ∃ b o, u = .pointer (some ⟨b, o, none⟩) ∧ (match H r with
    | .arr t xs | .froz t xs => i < xs.length ∧ ∃ off cap, ρ r = .at b off cap ∧ o = off + (i * t.sz + j)
    | _ => True)
  | .bx r, u => ∃ b o, u = .pointer (some ⟨b, o, none⟩) ∧ (match H r with
    | .arr t xs | .froz t xs => 0 < xs.length ∧ ∃ off cap, ρ r = .at b off cap ∧ o = off
    | _ => True)
  | .xptr r i j k n e, u => ∃ b o, u = .pointer (some ⟨b, o, none⟩) ∧ (match H r with
    | .arr t xs | .froz t xs => i < xs.length ∧ k < n ∧ ∃ off cap, ρ r = .at b off cap ∧ o = off + (i * t.sz + (j + k * e.sz))
    | _ => True)
  | .asl r i j lo len n e, u => match H r with
    | .arr t xs | .froz t xs => i < xs.length ∧ lo + len ≤ n ∧ ∃ A c, u = .slice A len c ∧ len ≤ c ∧ ∃ b off cap, ρ r = .at b off cap ∧ (len = 0 ∨ A = some ⟨b, off + (i * t.sz + (j + lo * e.sz)), none⟩)
    | _ => True
  | .imm t x, u => ∃ b off c e fr, u = .pointer (some ⟨b, off, none⟩) ∧ ok b ∧ w.heap[b]? = some (.cells c e fr) ∧ TR w ok t x ((c.toList.drop off).take t.sz)
  | .nilp, u => u = .pointer none
  | .mp r, u => match H r with
    | .map .. => ∃ b off cap, ρ r = .at b off cap ∧ u = .map (some b)
    | _ => True
  | .fn f caps, u => ∃ vs : Array Value, u = .func (.func f) #[] vs ∧ vs.size = caps.length ∧ ∀ i (h : i < caps.length), ∃ b, vs.getD i undef = .pointer (some ⟨b, caps[i].2, none⟩) ∧ (match H caps[i].1 with
    | .cells _ => ∃ off cap, ρ caps[i].1 = .at b off cap
    | _ => True)
def SlR : Slot → Value → Prop
  | .one x, u => SR w ok ρ H x u
  | .many l, u => ∃ vs : Array Value, u = .tuple vs ∧ vs.size = l.length ∧ ∀ i, i < l.length → SR w ok ρ H (getL .unk l i) (vs.getD i undef)
  | .cells l, u => ∃ vs : Array Value, u = .agg vs ∧ vs.size = l.length ∧ ∀ i, i < l.length → SR w ok ρ H (getL .unk l i) (vs.getD i undef)
/-- What an object says of its block. -/
def OR : HO → RV → Prop
  | .arr t xs, rv => AR w ok (· = (0, 0)) t xs rv
  | .froz t xs, rv => xs = [] ∨ (AR w ok (fun _ => True) t xs rv ∧ ∀ b off cap, rv = .at b off cap → ok b)
  | .cells l, rv => ∃ b cap c e, rv = .at b 0 cap ∧ w.heap[b]? = some (.cells c e (0, 0)) ∧ c.size = l.length ∧ (∀ i, i < l.length → SR w ok ρ H (getL .unk l i) (c.getD i undef)) ∧ cap = 0
  | .map k v m, rv => ∃ b off cap es clock, rv = .at b off cap ∧ w.heap[b]? = some (.map es clock) ∧ MR w ok k v m es.toList ∧ off = 0 ∧ cap = 0
  | .dead, _ => True
end
/-- The references of a value lie in A. -/
def RefIn (A : Nat → Prop) : SV → Prop
  | .own r | .sub r _ _ | .ptr r _ | .eptr r _ _ | .mp r | .bx r | .xptr r _ _ _ _ _ | .asl r _ _ _ _ _ _ => A r
  | .fn _ caps => ∀ p ∈ caps, A p.1
  | _ => True
def SlotIn (A : Nat → Prop) : Slot → Prop
  | .one x => RefIn A x
  | .many l | .cells l => ∀ x ∈ l, RefIn A x
/-- How an object may change under a reference that is held. -/
def HC : HO → HO → Prop
  | _, .dead => True
  | .arr t xs, .arr u ys => t = u ∧ ys.length = xs.length
  | .arr t xs, .froz u ys => ∃ h : t = u, ys = h ▸ xs
  | .froz t xs, .froz u ys => ∃ h : t = u, ys = h ▸ xs
  | .cells l, .cells l' => l'.length = l.length
  | .map k v _, .map k' v' _ => k = k' ∧ v = v'
  | _, _ => False
theorem HC.refl : ∀ o, HC o o
  | .arr _ _ => ⟨rfl, rfl⟩
  | .froz _ _ => ⟨rfl, rfl⟩
  | .cells _ => rfl
  | .map .. => ⟨rfl, rfl⟩
  | .dead => trivial
/-- The blocks in which data may lie: none that is another's (X), none that is the state's own. -/
def okOf (X : Nat → Prop) (ρ : Nat → RV) (H : Nat → HO) (b : Nat) : Prop := ¬ X b ∧ ∀ r, (H r).live = true → ∀ off cap, ρ r ≠ .at b off cap
section
variable {w w' : World} {ok ok' : Nat → Prop} {ρ ρ' : Nat → RV} {H H' : Nat → HO} {A : Nat → Prop}
theorem SR.mono (hw : ∀ b, ok b → b < w.heap.size → w'.heap[b]? = w.heap[b]? ∧ ok' b) (hx : ∀ r, A r → HC (H r) (H' r) ∧ (H' r ≠ .dead → ρ' r = ρ r)) :
    ∀ {x : SV} {u : Value}, RefIn A x → SR w ok ρ H x u → SR w' ok' ρ' H' x u
  | .unk, _, _, _ => trivial
  | .kb _, _, _, h | .nil, _, _, h | .nilp, _, _, h => h
  | .v _ _, _, _, h => VR.mono hw h
  | .imm t x, _, _, ⟨b, off, c, e, fr, h1, h2, h3, h4⟩ => by
    have hlt : b < w.heap.size := by
      rcases Nat.lt_or_ge b w.heap.size with h' | h'
      · exact h'
      · rw [Array.getElem?_eq_none h'] at h3
        cases h3
    obtain ⟨h5, h6⟩ := hw b h2 hlt
    exact ⟨b, off, c, e, fr, h1, h6, by rw [h5]; exact h3, TR.mono hw h4⟩
  | .own r, u, hr, h => by
    obtain ⟨h1, h2⟩ := hx r hr
    simp only [SR] at h ⊢
    cases h3 : H r <;> cases h4 : H' r <;> simp only [h3, h4] at h h1 h2 ⊢ <;> first | trivial | exact h1.elim | skip
    · rw [h2 (by simp), h1.2]; exact h
    · obtain ⟨e, e2⟩ := h1
      subst e e2
      rw [h2 (by simp)]; exact h
    · obtain ⟨e, e2⟩ := h1
      subst e e2
      rw [h2 (by simp)]; exact h
  | .sub r o n, u, hr, h => by
    obtain ⟨h1, h2⟩ := hx r hr
    simp only [SR] at h ⊢
    cases h3 : H r <;> cases h4 : H' r <;> simp only [h3, h4] at h h1 h2 ⊢ <;> first | trivial | exact h1.elim | skip
    · obtain ⟨e, e2⟩ := h1
      subst e
      rw [h2 (by simp), e2]; exact h
    · obtain ⟨e, e2⟩ := h1
      subst e e2
      rw [h2 (by simp)]; exact h
    · obtain ⟨e, e2⟩ := h1
      subst e e2
      rw [h2 (by simp)]; exact h
  | .ptr r i, u, hr, h => by
    obtain ⟨h1, h2⟩ := hx r hr
    obtain ⟨b, e, h⟩ := h
    refine ⟨b, e, ?_⟩
    cases h3 : H r <;> cases h4 : H' r <;> simp only [h3, h4] at h h1 h2 ⊢ <;> first | trivial | exact h1.elim | skip
    · rw [h2 (by simp)]; exact h
  | .eptr r i j, u, hr, h => by
    obtain ⟨h1, h2⟩ := hx r hr
    obtain ⟨b, o, e, h⟩ := h
    refine ⟨b, o, e, ?_⟩
    cases h3 : H r <;> cases h4 : H' r <;> simp only [h3, h4] at h h1 h2 ⊢ <;> first | trivial | exact h1.elim | skip
    · obtain ⟨e, e2⟩ := h1
      subst e
      rw [h2 (by simp), e2]; exact h
    · obtain ⟨e, e2⟩ := h1
      subst e e2
      rw [h2 (by simp)]; exact h
    · obtain ⟨e, e2⟩ := h1
      subst e e2
      rw [h2 (by simp)]; exact h
  | .bx r, u, hr, h => by
    obtain ⟨h1, h2⟩ := hx r hr
    obtain ⟨b, o, e, h⟩ := h
    refine ⟨b, o, e, ?_⟩
    cases h3 : H r <;> cases h4 : H' r <;> simp only [h3, h4] at h h1 h2 ⊢ <;> first | trivial | exact h1.elim | skip
    · obtain ⟨e, e2⟩ := h1
      subst e
      rw [h2 (by simp), e2]; exact h
    · obtain ⟨e, e2⟩ := h1
      subst e e2
      rw [h2 (by simp)]; exact h
    · obtain ⟨e, e2⟩ := h1
      subst e e2
      rw [h2 (by simp)]; exact h
  | .xptr r i j k n e, u, hr, h => by
    obtain ⟨h1, h2⟩ := hx r hr
    obtain ⟨b, o, e, h⟩ := h
    refine ⟨b, o, e, ?_⟩
    cases h3 : H r <;> cases h4 : H' r <;> simp only [h3, h4] at h h1 h2 ⊢ <;> first | trivial | exact h1.elim | skip
    · obtain ⟨e, e2⟩ := h1
      subst e
      rw [h2 (by simp), e2]; exact h
    · obtain ⟨e, e2⟩ := h1
      subst e e2
      rw [h2 (by simp)]; exact h
    · obtain ⟨e, e2⟩ := h1
      subst e e2
      rw [h2 (by simp)]; exact h
  | .asl r i j lo len n e, u, hr, h => by
    obtain ⟨h1, h2⟩ := hx r hr
    simp only [SR] at h ⊢
    cases h3 : H r <;> cases h4 : H' r <;> simp only [h3, h4] at h h1 h2 ⊢ <;> first | trivial | exact h1.elim | skip
    · obtain ⟨e, e2⟩ := h1
      subst e
      rw [h2 (by simp), e2]; exact h
    · obtain ⟨e, e2⟩ := h1
      subst e e2
      rw [h2 (by simp)]; exact h
    · obtain ⟨e, e2⟩ := h1
      subst e e2
      rw [h2 (by simp)]; exact h
  | .mp r, u, hr, h => by
    obtain ⟨h1, h2⟩ := hx r hr
    simp only [SR] at h ⊢
    cases h3 : H r <;> cases h4 : H' r <;> simp only [h3, h4] at h h1 h2 ⊢ <;> first | trivial | exact h1.elim | skip
    · rw [h2 (by simp)]; exact h
  | .fn f caps, u, hr, ⟨vs, e1, e2, h⟩ => ⟨vs, e1, e2, fun i hi => by
    obtain ⟨h1, h2⟩ := hx _ (hr _ (List.getElem_mem hi))
    obtain ⟨b, e, h⟩ := h i hi
    refine ⟨b, e, ?_⟩
    cases h3 : H caps[i].1 <;> cases h4 : H' caps[i].1 <;> simp only [h3, h4] at h h1 h2 ⊢ <;> first | trivial | exact h1.elim | skip
    · rw [h2 (by simp)]; exact h⟩
theorem getL_mem {α : Type} (d : α) (l : List α) (i : Nat) (h : i < l.length) : getL d l i ∈ l := by
  rw [getL_get, List.getD_eq_getElem?_getD, List.getElem?_eq_getElem h]
  exact List.getElem_mem h
theorem SlR.mono (hw : ∀ b, ok b → b < w.heap.size → w'.heap[b]? = w.heap[b]? ∧ ok' b) (hx : ∀ r, A r → HC (H r) (H' r) ∧ (H' r ≠ .dead → ρ' r = ρ r)) :
    ∀ {x : Slot} {u : Value}, SlotIn A x → SlR w ok ρ H x u → SlR w' ok' ρ' H' x u
  | .one _, _, hr, h => SR.mono hw hx hr h
  | .many l, _, hr, ⟨vs, e1, e2, h⟩ => ⟨vs, e1, e2, fun i hi => SR.mono hw hx (hr _ (getL_mem _ l i hi)) (h i hi)⟩
  | .cells l, _, hr, ⟨vs, e1, e2, h⟩ => ⟨vs, e1, e2, fun i hi => SR.mono hw hx (hr _ (getL_mem _ l i hi)) (h i hi)⟩
theorem AR.mono (hw : ∀ b, ok b → b < w.heap.size → w'.heap[b]? = w.heap[b]? ∧ ok' b) {mk : Nat × Nat → Prop} {t : Ty} {xs : List t.den} {rv : RV}
    (hb : ∀ b off cap, rv = .at b off cap → w'.heap[b]? = w.heap[b]?) (h : AR w ok mk t xs rv) : AR w' ok' mk t xs rv := by
  cases rv with
  | none => exact h
  | «at» b off cap =>
    obtain ⟨c, e, fr, h1, h2, h3, h4, h5⟩ := h
    exact ⟨c, e, fr, by rw [hb b off cap rfl]; exact h1, h2, h3, h4, h5.mono (fun _ _ h => TR.mono hw h)⟩
theorem lt_of_get {b : Nat} {o : Obj} (h : w.heap[b]? = some o) : b < w.heap.size := by
  rcases Nat.lt_or_ge b w.heap.size with h' | h'
  · exact h'
  · rw [Array.getElem?_eq_none h'] at h
    cases h
/-- An object whose block stays. -/
theorem OR.mono (hw : ∀ b, ok b → b < w.heap.size → w'.heap[b]? = w.heap[b]? ∧ ok' b) (hx : ∀ r, A r → HC (H r) (H' r) ∧ (H' r ≠ .dead → ρ' r = ρ r))
    {o : HO} {rv : RV} (hl : o.live = true → ∀ b off cap, rv = .at b off cap → w'.heap[b]? = w.heap[b]?) (hr : ∀ l, o = .cells l → ∀ x ∈ l, RefIn A x) (h : OR w ok ρ H o rv) : OR w' ok' ρ' H' o rv := by
  cases o with
  | arr t xs => exact AR.mono hw (hl rfl) h
  | froz t xs =>
    rcases h with h | ⟨h1, h2⟩
    · exact .inl h
    · cases rv with
      | none => exact .inr ⟨h1, fun b off cap e => by cases e⟩
      | «at» b off cap =>
        have hk := h2 b off cap rfl
        obtain ⟨c, e, fr, h3, _⟩ := id h1
        obtain ⟨h4, h5⟩ := hw b hk (lt_of_get h3)
        exact .inr ⟨AR.mono hw (fun b' off' cap' e => by cases e; exact h4) h1, fun b' off' cap' e => by cases e; exact h5⟩
  | cells l =>
    obtain ⟨b, cap, c, e, h1, h2, h3, h4⟩ := h
    refine ⟨b, cap, c, e, h1, by rw [hl rfl b 0 cap h1]; exact h2, h3, fun i hi => SR.mono hw hx (hr l rfl _ (getL_mem _ l i hi)) (h4.1 i hi), h4.2⟩
  | map k v m =>
    obtain ⟨b, off, cap, es, clock, h1, h2, h3⟩ := h
    exact ⟨b, off, cap, es, clock, h1, by rw [hl rfl b off cap h1]; exact h2, h3.1.mono hw, h3.2⟩
  | dead => trivial
end
/-- What changes between two worlds: the blocks in wr, and new ones. -/
structure Fr (wr : Nat → Prop) (w w' : World) : Prop where
  os : w'.os = w.os
  tape : w'.tape = w.tape
  output : w'.output = w.output
  size : w.heap.size ≤ w'.heap.size
  block : ∀ k, k < w.heap.size → ¬ wr k → w'.heap[k]? = w.heap[k]?
theorem Fr.refl (wr : Nat → Prop) (w : World) : Fr wr w w := ⟨rfl, rfl, rfl, Nat.le_refl _, fun _ _ _ => rfl⟩
theorem Fr.trans {wr : Nat → Prop} {a b c : World} (h : Fr wr a b) {wr' : Nat → Prop} (k : Fr wr' b c) (hs : ∀ n, wr' n → wr n ∨ a.heap.size ≤ n) : Fr wr a c :=
  ⟨k.os.trans h.os, k.tape.trans h.tape, k.output.trans h.output, Nat.le_trans h.size k.size, fun n hn hw =>
    (k.block n (Nat.lt_of_lt_of_le hn h.size) (fun hw' => by
      rcases hs n hw' with h1 | h1
      · exact hw h1
      · omega)).trans (h.block n hn hw)⟩
/-- What stays through a call: blocks of others, the blocks that came in as own, the world at the begin. -/
structure Ctx where
  X : Nat → Prop
  own0 : Nat → Prop
  w0 : World
  T : List (Nat × List Value)
  k0 : ∀ p ∈ T, (∃ e fz, w0.heap[p.1]? = some (.cells p.2.toArray e fz)) ∧ ¬ own0 p.1
structure Rel (C : Ctx) (A : Nat → Prop) (ρ : Nat → RV) (σ : St) (a : Act) (w : World) : Prop where
  len : σ.n = a.tmps.size
  defers : a.defers = []
  slots : ∀ i, SlR w (okOf C.X ρ (getO σ.heap)) ρ (getO σ.heap) (getS σ.slots i) (a.tmps.getD i undef)
  objs : ∀ r, OR w (okOf C.X ρ (getO σ.heap)) ρ (getO σ.heap) (getO σ.heap r) (ρ r)
  inj : ∀ r s, r ≠ s → (getO σ.heap r).live = true → (getO σ.heap s).live = true → ∀ b o c b' o' c', ρ r = .at b o c → ρ s = .at b' o' c' → b ≠ b'
  noX : ∀ r, (getO σ.heap r).live = true → ∀ b o c, ρ r = .at b o c → ¬ C.X b
  xlt : ∀ b, C.X b → b < w.heap.size
  old : ∀ r, (getO σ.heap r).live = true → ∀ b o c, ρ r = .at b o c → C.own0 b ∨ C.w0.heap.size ≤ b
  fr : Fr C.own0 C.w0 w
  inS : ∀ i, SlotIn A (getS σ.slots i)
  inO : ∀ r l, getO σ.heap r = .cells l → ∀ x ∈ l, RefIn A x
  out : ∀ r, ¬ A r → getO σ.heap r = .dead
/-- The tables stand as at the begin. -/
theorem Rel.tab {C : Ctx} {A : Nat → Prop} {ρ : Nat → RV} {σ : St} {a : Act} {w : World} (h : Rel C A ρ σ a w) (p : Nat × List Value) (hp : p ∈ C.T) : (∃ e fz, w.heap[p.1]? = some (.cells p.2.toArray e fz)) ∧ p.1 < C.w0.heap.size := by
  obtain ⟨⟨e, fz, h1⟩, h2⟩ := C.k0 p hp
  have hlt : p.1 < C.w0.heap.size := by
    rcases Nat.lt_or_ge p.1 C.w0.heap.size with h' | h'
    · exact h'
    · rw [Array.getElem?_eq_none h'] at h1
      cases h1
  exact ⟨⟨e, fz, (h.fr.block p.1 hlt h2).trans h1⟩, hlt⟩
end Go.Sym

/- How the relation between a symbolic state and a frame with its world is carried through a step. -/
namespace Go.Sym
def St.put (σ : St) (d : Option Nat) (x : Slot) : St := match d with | some d => ⟨σ.n, putS σ.n σ.slots d x, σ.heap⟩ | none => σ
theorem Act.put_tmps (a : Act) (d : Option Nat) (v : Value) : (a.put d v).tmps = match d with | some d => a.tmps.setIfInBounds d v | none => a.tmps := by cases d <;> rfl
theorem SlotIn.mono {A A' : Nat → Prop} (h : ∀ r, A r → A' r) : ∀ {x : Slot}, SlotIn A x → SlotIn A' x := by
  have key : ∀ x : SV, RefIn A x → RefIn A' x := fun x hx => by
    cases x <;> first | exact h _ hx | trivial | exact fun p hp => h _ (hx p hp)
  intro x hx
  cases x with
  | one x => exact key x hx
  | many l => exact fun x hm => key x (hx x hm)
  | cells l => exact fun x hm => key x (hx x hm)
theorem RefIn.mono {A A' : Nat → Prop} (h : ∀ r, A r → A' r) {x : SV} (hx : RefIn A x) : RefIn A' x := SlotIn.mono h (x := .one x) hx
section
variable {C : Ctx} {A A' : Nat → Prop} {ρ ρ' : Nat → RV} {σ : St} {a : Act} {w w' : World}
theorem Rel.put (h : Rel C A ρ σ a w) (d : Option Nat) (x : Slot) (v : Value) (hx : SlR w (okOf C.X ρ (getO σ.heap)) ρ (getO σ.heap) x v) (hin : SlotIn A x) : Rel C A ρ (σ.put d x) (a.put d v) w := by
  cases d with
  | none => exact h
  | some d =>
    refine ⟨?_, h.defers, fun i => ?_, h.objs, h.inj, h.noX, h.xlt, h.old, h.fr, fun i => ?_, h.inO, h.out⟩
    · show σ.n = (a.tmps.setIfInBounds d v).size
      rw [Array.size_setIfInBounds, h.len]
    · show SlR _ _ _ _ (getS (putS σ.n σ.slots d x) i) ((a.tmps.setIfInBounds d v).getD i undef)
      rw [getS_put]
      by_cases hi : i = d ∧ d < σ.n
      · obtain ⟨rfl, h2⟩ := hi
        rw [if_pos ⟨rfl, h2⟩]
        have : (a.tmps.setIfInBounds i v).getD i undef = v := by
          rw [h.len] at h2
          simp [Array.getD, h2]
        rw [this]
        exact hx
      · rw [if_neg hi]
        have : (a.tmps.setIfInBounds d v).getD i undef = a.tmps.getD i undef := by
          by_cases he : d = i
          · subst he
            have hge : ¬ d < a.tmps.size := fun hlt => hi ⟨rfl, by rw [h.len]; exact hlt⟩
            simp [Array.getD, hge]
          · simp [Array.getD_eq_getD_getElem?, Array.getElem?_setIfInBounds_ne he]
        rw [this]
        exact h.slots i
    · show SlotIn A (getS (putS σ.n σ.slots d x) i)
      rw [getS_put]
      split
      · exact hin
      · exact h.inS i
/-- The object's block is there. -/
theorem OR.lt {ok : Nat → Prop} {H : Nat → HO} {o : HO} {b off cap : Nat} (hl : o.live = true) (h : OR w ok ρ H o (.at b off cap)) : b < w.heap.size := by
  cases o with
  | arr t xs => obtain ⟨c, e, fr, h1, _⟩ := h; exact lt_of_get h1
  | froz t xs => cases hl
  | cells l =>
    obtain ⟨b', cap', c, e, h1, h2, _⟩ := h
    cases h1
    exact lt_of_get h2
  | map k v m =>
    obtain ⟨b', off', cap', es, clock, h1, h2, _⟩ := h
    cases h1
    exact lt_of_get h2
  | dead => cases hl
theorem Rel.ok_step (h : Rel C A ρ σ a w) {heap' : List HO} (U : Nat → Prop)
    (hx : ∀ r, A r → HC (getO σ.heap r) (getO heap' r) ∧ (getO heap' r ≠ .dead → ρ' r = ρ r))
    (hU : ∀ r, ¬ U r → getO heap' r = getO σ.heap r)
    (hfr : Fr (fun b => ∃ r o c, U r ∧ (getO σ.heap r).live = true ∧ ρ r = .at b o c) w w')
    (hnew : ∀ r, U r → (getO heap' r).live = true → ∀ b o c, ρ' r = .at b o c → (∃ s o' c', (getO σ.heap s).live = true ∧ ρ s = .at b o' c') ∨ w.heap.size ≤ b) :
    ∀ b, okOf C.X ρ (getO σ.heap) b → b < w.heap.size → w'.heap[b]? = w.heap[b]? ∧ okOf C.X ρ' (getO heap') b := by
  intro b hb hlt
  refine ⟨hfr.block b hlt (fun ⟨r, o, c, _, h2, h3⟩ => hb.2 r h2 o c h3), hb.1, fun r hl off cap he => ?_⟩
  by_cases hu : U r
  · rcases hnew r hu hl b off cap he with ⟨s, o', c', h1, h2⟩ | h1
    · exact hb.2 s h1 o' c' h2
    · omega
  · rw [hU r hu] at hl
    have hA : A r := by
      by_cases hA : A r
      · exact hA
      · rw [h.out r hA] at hl; cases hl
    have hne : getO heap' r ≠ .dead := by
      rw [hU r hu]
      intro e
      rw [e] at hl
      cases hl
    rw [(hx r hA).2 hne] at he
    exact hb.2 r hl off cap he
theorem Rel.step (h : Rel C A ρ σ a w) {heap' : List HO} (U : Nat → Prop)
    (hA : ∀ r, A r → A' r) (hout : ∀ r, ¬ A' r → getO heap' r = .dead)
    (hx : ∀ r, A r → HC (getO σ.heap r) (getO heap' r) ∧ (getO heap' r ≠ .dead → ρ' r = ρ r))
    (hU : ∀ r, ¬ U r → getO heap' r = getO σ.heap r)
    (hfr : Fr (fun b => ∃ r o c, U r ∧ (getO σ.heap r).live = true ∧ ρ r = .at b o c) w w')
    (hnew : ∀ r, U r → (getO heap' r).live = true → ∀ b o c, ρ' r = .at b o c → (∃ s o' c', (getO σ.heap s).live = true ∧ ρ s = .at b o' c') ∨ w.heap.size ≤ b)
    (hobj : ∀ r, U r → OR w' (okOf C.X ρ' (getO heap')) ρ' (getO heap') (getO heap' r) (ρ' r))
    (hinj : ∀ r s, U r → r ≠ s → (getO heap' r).live = true → (getO heap' s).live = true → ∀ b o c b' o' c', ρ' r = .at b o c → ρ' s = .at b' o' c' → b ≠ b')
    (hinO : ∀ r l, U r → getO heap' r = .cells l → ∀ x ∈ l, RefIn A' x) : Rel C A' ρ' { σ with heap := heap' } a w' := by
  have hw := h.ok_step U hx hU hfr hnew
  have keep : ∀ r, ¬ U r → (getO σ.heap r).live = true → ρ' r = ρ r := fun r hu hl => by
    have hAr : A r := by
      by_cases hA : A r
      · exact hA
      · rw [h.out r hA] at hl; cases hl
    exact (hx r hAr).2 (by rw [hU r hu]; intro e; rw [e] at hl; cases hl)
  have nw : ∀ r, (getO heap' r).live = true → ∀ b o c, ρ' r = .at b o c → (∃ s o' c', (getO σ.heap s).live = true ∧ ρ s = .at b o' c') ∨ w.heap.size ≤ b := fun r hl b o c he => by
    by_cases hu : U r
    · exact hnew r hu hl b o c he
    · rw [hU r hu] at hl
      rw [keep r hu hl] at he
      exact .inl ⟨r, o, c, hl, he⟩
  refine ⟨h.len, h.defers, fun i => SlR.mono hw hx (h.inS i) (h.slots i), fun r => ?_, fun r s hrs hr hs b o c b' o' c' e1 e2 => ?_, fun r hl b o c he => ?_, fun b hb => Nat.lt_of_lt_of_le (h.xlt b hb) hfr.size, fun r hl b o c he => ?_, h.fr.trans hfr (fun n ⟨r, o, c, _, h1, h2⟩ => h.old r h1 n o c h2), fun i => (h.inS i).mono hA, fun r l he x hm => ?_, hout⟩
  · by_cases hu : U r
    · exact hobj r hu
    · show OR _ _ _ _ (getO heap' r) (ρ' r)
      rw [hU r hu]
      by_cases hd : getO σ.heap r = .dead
      · rw [hd]; trivial
      · have hAr : A r := by
          by_cases hA : A r
          · exact hA
          · exact absurd (h.out r hA) hd
        rw [(hx r hAr).2 (by rw [hU r hu]; exact hd)]
        refine OR.mono hw hx (fun hl b off cap he => hfr.block b (OR.lt hl (he ▸ h.objs r)) (fun ⟨s, o', c', h1, h2, h3⟩ => ?_)) (h.inO r) (h.objs r)
        exact h.inj r s (fun e => hu (e ▸ h1)) hl h2 b off cap b o' c' he h3 rfl
  · by_cases hu : U r
    · exact hinj r s hu hrs hr hs b o c b' o' c' e1 e2
    · by_cases hv : U s
      · exact fun e => hinj s r hv (Ne.symm hrs) hs hr b' o' c' b o c e2 e1 e.symm
      · simp only [hU r hu] at hr
        simp only [hU s hv] at hs
        rw [keep r hu hr] at e1
        rw [keep s hv hs] at e2
        exact h.inj r s hrs hr hs b o c b' o' c' e1 e2
  · intro hX
    rcases nw r hl b o c he with ⟨s, o', c', h1, h2⟩ | h1
    · exact h.noX s h1 b o' c' h2 hX
    · have := h.xlt b hX
      omega
  · rcases nw r hl b o c he with ⟨s, o', c', h1, h2⟩ | h1
    · exact h.old s h1 b o' c' h2
    · exact .inr (Nat.le_trans h.fr.size h1)
  · by_cases hu : U r
    · exact hinO r l hu he x hm
    · have he' : getO heap' r = .cells l := he
      rw [hU r hu] at he'
      exact RefIn.mono hA (h.inO r l he' x hm)
/-- A draw alone. -/
theorem Rel.world (h : Rel C A ρ σ a w) (hh : w'.heap = w.heap) (h1 : w'.os = w.os) (h2 : w'.tape = w.tape) (h3 : w'.output = w.output) : Rel C A ρ σ a w' := by
  have hw : ∀ b, okOf C.X ρ (getO σ.heap) b → b < w.heap.size → w'.heap[b]? = w.heap[b]? ∧ okOf C.X ρ (getO σ.heap) b := fun b hb _ => ⟨by rw [hh], hb⟩
  have hx : ∀ r, A r → HC (getO σ.heap r) (getO σ.heap r) ∧ (getO σ.heap r ≠ .dead → ρ r = ρ r) := fun r _ => ⟨HC.refl _, fun _ => rfl⟩
  exact ⟨h.len, h.defers, fun i => SlR.mono hw hx (h.inS i) (h.slots i), fun r => OR.mono hw hx (fun _ _ _ _ _ => by rw [hh]) (h.inO r) (h.objs r), h.inj, h.noX, fun b hb => by rw [hh]; exact h.xlt b hb, h.old,
    ⟨h1.trans h.fr.os, h2.trans h.fr.tape, h3.trans h.fr.output, by rw [hh]; exact h.fr.size, fun k hk hn => by rw [hh]; exact h.fr.block k hk hn⟩, h.inS, h.inO, h.out⟩
end
end Go.Sym

/- The symbolic evaluator: operations. -/
namespace Go.Sym
/-- The operations in which a residual is written. -/
structure Alg where
  branch : {α : Type} → Bool → Option α → Option α → Option α
  loop : {F : Type} → Nat → (F → F) → F → F
  join : {F R : Type} → F → (F → R) → R
  bind : {α β : Type} → Option α → (α → Option β) → Option β
  alt : {α β : Type} → Option α → (α → Option β) → Option β → Option β
def loopR {F : Type} : Nat → (F → F) → F → F
  | 0, _, b => b
  | n + 1, f, b => f (loopR n f b)
def Alg.real : Alg where
  branch := fun b x y => if b then x else y
  loop := loopR
  join := fun j b => b j
  bind := fun x f => x.bind f
  alt := fun x f r => match x with | some a => f a | none => r
/-- A head's slots: a value kept as it was, a datum, an object. -/
inductive SSk where
  | unk | keep | v (t : Ty) | own (r : Nat) | ptr (r i : Nat) | mp (r : Nat) | nilp | fn (f : Nat) (caps : List (Nat × Nat)) | bx (r : Nat)
  deriving DecidableEq
inductive OSk where
  | arr (t : Ty) | cells (l : List SSk) | map (k v : Ty)
  deriving DecidableEq
structure Skel where
  slots : List SSk
  objs : List OSk
/-- A function's form: what it takes; behind the call: which parameters' objects come back, and the results. -/
structure Sig where
  ps : Skel
  back : List Nat
  rs : Skel
/-- A cell of a zero value: known, or an empty row of its own. -/
inductive ZS where
  | sv (x : SV) | row (t : Ty)
structure Cfg where
  ty : List (Nat × Ty)                   -- data types
  one : List Nat                         -- types of one cell that are no data (pointers, maps, functions)
  pt : List Nat                          -- pointer types
  fld : List (Nat × List (Nat × Nat))    -- struct types: each field's offset and type
  zs : List (Nat × List ZS)              -- a type's zero value, cell by cell
  by_ : List (Nat × Nat)                 -- slice types: an element's bytes
  sig : Nat → Sig
  inst : List (Nat × List (Nat × Nat))   -- a function that takes a function: for each such function, its number at that
  base : List (Nat × Nat)                -- such a number's function
  alt : List (Nat × (Nat × Nat)) := []   -- a function's number where the argument at this place is a row of the caller's own
  sec : List (Nat × List (Nat × Nat)) := []   -- for a caller: a number's second number, tried where the first has no answer
def look {α : Type} : List (Nat × α) → Nat → Option α
  | [], _ => none
  | (m, x) :: r, n => if Nat.beq m n then some x else look r n
def Cfg.real (c : Cfg) (f : Nat) : Nat := match look c.base f with | some g => g | none => f
def memN : List Nat → Nat → Bool
  | [], _ => false
  | m :: r, n => if Nat.beq m n then true else memN r n
def constSV : Value → SV
  | .int k n => .v (.int k) n
  | .bool b => .kb b
  | .string s => .v .str s
  | .slice none 0 0 => .nil
  | .pointer none => .nilp
  | _ => .unk
def evS (S : List (Nat × Slot)) : Operand → Slot
  | .tmp t => getS S t
  | .const v => .one (constSV v)
  | .func f => .one (.fn f [])
  | _ => .one .unk
def Slot.sv : Slot → SV | .one x => x | _ => .unk
def evV (S : List (Nat × Slot)) (x : Operand) : SV := (evS S x).sv
abbrev Ups := List (Nat × HO)
def updH (H : List HO) : Ups → List HO
  | [] => H
  | (r, o) :: us => updH (putL .dead H r o) us
/-- Updates laid over the objects. -/
def ovr (H : Nat → HO) : Ups → Nat → HO
  | [], r => H r
  | (q, o) :: us, r => ovr (fun s => if Nat.beq s q then o else H s) us r
/-- An integer's sum and its like, as Go has it. -/
def arith (op : BinOp) (k : IntKind) (a b : Int) : Int :=
  match op with
  | .add => k.wrap (a + b) | .sub => k.wrap (a - b) | .mul => k.wrap (a * b)
  | .quo => k.wrap (a.tdiv b) | .rem => a.tmod b
  | .shl => k.wrap (a * 2 ^ (min b.toNat k.bits)) | .shr => a.fdiv (2 ^ (min b.toNat k.bits))
  | .and => k.wrap (BitVec.ofInt k.bits a &&& BitVec.ofInt k.bits b).toNat
  | .or => k.wrap (BitVec.ofInt k.bits a ||| BitVec.ofInt k.bits b).toNat
  | .xor => k.wrap (BitVec.ofInt k.bits a ^^^ BitVec.ofInt k.bits b).toNat
  | .andNot => k.wrap (BitVec.ofInt k.bits a &&& ~~~ BitVec.ofInt k.bits b).toNat
  | _ => 0
def cmpI (op : BinOp) (a b : Int) : Bool :=
  match op with
  | .eql => a == b | .neq => a != b | .lss => decide (a < b) | .leq => decide (a ≤ b) | .gtr => decide (a > b) | .geq => decide (a ≥ b) | _ => false
def cmpS (op : BinOp) (a b : ByteArray) : Bool :=
  let eq := a.toList == b.toList
  let lt := Op.bytesLess a.toList b.toList
  match op with
  | .eql => eq | .neq => !eq | .lss => lt | .leq => lt || eq | .gtr => !(lt || eq) | .geq => !lt | _ => false
def isArith : BinOp → Bool | .add | .sub | .mul | .and | .or | .xor | .andNot => true | _ => false
def isCmp : BinOp → Bool | .eql | .neq | .lss | .leq | .gtr | .geq => true | _ => false
def asVal : SV → Option DV | .kb b => some ⟨.bool, b⟩ | .v t x => some ⟨t, x⟩ | _ => none
def headQ (j : Nat) (t u : Ty) : Bool := match Nat.beq j 0 with | true => tyq t u | false => false
theorem headQ_eq {j : Nat} {t u : Ty} (h : headQ j t u = true) : t = u := by
  unfold headQ at h
  split at h
  · exact tyq_eq h
  · cases h
theorem headQ_z {j : Nat} {t u : Ty} (h : headQ j t u = true) : j = 0 := by
  unfold headQ at h
  split at h
  · rename_i h0
    exact Nat.eq_of_beq_eq_true h0
  · cases h
/-- A part of a datum: what stands j cells behind its head. -/
def projAt : (t : Ty) → Nat → (u : Ty) → t.den → Option u.den := fun t j u x =>
  if h : headQ j t u = true then some (cast (headQ_eq h) x) else
  match t, x with
  | .pair a b, x => if Nat.ble (j + 1) a.sz then projAt a j u x.1 else projAt b (j - a.sz) u x.2
  | _, _ => none
/-- A datum with a part replaced. -/
def updAt : (t : Ty) → Nat → (u : Ty) → u.den → t.den → Option t.den := fun t j u y x =>
  if h : headQ j u t = true then some (cast (headQ_eq h) y) else
  match t, x with
  | .pair a b, x => if Nat.ble (j + 1) a.sz then (updAt a j u y x.1).map (fun z => (z, x.2)) else (updAt b (j - a.sz) u y x.2).map (fun z => (x.1, z))
  | _, _ => none
/-- A datum's cells. -/
def leaves : (t : Ty) → t.den → List SV
  | .unit, _ => []
  | .pair a b, x => leaves a x.1 ++ leaves b x.2
  | .arr n t, xs => (List.range n).flatMap fun i => leaves t (List.getD xs i t.zero)
  | t, x => [.v t x]
/-- A value where data of type t is wanted. A row of the call's own is handed out by it: never written again. -/
def toVal (H : Nat → HO) (t : Ty) : SV → Option (t.den × Ups)
  | .kb b => if h : tyq Ty.bool t = true then some (cast (tyq_eq h) b, []) else none
  | .v u x => if h : tyq u t = true then some (cast (tyq_eq h) x, []) else none
  | .nil => match t with | .slice _ => some ([], []) | _ => none
  | .own r => match H r with
    | .arr u xs => if h : tyq (Ty.slice u) t = true then some (cast (tyq_eq h) xs, [(r, .froz u xs)]) else none
    | .froz u xs => if h : tyq (Ty.slice u) t = true then some (cast (tyq_eq h) xs, []) else none
    | _ => none
  | .sub r o n => match H r with
    | .arr u xs => if h : tyq (Ty.slice u) t = true then some (cast (tyq_eq h) ((xs.drop o).take n), [(r, .froz u xs)]) else none
    | .froz u xs => if h : tyq (Ty.slice u) t = true then some (cast (tyq_eq h) ((xs.drop o).take n), []) else none
    | _ => none
  | _ => none
/-- The row behind a slice, to be read. -/
def rowOf (H : Nat → HO) : SV → Option DV
  | .v (.slice t) xs => some ⟨.slice t, xs⟩
  | .own r => match H r with | .arr t xs | .froz t xs => some ⟨.slice t, xs⟩ | _ => none
  | .sub r o n => match H r with | .arr t xs | .froz t xs => some ⟨.slice t, (xs.drop o).take n⟩ | _ => none
  | _ => none
def lenOf (H : Nat → HO) : SV → Option Nat
  | .v (.slice _) xs => some xs.length
  | .v .str s => some s.size
  | .nil => some 0
  | .sub r _ n => match H r with | .arr .. | .froz .. => some n | _ => none
  | .own r => match H r with | .arr _ xs | .froz _ xs => some xs.length | _ => none
  | _ => none
def maxRow : Nat := 140737488355328
section
variable {α : Type} (c : Cfg) (A : Alg) (S : List (Nat × Slot)) (H : Nat → HO) (fr : Nat) (k : Slot → Ups → Option α)
def evBin (op : BinOp) (xt : Nat) (x y : SV) : Option α :=
  match asVal x, asVal y with
  | some ⟨.int i, a⟩, some ⟨.int j, b⟩ =>
    match op with
    | .shl | .shr => A.branch (decide (0 ≤ (b : Int))) (k (.one (.v (.int i) (arith op i a b))) []) none
    | _ => if Nat.beq (kindN i) (kindN j) then
        match op with
        | .quo | .rem => A.branch ((b : Int) == 0) none (k (.one (.v (.int i) (arith op i a b))) [])
        | _ => if isArith op then k (.one (.v (.int i) (arith op i a b))) [] else if isCmp op then k (.one (.v .bool (cmpI op a b))) [] else none
      else none
  | some ⟨.bool, a⟩, some ⟨.bool, b⟩ => match look c.ty xt with
    | some .bool => match op with | .eql => k (.one (.v .bool (a == b))) [] | .neq => k (.one (.v .bool (!(a == b)))) [] | _ => none
    | _ => none
  | some ⟨.str, a⟩, some ⟨.str, b⟩ =>
    match op with
    | .add => A.branch (decide (a.size + b.size ≤ 9223372036854775807)) (k (.one (.v .str (a ++ b))) []) none
    | _ => if isCmp op then k (.one (.v .bool (cmpS op a b))) [] else none
  | _, _ => none
def evUn (op : UnOp) (x : SV) : Option α :=
  match op, x with
  | .not, .kb b => k (.one (.kb (!b))) []
  | .not, .v .bool b => k (.one (.v .bool (!b))) []
  | .neg, .v (.int i) a => k (.one (.v (.int i) (arith .sub i 0 a))) []
  | .xor, .v (.int i) a => k (.one (.v (.int i) (arith .xor i (if i.signed then -1 else i.max) a))) []
  | _, _ => none
def evConv (s d : Nat) (x : SV) : Option α :=
  match look c.ty s, look c.ty d with
  | some (.int _), some (.int j) => match x with | .v (.int _) n => k (.one (.v (.int j) (j.wrap n))) [] | _ => none
  | some .str, some .str => match x with | .v .str n => k (.one (.v .str n)) [] | _ => none
  | some (.slice (.int .u8)), some .str => match x with
    | .nil => k (.one (.v .str ByteArray.empty)) []
    | x => match rowOf H x with
      | some ⟨.slice (.int .u8), xs⟩ => k (.one (.v .str ⟨(List.map (fun n => UInt8.ofNat (Int.toNat n)) xs).toArray⟩)) []
      | _ => none
  | _, _ => none
def evLoad (t : Nat) (x : SV) : Option α :=
  match x with
  | .imm u y => match look c.ty t with | some u' => if h : tyq u u' = true then k (.one (.v u' (cast (tyq_eq h) y))) [] else none | none => none
  | .eptr r i j => match H r with
    | .arr u xs | .froz u xs => match look c.ty t with
      | some u' => match projAt u j u' (xs.getD i u.zero) with | some y => k (.one (.v u' y)) [] | none => none
      | none => none
    | _ => none
  | .ptr r i => match H r with
    | .cells l => match look c.ty t with
      | some u =>
        if u.agg then
          let rec gather : (u : Ty) → List SV → Option (u.den × Ups × List SV) := fun u l => match u with
            | .unit => some ((), [], l)
            | .pair a b => match gather a l with
              | some (y, us, l) => match gather b l with | some (z, vs, l) => some ((y, z), us ++ vs, l) | none => none
              | none => none
            | .arr .. | .map .. => none
            | u => match l with | [] => none | x :: l => match toVal H u x with | some (y, us) => some (y, us, l) | none => none
          match gather u (l.drop i) with | some (y, us, _) => k (.one (.v u y)) us | none => none
        else if Nat.ble (i + 1) l.length then k (.one (getL .unk l i)) [] else none
      | none => if memN c.one t && Nat.ble (i + 1) l.length then k (.one (getL .unk l i)) [] else none
    | _ => none
  | _ => none
/-- May x stand in one cell of type u? -/
def liveRow (r : Nat) : Bool := match H r with | .arr .. | .froz .. => true | _ => false
def liveMap (r : Nat) : Bool := match H r with | .map .. => true | _ => false
def okCell (u : Ty) : SV → Bool
  | .kb _ => tyq u .bool
  | .v u' _ => tyq u' u && !u.agg
  | .own r | .sub r _ _ => match u with | .slice _ => liveRow H r | _ => false
  | .mp r => match u with | .map .. => liveMap H r | _ => false
  | _ => false
def isRefSV : SV → Bool | .ptr .. | .nilp | .fn .. => true | .mp r => liveMap H r | _ => false
/-- The cells from i on replaced. -/
def layL (l : List SV) : Nat → List SV → List SV
  | _, [] => l
  | i, x :: xs => layL (setL l i x) (i + 1) xs
def freeOf (us : Ups) (r : Nat) : Bool := us.all fun p => !(Nat.beq p.1 r)
/-- What is laid into a cell of type t (type u, if that is data); 'nil' becomes a row of its own. -/
def cellOf (t : Nat) (x : SV) : Option (List SV × Ups) :=
  match look c.ty t with
  | some u =>
    match x, u with
    | .nil, .slice e => some ([.own fr], [(fr, .arr e [])])
    | x, u => if u.agg then match toVal H u x with | some (y, us) => some (leaves u y, us) | none => none
      else if okCell H u x then some ([x], []) else none
  | none => if memN c.one t && isRefSV H x then some ([x], []) else none
def evStore (t : Nat) (a x : SV) : Option α :=
  match a with
  | .ptr r i => match H r with
    | .cells l => match cellOf c H fr t x with
      | some (ys, us) => if Nat.ble (i + ys.length) l.length && freeOf us r then k (.one .unk) (us ++ [(r, .cells (layL l i ys))]) else none
      | none => none
    | _ => none
  | .eptr r i j => match H r with
    | .arr u xs => match look c.ty t with
      | some u' => match toVal H u' x with
        | some (y, us) => match updAt u j u' y (xs.getD i u.zero) with
          | some z => if freeOf us r then k (.one .unk) (us ++ [(r, .arr u (xs.set i z))]) else none
          | none => none
        | none => none
      | none => none
    | _ => none
  | _ => none
/-- A zero value's cells: rows of their own from n on. -/
def zeroCells : Nat → List ZS → List SV × Ups
  | _, [] => ([], [])
  | n, .sv x :: l => let (xs, us) := zeroCells n l; (x :: xs, us)
  | n, .row t :: l => let (xs, us) := zeroCells (n + 1) l; (.own n :: xs, (n, .arr t []) :: us)
def evAlloc (t : Nat) : Option α :=
  match look c.zs t with
  | some l => let (xs, us) := zeroCells (fr + 1) l; k (.one (.ptr fr 0)) (us ++ [(fr, .cells xs)])
  | none => none
def evBox (t : Nat) (x : Slot) : Option α :=
  match x with
  | .one x => match cellOf c H (fr + 1) t x with | some (ys, us) => k (.one (.ptr fr 0)) (us ++ [(fr, .cells ys)]) | none => none
  | .cells l => k (.one (.ptr fr 0)) [(fr, .cells l)]
  | _ => none
/-- A struct literal of data. -/
def buildV (fs : List (Nat × Nat)) (u : Ty) : List (Nat × SV) → u.den → Option (u.den × Ups)
  | [], x => some (x, [])
  | (i, y) :: ps, x => match fs[i]? with
    | some (off, ft) => match look c.ty ft with
      | some a => match toVal H a y with
        | some (z, us) => match updAt u off a z x with
          | some x' => match buildV fs u ps x' with | some (r, vs) => some (r, us ++ vs) | none => none
          | none => none
        | none => none
      | none => none
    | none => none
/-- A struct literal that holds references, cell by cell. -/
def buildC (fs : List (Nat × Nat)) : (Nat → HO) → List (Nat × SV) → Nat → List SV → Option (List SV × Ups)
  | _, [], _, l => some (l, [])
  | H, (i, y) :: ps, n, l => match fs[i]? with
    | some (off, ft) => match cellOf c H n ft y with
      | some (ys, us) => if Nat.ble (off + ys.length) l.length then
          match buildC fs (ovr H us) ps (n + 1) (layL l off ys) with | some (l', vs) => some (l', us ++ vs) | none => none
        else none
      | none => none
    | none => none
def evBuild (t : Nat) (ps : List (Nat × SV)) : Option α :=
  match look c.fld t with
  | none => none
  | some fs => match look c.ty t with
    | some u => match buildV c H fs u ps u.zero with | some (x, us) => k (.one (.v u x)) us | none => none
    | none => match look c.zs t with
      | some l => let (xs, us) := zeroCells fr l
        match buildC c fs (ovr H us) ps (fr + us.length) xs with | some (l', vs) => k (.cells l') (us ++ vs) | none => none
      | none => none
def buildRow (u : Ty) : List (Nat × SV) → List u.den → Option (List u.den × Ups)
  | [], xs => some (xs, [])
  | (i, y) :: ps, xs => match toVal H u y with
    | some (z, us) => if Nat.ble (i + 1) xs.length then match buildRow u ps (xs.set i z) with | some (r, vs) => some (r, us ++ vs) | none => none else none
    | none => none
def bsOk (n sz : Nat) (ps : List (Nat × SV)) : Bool := Nat.ble (n * sz) 16777216 && (match Nat.beq n 0 with | true => ps.isEmpty | false => Nat.ble 1 (n * sz))
def evBuildSlice (t n : Nat) (ps : List (Nat × SV)) : Option α :=
  match look c.ty t with
  | some (.slice u) => if bsOk n u.sz ps then match buildRow H u ps (List.replicate n u.zero) with | some (xs, us) => k (.one (.own fr)) (us ++ [(fr, .arr u xs)]) | none => none else none
  | _ => none
def intOf : SV → Option Int | .v (.int _) n => some n | _ => none
def evMakeSlice (t : Nat) (l m : SV) : Option α :=
  match look c.ty t, look c.by_ t, intOf l, intOf m with
  | some (.slice u), some q, some n, some m =>
    A.branch (decide (0 ≤ n)) (A.branch (decide (n ≤ m)) (A.branch (decide (m * q ≤ 140737488355328)) (k (.one (.own fr)) [(fr, .arr u (List.replicate n.toNat u.zero))]) none) none) none
  | _, _, _, _ => none
/-- Is x a value of type t, a slice or a string? -/
def slFit (t : Nat) (x : SV) : Bool :=
  match look c.ty t, x with
  | some (.slice u), .v (.slice u') _ => tyq u' u
  | some (.slice u), .own r | some (.slice u), .sub r _ _ => match H r with | .arr u' _ | .froz u' _ => tyq u' u | _ => false
  | some (.slice _), .nil => true
  | some .str, .v .str _ => true
  | _, _ => false
def evSlice (t : Nat) (x : SV) (l h : Int) : Option α :=
  match lenOf H x, slFit c H t x with
  | some n, true =>
    A.branch (decide (0 ≤ l)) (A.branch (decide (l ≤ h)) (A.branch (decide (h ≤ (n : Int)))
      (match x with
        | .v (.slice t) xs => k (.one (.v (.slice t) ((List.take h.toNat xs).drop l.toNat))) []
        | .v .str s => k (.one (.v .str (ByteArray.extract s l.toNat h.toNat))) []
        | .own r => k (.one (.sub r l.toNat (h.toNat - l.toNat))) []
        | .sub r o _ => k (.one (.sub r (o + l.toNat) (h.toNat - l.toNat))) []
        | .nil => k (.one .nil) []
        | _ => none) none) none) none
  | _, _ => none
def evIndexAddr (t : Nat) (x ix : SV) : Option α :=
  match intOf ix, lenOf H x, slFit c H t x with
  | some i, some n, true =>
    A.branch (decide (0 ≤ i)) (A.branch (decide (i < (n : Int)))
      (match x with
        | .v (.slice t) xs => k (.one (.imm t (List.getD xs i.toNat t.zero))) []
        | .own r => k (.one (.eptr r i.toNat 0)) []
        | .sub r o _ => k (.one (.eptr r (o + i.toNat) 0)) []
        | _ => none) none) none
  | _, _, _ => none
def evIndex (t : Nat) (x ix : SV) : Option α :=
  match x, intOf ix, look c.ty t with
  | .v .str s, some i, some .str => A.branch (decide (0 ≤ i)) (A.branch (decide (i < (s.size : Int))) (k (.one (.v (.int .u8) ((s.data.toList.getD i.toNat 0).toNat : Int))) []) none) none
  | _, _, _ => none
def evFieldAddr (t : Nat) (x : SV) (f : Nat) : Option α :=
  match look c.fld t with
  | none => none
  | some fs => match fs[f]? with
    | none => none
    | some (off, ft) => match x with
      | .ptr r i => k (.one (.ptr r (i + off))) []
      | .eptr r i j => k (.one (.eptr r i (j + off))) []
      | .imm u y => match look c.ty t, look c.ty ft with
        | some u', some a => if tyq u u' then match projAt u off a y with | some z => k (.one (.imm a z)) [] | none => none else none
        | _, _ => none
      | _ => none
def evField (t : Nat) (x : SV) (f : Nat) : Option α :=
  match look c.fld t, x with
  | some fs, .v u y => match fs[f]?, look c.ty t with
    | some (off, ft), some u' => match look c.ty ft with
      | some a => if tyq u u' then match projAt u off a y with | some z => k (.one (.v a z)) [] | none => none else none
      | none => none
    | _, _ => none
  | _, _ => none
/-- What an append brings, as rows of u. -/
def appSrc (u : Ty) : SV → Option (List u.den)
  | .nil => some []
  | .v .str s => if h : tyq (Ty.slice (.int .u8)) (Ty.slice u) = true then some (cast (tyq_eq h) (s.data.toList.map fun b => (b.toNat : Int))) else none
  | y => match rowOf H y with
    | some ⟨t', ys⟩ => if h : tyq t' (Ty.slice u) = true then some (cast (tyq_eq h) ys) else none
    | none => none
/-- The array at cell j of an element of a row. -/
def arrIn (H : Nat → HO) (r i j n : Nat) (e : Ty) : Option (List e.den) := match H r with | .arr u xs | .froz u xs => projAt u j (.arr n e) (xs.getD i u.zero) | _ => none
/-- What a copy or an append brings, a part of an array too. -/
def appSrcX (H : Nat → HO) (u : Ty) : SV → Option (List u.den)
  | .asl r i j lo len n e => match arrIn H r i j n e with
    | some zs => if h : tyq e u = true then some (((cast (t := .slice e) (u := .slice u) (congrArg Ty.slice (tyq_eq h)) zs).drop lo).take len) else none
    | none => none
  | y => appSrc H u y
def isSrc : Option Ty → Bool | some (.slice _) | some .str => true | _ => false
def evAppend (t t2 : Nat) (x y : SV) : Option α :=
  match look c.ty t, look c.by_ t, isSrc (look c.ty t2) with
  | some (.slice u), some q, true =>
    match appSrcX H u y with
    | none => none
    | some ys =>
      match x with
      | .nil => A.branch (decide (ys.length * q ≤ 140737488355328)) (k (.one (.own fr)) [(fr, .arr u ys)]) none
      | .own r =>
        match H r with
        | .arr u' xs =>
          if h : tyq (Ty.slice u') (Ty.slice u) = true then
            A.branch (decide ((xs.length + ys.length) * q ≤ 140737488355328)) (k (.one (.own fr)) [(r, .dead), (fr, .arr u (List.append (cast (tyq_eq h) xs) ys))]) none
          else none
        | _ => none
      | _ => none
  | _, _, _ => none
def keyEq : (k : Ty) → k.den → k.den → Bool
  | .int _, a, b => a == b
  | .str, a, b => a == b
  | .bool, a, b => a == b
  | _, _, _ => false
def isKey : Ty → Bool | .int _ | .str | .bool => true | _ => false
def mget {k v : Ty} : List (k.den × v.den) → k.den → Option v.den
  | [], _ => none
  | (a, x) :: m, b => if keyEq k b a then some x else mget m b
def mset {k v : Ty} : List (k.den × v.den) → k.den → v.den → List (k.den × v.den)
  | [], b, y => [(b, y)]
  | (a, x) :: m, b, y => if keyEq k b a then (b, y) :: m else (a, x) :: mset m b y
def mapFit (t : Nat) (kt vt : Ty) : Bool := match look c.ty t with | some u => tyq u (.map kt vt) | none => false
def evLen (t : Nat) (x : SV) : Option α :=
  match look c.ty t with
  | some (.map ..) => match x with
    | .mp r => match H r with | .map _ _ m => k (.one (.v (.int .i64) (m.length : Int))) [] | _ => none
    | _ => none
  | some .str => match x with | .v .str s => k (.one (.v (.int .i64) (s.size : Int))) [] | _ => none
  | some (.slice _) => match x with | .v .str _ => none | x => match lenOf H x with | some n => k (.one (.v (.int .i64) (n : Int))) [] | none => none
  | _ => none
def evLookup (t : Nat) (m key : SV) (ok : Bool) : Option α :=
  match m with
  | .mp r => match H r with
    | .map kt vt es => if isKey kt && mapFit c t kt vt then match toVal H kt key with
        | some (b, []) => if ok then k (.many [.v vt ((mget es b).getD vt.zero), .v .bool (mget es b).isSome]) [] else k (.one (.v vt ((mget es b).getD vt.zero))) []
        | _ => none
      else none
    | _ => none
  | _ => none
def evMapUpdate (t : Nat) (m key x : SV) : Option α :=
  match m with
  | .mp r => match H r with
    | .map kt vt es => if isKey kt && mapFit c t kt vt then match toVal H kt key, toVal H vt x with
        | some (b, []), some (y, us) => if freeOf us r then k (.one .unk) (us ++ [(r, .map kt vt (mset es b y))]) else none
        | _, _ => none
      else none
    | _ => none
  | _ => none
def evMakeMap (t : Nat) : Option α :=
  match look c.ty t with
  | some (.map kt vt) => k (.one (.mp fr)) [(fr, .map kt vt [])]
  | _ => none
def capsOf : List SV → Option (List (Nat × Nat))
  | [] => some []
  | .ptr r i :: l => match capsOf l with | some r' => some ((r, i) :: r') | none => none
  | _ => none
def mm (isMax : Bool) (a b : Int) : Int := if isMax then (if b > a then b else a) else (if b < a then b else a)
def foldMM (isMax : Bool) (i : IntKind) : List SV → Int → Option Int
  | [], a => some a
  | .v (.int j) b :: l, a => if Nat.beq (kindN i) (kindN j) then foldMM isMax i l (mm isMax a b) else none
  | _, _ => none
def evMinMax (isMax : Bool) : List SV → Option α
  | .v (.int i) a :: l => match foldMM isMax i l a with | some r => k (.one (.v (.int i) r)) [] | none => none
  | _ => none
/-! ### arrays in a row's elements -/
def arrTy (t : Nat) : Option (Nat × Ty) := match look c.ty t with | some (.arr n e) => some (n, e) | _ => none
def evLoadX (t : Nat) (x : SV) : Option α :=
  match x with
  | .xptr r i j l n e => match arrIn H r i j n e with
    | some ys => match look c.ty t with
      | some e' => if h : tyq e e' = true then k (.one (.v e' (cast (tyq_eq h) (List.getD ys l e.zero)))) [] else none
      | none => none
    | none => none
  | x => evLoad c H k t x
/-- An array of a row's element is replaced. -/
def putArr (r i j n : Nat) (e : Ty) (ys : List e.den) (us : Ups) (q : SV) : Option α :=
  match H r with
  | .arr u xs => match updAt u j (.arr n e) ys (xs.getD i u.zero) with
    | some z => if freeOf us r then k (.one q) (us ++ [(r, .arr u (xs.set i z))]) else none
    | none => none
  | _ => none
def evStoreX (t : Nat) (a x : SV) : Option α :=
  match a with
  | .xptr r i j l n e => match look c.ty t with
    | some e' => if tyq e e' then match toVal H e x with
      | some (y, us) => match arrIn H r i j n e with
        | some ys => putArr H k r i j n e (List.set ys l y) us .unk
        | none => none
      | none => none else none
    | none => none
  | a => evStore c H fr k t a x
def evAllocX (t : Nat) : Option α :=
  match look c.zs t with
  | some _ => evAlloc c fr k t
  | none => match look c.ty t with
    | some u => match u with
      | .pair .. | .arr .. => k (.one (.bx fr)) [(fr, .arr u [u.zero])]
      | _ => none
    | none => none
def evIndexAddrX (t : Nat) (x ix : SV) : Option α :=
  match arrTy c t with
  | some (n, e) => match x with
    | .eptr r i j => match intOf ix with
      | some m => A.branch (decide (0 ≤ m)) (A.branch (decide (m < (n : Int))) (k (.one (.xptr r i j m.toNat n e)) []) none) none
      | none => none
    | _ => none
  | none => evIndexAddr c A H k t x ix
def evSliceX (t : Nat) (x : SV) (l : Option Int) (h : Option (Option Int)) : Option α :=
  match l with
  | none => none
  | some l => match arrTy c t with
    | some (n, e) => match x with
      | .eptr r i j => match (match h with | none => some (n : Int) | some h => h) with
        | some h => A.branch (decide (0 ≤ l)) (A.branch (decide (l ≤ h)) (A.branch (decide (h ≤ (n : Int))) (k (.one (.asl r i j l.toNat (h.toNat - l.toNat) n e)) []) none) none) none
        | none => none
      | _ => none
    | none => match (match h with | none => (lenOf H x).map fun n => (n : Int) | some h => h) with
      | some h => evSlice c A H k t x l h
      | none => none
def evCopy (t : Nat) (x y : SV) : Option α :=
  match x with
  | .asl r i j lo len n e => match look c.ty t with
    | some (.slice e') => if tyq e e' then match appSrcX H e y with
      | some ys => match arrIn H r i j n e with
        | some zs => putArr H k r i j n e (List.take lo zs ++ (List.take (min ys.length len) ys ++ List.drop (lo + min ys.length len) zs)) [] (.v (.int .i64) ((min ys.length len : Nat) : Int))
        | none => none
      | none => none else none
    | _ => none
  | _ => none
/-- A string's bytes, as a new row that is never written. -/
def evBytes (s d : Nat) (x : SV) : Option α :=
  match look c.ty s, look c.ty d, x with
  | some .str, some (.slice (.int .u8)), .v .str s => k (.one (.own fr)) [(fr, .froz (.int .u8) (s.data.toList.map fun b => (b.toNat : Int)))]
  | some (.slice (.int .u8)), some (.slice (.int .u8)), .own r => match H r with
    | .arr (.int .u8) xs => if Nat.beq s d then A.branch (decide (0 < xs.length)) (k (.one (.own r)) [(r, .froz (.int .u8) xs)]) none else none
    | _ => none
  | _, _, _ => evConv c H k s d x
end
end Go.Sym

/- What an operation leaves behind: changes of objects, one kind at a time. -/
namespace Go.Sym
theorem getO_put (l : List HO) (i j : Nat) (x : HO) : getO (putL .dead l i x) j = if j = i then x else getO l j := getL_put .dead x l i j
theorem updH_app : ∀ (us vs : Ups) (H : List HO), updH H (us ++ vs) = updH (updH H us) vs
  | [], _, _ => rfl
  | (r, o) :: us, vs, H => by rw [List.cons_append, updH, updH, updH_app us vs]
theorem getO_upd_not : ∀ (us : Ups) (H : List HO) (r : Nat), (∀ p ∈ us, p.1 ≠ r) → getO (updH H us) r = getO H r
  | [], _, _, _ => rfl
  | (q, o) :: us, H, r, h => by
    rw [updH, getO_upd_not us _ r (fun p hp => h p (List.mem_cons_of_mem _ hp)), getO_put, if_neg (fun e => h (q, o) (List.mem_cons_self ..) e.symm)]
/-- What the updates lay down last. -/
theorem getO_upd_mem : ∀ (us : Ups) (H : List HO) (r : Nat), (∃ p ∈ us, p.1 = r) → ∃ p ∈ us, p.1 = r ∧ getO (updH H us) r = p.2
  | [], _, _, ⟨_, h, _⟩ => by cases h
  | (q, o) :: us, H, r, h => by
    by_cases h2 : ∃ p ∈ us, p.1 = r
    · obtain ⟨p, h3, h4, h5⟩ := getO_upd_mem us (putL .dead H q o) r h2
      exact ⟨p, List.mem_cons_of_mem _ h3, h4, h5⟩
    · have h3 : q = r := by
        obtain ⟨p, h4, h5⟩ := h
        cases h4 with
        | head => exact h5
        | tail _ h6 => exact absurd ⟨p, h6, h5⟩ h2
      refine ⟨(q, o), List.mem_cons_self .., h3, ?_⟩
      rw [updH, getO_upd_not us _ r (fun p hp e => h2 ⟨p, hp, e⟩), getO_put, if_pos h3.symm]
theorem freeOf_iff (us : Ups) (r : Nat) : freeOf us r = true ↔ ∀ p ∈ us, p.1 ≠ r := by
  unfold freeOf
  rw [List.all_eq_true]
  refine ⟨fun h p hp e => ?_, fun h p hp => ?_⟩
  · have := h p hp
    rw [e, Nat.beq_refl] at this
    cases this
  · have := h p hp
    cases h2 : Nat.beq p.1 r with
    | false => rfl
    | true => exact absurd (Nat.eq_of_beq_eq_true h2) (h p hp)
def refs (us : Ups) (r : Nat) : Prop := ∃ p ∈ us, p.1 = r
/-- The blocks that data may lie in stay; so do values. -/
structure Hp (X : Nat → Prop) (ρ ρ' : Nat → RV) (h h' : List HO) (w w' : World) : Prop where
  sz : w.heap.size ≤ w'.heap.size
  hp : ∀ b, okOf X ρ (getO h) b → b < w.heap.size → w'.heap[b]? = w.heap[b]? ∧ okOf X ρ' (getO h') b
theorem Hp.refl (X : Nat → Prop) (ρ : Nat → RV) (h : List HO) (w : World) : Hp X ρ ρ h h w w := ⟨Nat.le_refl _, fun _ hb _ => ⟨rfl, hb⟩⟩
theorem Hp.trans {X : Nat → Prop} {ρ ρ' ρ'' : Nat → RV} {h h' h'' : List HO} {w w' w'' : World} (a : Hp X ρ ρ' h h' w w') (b : Hp X ρ' ρ'' h' h'' w' w'') : Hp X ρ ρ'' h h'' w w'' :=
  ⟨Nat.le_trans a.sz b.sz, fun k hk hl => by
    obtain ⟨h1, h2⟩ := a.hp k hk hl
    obtain ⟨h3, h4⟩ := b.hp k h2 (Nat.lt_of_lt_of_le hl a.sz)
    exact ⟨h3.trans h1, h4⟩⟩
/-- Values of before hold behind. -/
def Mono (A : Nat → Prop) (X : Nat → Prop) (ρ ρ' : Nat → RV) (h h' : List HO) (w w' : World) : Prop :=
  ∀ x u, RefIn A x → SR w (okOf X ρ (getO h)) ρ (getO h) x u → SR w' (okOf X ρ' (getO h')) ρ' (getO h') x u
theorem Mono.slot {A X : Nat → Prop} {ρ ρ' : Nat → RV} {h h' : List HO} {w w' : World} (m : Mono A X ρ ρ' h h' w w') {x : Slot} {u : Value} (hi : SlotIn A x)
    (hs : SlR w (okOf X ρ (getO h)) ρ (getO h) x u) : SlR w' (okOf X ρ' (getO h')) ρ' (getO h') x u := by
  cases x with
  | one x => exact m x u hi hs
  | many l =>
    obtain ⟨vs, e1, e2, h3⟩ := hs
    exact ⟨vs, e1, e2, fun i hl => m _ _ (hi _ (getL_mem _ l i hl)) (h3 i hl)⟩
  | cells l =>
    obtain ⟨vs, e1, e2, h3⟩ := hs
    exact ⟨vs, e1, e2, fun i hl => m _ _ (hi _ (getL_mem _ l i hl)) (h3 i hl)⟩
/-- A state behind an operation. -/
structure Aft (C : Ctx) (A : Nat → Prop) (ρ : Nat → RV) (σ : St) (a : Act) (w : World) (us : Ups) (ρ' : Nat → RV) (w' : World) : Prop where
  rel : Rel C (fun r => A r ∨ refs us r) ρ' { σ with heap := updH σ.heap us } a w'
  hp : Hp C.X ρ ρ' σ.heap (updH σ.heap us) w w'
  mono : Mono A C.X ρ ρ' σ.heap (updH σ.heap us) w w'
section
variable {C : Ctx} {A A' : Nat → Prop} {ρ ρ' ρ'' : Nat → RV} {σ σ' : St} {a : Act} {w w' w'' : World} {us vs : Ups}
theorem Rel.widen (h : Rel C A ρ σ a w) (hA : ∀ r, A r → A' r) (hd : ∀ r, ¬ A' r → getO σ.heap r = .dead) : Rel C A' ρ σ a w :=
  ⟨h.len, h.defers, h.slots, h.objs, h.inj, h.noX, h.xlt, h.old, h.fr, fun i => (h.inS i).mono hA, fun r l e x hx => (h.inO r l e x hx).mono hA, hd⟩
/-- Only what slots and objects say counts. -/
theorem Rel.congr (h : Rel C A ρ σ a w) (hn : σ'.n = σ.n) (hs : ∀ i, getS σ'.slots i = getS σ.slots i) (hh : ∀ r, getO σ'.heap r = getO σ.heap r) : Rel C A ρ σ' a w := by
  have e : getO σ'.heap = getO σ.heap := funext hh
  refine ⟨by rw [hn]; exact h.len, h.defers, fun i => by rw [hs, e]; exact h.slots i, fun r => by rw [e]; exact h.objs r, by rw [e]; exact h.inj, by rw [e]; exact h.noX, h.xlt, by rw [e]; exact h.old, h.fr, fun i => by rw [hs]; exact h.inS i, by rw [e]; exact h.inO, by rw [e]; exact h.out⟩
theorem Aft.nil (h : Rel C A ρ σ a w) : Aft C A ρ σ a w [] ρ w :=
  ⟨h.widen (fun _ h => .inl h) (fun r hr => h.out r (fun h => hr (.inl h))), Hp.refl .., fun _ _ _ h => h⟩
theorem refs_app (us vs : Ups) (r : Nat) : refs (us ++ vs) r ↔ refs us r ∨ refs vs r := by
  constructor
  · rintro ⟨p, hp, e⟩
    rcases List.mem_append.1 hp with hp | hp
    · exact .inl ⟨p, hp, e⟩
    · exact .inr ⟨p, hp, e⟩
  · rintro (⟨p, hp, e⟩ | ⟨p, hp, e⟩)
    · exact ⟨p, List.mem_append_left _ hp, e⟩
    · exact ⟨p, List.mem_append_right _ hp, e⟩
theorem Aft.trans (h : Aft C A ρ σ a w us ρ' w') (k : Aft C (fun r => A r ∨ refs us r) ρ' { σ with heap := updH σ.heap us } a w' vs ρ'' w'') : Aft C A ρ σ a w (us ++ vs) ρ'' w'' := by
  have e : updH σ.heap (us ++ vs) = updH (updH σ.heap us) vs := updH_app us vs _
  refine ⟨?_, ?_, ?_⟩
  · have := k.rel
    rw [← e] at this
    exact this.widen (fun r hr => by
      rw [refs_app]
      rcases hr with (h | h) | h
      · exact .inl h
      · exact .inr (.inl h)
      · exact .inr (.inr h)) (fun r hr => this.out r (fun h => hr (by
      rw [refs_app]
      rcases h with (h | h) | h
      · exact .inl h
      · exact .inr (.inl h)
      · exact .inr (.inr h))))
  · rw [e]; exact h.hp.trans k.hp
  · intro x u hx hs
    rw [e]
    exact k.mono x u (hx.mono (fun _ h => .inl h)) (h.mono x u hx hs)
theorem Rel.lt (h : Rel C A ρ σ a w) {r b off cap : Nat} (hl : (getO σ.heap r).live = true) (e : ρ r = .at b off cap) : b < w.heap.size := OR.lt hl (e ▸ h.objs r)
/-- A change of some objects, as 'Aft'. -/
theorem Rel.aft (h : Rel C A ρ σ a w) (us : Ups)
    (hx : ∀ r, A r → HC (getO σ.heap r) (getO (updH σ.heap us) r) ∧ (getO (updH σ.heap us) r ≠ .dead → ρ' r = ρ r))
    (hfr : Fr (fun b => ∃ r o c, refs us r ∧ (getO σ.heap r).live = true ∧ ρ r = .at b o c) w w')
    (hnew : ∀ r, refs us r → (getO (updH σ.heap us) r).live = true → ∀ b o c, ρ' r = .at b o c → (∃ s o' c', (getO σ.heap s).live = true ∧ ρ s = .at b o' c') ∨ w.heap.size ≤ b)
    (hobj : Hp C.X ρ ρ' σ.heap (updH σ.heap us) w w' → Mono A C.X ρ ρ' σ.heap (updH σ.heap us) w w' → ∀ r, refs us r → OR w' (okOf C.X ρ' (getO (updH σ.heap us))) ρ' (getO (updH σ.heap us)) (getO (updH σ.heap us) r) (ρ' r))
    (hinj : ∀ r s, refs us r → r ≠ s → (getO (updH σ.heap us) r).live = true → (getO (updH σ.heap us) s).live = true → ∀ b o c b' o' c', ρ' r = .at b o c → ρ' s = .at b' o' c' → b ≠ b')
    (hinO : ∀ r l, refs us r → getO (updH σ.heap us) r = .cells l → ∀ x ∈ l, RefIn (fun r => A r ∨ refs us r) x) : Aft C A ρ σ a w us ρ' w' := by
  have hU : ∀ r, ¬ refs us r → getO (updH σ.heap us) r = getO σ.heap r := fun r hr => getO_upd_not us _ r (fun p hp e => hr ⟨p, hp, e⟩)
  have hw := h.ok_step (refs us) hx hU hfr hnew
  have hp : Hp C.X ρ ρ' σ.heap (updH σ.heap us) w w' := ⟨hfr.size, hw⟩
  have hm : Mono A C.X ρ ρ' σ.heap (updH σ.heap us) w w' := fun x u hr hs => SR.mono hw hx hr hs
  exact ⟨h.step (refs us) (fun _ h => .inl h) (fun r hr => by
    rw [hU r (fun h => hr (.inr h))]
    exact h.out r (fun h => hr (.inl h))) hx hU hfr hnew (hobj hp hm) hinj hinO, hp, hm⟩
/-- One object changes, or comes. -/
theorem Rel.aft1 (h : Rel C A ρ σ a w) (r : Nat) (o : HO) (rv : RV)
    (hx : A r → HC (getO σ.heap r) o ∧ (o ≠ .dead → rv = ρ r))
    (hfr : Fr (fun b => ∃ o c, (getO σ.heap r).live = true ∧ ρ r = .at b o c) w w')
    (hnew : o.live = true → ∀ b off c, rv = .at b off c → (∃ o' c', (getO σ.heap r).live = true ∧ ρ r = .at b o' c') ∨ w.heap.size ≤ b)
    (hobj : ∀ ρ', (∀ s, s ≠ r → ρ' s = ρ s) → ρ' r = rv → Hp C.X ρ ρ' σ.heap (updH σ.heap [(r, o)]) w w' → Mono A C.X ρ ρ' σ.heap (updH σ.heap [(r, o)]) w w' →
      getO (updH σ.heap [(r, o)]) r = o → OR w' (okOf C.X ρ' (getO (updH σ.heap [(r, o)]))) ρ' (getO (updH σ.heap [(r, o)])) o rv)
    (hinO : ∀ l, o = .cells l → ∀ x ∈ l, RefIn (fun q => A q ∨ q = r) x) : ∃ ρ', (∀ s, s ≠ r → ρ' s = ρ s) ∧ ρ' r = rv ∧ Aft C A ρ σ a w [(r, o)] ρ' w' := by
  have hrefs : ∀ s, refs [(r, o)] s ↔ s = r := fun s => ⟨fun ⟨p, hp, e⟩ => (by
    cases hp with
    | head => exact e.symm
    | tail _ h => cases h), fun e => ⟨(r, o), List.mem_cons_self .., e.symm⟩⟩
  have hget : ∀ s, getO (updH σ.heap [(r, o)]) s = if s = r then o else getO σ.heap s := fun s => by rw [updH, updH, getO_put]
  let ρ' : Nat → RV := fun s => if s = r then rv else ρ s
  have hρ : ∀ s, s ≠ r → ρ' s = ρ s := fun s hs => if_neg hs
  have hρr : ρ' r = rv := if_pos rfl
  refine ⟨ρ', hρ, hρr, h.aft (ρ' := ρ') [(r, o)] ?_ ?_ ?_ ?_ ?_ ?_⟩
  · intro s hs
    rw [hget]
    by_cases e : s = r
    · subst e
      rw [if_pos rfl, hρr]
      exact hx hs
    · rw [if_neg e, hρ s e]
      exact ⟨HC.refl _, fun _ => rfl⟩
  · refine ⟨hfr.os, hfr.tape, hfr.output, hfr.size, fun k hk hn => hfr.block k hk (fun ⟨o', c', h1, h2⟩ => hn ⟨r, o', c', (hrefs r).2 rfl, h1, h2⟩)⟩
  · intro s hs hl b off c he
    rw [hrefs] at hs
    subst hs
    rw [hget, if_pos rfl] at hl
    rw [hρr] at he
    rcases hnew hl b off c he with ⟨o', c', h1, h2⟩ | h1
    · exact .inl ⟨s, o', c', h1, h2⟩
    · exact .inr h1
  · intro hp hm s hs
    rw [hrefs] at hs
    subst hs
    have h1 := hobj ρ' hρ hρr hp hm (by rw [hget, if_pos rfl])
    have h2 : getO (updH σ.heap [(s, o)]) s = o := by rw [hget, if_pos rfl]
    rw [h2, hρr]
    exact h1
  · intro s t hs hst hl ht b off c b' off' c' e1 e2
    rw [hrefs] at hs
    subst hs
    rw [hget, if_pos rfl] at hl
    have hts : t ≠ s := Ne.symm hst
    rw [hget, if_neg hts] at ht
    rw [hρr] at e1
    rw [hρ t hts] at e2
    have hlt := h.lt ht e2
    rcases hnew hl b off c e1 with ⟨o', c'', h1, h2⟩ | h1
    · exact h.inj s t hst h1 ht b o' c'' b' off' c' h2 e2
    · omega
  · intro s l hs he x hm
    rw [hrefs] at hs
    subst hs
    rw [hget, if_pos rfl] at he
    exact (hinO l he x hm).mono (fun q hq => hq.imp id (fun e => (hrefs q).2 e))
end
end Go.Sym

/- Data out of symbolic values: parts, rows handed out, rows read. -/
namespace Go.Sym
/-! ### parts of data -/
section
variable {w : World} {ok : Nat → Prop}
theorem cast_TR {t u : Ty} (h : t = u) {x : t.den} {cs : List Value} (k : TR w ok t x cs) : TR w ok u (cast h x) cs := by subst h; exact k
theorem cast_VR {t u : Ty} (h : t = u) {x : t.den} {v : Value} (k : VR w ok t x v) : VR w ok u (cast h x) v := by subst h; exact k
theorem proj_TR : ∀ (t : Ty) (j : Nat) (u : Ty) (x : t.den) (y : u.den) (cs : List Value), TR w ok t x cs → projAt t j u x = some y → TR w ok u y ((cs.drop j).take u.sz) ∧ j + u.sz ≤ t.sz
  | t, j, u, x, y, cs, h, e => by
    by_cases hc : headQ j t u = true
    · rw [projAt, dif_pos hc] at e
      have hj := headQ_z hc
      have ht := headQ_eq hc
      subst hj ht
      cases e
      rw [List.drop_zero, List.take_of_length_le (by rw [TR.len h]; exact Nat.le_refl _)]
      exact ⟨h, by omega⟩
    · rw [projAt, dif_neg hc] at e
      cases t with
      | pair a b =>
        obtain ⟨c1, c2, hc, h1, h2⟩ := h
        have l1 := TR.len h1
        simp only at e
        split at e
        · rename_i hlt
          have hlt := Nat.le_of_ble_eq_true hlt
          obtain ⟨r1, r2⟩ := proj_TR a j u x.1 y c1 h1 e
          refine ⟨?_, ?_⟩
          · rw [hc, List.drop_append_of_le_length (by omega), List.take_append_of_le_length (by rw [List.length_drop]; omega)]
            exact r1
          · show j + u.sz ≤ a.sz + b.sz
            omega
        · rename_i hge
          have hge : a.sz ≤ j := by
            rcases Nat.lt_or_ge j a.sz with h | h
            · exact absurd (Nat.ble_eq_true_of_le h) hge
            · exact h
          obtain ⟨r1, r2⟩ := proj_TR b (j - a.sz) u x.2 y c2 h2 e
          refine ⟨?_, ?_⟩
          · rw [hc, List.drop_append, List.drop_eq_nil_of_le (by omega), List.nil_append, l1]
            exact r1
          · show j + u.sz ≤ a.sz + b.sz
            omega
      | _ => cases e
theorem upd_TR : ∀ (t : Ty) (j : Nat) (u : Ty) (y : u.den) (x z : t.den) (cs ds : List Value), TR w ok t x cs → TR w ok u y ds → updAt t j u y x = some z → TR w ok t z (cs.take j ++ ds ++ cs.drop (j + u.sz)) ∧ j + u.sz ≤ t.sz
  | t, j, u, y, x, z, cs, ds, h, hd, e => by
    by_cases hc : headQ j u t = true
    · rw [updAt, dif_pos hc] at e
      have hj := headQ_z hc
      have ht := headQ_eq hc
      subst hj ht
      cases e
      have l1 := TR.len h
      rw [List.take_zero, List.nil_append, List.drop_eq_nil_of_le (by omega), List.append_nil]
      exact ⟨hd, by omega⟩
    · rw [updAt, dif_neg hc] at e
      cases t with
      | pair a b =>
        obtain ⟨c1, c2, hc, h1, h2⟩ := h
        have l1 := TR.len h1
        simp only at e
        split at e
        · rename_i hlt
          have hlt := Nat.le_of_ble_eq_true hlt
          cases e1 : updAt a j u y x.1 with
          | none => rw [e1] at e; cases e
          | some z1 =>
            rw [e1] at e
            cases e
            obtain ⟨r1, r2⟩ := upd_TR a j u y x.1 z1 c1 ds h1 hd e1
            refine ⟨⟨_, c2, ?_, r1, h2⟩, ?_⟩
            · rw [hc, List.take_append_of_le_length (by omega), List.drop_append_of_le_length (by omega)]
              simp
            · show j + u.sz ≤ a.sz + b.sz
              omega
        · rename_i hge
          have hge : a.sz ≤ j := by
            rcases Nat.lt_or_ge j a.sz with h | h
            · exact absurd (Nat.ble_eq_true_of_le h) hge
            · exact h
          cases e1 : updAt b (j - a.sz) u y x.2 with
          | none => rw [e1] at e; cases e
          | some z1 =>
            rw [e1] at e
            cases e
            obtain ⟨r1, r2⟩ := upd_TR b (j - a.sz) u y x.2 z1 c2 ds h2 hd e1
            refine ⟨⟨c1, _, ?_, h1, r1⟩, ?_⟩
            · rw [hc, List.take_append, List.take_of_length_le (by omega), List.drop_append, List.drop_eq_nil_of_le (by omega), List.nil_append, l1]
              have : j + u.sz - a.sz = j - a.sz + u.sz := by omega
              rw [this]
              simp
            · show j + u.sz ≤ a.sz + b.sz
              omega
      | _ => cases e
theorem VR.of_cells {t : Ty} {x : t.den} {v : Value} (hg : t.agg = false) (h : TR w ok t x [v]) : VR w ok t x v := by
  unfold VR
  rw [hg]
  exact h
theorem VR.of_agg {t : Ty} {x : t.den} {cs : Array Value} (hg : t.agg = true) (h : TR w ok t x cs.toList) : VR w ok t x (.agg cs) := by
  unfold VR
  rw [hg]
  exact ⟨cs, rfl, h⟩
theorem VR.cell {t : Ty} {x : t.den} {v : Value} (hg : t.agg = false) (h : VR w ok t x v) : TR w ok t x [v] := by
  unfold VR at h
  rw [hg] at h
  exact h
theorem TR.sz1 {t : Ty} (hg : t.agg = false) : t.sz = 1 := by cases t <;> first | rfl | cases hg
theorem VR.one {t : Ty} {x : t.den} {v : Value} (hg : t.agg = false) (h : VR w ok t x v) : isOne v = true := TR.one (VR.cell hg h) v (List.mem_cons_self ..)
end
/-! ### leaves -/
/-- Cells, each by its symbolic value. -/
def CellsR (w : World) (ok : Nat → Prop) (ρ : Nat → RV) (H : Nat → HO) : List SV → List Value → Prop
  | [], cs => cs = []
  | x :: l, cs => ∃ u cs', cs = u :: cs' ∧ SR w ok ρ H x u ∧ CellsR w ok ρ H l cs'
section
variable {w : World} {ok : Nat → Prop} {ρ : Nat → RV} {H : Nat → HO}
theorem CellsR.len : ∀ {l : List SV} {cs : List Value}, CellsR w ok ρ H l cs → cs.length = l.length
  | [], _, h => by rw [show _ = _ from h]; rfl
  | _ :: _, _, ⟨_, _, e, _, h⟩ => by rw [e, List.length_cons, List.length_cons, CellsR.len h]
theorem CellsR.app : ∀ {l r : List SV} {cs ds : List Value}, CellsR w ok ρ H l cs → CellsR w ok ρ H r ds → CellsR w ok ρ H (l ++ r) (cs ++ ds)
  | [], _, _, _, h, k => by rw [show _ = _ from h]; exact k
  | _ :: _, _, _, _, ⟨u, cs', e, h1, h2⟩, k => ⟨u, cs' ++ _, by rw [e]; rfl, h1, CellsR.app h2 k⟩
theorem CellsR.get : ∀ {l : List SV} {cs : List Value}, CellsR w ok ρ H l cs → ∀ i, i < l.length → SR w ok ρ H (getL .unk l i) (cs.getD i undef)
  | x :: l, _, ⟨u, cs', e, h1, h2⟩, 0, _ => by rw [e]; exact h1
  | x :: l, _, ⟨u, cs', e, h1, h2⟩, i + 1, h => by
    rw [e]
    exact CellsR.get h2 i (by simpa using h)
theorem CellsR.of : ∀ {l : List SV} {cs : List Value}, cs.length = l.length → (∀ i, i < l.length → SR w ok ρ H (getL .unk l i) (cs.getD i undef)) → CellsR w ok ρ H l cs
  | [], cs, h, _ => List.eq_nil_of_length_eq_zero h
  | x :: l, [], h, _ => by cases h
  | x :: l, u :: cs, h, k => ⟨u, cs, rfl, k 0 (by simp), CellsR.of (by simpa using h) (fun i hi => k (i + 1) (by simpa using hi))⟩
theorem CellsR.drop : ∀ {l : List SV} {cs : List Value}, CellsR w ok ρ H l cs → ∀ i, CellsR w ok ρ H (l.drop i) (cs.drop i)
  | [], _, h, i => by rw [show _ = _ from h, List.drop_nil, List.drop_nil]; exact rfl
  | _ :: _, _, h, 0 => h
  | _ :: _, _, ⟨u, cs', e, h1, h2⟩, i + 1 => by rw [e]; exact CellsR.drop h2 i
theorem CellsR.set : ∀ {l : List SV} {cs : List Value}, CellsR w ok ρ H l cs → ∀ i x u, SR w ok ρ H x u → CellsR w ok ρ H (setL l i x) (cs.set i u)
  | [], _, h, i, _, _, _ => by rw [show _ = _ from h]; exact rfl
  | _ :: _, _, ⟨u', cs', e, h1, h2⟩, 0, x, u, hs => by rw [e]; exact ⟨u, cs', rfl, hs, h2⟩
  | _ :: _, _, ⟨u', cs', e, h1, h2⟩, i + 1, x, u, hs => by rw [e]; exact ⟨u', cs'.set i u, rfl, h1, CellsR.set h2 i x u hs⟩
theorem layL_length : ∀ (xs l : List SV) (i : Nat), (layL l i xs).length = l.length
  | [], _, _ => rfl
  | x :: xs, l, i => by rw [layL, layL_length xs, setL_length]
theorem set_lay (cs : List Value) (u : Value) (us : List Value) (i : Nat) (h : i + (us.length + 1) ≤ cs.length) :
    (cs.set i u).take (i + 1) ++ us ++ (cs.set i u).drop (i + 1 + us.length) = cs.take i ++ (u :: us) ++ cs.drop (i + (us.length + 1)) := by
  have h1 : (cs.set i u).take (i + 1) = cs.take i ++ [u] := by
    rw [List.take_add_one, List.take_set_of_le (Nat.le_refl _), List.getElem?_set_self (by omega)]
    rfl
  have h2 : (cs.set i u).drop (i + 1 + us.length) = cs.drop (i + (us.length + 1)) := by
    rw [List.drop_set_of_lt (by omega)]
    congr 1
    omega
  rw [h1, h2]
  simp
theorem CellsR.lay : ∀ {xs : List SV} {us : List Value} {l : List SV} {cs : List Value} (i : Nat), CellsR w ok ρ H l cs → CellsR w ok ρ H xs us → i + us.length ≤ cs.length →
    CellsR w ok ρ H (layL l i xs) (cs.take i ++ us ++ cs.drop (i + us.length))
  | [], us, l, cs, i, h, k, _ => by
    rw [show us = [] from k]
    simp only [layL, List.append_nil, List.length_nil, Nat.add_zero, List.take_append_drop]
    exact h
  | x :: xs, us, l, cs, i, h, ⟨u, us', e, k1, k2⟩, hl => by
    subst e
    have hl' : i + (us'.length + 1) ≤ cs.length := hl
    have := CellsR.lay (i + 1) (h.set i x u k1) k2 (by rw [List.length_set]; omega)
    rw [layL]
    rw [set_lay cs u us' i hl'] at this
    exact this
theorem CellsR.one {l : List SV} {cs : List Value} (h : CellsR w ok ρ H l cs) (ho : ∀ x ∈ l, ∀ u, SR w ok ρ H x u → isOne u = true) : ∀ u ∈ cs, isOne u = true := by
  induction l generalizing cs with
  | nil =>
    rw [show cs = [] from h]
    intro u hu
    cases hu
  | cons x l ih =>
    obtain ⟨u, cs', e, h1, h2⟩ := h
    intro v hv
    rw [e] at hv
    cases hv with
    | head => exact ho x (List.mem_cons_self ..) _ h1
    | tail _ hv => exact ih h2 (fun y hy => ho y (List.mem_cons_of_mem _ hy)) v hv
theorem leaves_one : ∀ (t : Ty) (x : t.den) (s : SV), s ∈ leaves t x → ∃ u, ∃ y : u.den, s = .v u y ∧ u.agg = false := by
  intro t
  induction t with
  | unit => intro x s h; cases h
  | pair a b iha ihb =>
    intro x s h
    rcases List.mem_append.1 h with h | h
    · exact iha _ s h
    · exact ihb _ s h
  | arr n t ih =>
    intro x s h
    simp only [leaves, List.mem_flatMap] at h
    obtain ⟨i, _, h⟩ := h
    exact ih _ s h
  | int k => intro x s h; simp only [leaves, List.mem_singleton] at h; exact ⟨_, x, h, rfl⟩
  | bool => intro x s h; simp only [leaves, List.mem_singleton] at h; exact ⟨_, x, h, rfl⟩
  | str => intro x s h; simp only [leaves, List.mem_singleton] at h; exact ⟨_, x, h, rfl⟩
  | slice t _ => intro x s h; simp only [leaves, List.mem_singleton] at h; exact ⟨_, x, h, rfl⟩
  | map k v _ _ => intro x s h; simp only [leaves, List.mem_singleton] at h; exact ⟨_, x, h, rfl⟩
  | pt t _ => intro x s h; simp only [leaves, List.mem_singleton] at h; exact ⟨.pt t, x, h, rfl⟩
  | clo f t _ => intro x s h; simp only [leaves, List.mem_singleton] at h; exact ⟨.clo f t, x, h, rfl⟩
theorem leaves_arr {t : Ty} (hl : ∀ (y : t.den) (cs : List Value), TR w ok t y cs → CellsR w ok ρ H (leaves t y) cs) : ∀ (xs : List t.den) (cs : List Value), LR (TR w ok t) xs cs →
    CellsR w ok ρ H ((List.range xs.length).flatMap fun i => leaves t (List.getD xs i t.zero)) cs
  | [], cs, h => by rw [show cs = [] from h]; exact rfl
  | x :: xs, cs, ⟨c1, c2, e, h1, h2⟩ => by
    have := CellsR.app (hl x c1 h1) (leaves_arr hl xs c2 h2)
    rw [e]
    rw [List.length_cons, List.range_succ_eq_map, List.flatMap_cons, List.flatMap_map]
    exact this
theorem leaves_R : ∀ (t : Ty) (x : t.den) (cs : List Value), TR w ok t x cs → CellsR w ok ρ H (leaves t x) cs := by
  intro t
  induction t with
  | unit => intro x cs h; exact h
  | pair a b iha ihb =>
    intro x cs h
    obtain ⟨c1, c2, e, h1, h2⟩ := h
    rw [e]
    exact (iha _ _ h1).app (ihb _ _ h2)
  | arr n t ih =>
    intro x cs h
    obtain ⟨hn, h⟩ := h
    have := leaves_arr ih x cs h
    rw [hn] at this
    exact this
  | int k => intro x cs h; exact ⟨_, [], h, VR.of_cells rfl rfl, rfl⟩
  | bool => intro x cs h; exact ⟨_, [], h, VR.of_cells rfl rfl, rfl⟩
  | str => intro x cs h; exact ⟨_, [], h, VR.of_cells rfl rfl, rfl⟩
  | slice t _ =>
    intro x cs h
    obtain ⟨A, cap, e, hc, h2⟩ := h
    exact ⟨_, [], e, VR.of_cells rfl ⟨A, cap, rfl, hc, h2⟩, rfl⟩
  | map k v _ _ => intro x cs h; exact h.elim
  | pt t _ =>
    intro x cs h
    obtain ⟨b, off, c, e, fr, h1, h2⟩ := h
    exact ⟨_, [], h1, VR.of_cells rfl ⟨b, off, c, e, fr, rfl, h2⟩, rfl⟩
  | clo f t _ =>
    intro x cs h
    obtain ⟨b, off, c, e, fr, h1, h2⟩ := h
    exact ⟨_, [], h1, VR.of_cells rfl ⟨b, off, c, e, fr, rfl, h2⟩, rfl⟩
end
/-! ### rows handed out -/
/-- The updates hand rows out: nothing else. -/
def Frz (H : Nat → HO) (us : Ups) : Prop := ∀ p ∈ us, ∃ t xs, p.2 = HO.froz t xs ∧ H p.1 = .arr t xs
section
variable {C : Ctx} {A : Nat → Prop} {ρ : Nat → RV} {σ : St} {a : Act} {w : World}
theorem Frz.app {H : Nat → HO} {us vs : Ups} (h : Frz H us) (k : Frz H vs) : Frz H (us ++ vs) := fun p hp => by
  rcases List.mem_append.1 hp with hp | hp
  · exact h p hp
  · exact k p hp
theorem Frz.nil (H : Nat → HO) : Frz H [] := fun _ h => by cases h
theorem Rel.mem (h : Rel C A ρ σ a w) {r : Nat} (hd : getO σ.heap r ≠ .dead) : A r := by
  by_cases hA : A r
  · exact hA
  · exact absurd (h.out r hA) hd
theorem Frz.get {us : Ups} (hf : Frz (getO σ.heap) us) (r : Nat) (hr : refs us r) : ∃ t xs, getO σ.heap r = .arr t xs ∧ getO (updH σ.heap us) r = .froz t xs := by
  obtain ⟨p, hp, e, e2⟩ := getO_upd_mem us σ.heap r hr
  obtain ⟨t, xs, e3, e4⟩ := hf p hp
  exact ⟨t, xs, by rw [← e]; exact e4, by rw [e2, e3]⟩
theorem Rel.frz (h : Rel C A ρ σ a w) (us : Ups) (hf : Frz (getO σ.heap) us) : Aft C A ρ σ a w us ρ w := by
  have keep : ∀ r, ¬ refs us r → getO (updH σ.heap us) r = getO σ.heap r := fun r hr => getO_upd_not us _ r (fun p hp e => hr ⟨p, hp, e⟩)
  have hlive : ∀ r, (getO (updH σ.heap us) r).live = true → ¬ refs us r ∧ getO (updH σ.heap us) r = getO σ.heap r := fun r hl => by
    by_cases hr : refs us r
    · obtain ⟨t, xs, _, e⟩ := hf.get r hr
      rw [e] at hl
      cases hl
    · exact ⟨hr, keep r hr⟩
  refine h.aft us ?_ (Fr.refl _ _) ?_ ?_ ?_ ?_
  · intro r hr
    refine ⟨?_, fun _ => rfl⟩
    by_cases hu : refs us r
    · obtain ⟨t, xs, e1, e2⟩ := hf.get r hu
      rw [e1, e2]
      exact ⟨rfl, rfl⟩
    · rw [keep r hu]
      exact HC.refl _
  · intro r hr hl b o c he
    exact absurd hr (hlive r hl).1
  · intro hp hm r hr
    obtain ⟨t, xs, e1, e2⟩ := hf.get r hr
    rw [e2]
    have ho := h.objs r
    rw [e1] at ho
    have ho' : AR w (okOf C.X ρ (getO (updH σ.heap us))) (fun _ => True) t xs (ρ r) := by
      cases hρ : ρ r with
      | none => rw [hρ] at ho; exact ho
      | «at» b off cap =>
        rw [hρ] at ho
        obtain ⟨c, e, fr, k1, k2, k3, k4, k5⟩ := ho
        exact ⟨c, e, fr, k1, trivial, k3, k4, k5.mono (fun _ _ k => TR.mono hp.hp k)⟩
    refine .inr ⟨ho', fun b off cap he => ⟨h.noX r (by rw [e1]; rfl) b off cap he, fun s hs o' c' he' => ?_⟩⟩
    obtain ⟨hn, hk⟩ := hlive s hs
    rw [hk] at hs
    exact h.inj r s (fun e => hn (e ▸ hr)) (by rw [e1]; rfl) hs b off cap b o' c' he he' rfl
  · intro r s hr hne hl
    exact absurd hr (hlive r hl).1
  · intro r l hr he
    obtain ⟨t, xs, _, e2⟩ := hf.get r hr
    rw [e2] at he
    cases he
/-- A row in memory, as a datum. -/
theorem AR.datum {ok : Nat → Prop} {mk : Nat × Nat → Prop} {t : Ty} {xs : List t.den} {rv : RV} (h : AR w ok mk t xs rv) (hok : ∀ b off cap, rv = .at b off cap → ok b) (n o : Nat) (hn : o + n ≤ xs.length)
    {A : Option Addr} {cap : Nat} (hcap : n ≤ cap) (hA : ∀ b off c, rv = .at b off c → n = 0 ∨ A = some ⟨b, off + o * t.sz, none⟩) :
    VR w ok (.slice t) ((xs.drop o).take n) (.slice A n cap) := by
  have hl : List.length ((xs.drop o).take n) = n := by
    rw [List.length_take, List.length_drop]
    omega
  refine VR.of_cells rfl ⟨A, cap, by rw [hl], by rw [hl]; exact hcap, ?_⟩
  cases rv with
  | none =>
    rw [show xs = [] from h] at hn ⊢
    left
    simp
  | «at» b off c =>
    rcases hA b off c rfl with h0 | h0
    · left
      rw [h0, List.take_zero]
    · right
      obtain ⟨cs, e, fr, k1, k2, k3, k4, k5⟩ := h
      refine ⟨b, off + o * t.sz, cs, e, fr, h0, hok b off c rfl, k1, ?_⟩
      have k6 := (k5.drop (fun _ _ k => TR.len k) o).take (fun _ _ k => TR.len k) n
      rw [hl, ← List.drop_drop]
      refine (congrArg (LR (TR w ok t) ((xs.drop o).take n)) ?_).mp k6
      rw [List.drop_take, List.take_take]
      congr 1
      rw [← Nat.sub_mul]
      exact Nat.min_eq_left (Nat.mul_le_mul_right _ (by omega))
theorem RowFacts (h : Rel C A ρ σ a w) {r : Nat} {t : Ty} {xs : List t.den} (hr : getO σ.heap r = .arr t xs ∨ getO σ.heap r = .froz t xs) :
    xs = [] ∨ AR w (okOf C.X ρ (getO σ.heap)) (fun _ => True) t xs (ρ r) := by
  have ho := h.objs r
  rcases hr with hr | hr
  · rw [hr] at ho
    right
    cases hρ : ρ r with
    | none => rw [hρ] at ho; exact ho
    | «at» b off cap =>
      rw [hρ] at ho
      obtain ⟨c, e, fr, k1, k2, k3, k4, k5⟩ := ho
      exact ⟨c, e, fr, k1, trivial, k3, k4, k5⟩
  · rw [hr] at ho
    exact ho.imp id (fun k => k.1)
theorem ARcap {ok : Nat → Prop} {mk : Nat × Nat → Prop} {t : Ty} {xs : List t.den} {rv : RV} (h : xs = [] ∨ AR w ok mk t xs rv) {b off cap : Nat} (e : rv = .at b off cap) : xs.length ≤ cap := by
  rcases h with h | h
  · rw [h]; exact Nat.zero_le _
  · rw [e] at h
    obtain ⟨_, _, _, _, _, h, _⟩ := h
    exact h
theorem toVal_in {Hr : Nat → HO} {t : Ty} {x : SV} {y : t.den} {us : Ups} (e : toVal Hr t x = some (y, us)) : ∀ p ∈ us, Hr p.1 ≠ .dead := by
  unfold toVal at e
  split at e <;> (try split at e) <;> (try split at e) <;> first | (cases e; done) | (cases e; intro p hp; cases hp; done) | skip
  all_goals
    rename_i hr hq
    cases e
    intro p hp
    cases hp with
    | head => rw [hr]; intro h; cases h
    | tail _ hp => cases hp
/-- Where data of type t is wanted. -/
theorem toVal_sound (h : Rel C A ρ σ a w) {Hr : Nat → HO} (hH : ∀ r, Hr r ≠ .dead → getO σ.heap r = Hr r) {t : Ty} {x : SV} {y : t.den} {us0 : Ups} (e : toVal Hr t x = some (y, us0)) {u : Value}
    (hs : SR w (okOf C.X ρ (getO σ.heap)) ρ (getO σ.heap) x u) :
    Frz (getO σ.heap) us0 ∧ ∀ us, Frz (getO σ.heap) us → (∀ p ∈ us0, p ∈ us) → VR w (okOf C.X ρ (getO (updH σ.heap us))) t y u := by
  have mono : ∀ us, Frz (getO σ.heap) us → ∀ (t : Ty) (y : t.den) (u : Value), VR w (okOf C.X ρ (getO σ.heap)) t y u → VR w (okOf C.X ρ (getO (updH σ.heap us))) t y u :=
    fun us hf t y u k => k.mono (h.frz us hf).hp.hp
  -- a row of the state, handed out
  have row : ∀ (r : Nat) (q : Ty) (xs : List q.den) (us : Ups), Frz (getO σ.heap) us → ((getO σ.heap r = .arr q xs ∧ (r, HO.froz q xs) ∈ us) ∨ getO σ.heap r = .froz q xs) →
      ∀ (n o : Nat) (A' : Option Addr) (cap : Nat), o + n ≤ xs.length → n ≤ cap → (∀ b off c, ρ r = .at b off c → n = 0 ∨ A' = some ⟨b, off + o * q.sz, none⟩) →
      VR w (okOf C.X ρ (getO (updH σ.heap us))) (.slice q) ((xs.drop o).take n) (.slice A' n cap) := by
    intro r q xs us hf hr n o A' cap hn hcap hA
    have hrel := (h.frz us hf).rel
    have hfz : getO (updH σ.heap us) r = .froz q xs := by
      rcases hr with ⟨h1, h2⟩ | h1
      · obtain ⟨t', xs', e1, e2⟩ := hf.get r ⟨_, h2, rfl⟩
        rw [h1] at e1
        cases e1
        exact e2
      · rw [getO_upd_not us _ r (fun p hp e3 => ?_), h1]
        obtain ⟨t', xs', e1, e2⟩ := hf p hp
        rw [e3, h1] at e2
        cases e2
    have ho := hrel.objs r
    have hst : getO ({ σ with heap := updH σ.heap us } : St).heap r = .froz q xs := hfz
    rw [hst] at ho
    rcases ho with ho | ⟨ho, hk⟩
    · have hn0 : n = 0 := by rw [ho] at hn; simp at hn; omega
      subst hn0
      rw [List.take_zero]
      exact VR.of_cells rfl ⟨A', cap, rfl, Nat.zero_le _, .inl rfl⟩
    · exact AR.datum ho hk n o hn hcap hA
  unfold toVal at e
  split at e
  · split at e
    · rename_i b hq
      cases e
      refine ⟨Frz.nil _, fun us _ _ => ?_⟩
      rw [show u = .bool b from hs]
      exact cast_VR _ (VR.of_cells rfl rfl)
    · cases e
  · split at e
    · rename_i q x' hq
      cases e
      exact ⟨Frz.nil _, fun us hf _ => cast_VR _ (mono us hf _ _ _ hs)⟩
    · cases e
  · split at e
    · cases e
      refine ⟨Frz.nil _, fun us _ _ => ?_⟩
      rw [show u = .slice none 0 0 from hs]
      exact VR.of_cells rfl ⟨none, 0, rfl, Nat.zero_le _, .inl rfl⟩
    · cases e
  · rename_i r
    split at e
    · rename_i q xs hr
      split at e
      · rename_i hq
        cases e
        have hr' := hH r (by rw [hr]; intro h; cases h)
        rw [hr] at hr'
        refine ⟨fun p hp => ?_, fun us hf hin => ?_⟩
        · cases hp with
          | head => exact ⟨q, xs, rfl, hr'⟩
          | tail _ hp => cases hp
        · refine cast_VR _ ?_
          simp only [SR, hr'] at hs
          have := row r q xs us hf (.inl ⟨hr', hin _ (List.mem_cons_self ..)⟩) xs.length 0
          simp only [List.drop_zero, List.take_length] at this
          have hR := RowFacts h (.inl hr')
          cases hρ : ρ r with
          | none =>
            rw [hρ] at hs
            rw [hs]
            have hx : xs = [] := by
              rcases hR with hR | hR
              · exact hR
              · rw [hρ] at hR; exact hR
            subst hx
            exact VR.of_cells rfl ⟨none, 0, rfl, Nat.zero_le _, .inl rfl⟩
          | «at» b off cap =>
            rw [hρ] at hs
            rw [hs]
            refine this _ cap (by omega) (ARcap hR hρ) (fun b' off' c' e' => .inr ?_)
            rw [hρ] at e'
            cases e'
            simp
      · cases e
    · rename_i q xs hr
      split at e
      · rename_i hq
        cases e
        have hr' := hH r (by rw [hr]; intro h; cases h)
        rw [hr] at hr'
        refine ⟨Frz.nil _, fun us hf hin => ?_⟩
        · refine cast_VR _ ?_
          simp only [SR, hr'] at hs
          have := row r q xs us hf (.inr hr') xs.length 0
          simp only [List.drop_zero, List.take_length] at this
          have hR := RowFacts h (.inr hr')
          cases hρ : ρ r with
          | none =>
            rw [hρ] at hs
            rw [hs]
            have hx : xs = [] := by
              rcases hR with hR | hR
              · exact hR
              · rw [hρ] at hR; exact hR
            subst hx
            exact VR.of_cells rfl ⟨none, 0, rfl, Nat.zero_le _, .inl rfl⟩
          | «at» b off cap =>
            rw [hρ] at hs
            rw [hs]
            refine this _ cap (by omega) (ARcap hR hρ) (fun b' off' c' e' => .inr ?_)
            rw [hρ] at e'
            cases e'
            simp
      · cases e
    · cases e
  · rename_i r o n
    split at e
    · rename_i q xs hr
      split at e
      · rename_i hq
        cases e
        have hr' := hH r (by rw [hr]; intro h; cases h)
        rw [hr] at hr'
        refine ⟨fun p hp => ?_, fun us hf hin => ?_⟩
        · cases hp with
          | head => exact ⟨q, xs, rfl, hr'⟩
          | tail _ hp => cases hp
        · refine cast_VR _ ?_
          simp only [SR, hr'] at hs
          obtain ⟨h1, A', cap, h2, hcap, h3⟩ := hs
          rw [h2]
          refine row r q xs us hf (.inl ⟨hr', hin _ (List.mem_cons_self ..)⟩) n o A' cap h1 hcap (fun b off c e' => ?_)
          rw [e'] at h3
          exact h3
      · cases e
    · rename_i q xs hr
      split at e
      · rename_i hq
        cases e
        have hr' := hH r (by rw [hr]; intro h; cases h)
        rw [hr] at hr'
        refine ⟨Frz.nil _, fun us hf hin => ?_⟩
        refine cast_VR _ ?_
        simp only [SR, hr'] at hs
        obtain ⟨h1, A', cap, h2, hcap, h3⟩ := hs
        rw [h2]
        refine row r q xs us hf (.inr hr') n o A' cap h1 hcap (fun b off c e' => ?_)
        rw [e'] at h3
        exact h3
      · cases e
    · cases e
  · cases e
end
end Go.Sym

/- What a configuration says of a program's types, and a check of it that the kernel computes. -/
namespace Go.Sym
/-- A zero value's cells, read off. -/
def zc : Ty → List Value → Option (List Value)
  | .int k, cs => match cs with | .int k' n :: l => if Nat.beq (kindN k) (kindN k') && n == 0 then some l else none | _ => none
  | .bool, cs => match cs with | .bool b :: l => if b then none else some l | _ => none
  | .str, cs => match cs with | .string s :: l => if Nat.beq s.size 0 then some l else none | _ => none
  | .slice _, cs => match cs with | .slice none 0 0 :: l => some l | _ => none
  | .unit, cs => some cs
  | .pair a b, cs => match zc a cs with | some l => zc b l | none => none
  | .arr n t, cs => loopR n (fun f cs => match zc t cs with | some l => f l | none => none) some cs
  | .map .., _ | .pt _, _ | .clo .., _ => none
theorem bytes_empty {s : ByteArray} (h : s.size = 0) : s = ByteArray.empty := by
  obtain ⟨d⟩ := s
  have h : d.size = 0 := h
  rw [Array.eq_empty_of_size_eq_zero h]
  rfl
theorem zc_TR {w : World} {ok : Nat → Prop} : ∀ (u : Ty) (cs l : List Value), zc u cs = some l → ∃ c1, cs = c1 ++ l ∧ TR w ok u u.zero c1 := by
  intro u
  induction u with
  | int k =>
    intro cs l h
    simp only [zc] at h
    split at h
    · rename_i k' n l'
      split at h
      · rename_i h1
        simp only [Bool.and_eq_true, beq_iff_eq] at h1
        have := kindN_inj h1.1
        cases h
        exact ⟨[.int k' n], rfl, by rw [h1.2, ← this]; rfl⟩
      · cases h
    · cases h
  | bool =>
    intro cs l h
    simp only [zc] at h
    split at h
    · rename_i b l'
      cases b
      · cases h
        exact ⟨[.bool false], rfl, rfl⟩
      · cases h
    · cases h
  | str =>
    intro cs l h
    simp only [zc] at h
    split at h
    · rename_i s l'
      split at h
      · rename_i h1
        have := bytes_empty (Nat.eq_of_beq_eq_true h1)
        subst this
        cases h
        exact ⟨[.string .empty], rfl, rfl⟩
      · cases h
    · cases h
  | slice t _ =>
    intro cs l h
    simp only [zc] at h
    split at h
    · cases h
      exact ⟨[.slice none 0 0], rfl, none, 0, rfl, Nat.zero_le _, .inl rfl⟩
    · cases h
  | unit => intro cs l h; cases h; exact ⟨[], rfl, rfl⟩
  | pair a b iha ihb =>
    intro cs l h
    simp only [zc] at h
    split at h
    · rename_i l' h1
      obtain ⟨c1, e1, k1⟩ := iha _ _ h1
      obtain ⟨c2, e2, k2⟩ := ihb _ _ h
      exact ⟨c1 ++ c2, by rw [e1, e2, List.append_assoc], c1, c2, rfl, k1, k2⟩
    · cases h
  | arr n t ih =>
    intro cs l h
    simp only [zc] at h
    have key : ∀ (n : Nat) (cs : List Value), loopR n (fun f cs => match zc t cs with | some l => f l | none => none) some cs = some l → ∃ c1, cs = c1 ++ l ∧ LR (TR w ok t) (List.replicate n t.zero) c1 := by
      intro n
      induction n with
      | zero => intro cs h; cases h; exact ⟨[], rfl, rfl⟩
      | succ n ihn =>
        intro cs h
        simp only [loopR] at h
        split at h
        · rename_i l' h1
          obtain ⟨c1, e1, k1⟩ := ih _ _ h1
          obtain ⟨c2, e2, k2⟩ := ihn _ h
          exact ⟨c1 ++ c2, by rw [e1, e2, List.append_assoc], c1, c2, rfl, k1, k2⟩
        · cases h
    obtain ⟨c1, e1, k1⟩ := key n cs h
    exact ⟨c1, e1, by show List.length (List.replicate n t.zero) = n; simp, k1⟩
  | map => intro cs l h; cases h
  | pt => intro cs l h; cases h
  | clo => intro cs l h; cases h
def isAggV : Value → Bool | .agg _ => true | _ => false
def bq (a b : Bool) : Bool := match a with | true => b | false => !b
theorem bq_eq {a b : Bool} (h : bq a b = true) : a = b := by cases a <;> cases b <;> first | rfl | cases h
def zeroChk (u : Ty) (z : Option Value) : Bool :=
  match z with
  | some v => match zc u v.cells.toList with | some [] => bq (isAggV v) u.agg | _ => false
  | none => false
theorem zeroChk_VR {w : World} {ok : Nat → Prop} {u : Ty} {z : Option Value} (h : zeroChk u z = true) : ∃ v, z = some v ∧ VR w ok u u.zero v := by
  unfold zeroChk at h
  split at h
  · rename_i v
    split at h
    · rename_i h1
      obtain ⟨c1, e1, k1⟩ := zc_TR (w := w) (ok := ok) u _ _ h1
      rw [List.append_nil] at e1
      have h2 := bq_eq h
      refine ⟨v, rfl, ?_⟩
      unfold VR
      cases hv : isAggV v with
      | true =>
        rw [hv] at h2
        rw [if_pos h2.symm]
        cases v <;> first | (cases hv; done) | skip
        exact ⟨_, rfl, by rw [← e1] at k1; exact k1⟩
      | false =>
        rw [hv] at h2
        rw [if_neg (by rw [← h2]; intro h; cases h)]
        rw [← e1] at k1
        cases v <;> first | exact k1 | (cases hv; done)
    · cases h
  · cases h
/-- A type's row in the program. -/
def row1 (P : Program) (u : Ty) (t : TypeId) (f : TypeDesc → Bool) : Bool :=
  match P.underlying t, P.info? t with
  | some d, some i => Nat.beq i.size u.sz && (match d.isRow with | true => u.agg | false => !u.agg) && f d
  | _, _ => false
theorem row1_eq {P : Program} {u : Ty} {t : TypeId} {f : TypeDesc → Bool} (h : row1 P u t f = true) : ∃ d i, P.underlying t = some d ∧ P.info? t = some i ∧ i.size = u.sz ∧ d.isRow = u.agg ∧ f d = true := by
  unfold row1 at h
  split at h
  · rename_i d i h1 h2
    simp only [Bool.and_eq_true] at h
    refine ⟨d, i, h1, h2, Nat.eq_of_beq_eq_true h.1.1, ?_, h.2⟩
    have := h.1.2
    cases hd : d.isRow <;> rw [hd] at this <;> simp_all
  · cases h
def zrow (P : Program) (u : Ty) (t : TypeId) : Bool := match P.info? t with | some i => zeroChk u i.zero | none => false
/-- Data types: none with a map in it. -/
def tyChk (P : Program) : Ty → TypeId → Bool
  | .int k, t => row1 P (.int k) t (fun | .int k' => Nat.beq (kindN k) (kindN k') | _ => false) && zrow P (.int k) t
  | .bool, t => row1 P .bool t (fun | .bool => true | _ => false) && zrow P .bool t
  | .str, t => row1 P .str t (fun | .string => true | _ => false) && zrow P .str t
  | .slice e, t => row1 P (.slice e) t (fun | .slice et => tyChk P e et | _ => false) && zrow P (.slice e) t
  | .unit, t => row1 P .unit t (fun | .struct _ => true | _ => false) && zrow P .unit t
  | .pair a b, t => row1 P (.pair a b) t (fun | .struct _ => true | _ => false) && zrow P (.pair a b) t
  | .arr n e, t => row1 P (.arr n e) t (fun | .array m et => Nat.beq n m && tyChk P e et | _ => false) && zrow P (.arr n e) t
  | .map .., _ | .pt _, _ | .clo .., _ => false
def tyTop (P : Program) (u : Ty) (t : TypeId) : Bool :=
  match u with
  | .map k v => row1 P (.map k v) t (fun | .map kt vt => tyChk P k kt && tyChk P v vt | _ => false)
  | u => tyChk P u t
/-- What the program says of a data type. -/
structure TyOk (P : Program) (u : Ty) (t : TypeId) : Prop where
  row : ∃ d i, P.underlying t = some d ∧ P.info? t = some i ∧ i.size = u.sz ∧ d.isRow = u.agg
  zero : (∀ k v, u ≠ .map k v) → ∃ i z, P.info? t = some i ∧ i.zero = some z ∧ ∀ w ok, VR w ok u u.zero z
  int : ∀ k, u = .int k → P.underlying t = some (.int k)
  bool : u = .bool → P.underlying t = some .bool
  str : u = .str → P.underlying t = some .string
theorem tyChk_noMap {P : Program} {u : Ty} {t : TypeId} (h : tyChk P u t = true) : ∀ k v, u ≠ .map k v := by
  intro k v e
  subst e
  cases h
theorem tyChk_row {P : Program} {u : Ty} {t : TypeId} (h : tyChk P u t = true) : (∃ f, row1 P u t f = true) ∧ zrow P u t = true := by
  cases u <;> simp only [tyChk, Bool.and_eq_true] at h <;> first | exact ⟨⟨_, h.1⟩, h.2⟩ | cases h
theorem zrow_eq {P : Program} {u : Ty} {t : TypeId} (h : zrow P u t = true) : ∃ i z, P.info? t = some i ∧ i.zero = some z ∧ ∀ w ok, VR w ok u u.zero z := by
  unfold zrow at h
  split at h
  · rename_i i hi
    obtain ⟨z, hz, _⟩ := zeroChk_VR (w := default) (ok := fun _ => True) h
    refine ⟨i, z, hi, hz, fun w ok => ?_⟩
    obtain ⟨z', hz', k⟩ := zeroChk_VR (w := w) (ok := ok) h
    rw [hz] at hz'
    cases hz'
    exact k
  · cases h
theorem tyChk_ok {P : Program} {u : Ty} {t : TypeId} (h : tyChk P u t = true) : TyOk P u t := by
  obtain ⟨⟨f, h1⟩, h2⟩ := tyChk_row h
  obtain ⟨d, i, e1, e2, e3, e4, _⟩ := row1_eq h1
  refine ⟨⟨d, i, e1, e2, e3, e4⟩, fun _ => zrow_eq h2, ?_, ?_, ?_⟩
  · rintro k rfl
    simp only [tyChk, Bool.and_eq_true] at h
    obtain ⟨d, i, e1, _, _, _, e⟩ := row1_eq h.1
    cases d <;> simp only at e <;> first | cases e | skip
    rw [e1, kindN_inj e]
  · rintro rfl
    simp only [tyChk, Bool.and_eq_true] at h
    obtain ⟨d, i, e1, _, _, _, e⟩ := row1_eq h.1
    cases d <;> simp only at e <;> first | cases e | skip
    rw [e1]
  · rintro rfl
    simp only [tyChk, Bool.and_eq_true] at h
    obtain ⟨d, i, e1, _, _, _, e⟩ := row1_eq h.1
    cases d <;> simp only at e <;> first | cases e | skip
    rw [e1]
theorem tyTop_ok {P : Program} {u : Ty} {t : TypeId} (h : tyTop P u t = true) : TyOk P u t := by
  cases u with
  | map k v =>
    obtain ⟨d, i, e1, e2, e3, e4, e⟩ := row1_eq h
    exact ⟨⟨d, i, e1, e2, e3, e4⟩, fun hk => absurd rfl (hk k v), fun _ h => (by cases h), fun h => (by cases h), fun h => (by cases h)⟩
  | _ => exact tyChk_ok h
theorem tyChk_slice {P : Program} {e : Ty} {t : TypeId} (h : tyTop P (.slice e) t = true) : ∃ et, P.underlying t = some (.slice et) ∧ TyOk P e et ∧ ∀ k v, e ≠ .map k v := by
  simp only [tyTop, tyChk, Bool.and_eq_true] at h
  obtain ⟨d, i, e1, _, _, _, e⟩ := row1_eq h.1
  cases d <;> simp only at e <;> first | cases e | skip
  exact ⟨_, e1, tyChk_ok e, tyChk_noMap e⟩
theorem tyChk_map {P : Program} {k v : Ty} {t : TypeId} (h : tyTop P (.map k v) t = true) : ∃ kt vt, P.underlying t = some (.map kt vt) ∧ TyOk P k kt ∧ TyOk P v vt ∧ (∀ a b, v ≠ .map a b) := by
  obtain ⟨d, i, e1, _, _, _, e⟩ := row1_eq h
  cases d <;> simp only at e <;> first | cases e | skip
  simp only [Bool.and_eq_true] at e
  exact ⟨_, _, e1, tyChk_ok e.1, tyChk_ok e.2, tyChk_noMap e.2⟩
/-! ### the check -/
def chkTy (P : Program) : List (Nat × Ty) → Bool
  | [] => true
  | (t, u) :: l => match tyTop P u t with | true => chkTy P l | false => false
def chkOne (P : Program) : List Nat → Bool
  | [] => true
  | t :: l => match (match P.underlying t, P.info? t with | some d, some i => !d.isRow && Nat.beq i.size 1 | _, _ => false) with | true => chkOne P l | false => false
def chkPt (P : Program) : List Nat → Bool
  | [] => true
  | t :: l => match (match P.underlying t with | some (.pointer _) => true | _ => false) with | true => chkPt P l | false => false
def chkFs (P : Program) : List (Nat × Nat) → List Field → Bool
  | [], [] => true
  | (o, t) :: l, f :: fs => match (Nat.beq f.offset o && Nat.beq f.type t && (match P.info? t with | some i => !(Nat.beq i.size 0) | none => false)) with | true => chkFs P l fs | false => false
  | _, _ => false
def chkFld (P : Program) : List (Nat × List (Nat × Nat)) → Bool
  | [] => true
  | (t, fs) :: l => match (match P.underlying t with | some (.struct f) => chkFs P fs f.toList | _ => false) with | true => chkFld P l | false => false
def zsqD (t : Ty) (x : t.den) (v : Value) : Bool :=
  match t, x with
  | .int k, n => match v with | .int k' m => Nat.beq (kindN k) (kindN k') && (show Int from n) == 0 && m == 0 | _ => false
  | .bool, b => match v with | .bool b' => !(show Bool from b) && !b' | _ => false
  | .str, s => match v with | .string s' => Nat.beq (ByteArray.size s) 0 && Nat.beq s'.size 0 | _ => false
  | _, _ => false
def zsqV (x : SV) (v : Value) : Bool :=
  match x with
  | .v t x => zsqD t x v
  | .nilp => match v with | .pointer none => true | _ => false
  | .unk => isOne v
  | _ => false
def zsq (z : ZS) (v : Value) : Bool :=
  match z with
  | .sv x => zsqV x v
  | .row _ => match v with | .slice none 0 0 => true | _ => false
def chkZ : List ZS → List Value → Bool
  | [], [] => true
  | z :: l, v :: vs => match zsq z v with | true => chkZ l vs | false => false
  | _, _ => false
def chkZs (P : Program) : List (Nat × List ZS) → Bool
  | [] => true
  | (t, l) :: r => match (match P.info? t with | some i => (match i.zero with | some z => Nat.beq i.size l.length && chkZ l z.cells.toList | none => false) | none => false) with | true => chkZs P r | false => false
def chkBy (P : Program) : List (Nat × Nat) → Bool
  | [] => true
  | (t, q) :: l => match (match P.underlying t with | some (.slice e) => (match P.info? e with | some i => Nat.beq i.bytes q && Nat.ble q 1048576 && Nat.ble 1 q && Nat.ble 1 i.size | none => false) | _ => false) with | true => chkBy P l | false => false
def Cfg.chk (P : Program) (c : Cfg) : Bool := chkTy P c.ty && chkOne P c.one && chkPt P c.pt && chkFld P c.fld && chkZs P c.zs && chkBy P c.by_
structure CfgOk (P : Program) (c : Cfg) : Prop where
  ty : ∀ t u, look c.ty t = some u → tyTop P u t = true
  one : ∀ t, memN c.one t = true → ∃ d i, P.underlying t = some d ∧ P.info? t = some i ∧ d.isRow = false ∧ i.size = 1
  pt : ∀ t, memN c.pt t = true → ∃ e, P.underlying t = some (.pointer e)
  fld : ∀ t fs, look c.fld t = some fs → ∃ f, P.underlying t = some (.struct f) ∧ chkFs P fs f.toList = true
  zs : ∀ t l, look c.zs t = some l → ∃ i z, P.info? t = some i ∧ i.zero = some z ∧ i.size = l.length ∧ chkZ l z.cells.toList = true
  by_ : ∀ t q, look c.by_ t = some q → ∃ e i, P.underlying t = some (.slice e) ∧ P.info? e = some i ∧ i.bytes = q ∧ 1 ≤ q ∧ q ≤ 1048576 ∧ 1 ≤ i.size
theorem CfgOk.of {P : Program} {c : Cfg} (h : c.chk P = true) : CfgOk P c := by
  simp only [Cfg.chk, Bool.and_eq_true] at h
  obtain ⟨⟨⟨⟨⟨h1, h2⟩, h3⟩, h4⟩, h5⟩, h6⟩ := h
  refine ⟨?_, ?_, ?_, ?_, ?_, ?_⟩
  · intro t u e
    generalize c.ty = l at h1 e
    induction l with
    | nil => cases e
    | cons p l ih =>
      obtain ⟨m, u'⟩ := p
      simp only [chkTy] at h1
      split at h1
      · rename_i hm
        simp only [look] at e
        split at e
        · rename_i he
          cases e
          rw [← Nat.eq_of_beq_eq_true he]
          exact hm
        · exact ih h1 e
      · cases h1
  · intro t e
    generalize c.one = l at h2 e
    induction l with
    | nil => cases e
    | cons m l ih =>
      simp only [chkOne] at h2
      split at h2
      · rename_i hm
        simp only [memN] at e
        split at e
        · rename_i he
          rw [← Nat.eq_of_beq_eq_true he]
          split at hm
          · rename_i d i k1 k2
            simp only [Bool.and_eq_true, Bool.not_eq_true'] at hm
            exact ⟨d, i, k1, k2, hm.1, Nat.eq_of_beq_eq_true hm.2⟩
          · cases hm
        · exact ih h2 e
      · cases h2
  · intro t e
    generalize c.pt = l at h3 e
    induction l with
    | nil => cases e
    | cons m l ih =>
      simp only [chkPt] at h3
      split at h3
      · rename_i hm
        simp only [memN] at e
        split at e
        · rename_i he
          rw [← Nat.eq_of_beq_eq_true he]
          split at hm
          · rename_i e k1
            exact ⟨e, k1⟩
          · cases hm
        · exact ih h3 e
      · cases h3
  · intro t fs e
    generalize c.fld = l at h4 e
    induction l with
    | nil => cases e
    | cons p l ih =>
      obtain ⟨m, u'⟩ := p
      simp only [chkFld] at h4
      split at h4
      · rename_i hm
        simp only [look] at e
        split at e
        · rename_i he
          cases e
          rw [← Nat.eq_of_beq_eq_true he]
          split at hm
          · rename_i f k1
            exact ⟨f, k1, hm⟩
          · cases hm
        · exact ih h4 e
      · cases h4
  · intro t fs e
    generalize c.zs = l at h5 e
    induction l with
    | nil => cases e
    | cons p l ih =>
      obtain ⟨m, u'⟩ := p
      simp only [chkZs] at h5
      split at h5
      · rename_i hm
        simp only [look] at e
        split at e
        · rename_i he
          cases e
          rw [← Nat.eq_of_beq_eq_true he]
          split at hm
          · rename_i i k1
            split at hm
            · rename_i z k2
              simp only [Bool.and_eq_true] at hm
              exact ⟨i, z, k1, k2, Nat.eq_of_beq_eq_true hm.1, hm.2⟩
            · cases hm
          · cases hm
        · exact ih h5 e
      · cases h5
  · intro t fs e
    generalize c.by_ = l at h6 e
    induction l with
    | nil => cases e
    | cons p l ih =>
      obtain ⟨m, u'⟩ := p
      simp only [chkBy] at h6
      split at h6
      · rename_i hm
        simp only [look] at e
        split at e
        · rename_i he
          cases e
          rw [← Nat.eq_of_beq_eq_true he]
          split at hm
          · rename_i e k1
            split at hm
            · rename_i i k2
              simp only [Bool.and_eq_true] at hm
              exact ⟨e, i, k1, k2, Nat.eq_of_beq_eq_true hm.1.1.1, Nat.le_of_ble_eq_true hm.1.2, Nat.le_of_ble_eq_true hm.1.1.2, Nat.le_of_ble_eq_true hm.2⟩
            · cases hm
          · cases hm
        · exact ih h6 e
      · cases h6
theorem chkFs_get {P : Program} : ∀ {l : List (Nat × Nat)} {fs : List Field}, chkFs P l fs = true → ∀ {i o t : Nat}, l[i]? = some (o, t) → ∃ f, fs[i]? = some f ∧ f.offset = o ∧ f.type = t ∧ ∃ j, P.info? t = some j ∧ j.size ≠ 0
  | [], [], _, i, o, t, h => by cases h
  | [], _ :: _, h, _, _, _, _ => by cases h
  | _ :: _, [], h, _, _, _, _ => by cases h
  | (o', t') :: l, f :: fs, h, i, o, t, e => by
    simp only [chkFs] at h
    split at h
    · rename_i h1
      cases i with
      | zero =>
        cases e
        simp only [Bool.and_eq_true] at h1
        refine ⟨f, rfl, Nat.eq_of_beq_eq_true h1.1.1, Nat.eq_of_beq_eq_true h1.1.2, ?_⟩
        have := h1.2
        split at this
        · rename_i j hj
          refine ⟨j, hj, fun h0 => ?_⟩
          rw [h0] at this
          cases this
        · cases this
      | succ i => exact chkFs_get h (i := i) e
    · cases h
end Go.Sym

/- The operations one by one, I: what leaves the objects alone. -/
namespace Go.Sym
section
variable {w : World} {ok : Nat → Prop}
theorem VR_int {k : IntKind} {n : Int} {u : Value} : VR w ok (.int k) n u ↔ u = .int k n := ⟨fun h => by
    have h : [u] = [Value.int k n] := VR.cell (t := .int k) rfl h
    exact List.head_eq_of_cons_eq h, fun h => VR.of_cells rfl (by rw [h]; rfl)⟩
theorem VR_bool {b : Bool} {u : Value} : VR w ok .bool b u ↔ u = .bool b := ⟨fun h => by
    have h : [u] = [Value.bool b] := VR.cell (t := .bool) rfl h
    exact List.head_eq_of_cons_eq h, fun h => VR.of_cells rfl (by rw [h]; rfl)⟩
theorem VR_str {b : ByteArray} {u : Value} : VR w ok .str b u ↔ u = .string b := ⟨fun h => by
    have h : [u] = [Value.string b] := VR.cell (t := .str) rfl h
    exact List.head_eq_of_cons_eq h, fun h => VR.of_cells rfl (by rw [h]; rfl)⟩
theorem VR_slice {t : Ty} {xs : List t.den} {u : Value} : VR w ok (.slice t) xs u ↔ ∃ A cap, u = .slice A xs.length cap ∧ xs.length ≤ cap ∧ (xs = [] ∨ ∃ b off c e fr, A = some ⟨b, off, none⟩ ∧ ok b ∧ w.heap[b]? = some (.cells c e fr) ∧ LR (TR w ok t) xs ((c.toList.drop off).take (xs.length * t.sz))) := by
  constructor
  · intro h
    obtain ⟨A, cap, h1, hc, h2⟩ := VR.cell (t := .slice t) rfl h
    exact ⟨A, cap, List.head_eq_of_cons_eq h1, hc, h2⟩
  · rintro ⟨A, cap, h1, hc, h2⟩
    exact VR.of_cells rfl ⟨A, cap, by rw [h1], hc, h2⟩
end
/-- New references are new. -/
def Fresh (A : Nat → Prop) (fr : Nat) (us : Ups) : Prop := ∀ p ∈ us, fr ≤ p.1 → ¬ A p.1
def InH (Hr : Nat → HO) (fr : Nat) (us : Ups) : Prop := ∀ p ∈ us, Hr p.1 ≠ .dead ∨ fr ≤ p.1
theorem InH.nil (Hr : Nat → HO) (fr : Nat) : InH Hr fr [] := fun _ h => by cases h
/-- What an operation comes to. -/
def Res (P : Program) (C : Ctx) (A : Nat → Prop) (ρ : Nat → RV) (σ : St) (a : Act) (w : World) (sl : Slot) (us : Ups) (m : Sem Value) : Prop :=
  ∃ v w' ρ', m.run P w = .ok v w' ∧ Aft C A ρ σ a w us ρ' w' ∧ SlR w' (okOf C.X ρ' (getO (updH σ.heap us))) ρ' (getO (updH σ.heap us)) sl v ∧ SlotIn (fun r => A r ∨ refs us r) sl
/-- .. where no value comes. -/
def ResU (P : Program) (C : Ctx) (A : Nat → Prop) (ρ : Nat → RV) (σ : St) (a : Act) (w : World) (us : Ups) (m : Sem Unit) : Prop :=
  ∃ w' ρ', m.run P w = .ok () w' ∧ Aft C A ρ σ a w us ρ' w'
section
variable {P : Program} {C : Ctx} {A : Nat → Prop} {ρ : Nat → RV} {σ : St} {a : Act} {w : World} {α : Type} {k : Slot → Ups → Option α} {out : α} {Hr : Nat → HO} {c : Cfg} {fr : Nat}
theorem Res.pure (h : Rel C A ρ σ a w) {sl : Slot} {m : Sem Value} {v : Value} (hm : m.run P w = .ok v w) (hs : SlR w (okOf C.X ρ (getO σ.heap)) ρ (getO σ.heap) sl v) (hi : SlotIn A sl) : Res P C A ρ σ a w sl [] m :=
  ⟨v, w, ρ, hm, Aft.nil h, hs, hi.mono (fun _ h => .inl h)⟩
/-- An operation's law. -/
def Law (P : Program) (C : Ctx) (A : Nat → Prop) (ρ : Nat → RV) (σ : St) (a : Act) (w : World) (Hr : Nat → HO) (fr : Nat) (k : Slot → Ups → Option α) (out : α) (m : Sem Value) : Prop :=
  ∃ sl us, k sl us = some out ∧ InH Hr fr us ∧ (Fresh A fr us → Res P C A ρ σ a w sl us m)
theorem Law.pure (h : Rel C A ρ σ a w) {sl : Slot} {m : Sem Value} {v : Value} (e : k sl [] = some out) (hm : m.run P w = .ok v w) (hs : SlR w (okOf C.X ρ (getO σ.heap)) ρ (getO σ.heap) sl v) (hi : SlotIn A sl) : Law P C A ρ σ a w Hr fr k out m :=
  ⟨sl, [], e, InH.nil _ _, fun _ => Res.pure h hm hs hi⟩
/-- A datum comes. -/
theorem Law.datum (h : Rel C A ρ σ a w) {t : Ty} {x : t.den} {m : Sem Value} {v : Value} (e : k (.one (.v t x)) [] = some out) (hm : m.run P w = .ok v w) (hs : VR w (okOf C.X ρ (getO σ.heap)) t x v) : Law P C A ρ σ a w Hr fr k out m :=
  Law.pure h e hm hs trivial
theorem asVal_VR {x : SV} {d : DV} {u : Value} {ok : Nat → Prop} {H : Nat → HO} (e : asVal x = some d) (h : SR w ok ρ H x u) : VR w ok d.t d.x u := by
  unfold asVal at e
  split at e <;> cases e
  · exact VR_bool.2 h
  · exact h
def plainV : Value → Prop | .nilIface | .agg _ => False | _ => True
theorem eqGuard_plain (op : BinOp) (t : TypeId) (x y : Operand) (u v : Value) (h : plainV u) : (eqGuard op t x y u v).run P w = .ok () w := by
  cases u <;> first | exact h.elim | skip
  all_goals (unfold eqGuard; split <;> rfl)
theorem evBin_sound (hc : CfgOk P c) (h : Rel C A ρ σ a w) {op : BinOp} {t : Nat} {x y : SV} {u v : Value} {o1 o2 : Operand} (hx : SR w (okOf C.X ρ (getO σ.heap)) ρ (getO σ.heap) x u) (hy : SR w (okOf C.X ρ (getO σ.heap)) ρ (getO σ.heap) y v)
    (e : evBin c Alg.real k op t x y = some out) : Law P C A ρ σ a w Hr fr k out (do eqGuard op t o1 o2 u v; binOp op t u v) := by
  have run : ∀ (m : Sem Value), plainV u → binOp op t u v = m → (do eqGuard op t o1 o2 u v; binOp op t u v : Sem Value).run P w = m.run P w := fun m hu hm => by
    rw [Sem.run_bind, eqGuard_plain op t o1 o2 u v hu, hm]
    rfl
  unfold evBin at e
  split at e
  · rename_i i p j q e1 e2
    have hu := VR_int.1 (asVal_VR e1 hx)
    have hv := VR_int.1 (asVal_VR e2 hy)
    subst hu hv
    split at e
    · -- shl
      simp only [Alg.real] at e
      split at e
      · rename_i hq
        have hq := of_decide_eq_true hq
        refine Law.datum h e ((run _ trivial rfl).trans ?_) (VR_int.2 rfl)
        have : ¬ (q : Int) < 0 := Int.not_lt.mpr hq
        simp only [binOp, Op.shift, this, if_false]
        rfl
      · cases e
    · simp only [Alg.real] at e
      split at e
      · rename_i hq
        have hq := of_decide_eq_true hq
        refine Law.datum h e ((run _ trivial rfl).trans ?_) (VR_int.2 rfl)
        have : ¬ (q : Int) < 0 := Int.not_lt.mpr hq
        simp only [binOp, Op.shift, this, if_false]
        rfl
      · cases e
    · split at e
      · rename_i hk
        have hk := kindN_inj hk
        subst hk
        split at e
        · simp only [Alg.real] at e
          split at e
          · cases e
          · rename_i hq
            have hq : ¬ q = 0 := by simpa using hq
            refine Law.datum h e ((run _ trivial rfl).trans ?_) (VR_int.2 rfl)
            simp only [binOp, Op.intDiv, hq, if_false, ne_eq, not_true_eq_false]
            rfl
        · simp only [Alg.real] at e
          split at e
          · cases e
          · rename_i hq
            have hq : ¬ q = 0 := by simpa using hq
            refine Law.datum h e ((run _ trivial rfl).trans ?_) (VR_int.2 rfl)
            simp only [binOp, Op.intDiv, hq, if_false, ne_eq, not_true_eq_false]
            rfl
        · split at e
          · rename_i ha
            refine Law.datum h e ((run _ trivial rfl).trans ?_) (VR_int.2 rfl)
            cases op <;> first | (simp only [isArith] at ha; done) | (simp only [binOp, Op.intArith, Op.intBits, ne_eq, not_true_eq_false, if_false]; rfl) | (cases ha; done)
          · split at e
            · rename_i ha
              refine Law.datum h e ((run _ trivial rfl).trans ?_) (VR_bool.2 rfl)
              cases op <;> first | (cases ha; done) | (simp only [binOp, Op.intCmp, ne_eq, not_true_eq_false, if_false]; rfl)
            · cases e
      · cases e
  · rename_i p q e1 e2
    have hu := VR_bool.1 (asVal_VR e1 hx)
    have hv := VR_bool.1 (asVal_VR e2 hy)
    subst hu hv
    split at e
    · rename_i hl
      have ht := (tyTop_ok (hc.ty _ _ hl)).bool rfl
      have heq : (Op.equal t (.bool p) (.bool q)).run P w = .ok (p == q) w := by
        unfold Op.equal Op.maxDepth Op.equalIn
        rw [Sem.run_bind, run_underlying ht]
        rfl
      split at e
      · refine Law.datum h e ((run _ trivial rfl).trans ?_) (VR_bool.2 rfl)
        simp only [binOp]
        rw [Sem.run_bind, heq]
        rfl
      · refine Law.datum h e ((run _ trivial rfl).trans ?_) (VR_bool.2 rfl)
        simp only [binOp]
        rw [Sem.run_bind, heq]
        rfl
      · cases e
    · cases e
  · rename_i p q e1 e2
    have hu := VR_str.1 (asVal_VR e1 hx)
    have hv := VR_str.1 (asVal_VR e2 hy)
    subst hu hv
    split at e
    · simp only [Alg.real] at e
      split at e
      · rename_i hq
        have hq := of_decide_eq_true hq
        refine Law.datum h e ((run _ trivial rfl).trans ?_) (VR_str.2 rfl)
        have h3 : ¬ ((p.size + q.size : Nat) : Int) > IntKind.i64.max := by
          have : IntKind.i64.max = 9223372036854775807 := by decide
          rw [this]
          omega
        simp only [binOp, Op.stringOp, h3, if_false]
        rfl
      · cases e
    · split at e
      · rename_i ha
        refine Law.datum h e ((run _ trivial rfl).trans ?_) (VR_bool.2 rfl)
        cases op <;> first | (cases ha; done) | rfl
      · cases e
  · cases e
theorem evUn_sound (h : Rel C A ρ σ a w) {op : UnOp} {x : SV} {u : Value} (hx : SR w (okOf C.X ρ (getO σ.heap)) ρ (getO σ.heap) x u) (e : evUn k op x = some out) : Law P C A ρ σ a w Hr fr k out (Op.unary op u) := by
  unfold evUn at e
  split at e
  · have hu : u = _ := hx
    subst hu
    exact Law.pure h e rfl rfl trivial
  · have hu := VR_bool.1 hx
    subst hu
    exact Law.datum h e rfl (VR_bool.2 rfl)
  · have hu := VR_int.1 hx
    subst hu
    exact Law.datum h e rfl (VR_int.2 rfl)
  · have hu := VR_int.1 hx
    subst hu
    exact Law.datum h e rfl (VR_int.2 rfl)
  · cases e
/-! ### lengths, bounds -/
theorem lenOf_slice (h : Rel C A ρ σ a w) (hH : ∀ r, Hr r ≠ .dead → getO σ.heap r = Hr r) {x : SV} {u : Value} {n : Nat} (hx : SR w (okOf C.X ρ (getO σ.heap)) ρ (getO σ.heap) x u) (e : lenOf Hr x = some n) :
    (∃ s, u = .string s ∧ s.size = n ∧ x = .v .str s) ∨ ∃ A' cap, u = .slice A' n cap ∧ n ≤ cap := by
  unfold lenOf at e
  split at e
  · cases e
    obtain ⟨A', cap, h1, hc, _⟩ := VR_slice.1 hx
    exact .inr ⟨A', cap, h1, hc⟩
  · cases e
    exact .inl ⟨_, VR_str.1 hx, rfl, rfl⟩
  · cases e
    exact .inr ⟨none, 0, hx, Nat.zero_le _⟩
  · rename_i r o m
    split at e
    · rename_i q xs hr
      cases e
      have hr' := hH r (by rw [hr]; intro h; cases h)
      rw [hr] at hr'
      simp only [SR, hr'] at hx
      obtain ⟨_, A', cap, h2, hc, _⟩ := hx
      exact .inr ⟨A', cap, h2, hc⟩
    · rename_i q xs hr
      cases e
      have hr' := hH r (by rw [hr]; intro h; cases h)
      rw [hr] at hr'
      simp only [SR, hr'] at hx
      obtain ⟨_, A', cap, h2, hc, _⟩ := hx
      exact .inr ⟨A', cap, h2, hc⟩
    · cases e
  · rename_i r
    split at e
    · rename_i q xs hr
      cases e
      have hr' := hH r (by rw [hr]; intro h; cases h)
      rw [hr] at hr'
      simp only [SR, hr'] at hx
      have hR := RowFacts h (.inl hr')
      cases hρ : ρ r with
      | none =>
        rw [hρ] at hx
        have hx0 : xs = [] := by
          rcases hR with hR | hR
          · exact hR
          · rw [hρ] at hR; exact hR
        subst hx0
        exact .inr ⟨none, 0, hx, Nat.zero_le _⟩
      | «at» b off cap =>
        rw [hρ] at hx
        exact .inr ⟨_, _, hx, ARcap hR hρ⟩
    · rename_i q xs hr
      cases e
      have hr' := hH r (by rw [hr]; intro h; cases h)
      rw [hr] at hr'
      simp only [SR, hr'] at hx
      have hR := RowFacts h (.inr hr')
      cases hρ : ρ r with
      | none =>
        rw [hρ] at hx
        have hx0 : xs = [] := by
          rcases hR with hR | hR
          · exact hR
          · rw [hρ] at hR; exact hR
        subst hx0
        exact .inr ⟨none, 0, hx, Nat.zero_le _⟩
      | «at» b off cap =>
        rw [hρ] at hx
        exact .inr ⟨_, _, hx, ARcap hR hρ⟩
    · cases e
  · cases e
end
end Go.Sym

/- The operations one by one, II: what reads memory. -/
namespace Go.Sym
theorem seg {α : Type} (l : List α) (n i m : Nat) (h : i + m ≤ n) : ((l.take n).drop i).take m = (l.drop i).take m := by
  rw [List.drop_take, List.take_take]
  congr 1
  omega
section
variable {P : Program} {C : Ctx} {A : Nat → Prop} {ρ : Nat → RV} {σ : St} {a : Act} {w : World} {α : Type} {k : Slot → Ups → Option α} {out : α} {Hr : Nat → HO} {c : Cfg} {fr : Nat}
theorem cells_at {b off : Nat} {cs : Array Value} {e : TypeId} {f : Nat × Nat} (hb : w.heap[b]? = some (.cells cs e f)) (n : Nat) : w.rangeAt b off ((cs.toList.drop off).take n) := by
  intro j v hv
  rw [cell_of_row w b (off + j) cs e f hb]
  rw [List.getElem?_take] at hv
  split at hv
  · rw [List.getElem?_drop] at hv
    simpa using hv
  · cases hv
theorem run_isAgg {t : TypeId} {d : TypeDesc} (h : P.underlying t = some d) : (isAgg t).run P w = .ok d.isRow w := by
  unfold isAgg
  rw [Sem.run_bind, run_underlying h w]
  cases d <;> rfl
theorem run_sizeOf {t : TypeId} {i : TypeInfo} (h : P.info? t = some i) : (sizeOf t).run P w = .ok i.size w := by
  simp [sizeOf, typeInfo, h]
/-- A datum is loaded. -/
theorem load_datum {t : TypeId} {u : Ty} (hk : TyOk P u t) {b off : Nat} {cs : Array Value} {e : TypeId} {f : Nat × Nat} (hb : w.heap[b]? = some (.cells cs e f)) {ok : Nat → Prop} {x : u.den}
    (hT : TR w ok u x ((cs.toList.drop off).take u.sz)) : ∃ v, (Instr.loadAt t (.pointer (some ⟨b, off, none⟩))).run P w = .ok v w ∧ VR w ok u x v := by
  obtain ⟨d, i, h1, h2, h3, h4⟩ := hk.row
  cases hr : d.isRow with
  | true =>
    refine ⟨_, run_loadAt_mid w b off t _ d (cells_at hb u.sz) h1 hr (by rw [h2, TR.len hT]; simp [h3]), ?_⟩
    exact VR.of_agg (by rw [← h4]; exact hr) hT
  | false =>
    have hg : u.agg = false := by rw [← h4]; exact hr
    have hl := TR.len hT
    have hs := TR.sz1 hg
    rw [hs] at hl hT
    cases hc : (cs.toList.drop off).take 1 with
    | nil => rw [hc] at hl; cases hl
    | cons v l =>
      rw [hc] at hl
      have hl' : l = [] := List.eq_nil_of_length_eq_zero (by simpa using hl)
      subst hl'
      rw [hc] at hT
      have hcell := cells_at hb (off := off) 1 0 v (by rw [hc]; rfl)
      refine ⟨v, ?_, VR.of_cells hg hT⟩
      simp only [Instr.loadAt, Instr.sureAddr, loadVar, Sem.run_bind, Sem.run_pure, Result.andThen_ok, run_isAgg h1, hr]
      simp only [Bool.false_eq_true, if_false, run_load]
      rw [Nat.add_zero] at hcell
      rw [hcell]
theorem load_cell {t : TypeId} {d : TypeDesc} (h1 : P.underlying t = some d) (hr : d.isRow = false) {b off : Nat} {cs : Array Value} {e : TypeId} {f : Nat × Nat} (hb : w.heap[b]? = some (.cells cs e f)) (ho : off < cs.size) :
    (Instr.loadAt t (.pointer (some ⟨b, off, none⟩))).run P w = .ok (cs.toList.getD off undef) w := by
  simp only [Instr.loadAt, Instr.sureAddr, loadVar, Sem.run_bind, Sem.run_pure, Result.andThen_ok, run_isAgg h1, hr]
  simp only [Bool.false_eq_true, if_false, run_load]
  rw [cell_of_row w b off cs e f hb]
  simp [ho]
theorem gather_sound (h : Rel C A ρ σ a w) (hH : ∀ r, Hr r ≠ .dead → getO σ.heap r = Hr r) : ∀ (u : Ty) (l : List SV) (cs : List Value) (y : u.den) (us : Ups) (l' : List SV),
    evLoad.gather Hr u l = some (y, us, l') → CellsR w (okOf C.X ρ (getO σ.heap)) ρ (getO σ.heap) l cs →
    Frz (getO σ.heap) us ∧ (∀ p ∈ us, Hr p.1 ≠ .dead) ∧ ∃ c1 c2, cs = c1 ++ c2 ∧ CellsR w (okOf C.X ρ (getO σ.heap)) ρ (getO σ.heap) l' c2 ∧
      ∀ vs, Frz (getO σ.heap) vs → (∀ p ∈ us, p ∈ vs) → TR w (okOf C.X ρ (getO (updH σ.heap vs))) u y c1 := by
  have leaf : ∀ (u : Ty) (hg : u.agg = false) (l : List SV) (cs : List Value) (y : u.den) (us : Ups) (l' : List SV),
      (match l with | [] => none | x :: l => match toVal Hr u x with | some (y, us) => some (y, us, l) | none => none) = some (y, us, l') → CellsR w (okOf C.X ρ (getO σ.heap)) ρ (getO σ.heap) l cs →
      Frz (getO σ.heap) us ∧ (∀ p ∈ us, Hr p.1 ≠ .dead) ∧ ∃ c1 c2, cs = c1 ++ c2 ∧ CellsR w (okOf C.X ρ (getO σ.heap)) ρ (getO σ.heap) l' c2 ∧
        ∀ vs, Frz (getO σ.heap) vs → (∀ p ∈ us, p ∈ vs) → TR w (okOf C.X ρ (getO (updH σ.heap vs))) u y c1 := by
    intro u hg l cs y us l' e hR
    cases l with
    | nil => cases e
    | cons x l =>
      obtain ⟨v, cs', e1, k1, k2⟩ := hR
      simp only at e
      split at e
      · rename_i y' us' hv
        cases e
        obtain ⟨f1, f2⟩ := toVal_sound h hH hv k1
        refine ⟨f1, fun p hp => ?_, [v], cs', e1, k2, fun vs hf hin => VR.cell hg (f2 vs hf hin)⟩
        obtain ⟨t', xs', g1, g2⟩ := f1 p hp
        intro hd
        exact (toVal_in hv p hp) hd
      · cases e
  intro u
  induction u with
  | unit =>
    intro l cs y us l' e hR
    cases e
    exact ⟨Frz.nil _, fun _ h => (by cases h), [], cs, rfl, hR, fun _ _ _ => rfl⟩
  | pair p q ihp ihq =>
    intro l cs y us l' e hR
    simp only [evLoad.gather] at e
    split at e
    · rename_i y1 us1 l1 e1
      split at e
      · rename_i y2 us2 l2 e2
        cases e
        obtain ⟨f1, f2, c1, c2, f3, f4, f5⟩ := ihp _ _ _ _ _ e1 hR
        obtain ⟨g1, g2, d1, d2, g3, g4, g5⟩ := ihq _ _ _ _ _ e2 f4
        refine ⟨f1.app g1, fun p hp => ?_, c1 ++ d1, d2, by rw [f3, g3, List.append_assoc], g4, fun vs hf hin => ⟨c1, d1, rfl, f5 vs hf (fun p hp => hin p (List.mem_append_left _ hp)), g5 vs hf (fun p hp => hin p (List.mem_append_right _ hp))⟩⟩
        rcases List.mem_append.1 hp with hp | hp
        · exact f2 p hp
        · exact g2 p hp
      · cases e
    · cases e
  | arr => intro l cs y us l' e hR; cases e
  | map => intro l cs y us l' e hR; cases e
  | int k => intro l cs y us l' e hR; exact leaf (.int k) rfl l cs y us l' e hR
  | bool => intro l cs y us l' e hR; exact leaf .bool rfl l cs y us l' e hR
  | str => intro l cs y us l' e hR; exact leaf .str rfl l cs y us l' e hR
  | slice t _ => intro l cs y us l' e hR; exact leaf (.slice t) rfl l cs y us l' e hR
  | pt t _ => intro l cs y us l' e hR; exact leaf (.pt t) rfl l cs y us l' e hR
  | clo f t _ => intro l cs y us l' e hR; exact leaf (.clo f t) rfl l cs y us l' e hR

theorem Rel.cellsR (h : Rel C A ρ σ a w) {r : Nat} {l : List SV} (hr : getO σ.heap r = .cells l) : ∃ b cap cs e, ρ r = .at b 0 cap ∧ w.heap[b]? = some (.cells cs e (0, 0)) ∧ cs.size = l.length ∧
    CellsR w (okOf C.X ρ (getO σ.heap)) ρ (getO σ.heap) l cs.toList := by
  have ho := h.objs r
  rw [hr] at ho
  obtain ⟨b, cap, cs, e, h1, h2, h3, h4⟩ := ho
  refine ⟨b, cap, cs, e, h1, h2, h3, CellsR.of (by simpa using h3) (fun i hi => ?_)⟩
  have := h4.1 i hi
  simpa using this
/-- What an element's address says. -/
theorem Rel.eptr (h : Rel C A ρ σ a w) {r i j : Nat} {t : Ty} {xs : List t.den} {u : Value} (hr : getO σ.heap r = .arr t xs ∨ getO σ.heap r = .froz t xs) (hs : SR w (okOf C.X ρ (getO σ.heap)) ρ (getO σ.heap) (.eptr r i j) u) :
    ∃ (hi : i < xs.length) (b off cap : Nat) (cs : Array Value) (e : TypeId) (f : Nat × Nat), ρ r = .at b off cap ∧ u = .pointer (some ⟨b, off + (i * t.sz + j), none⟩) ∧ w.heap[b]? = some (.cells cs e f) ∧
      xs.length ≤ cap ∧ off + cap * t.sz ≤ cs.size ∧ TR w (okOf C.X ρ (getO σ.heap)) t xs[i] ((cs.toList.drop (off + i * t.sz)).take t.sz) := by
  have hs' : i < xs.length ∧ ∃ b off cap, ρ r = .at b off cap ∧ u = .pointer (some ⟨b, off + (i * t.sz + j), none⟩) := by
    rcases hr with hr | hr <;> (simp only [SR, hr] at hs; obtain ⟨b, o, e1, e2, off, cap, e3, e4⟩ := hs; exact ⟨e2, b, off, cap, e3, by rw [e1, e4]⟩)
  obtain ⟨hi, b, off, cap, h1, h2⟩ := hs'
  rcases RowFacts h hr with h3 | h3
  · rw [h3] at hi
    cases hi
  · rw [h1] at h3
    obtain ⟨cs, e, f, k1, _, k2, k3, k4⟩ := h3
    refine ⟨hi, b, off, cap, cs, e, f, h1, h2, k1, k2, k3, ?_⟩
    have := k4.nth (fun _ _ k => TR.len k) i hi
    rw [seg _ _ _ _ (by
      have := Nat.mul_le_mul_right t.sz (show i + 1 ≤ xs.length from hi)
      rw [Nat.succ_mul] at this
      exact this), List.drop_drop] at this
    exact this
theorem SlotIn.get {l : List SV} (h : ∀ x ∈ l, RefIn A x) (i : Nat) : RefIn A (getL .unk l i) := by
  rcases Nat.lt_or_ge i l.length with hi | hi
  · exact h _ (getL_mem _ l i hi)
  · rw [getL_ge _ _ _ hi]
    trivial
/-- An operation that leaves the world alone. -/
def LawP (P : Program) (C : Ctx) (A : Nat → Prop) (ρ : Nat → RV) (σ : St) (a : Act) (w : World) (Hr : Nat → HO) (fr : Nat) (k : Slot → Ups → Option α) (out : α) (m : Sem Value) : Prop :=
  ∃ sl us, k sl us = some out ∧ InH Hr fr us ∧ (Fresh A fr us → ∃ v ρ', m.run P w = .ok v w ∧ Aft C A ρ σ a w us ρ' w ∧ SlR w (okOf C.X ρ' (getO (updH σ.heap us))) ρ' (getO (updH σ.heap us)) sl v ∧ SlotIn (fun r => A r ∨ refs us r) sl)
theorem LawP.pure (h : Rel C A ρ σ a w) {sl : Slot} {m : Sem Value} {v : Value} (e : k sl [] = some out) (hm : m.run P w = .ok v w) (hs : SlR w (okOf C.X ρ (getO σ.heap)) ρ (getO σ.heap) sl v) (hi : SlotIn A sl) : LawP P C A ρ σ a w Hr fr k out m :=
  ⟨sl, [], e, InH.nil _ _, fun _ => ⟨v, ρ, hm, Aft.nil h, hs, hi.mono (fun _ h => .inl h)⟩⟩
theorem LawP.datum (h : Rel C A ρ σ a w) {t : Ty} {x : t.den} {m : Sem Value} {v : Value} (e : k (.one (.v t x)) [] = some out) (hm : m.run P w = .ok v w) (hs : VR w (okOf C.X ρ (getO σ.heap)) t x v) : LawP P C A ρ σ a w Hr fr k out m :=
  LawP.pure h e hm hs trivial
theorem LawP.law {m : Sem Value} (h : LawP P C A ρ σ a w Hr fr k out m) : Law P C A ρ σ a w Hr fr k out m := by
  obtain ⟨sl, us, h1, h2, h3⟩ := h
  refine ⟨sl, us, h1, h2, fun hf => ?_⟩
  obtain ⟨v, ρ', r1, r2, r3, r4⟩ := h3 hf
  exact ⟨v, w, ρ', r1, r2, r3, r4⟩
theorem evLoad_pure (hc : CfgOk P c) (h : Rel C A ρ σ a w) (hH : ∀ r, Hr r ≠ .dead → getO σ.heap r = Hr r) {t : Nat} {x : SV} {u : Value} (hx : SR w (okOf C.X ρ (getO σ.heap)) ρ (getO σ.heap) x u)
    (e : evLoad c Hr k t x = some out) : LawP P C A ρ σ a w Hr fr k out (Instr.loadAt t u) := by
  have elem : ∀ (r i j : Nat) (q : Ty) (xs : List q.den), (getO σ.heap r = .arr q xs ∨ getO σ.heap r = .froz q xs) → SR w (okOf C.X ρ (getO σ.heap)) ρ (getO σ.heap) (.eptr r i j) u →
      (match look c.ty t with
      | some u' => match projAt q j u' (xs.getD i q.zero) with | some y => k (.one (.v u' y)) [] | none => none
      | none => none) = some out → LawP P C A ρ σ a w Hr fr k out (Instr.loadAt t u) := by
    intro r i j q xs hr hs e
    split at e
    · rename_i u' hl
      split at e
      · rename_i y hy
        obtain ⟨hi, b, off, cap, cs, et, f, h1, h2, h3, h4, h5, h6⟩ := h.eptr hr hs
        have hd : xs.getD i q.zero = xs[i] := by simp [List.getD_eq_getElem?_getD, hi]
        rw [hd] at hy
        obtain ⟨k1, k2⟩ := proj_TR q j u' _ y _ h6 hy
        rw [seg _ _ _ _ k2, List.drop_drop] at k1
        rw [show off + i * q.sz + j = off + (i * q.sz + j) by omega] at k1
        obtain ⟨v, hv, hR⟩ := load_datum (P := P) (tyTop_ok (hc.ty _ _ hl)) h3 k1
        subst h2
        exact LawP.datum h e hv hR
      · cases e
    · cases e
  unfold evLoad at e
  split at e
  · rename_i q y
    split at e
    · rename_i u' hl
      split at e
      · rename_i hq
        obtain ⟨b, off, cs, et, f, h1, h2, h3, h4⟩ := hx
        have hqu := tyq_eq hq
        subst hqu
        obtain ⟨v, hv, hR⟩ := load_datum (P := P) (tyTop_ok (hc.ty _ _ hl)) h3 h4
        subst h1
        exact LawP.datum h e hv hR
      · cases e
    · cases e
  · rename_i r i j
    split at e
    · rename_i q xs hr
      have hr' := hH r (by rw [hr]; intro h; cases h)
      exact elem r i j q xs (.inl (hr'.trans hr)) hx e
    · rename_i q xs hr
      have hr' := hH r (by rw [hr]; intro h; cases h)
      exact elem r i j q xs (.inr (hr'.trans hr)) hx e
    · cases e
  · rename_i r i
    split at e
    · rename_i l hr
      have hr' := (hH r (by rw [hr]; intro h; cases h)).trans hr
      obtain ⟨b, cap, cs, et, h1, h2, h3, h4⟩ := h.cellsR hr'
      simp only [SR, hr'] at hx
      obtain ⟨b', e2, off', cap', e1⟩ := hx
      rw [h1] at e1
      cases e1
      split at e
      · rename_i q hl
        split at e
        · split at e
          · rename_i y us l' hg
            obtain ⟨f1, f2, c1, c2, f3, f4, f5⟩ := gather_sound h hH q _ _ _ _ _ hg (h4.drop i)
            have hT := f5 us f1 (fun p hp => hp)
            have hc1 : (cs.toList.drop i).take q.sz = c1 := by
              rw [f3, ← TR.len hT, List.take_left]
            rw [← hc1] at hT
            obtain ⟨v, hv, hR⟩ := load_datum (P := P) (tyTop_ok (hc.ty _ _ hl)) h2 hT
            subst e2
            exact ⟨_, us, e, fun p hp => .inl (f2 p hp), fun _ => ⟨v, ρ, hv, h.frz us f1, hR, trivial⟩⟩
          · cases e
        · rename_i hg
          split at e
          · rename_i hle
            have hlt := Nat.le_of_ble_eq_true hle
            obtain ⟨d, inf, d1, d2, d3, d4⟩ := (tyTop_ok (hc.ty _ _ hl)).row
            subst e2
            refine LawP.pure h e (load_cell (P := P) d1 (by rw [d4]; simpa using hg) h2 (by omega)) (CellsR.get h4 i hlt) (SlotIn.get (h.inO r l hr') i)
          · cases e
      · split at e
        · rename_i hle
          simp only [Bool.and_eq_true] at hle
          have hlt := Nat.le_of_ble_eq_true hle.2
          obtain ⟨d, inf, d1, d2, d3, d4⟩ := hc.one _ hle.1
          subst e2
          refine LawP.pure h e (load_cell (P := P) d1 d3 h2 (by omega)) (CellsR.get h4 i hlt) (SlotIn.get (h.inO r l hr') i)
        · cases e
    · cases e
  · cases e
theorem evLoad_sound (hc : CfgOk P c) (h : Rel C A ρ σ a w) (hH : ∀ r, Hr r ≠ .dead → getO σ.heap r = Hr r) {t : Nat} {x : SV} {u : Value} (hx : SR w (okOf C.X ρ (getO σ.heap)) ρ (getO σ.heap) x u)
    (e : evLoad c Hr k t x = some out) : Law P C A ρ σ a w Hr fr k out (Instr.loadAt t u) := (evLoad_pure hc h hH hx e).law
theorem part_datum {t : TypeId} {q : Ty} (hk : TyOk P q t) {cs : Array Value} {off : Nat} {ok : Nat → Prop} {x : q.den} (hT : TR w ok q x ((cs.toList.drop off).take q.sz)) : ∃ v, (part t cs off).run P w = .ok v w ∧ VR w ok q x v := by
  obtain ⟨d, i, h1, h2, h3, h4⟩ := hk.row
  cases hr : d.isRow with
  | true =>
    refine ⟨.agg (cs.extract off (off + i.size)), ?_, VR.of_agg (by rw [← h4]; exact hr) ?_⟩
    · simp only [part, Sem.run_bind, run_isAgg h1, hr, Result.andThen_ok, if_true, run_sizeOf h2]
      rfl
    · rw [Array.toList_extract, List.extract_eq_take_drop, h3, Nat.add_sub_cancel_left]
      exact hT
  | false =>
    have hg : q.agg = false := by rw [← h4]; exact hr
    have hl := TR.len hT
    have hs := TR.sz1 hg
    rw [hs] at hl hT
    cases hc : (cs.toList.drop off).take 1 with
    | nil => rw [hc] at hl; cases hl
    | cons v l =>
      rw [hc] at hl
      have hl' : l = [] := List.eq_nil_of_length_eq_zero (by simpa using hl)
      subst hl'
      rw [hc] at hT
      have hv : cs[off]? = some v := by
        have h0 : ((cs.toList.drop off).take 1)[0]? = some v := by rw [hc]; rfl
        simpa [List.getElem?_take, List.getElem?_drop] using h0
      refine ⟨v, ?_, VR.of_cells hg hT⟩
      simp only [part, Sem.run_bind, run_isAgg h1, hr, Result.andThen_ok, Bool.false_eq_true, if_false, hv]
      rfl
theorem evField_sound (hc : CfgOk P c) (h : Rel C A ρ σ a w) {t f : Nat} {x : SV} {u : Value} (hx : SR w (okOf C.X ρ (getO σ.heap)) ρ (getO σ.heap) x u)
    (e : evField c k t x f = some out) : Law P C A ρ σ a w Hr fr k out (Instr.field t u f) := by
  unfold evField at e
  split at e
  · rename_i fs q y hf
    split at e
    · rename_i off ft u' hi hl
      split at e
      · rename_i q2 hl2
        split at e
        · rename_i hq
          have hqu := tyq_eq hq
          subst hqu
          split at e
          · rename_i z hz
            obtain ⟨flds, g1, g2⟩ := hc.fld _ _ hf
            obtain ⟨fd, j1, j2, j3, j4⟩ := chkFs_get g2 hi
            have hk := tyTop_ok (hc.ty _ _ hl)
            obtain ⟨d, inf, d1, d2, d3, d4⟩ := hk.row
            rw [g1] at d1
            cases d1
            have hx : VR w _ q y u := hx
            unfold VR at hx
            rw [← d4] at hx
            obtain ⟨cs, rfl, hT⟩ := hx
            obtain ⟨p1, p2⟩ := proj_TR q off q2 y z _ hT hz
            obtain ⟨v, hv, hR⟩ := part_datum (P := P) (tyTop_ok (hc.ty _ _ hl2)) p1
            refine Law.datum h e ?_ hR
            have hfd : flds[f]? = some fd := by rw [← Array.getElem?_toList]; exact j1
            simp only [Instr.field, Sem.run_bind, run_underlying g1, Result.andThen_ok, hfd, asAgg, Sem.run_pure, j3, j2, hv]
          · cases e
        · cases e
      · cases e
    · cases e
  · cases e
theorem run_fieldAt {t f : Nat} {flds : Array Field} {fs : List (Nat × Nat)} (h1 : P.underlying t = some (.struct flds)) (h2 : chkFs P fs flds.toList = true) {off ft : Nat} (hi : fs[f]? = some (off, ft)) (b o : Nat) :
    (Instr.fieldAt t (.pointer (some ⟨b, o, none⟩)) f).run P w = .ok (.pointer (some ⟨b, o + off, none⟩)) w := by
  obtain ⟨fd, j1, j2, j3, i, j4, j5⟩ := chkFs_get h2 hi
  have hfd : flds[f]? = some fd := by rw [← Array.getElem?_toList]; exact j1
  have hadd : (⟨b, o, none⟩ : Addr).add off = ⟨b, o + off, none⟩ := by unfold Addr.add; split <;> simp_all
  simp only [Instr.fieldAt, Sem.run_bind, run_underlying h1, Result.andThen_ok, hfd, Instr.sureAddr, Sem.run_pure, fieldPlace, j3, run_sizeOf j4, j5, if_false, j2, hadd]
theorem evFieldAddr_sound (hc : CfgOk P c) (h : Rel C A ρ σ a w) {t f : Nat} {x : SV} {u : Value} (hx : SR w (okOf C.X ρ (getO σ.heap)) ρ (getO σ.heap) x u) (hin : RefIn A x)
    (e : evFieldAddr c k t x f = some out) : Law P C A ρ σ a w Hr fr k out (Instr.fieldAt t u f) := by
  unfold evFieldAddr at e
  split at e
  · cases e
  · rename_i fs hf
    obtain ⟨flds, g1, g2⟩ := hc.fld _ _ hf
    split at e
    · cases e
    · rename_i off ft hi
      split at e
      · rename_i r i
        obtain ⟨b, h1, h2⟩ := hx
        subst h1
        exact Law.pure h e (run_fieldAt g1 g2 hi b i) ⟨b, rfl, h2⟩ hin
      · rename_i r i j
        obtain ⟨b, o, h1, h2⟩ := hx
        subst h1
        refine Law.pure h e (run_fieldAt g1 g2 hi b o) ⟨b, o + off, rfl, ?_⟩ hin
        split at h2
        · obtain ⟨k1, off', cap, k2, k3⟩ := h2
          exact ⟨k1, off', cap, k2, by omega⟩
        · obtain ⟨k1, off', cap, k2, k3⟩ := h2
          exact ⟨k1, off', cap, k2, by omega⟩
        · trivial
      · rename_i q y
        split at e
        · rename_i u' q2 hl hl2
          split at e
          · rename_i hq
            have hqu := tyq_eq hq
            subst hqu
            split at e
            · rename_i z hz
              obtain ⟨b, o, cs, et, fz, h1, h2, h3, h4⟩ := hx
              subst h1
              obtain ⟨k1, k2⟩ := proj_TR q off q2 y z _ h4 hz
              rw [seg _ _ _ _ k2, List.drop_drop] at k1
              exact Law.pure h e (run_fieldAt g1 g2 hi b o) ⟨b, o + off, cs, et, fz, rfl, h2, h3, k1⟩ trivial
            · cases e
          · cases e
        · cases e
      · cases e
/-! ### elements, slices -/
theorem intOf_SR {x : SV} {n : Int} {u : Value} {ok : Nat → Prop} {H : Nat → HO} (e : intOf x = some n) (h : SR w ok ρ H x u) : ∃ i, u = .int i n := by
  unfold intOf at e
  split at e
  · cases e
    exact ⟨_, VR_int.1 h⟩
  · cases e
/-- The rows of a state, as a slice sees them. -/
theorem row_slice (h : Rel C A ρ σ a w) {r : Nat} {t : Ty} {xs : List t.den} (hr : getO σ.heap r = .arr t xs ∨ getO σ.heap r = .froz t xs) {u : Value} (hs : SR w (okOf C.X ρ (getO σ.heap)) ρ (getO σ.heap) (.own r) u) :
    (xs = [] ∧ ρ r = .none ∧ u = .slice none 0 0) ∨ ∃ b off cap, ρ r = .at b off cap ∧ u = .slice (some ⟨b, off, none⟩) xs.length cap ∧ xs.length ≤ cap := by
  have hs' : (match ρ r with | .none => u = .slice none 0 0 | .at b off cap => u = .slice (some ⟨b, off, none⟩) xs.length cap) := by
    rcases hr with hr | hr <;> (simp only [SR, hr] at hs; exact hs)
  cases hρ : ρ r with
  | none =>
    rw [hρ] at hs'
    rcases RowFacts h hr with h3 | h3
    · exact .inl ⟨h3, rfl, hs'⟩
    · rw [hρ] at h3
      exact .inl ⟨h3, rfl, hs'⟩
  | «at» b off cap =>
    rw [hρ] at hs'
    exact .inr ⟨b, off, cap, rfl, hs', ARcap (RowFacts h hr) hρ⟩
theorem run_indexAt {t et : TypeId} (h1 : P.underlying t = some (.slice et)) {i : TypeInfo} (h2 : P.info? et = some i) (b off len cap : Nat) (n : Int) (kd : IntKind) (h0 : 0 ≤ n) (hn : n < (len : Int)) :
    (Instr.indexAt t (.slice (some ⟨b, off, none⟩) len cap) (.int kd n)).run P w = .ok (.pointer (some ⟨b, off + n.toNat * i.size, none⟩)) w := by
  have hadd : (⟨b, off, none⟩ : Addr).add (n.toNat * i.size) = ⟨b, off + n.toNat * i.size, none⟩ := by unfold Addr.add; split <;> simp_all
  simp only [Instr.indexAt, asIntOf, Sem.run_bind, Sem.run_pure, Result.andThen_ok, run_underlying h1, h0, hn, and_self, if_true, run_sizeOf h2, hadd]
theorem evIndexAddr_sound (hc : CfgOk P c) (h : Rel C A ρ σ a w) (hH : ∀ r, Hr r ≠ .dead → getO σ.heap r = Hr r) {t : Nat} {x y : SV} {u v : Value} (hx : SR w (okOf C.X ρ (getO σ.heap)) ρ (getO σ.heap) x u) (hy : SR w (okOf C.X ρ (getO σ.heap)) ρ (getO σ.heap) y v)
    (hin : RefIn A x) (e : evIndexAddr c Alg.real Hr k t x y = some out) : Law P C A ρ σ a w Hr fr k out (Instr.indexAt t u v) := by
  unfold evIndexAddr at e
  split at e
  · rename_i i n e1 e2 e3
    obtain ⟨kd, rfl⟩ := intOf_SR e1 hy
    simp only [Alg.real] at e
    split at e
    · rename_i h0
      have h0 := of_decide_eq_true h0
      split at e
      · rename_i hn
        have hn := of_decide_eq_true hn
        have hnat : i.toNat < n := by omega
        -- a row of the state
        have row : ∀ (r : Nat) (q : Ty) (xs : List q.den), (getO σ.heap r = .arr q xs ∨ getO σ.heap r = .froz q xs) → A r → look c.ty t = some (.slice q) → ∀ (o : Nat) (A' : Option Addr) (cap : Nat),
            u = .slice A' n cap → o + n ≤ xs.length → (∀ b off c, ρ r = .at b off c → n = 0 ∨ A' = some ⟨b, off + o * q.sz, none⟩) → k (.one (.eptr r (o + i.toNat) 0)) [] = some out → Law P C A ρ σ a w Hr fr k out (Instr.indexAt t u (.int kd i)) := by
          intro r q xs hr hA hl o A' cap hu hon hat e
          obtain ⟨et, g1, g2, _⟩ := tyChk_slice (hc.ty _ _ hl)
          obtain ⟨d, inf, d1, d2, d3, d4⟩ := g2.row
          cases hρ : ρ r with
          | none =>
            rcases RowFacts h hr with h3 | h3
            · rw [h3] at hon; simp at hon; omega
            · rw [hρ] at h3
              rw [show xs = [] from h3] at hon; simp at hon; omega
          | «at» b off cp =>
            rcases hat b off cp hρ with h4 | h4
            · omega
            · subst hu h4
              refine Law.pure h e (run_indexAt g1 d2 b _ n cap i kd h0 hn) ⟨b, _, rfl, ?_⟩ hA
              rcases hr with hr | hr <;> (rw [hr]; refine ⟨by omega, off, cp, hρ, ?_⟩; rw [d3, Nat.add_mul]; omega)
        split at e
        · rename_i q xs
          cases e2
          have hl : look c.ty t = some (.slice q) := by
            unfold slFit at e3
            split at e3 <;> first | (rename_i g1 g2; cases g2; rw [g1, tyq_eq e3]; done) | (rename_i g1 g2; cases g2; done) | (cases e3; done)
          obtain ⟨et, g1, g2, _⟩ := tyChk_slice (hc.ty _ _ hl)
          obtain ⟨d, inf, d1, d2, d3, d4⟩ := g2.row
          obtain ⟨A', cap, hu, _, hs⟩ := VR_slice.1 hx
          rcases hs with hs | ⟨b, off, cs, et', f, s1, s2, s3, s4⟩
          · rw [hs] at hnat; cases hnat
          · subst hu s1
            refine Law.pure h e (run_indexAt g1 d2 b off xs.length cap i kd h0 hn) ⟨b, _, cs, et', f, rfl, s2, s3, ?_⟩ trivial
            have := s4.nth (fun _ _ k => TR.len k) i.toNat hnat
            rw [seg _ _ _ _ (by
              have := Nat.mul_le_mul_right q.sz (show i.toNat + 1 ≤ xs.length from hnat)
              rw [Nat.succ_mul] at this
              exact this), List.drop_drop] at this
            have hd : List.getD xs i.toNat q.zero = xs[i.toNat] := by simp [List.getD_eq_getElem?_getD, hnat]
            rw [hd, d3]
            exact this
        · rename_i r
          unfold lenOf at e2
          simp only at e2
          unfold slFit at e3
          split at e2
          · rename_i q xs hr
            cases e2
            have hr' := (hH r (by rw [hr]; intro h; cases h)).trans hr
            have hl : look c.ty t = some (.slice q) := by
              split at e3 <;> first | (cases e3; done) | skip
              all_goals first | (rename_i g1 g2; cases g2; done) | (rename_i g1 g2; cases g2; rw [hr] at e3; rw [g1, tyq_eq e3]; done)
            rcases row_slice h (.inl hr') hx with ⟨h5, _, _⟩ | ⟨b, off, cap, h5, h6, h7⟩
            · rw [h5] at hnat; cases hnat
            · have := row r q xs (.inl hr') hin hl 0 _ cap h6 (by omega) (fun b' off' c' e' => .inr (by rw [h5] at e'; cases e'; simp))
              rw [Nat.zero_add] at this
              exact this e
          · rename_i q xs hr
            cases e2
            have hr' := (hH r (by rw [hr]; intro h; cases h)).trans hr
            have hl : look c.ty t = some (.slice q) := by
              split at e3 <;> first | (cases e3; done) | skip
              all_goals first | (rename_i g1 g2; cases g2; done) | (rename_i g1 g2; cases g2; rw [hr] at e3; rw [g1, tyq_eq e3]; done)
            rcases row_slice h (.inr hr') hx with ⟨h5, _, _⟩ | ⟨b, off, cap, h5, h6, h7⟩
            · rw [h5] at hnat; cases hnat
            · have := row r q xs (.inr hr') hin hl 0 _ cap h6 (by omega) (fun b' off' c' e' => .inr (by rw [h5] at e'; cases e'; simp))
              rw [Nat.zero_add] at this
              exact this e
          · cases e2
        · rename_i r o m
          unfold lenOf at e2
          simp only at e2
          unfold slFit at e3
          split at e2
          · rename_i q xs hr
            cases e2
            have hr' := (hH r (by rw [hr]; intro h; cases h)).trans hr
            have hl : look c.ty t = some (.slice q) := by
              split at e3 <;> first | (cases e3; done) | skip
              all_goals first | (rename_i g1 g2; cases g2; done) | (rename_i g1 g2; cases g2; rw [hr] at e3; rw [g1, tyq_eq e3]; done)
            simp only [SR, hr'] at hx
            obtain ⟨k1, A', cap, k2, _, k3⟩ := hx
            exact row r q xs (.inl hr') hin hl o A' cap k2 k1 (fun b' off' c' e' => by rw [e'] at k3; exact k3) e
          · rename_i q xs hr
            cases e2
            have hr' := (hH r (by rw [hr]; intro h; cases h)).trans hr
            have hl : look c.ty t = some (.slice q) := by
              split at e3 <;> first | (cases e3; done) | skip
              all_goals first | (rename_i g1 g2; cases g2; done) | (rename_i g1 g2; cases g2; rw [hr] at e3; rw [g1, tyq_eq e3]; done)
            simp only [SR, hr'] at hx
            obtain ⟨k1, A', cap, k2, _, k3⟩ := hx
            exact row r q xs (.inr hr') hin hl o A' cap k2 k1 (fun b' off' c' e' => by rw [e'] at k3; exact k3) e
          · cases e2
        · cases e
      · cases e
    · cases e
  · cases e
end
end Go.Sym
