/- The symbolic evaluator: calls. -/
import Derived.Test.YtggcbphplabngaaSymA
import Derived.Test.YtggcbphplabngaaSymB
set_option linter.unusedVariables false
/- The symbolic evaluator: calls, heads of loops and of ways that meet, code, functions. -/
namespace Go.Sym
/-! ### an object graph, laid out in the order in which it is reached -/
def idxN : List Nat → Nat → Option Nat
  | [], _ => none
  | m :: r, n => if Nat.beq m n then some 0 else (idxN r n).map (· + 1)
def refsOf : SV → List Nat
  | .own r | .ptr r _ | .mp r | .bx r => [r]
  | .fn _ caps => caps.map (·.1)
  | _ => []
def addRefs (H : Nat → HO) : List Nat → List Nat → List Nat
  | [], acc => acc
  | r :: l, acc => addRefs H l (if memN acc r || !(H r).live then acc else acc ++ [r])
def ordR (H : Nat → HO) : Nat → Nat → List Nat → List Nat
  | 0, _, acc => acc
  | n + 1, i, acc =>
    if Nat.ble (i + 1) acc.length then
      match H (getL 0 acc i) with
      | .cells l => ordR H n (i + 1) (addRefs H (l.flatMap refsOf) acc)
      | _ => ordR H n (i + 1) acc
    else acc
/-- The objects behind values, in order. -/
def order (H : Nat → HO) (n : Nat) (xs : List SV) : List Nat := ordR H n 0 (addRefs H (xs.flatMap refsOf) [])
def renC (rs : List Nat) : List (Nat × Nat) → Option (List (Nat × Nat))
  | [] => some []
  | (r, i) :: l => match idxN rs r, renC rs l with | some m, some l' => some ((m, i) :: l') | _, _ => none
/-- A value's form and its data; rs: the objects. -/
def skS (rs : List Nat) (H : Nat → HO) : SV → SSk × List DV
  | .kb b => (.v .bool, [⟨.bool, b⟩])
  | .v t x => (.v t, [⟨t, x⟩])
  | .own r => match idxN rs r with
    | some m => (.own m, [])
    | none => match H r with | .froz t xs => (.v (.slice t), [⟨.slice t, xs⟩]) | _ => (.unk, [])
  | .ptr r i => match idxN rs r with | some m => (.ptr m i, []) | none => (.unk, [])
  | .mp r => match idxN rs r with | some m => (.mp m, []) | none => (.unk, [])
  | .bx r => match idxN rs r with | some m => (.bx m, []) | none => (.unk, [])
  | .nilp => (.nilp, [])
  | .fn f caps => match renC rs caps with | some l => (.fn f l, []) | none => (.unk, [])
  | _ => (.unk, [])
def skL (rs : List Nat) (H : Nat → HO) : List SV → List SSk × List DV
  | [] => ([], [])
  | x :: l => ((skS rs H x).1 :: (skL rs H l).1, (skS rs H x).2 ++ (skL rs H l).2)
def skO (rs : List Nat) (H : Nat → HO) : HO → OSk × List DV
  | .arr t xs => (.arr t, [⟨.slice t, xs⟩])
  | .cells l => (.cells (skL rs H l).1, (skL rs H l).2)
  | .map k v m => (.map k v, [⟨.map k v, m⟩])
  | _ => (.cells [], [])
def skOs (rs : List Nat) (H : Nat → HO) : List Nat → List OSk × List DV
  | [] => ([], [])
  | r :: l => ((skO rs H (H r)).1 :: (skOs rs H l).1, (skO rs H (H r)).2 ++ (skOs rs H l).2)
def SSk.tys : SSk → List Ty | .v t => [t] | _ => []
def OSk.tys : OSk → List Ty | .arr t => [.slice t] | .cells l => l.flatMap SSk.tys | .map k v => [.map k v]
def Skel.tys (s : Skel) : List Ty := s.slots.flatMap SSk.tys ++ s.objs.flatMap OSk.tys
/-- Back again: a form filled with data; μ: the references of its objects. -/
def fillS (μ : Nat → Nat) : SSk → List DV → SV × List DV
  | .v _, d :: l => (.v d.t d.x, l)
  | .own m, l => (.own (μ m), l)
  | .ptr m i, l => (.ptr (μ m) i, l)
  | .mp m, l => (.mp (μ m), l)
  | .bx m, l => (.bx (μ m), l)
  | .nilp, l => (.nilp, l)
  | .fn f caps, l => (.fn f (caps.map fun p => (μ p.1, p.2)), l)
  | _, l => (.unk, l)
def fillL (μ : Nat → Nat) : List SSk → List DV → List SV × List DV
  | [], l => ([], l)
  | s :: ss, l => ((fillS μ s l).1 :: (fillL μ ss (fillS μ s l).2).1, (fillL μ ss (fillS μ s l).2).2)
def fillO (μ : Nat → Nat) : OSk → List DV → HO × List DV
  | .arr _, ⟨.slice t, xs⟩ :: l => (.arr t xs, l)
  | .cells ss, l => (.cells (fillL μ ss l).1, (fillL μ ss l).2)
  | .map _ _, ⟨.map k v, m⟩ :: l => (.map k v m, l)
  | _, l => (.dead, l)
def fillOs (μ : Nat → Nat) : List OSk → List DV → List HO
  | [], _ => []
  | o :: os, l => (fillO μ o l).1 :: fillOs μ os (fillO μ o l).2
def eqL {α : Type} (f : α → α → Bool) : List α → List α → Bool
  | [], [] => true
  | x :: l, y :: r => match f x y with | true => eqL f l r | false => false
  | _, _ => false
theorem eqL_eq {α : Type} {f : α → α → Bool} (hf : ∀ x y, f x y = true → x = y) : ∀ {l r : List α}, eqL f l r = true → l = r
  | [], [], _ => rfl
  | [], _ :: _, h => by cases h
  | _ :: _, [], h => by cases h
  | x :: l, y :: r, h => by
    simp only [eqL] at h
    split at h
    · rename_i h1
      rw [hf x y h1, eqL_eq hf h]
    · cases h
def eqP (p q : Nat × Nat) : Bool := match Nat.beq p.1 q.1 with | true => Nat.beq p.2 q.2 | false => false
theorem eqP_eq (p q : Nat × Nat) (h : eqP p q = true) : p = q := by
  unfold eqP at h
  split at h
  · rename_i h1
    exact Prod.ext (Nat.eq_of_beq_eq_true h1) (Nat.eq_of_beq_eq_true h)
  · cases h
def eqS : SSk → SSk → Bool
  | .unk, .unk | .keep, .keep | .nilp, .nilp => true
  | .v a, .v b => tyq a b
  | .own a, .own b | .mp a, .mp b => Nat.beq a b
  | .bx a, .bx b => Nat.beq a b
  | .ptr a i, .ptr b j => match Nat.beq a b with | true => Nat.beq i j | false => false
  | .fn a l, .fn b r => match Nat.beq a b with | true => eqL eqP l r | false => false
  | _, _ => false
theorem eqS_eq (a b : SSk) (h : eqS a b = true) : a = b := by
  cases a <;> cases b <;> simp only [eqS] at h <;> first | rfl | cases h | skip
  · rw [tyq_eq h]
  · rw [Nat.eq_of_beq_eq_true h]
  · split at h
    · rename_i h1
      rw [Nat.eq_of_beq_eq_true h1, Nat.eq_of_beq_eq_true h]
    · cases h
  · rw [Nat.eq_of_beq_eq_true h]
  · split at h
    · rename_i h1
      rw [Nat.eq_of_beq_eq_true h1, eqL_eq eqP_eq h]
    · cases h
  · rw [Nat.eq_of_beq_eq_true h]
def eqO : OSk → OSk → Bool
  | .arr a, .arr b => tyq a b
  | .cells l, .cells r => eqL eqS l r
  | .map a b, .map c d => match tyq a c with | true => tyq b d | false => false
  | _, _ => false
theorem eqO_eq (a b : OSk) (h : eqO a b = true) : a = b := by
  cases a <;> cases b <;> simp only [eqO] at h <;> first | cases h | skip
  · rw [tyq_eq h]
  · rw [eqL_eq eqS_eq h]
  · split at h
    · rename_i h1
      rw [tyq_eq h1, tyq_eq h]
    · cases h
def eqSk (a b : Skel) : Bool := match eqL eqS a.slots b.slots with | true => eqL eqO a.objs b.objs | false => false
theorem eqSk_eq {a b : Skel} (h : eqSk a b = true) : a = b := by
  unfold eqSk at h
  split at h
  · rename_i h1
    cases a; cases b
    simp only [Skel.mk.injEq]
    exact ⟨eqL_eq eqS_eq h1, eqL_eq eqO_eq h⟩
  · cases h
/-! ### results -/
def tupTy : List Ty → Ty | [] => .unit | [t] => t | t :: ts => .pair t (tupTy ts)
def tupOf : (ts : List Ty) → List DV → Option (tupTy ts).den
  | [], l => match l with | [] => some () | _ => none
  | [t], l => match l with | [d] => if h : tyq d.t t = true then some (cast (tyq_eq h) d.x) else none | _ => none
  | t :: t2 :: ts, l => match l with
    | d :: l => if h : tyq d.t t = true then match tupOf (t2 :: ts) l with | some z => some ((cast (tyq_eq h) d.x, z) : t.den × (tupTy (t2 :: ts)).den) | none => none else none
    | [] => none
def untup : (ts : List Ty) → (tupTy ts).den → List DV
  | [], _ => []
  | [t], x => [⟨t, x⟩]
  | t :: t2 :: ts, x => ⟨t, x.1⟩ :: untup (t2 :: ts) x.2
def Sig.ins (s : Sig) : List Ty := s.ps.tys
def Sig.res (s : Sig) : Ty := tupTy s.rs.tys
structure Env where
  cfg : Cfg
  A : Alg
  cal : (f : Nat) → Fn (cfg.sig f).ins (Option (cfg.sig f).res.den)
  n : Nat
  me : Nat
/-- Arguments in the form that is wanted. -/
def coerce (sk : Skel) : List SSk → List SV → (Nat → HO) → Nat → Option (List SV × Ups × Nat)
  | [], [], _, fr => some ([], [], fr)
  | s :: ss, x :: xs, H, fr =>
    match s, x with
    | .v t, x => match toVal H t x with
      | some (y, us) => match coerce sk ss xs (ovr H us) fr with | some (l, vs, n) => some (.v t y :: l, us ++ vs, n) | none => none
      | none => none
    | .own m, .nil => match sk.objs[m]? with
      | some (.arr t) => match coerce sk ss xs H (fr + 1) with | some (l, vs, n) => some (.own fr :: l, (fr, .arr t []) :: vs, n) | none => none
      | _ => none
    | _, x => match coerce sk ss xs H fr with | some (l, vs, n) => some (x :: l, vs, n) | none => none
  | _, _, _, _ => none
def dedupN : List Nat → Bool
  | [] => true
  | r :: l => !(memN l r) && dedupN l
/-- Results, as one value. -/
def slotOf : List SV → Slot | [x] => .one x | l => .many l
def pairC (i : Nat) : List (Nat × Nat) → List (Nat × Nat) → Option Nat
  | (m, _) :: l, (r, _) :: l' => if Nat.beq m i then some r else pairC i l l'
  | _, _ => none
def pairR : SSk → SV → Nat → Option Nat
  | .fn _ caps, .fn _ caps', i => pairC i caps caps'
  | .ptr m _, .ptr r _, i => if Nat.beq m i then some r else none
  | .own m, .own r, i => if Nat.beq m i then some r else none
  | .mp m, .mp r, i => if Nat.beq m i then some r else none
  | _, _, _ => none
/-- The reference that a form's object has behind a call: one that came back, or a new one. -/
def backRef (fr : Nat) : List SSk → List SV → Nat → Nat
  | s :: ss, x :: xs, i => match pairR s x i with | some r => r | none => backRef fr ss xs i
  | _, _, i => fr + i
def numberFrom : Nat → Nat → List Nat
  | _, 0 => []
  | i, n + 1 => i :: numberFrom (i + 1) n
/-! ### for the kernel: what is used often is laid open first -/
def forceL {α β : Type} : List α → (List α → β) → β
  | [], k => k []
  | x :: l, k => forceL l fun r => k (x :: r)
theorem forceL_eq {α β : Type} : ∀ (l : List α) (k : List α → β), forceL l k = k l
  | [], _ => rfl
  | x :: l, k => by rw [forceL, forceL_eq l]
def forceV {β : Type} (x : SV) (k : SV → β) : β :=
  match x with
  | .unk => k .unk | .kb b => k (.kb b) | .v t y => k (.v t y) | .nil => k .nil | .own r => k (.own r) | .sub r o n => k (.sub r o n)
  | .ptr r i => k (.ptr r i) | .eptr r i j => k (.eptr r i j) | .bx r => k (.bx r) | .xptr r i j l n e => k (.xptr r i j l n e) | .asl r i j lo len n e => k (.asl r i j lo len n e) | .imm t y => k (.imm t y) | .nilp => k .nilp | .mp r => k (.mp r) | .fn f l => k (.fn f l)
theorem forceV_eq {β : Type} (x : SV) (k : SV → β) : forceV x k = k x := by cases x <;> rfl
def forceVs {β : Type} : List SV → (List SV → β) → β
  | [], k => k []
  | x :: l, k => forceV x fun x => forceVs l fun r => k (x :: r)
theorem forceVs_eq {β : Type} : ∀ (l : List SV) (k : List SV → β), forceVs l k = k l
  | [], _ => rfl
  | x :: l, k => by rw [forceVs, forceV_eq, forceVs_eq l]
def forceT {β : Type} (x : Slot) (k : Slot → β) : β :=
  match x with
  | .one x => forceV x fun x => k (.one x)
  | .many l => forceVs l fun l => k (.many l)
  | .cells l => forceVs l fun l => k (.cells l)
theorem forceT_eq {β : Type} (x : Slot) (k : Slot → β) : forceT x k = k x := by
  cases x with
  | one x => exact forceV_eq x fun x => k (.one x)
  | many l => exact forceVs_eq l fun l => k (.many l)
  | cells l => exact forceVs_eq l fun l => k (.cells l)
def forceO {β : Type} (x : HO) (k : HO → β) : β :=
  match x with
  | .arr t xs => k (.arr t xs) | .froz t xs => k (.froz t xs) | .cells l => forceVs l fun l => k (.cells l) | .map a b m => k (.map a b m) | .dead => k .dead
theorem forceO_eq {β : Type} (x : HO) (k : HO → β) : forceO x k = k x := by
  cases x with
  | cells l => exact forceVs_eq l fun l => k (.cells l)
  | _ => rfl
def forceH {β : Type} : List HO → (List HO → β) → β
  | [], k => k []
  | x :: l, k => forceO x fun x => forceH l fun r => k (x :: r)
theorem forceH_eq {β : Type} : ∀ (l : List HO) (k : List HO → β), forceH l k = k l
  | [], _ => rfl
  | x :: l, k => by rw [forceH, forceO_eq, forceH_eq l]
def forceSl {β : Type} : List (Nat × Slot) → (List (Nat × Slot) → β) → β
  | [], k => k []
  | (i, x) :: l, k => forceT x fun x => forceSl l fun r => k ((i, x) :: r)
theorem forceSl_eq {β : Type} : ∀ (l : List (Nat × Slot)) (k : List (Nat × Slot) → β), forceSl l k = k l
  | [], _ => rfl
  | (i, x) :: l, k => by rw [forceSl, forceT_eq, forceSl_eq l]
/-- A state, laid open. -/
def forceSt {β : Type} (σ : St) (k : St → β) : β := forceSl σ.slots fun s => forceH σ.heap fun h => k ⟨σ.n, s, h⟩
theorem forceSt_eq {β : Type} (σ : St) (k : St → β) : forceSt σ k = k σ := by rw [forceSt, forceSl_eq, forceH_eq]
def forceK {β : Type} (x : SSk) (k : SSk → β) : β :=
  match x with
  | .unk => k .unk | .keep => k .keep | .v t => k (.v t) | .own r => k (.own r) | .ptr r i => k (.ptr r i) | .mp r => k (.mp r) | .nilp => k .nilp | .fn f l => k (.fn f l) | .bx r => k (.bx r)
theorem forceK_eq {β : Type} (x : SSk) (k : SSk → β) : forceK x k = k x := by cases x <;> rfl
def forceKs {β : Type} : List SSk → (List SSk → β) → β
  | [], k => k []
  | x :: l, k => forceK x fun x => forceKs l fun r => k (x :: r)
theorem forceKs_eq {β : Type} : ∀ (l : List SSk) (k : List SSk → β), forceKs l k = k l
  | [], _ => rfl
  | x :: l, k => by rw [forceKs, forceK_eq, forceKs_eq l]
def forceOs {β : Type} : List OSk → (List OSk → β) → β
  | [], k => k []
  | .arr t :: l, k => forceOs l fun r => k (.arr t :: r)
  | .cells s :: l, k => forceKs s fun s => forceOs l fun r => k (.cells s :: r)
  | .map a b :: l, k => forceOs l fun r => k (.map a b :: r)
theorem forceOs_eq {β : Type} : ∀ (l : List OSk) (k : List OSk → β), forceOs l k = k l
  | [], _ => rfl
  | .arr t :: l, k => by rw [forceOs, forceOs_eq l]
  | .cells s :: l, k => by rw [forceOs, forceKs_eq, forceOs_eq l]
  | .map a b :: l, k => by rw [forceOs, forceOs_eq l]
def forceDs {β : Type} : List DV → (List DV → β) → β
  | [], k => k []
  | ⟨t, x⟩ :: l, k => forceDs l fun r => k (⟨t, x⟩ :: r)
theorem forceDs_eq {β : Type} : ∀ (l : List DV) (k : List DV → β), forceDs l k = k l
  | [], _ => rfl
  | ⟨t, x⟩ :: l, k => by rw [forceDs, forceDs_eq l]
def forceP {β : Type} (p : Skel × List DV) (k : Skel → List DV → β) : β := forceKs p.1.slots fun s => forceOs p.1.objs fun o => forceDs p.2 fun d => k ⟨s, o⟩ d
theorem forceP_eq {β : Type} (p : Skel × List DV) (k : Skel → List DV → β) : forceP p k = k p.1 p.2 := by rw [forceP, forceKs_eq, forceOs_eq, forceDs_eq]
def hcQ : HO → HO → Bool
  | .arr t _, .arr u _ => tyq t u
  | .cells l, .cells l' => Nat.beq l.length l'.length
  | .map k v _, .map k' v' _ => match tyq k k' with | true => tyq v v' | false => false
  | _, _ => false
def sskWf (n : Nat) : SSk → Bool
  | .own m | .ptr m _ | .mp m | .bx m => Nat.ble (m + 1) n
  | .fn _ caps => caps.all fun p => Nat.ble (p.1 + 1) n
  | _ => true
def oskWf (n : Nat) : OSk → Bool
  | .cells l => l.all (sskWf n)
  | _ => true
/-- A form's references are its objects'. -/
def skWf (s : Skel) : Bool := match s.slots.all (sskWf s.objs.length) with | true => s.objs.all (oskWf s.objs.length) | false => false
/-- What comes back under an old reference is of the old one's form. -/
def backQ (H : Nat → HO) (fr : Nat) (l : List (Nat × HO)) : Bool := l.all fun p => match Nat.ble fr p.1 with | true => true | false => hcQ (H p.1) p.2
def kindC (H O : Nat → HO) : List (Nat × Nat) → List (Nat × Nat) → Bool
  | (m, _) :: l, (r, _) :: l' => match H r, O m with | .cells _, .cells _ => kindC H O l l' | _, _ => false
  | _, _ => true
def kindP (H O : Nat → HO) : SSk → SV → Bool
  | .fn _ caps, .fn _ caps' => kindC H O caps caps'
  | .ptr m _, .ptr r _ => match H r, O m with | .cells _, .cells _ => true | _, _ => false
  | .own m, .own r => match H r, O m with | .arr .., .arr .. => true | _, _ => false
  | .mp m, .mp r => match H r, O m with | .map .., .map .. => true | _, _ => false
  | _, _ => true
def kindQ (H O : Nat → HO) : List SSk → List SV → Bool
  | s :: ss, x :: xs => match kindP H O s x with | true => kindQ H O ss xs | false => false
  | _, _ => true
section
variable {α : Type} (E : Env)
def evCallB (g : Nat) (bd : Option (E.cfg.sig g).res.den → ((E.cfg.sig g).res.den → Option α) → Option α) (f : Nat) (args : List SV) (H : Nat → HO) (fr : Nat) (k : Slot → Ups → Option α) : Option α :=
    if !(Nat.beq (E.cfg.real g) f && skWf (E.cfg.sig g).rs) then none else
    let sg := E.cfg.sig g
    match coerce sg.ps sg.ps.slots args H fr with
    | none => none
    | some (xs, us, fr1) =>
      let H1 := ovr H us
      forceL (order H1 fr1 xs) fun rs =>
      forceP (⟨(skL rs H1 xs).1, (skOs rs H1 rs).1⟩, (skL rs H1 xs).2 ++ (skOs rs H1 rs).2) fun sk ds0 =>
      if eqSk sk sg.ps && dedupN rs then
        bd (appl sg.ins (E.cal g) ds0) fun r =>
          let ds := untup sg.rs.tys r
          let bs := sg.back.map fun i => getL .unk xs i
          let μ := backRef fr1 sg.rs.slots bs
          let refs := (numberFrom 0 sg.rs.objs.length).map μ
          let q := fillL μ sg.rs.slots ds
          let os := fillOs μ sg.rs.objs q.2
          if dedupN refs && (backQ H1 fr1 (refs.zip os) && kindQ H1 (getO os) sg.rs.slots bs) then
            let res := q.1.drop sg.back.length
            k (slotOf res) (us ++ ((rs.filter fun r => !(memN refs r)).map (fun r => (r, .dead)) ++ refs.zip os))
          else none
      else none
def evCall0 (g f : Nat) (args : List SV) (H : Nat → HO) (fr : Nat) (k : Slot → Ups → Option α) : Option α := evCallB E g (fun x y => E.A.bind x y) f args H fr k
/-- A call whose results have one form or another. -/
def evCallS (g g2 f : Nat) (args : List SV) (H : Nat → HO) (fr : Nat) (k : Slot → Ups → Option α) : Option α := evCallB E g (fun x y => E.A.alt x y (evCall0 E g2 f args H fr k)) f args H fr k
/-! A call of a function over data alone whose results hold no references: it is lent what it reads. -/
def isScal : SSk → Bool | .v t => (match t with | .int _ | .bool | .str => true | _ => false) | _ => false
def isDat : SSk → Bool | .v _ => true | _ => false
def nilQ {β : Type} : List β → Bool | [] => true | _ => false
def allQ {β : Type} (p : β → Bool) : List β → Bool | [] => true | x :: l => match p x with | true => allQ p l | false => false
def lendQ (sg : Sig) : Bool :=
  match nilQ sg.ps.objs with
  | false => false
  | true => match nilQ sg.rs.objs with
    | false => false
    | true => match nilQ sg.back with
      | false => false
      | true => match allQ isDat sg.ps.slots with
        | false => false
        | true => allQ isScal sg.rs.slots
def peekB (H : Nat → HO) (t : Ty) (x : SV) : Option t.den := match toVal H t x with | some (y, _) => some y | none => none
def peekP (H : Nat → HO) (t : Ty) : SV → Option t.den
  | .imm u y => if h : tyq u t = true then some (cast (tyq_eq h) y) else none
  | .ptr r i => match H r with
    | .cells l => match t.agg with | true => none | false => if Nat.ble (i + 1) l.length then peekB H t (getL .unk l i) else none
    | _ => none
  | _ => none
/-- What stands there, as data of type t. -/
def peek (H : Nat → HO) (t : Ty) (x : SV) : Option t.den :=
  match t with
  | .pt t => (match x with | .v u y => peekB H (.pt t) (.v u y) | x => peekP H t x)
  | .clo f t => (match x with
    | .fn g caps => (match caps with | [p] => (if Nat.beq g f then peekP H t (.ptr p.1 p.2) else none) | _ => none)
    | x => peekB H (.clo f t) x)
  | t => peekB H t x
def peeks (H : Nat → HO) : List SSk → List SV → Option (List DV)
  | [], [] => some []
  | .v t :: ss, x :: xs => match peek H t x with
    | some y => match peeks H ss xs with | some l => some (⟨t, y⟩ :: l) | none => none
    | none => none
  | _, _ => none
def evLend (g : Nat) (args : List SV) (H : Nat → HO) (k : Slot → Ups → Option α) : Option α :=
  let sg := E.cfg.sig g
  match peeks H sg.ps.slots args with
  | none => none
  | some ds0 => forceDs ds0 fun ds0 => E.A.bind (appl sg.ins (E.cal g) ds0) fun r => k (slotOf (fillL id sg.rs.slots (untup sg.rs.tys r)).1) []
def fnArg : List SV → Option Nat
  | [] => none
  | .fn g _ :: _ => some g
  | .v t _ :: l => (match t with | .clo g _ => some g | _ => fnArg l)
  | _ :: l => fnArg l
/-- The number at an argument that is a row of the caller's own. -/
def altArg (c : Cfg) (H : Nat → HO) (f : Nat) (args : List SV) : Option Nat :=
  match look c.alt f with
  | none => none
  | some (p, g) => match getL .unk args p with
    | .own r => (match H r with | .arr .. => some g | _ => none)
    | _ => none
def evCall (f : Nat) (args : List SV) (H : Nat → HO) (fr : Nat) (k : Slot → Ups → Option α) : Option α :=
  match (match altArg E.cfg H f args with | some g => some g | none => match fnArg args with | none => some f | some g => (look E.cfg.inst f).bind fun l => look l g) with
  | none => none
  | some g => match lendQ (E.cfg.sig g) with
    | true => if Nat.beq (E.cfg.real g) f then evLend E g args H k else none
    | false => match (look E.cfg.sec E.me).bind fun l => look l g with | some g2 => evCallS E g g2 f args H fr k | none => evCall0 E g f args H fr k
/-- A variable's pointer: to the one element of a row. -/
def asE : SV → SV
  | .bx r => .eptr r 0 0
  | x => x
/-- A pointer to a datum. -/
def asImm : SV → SV
  | .v t x => (match t, x with | .pt t, x => .imm t x | t, x => .v t x)
  | x => x
def evOp (o : Oper) (S : List (Nat × Slot)) (H : Nat → HO) (fr : Nat) (k : Slot → Ups → Option α) : Option α :=
  let c := E.cfg
  match o.op with
  | .move x => k (evS S x) []
  | .assign x => match evS S x with
    | .one .nil => match look c.ty o.type with | some (.slice u) => k (.one (.own fr)) [(fr, .arr u [])] | _ => k (.one .nil) []
    | s => k s []
  | .pick q a b => match evV S q with
    | .kb true => k (evS S a) []
    | .kb false => k (evS S b) []
    | .v .bool x => match asVal (evV S a), asVal (evV S b) with
      | some p, some q => if h : tyq q.t p.t = true then k (.one (.v p.t (cond x p.x (cast (tyq_eq h) q.x)))) [] else none
      | _, _ => none
    | _ => none
  | .alloc t => evAllocX c fr k t
  | .box t x => evBox c H fr k t (evS S x)
  | .build t ps => evBuild c H fr k t (ps.toList.map fun p => (p.1, evV S p.2))
  | .buildSlice t n ps => evBuildSlice c H fr k t n (ps.toList.map fun p => (p.1, evV S p.2))
  | .load t a => evLoadX c H k t (asE (asImm (evV S a)))
  | .store t a x => evStoreX c H fr k t (asE (evV S a)) (evV S x)
  | .nilCheck x => match evV S x with
    | .ptr r i => k (.one (.ptr r i)) []
    | .eptr r i j => k (.one (.eptr r i j)) []
    | .bx r => k (.one (.bx r)) []
    | .imm t y => k (.one (.imm t y)) []
    | _ => none
  | .binOp op t x y _ => match evV S x, evV S y with
    | .ptr .., .nilp | .nilp, .ptr .. => if memN c.pt t then match op with | .eql => k (.one (.kb false)) [] | .neq => k (.one (.kb true)) [] | _ => none else none
    | .nilp, .nilp => if memN c.pt t then match op with | .eql => k (.one (.kb true)) [] | .neq => k (.one (.kb false)) [] | _ => none else none
    | x, y => evBin c E.A k op t x y
  | .unOp op _ x => evUn k op (evV S x)
  | .convert s d x => evBytes c E.A H fr k s d (evV S x)
  | .makeMap t none => evMakeMap c fr k t
  | .makeSlice t l m => evMakeSlice c E.A fr k t (evV S l) (evV S m)
  | .slice t x lo hi none =>
    evSliceX c E.A H k t (asE (evV S x)) (match lo with | none => some (0 : Int) | some a => intOf (evV S a)) (match hi with | none => none | some a => some (intOf (evV S a)))
  | .fieldAddr t x f => evFieldAddr c k t (asE (asImm (evV S x))) f
  | .field t x f => evField c k t (evV S x) f
  | .indexAddr t x i => evIndexAddrX c E.A H k t (asE (evV S x)) (evV S i)
  | .index t x i => evIndex c E.A k t (evV S x) (evV S i)
  | .lookup t m x ok => evLookup c H k t (evV S m) (evV S x) ok
  | .mapUpdate t m x y | .insert t m x y => evMapUpdate c H k t (evV S m) (evV S x) (evV S y)
  | .makeFunc (.func f) first caps => match first.toList, capsOf (caps.toList.map (evV S)) with | [], some l => k (.one (.fn f l)) [] | _, _ => none
  | .extract t i => match evS S t with | .many l => if Nat.ble (i + 1) l.length then k (.one (getL .unk l i)) [] else none | _ => none
  | .call cl => match cl.callee, cl.args.toList with
    | .builtin .len, [x] => match cl.argTypes.toList with | t :: _ => evLen c H k t (evV S x) | [] => none
    | .builtin .append, [x, y] => match cl.argTypes.toList with | [t, t2] => evAppend c E.A H fr k t t2 (evV S x) (evV S y) | _ => none
    | .builtin .copy, [x, y] => match cl.argTypes.toList with | t :: _ => evCopy c H k t (evV S x) (evV S y) | [] => none
    | .builtin .max, l => evMinMax k true (l.map (evV S))
    | .builtin .min, l => evMinMax k false (l.map (evV S))
    | .value f, l => match evV S f with
      | .fn f caps => evCall E f (l.map (evV S) ++ caps.map fun p => .ptr p.1 p.2) H fr k
      | .v t y => (match t, y with | .clo f t, y => evCall E f (l.map (evV S) ++ [.v (.pt t) y]) H fr k | _, _ => none)
      | _ => none
    | _, _ => none
  | _ => none
/-! ### what an operation touches -/
def touch1 : SV → List Nat
  | .own r | .sub r _ _ | .ptr r _ | .eptr r _ _ | .mp r | .bx r | .xptr r _ _ _ _ _ | .asl r _ _ _ _ _ _ => [r]
  | .fn _ caps => caps.map (·.1)
  | _ => []
def slotSVs : Slot → List SV | .one x => [x] | .many l | .cells l => l
/-- The objects that an operation may read: what its operands refer to, and what stands in their cells. -/
def touch (o : Oper) (S : List (Nat × Slot)) (H : Nat → HO) (n : Nat) : List Nat :=
  match o.op with
  | .move _ | .assign _ | .nilCheck _ | .fieldAddr .. | .extract .. | .pick .. | .makeFunc .. => []
  | _ => ordT n 0 ((o.op.operands.toList.flatMap fun x => (slotSVs (evS S x)).flatMap touch1).eraseDups)
where
  ordT : Nat → Nat → List Nat → List Nat
    | 0, _, acc => acc
    | n + 1, i, acc =>
      if Nat.ble (i + 1) acc.length then
        match H (getL 0 acc i) with
        | .cells l => ordT n (i + 1) (addT ((l.flatMap touch1)) acc)
        | _ => ordT n (i + 1) acc
      else acc
  addT : List Nat → List Nat → List Nat
    | [], acc => acc
    | r :: l, acc => addT l (if memN acc r then acc else acc ++ [r])
structure Tr where   -- what an operation did: its place, the objects it read, the objects it changed
  i : Nat
  rd : List Nat
  wr : List Nat
def dropSome {β : Type} : Option β → Bool | some _ => true | none => false
def disj (a b : List Nat) : Bool := a.all fun x => !(memN b x)
/-- What must come before an operation, as bits. -/
def bef1 (acc : List Nat) : List Edge → Nat
  | [] => 0
  | e :: l => match Region.binds .any e with | true => Nat.lor (Nat.lor (Nat.pow 2 e.on) (getL 0 acc e.on)) (bef1 acc l) | false => bef1 acc l
def befs : List Nat → List Oper → List Nat
  | acc, [] => acc
  | acc, o :: l => befs (acc ++ [bef1 acc o.after.toList]) l
/-- Two operations of which neither must come first do not meet. -/
def calm (bs : List Nat) : List Tr → Bool
  | [] => true
  | t :: l => l.all (fun u => Nat.testBit (getL 0 bs t.i) u.i || (disj t.wr u.rd && disj t.wr u.wr && disj u.wr t.rd)) && calm bs l
/-- The slots that an operation looks at. -/
def looks (all : List Oper) (o : Oper) : List Nat :=
  (o.op.operands.toList.filterMap fun | .tmp t => some t | _ => none) ++ (match o.guard with | some (g, _) => (match (all[g]?).bind (·.dst) with | some d => [d] | none => []) | none => [])
def clash (all : List Oper) (x y : Oper) : Bool :=
  (match x.dst with | some d => memN (looks all y) d || (match y.dst with | some e => Nat.beq d e | none => false) | none => false) ||
  (match y.dst with | some e => memN (looks all x) e | none => false)
/-- Slots do not depend on the order. -/
def tmpOk (all : List Oper) (bs : List Nat) : Bool :=
  (List.range all.length).all fun j => match all[j]? with
    | none => true
    | some o => (o.after.toList.all fun e => !(Region.binds .any e) || Nat.ble (e.on + 1) j) &&
      (List.range j).all fun i => Nat.testBit (getL 0 bs j) i || (match all[i]? with | some p => !(clash all p o) | none => true)
def St.len (σ : St) : Nat := σ.heap.length
def restr (H : Nat → HO) (rs : List Nat) (r : Nat) : HO := if memN rs r then H r else .dead
/-- Slots whose value a guard has told. -/
def kbS : List (Nat × Bool) → List (Nat × Slot) → List (Nat × Slot)
  | [], S => S
  | (s, b) :: l, S => (s, .one (.kb b)) :: kbS l S
def delK (d : Option Nat) (kn : List (Nat × Bool)) : List (Nat × Bool) := match d with | none => kn | some d => kn.filter fun p => !(Nat.beq p.1 d)
def evOps (br : Bool → Option α → Option α → Option α) (draw : Bool) (all : List Oper) : Nat → List Oper → List (Nat × Bool) → St → List Tr → (St → List Tr → Option α) → Option α
  | _, [], _, σ, tr, k => k σ tr
  | i, o :: rest, kn, σ, tr, k =>
    let go (kn : List (Nat × Bool)) : Option α :=
      let H := getO σ.heap
      let rd := if draw then touch o (kbS kn σ.slots) H σ.len else []
      evOp E o (kbS kn σ.slots) (if draw then restr H rd else H) σ.len fun sl us =>
        forceT sl fun sl => forceSt ({ σ with heap := updH σ.heap us }.put o.dst sl) fun σ => evOps br draw all (i + 1) rest (delK o.dst kn) σ (if draw then ⟨i, rd, us.map (·.1)⟩ :: tr else []) k
    let skip (kn : List (Nat × Bool)) : Option α := evOps br draw all (i + 1) rest (delK o.dst kn) (σ.put o.dst (.many [])) (if draw then ⟨i, [], []⟩ :: tr else []) k
    match o.guard with
    | none => go kn
    | some (g, want) =>
      match (all[g]?).bind (·.dst) with
      | none => none
      | some s =>
        match getS (kbS kn σ.slots) s with
        | .one (.kb b) => if b == want then go kn else skip kn
        | .one (.v .bool x) =>
          if want then br x (go ((s, true) :: kn)) (skip ((s, false) :: kn)) else br x (skip ((s, true) :: kn)) (go ((s, false) :: kn))
        | .many [] => skip kn   -- the guard itself was passed over
        | _ => none
def forceNs {β : Type} : List Nat → (List Nat → β) → β
  | [], k => k []
  | 0 :: l, k => forceNs l fun r => k (0 :: r)
  | (n + 1) :: l, k => forceNs l fun r => k ((n + 1) :: r)
theorem forceNs_eq {β : Type} : ∀ (l : List Nat) (k : List Nat → β), forceNs l k = k l
  | [], _ => rfl
  | 0 :: l, k => by rw [forceNs, forceNs_eq l]
  | (n + 1) :: l, k => by rw [forceNs, forceNs_eq l]
/-- A region: its operations in the text's order; where Go leaves the order open, it must not matter. -/
def evReg (br : Bool → Option α → Option α → Option α) (ops : Array Oper) (draw : Bool) (σ : St) (k : St → Option α) : Option α :=
  match draw with
  | true => forceNs (befs [] ops.toList) fun bs => if tmpOk ops.toList bs then evOps E br true ops.toList 0 ops.toList [] σ [] fun σ' tr => if calm bs tr then k σ' else none else none
  | false => evOps E br false ops.toList 0 ops.toList [] σ [] fun σ' _ => k σ'
end
/-! ### which slots live -/
def opBit : Operand → Nat | .tmp t => Nat.pow 2 t | _ => 0
def opsBits : List Operand → Nat | [] => 0 | x :: l => Nat.lor (opBit x) (opsBits l)
def clr (m b : Nat) : Nat := Nat.xor m (Nat.land m b)
def dstBit (o : Oper) : Nat := match o.dst with | some d => Nat.pow 2 d | none => 0
def lvOps (all : List Oper) : List Oper → Nat → Nat
  | [], out => out
  | o :: l, out =>
    let m := lvOps all l out
    match o.guard with
    | none => Nat.lor (clr m (dstBit o)) (opsBits o.op.operands.toList)
    | some (g, _) => Nat.lor (Nat.lor m (opsBits o.op.operands.toList)) (match all[g]? with | some q => dstBit q | none => 0)
/-- The slots that are read before they are written: 'ex': what is live behind each exit; 'rt': at the return. -/
def lv (rt : Nat) : List (Nat × Nat) → Code → Nat → Nat
  | _, .region _ ops _, out => lvOps ops.toList ops.toList out
  | ex, .seq a b, out => lv rt ex a (lv rt ex b out)
  | ex, .cond c a b, out => Nat.lor (opBit c) (Nat.lor (lv rt ex a out) (lv rt ex b out))
  | ex, .block i a, out => lv rt ((i, out) :: ex) a out
  | ex, .loop a, _ => let l1 := lv rt ex a 0; lv rt ex a l1
  | ex, .exit i, _ => (look ex i).getD 0
  | _, .ret, _ => rt
  | _, _, out => out
def codeWrites : Code → Nat
  | .region _ ops _ => ops.toList.foldr (fun o m => Nat.lor (dstBit o) m) 0
  | .seq a b | .cond _ a b => Nat.lor (codeWrites a) (codeWrites b)
  | .block _ a | .loop a => codeWrites a
  | _ => 0
def exW (id : Nat) : Code → Nat
  | .seq a b | .cond _ a b => exW id a + exW id b
  | .block i a => if Nat.beq i id then 0 else exW id a
  | .loop a => exW id a
  | .exit i => if Nat.beq i id then 1 else 0
  | _ => 0
def norW : Code → Nat
  | .skip | .region .. => 1
  | .seq a b => if Nat.beq (norW a) 0 then 0 else norW b
  | .cond _ a b => norW a + norW b
  | .block i a => if Nat.beq (norW a + exW i a) 0 then 0 else 1
  | _ => 0
/-! ### heads -/
def isRefS : Slot → Bool | .one (.own _) | .one (.sub ..) | .one (.ptr ..) | .one (.eptr ..) | .one (.bx _) | .one (.xptr ..) | .one (.asl ..) | .one (.mp _) | .one (.fn ..) | .many _ | .cells _ => true | _ => false
/-- The slots that a head tells: those that live, and hold a reference or may have changed. 'sk': (slot, its value), in the slots' order. -/
def headS (S : List (Nat × Slot)) (mask wr : Nat) : Nat → Nat → List (Nat × SV)
  | _, 0 => []
  | i, n + 1 => match Nat.testBit mask i with
    | false => headS S mask wr (i + 1) n
    | true => match getS S i with
      | .one .unk => headS S mask wr (i + 1) n
      | .one x => if isRefS (.one x) || Nat.testBit wr i then (i, x) :: headS S mask wr (i + 1) n else headS S mask wr (i + 1) n
      | _ => headS S mask wr (i + 1) n
/-- A head: its slots, their form, the objects' form. -/
structure Head where
  at_ : List Nat
  sk : Skel
def packAt (ss : List Nat) (σ : St) : Skel × List DV :=
  let H := getO σ.heap
  let xs := ss.map fun i => (getS σ.slots i).sv
  forceL (order H σ.heap.length xs) fun rs => (⟨(skL rs H xs).1, (skOs rs H rs).1⟩, (skL rs H xs).2 ++ (skOs rs H rs).2)
def headOf (mask wr : Nat) (σ : St) : Head :=
  let l := headS σ.slots mask wr 0 σ.n
  ⟨l.map (·.1), (packAt (l.map (·.1)) σ).1⟩
/-- What a head keeps of a state: slots that hold no reference and are not written. -/
def keepS (wr : Nat) : List Nat → List (Nat × Slot) → List (Nat × Slot)
  | _, [] => []
  | bad, (i, x) :: l => if isRefS x || Nat.testBit wr i then keepS wr (i :: bad) l else if memN bad i then keepS wr bad l else (i, x) :: keepS wr bad l
def addS : List Nat → List SV → List (Nat × Slot) → List (Nat × Slot)
  | i :: l, x :: xs, r => (i, .one x) :: addS l xs r
  | _, _, r => r
def rebuild (wr : Nat) (σ : St) (h : Head) (vs : List DV) : St :=
  let q := fillL id h.sk.slots vs
  ⟨σ.n, addS h.at_ q.1 (keepS wr [] σ.slots), fillOs id h.sk.objs q.2⟩
/-- Only what lives. -/
def trimS (live : Nat) : List (Nat × Slot) → List (Nat × Slot)
  | [] => []
  | (i, x) :: l => match Nat.testBit live i with | true => (i, x) :: trimS live l | false => trimS live l
def St.trim (live : Nat) (σ : St) : St := ⟨σ.n, trimS live σ.slots, σ.heap⟩
def eqN : List Nat → List Nat → Bool
  | [], [] => true
  | a :: l, b :: r => match Nat.beq a b with | true => eqN l r | false => false
  | _, _ => false
/-- For a probe, ways are told one behind the other. -/
def orSk : Option (List Head) → Option (List Head) → Option (List Head)
  | some a, some b => some (a ++ b)
  | some a, none => some a
  | none, b => b
def memHead (i : Nat) (x : SSk) : List Nat → List SSk → Bool
  | j :: l, y :: ys => if Nat.beq i j then eqS x y else memHead i x l ys
  | _, _ => false
/-- The slots of which all ways say the same. -/
def common : List Nat → List SSk → List Head → List Nat
  | i :: l, x :: xs, hs => if hs.all fun h => memHead i x h.at_ h.sk.slots then i :: common l xs hs else common l xs hs
  | _, _, _ => []
def Alg.probe : Alg where
  branch := fun _ x y => match x with | some r => some r | none => y
  loop := fun _ f b => f b
  join := fun j b => b j
  bind := fun x f => x.bind f
  alt := fun x f r => match x with | some a => (match f a with | some y => some y | none => r) | none => r
def bot {α : Type} (ts : List Ty) : Fn ts (Option α) := curry ts fun _ => none
def Env.probe (E : Env) : Env := { E with A := .probe, cal := fun f => curry _ fun _ => some (E.cfg.sig f).res.zero }
inductive Ex where | normal | exit (id : Nat) | ret
def inBlk (id : Nat) : Ex → Ex | .exit i => if Nat.beq i id then .normal else .exit i | e => e
/-- For a probe: the ways to a code's end, without heads. -/
def prC (E : Env) : Code → St → (Ex → St → Option (List Head)) → Option (List Head)
  | .skip, σ, k => k .normal σ
  | .ret, σ, k => k .ret σ
  | .exit id, σ, k => k (.exit id) σ
  | .seq a b, σ, k => prC E a σ fun e σ' => match e with | .normal => prC E b σ' k | e => k e σ'
  | .cond _ a b, σ, k => orSk (prC E a σ k) (prC E b σ k)
  | .block id a, σ, k => prC E a σ fun e σ' => k (inBlk id e) σ'
  | .loop a, σ, k => prC E a σ k
  | .region _ ops draw, σ, k => evReg E (fun _ => orSk) ops draw σ fun σ' => k .normal σ'
  | _, _, _ => none
def guarded (ops : Array Oper) : Bool := ops.any fun o => o.guard.isSome
section
variable {α : Type} (E : Env) (rt : Nat)
def forceHd {β : Type} (h : Head) (k : Head → β) : β := forceL h.at_ fun a => forceKs h.sk.slots fun s => forceOs h.sk.objs fun o => k ⟨a, ⟨s, o⟩⟩
theorem forceHd_eq {β : Type} (h : Head) (k : Head → β) : forceHd h k = k h := by rw [forceHd, forceL_eq, forceKs_eq, forceOs_eq]
/-- Hand a state on to a head, if it has its form. -/
def toHead {R : Type} (h : Head) (j : Fn h.sk.tys (Option R)) (σ : St) : Option R := forceP (packAt h.at_ σ) fun q d => if eqSk q h.sk then appl h.sk.tys j d else none
/-- The head of ways that meet, out of a probe: the slots on which all ways agree. -/
def joinHead (σ : St) (mask wr : Nat) (pr : (St → Option (List Head)) → Option (List Head)) : Option Head :=
  match pr fun σ' => forceHd (headOf mask wr σ') fun h => some [h] with
  | some (h :: hs) =>
    forceL (common h.at_ h.sk.slots hs) fun l =>
    match pr fun σ' => forceP (packAt l σ') fun q _ => some [⟨l, q⟩] with
    | some (h :: _) => some h
    | _ => none
  | _ => none
/-- Ways that meet: what follows is a function of the head's data. -/
def meet (σ : St) (mask wr : Nat) (pr : (St → Option (List Head)) → Option (List Head)) (rest : St → Option α) (go : (St → Option α) → Option α) : Option α :=
  match joinHead σ mask wr pr with
  | none => none
  | some h => forceHd h fun h =>
    E.A.join (curry h.sk.tys fun vs => forceSt (rebuild wr σ h vs) rest) fun j => go fun σ' => toHead h j σ'
def evC : List (Nat × Nat) → Nat → Code → St → (Ex → St → Option α) → Option α
  | _, _, .skip, σ, k => k .normal σ
  | _, _, .ret, σ, k => k .ret σ
  | _, _, .exit id, σ, k => k (.exit id) σ
  | ex, out, .seq a b, σ, k =>
    let mask := lv rt ex b out
    if Nat.ble (norW a) 1 then evC ex mask a σ fun e σ' => match e with | .normal => evC ex out b σ' k | e => k e σ'
    else meet E σ mask (codeWrites a) (fun f => prC E.probe a σ fun e σ' => match e with | .normal => f σ' | _ => none) (fun σ' => evC ex out b σ' k)
      fun j => evC ex mask a σ fun e σ' => match e with | .normal => j σ' | e => k e σ'
  | ex, out, .cond c a b, σ, k => match evV σ.slots c with
    | .kb true => evC ex out a σ k
    | .kb false => evC ex out b σ k
    | .v .bool x => E.A.branch x (evC ex out a σ k) (evC ex out b σ k)
    | _ => none
  | ex, out, .block id a, σ, k =>
    let ex' := (id, out) :: ex
    if Nat.ble (norW a + exW id a) 1 then evC ex' out a σ fun e σ' => k (inBlk id e) σ'
    else meet E σ out (codeWrites a) (fun f => prC E.probe a σ fun e σ' => match inBlk id e with | .normal => f σ' | _ => none) (fun σ' => k .normal σ')
      fun j => evC ex' out a σ fun e σ' => match inBlk id e with | .normal => j σ' | e => k e σ'
  | ex, _, .loop a, σ, k =>
    let mask := lv rt ex (.loop a) 0; let wr := codeWrites a
    forceHd (headOf mask wr σ) fun h =>
    toHead h (E.A.loop E.n (fun self => curry h.sk.tys fun vs => forceSt (rebuild wr σ h vs) fun σ => evC ex mask a σ fun e σ' => match e with
      | .normal => toHead h self σ'
      | e => k e σ') (bot h.sk.tys)) σ
  | _, out, .region _ ops draw, σ, k =>
    if guarded ops then
      meet E σ out (ops.toList.foldr (fun o m => Nat.lor (dstBit o) m) 0) (fun f => evReg E.probe (fun _ => orSk) ops draw σ f) (fun σ' => k .normal σ') fun j => evReg E E.A.branch ops draw σ j
    else evReg E E.A.branch ops draw σ fun σ' => k .normal (σ'.trim out)
  | _, _, _, _, _ => none
end
/-! ### functions -/
def resSlots (c : Cfg) (S : List (Nat × Slot)) (H : Nat → HO) : List ResultVar → Option (List SV × Ups)
  | [] => some ([], [])
  | .tmp t :: l => match resSlots c S H l with | some (r, us) => some ((getS S t).sv :: r, us) | none => none
  | .cell t ty :: l => match evLoad c H (fun s us => some (s.sv, us)) ty (getS S t).sv with
    | some (x, us) => match resSlots c S (ovr H us) l with | some (r, vs) => some (x :: r, us ++ vs) | none => none
    | none => none
def resBits : List ResultVar → Nat | [] => 0 | .tmp t :: l | .cell t _ :: l => Nat.lor (Nat.pow 2 t) (resBits l)
def numS : Nat → List SV → List (Nat × Slot) | _, [] => [] | i, x :: l => (i, .one x) :: numS (i + 1) l
/-- The slots that hold what comes back are live to the end. -/
def backBits (back : List Nat) : Nat := match back with | [] => 0 | i :: l => Nat.lor (Nat.pow 2 i) (backBits l)
def entry (sg : Sig) (fn : Func) (vs : List DV) : St :=
  let q := fillL id sg.ps.slots vs
  ⟨fn.ntmps, numS 0 q.1, fillOs id sg.ps.objs q.2⟩
def leave (c : Cfg) (sg : Sig) (fn : Func) (σ : St) : Option (tupTy sg.rs.tys).den :=
  let bs := sg.back.map fun i => (getS σ.slots i).sv
  match resSlots c σ.slots (getO σ.heap) fn.results.toList with
  | none => none
  | some (xs, us0) =>
    let H := ovr (getO σ.heap) us0
    match coerce sg.rs sg.rs.slots (bs ++ xs) H σ.len with
    | none => none
    | some (ys, us, n) =>
      let H1 := ovr H us
      let rs := order H1 n ys
      let s1 := skL rs H1 ys
      let s2 := skOs rs H1 rs
      if eqSk (Skel.mk s1.1 s2.1) sg.rs then tupOf sg.rs.tys (s1.2 ++ s2.2) else none
/-- A function's body over data, its callees open. -/
def body (E : Env) (f : Nat) (fn : Func) : Fn (E.cfg.sig f).ins (Option (E.cfg.sig f).res.den) :=
  let sg := E.cfg.sig f
  curry _ fun vs =>
    match fn.body with
    | none => none
    | some c =>
      let rt := Nat.lor (resBits fn.results.toList) (backBits sg.back)
      if Nat.beq (Nat.land (codeWrites c) (backBits sg.back)) 0 && (skWf sg.ps && Nat.ble sg.ps.slots.length fn.ntmps) then
        forceSt (entry sg fn vs) fun σ => evC E rt [] rt c σ fun e σ' => match e with
          | .exit _ => none
          | _ => leave E.cfg sg fn σ'
      else none
end Go.Sym

/- An operation hands one pair to what follows, whatever follows. -/
namespace Go.Sym
section
variable {α β : Type} (k : Slot → Ups → Option α) (k' : Slot → Ups → Option β)
def Two (a : Option α) (b : Option β) : Prop := (a = none ∧ b = none) ∨ ∃ sl us, a = k sl us ∧ b = k' sl us
variable (c : Cfg) (S : List (Nat × Slot)) (H : Nat → HO) (fr : Nat)
theorem Two.no : Two k k' none none := .inl ⟨rfl, rfl⟩
theorem Two.yes (sl : Slot) (us : Ups) : Two k k' (k sl us) (k' sl us) := .inr ⟨sl, us, rfl, rfl⟩
theorem Two.branch (b : Bool) {x y : Option α} {x' y' : Option β} (h1 : Two k k' x x') (h2 : Two k k' y y') : Two k k' (Alg.real.branch b x y) (Alg.real.branch b x' y') := by
  simp only [Alg.real]
  split
  · exact h1
  · exact h2
theorem evBin_two (op : BinOp) (t : Nat) (x y : SV) : Two k k' (evBin c Alg.real k op t x y) (evBin c Alg.real k' op t x y) := by
  unfold evBin
  repeat' (first | exact Two.no k k' | exact Two.yes k k' _ _ | apply Two.branch | split)
theorem evUn_two (op : UnOp) (x : SV) : Two k k' (evUn k op x) (evUn k' op x) := by
  unfold evUn
  repeat' (first | exact Two.no k k' | exact Two.yes k k' _ _ | apply Two.branch | split)
theorem evConv_two (s d : Nat) (x : SV) : Two k k' (evConv c H k s d x) (evConv c H k' s d x) := by
  unfold evConv
  repeat' (first | exact Two.no k k' | exact Two.yes k k' _ _ | apply Two.branch | split)
theorem evLoad_two (t : Nat) (x : SV) : Two k k' (evLoad c H k t x) (evLoad c H k' t x) := by
  unfold evLoad
  repeat' (first | exact Two.no k k' | exact Two.yes k k' _ _ | apply Two.branch | split)
theorem evStore_two (t : Nat) (a x : SV) : Two k k' (evStore c H fr k t a x) (evStore c H fr k' t a x) := by
  unfold evStore
  repeat' (first | exact Two.no k k' | exact Two.yes k k' _ _ | apply Two.branch | split)
theorem evAlloc_two (t : Nat) : Two k k' (evAlloc c fr k t) (evAlloc c fr k' t) := by
  unfold evAlloc
  repeat' (first | exact Two.no k k' | exact Two.yes k k' _ _ | apply Two.branch | split)
theorem evBox_two (t : Nat) (x : Slot) : Two k k' (evBox c H fr k t x) (evBox c H fr k' t x) := by
  unfold evBox
  repeat' (first | exact Two.no k k' | exact Two.yes k k' _ _ | apply Two.branch | split)
theorem evBuild_two (t : Nat) (ps : List (Nat × SV)) : Two k k' (evBuild c H fr k t ps) (evBuild c H fr k' t ps) := by
  unfold evBuild
  repeat' (first | exact Two.no k k' | exact Two.yes k k' _ _ | apply Two.branch | split)
theorem evBuildSlice_two (t n : Nat) (ps : List (Nat × SV)) : Two k k' (evBuildSlice c H fr k t n ps) (evBuildSlice c H fr k' t n ps) := by
  unfold evBuildSlice
  repeat' (first | exact Two.no k k' | exact Two.yes k k' _ _ | apply Two.branch | split)
theorem evMakeSlice_two (t : Nat) (l m : SV) : Two k k' (evMakeSlice c Alg.real fr k t l m) (evMakeSlice c Alg.real fr k' t l m) := by
  unfold evMakeSlice
  repeat' (first | exact Two.no k k' | exact Two.yes k k' _ _ | apply Two.branch | split)
theorem evSlice_two (t : Nat) (x : SV) (l h : Int) : Two k k' (evSlice c Alg.real H k t x l h) (evSlice c Alg.real H k' t x l h) := by
  unfold evSlice
  repeat' (first | exact Two.no k k' | exact Two.yes k k' _ _ | apply Two.branch | split)
theorem evIndexAddr_two (t : Nat) (x y : SV) : Two k k' (evIndexAddr c Alg.real H k t x y) (evIndexAddr c Alg.real H k' t x y) := by
  unfold evIndexAddr
  repeat' (first | exact Two.no k k' | exact Two.yes k k' _ _ | apply Two.branch | split)
theorem evIndex_two (t : Nat) (x y : SV) : Two k k' (evIndex c Alg.real k t x y) (evIndex c Alg.real k' t x y) := by
  unfold evIndex
  repeat' (first | exact Two.no k k' | exact Two.yes k k' _ _ | apply Two.branch | split)
theorem evFieldAddr_two (t : Nat) (x : SV) (f : Nat) : Two k k' (evFieldAddr c k t x f) (evFieldAddr c k' t x f) := by
  unfold evFieldAddr
  repeat' (first | exact Two.no k k' | exact Two.yes k k' _ _ | apply Two.branch | split)
theorem evField_two (t : Nat) (x : SV) (f : Nat) : Two k k' (evField c k t x f) (evField c k' t x f) := by
  unfold evField
  repeat' (first | exact Two.no k k' | exact Two.yes k k' _ _ | apply Two.branch | split)
theorem evAppend_two (t t2 : Nat) (x y : SV) : Two k k' (evAppend c Alg.real H fr k t t2 x y) (evAppend c Alg.real H fr k' t t2 x y) := by
  unfold evAppend
  repeat' (first | exact Two.no k k' | exact Two.yes k k' _ _ | apply Two.branch | split)
theorem evLen_two (t : Nat) (x : SV) : Two k k' (evLen c H k t x) (evLen c H k' t x) := by
  unfold evLen
  repeat' (first | exact Two.no k k' | exact Two.yes k k' _ _ | apply Two.branch | split)
theorem evLookup_two (t : Nat) (m key : SV) (ok : Bool) : Two k k' (evLookup c H k t m key ok) (evLookup c H k' t m key ok) := by
  unfold evLookup
  repeat' (first | exact Two.no k k' | exact Two.yes k k' _ _ | apply Two.branch | split)
theorem evMapUpdate_two (t : Nat) (m key x : SV) : Two k k' (evMapUpdate c H k t m key x) (evMapUpdate c H k' t m key x) := by
  unfold evMapUpdate
  repeat' (first | exact Two.no k k' | exact Two.yes k k' _ _ | apply Two.branch | split)
theorem evMakeMap_two (t : Nat) : Two k k' (evMakeMap c fr k t) (evMakeMap c fr k' t) := by
  unfold evMakeMap
  repeat' (first | exact Two.no k k' | exact Two.yes k k' _ _ | apply Two.branch | split)
theorem evMinMax_two (b : Bool) (l : List SV) : Two k k' (evMinMax k b l) (evMinMax k' b l) := by
  unfold evMinMax
  repeat' (first | exact Two.no k k' | exact Two.yes k k' _ _ | apply Two.branch | split)
theorem evLoadX_two (t : Nat) (x : SV) : Two k k' (evLoadX c H k t x) (evLoadX c H k' t x) := by
  unfold evLoadX
  repeat' (first | exact Two.no k k' | exact Two.yes k k' _ _ | exact evLoad_two .. | split)
theorem putArr_two (r i j n : Nat) (e : Ty) (ys : List e.den) (us : Ups) (q : SV) : Two k k' (putArr H k r i j n e ys us q) (putArr H k' r i j n e ys us q) := by
  unfold putArr
  repeat' (first | exact Two.no k k' | exact Two.yes k k' _ _ | split)
theorem evStoreX_two (t : Nat) (a x : SV) : Two k k' (evStoreX c H fr k t a x) (evStoreX c H fr k' t a x) := by
  unfold evStoreX
  repeat' (first | exact Two.no k k' | exact Two.yes k k' _ _ | exact evStore_two .. | exact putArr_two .. | split)
theorem evAllocX_two (t : Nat) : Two k k' (evAllocX c fr k t) (evAllocX c fr k' t) := by
  unfold evAllocX
  repeat' (first | exact Two.no k k' | exact Two.yes k k' _ _ | exact evAlloc_two .. | split)
theorem evIndexAddrX_two (t : Nat) (x y : SV) : Two k k' (evIndexAddrX c Alg.real H k t x y) (evIndexAddrX c Alg.real H k' t x y) := by
  unfold evIndexAddrX
  simp only [Alg.real]
  repeat' (first | exact Two.no k k' | exact Two.yes k k' _ _ | exact evIndexAddr_two .. | split)
theorem evSliceX_two (t : Nat) (x : SV) (l : Option Int) (h : Option (Option Int)) : Two k k' (evSliceX c Alg.real H k t x l h) (evSliceX c Alg.real H k' t x l h) := by
  unfold evSliceX
  simp only [Alg.real]
  repeat' (first | exact Two.no k k' | exact Two.yes k k' _ _ | exact evSlice_two .. | split)
theorem evCopy_two (t : Nat) (x y : SV) : Two k k' (evCopy c H k t x y) (evCopy c H k' t x y) := by
  unfold evCopy
  repeat' (first | exact Two.no k k' | exact Two.yes k k' _ _ | exact putArr_two .. | split)
theorem evBytes_two (s d : Nat) (x : SV) : Two k k' (evBytes c Alg.real H fr k s d x) (evBytes c Alg.real H fr k' s d x) := by
  unfold evBytes
  simp only [Alg.real]
  repeat' (first | exact Two.no k k' | exact Two.yes k k' _ _ | exact evConv_two .. | split)
end
end Go.Sym

/- An object graph handed on: renumbered in the order in which it is reached. -/
namespace Go.Sym
/-! ### numbers -/
theorem idxN_get : ∀ (rs : List Nat) (r m : Nat), idxN rs r = some m → m < rs.length ∧ getL 0 rs m = r
  | [], _, _, h => by cases h
  | q :: rs, r, m, h => by
    simp only [idxN] at h
    split at h
    · rename_i h1
      cases h
      exact ⟨Nat.zero_lt_succ _, Nat.eq_of_beq_eq_true h1⟩
    · cases h2 : idxN rs r with
      | none => rw [h2] at h; cases h
      | some m' =>
        rw [h2] at h
        cases h
        obtain ⟨h3, h4⟩ := idxN_get rs r m' h2
        exact ⟨Nat.succ_lt_succ h3, h4⟩
theorem memN_iff (rs : List Nat) (r : Nat) : memN rs r = true ↔ r ∈ rs := by
  induction rs with
  | nil => simp [memN]
  | cons q rs ih =>
    simp only [memN, List.mem_cons]
    split
    · rename_i h
      simp [Nat.eq_of_beq_eq_true h]
    · rename_i h
      rw [ih]
      have : ¬ r = q := fun e => h (by rw [e]; exact Nat.beq_refl q)
      simp [this]
theorem memN_false {rs : List Nat} {r : Nat} : memN rs r = false ↔ r ∉ rs := by
  rw [← memN_iff]
  cases memN rs r <;> simp
theorem dedupN_nodup : ∀ {rs : List Nat}, dedupN rs = true → rs.Nodup
  | [], _ => List.nodup_nil
  | r :: rs, h => by
    simp only [dedupN, Bool.and_eq_true, Bool.not_eq_true'] at h
    exact List.nodup_cons.2 ⟨memN_false.1 h.1, dedupN_nodup h.2⟩
theorem getL_inj {rs : List Nat} (h : rs.Nodup) {i j : Nat} (hi : i < rs.length) (hj : j < rs.length) (e : getL 0 rs i = getL 0 rs j) : i = j := by
  rw [getL_get, getL_get, List.getD_eq_getElem?_getD, List.getD_eq_getElem?_getD, List.getElem?_eq_getElem hi, List.getElem?_eq_getElem hj] at e
  exact (List.getElem_inj h).1 (by simpa using e)
theorem addRefs_spec (H : Nat → HO) : ∀ (l acc : List Nat), acc.Nodup → (∀ r ∈ acc, (H r).live = true) → (addRefs H l acc).Nodup ∧ ∀ r ∈ addRefs H l acc, (H r).live = true
  | [], acc, h1, h2 => ⟨h1, h2⟩
  | r :: l, acc, h1, h2 => by
    simp only [addRefs]
    split
    · exact addRefs_spec H l acc h1 h2
    · rename_i hn
      simp only [Bool.or_eq_true, Bool.not_eq_true', not_or, Bool.not_eq_false, Bool.not_eq_true] at hn
      refine addRefs_spec H l _ ?_ ?_
      · rw [List.nodup_append]
        refine ⟨h1, by simp, ?_⟩
        intro a ha b hb
        simp only [List.mem_singleton] at hb
        subst hb
        rintro rfl
        exact memN_false.1 hn.1 ha
      · intro q hq
        rcases List.mem_append.1 hq with hq | hq
        · exact h2 q hq
        · simp only [List.mem_singleton] at hq
          subst hq
          exact hn.2
theorem ordR_spec (H : Nat → HO) : ∀ (n i : Nat) (acc : List Nat), acc.Nodup → (∀ r ∈ acc, (H r).live = true) → (ordR H n i acc).Nodup ∧ ∀ r ∈ ordR H n i acc, (H r).live = true
  | 0, _, acc, h1, h2 => ⟨h1, h2⟩
  | n + 1, i, acc, h1, h2 => by
    simp only [ordR]
    split
    · split
      · rename_i l _
        obtain ⟨h3, h4⟩ := addRefs_spec H (l.flatMap refsOf) acc h1 h2
        exact ordR_spec H n _ _ h3 h4
      · exact ordR_spec H n _ _ h1 h2
    · exact ⟨h1, h2⟩
theorem order_spec (H : Nat → HO) (n : Nat) (xs : List SV) : (order H n xs).Nodup ∧ ∀ r ∈ order H n xs, (H r).live = true := by
  obtain ⟨h1, h2⟩ := addRefs_spec H (xs.flatMap refsOf) [] List.nodup_nil (fun r h => by cases h)
  exact ordR_spec H n 0 _ h1 h2
/-! ### what is filled back -/
def cpS (rs : List Nat) (H : Nat → HO) : SV → SV
  | .kb b => .v .bool b
  | .v t x => .v t x
  | .own r => match idxN rs r with
    | some m => .own m
    | none => match H r with | .froz t xs => .v (.slice t) xs | _ => .unk
  | .ptr r i => match idxN rs r with | some m => .ptr m i | none => .unk
  | .mp r => match idxN rs r with | some m => .mp m | none => .unk
  | .bx r => match idxN rs r with | some m => .bx m | none => .unk
  | .nilp => .nilp
  | .fn f caps => match renC rs caps with | some l => .fn f l | none => .unk
  | _ => .unk
def cpO (rs : List Nat) (H : Nat → HO) : HO → HO
  | .arr t xs => .arr t xs
  | .cells l => .cells (l.map (cpS rs H))
  | .map k v m => .map k v m
  | _ => .cells []
theorem renC_id (l : List (Nat × Nat)) : (l.map fun p => (id p.1, p.2)) = l := by
  induction l with
  | nil => rfl
  | cons p l ih => rw [List.map_cons, ih]; rfl
theorem fillS_sk (rs : List Nat) (H : Nat → HO) (x : SV) (l : List DV) : fillS id (skS rs H x).1 ((skS rs H x).2 ++ l) = (cpS rs H x, l) := by
  cases x with
  | own r =>
    simp only [skS, cpS]
    cases idxN rs r with
    | some m => rfl
    | none => cases H r <;> rfl
  | ptr r i =>
    simp only [skS, cpS]
    cases idxN rs r <;> rfl
  | mp r =>
    simp only [skS, cpS]
    cases idxN rs r <;> rfl
  | bx r =>
    simp only [skS, cpS]
    cases idxN rs r <;> rfl
  | fn f caps =>
    simp only [skS, cpS]
    cases renC rs caps with
    | none => rfl
    | some l' => simp only [List.nil_append, fillS, renC_id]
  | _ => rfl
theorem fillL_sk (rs : List Nat) (H : Nat → HO) : ∀ (xs : List SV) (l : List DV), fillL id (skL rs H xs).1 ((skL rs H xs).2 ++ l) = (xs.map (cpS rs H), l)
  | [], _ => rfl
  | x :: xs, l => by
    simp only [skL, fillL, List.append_assoc, fillS_sk, fillL_sk rs H xs l, List.map_cons]
theorem fillO_sk (rs : List Nat) (H : Nat → HO) (o : HO) (l : List DV) : fillO id (skO rs H o).1 ((skO rs H o).2 ++ l) = (cpO rs H o, l) := by
  cases o with
  | cells xs => simp only [skO, fillO, fillL_sk, cpO]
  | _ => rfl
theorem fillOs_sk (rs0 : List Nat) (H : Nat → HO) : ∀ (rs : List Nat), fillOs id (skOs rs0 H rs).1 (skOs rs0 H rs).2 = rs.map fun r => cpO rs0 H (H r)
  | [] => rfl
  | r :: rs => by
    simp only [skOs, fillOs, fillO_sk, fillOs_sk rs0 H rs, List.map_cons]
theorem getO_map (rs : List Nat) (f : Nat → HO) (m : Nat) : getO (rs.map f) m = if m < rs.length then f (getL 0 rs m) else .dead := by
  induction rs generalizing m with
  | nil => simp [getL]
  | cons r rs ih =>
    cases m with
    | zero => simp [getL]
    | succ m => simp only [List.map_cons, getL, ih, List.length_cons, Nat.add_lt_add_iff_right]
/-! ### what it says -/
/-- The objects of a state in a world. -/
structure HRel (X : Nat → Prop) (ρ : Nat → RV) (H : Nat → HO) (w : World) : Prop where
  objs : ∀ r, OR w (okOf X ρ H) ρ H (H r) (ρ r)
  inj : ∀ r s, r ≠ s → (H r).live = true → (H s).live = true → ∀ b o c b' o' c', ρ r = .at b o c → ρ s = .at b' o' c' → b ≠ b'
  noX : ∀ r, (H r).live = true → ∀ b o c, ρ r = .at b o c → ¬ X b
  xlt : ∀ b, X b → b < w.heap.size
theorem Rel.h {C : Ctx} {A : Nat → Prop} {ρ : Nat → RV} {σ : St} {a : Act} {w : World} (h : Rel C A ρ σ a w) : HRel C.X ρ (getO σ.heap) w := ⟨h.objs, h.inj, h.noX, h.xlt⟩
section
variable {X X' : Nat → Prop} {ρ ρ' : Nat → RV} {H Hs H' : Nat → HO} {w w' : World} {rs : List Nat}
/-- H' and ρ': a copy of H and ρ at rs; Hs: what is seen of H. -/
structure Cp (rs : List Nat) (ρ ρ' : Nat → RV) (H Hs H' : Nat → HO) : Prop where
  nd : rs.Nodup
  sub : ∀ r, Hs r ≠ .dead → H r = Hs r
  live : ∀ r ∈ rs, (Hs r).live = true
  obj : ∀ m, H' m = if m < rs.length then cpO rs Hs (Hs (getL 0 rs m)) else .dead
  rv : ∀ m, m < rs.length → ρ' m = ρ (getL 0 rs m)
theorem Cp.same (h : Cp rs ρ ρ' H Hs H') {r : Nat} (hr : r ∈ rs) : H r = Hs r := h.sub r (fun e => by
  have := h.live r hr
  rw [e] at this
  cases this)
theorem Cp.at (h : Cp rs ρ ρ' H Hs H') {r m : Nat} (e : idxN rs r = some m) : H' m = cpO rs Hs (H r) ∧ ρ' m = ρ r ∧ (H r).live = true := by
  obtain ⟨h1, h2⟩ := idxN_get rs r m e
  have h3 : r ∈ rs := by
    rw [← h2]
    exact getL_mem 0 rs m h1
  refine ⟨by rw [h.obj, if_pos h1, h2, h.same h3], by rw [h.rv m h1, h2], ?_⟩
  rw [h.same h3]
  exact h.live r h3
theorem Cp.alive (h : Cp rs ρ ρ' H Hs H') {m : Nat} (hl : (H' m).live = true) : m < rs.length := by
  rcases Nat.lt_or_ge m rs.length with h1 | h1
  · exact h1
  · rw [h.obj, if_neg (by omega)] at hl
    cases hl
theorem AR.okm {ok ok' : Nat → Prop} (hok : ∀ b, ok b → ok' b) {mk : Nat × Nat → Prop} {t : Ty} {xs : List t.den} {rv : RV} (h : AR w ok mk t xs rv) : AR w ok' mk t xs rv :=
  AR.mono (fun b hb _ => ⟨rfl, hok b hb⟩) (fun _ _ _ _ => rfl) h
theorem renC_spec (rs : List Nat) : ∀ (caps l : List (Nat × Nat)), renC rs caps = some l → l.length = caps.length ∧ ∀ i (h1 : i < caps.length) (h2 : i < l.length), idxN rs caps[i].1 = some l[i].1 ∧ l[i].2 = caps[i].2
  | [], l, h => by
    cases h
    exact ⟨rfl, fun i h1 => absurd h1 (by simp)⟩
  | (r, j) :: caps, l, h => by
    simp only [renC] at h
    split at h
    · rename_i m l' h1 h2
      cases h
      obtain ⟨h3, h4⟩ := renC_spec rs caps l' h2
      refine ⟨by simp [h3], fun i k1 k2 => ?_⟩
      cases i with
      | zero => exact ⟨h1, rfl⟩
      | succ i => exact h4 i (by simpa using k1) (by simpa using k2)
    · cases h
theorem SR_cp {ok' : Nat → Prop} (hh : HRel X ρ H w) (hc : Cp rs ρ ρ' H Hs H') (hok : ∀ b, okOf X ρ H b → ok' b) {x : SV} {u : Value} (h : SR w (okOf X ρ H) ρ H x u) : SR w ok' ρ' H' (cpS rs Hs x) u := by
  have vr : ∀ (t : Ty) (x : t.den), VR w (okOf X ρ H) t x u → VR w ok' t x u := fun t x k => VR.mono (fun b hb _ => ⟨rfl, hok b hb⟩) k
  cases x with
  | unk => trivial
  | kb b => exact VR_bool.2 h
  | v t x => exact vr t x h
  | nil => trivial
  | sub r o n => trivial
  | eptr r i j => trivial
  | xptr r i j k n e => trivial
  | asl r i j lo len n e => trivial
  | imm t x => trivial
  | nilp => exact h
  | own r =>
    simp only [cpS]
    cases e : idxN rs r with
    | some m =>
      obtain ⟨h1, h2, h3⟩ := hc.at e
      simp only [SR] at h ⊢
      cases hr : H r <;> rw [hr] at h h1 h3 <;> first | (cases h3; done) | skip
      · simp only [cpO] at h1
        simp only [h1, h2]
        exact h
      · simp only [cpO] at h1
        simp only [h1]
      · simp only [cpO] at h1
        simp only [h1]
    | none =>
      simp only
      cases hr0 : Hs r with
      | froz t xs =>
        have hr : H r = .froz t xs := by
          rw [← hr0]
          exact hc.sub r (by rw [hr0]; intro h; cases h)
        simp only
        have ho := hh.objs r
        rw [hr] at ho
        simp only [SR, hr] at h
        show VR w ok' (.slice t) xs u
        rcases ho with ho | ⟨ho, ho2⟩
        · subst ho
          cases hρ : ρ r with
          | none =>
            rw [hρ] at h
            simp only at h
            subst h
            exact VR_slice.2 ⟨none, 0, rfl, Nat.zero_le _, .inl rfl⟩
          | «at» b off cap =>
            rw [hρ] at h
            simp only at h
            subst h
            exact VR_slice.2 ⟨_, cap, rfl, Nat.zero_le _, .inl rfl⟩
        · cases hρ : ρ r with
          | none =>
            rw [hρ] at h ho
            simp only at h
            subst h
            rw [show xs = [] from ho]
            exact VR_slice.2 ⟨none, 0, rfl, Nat.zero_le _, .inl rfl⟩
          | «at» b off cap =>
            rw [hρ] at h ho ho2
            simp only at h
            subst h
            obtain ⟨c, e, fr, k1, k2, k3, k4, k5⟩ := ho
            exact vr (.slice t) xs (VR_slice.2 ⟨_, cap, rfl, k3, .inr ⟨b, off, c, e, fr, rfl, ho2 b off cap rfl, k1, k5⟩⟩)
      | _ => trivial
  | ptr r i =>
    simp only [cpS]
    cases e : idxN rs r with
    | none => trivial
    | some m =>
      obtain ⟨h1, h2, h3⟩ := hc.at e
      obtain ⟨b, e1, e2⟩ := h
      refine ⟨b, e1, ?_⟩
      cases hr : H r <;> rw [hr] at e2 h1 h3 <;> first | (cases h3; done) | skip
      · simp only [h1, cpO]
      · simp only [h1, cpO, h2]
        exact e2
      · simp only [h1, cpO]
  | bx r =>
    simp only [cpS]
    cases e : idxN rs r with
    | none => trivial
    | some m =>
      obtain ⟨h1, h2, h3⟩ := hc.at e
      obtain ⟨b, o, e1, e2⟩ := h
      refine ⟨b, o, e1, ?_⟩
      cases hr : H r <;> rw [hr] at e2 h1 h3 <;> first | (cases h3; done) | skip
      · simp only [h1, cpO, h2]
        exact e2
      · simp only [h1, cpO]
      · simp only [h1, cpO]
  | mp r =>
    simp only [cpS]
    cases e : idxN rs r with
    | none => trivial
    | some m =>
      obtain ⟨h1, h2, h3⟩ := hc.at e
      simp only [SR] at h ⊢
      cases hr : H r <;> rw [hr] at h h1 h3 <;> first | (cases h3; done) | skip
      · simp only [h1, cpO]
      · simp only [h1, cpO]
      · simp only [h1, cpO, h2]
        exact h
  | fn f caps =>
    simp only [cpS]
    cases e : renC rs caps with
    | none => trivial
    | some l =>
      obtain ⟨vs, e1, e2, h3⟩ := h
      obtain ⟨k1, k2⟩ := renC_spec rs caps l e
      refine ⟨vs, e1, by rw [e2, k1], fun i hi => ?_⟩
      have hi' : i < caps.length := by omega
      obtain ⟨q1, q2⟩ := k2 i hi' hi
      obtain ⟨b, e4, e5⟩ := h3 i hi'
      obtain ⟨h1, h2, h6⟩ := hc.at q1
      refine ⟨b, by rw [q2]; exact e4, ?_⟩
      cases hr : H caps[i].1 <;> rw [hr] at e5 h1 h6 <;> first | (cases h6; done) | skip
      · simp only [h1, cpO]
      · simp only [h1, cpO, h2]
        exact e5
      · simp only [h1, cpO]
theorem CellsR_cp {ok' : Nat → Prop} (hh : HRel X ρ H w) (hc : Cp rs ρ ρ' H Hs H') (hok : ∀ b, okOf X ρ H b → ok' b) : ∀ {xs : List SV} {us : List Value}, CellsR w (okOf X ρ H) ρ H xs us → CellsR w ok' ρ' H' (xs.map (cpS rs Hs)) us
  | [], _, h => h
  | _ :: _, _, ⟨u, us, e, h1, h2⟩ => ⟨u, us, e, SR_cp hh hc hok h1, CellsR_cp hh hc hok h2⟩
theorem getL_map {l : List SV} {f : SV → SV} (i : Nat) (h : i < l.length) : getL .unk (l.map f) i = f (getL .unk l i) := by
  rw [getL_get, getL_get, List.getD_eq_getElem?_getD, List.getD_eq_getElem?_getD, List.getElem?_map, List.getElem?_eq_getElem h]
  rfl
/-- A copy in which the other objects are another's (X' may name their blocks), or none's. -/
theorem HRel.cp (hh : HRel X ρ H w) (hc : Cp rs ρ ρ' H Hs H') (hX : ∀ b, X b → X' b) (hX' : ∀ b, X' b → X b ∨ ∃ r o c, r ∉ rs ∧ (H r).live = true ∧ ρ r = .at b o c) : HRel X' ρ' H' w ∧ ∀ b, okOf X ρ H b → okOf X' ρ' H' b := by
  have live : ∀ m, (H' m).live = true → m < rs.length ∧ (H (getL 0 rs m)).live = true ∧ ρ' m = ρ (getL 0 rs m) := fun m hm => by
    have h1 := hc.alive hm
    have h2 := getL_mem 0 rs m h1
    exact ⟨h1, by rw [hc.same h2]; exact hc.live _ h2, hc.rv m h1⟩
  have hok : ∀ b, okOf X ρ H b → okOf X' ρ' H' b := fun b hb => by
    refine ⟨fun hx => ?_, fun m hm off cap e => ?_⟩
    · rcases hX' b hx with h1 | ⟨r, o, c, _, h2, h3⟩
      · exact hb.1 h1
      · exact hb.2 r h2 o c h3
    · obtain ⟨h1, h2, h3⟩ := live m hm
      rw [h3] at e
      exact hb.2 _ h2 off cap e
  refine ⟨⟨fun m => ?_, fun m n hmn hm hn b o c b' o' c' e1 e2 => ?_, fun m hm b o c e hx => ?_, fun b hb => ?_⟩, hok⟩
  · rw [hc.obj]
    split
    · rename_i hlt
      have ho := hh.objs (getL 0 rs m)
      rw [hc.rv m hlt]
      rw [hc.same (getL_mem 0 rs m hlt)] at ho
      cases hr : Hs (getL 0 rs m) with
      | arr t xs =>
        rw [hr] at ho
        exact AR.okm hok ho
      | froz t xs =>
        have := hc.live _ (getL_mem 0 rs m hlt)
        rw [hr] at this
        cases this
      | dead =>
        have := hc.live _ (getL_mem 0 rs m hlt)
        rw [hr] at this
        cases this
      | map k v es =>
        rw [hr] at ho
        obtain ⟨b, off, cap, es', clock, h1, h2, h3, h4⟩ := ho
        exact ⟨b, off, cap, es', clock, h1, h2, h3.mono (fun b hb _ => ⟨rfl, hok b hb⟩), h4⟩
      | cells l =>
        rw [hr] at ho
        obtain ⟨b, cap, c, e, h1, h2, h3, h4, h5⟩ := ho
        refine ⟨b, cap, c, e, h1, h2, by rw [h3, List.length_map], fun i hi => ?_, h5⟩
        rw [List.length_map] at hi
        rw [getL_map i hi]
        exact SR_cp hh hc hok (h4 i hi)
    · trivial
  · obtain ⟨h1, h2, h3⟩ := live m hm
    obtain ⟨k1, k2, k3⟩ := live n hn
    rw [h3] at e1
    rw [k3] at e2
    exact hh.inj _ _ (fun e => hmn (getL_inj hc.nd h1 k1 e)) h2 k2 b o c b' o' c' e1 e2
  · obtain ⟨h1, h2, h3⟩ := live m hm
    rw [h3] at e
    rcases hX' b hx with h4 | ⟨r, o', c', h5, h6, h7⟩
    · exact hh.noX _ h2 b o c e h4
    · exact hh.inj _ r (fun e' => h5 (e' ▸ getL_mem 0 rs m h1)) h2 h6 b o c b o' c' e h7 rfl
  · rcases hX' b hb with h4 | ⟨r, o', c', h5, h6, h7⟩
    · exact hh.xlt b h4
    · exact OR.lt h6 (h7 ▸ hh.objs r)
end
end Go.Sym

/- An object graph that comes back: its objects under the references of the one who asked. -/
namespace Go.Sym
def renV (μ : Nat → Nat) : SV → SV
  | .own r => .own (μ r)
  | .sub r o n => .sub (μ r) o n
  | .ptr r i => .ptr (μ r) i
  | .eptr r i j => .eptr (μ r) i j
  | .bx r => .bx (μ r)
  | .xptr r i j k n e => .xptr (μ r) i j k n e
  | .asl r i j lo len n e => .asl (μ r) i j lo len n e
  | .mp r => .mp (μ r)
  | .fn f caps => .fn f (caps.map fun p => (μ p.1, p.2))
  | x => x
def renO (μ : Nat → Nat) : HO → HO
  | .cells l => .cells (l.map (renV μ))
  | o => o
theorem fillS_ren (μ : Nat → Nat) (s : SSk) (l : List DV) : fillS μ s l = (renV μ (fillS id s l).1, (fillS id s l).2) := by
  cases s with
  | fn f caps => simp only [fillS, renV, renC_id]
  | v t =>
    cases l with
    | nil => rfl
    | cons d l => rfl
  | _ => rfl
theorem fillL_ren (μ : Nat → Nat) : ∀ (ss : List SSk) (l : List DV), fillL μ ss l = ((fillL id ss l).1.map (renV μ), (fillL id ss l).2)
  | [], _ => rfl
  | s :: ss, l => by
    simp only [fillL]
    rw [fillS_ren μ s l]
    simp only
    rw [fillL_ren μ ss]
    rfl
theorem fillO_ren (μ : Nat → Nat) (o : OSk) (l : List DV) : fillO μ o l = (renO μ (fillO id o l).1, (fillO id o l).2) := by
  cases o with
  | cells ss => simp only [fillO, fillL_ren μ ss l, renO]
  | arr t =>
    cases l with
    | nil => rfl
    | cons d l =>
      obtain ⟨t', x⟩ := d
      cases t' <;> rfl
  | map k v =>
    cases l with
    | nil => rfl
    | cons d l =>
      obtain ⟨t', x⟩ := d
      cases t' <;> rfl
theorem fillOs_ren (μ : Nat → Nat) : ∀ (os : List OSk) (l : List DV), fillOs μ os l = (fillOs id os l).map (renO μ)
  | [], _ => rfl
  | o :: os, l => by
    simp only [fillOs]
    rw [fillO_ren μ o l]
    simp only
    rw [fillOs_ren μ os]
    rfl
theorem fillOs_len (μ : Nat → Nat) : ∀ (os : List OSk) (l : List DV), (fillOs μ os l).length = os.length
  | [], _ => rfl
  | o :: os, l => by simp only [fillOs, List.length_cons, fillOs_len μ os]
theorem fillL_len (μ : Nat → Nat) : ∀ (ss : List SSk) (l : List DV), (fillL μ ss l).1.length = ss.length
  | [], _ => rfl
  | s :: ss, l => by simp only [fillL, List.length_cons, fillL_len μ ss]
/-! ### which references a form holds -/
theorem fillS_in {n : Nat} (s : SSk) (h : sskWf n s = true) (l : List DV) : RefIn (· < n) (fillS id s l).1 := by
  cases s with
  | v t =>
    cases l <;> trivial
  | own m => exact Nat.le_of_ble_eq_true h
  | ptr m i => exact Nat.le_of_ble_eq_true h
  | mp m => exact Nat.le_of_ble_eq_true h
  | bx m => exact Nat.le_of_ble_eq_true h
  | fn f caps =>
    simp only [fillS, renC_id]
    intro p hp
    simp only [sskWf, List.all_eq_true] at h
    exact Nat.le_of_ble_eq_true (h p hp)
  | _ => trivial
theorem fillL_in {n : Nat} : ∀ (ss : List SSk), ss.all (sskWf n) = true → ∀ (l : List DV), ∀ x ∈ (fillL id ss l).1, RefIn (· < n) x
  | [], _, _, x, hx => by cases hx
  | s :: ss, h, l, x, hx => by
    simp only [List.all_cons, Bool.and_eq_true] at h
    simp only [fillL] at hx
    cases hx with
    | head => exact fillS_in s h.1 l
    | tail _ hx => exact fillL_in ss h.2 _ x hx
theorem fillO_in {n : Nat} (o : OSk) (h : oskWf n o = true) (l : List DV) (xs : List SV) (e : (fillO id o l).1 = .cells xs) : ∀ x ∈ xs, RefIn (· < n) x := by
  cases o with
  | cells ss =>
    simp only [fillO] at e
    cases e
    exact fillL_in ss h l
  | arr t =>
    cases l with
    | nil => cases e
    | cons d l =>
      obtain ⟨t', x⟩ := d
      cases t' <;> cases e
  | map k v =>
    cases l with
    | nil => cases e
    | cons d l =>
      obtain ⟨t', x⟩ := d
      cases t' <;> cases e
theorem fillOs_in {n : Nat} : ∀ (os : List OSk), os.all (oskWf n) = true → ∀ (l : List DV) (m : Nat) (xs : List SV), getO (fillOs id os l) m = .cells xs → ∀ x ∈ xs, RefIn (· < n) x
  | [], _, _, m, xs, e => by cases e
  | o :: os, h, l, m, xs, e => by
    simp only [List.all_cons, Bool.and_eq_true] at h
    simp only [fillOs] at e
    cases m with
    | zero => exact fillO_in o h.1 l xs e
    | succ m => exact fillOs_in os h.2 _ m xs e
theorem skWf_eq {s : Skel} (h : skWf s = true) : s.slots.all (sskWf s.objs.length) = true ∧ s.objs.all (oskWf s.objs.length) = true := by
  unfold skWf at h
  split at h
  · rename_i h1
    exact ⟨h1, h⟩
  · cases h
/-! ### what it says -/
section
variable {ρ ρ' : Nat → RV} {H H' : Nat → HO} {w : World} {ok ok' : Nat → Prop} {K : Nat → Prop} {μ : Nat → Nat}
/-- H is H' under the names of μ. -/
def Rn (K : Nat → Prop) (μ : Nat → Nat) (ρ' ρ : Nat → RV) (H' H : Nat → HO) : Prop := ∀ m, K m → H (μ m) = renO μ (H' m) ∧ ρ (μ m) = ρ' m
theorem SR_ren (hk : Rn K μ ρ' ρ H' H) (hok : ∀ b, ok' b → ok b) {x : SV} {u : Value} (hi : RefIn K x) (h : SR w ok' ρ' H' x u) : SR w ok ρ H (renV μ x) u := by
  cases x with
  | unk => trivial
  | kb b => exact h
  | v t x => exact VR.mono (fun b hb _ => ⟨rfl, hok b hb⟩) h
  | nil => exact h
  | nilp => exact h
  | imm t x =>
    obtain ⟨b, off, c, e, fr, h1, h2, h3, h4⟩ := h
    exact ⟨b, off, c, e, fr, h1, hok b h2, h3, TR.mono (fun b hb _ => ⟨rfl, hok b hb⟩) h4⟩
  | own r =>
    obtain ⟨h1, h2⟩ := hk r hi
    simp only [SR, renV] at h ⊢
    cases hr : H' r <;> simp only [hr, renO] at h h1 <;> simp only [h1, h2] <;> exact h
  | sub r o n =>
    obtain ⟨h1, h2⟩ := hk r hi
    simp only [SR, renV] at h ⊢
    cases hr : H' r <;> simp only [hr, renO] at h h1 <;> simp only [h1, h2] <;> exact h
  | ptr r i =>
    obtain ⟨h1, h2⟩ := hk r hi
    obtain ⟨b, e1, e2⟩ := h
    refine ⟨b, e1, ?_⟩
    cases hr : H' r <;> simp only [hr, renO] at e2 h1 <;> simp only [h1, h2] <;> exact e2
  | eptr r i j =>
    obtain ⟨h1, h2⟩ := hk r hi
    obtain ⟨b, o, e1, e2⟩ := h
    refine ⟨b, o, e1, ?_⟩
    cases hr : H' r <;> simp only [hr, renO] at e2 h1 <;> simp only [h1, h2] <;> exact e2
  | bx r =>
    obtain ⟨h1, h2⟩ := hk r hi
    obtain ⟨b, o, e1, e2⟩ := h
    refine ⟨b, o, e1, ?_⟩
    cases hr : H' r <;> simp only [hr, renO] at e2 h1 <;> simp only [h1, h2] <;> exact e2
  | xptr r i j k n e =>
    obtain ⟨h1, h2⟩ := hk r hi
    obtain ⟨b, o, e1, e2⟩ := h
    refine ⟨b, o, e1, ?_⟩
    cases hr : H' r <;> simp only [hr, renO] at e2 h1 <;> simp only [h1, h2] <;> exact e2
  | asl r i j lo len n e =>
    obtain ⟨h1, h2⟩ := hk r hi
    simp only [SR, renV] at h ⊢
    cases hr : H' r <;> simp only [hr, renO] at h h1 <;> simp only [h1, h2] <;> exact h
  | mp r =>
    obtain ⟨h1, h2⟩ := hk r hi
    simp only [SR, renV] at h ⊢
    cases hr : H' r <;> simp only [hr, renO] at h h1 <;> simp only [h1, h2] <;> exact h
  | fn f caps =>
    obtain ⟨vs, e1, e2, h3⟩ := h
    refine ⟨vs, e1, by rw [e2, List.length_map], fun i hi' => ?_⟩
    rw [List.length_map] at hi'
    obtain ⟨b, e4, e5⟩ := h3 i hi'
    obtain ⟨h1, h2⟩ := hk _ (hi _ (List.getElem_mem hi'))
    simp only [List.getElem_map]
    refine ⟨b, e4, ?_⟩
    cases hr : H' caps[i].1 <;> simp only [hr, renO] at e5 h1 <;> simp only [h1, h2] <;> exact e5
theorem CellsR_ren (hk : Rn K μ ρ' ρ H' H) (hok : ∀ b, ok' b → ok b) : ∀ {xs : List SV} {us : List Value}, (∀ x ∈ xs, RefIn K x) → CellsR w ok' ρ' H' xs us → CellsR w ok ρ H (xs.map (renV μ)) us
  | [], _, _, h => h
  | x :: xs, _, hi, ⟨u, us, e, h1, h2⟩ => ⟨u, us, e, SR_ren hk hok (hi x (List.mem_cons_self ..)) h1, CellsR_ren hk hok (fun y hy => hi y (List.mem_cons_of_mem _ hy)) h2⟩
theorem OR_ren (hk : Rn K μ ρ' ρ H' H) (hok : ∀ b, ok' b → ok b) {o : HO} {rv : RV} (hi : ∀ l, o = .cells l → ∀ x ∈ l, RefIn K x) (h : OR w ok' ρ' H' o rv) : OR w ok ρ H (renO μ o) rv := by
  cases o with
  | arr t xs => exact AR.okm hok h
  | froz t xs => exact h.imp id (fun k => ⟨AR.okm hok k.1, fun b off cap e => hok b (k.2 b off cap e)⟩)
  | dead => trivial
  | map k v m =>
    obtain ⟨b, off, cap, es, clock, h1, h2, h3, h4⟩ := h
    exact ⟨b, off, cap, es, clock, h1, h2, h3.mono (fun b hb _ => ⟨rfl, hok b hb⟩), h4⟩
  | cells l =>
    obtain ⟨b, cap, c, e, h1, h2, h3, h4, h5⟩ := h
    refine ⟨b, cap, c, e, h1, h2, by rw [h3, List.length_map], fun i hl => ?_, h5⟩
    rw [List.length_map] at hl
    rw [getL_map i hl]
    exact SR_ren hk hok (hi l rfl _ (getL_mem _ l i hl)) (h4 i hl)
theorem renV_in {A : Nat → Prop} (hk : ∀ m, K m → A (μ m)) {x : SV} (h : RefIn K x) : RefIn A (renV μ x) := by
  cases x with
  | fn f caps =>
    intro p hp
    obtain ⟨q, hq, rfl⟩ := List.mem_map.1 hp
    exact hk _ (h q hq)
  | own r => exact hk _ h
  | sub r o n => exact hk _ h
  | ptr r i => exact hk _ h
  | eptr r i j => exact hk _ h
  | bx r => exact hk _ h
  | xptr r i j k n e => exact hk _ h
  | asl r i j lo len n e => exact hk _ h
  | mp r => exact hk _ h
  | _ => trivial
end
end Go.Sym

/- Calls: what a function's contract is, and that a call keeps to it. -/
namespace Go.Sym
/-- Whose blocks are a state's own. -/
def ownB (ρ : Nat → RV) (H : Nat → HO) (b : Nat) : Prop := ∃ r o c, (H r).live = true ∧ ρ r = .at b o c
def ResOf (v : Value) (vs : List Value) : Prop := match vs with | [x] => v = x | _ => v = .tuple vs.toArray
def Enters (P : Program) (f : FuncId) : Prop := ∀ args w, (callFunc f args).run P w = .ok (.enter f args) w
/-- What a function comes to, given data: the contract. -/
def FnOk (P : Program) (T : List (Nat × List Value)) (c : Cfg) (g : Nat) (F : Fn (c.sig g).ins (Option (c.sig g).res.den)) : Prop :=
  ∀ (ds : List DV) (y : (c.sig g).res.den), appl (c.sig g).ins F ds = some y → ∀ (w : World) (X : Nat → Prop) (ρ : Nat → RV) (args : List Value),
    HRel X ρ (getO (fillOs id (c.sig g).ps.objs (fillL id (c.sig g).ps.slots ds).2)) w →
    CellsR w (okOf X ρ (getO (fillOs id (c.sig g).ps.objs (fillL id (c.sig g).ps.slots ds).2))) ρ (getO (fillOs id (c.sig g).ps.objs (fillL id (c.sig g).ps.slots ds).2)) (fillL id (c.sig g).ps.slots ds).1 args →
    (∀ p ∈ T, (∃ e fz, w.heap[p.1]? = some (.cells p.2.toArray e fz)) ∧ ¬ ownB ρ (getO (fillOs id (c.sig g).ps.objs (fillL id (c.sig g).ps.slots ds).2)) p.1) →
    Enters P (c.real g) ∧ Calls P (c.real g) args.toArray w fun e w' => match e with
      | .returned v => ∃ ρ' vs,
          HRel X ρ' (getO (fillOs id (c.sig g).rs.objs (fillL id (c.sig g).rs.slots (untup (c.sig g).rs.tys y)).2)) w' ∧
          Fr (ownB ρ (getO (fillOs id (c.sig g).ps.objs (fillL id (c.sig g).ps.slots ds).2))) w w' ∧
          (∀ b, ownB ρ' (getO (fillOs id (c.sig g).rs.objs (fillL id (c.sig g).rs.slots (untup (c.sig g).rs.tys y)).2)) b → ownB ρ (getO (fillOs id (c.sig g).ps.objs (fillL id (c.sig g).ps.slots ds).2)) b ∨ w.heap.size ≤ b) ∧
          CellsR w' (okOf X ρ' (getO (fillOs id (c.sig g).rs.objs (fillL id (c.sig g).rs.slots (untup (c.sig g).rs.tys y)).2))) ρ' (getO (fillOs id (c.sig g).rs.objs (fillL id (c.sig g).rs.slots (untup (c.sig g).rs.tys y)).2))
            (fillL id (c.sig g).rs.slots (untup (c.sig g).rs.tys y)).1 ((c.sig g).back.map (fun i => args.getD i undef) ++ vs) ∧
          ResOf v vs
      | .panicked _ => False
      | .outgrown => False
section
variable {P : Program} {C : Ctx} {a : Act} {w : World} {c : Cfg}
theorem coerce_in (sk : Skel) : ∀ (ss : List SSk) (xs : List SV) (Hr : Nat → HO) (fr : Nat) (l : List SV) (us : Ups) (n : Nat), coerce sk ss xs Hr fr = some (l, us, n) → fr ≤ n ∧ ∀ p ∈ us, Hr p.1 ≠ .dead ∨ (fr ≤ p.1 ∧ p.1 < n)
  | [], [], Hr, fr, l, us, n, e => by
    cases e
    exact ⟨Nat.le_refl _, fun p hp => by cases hp⟩
  | [], _ :: _, Hr, fr, l, us, n, e => by cases e
  | _ :: _, [], Hr, fr, l, us, n, e => by cases e
  | s :: ss, x :: xs, Hr, fr, l, us, n, e => by
    simp only [coerce] at e
    split at e
    · rename_i t
      split at e
      · rename_i y us1 hv
        split at e
        · rename_i l' us2 n' hc
          cases e
          obtain ⟨h1, h2⟩ := coerce_in sk ss xs _ _ _ _ _ hc
          refine ⟨h1, fun p hp => ?_⟩
          rcases List.mem_append.1 hp with hp | hp
          · exact .inl (toVal_in hv p hp)
          · rcases h2 p hp with h3 | h3
            · rcases ovr_in _ _ _ h3 with h4 | ⟨q, hq, e⟩
              · exact .inl h4
              · exact .inl (e ▸ toVal_in hv q hq)
            · exact .inr h3
        · cases e
      · cases e
    · split at e
      · split at e
        · rename_i l' us2 n' hc
          cases e
          obtain ⟨h1, h2⟩ := coerce_in sk ss xs _ _ _ _ _ hc
          refine ⟨by omega, fun p hp => ?_⟩
          cases hp with
          | head => exact .inr ⟨Nat.le_refl _, h1⟩
          | tail _ hp => exact (h2 p hp).imp id (fun h => ⟨by omega, h.2⟩)
        · cases e
      · cases e
    · split at e
      · rename_i l' us2 n' hc
        cases e
        exact coerce_in sk ss xs _ _ _ _ _ hc
      · cases e
theorem coerce_sound (sk : Skel) (A0 : Nat → Prop) : ∀ (ss : List SSk) (xs : List SV) (vals : List Value) (Hr : Nat → HO) (fr : Nat) (l : List SV) (us : Ups) (n : Nat) (A : Nat → Prop) (ρ : Nat → RV) (σ : St), coerce sk ss xs Hr fr = some (l, us, n) →
    Rel C A ρ σ a w → (∀ r, Hr r ≠ .dead → getO σ.heap r = Hr r) → CellsR w (okOf C.X ρ (getO σ.heap)) ρ (getO σ.heap) xs vals → (∀ x ∈ xs, RefIn A x) → (∀ r, A r → A0 r ∨ r < fr) → (∀ p ∈ us, fr ≤ p.1 → ¬ A0 p.1) →
    ∃ ρ1, Aft C A ρ σ a w us ρ1 w ∧ CellsR w (okOf C.X ρ1 (getO (updH σ.heap us))) ρ1 (getO (updH σ.heap us)) l vals ∧ (∀ x ∈ l, RefIn (fun r => A r ∨ refs us r) x)
  | [], [], vals, Hr, fr, l, us, n, A, ρ, σ, e, h, hH, hx, hi, hA, hf => by
    cases e
    exact ⟨ρ, Aft.nil h, hx, fun x hx => by cases hx⟩
  | [], _ :: _, vals, Hr, fr, l, us, n, A, ρ, σ, e, h, hH, hx, hi, hA, hf => by cases e
  | _ :: _, [], vals, Hr, fr, l, us, n, A, ρ, σ, e, h, hH, hx, hi, hA, hf => by cases e
  | s :: ss, x :: xs, vals, Hr, fr, l, us, n, A, ρ, σ, e, h, hH, hx, hi, hA, hf => by
    obtain ⟨v, vals, rfl, hx1, hx2⟩ := hx
    -- what comes behind the first
    have go : ∀ (x' : SV) (us1 us2 : Ups) (l' : List SV) (Hr' : Nat → HO) (fr' : Nat) (ρ1 : Nat → RV), us = us1 ++ us2 → l = x' :: l' → coerce sk ss xs Hr' fr' = some (l', us2, n) → Aft C A ρ σ a w us1 ρ1 w → fr ≤ fr' →
        (∀ r, Hr' r ≠ .dead → getO (updH σ.heap us1) r = Hr' r) → SR w (okOf C.X ρ1 (getO (updH σ.heap us1))) ρ1 (getO (updH σ.heap us1)) x' v → RefIn (fun r => A r ∨ refs us1 r) x' → (∀ r, A r ∨ refs us1 r → A0 r ∨ r < fr') →
        ∃ ρ1, Aft C A ρ σ a w us ρ1 w ∧ CellsR w (okOf C.X ρ1 (getO (updH σ.heap us))) ρ1 (getO (updH σ.heap us)) l (v :: vals) ∧ (∀ x ∈ l, RefIn (fun r => A r ∨ refs us r) x) := by
      intro x' us1 us2 l' Hr' fr' ρ1 hus hl hc k1 hfr hH' hs hin hA'
      obtain ⟨ρ2, m1, m2, m3⟩ := coerce_sound sk A0 ss xs vals Hr' fr' l' us2 n (fun r => A r ∨ refs us1 r) ρ1 { σ with heap := updH σ.heap us1 } hc k1.rel hH' (CellsR.mono k1.mono (fun y hy => hi y (List.mem_cons_of_mem _ hy)) hx2)
        (fun y hy => (hi y (List.mem_cons_of_mem _ hy)).mono (fun _ h => .inl h)) hA' (fun p hp hn => hf p (by rw [hus]; exact List.mem_append_right _ hp) (by omega))
      have e1 : updH σ.heap us = updH (updH σ.heap us1) us2 := by rw [hus, updH_app]
      have e2 : ∀ r, (A r ∨ refs us1 r) ∨ refs us2 r → A r ∨ refs us r := fun r hr => by
        rw [hus, refs_app]
        rcases hr with (h | h) | h
        · exact .inl h
        · exact .inr (.inl h)
        · exact .inr (.inr h)
      refine ⟨ρ2, by rw [hus]; exact k1.trans m1, ?_, ?_⟩
      · rw [hl, e1]
        exact ⟨v, vals, rfl, m1.mono x' v hin hs, m2⟩
      · rw [hl]
        intro y hy
        cases hy with
        | head => exact hin.mono (fun r h => e2 r (.inl h))
        | tail _ hy => exact (m3 y hy).mono e2
    simp only [coerce] at e
    split at e
    · rename_i t
      split at e
      · rename_i y us1 hv
        split at e
        · rename_i l' us2 n' hc
          obtain ⟨rfl, h2⟩ := Prod.mk.inj (Option.some.inj e)
          obtain ⟨rfl, rfl⟩ := Prod.mk.inj h2
          obtain ⟨f1, f2⟩ := toVal_sound h hH hv hx1
          refine go (.v t y) us1 us2 l' (ovr Hr us1) fr ρ rfl rfl hc (h.frz us1 f1) (Nat.le_refl _) (ovr_get us1 Hr _ hH) (f2 us1 f1 (fun p hp => hp)) trivial (fun r hr => ?_)
          rcases hr with hr | ⟨p, hp, e⟩
          · exact hA r hr
          · subst e
            have := toVal_in hv p hp
            exact hA _ (h.mem (by rw [hH _ this]; exact this))
        · cases e
      · cases e
    · rename_i m
      split at e
      · rename_i t hm
        split at e
        · rename_i l' us2 n' hc
          obtain ⟨rfl, h2⟩ := Prod.mk.inj (Option.some.inj e)
          obtain ⟨rfl, rfl⟩ := Prod.mk.inj h2
          have hv : v = .slice none 0 0 := hx1
          have hfA : ¬ A fr := fun hr => by
            rcases hA fr hr with h1 | h1
            · exact hf _ (List.mem_cons_self ..) (Nat.le_refl _) h1
            · omega
          obtain ⟨ρ1, k1, k2⟩ := h.empty t fr hfA
          refine go (.own fr) [(fr, .arr t [])] us2 l' Hr (fr + 1) ρ1 rfl rfl hc k2 (Nat.le_succ _) (fun r hr => ?_) (by rw [hv]; exact SR_empty (upd_one σ fr _) k1) (.inr ((refs_one _ _).2 rfl)) (fun r hr => ?_)
          · rw [updH, updH, getO_put, if_neg (fun e => ?_)]
            · exact hH r hr
            · subst e
              exact hfA (h.mem (by rw [hH _ hr]; exact hr))
          · rcases hr with hr | hr
            · exact (hA r hr).imp id (by omega)
            · rw [refs_one] at hr
              exact .inr (by rw [hr]; exact Nat.lt_succ_self _)
        · cases e
      · cases e
    · split at e
      · rename_i l' us2 n' hc
        obtain ⟨rfl, h2⟩ := Prod.mk.inj (Option.some.inj e)
        obtain ⟨rfl, rfl⟩ := Prod.mk.inj h2
        exact go x [] us2 l' Hr fr ρ rfl rfl hc (Aft.nil h) (Nat.le_refl _) hH hx1 ((hi x (List.mem_cons_self ..)).mono (fun _ h => .inl h)) (fun r hr => by
          rcases hr with hr | ⟨p, hp, _⟩
          · exact hA r hr
          · cases hp)
      · cases e
end
end Go.Sym

/- Calls, II: what comes back. -/
namespace Go.Sym
theorem idxN_mem : ∀ {rs : List Nat} {r : Nat}, r ∈ rs → ∃ m, idxN rs r = some m
  | [], _, h => by cases h
  | q :: rs, r, h => by
    simp only [idxN]
    by_cases e : Nat.beq q r = true
    · exact ⟨0, by rw [if_pos e]⟩
    · rw [if_neg e]
      cases h with
      | head => exact absurd (Nat.beq_refl _) e
      | tail _ h =>
        obtain ⟨m, hm⟩ := idxN_mem h
        exact ⟨m + 1, by rw [hm]; rfl⟩
theorem idxN_none {rs : List Nat} {r : Nat} (h : idxN rs r = none) : r ∉ rs := fun hm => by
  obtain ⟨m, e⟩ := idxN_mem hm
  rw [h] at e
  cases e
theorem numberFrom_get : ∀ (n i m : Nat), (numberFrom i n)[m]? = if m < n then some (i + m) else none
  | 0, i, m => by simp [numberFrom]
  | n + 1, i, m => by
    cases m with
    | zero => simp [numberFrom]
    | succ m =>
      rw [numberFrom, List.getElem?_cons_succ, numberFrom_get n (i + 1) m]
      have : i + 1 + m = i + (m + 1) := by omega
      simp only [this, Nat.add_lt_add_iff_right]
theorem numberFrom_len : ∀ (n i : Nat), (numberFrom i n).length = n
  | 0, _ => rfl
  | n + 1, i => by rw [numberFrom, List.length_cons, numberFrom_len n]
theorem refs_get (μ : Nat → Nat) (n m : Nat) (h : m < n) : getL 0 ((numberFrom 0 n).map μ) m = μ m := by
  rw [getL_get, List.getD_eq_getElem?_getD, List.getElem?_map, numberFrom_get, if_pos h, Nat.zero_add]
  rfl
theorem refs_mem (μ : Nat → Nat) (n r : Nat) : r ∈ (numberFrom 0 n).map μ ↔ ∃ m, m < n ∧ μ m = r := by
  constructor
  · intro h
    obtain ⟨m, hm, e⟩ := List.mem_map.1 h
    obtain ⟨i, hi⟩ := List.getElem?_of_mem hm
    rw [numberFrom_get] at hi
    split at hi
    · rename_i hlt
      cases hi
      exact ⟨i, hlt, by rw [← e, Nat.zero_add]⟩
    · cases hi
  · rintro ⟨m, hm, e⟩
    refine List.mem_map.2 ⟨m, ?_, e⟩
    refine List.mem_of_getElem? (i := m) ?_
    rw [numberFrom_get, if_pos hm, Nat.zero_add]
theorem getO_zip {rs : List Nat} {os : List HO} (H : List HO) (hn : rs.Nodup) (hl : rs.length = os.length) (m : Nat) (hm : m < rs.length) : getO (updH H (rs.zip os)) (getL 0 rs m) = getO os m := by
  have h1 : (getL 0 rs m, getO os m) ∈ rs.zip os := by
    refine List.mem_of_getElem? (i := m) ?_
    rw [getL_get, getO, getL_get, List.getD_eq_getElem?_getD, List.getD_eq_getElem?_getD, List.getElem?_eq_getElem hm, List.getElem?_eq_getElem (show m < os.length by omega), List.getElem?_eq_getElem (show m < (rs.zip os).length by rw [List.length_zip]; omega), List.getElem_zip]
    rfl
  obtain ⟨p, hp, e1, e2⟩ := getO_upd_mem (rs.zip os) H (getL 0 rs m) ⟨_, h1, rfl⟩
  rw [e2]
  obtain ⟨i, hi, e⟩ := List.getElem_of_mem hp
  rw [List.getElem_zip] at e
  rw [List.length_zip] at hi
  have hi1 : i < rs.length := by omega
  have e3 : getL 0 rs i = getL 0 rs m := by
    rw [← e1, ← e, getL_get, List.getD_eq_getElem?_getD, List.getElem?_eq_getElem hi1]
    rfl
  have e4 := getL_inj hn hi1 hm e3
  subst e4
  rw [← e, getO, getL_get, List.getD_eq_getElem?_getD, List.getElem?_eq_getElem (by omega)]
  rfl
theorem getO_zip_not {rs : List Nat} {os : List HO} (H : List HO) {r : Nat} (h : r ∉ rs) : getO (updH H (rs.zip os)) r = getO H r := by
  refine getO_upd_not _ H r (fun p hp e => h ?_)
  obtain ⟨i, hi, e'⟩ := List.getElem_of_mem hp
  rw [List.getElem_zip] at e'
  rw [← e, ← e']
  exact List.getElem_mem _
theorem getO_kill (H : List HO) (l : List Nat) (r : Nat) : getO (updH H (l.map fun r => (r, .dead))) r = if r ∈ l then .dead else getO H r := by
  by_cases h : r ∈ l
  · rw [if_pos h]
    obtain ⟨p, hp, e1, e2⟩ := getO_upd_mem (l.map fun r => (r, HO.dead)) H r ⟨(r, .dead), List.mem_map.2 ⟨r, h, rfl⟩, rfl⟩
    rw [e2]
    obtain ⟨q, _, e⟩ := List.mem_map.1 hp
    rw [← e]
  · rw [if_neg h]
    refine getO_upd_not _ H r (fun p hp e => h ?_)
    obtain ⟨q, hq, e'⟩ := List.mem_map.1 hp
    rw [← e, ← e']
    exact hq
/-! ### what comes back under an old reference -/
def BackPair : SSk → SV → Nat → Nat → Prop
  | .ptr m _, .ptr r _, i, q => m = i ∧ r = q
  | .own m, .own r, i, q => m = i ∧ r = q
  | .mp m, .mp r, i, q => m = i ∧ r = q
  | .fn _ caps, .fn _ caps', i, q => ∃ (j : Nat) (p p' : Nat × Nat), caps[j]? = some p ∧ caps'[j]? = some p' ∧ p.1 = i ∧ p'.1 = q
  | _, _, _, _ => False
def KindAt : SSk → HO → HO → Prop
  | .ptr .., o, o' | .fn .., o, o' => (∃ l, o = .cells l) ∧ ∃ l, o' = .cells l
  | .own _, o, o' => (∃ t xs, o = .arr t xs) ∧ ∃ t xs, o' = .arr t xs
  | .mp _, o, o' => (∃ k v m, o = .map k v m) ∧ ∃ k v m, o' = .map k v m
  | _, _, _ => True
theorem pairC_spec {i r : Nat} : ∀ {caps caps' : List (Nat × Nat)}, pairC i caps caps' = some r → ∃ (j : Nat) (p p' : Nat × Nat), caps[j]? = some p ∧ caps'[j]? = some p' ∧ p.1 = i ∧ p'.1 = r
  | [], _, h => by cases h
  | _ :: _, [], h => by cases h
  | (m, a) :: l, (q, b) :: l', h => by
    simp only [pairC] at h
    split at h
    · rename_i h1
      cases h
      exact ⟨0, (m, a), (r, b), rfl, rfl, Nat.eq_of_beq_eq_true h1, rfl⟩
    · obtain ⟨j, p, p', h1, h2, h3, h4⟩ := pairC_spec h
      exact ⟨j + 1, p, p', by simpa using h1, by simpa using h2, h3, h4⟩
theorem kindC_spec {H O : Nat → HO} : ∀ {caps caps' : List (Nat × Nat)}, kindC H O caps caps' = true → ∀ (j : Nat) (p p' : Nat × Nat), caps[j]? = some p → caps'[j]? = some p' → (∃ l, H p'.1 = .cells l) ∧ ∃ l, O p.1 = .cells l
  | [], _, _, j, p, p', h1, _ => by simp at h1
  | _ :: _, [], _, j, p, p', _, h2 => by simp at h2
  | (m, a) :: l, (q, b) :: l', h, j, p, p', h1, h2 => by
    simp only [kindC] at h
    split at h
    · rename_i l1 l2 e1 e2
      cases j with
      | zero =>
        cases h1
        cases h2
        exact ⟨⟨_, e1⟩, _, e2⟩
      | succ j => exact kindC_spec h j p p' (by simpa using h1) (by simpa using h2)
    · cases h
theorem kindP_spec {H O : Nat → HO} {s : SSk} {x : SV} {m r : Nat} (hp : BackPair s x m r) (h : kindP H O s x = true) : KindAt s (H r) (O m) := by
  cases s <;> cases x <;> simp only [BackPair] at hp
  case own.own m' r' =>
    obtain ⟨e1, e2⟩ := hp
    subst e1 e2
    simp only [kindP] at h
    split at h
    · rename_i e1 e2
      exact ⟨⟨_, _, e1⟩, _, _, e2⟩
    · cases h
  case ptr.ptr m' p r' p' =>
    obtain ⟨e1, e2⟩ := hp
    subst e1 e2
    simp only [kindP] at h
    split at h
    · rename_i e1 e2
      exact ⟨⟨_, e1⟩, _, e2⟩
    · cases h
  case mp.mp m' r' =>
    obtain ⟨e1, e2⟩ := hp
    subst e1 e2
    simp only [kindP] at h
    split at h
    · rename_i e1 e2
      exact ⟨⟨_, _, _, e1⟩, _, _, _, e2⟩
    · cases h
  case fn.fn f caps f' caps' =>
    obtain ⟨j, p, p', h1, h2, h3, h4⟩ := hp
    subst h3 h4
    exact kindC_spec h j p p' h1 h2
theorem pairR_spec {s : SSk} {x : SV} {i r : Nat} (h : pairR s x i = some r) : BackPair s x i r := by
  unfold pairR at h
  split at h <;> first | (cases h; done) | (exact pairC_spec h) | skip
  all_goals
    split at h
    · rename_i h1
      cases h
      exact ⟨Nat.eq_of_beq_eq_true h1, rfl⟩
    · cases h
theorem backRef_spec (fr : Nat) : ∀ (ss : List SSk) (xs : List SV) (i : Nat), backRef fr ss xs i = fr + i ∨ ∃ (j : Nat) (s : SSk) (x : SV), ss[j]? = some s ∧ xs[j]? = some x ∧ BackPair s x i (backRef fr ss xs i)
  | [], xs, i => .inl rfl
  | s :: ss, [], i => .inl rfl
  | s :: ss, x :: xs, i => by
    simp only [backRef]
    split
    · rename_i r h
      exact .inr ⟨0, s, x, rfl, rfl, pairR_spec h⟩
    · rcases backRef_spec fr ss xs i with h | ⟨j, s', x', h1, h2, h3⟩
      · exact .inl h
      · exact .inr ⟨j + 1, s', x', by simpa using h1, by simpa using h2, h3⟩
theorem kindQ_spec (H O : Nat → HO) : ∀ (ss : List SSk) (xs : List SV), kindQ H O ss xs = true → ∀ (j : Nat) (s : SSk) (x : SV), ss[j]? = some s → xs[j]? = some x → kindP H O s x = true
  | [], xs, _, j, s, x, h1, h2 => by simp at h1
  | _ :: _, [], _, j, s, x, h1, h2 => by simp at h2
  | s :: ss, x :: xs, h, j, s', x', h1, h2 => by
    simp only [kindQ] at h
    split at h
    · rename_i h3
      cases j with
      | zero =>
        cases h1
        cases h2
        exact h3
      | succ j => exact kindQ_spec H O ss xs h j s' x' (by simpa using h1) (by simpa using h2)
    · cases h
theorem fillL_at (μ : Nat → Nat) : ∀ (ss : List SSk) (l : List DV) (j : Nat) (s : SSk), ss[j]? = some s → j < (fillL μ ss l).1.length ∧ ∃ l', getL .unk (fillL μ ss l).1 j = (fillS μ s l').1
  | [], l, j, s, h => by simp at h
  | s :: ss, l, j, s', h => by
    simp only [fillL]
    cases j with
    | zero =>
      cases h
      exact ⟨Nat.zero_lt_succ _, l, rfl⟩
    | succ j =>
      obtain ⟨h1, h2⟩ := fillL_at μ ss (fillS μ s l).2 j s' (by simpa using h)
      exact ⟨Nat.succ_lt_succ h1, h2⟩
section
variable {X X' : Nat → Prop} {ρ ρ' : Nat → RV} {H H' : Nat → HO} {w w' : World} {ok ok' : Nat → Prop}
/-- A value that two states hold as a reference: the same place. -/
theorem back_same (h1 : HRel X ρ H w) (h2 : HRel X' ρ' H' w') {s : SSk} {x : SV} {m r : Nat} {u : Value} {l : List DV} {μ : Nat → Nat} (hp : BackPair s x m r) (hk : KindAt s (H r) (renO μ (H' m)))
    (hs : SR w ok ρ H x u) (hs' : SR w' ok' ρ' H' (fillS id s l).1 u) (hq : hcQ (H r) (renO μ (H' m)) = true) : ρ' m = ρ r ∧ HC (H r) (renO μ (H' m)) := by
  cases s <;> cases x <;> simp only [BackPair] at hp
  case ptr.ptr m' p r' p' =>
    obtain ⟨e1, e2⟩ := hp
    subst e1 e2
    obtain ⟨b, e1, e2⟩ := hs
    obtain ⟨b', e1', e2'⟩ := hs'
    subst e1
    have ho := h1.objs r'
    have ho' := h2.objs m'
    simp only [id] at e2'
    obtain ⟨⟨_, hk1⟩, _, hk2⟩ := hk
    cases hr : H r' <;> rw [hr] at hk1 <;> first | (cases hk1; done) | skip
    cases hr' : H' m' <;> rw [hr'] at hk2 <;> simp only [renO] at hk2 <;> first | (cases hk2; done) | skip
    simp only [hr, hr', renO] at e2 e2' hq ho ho' ⊢
    obtain ⟨off, cap, e3⟩ := e2
    obtain ⟨off', cap', e3'⟩ := e2'
    obtain ⟨_, _, _, _, f1, _, _, _, f2⟩ := ho
    obtain ⟨_, _, _, _, f1', _, _, _, f2'⟩ := ho'
    rw [e3] at f1
    rw [e3'] at f1'
    cases f1
    cases f1'
    cases e1'
    subst f2 f2'
    refine ⟨by rw [e3, e3'], ?_⟩
    simp only [hcQ] at hq
    exact (Nat.eq_of_beq_eq_true hq).symm
  case own.own m' r' =>
    obtain ⟨e1, e2⟩ := hp
    subst e1 e2
    have ho := h1.objs r'
    have ho' := h2.objs m'
    simp only [fillS, id, SR] at hs hs'
    obtain ⟨⟨_, _, hk1⟩, _, _, hk2⟩ := hk
    cases hr : H r' <;> rw [hr] at hk1 <;> first | (cases hk1; done) | skip
    cases hr' : H' m' <;> rw [hr'] at hk2 <;> simp only [renO] at hk2 <;> first | (cases hk2; done) | skip
    simp only [hr, hr', renO] at hs hs' hq ho ho' ⊢
    rename_i t xs t' xs'
    simp only [hcQ] at hq
    have := tyq_eq hq
    subst this
    cases e : ρ r' <;> cases e' : ρ' m' <;> simp only [e, e'] at hs hs' ho ho' <;> subst hs
    · exact ⟨rfl, rfl, by rw [show xs = [] from ho, show xs' = [] from ho']⟩
    · cases hs'
    · cases hs'
    · simp only [Value.slice.injEq, Option.some.injEq, Addr.mk.injEq] at hs'
      obtain ⟨⟨q1, q2, _⟩, q3, q4⟩ := hs'
      subst q1 q2 q4
      exact ⟨rfl, rfl, q3.symm⟩
  case mp.mp m' r' =>
    obtain ⟨e1, e2⟩ := hp
    subst e1 e2
    have ho := h1.objs r'
    have ho' := h2.objs m'
    simp only [fillS, id, SR] at hs hs'
    obtain ⟨⟨_, _, _, hk1⟩, _, _, _, hk2⟩ := hk
    cases hr : H r' <;> rw [hr] at hk1 <;> first | (cases hk1; done) | skip
    cases hr' : H' m' <;> rw [hr'] at hk2 <;> simp only [renO] at hk2 <;> first | (cases hk2; done) | skip
    simp only [hr, hr', renO] at hs hs' hq ho ho' ⊢
    obtain ⟨b, off, cap, e3, e4⟩ := hs
    obtain ⟨b', off', cap', e3', e4'⟩ := hs'
    obtain ⟨_, _, _, _, _, f1, _, _, f2, f3⟩ := ho
    obtain ⟨_, _, _, _, _, f1', _, _, f2', f3'⟩ := ho'
    rw [e3] at f1
    rw [e3'] at f1'
    cases f1
    cases f1'
    subst e4 f2 f3 f2' f3'
    cases e4'
    refine ⟨by rw [e3, e3'], ?_⟩
    simp only [hcQ] at hq
    split at hq
    · rename_i q1
      exact ⟨tyq_eq q1, tyq_eq hq⟩
    · cases hq
  case fn.fn f caps f' caps' =>
    obtain ⟨j, p, p', j1, j2, j3, j4⟩ := hp
    subst j3 j4
    obtain ⟨hj1, hj1'⟩ := List.getElem?_eq_some_iff.1 j1
    obtain ⟨hj2, hj2'⟩ := List.getElem?_eq_some_iff.1 j2
    obtain ⟨vs, e1, e2, e3⟩ := hs
    simp only [fillS, renC_id] at hs'
    obtain ⟨vs', e1', e2', e3'⟩ := hs'
    subst e1
    cases e1'
    obtain ⟨b, q1, q2⟩ := e3 j hj2
    obtain ⟨b', q1', q2'⟩ := e3' j hj1
    rw [hj2'] at q1 q2
    rw [hj1'] at q1' q2'
    rw [q1] at q1'
    have ho := h1.objs p'.1
    have ho' := h2.objs p.1
    obtain ⟨⟨_, hk1⟩, _, hk2⟩ := hk
    cases hr : H p'.1 <;> rw [hr] at hk1 <;> first | (cases hk1; done) | skip
    cases hr' : H' p.1 <;> rw [hr'] at hk2 <;> simp only [renO] at hk2 <;> first | (cases hk2; done) | skip
    simp only [hr, hr', renO] at q2 q2' hq ho ho' ⊢
    obtain ⟨off, cap, e3⟩ := q2
    obtain ⟨off', cap', e3'⟩ := q2'
    obtain ⟨_, _, _, _, f1, _, _, _, f2⟩ := ho
    obtain ⟨_, _, _, _, f1', _, _, _, f2'⟩ := ho'
    rw [e3] at f1
    rw [e3'] at f1'
    cases f1
    cases f1'
    simp only [Value.pointer.injEq, Option.some.injEq, Addr.mk.injEq] at q1'
    have hbb := q1'.1
    subst hbb
    subst f2 f2'
    refine ⟨by rw [e3, e3'], ?_⟩
    simp only [hcQ] at hq
    exact (Nat.eq_of_beq_eq_true hq).symm
end
end Go.Sym

/- Calls, III: a call keeps to the contract. -/
namespace Go.Sym
def Env.of (c : Cfg) (cal : (g : Nat) → Fn (c.sig g).ins (Option (c.sig g).res.den)) (n : Nat) : Env := ⟨c, .real, cal, n, 0⟩
theorem Fr.mono {wr wr' : Nat → Prop} {w w' : World} (h : Fr wr w w') (hs : ∀ b, wr b → wr' b) : Fr wr' w w' := ⟨h.os, h.tape, h.output, h.size, fun k hk hn => h.block k hk (fun hb => hn (hs k hb))⟩
section
variable {P : Program} {C : Ctx} {A : Nat → Prop} {ρ : Nat → RV} {σ : St} {a : Act} {w : World} {α : Type} {k : Slot → Ups → Option α} {out : α} {Hr : Nat → HO} {fr : Nat}
/-- What a call leaves behind, told of the state before it. -/
theorem call_back (h : Rel C A ρ σ a w) {Hs : Nat → HO} (hHs : ∀ r, Hs r ≠ .dead → getO σ.heap r = Hs r) {rs : List Nat} (hrs : ∀ r ∈ rs, (Hs r).live = true)
    {X' : Nat → Prop} (hX' : ∀ b, X' b ↔ C.X b ∨ ∃ r o c, r ∉ rs ∧ (getO σ.heap r).live = true ∧ ρ r = .at b o c)
    {ρc ρ' : Nat → RV} {Hc : Nat → HO} {w' : World} (hown : ∀ b, ownB ρc Hc b → ∃ r o c, r ∈ rs ∧ ρ r = .at b o c)
    {rsk : Skel} (hwf : skWf rsk = true) {ds : List DV}
    (hh : HRel X' ρ' (getO (fillOs id rsk.objs (fillL id rsk.slots ds).2)) w') (hfr : Fr (ownB ρc Hc) w w')
    (hnew : ∀ b, ownB ρ' (getO (fillOs id rsk.objs (fillL id rsk.slots ds).2)) b → ownB ρc Hc b ∨ w.heap.size ≤ b)
    {μ : Nat → Nat} (hnd : ((numberFrom 0 rsk.objs.length).map μ).Nodup)
    (hsame : ∀ m, m < rsk.objs.length → A (μ m) → ρ' m = ρ (μ m) ∧ HC (getO σ.heap (μ m)) (renO μ (getO (fillOs id rsk.objs (fillL id rsk.slots ds).2) m))) {vs : Ups}
    (hvs : vs = (rs.filter fun r => !(memN ((numberFrom 0 rsk.objs.length).map μ) r)).map (fun r => (r, .dead)) ++ ((numberFrom 0 rsk.objs.length).map μ).zip (fillOs μ rsk.objs (fillL μ rsk.slots ds).2)) :
    ∃ ρ2, Aft C A ρ σ a w vs ρ2 w' ∧ Rn (· < rsk.objs.length) μ ρ' ρ2 (getO (fillOs id rsk.objs (fillL id rsk.slots ds).2)) (getO (updH σ.heap vs)) ∧
      (∀ b, okOf X' ρ' (getO (fillOs id rsk.objs (fillL id rsk.slots ds).2)) b → okOf C.X ρ2 (getO (updH σ.heap vs)) b) ∧ ∀ m, m < rsk.objs.length → refs vs (μ m) := by
  obtain ⟨hwf1, hwf2⟩ := skWf_eq hwf
  have hosl := fillOs_len id rsk.objs (fillL id rsk.slots ds).2
  have hosr : fillOs μ rsk.objs (fillL μ rsk.slots ds).2 = (fillOs id rsk.objs (fillL id rsk.slots ds).2).map (renO μ) := by
    rw [fillL_ren μ rsk.slots ds, fillOs_ren]
  have hin : ∀ m l, getO (fillOs id rsk.objs (fillL id rsk.slots ds).2) m = .cells l → ∀ x ∈ l, RefIn (· < rsk.objs.length) x := fun m l e => fillOs_in rsk.objs hwf2 _ m l e
  rw [hosr] at hvs
  generalize hos : fillOs id rsk.objs (fillL id rsk.slots ds).2 = os at *
  generalize hn : rsk.objs.length = n at *
  generalize hR : (numberFrom 0 n).map μ = R at *
  have hRl : R.length = n := by rw [← hR, List.length_map, numberFrom_len]
  have hRg : ∀ m, m < n → getL 0 R m = μ m := fun m hm => by rw [← hR]; exact refs_get μ n m hm
  have hRm : ∀ r, r ∈ R ↔ ∃ m, m < n ∧ μ m = r := fun r => by rw [← hR]; exact refs_mem μ n r
  have hinj : ∀ i j, i < n → j < n → μ i = μ j → i = j := fun i j hi hj e => getL_inj hnd (by omega) (by omega) (by rw [hRg i hi, hRg j hj, e])
  have hget : ∀ r, getO (updH σ.heap vs) r = match idxN R r with | some m => renO μ (getO os m) | none => if r ∈ rs then .dead else getO σ.heap r := by
    intro r
    rw [hvs, updH_app]
    cases hi : idxN R r with
    | some m =>
      obtain ⟨h1, h2⟩ := idxN_get R r m hi
      have := getO_zip (updH σ.heap ((rs.filter fun r => !(memN R r)).map fun r => (r, HO.dead))) hnd (os := os.map (renO μ)) (by rw [List.length_map]; omega) m h1
      rw [h2] at this
      rw [this]
      simp only
      rw [hRl] at h1
      show getL HO.dead (os.map (renO μ)) m = renO μ (getL HO.dead os m)
      rw [getL_get, getL_get, List.getD_eq_getElem?_getD, List.getD_eq_getElem?_getD, List.getElem?_map, List.getElem?_eq_getElem (by omega)]
      rfl
    | none =>
      have hnm := idxN_none hi
      rw [getO_zip_not _ hnm, getO_kill]
      simp only [List.mem_filter, Bool.not_eq_true']
      by_cases hr : r ∈ rs
      · rw [if_pos ⟨hr, memN_false.2 hnm⟩, if_pos hr]
      · rw [if_neg (fun h => hr h.1), if_neg hr]
  have hgm : ∀ m, m < n → getO (updH σ.heap vs) (μ m) = renO μ (getO os m) ∧ idxN R (μ m) = some m := fun m hm => by
    obtain ⟨m', hm'⟩ := idxN_mem ((hRm (μ m)).2 ⟨m, hm, rfl⟩)
    obtain ⟨h1, h2⟩ := idxN_get R _ m' hm'
    rw [hRl] at h1
    rw [hRg m' h1] at h2
    have := hinj m' m h1 hm h2
    subst this
    refine ⟨?_, hm'⟩
    rw [hget, hm']
  have hrefs : ∀ r, refs vs r ↔ r ∈ rs ∨ r ∈ R := by
    intro r
    rw [hvs, refs_app]
    constructor
    · rintro (⟨p, hp, e⟩ | ⟨p, hp, e⟩)
      · obtain ⟨q, hq, e'⟩ := List.mem_map.1 hp
        rw [← e, ← e']
        exact .inl (List.mem_filter.1 hq).1
      · obtain ⟨i, hi, e'⟩ := List.getElem_of_mem hp
        rw [List.getElem_zip] at e'
        rw [← e, ← e']
        exact .inr (List.getElem_mem _)
    · intro h
      by_cases hr : r ∈ R
      · right
        obtain ⟨i, hi, e⟩ := List.getElem_of_mem hr
        have hz : i < (R.zip (os.map (renO μ))).length := by
          rw [List.length_zip, List.length_map]
          omega
        exact ⟨(R.zip (os.map (renO μ)))[i], List.getElem_mem hz, by rw [List.getElem_zip]; exact e⟩
      · rcases h with h | h
        · left
          exact ⟨(r, .dead), List.mem_map.2 ⟨r, List.mem_filter.2 ⟨h, by rw [memN_false.2 hr]; rfl⟩, rfl⟩, rfl⟩
        · exact absurd h hr
  let ρ2 : Nat → RV := fun r => match idxN R r with | some m => ρ' m | none => ρ r
  have hρm : ∀ m, m < n → ρ2 (μ m) = ρ' m := fun m hm => by
    show (match idxN R (μ m) with | some m => ρ' m | none => ρ (μ m)) = ρ' m
    rw [(hgm m hm).2]
  have hρn : ∀ r, r ∉ R → ρ2 r = ρ r := fun r hr => by
    show (match idxN R r with | some m => ρ' m | none => ρ r) = ρ r
    cases hi : idxN R r with
    | none => rfl
    | some m =>
      obtain ⟨h1, h2⟩ := idxN_get R r m hi
      exact absurd (h2 ▸ getL_mem 0 R m h1) hr
  have hgn : ∀ r, r ∉ R → getO (updH σ.heap vs) r = if r ∈ rs then .dead else getO σ.heap r := fun r hr => by
    rw [hget]
    cases hi : idxN R r with
    | none => rfl
    | some m =>
      obtain ⟨h1, h2⟩ := idxN_get R r m hi
      exact absurd (h2 ▸ getL_mem 0 R m h1) hr
  have hRn : Rn (· < n) μ ρ' ρ2 (getO os) (getO (updH σ.heap vs)) := fun m hm => ⟨(hgm m hm).1, hρm m hm⟩
  have hlr : ∀ o : HO, (renO μ o).live = o.live := fun o => by cases o <;> rfl
  -- who lives behind it
  have hlive : ∀ r, (getO (updH σ.heap vs) r).live = true → (∃ m, m < n ∧ μ m = r ∧ (getO os m).live = true ∧ ρ2 r = ρ' m) ∨ (r ∉ R ∧ r ∉ rs ∧ (getO σ.heap r).live = true ∧ ρ2 r = ρ r) := by
    intro r hl
    by_cases hr : r ∈ R
    · obtain ⟨m, hm, e⟩ := (hRm r).1 hr
      subst e
      rw [(hgm m hm).1, hlr] at hl
      exact .inl ⟨m, hm, rfl, hl, hρm m hm⟩
    · rw [hgn r hr] at hl
      by_cases hr2 : r ∈ rs
      · rw [if_pos hr2] at hl
        cases hl
      · rw [if_neg hr2] at hl
        exact .inr ⟨hr, hr2, hl, hρn r hr⟩
  have hok : ∀ b, okOf X' ρ' (getO os) b → okOf C.X ρ2 (getO (updH σ.heap vs)) b := by
    intro b hb
    refine ⟨fun hx => hb.1 ((hX' b).2 (.inl hx)), fun r hl off cap e => ?_⟩
    rcases hlive r hl with ⟨m, hm, e1, e2, e3⟩ | ⟨q1, q2, q3, q4⟩
    · rw [e3] at e
      exact hb.2 m e2 off cap e
    · rw [q4] at e
      exact hb.1 ((hX' b).2 (.inr ⟨r, off, cap, q2, q3, e⟩))
  have hback : ∀ b, ownB ρ' (getO os) b → (∃ r o c, r ∈ rs ∧ ρ r = .at b o c) ∨ w.heap.size ≤ b := fun b hb => (hnew b hb).imp (hown b) id
  refine ⟨ρ2, h.aft vs ?_ ?_ ?_ ?_ ?_ ?_, hRn, hok, fun m hm => (hrefs _).2 (.inr ((hRm _).2 ⟨m, hm, rfl⟩))⟩
  · intro r hAr
    by_cases hr : r ∈ R
    · obtain ⟨m, hm, e⟩ := (hRm r).1 hr
      subst e
      obtain ⟨e1, e2⟩ := hsame m hm hAr
      rw [(hgm m hm).1]
      exact ⟨e2, fun _ => by rw [hρm m hm]; exact e1⟩
    · rw [hgn r hr]
      by_cases hr2 : r ∈ rs
      · rw [if_pos hr2]
        exact ⟨(by cases getO σ.heap r <;> trivial), fun hd => absurd rfl hd⟩
      · rw [if_neg hr2]
        exact ⟨HC.refl _, fun _ => hρn r hr⟩
  · refine hfr.mono (fun b hb => ?_)
    obtain ⟨r, o, c, h1, h2⟩ := hown b hb
    refine ⟨r, o, c, (hrefs r).2 (.inl h1), ?_, h2⟩
    have h3 := hrs r h1
    rw [hHs r (fun e => by rw [e] at h3; cases h3)]
    exact h3
  · intro r _ hl b o c e
    rcases hlive r hl with ⟨m, hm, e1, e2, e3⟩ | ⟨q1, q2, q3, q4⟩
    · rw [e3] at e
      rcases hback b ⟨m, o, c, e2, e⟩ with ⟨s, o', c', h1, h2⟩ | h1
      · refine .inl ⟨s, o', c', ?_, h2⟩
        have h3 := hrs s h1
        rw [hHs s (fun e => by rw [e] at h3; cases h3)]
        exact h3
      · exact .inr h1
    · rw [q4] at e
      exact .inl ⟨r, o, c, q3, e⟩
  · intro hp hm r hr
    by_cases hr2 : r ∈ R
    · obtain ⟨m, hm, e⟩ := (hRm r).1 hr2
      subst e
      rw [(hgm m hm).1, hρm m hm]
      exact OR_ren hRn hok (hin m) (hh.objs m)
    · rw [hgn r hr2, if_pos (((hrefs r).1 hr).resolve_right hr2)]
      trivial
  · intro r s hr hrs' hl hls b o c b' o' c' e1 e2
    have hbl : ∀ (r s : Nat) (b o c b' o' c' : Nat), r ≠ s → (∃ m, m < n ∧ μ m = r ∧ (getO os m).live = true ∧ ρ2 r = ρ' m) → ρ2 r = .at b o c → (getO (updH σ.heap vs) s).live = true → ρ2 s = .at b' o' c' → b ≠ b' := by
      rintro r s b o c b' o' c' hne ⟨m, hm, q1, q2, q3⟩ e1 hls e2
      rw [q3] at e1
      rcases hlive s hls with ⟨m', hm', k1, k2, k3⟩ | ⟨k1, k2, k3, k4⟩
      · rw [k3] at e2
        exact hh.inj m m' (fun e => hne (by rw [← q1, ← k1, e])) q2 k2 b o c b' o' c' e1 e2
      · rw [k4] at e2
        intro e
        subst e
        exact hh.noX m q2 b o c e1 ((hX' b).2 (.inr ⟨s, o', c', k2, k3, e2⟩))
    rcases hlive r hl with q | ⟨q1, q2, q3, q4⟩
    · exact hbl r s b o c b' o' c' hrs' q e1 hls e2
    · rcases hlive s hls with q' | ⟨k1, k2, k3, k4⟩
      · exact fun e => hbl s r b' o' c' b o c (Ne.symm hrs') q' e2 hl e1 e.symm
      · rw [q4] at e1
        rw [k4] at e2
        exact h.inj r s hrs' q3 k3 b o c b' o' c' e1 e2
  · intro r l hr e x hx
    by_cases hr2 : r ∈ R
    · obtain ⟨m, hm, e'⟩ := (hRm r).1 hr2
      subst e'
      rw [(hgm m hm).1] at e
      cases hm2 : getO os m <;> rw [hm2] at e <;> simp only [renO] at e <;> first | (cases e; done) | skip
      rename_i l'
      cases e
      obtain ⟨y, hy, e⟩ := List.mem_map.1 hx
      rw [← e]
      exact renV_in (fun m hm => .inr ((hrefs _).2 (.inr ((hRm _).2 ⟨m, hm, rfl⟩)))) (hin m l' hm2 y hy)
    · rw [hgn r hr2, if_pos (((hrefs r).1 hr).resolve_right hr2)] at e
      cases e
end
end Go.Sym

/- Calls, IV. -/
namespace Go.Sym
section
variable {P : Program} {C : Ctx} {A : Nat → Prop} {ρ : Nat → RV} {σ : St} {a : Act} {w : World} {α : Type} {k : Slot → Ups → Option α} {out : α} {Hr : Nat → HO} {fr : Nat}
theorem CellsR.sv {ok : Nat → Prop} {H : Nat → HO} {xs : List SV} {vals : List Value} (h : CellsR w ok ρ H xs vals) (i : Nat) : SR w ok ρ H (getL .unk xs i) (vals.getD i undef) := by
  rcases Nat.lt_or_ge i xs.length with h1 | h1
  · exact h.get i h1
  · rw [getL_ge _ _ _ h1]
    trivial
theorem SlR_res {ok : Nat → Prop} {H : Nat → HO} {res : List SV} {vs : List Value} {v : Value} (h : CellsR w ok ρ H res vs) (hv : ResOf v vs) : SlR w ok ρ H (slotOf res) v := by
  have hl := h.len
  unfold slotOf
  split
  · rename_i x
    obtain ⟨u, cs, rfl, h1, h2⟩ := h
    cases cs with
    | nil =>
      have : v = u := hv
      rw [this]
      exact h1
    | cons c cs => simp at hl
  · rename_i hne
    have hv' : v = .tuple vs.toArray := by
      unfold ResOf at hv
      split at hv
      · rename_i u
        cases res with
        | nil => cases hl
        | cons x res =>
          cases res with
          | nil => exact absurd rfl (hne x)
          | cons y res => simp at hl
      · exact hv
    exact ⟨vs.toArray, hv', by simpa using hl, fun i hi => by simpa using h.get i hi⟩
theorem slotOf_in {A : Nat → Prop} {l : List SV} (h : ∀ x ∈ l, RefIn A x) : SlotIn A (slotOf l) := by
  unfold slotOf
  split
  · exact h _ (List.mem_cons_self ..)
  · exact h
theorem zip_at (μ : Nat → Nat) {n : Nat} {os : List HO} (hl : os.length = n) {m : Nat} (hm : m < n) : (μ m, getO os m) ∈ ((numberFrom 0 n).map μ).zip os := by
  have h1 : ((numberFrom 0 n).map μ).length = n := by rw [List.length_map, numberFrom_len]
  refine List.mem_of_getElem? (i := m) ?_
  have h2 := refs_get μ n m hm
  rw [getL_get, List.getD_eq_getElem?_getD, List.getElem?_eq_getElem (by omega)] at h2
  rw [getO, getL_get, List.getD_eq_getElem?_getD, List.getElem?_eq_getElem (show m < os.length by omega), List.getElem?_eq_getElem (show m < (((numberFrom 0 n).map μ).zip os).length by rw [List.length_zip]; omega), List.getElem_zip]
  exact congrArg (fun q => some (q, os[m])) h2
theorem evCallB_sound {E : Env} (hA : E.A = .real) (hE : ∀ g, FnOk P C.T E.cfg g (E.cal g)) (h : Rel C A ρ σ a w) (hH : ∀ r, Hr r ≠ .dead → getO σ.heap r = Hr r)
    {g f : Nat} {args : List SV} {vals : List Value} (hx : CellsR w (okOf C.X ρ (getO σ.heap)) ρ (getO σ.heap) args vals) (hin : ∀ x ∈ args, RefIn A x) (e : evCallB E g (fun x y => x.bind y) f args Hr fr k = some out) :
    ∃ sl us, k sl us = some out ∧ InH Hr fr us ∧ (Fresh A fr us → Enters P f ∧ Calls P f vals.toArray w fun e w' => match e with
      | .returned v => ∃ ρ', Aft C A ρ σ a w us ρ' w' ∧ SlR w' (okOf C.X ρ' (getO (updH σ.heap us))) ρ' (getO (updH σ.heap us)) sl v ∧ SlotIn (fun r => A r ∨ refs us r) sl
      | .panicked _ => False
      | .outgrown => False) := by
  unfold evCallB at e
  dsimp only at e
  · split at e
    · cases e
    · rename_i hc1
      simp only [Bool.not_eq_true', Bool.not_eq_false, Bool.and_eq_true] at hc1
      obtain ⟨hreal, hwf⟩ := hc1
      have hreal := Nat.eq_of_beq_eq_true hreal
      rcases hco : coerce (E.cfg.sig g).ps (E.cfg.sig g).ps.slots args Hr fr with _ | ⟨xs, us, fr1⟩
      · rw [hco] at e
        cases e
      · rw [hco] at e
        dsimp only at e
        rw [forceL_eq, forceP_eq] at e
        dsimp only at e
        split at e
        · rename_i hc2
          simp only [Bool.and_eq_true] at hc2
          obtain ⟨hsk, hdd⟩ := hc2
          have hsk := eqSk_eq hsk
          have hdd := dedupN_nodup hdd
          obtain ⟨y, hy, e⟩ := Option.bind_eq_some_iff.1 e
          split at e
          · rename_i hc3
            simp only [Bool.and_eq_true] at hc3
            obtain ⟨hnd, hbq, hkq⟩ := hc3
            have hnd := dedupN_nodup hnd
            have hsub := ovr_get us Hr σ.heap hH
            obtain ⟨hfr1, hcin⟩ := coerce_in _ _ _ _ _ _ _ _ hco
            have hol := (order_spec (ovr Hr us) fr1 xs).2
            generalize hrs : order (ovr Hr us) fr1 xs = rs at *
            have hbg : ∀ p ∈ ((numberFrom 0 (E.cfg.sig g).rs.objs.length).map (backRef fr1 (E.cfg.sig g).rs.slots ((E.cfg.sig g).back.map fun i => getL .unk xs i))).zip (fillOs (backRef fr1 (E.cfg.sig g).rs.slots ((E.cfg.sig g).back.map fun i => getL .unk xs i)) (E.cfg.sig g).rs.objs (fillL (backRef fr1 (E.cfg.sig g).rs.slots ((E.cfg.sig g).back.map fun i => getL .unk xs i)) (E.cfg.sig g).rs.slots (untup (E.cfg.sig g).rs.tys y)).2), fr1 ≤ p.1 ∨ hcQ (ovr Hr us p.1) p.2 = true := by
              intro p hp
              unfold backQ at hbq
              rw [List.all_eq_true] at hbq
              have := hbq p hp
              split at this
              · rename_i h1
                exact .inl (Nat.le_of_ble_eq_true h1)
              · exact .inr this
            have hlh : ∀ r, ovr Hr us r ≠ .dead → Hr r ≠ .dead ∨ fr ≤ r := fun r hr => by
              rcases ovr_in us Hr r hr with h1 | ⟨p, hp, e⟩
              · exact .inl h1
              · subst e
                exact (hcin p hp).imp id (fun h => h.1)
            refine ⟨_, _, e, ?_, fun hf => ?_⟩
            · intro p hp
              rcases List.mem_append.1 hp with hp | hp
              · exact (hcin p hp).imp id (fun h => h.1)
              · rcases List.mem_append.1 hp with hp | hp
                · obtain ⟨q, hq, e'⟩ := List.mem_map.1 hp
                  have := hol q (List.mem_filter.1 hq).1
                  rw [← e']
                  exact hlh q (fun e => by rw [e] at this; cases this)
                · rcases hbg p hp with h1 | h1
                  · exact .inr (by omega)
                  · refine hlh p.1 (fun e => ?_)
                    rw [e] at h1
                    cases hp2 : p.2 <;> rw [hp2] at h1 <;> cases h1
            · -- the arguments
              obtain ⟨ρ1, k1, k2, k3⟩ := coerce_sound (E.cfg.sig g).ps A (E.cfg.sig g).ps.slots args vals Hr fr xs us fr1 A ρ σ hco h hH hx hin (fun r hr => .inl hr) (fun p hp => hf p (List.mem_append_left _ hp))
              have hsz : ∀ r ∈ rs, (getO (updH σ.heap us) r).live = true := fun r hr => by
                have := hol r hr
                rw [hsub r (fun e => by rw [e] at this; cases this)]
                exact this
              -- the callee's world
              have hcp : Cp rs ρ1 (fun m => ρ1 (getL 0 rs m)) (getO (updH σ.heap us)) (ovr Hr us) (getO (fillOs id (E.cfg.sig g).ps.objs (fillL id (E.cfg.sig g).ps.slots ((skL rs (ovr Hr us) xs).2 ++ (skOs rs (ovr Hr us) rs).2)).2)) := by
                refine ⟨hdd, hsub, hol, fun m => ?_, fun m hm => rfl⟩
                rw [← hsk, fillL_sk, fillOs_sk, getO_map]
              have hfl : (fillL id (E.cfg.sig g).ps.slots ((skL rs (ovr Hr us) xs).2 ++ (skOs rs (ovr Hr us) rs).2)).1 = xs.map (cpS rs (ovr Hr us)) := by rw [← hsk, fillL_sk]
              obtain ⟨m1, m2⟩ := k1.rel.h.cp (X' := fun b => C.X b ∨ ∃ r o c, r ∉ rs ∧ (getO (updH σ.heap us) r).live = true ∧ ρ1 r = .at b o c) hcp (fun b hb => .inl hb) (fun b hb => hb)
              have hcall := hE g _ y hy w _ _ vals m1 (by rw [hfl]; exact CellsR_cp k1.rel.h hcp m2 k2) (fun p hp => ⟨(k1.rel.tab p hp).1, fun ⟨m, o, c', hl, e'⟩ => by
                have hm := getL_mem 0 rs m (hcp.alive hl)
                rcases k1.rel.old (getL 0 rs m) (hsz _ hm) p.1 o c' e' with h1 | h1
                · exact (C.k0 p hp).2 h1
                · have := (k1.rel.tab p hp).2
                  omega⟩)
              rw [hreal] at hcall
              refine ⟨hcall.1, Calls.mono hcall.2 fun en w' he => ?_⟩
              cases en with
              | panicked ch => exact he
              | outgrown => exact he
              | returned v =>
                obtain ⟨ρ', vs, n1, n2, n3, n4, n5⟩ := he
                simp only at n1 n2 n3 n4 ⊢
                -- what comes back
                obtain ⟨ρ2, q1, q2, q3, q4⟩ := call_back (w' := w') k1.rel hsub hol (X' := fun b => C.X b ∨ ∃ r o c, r ∉ rs ∧ (getO (updH σ.heap us) r).live = true ∧ ρ1 r = .at b o c) (fun b => Iff.rfl)
                  (ρc := fun m => ρ1 (getL 0 rs m)) (ρ' := ρ') (Hc := getO (fillOs id (E.cfg.sig g).ps.objs (fillL id (E.cfg.sig g).ps.slots ((skL rs (ovr Hr us) xs).2 ++ (skOs rs (ovr Hr us) rs).2)).2))
                  (fun b ⟨m, o, c', hl, e'⟩ => ⟨getL 0 rs m, o, c', getL_mem 0 rs m (hcp.alive hl), e'⟩) hwf (ds := untup (E.cfg.sig g).rs.tys y) n1 n2 n3 hnd
                  (fun m hm hAm => by
                    have hz := zip_at (backRef fr1 (E.cfg.sig g).rs.slots ((E.cfg.sig g).back.map fun i => getL .unk xs i)) (fillOs_len (backRef fr1 (E.cfg.sig g).rs.slots ((E.cfg.sig g).back.map fun i => getL .unk xs i)) (E.cfg.sig g).rs.objs (fillL (backRef fr1 (E.cfg.sig g).rs.slots ((E.cfg.sig g).back.map fun i => getL .unk xs i)) (E.cfg.sig g).rs.slots (untup (E.cfg.sig g).rs.tys y)).2) hm
                    have hlt : backRef fr1 (E.cfg.sig g).rs.slots ((E.cfg.sig g).back.map fun i => getL .unk xs i) m < fr1 := by
                      rcases Nat.lt_or_ge (backRef fr1 (E.cfg.sig g).rs.slots ((E.cfg.sig g).back.map fun i => getL .unk xs i) m) fr1 with h1 | h1
                      · exact h1
                      · have hnA := hf _ (List.mem_append_right _ (List.mem_append_right _ hz)) (by simp only; omega)
                        rcases hAm with h2 | ⟨p, hp, e'⟩
                        · exact absurd h2 hnA
                        · rcases hcin p hp with h3 | h3
                          · exact absurd (e' ▸ h.mem (by rw [hH _ h3]; exact h3)) hnA
                          · omega
                    have hq := (hbg _ hz).resolve_left (by simp only; omega)
                    simp only at hq
                    rcases backRef_spec fr1 (E.cfg.sig g).rs.slots ((E.cfg.sig g).back.map fun i => getL .unk xs i) m with h1 | ⟨j, s, x, j1, j2, j3⟩
                    · omega
                    · have hkp := kindQ_spec _ _ _ _ hkq j s x j1 j2
                      generalize hμ : backRef fr1 (E.cfg.sig g).rs.slots ((E.cfg.sig g).back.map fun i => getL .unk xs i) = μ at *
                      have hro : getO (fillOs μ (E.cfg.sig g).rs.objs (fillL μ (E.cfg.sig g).rs.slots (untup (E.cfg.sig g).rs.tys y)).2) m = renO μ (getO (fillOs id (E.cfg.sig g).rs.objs (fillL id (E.cfg.sig g).rs.slots (untup (E.cfg.sig g).rs.tys y)).2) m) := by
                        rw [fillL_ren μ, fillOs_ren μ]
                        dsimp only
                        have := fillOs_len id (E.cfg.sig g).rs.objs (fillL id (E.cfg.sig g).rs.slots (untup (E.cfg.sig g).rs.tys y)).2
                        show getL HO.dead (List.map _ _) m = renO μ (getL HO.dead _ m)
                        rw [getL_get, getL_get, List.getD_eq_getElem?_getD, List.getD_eq_getElem?_getD, List.getElem?_map, List.getElem?_eq_getElem (by omega)]
                        rfl
                      rw [hro] at hq
                      have hne : ovr Hr us (μ m) ≠ .dead := fun e => by
                        rw [e] at hq
                        cases hq2 : renO μ (getO (fillOs id (E.cfg.sig g).rs.objs (fillL id (E.cfg.sig g).rs.slots (untup (E.cfg.sig g).rs.tys y)).2) m) <;> rw [hq2] at hq <;> cases hq
                      have heq := hsub _ hne
                      rw [← heq] at hq
                      have hkp := kindP_spec j3 hkp
                      rw [← heq, hro] at hkp
                      rw [List.getElem?_map] at j2
                      obtain ⟨i, i1, i2⟩ := Option.map_eq_some_iff.1 j2
                      have hsx := k2.sv i
                      rw [i2] at hsx
                      have hsy := n4.sv j
                      obtain ⟨l1, l', l2⟩ := fillL_at id _ (untup (E.cfg.sig g).rs.tys y) j s j1
                      rw [l2] at hsy
                      have hjl : j < (E.cfg.sig g).back.length := (List.getElem?_eq_some_iff.1 i1).1
                      have hval : (List.map (fun i => vals.getD i undef) (E.cfg.sig g).back ++ vs).getD j undef = vals.getD i undef := by
                        rw [List.getD_eq_getElem?_getD, List.getElem?_append_left (by rw [List.length_map]; exact hjl), List.getElem?_map, i1]
                        rfl
                      rw [hval] at hsy
                      exact back_same k1.rel.h n1 j3 hkp hsx hsy hq) rfl
                refine ⟨ρ2, k1.trans q1, ?_, ?_⟩
                · have hcr := CellsR_ren q2 q3 (fillL_in _ (skWf_eq hwf).1 _) n4
                  rw [updH_app]
                  have hdr := hcr.drop (E.cfg.sig g).back.length
                  have hl1 : (List.map (fun i => vals.getD i undef) (E.cfg.sig g).back).length = (E.cfg.sig g).back.length := List.length_map _
                  have hvd : (List.map (fun i => vals.getD i undef) (E.cfg.sig g).back ++ vs).drop (E.cfg.sig g).back.length = vs := by
                    rw [← hl1, List.drop_left]
                  rw [hvd] at hdr
                  have e' : (fillL (backRef fr1 (E.cfg.sig g).rs.slots ((E.cfg.sig g).back.map fun i => getL .unk xs i)) (E.cfg.sig g).rs.slots (untup (E.cfg.sig g).rs.tys y)).1 = List.map (renV (backRef fr1 (E.cfg.sig g).rs.slots ((E.cfg.sig g).back.map fun i => getL .unk xs i))) (fillL id (E.cfg.sig g).rs.slots (untup (E.cfg.sig g).rs.tys y)).1 := by rw [fillL_ren (backRef _ _ _)]
                  rw [← e'] at hdr
                  exact SlR_res hdr n5
                · have hin' : ∀ x ∈ List.drop (E.cfg.sig g).back.length (fillL (backRef fr1 (E.cfg.sig g).rs.slots ((E.cfg.sig g).back.map fun i => getL .unk xs i)) (E.cfg.sig g).rs.slots (untup (E.cfg.sig g).rs.tys y)).1, RefIn (fun r => A r ∨ refs (us ++ ((rs.filter fun r => !(memN ((numberFrom 0 (E.cfg.sig g).rs.objs.length).map (backRef fr1 (E.cfg.sig g).rs.slots ((E.cfg.sig g).back.map fun i => getL .unk xs i))) r)).map (fun r => (r, .dead)) ++ ((numberFrom 0 (E.cfg.sig g).rs.objs.length).map (backRef fr1 (E.cfg.sig g).rs.slots ((E.cfg.sig g).back.map fun i => getL .unk xs i))).zip (fillOs (backRef fr1 (E.cfg.sig g).rs.slots ((E.cfg.sig g).back.map fun i => getL .unk xs i)) (E.cfg.sig g).rs.objs (fillL (backRef fr1 (E.cfg.sig g).rs.slots ((E.cfg.sig g).back.map fun i => getL .unk xs i)) (E.cfg.sig g).rs.slots (untup (E.cfg.sig g).rs.tys y)).2))) r) x := by
                    intro x hx
                    have hx := List.mem_of_mem_drop hx
                    rw [fillL_ren (backRef _ _ _)] at hx
                    obtain ⟨z, hz, e'⟩ := List.mem_map.1 hx
                    rw [← e']
                    exact renV_in (fun m hm => .inr ((refs_app _ _ _).2 (.inr (q4 m hm)))) (fillL_in _ (skWf_eq hwf).1 _ z hz)
                  exact slotOf_in hin'
          · cases e
        · cases e
theorem evCallB_or {E : Env} {g f : Nat} {args : List SV} {H : Nat → HO} {rest : Option α} (e : evCallB E g (fun x y => Alg.real.alt x y rest) f args H fr k = some out) : evCallB E g (fun x y => x.bind y) f args H fr k = some out ∨ rest = some out := by
  unfold evCallB at e ⊢
  dsimp only at e ⊢
  split at e
  · cases e
  · rename_i h1
    rw [if_neg h1]
    rcases hco : coerce (E.cfg.sig g).ps (E.cfg.sig g).ps.slots args H fr with _ | ⟨xs, us, fr1⟩
    · rw [hco] at e
      cases e
    · rw [hco] at e
      dsimp only at e ⊢
      rw [forceL_eq, forceP_eq] at e ⊢
      dsimp only at e ⊢
      split at e
      · rename_i h2
        rw [if_pos h2]
        cases hx : appl (E.cfg.sig g).ins (E.cal g) ((skL (order (ovr H us) fr1 xs) (ovr H us) xs).2 ++ (skOs (order (ovr H us) fr1 xs) (ovr H us) (order (ovr H us) fr1 xs)).2) with
        | none =>
          rw [hx] at e
          exact .inr e
        | some a =>
          rw [hx] at e
          exact .inl e
      · cases e
theorem evCall0_sound {E : Env} (hA : E.A = .real) (hE : ∀ g, FnOk P C.T E.cfg g (E.cal g)) (h : Rel C A ρ σ a w) (hH : ∀ r, Hr r ≠ .dead → getO σ.heap r = Hr r)
    {g f : Nat} {args : List SV} {vals : List Value} (hx : CellsR w (okOf C.X ρ (getO σ.heap)) ρ (getO σ.heap) args vals) (hin : ∀ x ∈ args, RefIn A x) (e : evCall0 E g f args Hr fr k = some out) :
    ∃ sl us, k sl us = some out ∧ InH Hr fr us ∧ (Fresh A fr us → Enters P f ∧ Calls P f vals.toArray w fun e w' => match e with
      | .returned v => ∃ ρ', Aft C A ρ σ a w us ρ' w' ∧ SlR w' (okOf C.X ρ' (getO (updH σ.heap us))) ρ' (getO (updH σ.heap us)) sl v ∧ SlotIn (fun r => A r ∨ refs us r) sl
      | .panicked _ => False
      | .outgrown => False) := by
  unfold evCall0 at e
  rw [hA] at e
  exact evCallB_sound hA hE h hH hx hin e
theorem evCallS_sound {E : Env} (hA : E.A = .real) (hE : ∀ g, FnOk P C.T E.cfg g (E.cal g)) (h : Rel C A ρ σ a w) (hH : ∀ r, Hr r ≠ .dead → getO σ.heap r = Hr r)
    {g g2 f : Nat} {args : List SV} {vals : List Value} (hx : CellsR w (okOf C.X ρ (getO σ.heap)) ρ (getO σ.heap) args vals) (hin : ∀ x ∈ args, RefIn A x) (e : evCallS E g g2 f args Hr fr k = some out) :
    ∃ sl us, k sl us = some out ∧ InH Hr fr us ∧ (Fresh A fr us → Enters P f ∧ Calls P f vals.toArray w fun e w' => match e with
      | .returned v => ∃ ρ', Aft C A ρ σ a w us ρ' w' ∧ SlR w' (okOf C.X ρ' (getO (updH σ.heap us))) ρ' (getO (updH σ.heap us)) sl v ∧ SlotIn (fun r => A r ∨ refs us r) sl
      | .panicked _ => False
      | .outgrown => False) := by
  unfold evCallS at e
  rw [hA] at e
  rcases evCallB_or e with e | e
  · exact evCallB_sound hA hE h hH hx hin e
  · exact evCall0_sound hA hE h hH hx hin e
end
end Go.Sym

/- Calls that are lent what they read. -/
namespace Go.Sym
section
variable {P : Program} {C : Ctx} {A : Nat → Prop} {ρ : Nat → RV} {σ : St} {a : Act} {w w' : World} {α : Type} {k : Slot → Ups → Option α} {out : α} {Hr : Nat → HO} {fr : Nat}
theorem nilQ_eq {β : Type} {l : List β} (h : nilQ l = true) : l = [] := by
  cases l with
  | nil => rfl
  | cons x l => cases h
theorem allQ_eq {β : Type} {p : β → Bool} : ∀ {l : List β}, allQ p l = true → ∀ x ∈ l, p x = true
  | [], _, x, h => by cases h
  | y :: l, h, x, hx => by
    simp only [allQ] at h
    split at h
    · rename_i h1
      cases hx with
      | head => exact h1
      | tail _ hx => exact allQ_eq h x hx
    · cases h
theorem lendQ_eq {sg : Sig} (h : lendQ sg = true) : sg.ps.objs = [] ∧ sg.rs.objs = [] ∧ sg.back = [] ∧ (∀ s ∈ sg.ps.slots, isDat s = true) ∧ ∀ s ∈ sg.rs.slots, isScal s = true := by
  unfold lendQ at h
  split at h
  · cases h
  · rename_i h1
    split at h
    · cases h
    · rename_i h2
      split at h
      · cases h
      · rename_i h3
        split at h
        · cases h
        · rename_i h4
          exact ⟨nilQ_eq h1, nilQ_eq h2, nilQ_eq h3, allQ_eq h4, allQ_eq h⟩
/-- Nothing of old is written. -/
theorem Rel.still (h : Rel C A ρ σ a w) (hf : Fr (fun _ => False) w w') : Aft C A ρ σ a w [] ρ w' := by
  have hw : ∀ b, okOf C.X ρ (getO σ.heap) b → b < w.heap.size → w'.heap[b]? = w.heap[b]? ∧ okOf C.X ρ (getO σ.heap) b := fun b hb hl => ⟨hf.block b hl (fun h => h), hb⟩
  have hx : ∀ r, A r → HC (getO σ.heap r) (getO σ.heap r) ∧ (getO σ.heap r ≠ .dead → ρ r = ρ r) := fun r _ => ⟨HC.refl _, fun _ => rfl⟩
  have hrel : Rel C A ρ σ a w' := ⟨h.len, h.defers, fun i => SlR.mono hw hx (h.inS i) (h.slots i), fun r => OR.mono hw hx (fun hl b off cap e => hf.block b (h.lt hl e) (fun h => h)) (h.inO r) (h.objs r), h.inj, h.noX, fun b hb => Nat.lt_of_lt_of_le (h.xlt b hb) hf.size, h.old,
    h.fr.trans (hf.mono (fun _ h => h.elim) : Fr C.own0 w w') (fun n hn => .inl hn), h.inS, h.inO, h.out⟩
  exact ⟨hrel.widen (fun _ h => .inl h) (fun r hr => h.out r (fun h => hr (.inl h))), ⟨hf.size, hw⟩, fun x u hi hs => SR.mono hw hx hi hs⟩
theorem asE_SR {ok : Nat → Prop} {H : Nat → HO} {x : SV} {u : Value} (h : SR w ok ρ H x u) : SR w ok ρ H (asE x) u := by
  unfold asE
  split
  · rename_i r
    obtain ⟨b, o, e, h⟩ := h
    refine ⟨b, o, e, ?_⟩
    split at h
    · obtain ⟨h1, off, cap, h2, h3⟩ := h
      exact ⟨h1, off, cap, h2, by omega⟩
    · obtain ⟨h1, off, cap, h2, h3⟩ := h
      exact ⟨h1, off, cap, h2, by omega⟩
    · trivial
  · exact h
theorem asE_in {x : SV} (h : RefIn A x) : RefIn A (asE x) := by
  unfold asE
  split <;> exact h
theorem asImm_SR {ok : Nat → Prop} {H : Nat → HO} {x : SV} {u : Value} (h : SR w ok ρ H x u) : SR w ok ρ H (asImm x) u := by
  unfold asImm
  split
  · rename_i t y
    split
    · rename_i t y
      obtain ⟨b, off, c, e, fr, h1, h2, h3, h4⟩ : TR w ok (.pt t) y [u] := h
      exact ⟨b, off, c, e, fr, List.head_eq_of_cons_eq h1, h2, h3, h4⟩
    · exact h
  · exact h
theorem asImm_in {x : SV} (h : RefIn A x) : RefIn A (asImm x) := by
  unfold asImm
  split
  · split <;> trivial
  · exact h
/-- All blocks. -/
abbrev anyB : Nat → Prop := okOf (fun _ => False) (fun _ => .none) (getO [])
theorem anyB_true (b : Nat) : anyB b := ⟨fun h => h, fun r hr => (by cases r <;> cases hr)⟩
theorem peekB_VR (h : Rel C A ρ σ a w) (hH : ∀ r, Hr r ≠ .dead → getO σ.heap r = Hr r) {t : Ty} {x : SV} {y : t.den} (e : peekB Hr t x = some y) {u : Value} (hs : SR w (okOf C.X ρ (getO σ.heap)) ρ (getO σ.heap) x u) : VR w anyB t y u := by
  unfold peekB at e
  split at e
  · rename_i y' us hv
    cases e
    obtain ⟨f1, f2⟩ := toVal_sound h hH hv hs
    exact (f2 us f1 (fun p hp => hp)).mono (fun b _ _ => ⟨rfl, anyB_true b⟩)
  · cases e
theorem TR_one {ok : Nat → Prop} {t : Ty} {y : t.den} {u : Value} (hg : t.agg = false) (h : VR w ok t y u) : TR w ok t y [u] := by
  unfold VR at h
  rw [hg] at h
  exact h
theorem peekP_VR (h : Rel C A ρ σ a w) (hH : ∀ r, Hr r ≠ .dead → getO σ.heap r = Hr r) {t : Ty} {x : SV} {y : t.den} (e : peekP Hr t x = some y) {u : Value} (hs : SR w (okOf C.X ρ (getO σ.heap)) ρ (getO σ.heap) x u) :
    ∃ b off c e fr, u = .pointer (some ⟨b, off, none⟩) ∧ anyB b ∧ w.heap[b]? = some (.cells c e fr) ∧ TR w anyB t y ((c.toList.drop off).take t.sz) := by
  unfold peekP at e
  split at e
  · rename_i u' y'
    split at e
    · rename_i ht
      cases e
      have := tyq_eq ht
      subst this
      obtain ⟨b, off, c, e, fr, h1, h2, h3, h4⟩ := hs
      exact ⟨b, off, c, e, fr, h1, anyB_true b, h3, h4.mono (fun b _ _ => ⟨rfl, anyB_true b⟩)⟩
    · cases e
  · rename_i r i
    split at e
    · rename_i l hl
      split at e
      · cases e
      · rename_i hg
        split at e
        · rename_i hi
          have hi := Nat.le_of_ble_eq_true hi
          have hr : getO σ.heap r = .cells l := by rw [← hl]; exact hH r (by rw [hl]; exact fun e => by cases e)
          obtain ⟨b, h1, h2⟩ := hs
          rw [hr] at h2
          obtain ⟨off, cap, h2⟩ := h2
          obtain ⟨b', cap', cs, et, q1, q2, q3, q4⟩ := h.cellsR hr
          rw [h2] at q1
          cases q1
          have hel := peekB_VR h hH e (q4.sv i)
          have hsz : t.sz = 1 := by
            have := TR.len (TR_one hg hel)
            simpa using this.symm
          refine ⟨b, i, cs, et, (0, 0), h1, anyB_true b, q2, ?_⟩
          have hlt : i < cs.toList.length := by simp; omega
          rw [hsz, List.take_one, List.head?_drop, List.getElem?_eq_getElem hlt]
          have := TR_one hg hel
          rw [List.getD_eq_getElem?_getD, List.getElem?_eq_getElem hlt] at this
          exact this
        · cases e
    · cases e
  · cases e
theorem peek_VR (h : Rel C A ρ σ a w) (hH : ∀ r, Hr r ≠ .dead → getO σ.heap r = Hr r) {t : Ty} {x : SV} {y : t.den} (e : peek Hr t x = some y) {u : Value} (hs : SR w (okOf C.X ρ (getO σ.heap)) ρ (getO σ.heap) x u) : VR w anyB t y u := by
  unfold peek at e
  split at e
  · rename_i t y
    split at e
    · exact peekB_VR h hH e hs
    · obtain ⟨b, off, c, et, fr, h1, h2⟩ := peekP_VR h hH e hs
      exact VR.of_cells rfl ⟨b, off, c, et, fr, by rw [h1], h2⟩
  · rename_i f t y
    split at e
    · rename_i g caps
      split at e
      · rename_i p
        split at e
        · rename_i hg
          have hg := Nat.eq_of_beq_eq_true hg
          subst hg
          obtain ⟨vs, h1, h2, h3⟩ := hs
          have hp := h3 0 (by simp)
          obtain ⟨b, off, c, et, fr, k1, k2⟩ := peekP_VR h hH e hp
          refine VR.of_cells rfl ⟨b, off, c, et, fr, ?_, k2⟩
          rw [h1]
          have : vs = #[.pointer (some ⟨b, off, none⟩)] := by
            apply Array.ext
            · simpa using h2
            · intro i hi _
              have : i = 0 := by simp at h2; omega
              subst this
              rw [← k1, Array.getD_eq_getD_getElem?, Array.getElem?_eq_getElem hi]
              rfl
          rw [this]
        · cases e
      · cases e
    · exact peekB_VR h hH e hs
  · exact peekB_VR h hH e hs
theorem peeks_VR (h : Rel C A ρ σ a w) (hH : ∀ r, Hr r ≠ .dead → getO σ.heap r = Hr r) : ∀ (ss : List SSk) (xs : List SV) (ds : List DV) (vals : List Value), peeks Hr ss xs = some ds → CellsR w (okOf C.X ρ (getO σ.heap)) ρ (getO σ.heap) xs vals →
    CellsR w anyB (fun _ => .none) (getO []) (fillL id ss ds).1 vals
  | [], [], ds, vals, e, hx => by cases e; exact hx
  | [], _ :: _, ds, vals, e, hx => by cases e
  | s :: ss, xs, ds, vals, e, hx => by
    cases xs with
    | nil => cases s <;> cases e
    | cons x xs =>
      cases s with
      | v t =>
        simp only [peeks] at e
        split at e
        · rename_i y hy
          split at e
          · rename_i l hl
            cases e
            obtain ⟨u, vals, rfl, h1, h2⟩ := hx
            exact ⟨u, vals, rfl, peek_VR h hH hy h1, peeks_VR h hH ss xs l vals hl h2⟩
          · cases e
        · cases e
      | _ => cases e
theorem scal_R {w'' : World} {ok ok' : Nat → Prop} {ρ' : Nat → RV} {H H' : Nat → HO} : ∀ (ss : List SSk) (ds : List DV) (vs : List Value), (∀ s ∈ ss, isScal s = true) → CellsR w ok ρ H (fillL id ss ds).1 vs → ss.flatMap SSk.tys = ds.map DV.t →
    CellsR w'' ok' ρ' H' (fillL id ss ds).1 vs ∧ ∀ x ∈ (fillL id ss ds).1, RefIn A x
  | [], ds, vs, _, h, _ => ⟨h, fun x hx => by cases hx⟩
  | s :: ss, ds, vs, hs, h, ht => by
    cases s with
    | v t =>
      cases ds with
      | nil => cases ht
      | cons d ds =>
        obtain ⟨td, xd⟩ := d
        have ht : t :: ss.flatMap SSk.tys = td :: ds.map DV.t := ht
        injection ht with ht1 ht2
        subst ht1
        obtain ⟨u, vs, rfl, h1, h2⟩ := h
        obtain ⟨k1, k2⟩ := scal_R ss ds vs (fun s hs' => hs s (List.mem_cons_of_mem _ hs')) h2 ht2
        have hsc := hs _ (List.mem_cons_self ..)
        refine ⟨⟨u, vs, rfl, ?_, k1⟩, fun x hx => ?_⟩
        · have h1 : VR w ok t xd u := h1
          show VR w'' ok' t xd u
          cases t <;> first | cases hsc | skip
          · exact VR_int.2 (VR_int.1 h1)
          · exact VR_bool.2 (VR_bool.1 h1)
          · exact VR_str.2 (VR_str.1 h1)
        · cases hx with
          | head => trivial
          | tail _ hx => exact k2 x hx
    | _ => exact absurd (hs _ (List.mem_cons_self ..)) (by simp [isScal])
theorem untup_tys : ∀ (ts : List Ty) (x : (tupTy ts).den), (untup ts x).map DV.t = ts
  | [], _ => rfl
  | [t], x => rfl
  | t :: t2 :: ts, x => by
    have := untup_tys (t2 :: ts) x.2
    rw [untup, List.map_cons, this]
theorem evLend_sound {E : Env} (hA : E.A = .real) (hE : ∀ g, FnOk P C.T E.cfg g (E.cal g)) (h : Rel C A ρ σ a w) (hH : ∀ r, Hr r ≠ .dead → getO σ.heap r = Hr r) {g : Nat} (hq : lendQ (E.cfg.sig g) = true)
    {args : List SV} {vals : List Value} (hx : CellsR w (okOf C.X ρ (getO σ.heap)) ρ (getO σ.heap) args vals) (e : evLend E g args Hr k = some out) :
    ∃ sl us, k sl us = some out ∧ InH Hr fr us ∧ (Fresh A fr us → Enters P (E.cfg.real g) ∧ Calls P (E.cfg.real g) vals.toArray w fun e w' => match e with
      | .returned v => ∃ ρ', Aft C A ρ σ a w us ρ' w' ∧ SlR w' (okOf C.X ρ' (getO (updH σ.heap us))) ρ' (getO (updH σ.heap us)) sl v ∧ SlotIn (fun r => A r ∨ refs us r) sl
      | .panicked _ => False
      | .outgrown => False) := by
  obtain ⟨p1, p2, p3, p4, p5⟩ := lendQ_eq hq
  unfold evLend at e
  rw [hA] at e
  dsimp only at e
  split at e
  · cases e
  · rename_i ds hds
    rw [forceDs_eq] at e
    simp only [Alg.real] at e
    obtain ⟨y, hy, e⟩ := Option.bind_eq_some_iff.1 e
    refine ⟨_, [], e, InH.nil _ _, fun _ => ?_⟩
    have hfill : getO (fillOs id (E.cfg.sig g).ps.objs (fillL id (E.cfg.sig g).ps.slots ds).2) = getO [] := by rw [p1]; rfl
    have hfill2 : getO (fillOs id (E.cfg.sig g).rs.objs (fillL id (E.cfg.sig g).rs.slots (untup (E.cfg.sig g).rs.tys y)).2) = getO [] := by rw [p2]; rfl
    have hd : ∀ r, getO [] r = .dead := fun r => by cases r <;> rfl
    have hcall := hE g ds y hy w (fun _ => False) (fun _ => .none) vals (by
      rw [hfill]
      exact ⟨fun r => (by rw [hd]; trivial), fun r s _ hr => (by rw [hd] at hr; cases hr), fun r hr => (by rw [hd] at hr; cases hr), fun b hb => hb.elim⟩) (by
      rw [hfill]
      exact peeks_VR h hH _ _ _ _ hds hx) (fun p hp => ⟨(h.tab p hp).1, fun ⟨r, o, c', hl, _⟩ => by rw [hfill, hd] at hl; cases hl⟩)
    refine ⟨hcall.1, Calls.mono hcall.2 fun en w' he => ?_⟩
    cases en with
    | panicked ch => exact he
    | outgrown => exact he
    | returned v =>
      obtain ⟨ρ', vs, n1, n2, n3, n4, n5⟩ := he
      have n2 : Fr (fun _ => False) w w' := n2.mono (fun b ⟨r, o, c', hl, _⟩ => by rw [hfill, hd] at hl; cases hl)
      rw [p3] at n4
      have hts : (E.cfg.sig g).rs.slots.flatMap SSk.tys = (untup (E.cfg.sig g).rs.tys y).map DV.t := by
        have h1 : (untup (E.cfg.sig g).rs.tys y).map DV.t = (E.cfg.sig g).rs.tys := untup_tys _ _
        refine Eq.trans ?_ h1.symm
        unfold Skel.tys
        rw [p2]
        simp
      obtain ⟨k1, k2⟩ := scal_R (w := w') (w'' := w') (ok' := okOf C.X ρ (getO (updH σ.heap []))) (ρ' := ρ) (H' := getO (updH σ.heap [])) (A := fun r => A r ∨ refs [] r) _ _ vs p5 n4 hts
      exact ⟨ρ, h.still n2, SlR_res k1 n5, slotOf_in k2⟩
theorem evCall_sound {E : Env} (hA : E.A = .real) (hE : ∀ g, FnOk P C.T E.cfg g (E.cal g)) (h : Rel C A ρ σ a w) (hH : ∀ r, Hr r ≠ .dead → getO σ.heap r = Hr r)
    {f : Nat} {args : List SV} {vals : List Value} (hx : CellsR w (okOf C.X ρ (getO σ.heap)) ρ (getO σ.heap) args vals) (hin : ∀ x ∈ args, RefIn A x) (e : evCall E f args Hr fr k = some out) :
    ∃ sl us, k sl us = some out ∧ InH Hr fr us ∧ (Fresh A fr us → Enters P f ∧ Calls P f vals.toArray w fun e w' => match e with
      | .returned v => ∃ ρ', Aft C A ρ σ a w us ρ' w' ∧ SlR w' (okOf C.X ρ' (getO (updH σ.heap us))) ρ' (getO (updH σ.heap us)) sl v ∧ SlotIn (fun r => A r ∨ refs us r) sl
      | .panicked _ => False
      | .outgrown => False) := by
  unfold evCall at e
  split at e
  · cases e
  · rename_i g hg
    split at e
    · rename_i hq
      split at e
      · rename_i hr
        have hr := Nat.eq_of_beq_eq_true hr
        subst hr
        exact evLend_sound hA hE h hH hq hx e
      · cases e
    · split at e
      · exact evCallS_sound hA hE h hH hx hin e
      · exact evCall0_sound hA hE h hH hx hin e
end
end Go.Sym
