/- Plain laws: values, import, export, support of formulas. -/
import Derived.Test.YtbhnbgelkemhiaaPl
set_option linter.unusedVariables false
/- Plain laws: what a node says of a world, and which blocks it speaks of. -/
namespace Go.Sym
/-- A node's value, when the values of the nodes before it are told. -/
def nval (w : List Int) (v : List Bool) (n : GN) : Bool :=
  if n.kind = 1 then true
  else if n.kind = 2 then decide (n.2.1 < w.length) && (w.getD n.2.1.toNat 0 == n.2.2.1)
  else if n.kind = 3 then !(v.getD (n.ins.getD 0 0).toNat false)
  else if n.kind = 4 then n.ins.all (fun a => v.getD a.toNat false)
  else if n.kind = 5 then n.ins.any (fun a => v.getD a.toNat false)
  else false
def valsFrom (w : List Int) : List Bool → List GN → List Bool
  | v, [] => v
  | v, n :: L => valsFrom w (v ++ [nval w v n]) L
def vals (w : List Int) (L : List GN) : List Bool := valsFrom w [] L
theorem valsFrom_app (w : List Int) : ∀ (L M : List GN) (v : List Bool), valsFrom w v (L ++ M) = valsFrom w (valsFrom w v L) M
  | [], _, _ => rfl
  | n :: L, M, v => valsFrom_app w L M _
theorem vals_snoc (w : List Int) (L : List GN) (n : GN) : vals w (L ++ [n]) = vals w L ++ [nval w (vals w L) n] := by
  unfold vals
  rw [valsFrom_app]
  rfl
theorem valsFrom_pre (w : List Int) : ∀ (L : List GN) (v : List Bool), ∃ u, valsFrom w v L = v ++ u ∧ u.length = L.length
  | [], v => ⟨[], (List.append_nil v).symm, rfl⟩
  | n :: L, v => by
    obtain ⟨u, h, hl⟩ := valsFrom_pre w L (v ++ [nval w v n])
    exact ⟨nval w v n :: u, by rw [valsFrom, h, List.append_assoc]; rfl, by simp [hl]⟩
theorem vals_len (w : List Int) (L : List GN) : (vals w L).length = L.length := by
  obtain ⟨u, h, hl⟩ := valsFrom_pre w L []
  unfold vals
  rw [h]
  simpa using hl
theorem vals_app (w : List Int) (L M : List GN) : ∃ u, vals w (L ++ M) = vals w L ++ u := by
  unfold vals
  rw [valsFrom_app]
  obtain ⟨u, h, _⟩ := valsFrom_pre w M (valsFrom w [] L)
  exact ⟨u, h⟩
/-- The value of node a. -/
def V (w : List Int) (L : List GN) (a : Int) : Bool := (vals w L).getD a.toNat false
theorem getD_app {α : Type} (l r : List α) (i : Nat) (d : α) (h : i < l.length) : (l ++ r).getD i d = l.getD i d := by
  rw [List.getD_eq_getElem?_getD, List.getD_eq_getElem?_getD, List.getElem?_append_left h]
theorem V_app {w : List Int} {L M : List GN} {a : Int} (h : hasM L a = true) : V w (L ++ M) a = V w L a := by
  obtain ⟨h0, h1⟩ := hasM_iff.1 h
  obtain ⟨u, e⟩ := vals_app w L M
  unfold V
  rw [e, getD_app _ _ _ _ (by rw [vals_len]; omega)]
theorem V_grow {w : List Int} {L L' : List GN} {a : Int} (g : Grow L L') (h : hasM L a = true) : V w L' a = V w L a := by
  obtain ⟨⟨M, rfl⟩, _⟩ := g
  exact V_app h
theorem all_congr {α : Type} {p q : α → Bool} : ∀ {l : List α}, (∀ a ∈ l, p a = q a) → l.all p = l.all q
  | [], _ => rfl
  | x :: l, h => by rw [List.all_cons, List.all_cons, h x (List.mem_cons_self ..), all_congr (fun a ha => h a (List.mem_cons_of_mem _ ha))]
theorem nval_congr {w : List Int} {v v' : List Bool} {n : GN} (h : ∀ a ∈ n.ins, v.getD a.toNat false = v'.getD a.toNat false) (h3 : n.kind = 3 → n.ins ≠ []) : nval w v n = nval w v' n := by
  unfold nval
  repeat' split
  · rfl
  · rfl
  · rename_i _ _ hk
    have := h3 hk
    have hm : n.ins.getD 0 0 ∈ n.ins := by
      cases hi : n.ins with
      | nil => exact absurd hi this
      | cons x l => simp
    rw [h _ hm]
  · exact all_congr (fun a ha => h a ha)
  · exact any_congr (fun a ha => h a ha)
  · rfl
/-- A node's value, by those of its inputs. -/
theorem V_at {w : List Int} {L : List GN} {i : Nat} {n : GN} (h : L[i]? = some n) (hin : ∀ a ∈ n.ins, 0 ≤ a ∧ a < i) (h3 : n.kind = 3 → n.ins ≠ []) : V w L (i : Int) = nval w (vals w L) n := by
  obtain ⟨hi, e⟩ := List.getElem?_eq_some_iff.1 h
  have e1 : L = L.take (i + 1) ++ L.drop (i + 1) := (List.take_append_drop _ _).symm
  have e2 : L.take (i + 1) = L.take i ++ [n] := by rw [List.take_add_one, h]; rfl
  obtain ⟨u, e3⟩ := vals_app w (L.take (i + 1)) (L.drop (i + 1))
  rw [← e1, e2, vals_snoc] at e3
  have hl : (vals w (L.take i)).length = i := by rw [vals_len, List.length_take]; omega
  unfold V
  rw [e3, Int.toNat_natCast, List.append_assoc, List.getD_eq_getElem?_getD, List.getElem?_append_right (by omega), hl, Nat.sub_self]
  show nval w (vals w (L.take i)) n = _
  refine nval_congr (fun a ha => ?_) h3
  obtain ⟨a0, a1⟩ := hin a ha
  rw [getD_app _ _ _ _ (by omega)]
/-! ### the values of a graph's nodes -/
section
variable {w : List Int} {L : List GN}
theorem Gr.V (hL : Gr L) {a : Int} (h : hasM L a = true) : V w L a = nval w (vals w L) (nat L a) := by
  obtain ⟨h0, h1⟩ := hasM_iff.1 h
  have hn := hL.at h0 h1
  have := V_at (w := w) (nat_lt h0 h1) (fun x hx => by have := hn.ibd x hx; omega) (fun h3 => by
    obtain ⟨x, e, _⟩ := hn.not h3
    rw [e]
    exact List.cons_ne_nil _ _)
  rw [show ((a.toNat : Nat) : Int) = a by omega] at this
  exact this
theorem V0 (hL : Gr L) : V w L 0 = false := by
  rw [hL.V (has01 hL (.inl rfl)).1, nat0 hL]
  rfl
theorem V1 (hL : Gr L) : V w L 1 = true := by
  rw [hL.V (has01 hL (.inr rfl)).1, nat1 hL]
  rfl
theorem V_pick (hL : Gr L) {a β p : Int} (h : IsPick L a β p) : V w L a = (decide (β < w.length) && (w.getD β.toNat 0 == p)) := by
  rw [hL.V h.has, h.eq]
  rfl
theorem V_not (hL : Gr L) {c a : Int} (h : hasM L c = true) (e : nat L c = nd 3 0 0 [a]) : V w L c = !V w L a := by
  rw [hL.V h, e]
  rfl
/-- A conjunction is true, a disjunction false, if its inputs are. -/
theorem V_join (hL : Gr L) {c k z : Int} (hkz : k = 4 ∧ z = 1 ∨ k = 5 ∧ z = 0) (h : hasM L c = true) (hk : (nat L c).kind = k) : V w L c = (z == 1) ↔ ∀ x ∈ (nat L c).ins, V w L x = (z == 1) := by
  rw [hL.V h]
  unfold nval
  rcases hkz with ⟨rfl, rfl⟩ | ⟨rfl, rfl⟩
  · rw [if_neg (by rw [hk]; decide), if_neg (by rw [hk]; decide), if_neg (by rw [hk]; decide), if_pos hk]
    show (nat L c).ins.all _ = true ↔ _
    rw [List.all_eq_true]
    exact Iff.rfl
  · rw [if_neg (by rw [hk]; decide), if_neg (by rw [hk]; decide), if_neg (by rw [hk]; decide), if_neg (by rw [hk]; decide), if_pos hk]
    show (nat L c).ins.any _ = false ↔ _
    rw [List.any_eq_false]
    refine forall_congr' fun x => forall_congr' fun _ => ?_
    show ¬ V w L x = true ↔ V w L x = false
    simp
theorem Vz (hL : Gr L) {z : Int} (hz : z = 0 ∨ z = 1) : V w L z = (z == 1) ∧ V w L (1 - z) = !(z == 1) := by
  rcases hz with rfl | rfl
  · exact ⟨V0 hL, V1 hL⟩
  · exact ⟨V1 hL, V0 hL⟩
theorem V_gather1 (hL : Gr L) {a k z : Int} (hkz : k = 4 ∧ z = 1 ∨ k = 5 ∧ z = 0) (h : hasM L a = true) : (∀ b ∈ gather1 k z L a, V w L b = (z == 1)) ↔ V w L a = (z == 1) := by
  have hz : z = 0 ∨ z = 1 := by omega
  unfold gather1
  split
  · rename_i hk
    exact (V_join hL hkz h hk).symm
  · split
    · simp
    · rename_i h1
      have h1 : a = z := by simpa using h1
      subst h1
      simp [(Vz hL hz).1]
theorem addM_keep {mx : Int} {n : GN} (hL : Gr L) (hn : NodeOk L L.length n) (hr : Room mx L) : Grow L (addM mx L n).2 ∧ hasM (addM mx L n).2 (addM mx L n).1 = true ∧ nat (addM mx L n).2 (addM mx L n).1 = n := by
  obtain ⟨g1, g2⟩ := addM_ex hL hn (.inr hr.1)
  exact ⟨g1, g2.resolve_left (addM_room (n := n) hL hr).1⟩
/-- A conjunction's value is that of its inputs. -/
theorem V_joinM (hL : Gr L) {k z mx : Int} {inputs : List Int} (hkz : k = 4 ∧ z = 1 ∨ k = 5 ∧ z = 0) (hr : Room mx L) (hin : ∀ a ∈ inputs, hasM L a = true) :
    Grow L (joinM k z mx L inputs).2 ∧ hasM (joinM k z mx L inputs).2 (joinM k z mx L inputs).1 = true ∧ (V w (joinM k z mx L inputs).2 (joinM k z mx L inputs).1 = (z == 1) ↔ ∀ a ∈ inputs, V w L a = (z == 1)) := by
  have h45 : k = 4 ∨ k = 5 := by omega
  have hz : z = 0 ∨ z = 1 := by omega
  have hg := gatherM_of (k := k) (z := z) hin
  obtain ⟨hG, _, _⟩ := gatherM_some hL h45 hz hg
  have hV : (∀ b ∈ norm (inputs.flatMap (gather1 k z L)), V w L b = (z == 1)) ↔ ∀ a ∈ inputs, V w L a = (z == 1) := by
    constructor
    · intro h a ha
      exact (V_gather1 hL hkz (hin a ha)).1 (fun b hb => h b ((mem_norm _ _).2 (List.mem_flatMap.2 ⟨a, ha, hb⟩)))
    · intro h b hb
      obtain ⟨a, ha, hb⟩ := List.mem_flatMap.1 ((mem_norm _ _).1 hb)
      exact (V_gather1 hL hkz (hin a ha)).2 (h a ha) b hb
  rw [← hV]
  unfold joinM
  rw [hg]
  dsimp only
  generalize norm (inputs.flatMap (gather1 k z L)) = l at *
  have hno : V w L (1 - z) = (z == 1) ↔ False := by rw [(Vz hL hz).2]; cases (z == 1) <;> simp
  rcases finishM_cases (mx := mx) hG with ⟨h1, e⟩ | ⟨_, h2, e⟩ | ⟨h1, h2, h3, ⟨h4, e⟩ | ⟨a, h4, e⟩ | ⟨h4, e⟩⟩
  · rw [e]
    refine ⟨Grow.refl hL, (has01 hL hz).2, ?_⟩
    show V w L (1 - z) = _ ↔ _
    rw [hno]
    refine ⟨False.elim, fun h => ?_⟩
    exact hno.1 (h _ (List.mem_of_head? h1))
  · rw [e]
    refine ⟨Grow.refl hL, (has01 hL hz).2, ?_⟩
    show V w L (1 - z) = _ ↔ _
    rw [hno]
    refine ⟨False.elim, fun h => ?_⟩
    rcases h2 with h2 | h2
    · unfold complM at h2
      obtain ⟨a, ha, h2⟩ := List.any_eq_true.1 h2
      simp only [Bool.and_eq_true, beq_iff_eq, List.contains_iff_mem] at h2
      obtain ⟨a0, a1⟩ := hasM_iff.1 (hG.has a ha)
      obtain ⟨x, ex, _⟩ := (hL.at a0 a1).not h2.1
      have e1 := V_not (w := w) hL (hG.has a ha) ex
      have e2 := h2.2
      rw [ex] at e2
      have e2 := h x e2
      rw [h a ha, e2] at e1
      cases hzz : (z == 1) <;> rw [hzz] at e1 <;> cases e1
    · unfold conflM conflP at h2
      obtain ⟨p, hp, h2⟩ := List.any_eq_true.1 h2
      obtain ⟨q, hq, h2⟩ := List.any_eq_true.1 h2
      obtain ⟨a, ha, ea⟩ := List.mem_filterMap.1 hp
      obtain ⟨b, hb, eb⟩ := List.mem_filterMap.1 hq
      simp only [Bool.and_eq_true, beq_iff_eq, bne_iff_ne] at h2
      have key : ∀ c ∈ l, ∀ p, pick1 L (k == 5) c = some p → (decide (p.1 < w.length) && (w.getD p.1.toNat 0 == p.2)) = true := by
        intro c hc p hp
        have hcv := h c hc
        obtain ⟨c0, c1⟩ := hasM_iff.1 (hG.has c hc)
        unfold pick1 at hp
        rcases hkz with ⟨rfl, rfl⟩ | ⟨rfl, rfl⟩
        · rw [if_neg (by decide)] at hp
          split at hp
          · rename_i hk
            cases hp
            rw [hL.V (hG.has c hc)] at hcv
            unfold nval at hcv
            rw [if_neg (by rw [hk]; decide), if_pos hk] at hcv
            exact hcv
          · cases hp
        · dsimp only at hp
          rw [if_pos (by decide)] at hp
          split at hp
          · rename_i hk3
            obtain ⟨x, ex, x0, x1, _⟩ := (hL.at c0 c1).not hk3
            have hx : hasM L x = true := hasM_iff.2 (by omega)
            rw [ex] at hp
            change (if (nat L x).kind = 2 then some ((nat L x).2.1, (nat L x).2.2.1) else none) = some p at hp
            split at hp
            · rename_i hk
              cases hp
              rw [V_not hL (hG.has c hc) ex, hL.V hx] at hcv
              unfold nval at hcv
              rw [if_neg (by rw [hk]; decide), if_pos hk] at hcv
              simpa using hcv
            · cases hp
          · cases hp
      have k1 := key a ha p ea
      have k2 := key b hb q eb
      simp only [Bool.and_eq_true, beq_iff_eq, decide_eq_true_eq] at k1 k2
      rw [← h2.1] at k2
      exact h2.2 (k1.2.symm.trans k2.2)
  · rw [e]
    subst h4
    refine ⟨Grow.refl hL, (has01 hL hz).1, ?_⟩
    show V w L z = _ ↔ _
    simp [(Vz (w := w) hL hz).1]
  · rw [e]
    subst h4
    refine ⟨Grow.refl hL, hG.has a (by simp), ?_⟩
    show V w L a = _ ↔ _
    simp
  · rw [e]
    have hn := hG.node h45 hz h1 h2 h3 h4 hL
    obtain ⟨g, hh, hnat⟩ := addM_keep hL hn hr
    refine ⟨g, hh, ?_⟩
    rw [V_join g.gr hkz hh (by rw [hnat]; rfl), hnat]
    show (∀ x ∈ l, _) ↔ _
    refine forall_congr' fun x => forall_congr' fun hx => ?_
    rw [V_grow g (hG.has x hx)]
theorem V_notM (hL : Gr L) {a mx : Int} (hr : Room mx L) (h : hasM L a = true) : Grow L (notM mx L a).2 ∧ hasM (notM mx L a).2 (notM mx L a).1 = true ∧ V w (notM mx L a).2 (notM mx L a).1 = !V w L a := by
  unfold notM
  rw [if_neg (fun hn => hn h)]
  obtain ⟨a0, a1⟩ := hasM_iff.1 h
  split
  · rename_i ha
    have h01 : a = 0 ∨ a = 1 := by omega
    refine ⟨Grow.refl hL, (has01 hL h01).2, ?_⟩
    show V w L (1 - a) = _
    rw [(Vz hL h01).1, (Vz hL h01).2]
  · split
    · rename_i hk
      obtain ⟨x, ex, x0, x1, _⟩ := (hL.at a0 a1).not hk
      have hx : hasM L x = true := hasM_iff.2 (by omega)
      have e1 : (nat L a).ins.getD 0 0 = x := by rw [ex]; rfl
      rw [e1]
      refine ⟨Grow.refl hL, hx, ?_⟩
      show V w L x = _
      rw [V_not hL h ex, Bool.not_not]
    · rename_i h1 h2
      obtain ⟨g, hh, hnat⟩ := addM_keep hL (notM_node hL h h1 h2) hr
      refine ⟨g, hh, ?_⟩
      rw [V_not g.gr hh hnat, V_grow g h]
theorem V_pickM (hL : Gr L) {β p mx : Int} (hr : Room mx L) (h : 0 ≤ β ∧ β < 4096 ∧ -1 ≤ p ∧ p < 16) :
    Grow L (pickM mx L β p).2 ∧ hasM (pickM mx L β p).2 (pickM mx L β p).1 = true ∧ V w (pickM mx L β p).2 (pickM mx L β p).1 = (decide (β < w.length) && (w.getD β.toNat 0 == p)) := by
  obtain ⟨g, i, _⟩ := pickM_is hL hr h
  exact ⟨g, i.has, V_pick g.gr i⟩
end
end Go.Sym

/- Plain laws: formulas, and their import into a graph. -/
namespace Go.Sym
/-- A formula's node is in order at place i. -/
def NOk (n : GN) (i : Nat) : Prop :=
  (∀ a ∈ n.ins, 0 ≤ a ∧ a < (i : Int)) ∧
  ((n.kind = 2 ∧ n.ins.length = 0 ∧ 0 ≤ n.2.1 ∧ n.2.1 < 4096 ∧ -1 ≤ n.2.2.1 ∧ n.2.2.1 < 16) ∨
   (n.kind ≠ 2 ∧ n.2.1 = 0 ∧ n.2.2.1 = 0 ∧ (((n.kind = 0 ∨ n.kind = 1) ∧ n.ins.length = 0) ∨ (n.kind = 3 ∧ n.ins.length = 1) ∨ n.kind = 4 ∨ n.kind = 5)))
instance (n : GN) (i : Nat) : Decidable (NOk n i) := by unfold NOk; infer_instance
def okFrom : Nat → Nat → List GN → Bool
  | _, _, [] => true
  | t, i, n :: L => decide (t + n.ins.length ≤ 33554432) && (decide (NOk n i) && okFrom (t + n.ins.length) (i + 1) L)
def validM (f : List GN) : Bool := decide (f.length ≤ 65536) && okFrom 0 0 f
theorem okFrom_get : ∀ {L : List GN} {t i j : Nat} {n : GN}, okFrom t i L = true → L[j]? = some n → NOk n (i + j)
  | [], t, i, j, n, _, h => by simp at h
  | m :: L, t, i, 0, n, hk, h => by
    simp only [okFrom, Bool.and_eq_true, decide_eq_true_eq] at hk
    simp only [List.getElem?_cons_zero, Option.some.injEq] at h
    subst h
    exact hk.2.1
  | m :: L, t, i, j + 1, n, hk, h => by
    simp only [okFrom, Bool.and_eq_true, decide_eq_true_eq] at hk
    simp only [List.getElem?_cons_succ] at h
    have := okFrom_get hk.2.2 h
    rw [show i + 1 + j = i + (j + 1) by omega] at this
    exact this
theorem validM_get {f : List GN} (h : validM f = true) {j : Nat} {n : GN} (hj : f[j]? = some n) : NOk n j := by
  unfold validM at h
  simp only [Bool.and_eq_true] at h
  have := okFrom_get h.2 hj
  rwa [Nat.zero_add] at this
theorem NOk.not {n : GN} {i : Nat} (h : NOk n i) (hk : n.kind = 3) : n.ins ≠ [] := by
  obtain ⟨_, ⟨h1, _⟩ | ⟨_, _, _, ⟨h1, _⟩ | ⟨_, h1⟩ | h1 | h1⟩⟩ := h <;> first | omega | skip
  intro e
  rw [e] at h1
  simp at h1
def holdsM (f : List GN) (w : List Int) : Bool := validM f && (vals w f).getD (f.length - 1) false
/-- Block β is spoken of below a. -/
inductive Occ (L : List GN) (β : Int) : Int → Prop
  | pick (a : Int) : hasM L a = true → (nat L a).kind = 2 → (nat L a).2.1 = β → Occ L β a
  | step (a x : Int) : hasM L a = true → x ∈ (nat L a).ins → Occ L β x → Occ L β a
theorem Occ.has {L : List GN} {β a : Int} (h : Occ L β a) : hasM L a = true := by cases h <;> assumption
theorem Occ.inv {L : List GN} {β a : Int} (h : Occ L β a) : ((nat L a).kind = 2 ∧ (nat L a).2.1 = β) ∨ ∃ x ∈ (nat L a).ins, Occ L β x := by
  cases h with
  | pick _ _ h1 h2 => exact .inl ⟨h1, h2⟩
  | step _ x _ h1 h2 => exact .inr ⟨x, h1, h2⟩
theorem Gr.ins_has {L : List GN} (hL : Gr L) {a x : Int} (h : hasM L a = true) (hx : x ∈ (nat L a).ins) : hasM L x = true ∧ 2 ≤ x ∧ x < a := by
  obtain ⟨h0, h1⟩ := hasM_iff.1 h
  have := (hL.at h0 h1).ibd x hx
  exact ⟨hasM_iff.2 (by omega), by omega, by omega⟩
theorem Occ.down {L L' : List GN} (hL : Gr L) (g : Grow L L') {β a : Int} (h : Occ L' β a) : hasM L a = true → Occ L β a := by
  induction h with
  | pick a h1 h2 h3 =>
    intro ha
    rw [g.nat ha] at h2 h3
    exact .pick a ha h2 h3
  | step a x h1 h2 h3 ih =>
    intro ha
    rw [g.nat ha] at h2
    exact .step a x ha h2 (ih (hL.ins_has ha h2).1)
theorem occ01 {L : List GN} (hL : Gr L) {z β : Int} (hz : z = 0 ∨ z = 1) : ¬ Occ L β z := by
  intro h
  rcases h.inv with ⟨h, _⟩ | ⟨x, h, _⟩
  · rcases hz with rfl | rfl
    · rw [nat0 hL] at h; cases h
    · rw [nat1 hL] at h; cases h
  · rcases hz with rfl | rfl
    · rw [nat0 hL] at h; cases h
    · rw [nat1 hL] at h; cases h
section
variable {L : List GN} {w : List Int}
theorem occ_gather1 {k z a x β : Int} (h : hasM L a = true) (hx : x ∈ gather1 k z L a) (ho : Occ L β x) : Occ L β a := by
  unfold gather1 at hx
  split at hx
  · exact .step a x h hx ho
  · split at hx
    · rw [List.mem_singleton] at hx
      rw [← hx]
      exact ho
    · cases hx
theorem occ_joinM (hL : Gr L) {k z mx : Int} {inputs : List Int} (h45 : k = 4 ∨ k = 5) (hz : z = 0 ∨ z = 1) (hr : Room mx L) (hin : ∀ a ∈ inputs, hasM L a = true) {β : Int} (h : Occ (joinM k z mx L inputs).2 β (joinM k z mx L inputs).1) : ∃ a ∈ inputs, Occ L β a := by
  have hg := gatherM_of (k := k) (z := z) hin
  obtain ⟨hG, _, _⟩ := gatherM_some hL h45 hz hg
  have hO : ∀ x ∈ norm (inputs.flatMap (gather1 k z L)), Occ L β x → ∃ a ∈ inputs, Occ L β a := by
    intro x hx ho
    obtain ⟨a, ha, hb⟩ := List.mem_flatMap.1 ((mem_norm _ _).1 hx)
    exact ⟨a, ha, occ_gather1 (hin a ha) hb ho⟩
  unfold joinM at h
  rw [hg] at h
  dsimp only at h
  generalize norm (inputs.flatMap (gather1 k z L)) = l at *
  rcases finishM_cases (mx := mx) hG with ⟨h1, e⟩ | ⟨_, h2, e⟩ | ⟨h1, h2, h3, ⟨h4, e⟩ | ⟨a, h4, e⟩ | ⟨h4, e⟩⟩
  · rw [e] at h
    exact absurd h (occ01 hL (by omega))
  · rw [e] at h
    exact absurd h (occ01 hL (by omega))
  · rw [e] at h
    exact absurd h (occ01 hL hz)
  · rw [e] at h
    exact hO a (by rw [h4]; simp) h
  · rw [e] at h
    obtain ⟨g, hh, hnat⟩ := addM_keep hL (hG.node h45 hz h1 h2 h3 h4 hL) hr
    rcases h.inv with ⟨hk, _⟩ | ⟨x, hx, ho⟩
    · rw [hnat] at hk
      have hk : k = 2 := hk
      omega
    · rw [hnat] at hx
      exact hO x hx (ho.down hL g (hG.has x hx))
theorem occ_notM (hL : Gr L) {a mx : Int} (hr : Room mx L) (ha : hasM L a = true) {β : Int} (h : Occ (notM mx L a).2 β (notM mx L a).1) : Occ L β a := by
  unfold notM at h
  rw [if_neg (fun hn => hn ha)] at h
  obtain ⟨a0, a1⟩ := hasM_iff.1 ha
  split at h
  · exact absurd h (occ01 hL (by omega))
  · split at h
    · rename_i hk
      obtain ⟨x, ex, x0, x1, _⟩ := (hL.at a0 a1).not hk
      have e1 : (nat L a).ins.getD 0 0 = x := by rw [ex]; rfl
      rw [e1] at h
      exact .step a x ha (by rw [ex]; exact List.mem_singleton.2 rfl) h
    · rename_i h1 h2
      obtain ⟨g, hh, hnat⟩ := addM_keep hL (notM_node hL ha h1 h2) hr
      rcases h.inv with ⟨hk, _⟩ | ⟨x, hx, ho⟩
      · rw [hnat] at hk
        cases hk
      · rw [hnat] at hx
        have hx : x ∈ [a] := hx
        rw [List.mem_singleton] at hx
        subst hx
        exact ho.down hL g ha
theorem occ_pickM (hL : Gr L) {b p mx : Int} (hr : Room mx L) (hb : 0 ≤ b ∧ b < 4096 ∧ -1 ≤ p ∧ p < 16) {β : Int} (h : Occ (pickM mx L b p).2 β (pickM mx L b p).1) : β = b := by
  obtain ⟨g, i, _⟩ := pickM_is hL hr hb
  rcases h.inv with ⟨_, hk⟩ | ⟨x, hx, _⟩
  · rw [i.eq] at hk
    exact hk.symm
  · rw [i.eq] at hx
    cases hx
/-! ### a node of any kind -/
def makeM (mx : Int) (L : List GN) (k b a : Int) (l : List Int) : Int × List GN :=
  if k = 0 then (0, L) else if k = 1 then (1, L) else if k = 2 then pickM mx L b a else if k = 3 then notM mx L (l.getD 0 0) else if k = 4 then andM mx L l else orM mx L l
/-- A formula's node with its inputs in the graph. -/
def MOk (L : List GN) (k b a : Int) (l : List Int) : Prop :=
  (∀ x ∈ l, hasM L x = true) ∧ (k = 0 ∨ k = 1 ∨ (k = 2 ∧ 0 ≤ b ∧ b < 4096 ∧ -1 ≤ a ∧ a < 16) ∨ (k = 3 ∧ l ≠ []) ∨ k = 4 ∨ k = 5)
theorem head_mem {l : List Int} (h : l ≠ []) : l.getD 0 0 ∈ l := by
  cases l with
  | nil => exact absurd rfl h
  | cons x l => simp
theorem pickM_len {b p mx : Int} : (pickM mx L b p).2.length ≤ L.length + 1 := by
  unfold pickM
  split
  · simp
  · exact addM_len
theorem makeM_len (hL : Gr L) {k b a mx : Int} {l : List Int} : (makeM mx L k b a l).2.length ≤ L.length + 1 := by
  unfold makeM
  split
  · simp
  · split
    · simp
    · split
      · exact pickM_len
      · split
        · exact notM_len
        · split
          · exact joinM_len (.inl rfl) (.inr rfl) hL
          · exact joinM_len (.inr rfl) (.inl rfl) hL
theorem V_makeM (hL : Gr L) {k b a mx : Int} {l : List Int} (hr : Room mx L) (h : MOk L k b a l) :
    Grow L (makeM mx L k b a l).2 ∧ hasM (makeM mx L k b a l).2 (makeM mx L k b a l).1 = true ∧ V w (makeM mx L k b a l).2 (makeM mx L k b a l).1 = nval w (vals w L) (nd k b a l) := by
  obtain ⟨hin, hk⟩ := h
  unfold makeM
  rcases hk with rfl | rfl | ⟨rfl, hb⟩ | ⟨rfl, hne⟩ | rfl | rfl
  · exact ⟨Grow.refl hL, (has01 hL (.inl rfl)).1, V0 hL⟩
  · exact ⟨Grow.refl hL, (has01 hL (.inr rfl)).1, V1 hL⟩
  · exact V_pickM hL hr hb
  · exact V_notM hL hr (hin _ (head_mem hne))
  · obtain ⟨h1, h2, h3⟩ := V_joinM (w := w) hL (k := 4) (z := 1) (.inl ⟨rfl, rfl⟩) hr hin
    refine ⟨h1, h2, ?_⟩
    show V w (joinM 4 1 mx L l).2 (joinM 4 1 mx L l).1 = l.all (V w L)
    rw [Bool.eq_iff_iff, List.all_eq_true]
    exact h3
  · obtain ⟨h1, h2, h3⟩ := V_joinM (w := w) hL (k := 5) (z := 0) (.inr ⟨rfl, rfl⟩) hr hin
    refine ⟨h1, h2, ?_⟩
    show V w (joinM 5 0 mx L l).2 (joinM 5 0 mx L l).1 = l.any (V w L)
    have h4 : V w (joinM 5 0 mx L l).2 (joinM 5 0 mx L l).1 = false ↔ l.any (V w L) = false := by
      rw [List.any_eq_false]
      refine h3.trans (forall_congr' fun x => forall_congr' fun _ => ?_)
      show V w L x = false ↔ _
      simp
    cases h5 : l.any (V w L)
    · exact h4.2 h5
    · cases h6 : V w (joinM 5 0 mx L l).2 (joinM 5 0 mx L l).1
      · rw [h4.1 h6] at h5
        cases h5
      · rfl
theorem occ_makeM (hL : Gr L) {k b a mx : Int} {l : List Int} (hr : Room mx L) (h : MOk L k b a l) {β : Int} (ho : Occ (makeM mx L k b a l).2 β (makeM mx L k b a l).1) : (k = 2 ∧ β = b) ∨ ∃ x ∈ l, Occ L β x := by
  obtain ⟨hin, hk⟩ := h
  unfold makeM at ho
  rcases hk with rfl | rfl | ⟨rfl, hb⟩ | ⟨rfl, hne⟩ | rfl | rfl
  · exact absurd ho (occ01 hL (.inl rfl))
  · exact absurd ho (occ01 hL (.inr rfl))
  · exact .inl ⟨rfl, occ_pickM hL hr hb ho⟩
  · exact .inr ⟨_, head_mem hne, occ_notM hL hr (hin _ (head_mem hne)) ho⟩
  · exact .inr (occ_joinM hL (.inl rfl) (.inr rfl) hr hin ho)
  · exact .inr (occ_joinM hL (.inr rfl) (.inl rfl) hr hin ho)
end
/-! ### import -/
def impFrom (mx : Int) : List Int → Int → List GN → List GN → Int × List GN
  | _, last, L, [] => (last, L)
  | nums, last, L, n :: f =>
    let r := makeM mx L n.1 n.2.1 n.2.2.1 (n.ins.map fun a => nums.getD a.toNat 0)
    if r.1 < 0 then (-1, r.2) else impFrom mx (nums ++ [r.1]) r.1 r.2 f
def importM (mx : Int) (L f : List GN) : Int × List GN := impFrom mx [] 0 L f
theorem nval_map {w : List Int} {v v' : List Bool} {k b a : Int} {l : List Int} {φ : Int → Int} (h : ∀ x ∈ l, v.getD (φ x).toNat false = v'.getD x.toNat false) (h3 : k = 3 → l ≠ []) : nval w v (nd k b a (l.map φ)) = nval w v' (nd k b a l) := by
  unfold nval
  show (if k = 1 then true else if k = 2 then _ else if k = 3 then !(v.getD ((l.map φ).getD 0 0).toNat false) else if k = 4 then (l.map φ).all _ else if k = 5 then (l.map φ).any _ else false) = (if k = 1 then true else if k = 2 then _ else if k = 3 then !(v'.getD (l.getD 0 0).toNat false) else if k = 4 then l.all _ else if k = 5 then l.any _ else false)
  split
  · rfl
  · split
    · rfl
    · split
      · rename_i hk
        cases l with
        | nil => exact absurd rfl (h3 hk)
        | cons x l =>
          have := h x (List.mem_cons_self ..)
          simp only [List.map_cons, List.getD_cons_zero]
          rw [this]
      · split
        · rw [List.all_map]
          exact all_congr (fun x hx => h x hx)
        · split
          · rw [List.any_map]
            exact any_congr (fun x hx => h x hx)
          · rfl
/-- The first nodes of f stand in L', under the numbers nums. -/
structure Imp (f L L' : List GN) (nums : List Int) : Prop where
  grow : Grow L L'
  le : nums.length ≤ f.length
  len : L'.length ≤ L.length + nums.length
  has : ∀ (i : Nat) (x : Int), nums[i]? = some x → hasM L' x = true
  val : ∀ (w : List Int) (i : Nat) (x : Int), nums[i]? = some x → V w L' x = V w f (i : Int)
  occ : ∀ (β : Int) (i : Nat) (x : Int), nums[i]? = some x → Occ L' β x → Occ f β (i : Int)
theorem getD_nums {nums : List Int} {x : Int} (h0 : 0 ≤ x) (h1 : x < nums.length) : nums[x.toNat]? = some (nums.getD x.toNat 0) := by
  rw [List.getD_eq_getElem?_getD, List.getElem?_eq_getElem (by omega)]
  rfl
theorem NOk.make {f L L' : List GN} {nums : List Int} (hI : Imp f L L' nums) {n : GN} (hn : NOk n nums.length) : MOk L' n.1 n.2.1 n.2.2.1 (n.ins.map fun a => nums.getD a.toNat 0) := by
  obtain ⟨h1, h2⟩ := hn
  refine ⟨fun x hx => ?_, ?_⟩
  · obtain ⟨y, hy, rfl⟩ := List.mem_map.1 hx
    exact hI.has _ _ (getD_nums (h1 y hy).1 (h1 y hy).2)
  · rcases h2 with ⟨h3, h4⟩ | ⟨h3, h4, h5, ⟨h6, h7⟩ | ⟨h6, h7⟩ | h6 | h6⟩
    · exact .inr (.inr (.inl ⟨h3, h4.2⟩))
    · rcases h6 with h6 | h6
      · exact .inl h6
      · exact .inr (.inl h6)
    · refine .inr (.inr (.inr (.inl ⟨h6, fun e => ?_⟩)))
      have := congrArg List.length e
      rw [List.length_map, h7] at this
      cases this
    · exact .inr (.inr (.inr (.inr (.inl h6))))
    · exact .inr (.inr (.inr (.inr (.inr h6))))
theorem Imp.step {f L L' : List GN} {nums : List Int} {mx : Int} (hI : Imp f L L' nums) {n : GN} (hf : f[nums.length]? = some n) (hn : NOk n nums.length) (hr : Room mx L') :
    Imp f L (makeM mx L' n.1 n.2.1 n.2.2.1 (n.ins.map fun a => nums.getD a.toNat 0)).2 (nums ++ [(makeM mx L' n.1 n.2.1 n.2.2.1 (n.ins.map fun a => nums.getD a.toNat 0)).1]) ∧ 0 ≤ (makeM mx L' n.1 n.2.1 n.2.2.1 (n.ins.map fun a => nums.getD a.toNat 0)).1 := by
  have hg := hI.grow.gr
  have hM := hn.make hI
  have hlt : nums.length < f.length := (List.getElem?_eq_some_iff.1 hf).1
  have hv := fun w => V_makeM (w := w) hg hr hM
  have ho := fun β => occ_makeM hg hr hM (β := β)
  have hl := makeM_len (mx := mx) (k := n.1) (b := n.2.1) (a := n.2.2.1) (l := n.ins.map fun a => nums.getD a.toNat 0) hg
  generalize makeM mx L' n.1 n.2.1 n.2.2.1 (n.ins.map fun a => nums.getD a.toNat 0) = r at *
  obtain ⟨g1, h1, _⟩ := hv []
  refine ⟨⟨hI.grow.trans g1, by simp; omega, by have := hI.len; simp; omega, ?_, ?_, ?_⟩, (hasM_iff.1 h1).1⟩
  · intro i x hx
    rcases Nat.lt_or_ge i nums.length with hi | hi
    · rw [List.getElem?_append_left hi] at hx
      exact g1.has (hI.has i x hx)
    · rw [List.getElem?_append_right hi] at hx
      have : i - nums.length = 0 := by
        have := (List.getElem?_eq_some_iff.1 hx).1
        simpa using this
      rw [this] at hx
      simp only [List.getElem?_cons_zero, Option.some.injEq] at hx
      rw [← hx]
      exact h1
  · intro w i x hx
    rcases Nat.lt_or_ge i nums.length with hi | hi
    · rw [List.getElem?_append_left hi] at hx
      rw [V_grow g1 (hI.has i x hx)]
      exact hI.val w i x hx
    · rw [List.getElem?_append_right hi] at hx
      have h0 : i - nums.length = 0 := by
        have := (List.getElem?_eq_some_iff.1 hx).1
        simpa using this
      have hi : i = nums.length := by omega
      rw [h0] at hx
      simp only [List.getElem?_cons_zero, Option.some.injEq] at hx
      rw [← hx, (hv w).2.2, hi, V_at hf (fun a ha => hn.1 a ha) hn.not]
      exact nval_map (fun y hy => hI.val w _ _ (getD_nums (hn.1 y hy).1 (hn.1 y hy).2) |>.trans (by show (vals w f).getD _ _ = _; rw [Int.toNat_natCast])) hn.not
  · intro β i x hx hox
    rcases Nat.lt_or_ge i nums.length with hi | hi
    · rw [List.getElem?_append_left hi] at hx
      exact hI.occ β i x hx (hox.down hg g1 (hI.has i x hx))
    · rw [List.getElem?_append_right hi] at hx
      have h0 : i - nums.length = 0 := by
        have := (List.getElem?_eq_some_iff.1 hx).1
        simpa using this
      have hi : i = nums.length := by omega
      rw [h0] at hx
      simp only [List.getElem?_cons_zero, Option.some.injEq] at hx
      rw [← hx] at hox
      have hnat : nat f (i : Int) = n := nat_get (by rw [hi]; exact hf)
      have hh : hasM f (i : Int) = true := hasM_iff.2 (by omega)
      rcases ho β hox with ⟨h2, h3⟩ | ⟨y, hy, hyo⟩
      · exact .pick _ hh (by rw [hnat]; exact h2) (by rw [hnat]; exact h3.symm)
      · obtain ⟨c, hc, rfl⟩ := List.mem_map.1 hy
        have h4 := hI.occ β _ _ (getD_nums (hn.1 c hc).1 (hn.1 c hc).2) hyo
        have := hn.1 c hc
        rw [show ((c.toNat : Nat) : Int) = c by omega] at h4
        exact .step _ c hh (by rw [hnat]; exact hc) h4
/-- The whole formula. -/
theorem impFrom_ok {f L : List GN} {mx : Int} (hok : ∀ j n, f[j]? = some n → NOk n j) (hroom : L.length + f.length < 67108864 ∧ (mx > 0 → ((L.length + f.length : Nat) : Int) < mx)) :
    ∀ (t : List GN) (nums : List Int) (last : Int) (L' : List GN), Imp f L L' nums → f = f.take nums.length ++ t → (last = (nums.getLast?).getD 0) → ∃ nums', Imp f L (impFrom mx nums last L' t).2 nums' ∧ nums'.length = f.length ∧ (impFrom mx nums last L' t).1 = (nums'.getLast?).getD 0
  | [], nums, last, L', hI, hf, hl => by
    refine ⟨nums, hI, ?_, hl⟩
    have := congrArg List.length hf
    rw [List.append_nil, List.length_take] at this
    have := hI.le
    omega
  | n :: t, nums, last, L', hI, hf, hl => by
    have hlen := congrArg List.length hf
    rw [List.length_append, List.length_take, List.length_cons] at hlen
    have hle := hI.le
    have hn : f[nums.length]? = some n := by
      rw [hf, List.getElem?_append_right (by rw [List.length_take]; omega), List.length_take, Nat.min_eq_left hle, Nat.sub_self]
      rfl
    have hL' := hI.len
    obtain ⟨h1, h2⟩ := hI.step (mx := mx) hn (hok _ _ hn) ⟨by omega, fun h => by have := hroom.2 h; omega⟩
    unfold impFrom
    dsimp only
    rw [if_neg (by omega)]
    refine impFrom_ok hok hroom t _ _ _ h1 ?_ (by simp)
    have e : f.take (nums.length + 1) = f.take nums.length ++ [n] := by rw [List.take_add_one, hn]; rfl
    rw [List.length_append, List.length_singleton, e, List.append_assoc]
    exact hf
theorem importM_ok {f L : List GN} {mx : Int} (hL : Gr L) (hok : ∀ j n, f[j]? = some n → NOk n j) (hroom : L.length + f.length < 67108864 ∧ (mx > 0 → ((L.length + f.length : Nat) : Int) < mx)) :
    ∃ nums, Imp f L (importM mx L f).2 nums ∧ nums.length = f.length ∧ (importM mx L f).1 = (nums.getLast?).getD 0 :=
  impFrom_ok hok hroom f [] 0 L ⟨Grow.refl hL, Nat.zero_le _, by simp, fun i x h => by simp at h, fun w i x h => by simp at h, fun β i x h => by simp at h⟩ (by simp) rfl
end Go.Sym

/- Plain laws: a graph's nodes as a formula. -/
namespace Go.Sym
/-- x is used below a, or is it. -/
inductive Rch (L : List GN) (a : Int) : Int → Prop
  | self : Rch L a a
  | step (x y : Int) : Rch L a x → y ∈ (nat L x).ins → Rch L a y
theorem Rch.has {L : List GN} (hL : Gr L) {a x : Int} (ha : hasM L a = true) (h : Rch L a x) : hasM L x = true ∧ x ≤ a := by
  induction h with
  | self => exact ⟨ha, Int.le_refl _⟩
  | step x y _ hy ih =>
    have := hL.ins_has ih.1 hy
    exact ⟨this.1, by omega⟩
/-- The nodes below a, in order. -/
structure Rows (L : List GN) (a : Int) (xs : List Int) : Prop where
  lt : xs.Pairwise (· < ·)
  mem : ∀ x, x ∈ xs ↔ Rch L a x
theorem Rows.uniq {L : List GN} {a : Int} {xs ys : List Int} (h : Rows L a xs) (k : Rows L a ys) : xs = ys := rising_unique h.lt k.lt (fun v => (h.mem v).trans (k.mem v).symm)
/-- How many of xs stand before c: c's place. -/
def place (xs : List Int) (c : Int) : Int := ((xs.countP (· < c) : Nat) : Int)
def relab (φ : Int → Int) (n : GN) : GN := nd n.1 n.2.1 n.2.2.1 (n.ins.map φ)
def exportM (L : List GN) (xs : List Int) : List GN := xs.map fun b => relab (place xs) (nat L b)
theorem countP_sorted : ∀ {xs : List Int} {i : Nat} {x : Int}, xs.Pairwise (· < ·) → xs[i]? = some x → xs.countP (· < x) = i
  | [], _, _, _, h => by simp at h
  | y :: xs, 0, x, hs, h => by
    simp only [List.getElem?_cons_zero, Option.some.injEq] at h
    subst h
    rw [List.countP_cons, if_neg (by simp), Nat.add_zero]
    rw [List.countP_eq_zero]
    intro z hz
    have := (List.pairwise_cons.1 hs).1 z hz
    simp
    omega
  | y :: xs, i + 1, x, hs, h => by
    simp only [List.getElem?_cons_succ] at h
    have h1 := (List.pairwise_cons.1 hs).1 x (List.mem_of_getElem? h)
    rw [List.countP_cons, if_pos (by simpa using h1), countP_sorted (List.pairwise_cons.1 hs).2 h]
theorem place_at {xs : List Int} {i : Nat} {x : Int} (hs : xs.Pairwise (· < ·)) (h : xs[i]? = some x) : place xs x = i := by
  unfold place
  rw [countP_sorted hs h]
section
variable {L : List GN} {xs : List Int} {a : Int}
theorem place_lt (hs : xs.Pairwise (· < ·)) {c d : Int} (hc : c ∈ xs) (hd : d ∈ xs) (h : c < d) : place xs c < place xs d := by
  obtain ⟨i, hi⟩ := List.getElem?_of_mem hc
  obtain ⟨j, hj⟩ := List.getElem?_of_mem hd
  rw [place_at hs hi, place_at hs hj]
  rcases Nat.lt_trichotomy i j with h1 | h1 | h1
  · omega
  · subst h1
    rw [hi] at hj
    cases hj
    omega
  · obtain ⟨hi1, hi2⟩ := List.getElem?_eq_some_iff.1 hi
    obtain ⟨hj1, hj2⟩ := List.getElem?_eq_some_iff.1 hj
    have := List.pairwise_iff_getElem.1 hs j i hj1 hi1 h1
    omega
theorem place_inj (hs : xs.Pairwise (· < ·)) {c d : Int} (hc : c ∈ xs) (hd : d ∈ xs) (h : place xs c = place xs d) : c = d := by
  rcases Int.lt_trichotomy c d with h1 | h1 | h1
  · have := place_lt hs hc hd h1
    omega
  · exact h1
  · have := place_lt hs hd hc h1
    omega
theorem Rows.last (hL : Gr L) (ha : hasM L a = true) (h : Rows L a xs) : xs.getLast? = some a ∧ xs ≠ [] := by
  have h1 : a ∈ xs := (h.mem a).2 .self
  have hne : xs ≠ [] := List.ne_nil_of_mem h1
  refine ⟨?_, hne⟩
  rw [List.getLast?_eq_getElem?]
  obtain ⟨i, hi⟩ := List.getElem?_of_mem h1
  obtain ⟨hi1, hi2⟩ := List.getElem?_eq_some_iff.1 hi
  have e : xs.length - 1 = i := by
    rcases Nat.lt_or_ge i (xs.length - 1) with h2 | h2
    · have h3 := List.pairwise_iff_getElem.1 h.lt i (xs.length - 1) hi1 (by omega) h2
      have h4 := ((h.mem _).1 (List.getElem_mem (l := xs) (n := xs.length - 1) (by omega))).has hL ha
      omega
    · omega
  rw [e, hi]
theorem Rows.closed (h : Rows L a xs) {x c : Int} (hx : x ∈ xs) (hc : c ∈ (nat L x).ins) : c ∈ xs := (h.mem c).2 (.step x c ((h.mem x).1 hx) hc)
theorem exportM_get {i : Nat} {x : Int} (hx : xs[i]? = some x) : (exportM L xs)[i]? = some (relab (place xs) (nat L x)) := by
  unfold exportM
  rw [List.getElem?_map, hx]
  rfl
theorem exportM_len : (exportM L xs).length = xs.length := by unfold exportM; rw [List.length_map]
theorem export_ins (hL : Gr L) (ha : hasM L a = true) (h : Rows L a xs) {i : Nat} {x : Int} (hx : xs[i]? = some x) : ∀ c ∈ (relab (place xs) (nat L x)).ins, 0 ≤ c ∧ c < (i : Int) := by
  intro c hc
  obtain ⟨d, hd, rfl⟩ := List.mem_map.1 hc
  have hxm := List.mem_of_getElem? hx
  have hh := (((h.mem x).1 hxm).has hL ha).1
  have h1 := (hL.ins_has hh hd).2.2
  have h2 := place_lt h.lt (h.closed hxm hd) hxm h1
  rw [place_at h.lt hx] at h2
  exact ⟨by unfold place; omega, h2⟩
theorem Gr.not_ins (hL : Gr L) {x : Int} (h : hasM L x = true) (hk : (nat L x).kind = 3) : (nat L x).ins ≠ [] := by
  obtain ⟨h0, h1⟩ := hasM_iff.1 h
  obtain ⟨c, e, _⟩ := (hL.at h0 h1).not hk
  rw [e]
  exact List.cons_ne_nil _ _
/-- The exported nodes have the values of the graph's. -/
theorem V_export (hL : Gr L) (ha : hasM L a = true) (h : Rows L a xs) (w : List Int) : ∀ (i : Nat) (x : Int), xs[i]? = some x → V w (exportM L xs) (i : Int) = V w L x := by
  intro i
  induction i using Nat.strongRecOn with
  | ind i ih =>
    intro x hx
    have hxm := List.mem_of_getElem? hx
    have hh := (((h.mem x).1 hxm).has hL ha).1
    rw [V_at (exportM_get hx) (export_ins hL ha h hx) (fun hk e => hL.not_ins hh hk (by simpa [relab, nd, GN.ins] using e)), hL.V hh]
    unfold relab
    have hn : nat L x = nd (nat L x).1 (nat L x).2.1 (nat L x).2.2.1 (nat L x).ins := rfl
    conv => rhs; rw [hn]
    refine nval_map (fun c hc => ?_) (fun hk => hL.not_ins hh hk)
    obtain ⟨j, hj⟩ := List.getElem?_of_mem (h.closed hxm hc)
    have h1 := (hL.ins_has hh hc).2.2
    have h2 := place_lt h.lt (h.closed hxm hc) hxm h1
    rw [place_at h.lt hx, place_at h.lt hj] at h2
    have := ih j (by omega) c hj
    rw [place_at h.lt hj]
    exact this
theorem occ_export (h : Rows L a xs) (hL : Gr L) (ha : hasM L a = true) {β : Int} {y : Int} (ho : Occ (exportM L xs) β y) : ∀ (i : Nat) (x : Int), y = i → xs[i]? = some x → Occ L β x := by
  induction ho with
  | pick y h1 h2 h3 =>
    intro i x hy hx
    subst hy
    have hh := (((h.mem x).1 (List.mem_of_getElem? hx)).has hL ha).1
    rw [nat_get (exportM_get hx)] at h2 h3
    exact .pick x hh h2 h3
  | step y c h1 h2 h3 ih =>
    intro i x hy hx
    subst hy
    have hxm := List.mem_of_getElem? hx
    have hh := (((h.mem x).1 hxm).has hL ha).1
    rw [nat_get (exportM_get hx)] at h2
    obtain ⟨d, hd, rfl⟩ := List.mem_map.1 h2
    obtain ⟨j, hj⟩ := List.getElem?_of_mem (h.closed hxm hd)
    exact .step x d hh hd (ih j d (place_at h.lt hj) hj)
theorem export_ok (hL : Gr L) (ha : hasM L a = true) (h : Rows L a xs) {i : Nat} {n : GN} (hi : (exportM L xs)[i]? = some n) : NOk n i := by
  unfold exportM at hi
  rw [List.getElem?_map] at hi
  obtain ⟨x, hx, rfl⟩ := Option.map_eq_some_iff.1 hi
  have hh := (((h.mem x).1 (List.mem_of_getElem? hx)).has hL ha).1
  refine ⟨export_ins hL ha h hx, ?_⟩
  obtain ⟨h0, h1⟩ := hasM_iff.1 hh
  rcases hL.at h0 h1 with ⟨_, e⟩ | ⟨_, e⟩ | ⟨_, ⟨b, c, e, h2⟩ | ⟨c, e, h2⟩ | ⟨k, l, e, h2, _⟩⟩ <;> rw [e]
  · exact .inr ⟨by show (0 : Int) ≠ 2; decide, rfl, rfl, .inl ⟨.inl rfl, rfl⟩⟩
  · exact .inr ⟨by show (1 : Int) ≠ 2; decide, rfl, rfl, .inl ⟨.inr rfl, rfl⟩⟩
  · exact .inl ⟨rfl, rfl, h2⟩
  · exact .inr ⟨by show (3 : Int) ≠ 2; decide, rfl, rfl, .inr (.inl ⟨rfl, rfl⟩)⟩
  · rcases h2 with rfl | rfl
    · exact .inr ⟨by show (4 : Int) ≠ 2; decide, rfl, rfl, .inr (.inr (.inl rfl))⟩
    · exact .inr ⟨by show (5 : Int) ≠ 2; decide, rfl, rfl, .inr (.inr (.inr rfl))⟩
/-- How many inputs the nodes have. -/
def sizeM (f : List GN) : Nat := (f.map fun n => n.ins.length).sum
theorem okFrom_of : ∀ {f : List GN} {t i : Nat}, (∀ j n, f[j]? = some n → NOk n (i + j)) → t + sizeM f ≤ 33554432 → okFrom t i f = true
  | [], _, _, _, _ => rfl
  | n :: f, t, i, h, hs => by
    have hs' : t + (n.ins.length + sizeM f) ≤ 33554432 := by simpa [sizeM] using hs
    have h0 := h 0 n rfl
    simp only [okFrom, Bool.and_eq_true, decide_eq_true_eq]
    refine ⟨by omega, h0, okFrom_of (fun j m hj => ?_) (by omega)⟩
    have := h (j + 1) m (by simpa using hj)
    rw [show i + 1 + j = i + (j + 1) by omega]
    exact this
theorem export_size : sizeM (exportM L xs) = (xs.map fun b => (nat L b).ins.length).sum := by
  unfold sizeM exportM
  rw [List.map_map]
  congr 1
  refine List.map_congr_left (fun x _ => ?_)
  simp [relab, nd, GN.ins]
theorem export_valid (hL : Gr L) (ha : hasM L a = true) (h : Rows L a xs) (hlen : xs.length ≤ 65536) (hs : (xs.map fun b => (nat L b).ins.length).sum ≤ 33554432) : validM (exportM L xs) = true := by
  unfold validM
  rw [exportM_len, decide_eq_true hlen, Bool.true_and]
  refine okFrom_of (fun j n hj => ?_) (by rw [export_size]; omega)
  rw [Nat.zero_add]
  exact export_ok hL ha h hj
end
end Go.Sym

/- Plain laws: an exported formula, imported into a new graph, is exported as itself. -/
namespace Go.Sym
abbrev G0 : List GN := [nd 0 0 0 [], nd 1 0 0 []]
theorem grG0 : Gr G0 := by
  refine ⟨by decide, by decide, fun i n h => ?_, by decide⟩
  match i with
  | 0 => cases h; exact .inl ⟨rfl, rfl⟩
  | 1 => cases h; exact .inr (.inl ⟨rfl, rfl⟩)
  | i + 2 => cases h
theorem norm_map_up {l : List Int} (h : l.Pairwise (· < ·)) : norm l = l := norm_self h
section
variable {L L' : List GN} {xs : List Int} {a : Int} {φ : Int → Int}
/-- The nodes that are named in xs stand in L' under their numbers by φ. -/
structure Copy (L L' : List GN) (S : Int → Prop) (φ : Int → Int) : Prop where
  has : ∀ x, S x → hasM L' (φ x) = true
  big : ∀ x, S x → 2 ≤ φ x
  nod : ∀ x, S x → nat L' (φ x) = relab φ (nat L x)
  ins : ∀ x, S x → ∀ c ∈ (nat L x).ins, S c
  lt : ∀ x y, S x → S y → x < y → φ x < φ y
theorem Copy.inj {S : Int → Prop} (h : Copy L L' S φ) {x y : Int} (hx : S x) (hy : S y) (e : φ x = φ y) : x = y := by
  rcases Int.lt_trichotomy x y with h1 | h1 | h1
  · have := h.lt x y hx hy h1
    omega
  · exact h1
  · have := h.lt y x hy hx h1
    omega
theorem relab_kind (n : GN) : (relab φ n).kind = n.kind := rfl
theorem relab_ins (n : GN) : (relab φ n).ins = n.ins.map φ := rfl
theorem Copy.compl {S : Int → Prop} (hL : Gr L) (h : Copy L L' S φ) {l : List Int} (hl : ∀ x ∈ l, S x ∧ hasM L x = true) (hc : complM L l = false) : complM L' (l.map φ) = false := by
  refine complM_false (fun b hb hk => ?_)
  obtain ⟨x, hx, rfl⟩ := List.mem_map.1 hb
  obtain ⟨hS, hh⟩ := hl x hx
  rw [h.nod x hS, relab_kind] at hk
  obtain ⟨h0, h1⟩ := hasM_iff.1 hh
  obtain ⟨c, ec, _⟩ := (hL.at h0 h1).not hk
  have hcS : S c := h.ins x hS c (by rw [ec]; exact List.mem_singleton.2 rfl)
  rw [h.nod x hS, relab_ins, ec]
  show φ c ∉ l.map φ
  intro hm
  obtain ⟨y, hy, e⟩ := List.mem_map.1 hm
  have := h.inj (hl y hy).1 hcS e
  subst this
  have hno : complM L l = true := by
    unfold complM
    rw [List.any_eq_true]
    refine ⟨x, hx, ?_⟩
    rw [hk, ec]
    simpa [nd, GN.ins] using hy
  rw [hc] at hno
  cases hno
theorem Copy.pick1 {S : Int → Prop} (hL : Gr L) (h : Copy L L' S φ) {x : Int} (hS : S x) (hh : hasM L x = true) (neg : Bool) : pick1 L' neg (φ x) = pick1 L neg x := by
  obtain ⟨h0, h1⟩ := hasM_iff.1 hh
  unfold Go.Sym.pick1
  rw [h.nod x hS]
  dsimp only
  split
  · show (if (nat L x).kind = 3 then _ else none) = _
    split
    · rename_i hk
      obtain ⟨c, ec, _⟩ := (hL.at h0 h1).not hk
      have hcS : S c := h.ins x hS c (by rw [ec]; exact List.mem_singleton.2 rfl)
      rw [ec]
      show (if (nat L' (φ c)).kind = 2 then some ((nat L' (φ c)).2.1, (nat L' (φ c)).2.2.1) else none) = (if (nat L c).kind = 2 then some ((nat L c).2.1, (nat L c).2.2.1) else none)
      rw [h.nod c hcS]
      rfl
    · rfl
  · rfl
theorem Copy.confl {S : Int → Prop} (hL : Gr L) (h : Copy L L' S φ) {l : List Int} (hl : ∀ x ∈ l, S x ∧ hasM L x = true) (neg : Bool) : conflM L' (l.map φ) neg = conflM L l neg := by
  unfold conflM
  rw [List.filterMap_map]
  exact congrArg conflP (filterMap_congr' (fun x hx => h.pick1 hL (hl x hx).1 (hl x hx).2 neg))
theorem map_lt {l : List Int} {S : Int → Prop} (h : Copy L L' S φ) (hl : ∀ x ∈ l, S x) (hs : l.Pairwise (· < ·)) : (l.map φ).Pairwise (· < ·) := by
  rw [List.pairwise_map]
  exact hs.imp_of_mem (fun hx hy hxy => h.lt _ _ (hl _ hx) (hl _ hy) hxy)
/-- Making a copy of a node that the graph lacks appends it; of one that it has returns it. -/
theorem Copy.make {S : Int → Prop} (hL : Gr L) (h : Copy L L' S φ) {x mx : Int} (hh : hasM L x = true) (h2 : 2 ≤ x) (hins : ∀ c ∈ (nat L x).ins, S c) :
    makeM mx L' (nat L x).1 (nat L x).2.1 (nat L x).2.2.1 ((nat L x).ins.map φ) = addM mx L' (relab φ (nat L x)) := by
  obtain ⟨h0, h1⟩ := hasM_iff.1 hh
  rcases hL.at h0 h1 with ⟨e0, _⟩ | ⟨e0, _⟩ | ⟨_, ⟨b, p, e, hb⟩ | ⟨c, e, hc, hc2, hck⟩ | ⟨k, l, e, h45, hI⟩⟩
  · omega
  · omega
  · rw [e]
    show pickM mx L' b p = addM mx L' (nd 2 b p [])
    unfold pickM
    rw [if_neg (by omega)]
  · rw [e] at hins ⊢
    have hS : S c := hins c (List.mem_singleton.2 rfl)
    show notM mx L' (φ c) = addM mx L' (nd 3 0 0 [φ c])
    unfold notM
    rw [if_neg (fun hn => hn (h.has c hS)), if_neg (by have := h.big c hS; omega), if_neg (by rw [h.nod c hS]; exact hck)]
  · rw [e] at hins ⊢
    obtain ⟨i1, i2, i3, i4, i5⟩ := hI
    have hins : ∀ c ∈ l, S c := hins
    have hl : ∀ y ∈ l, S y ∧ hasM L y = true := fun y hy => ⟨hins y hy, hasM_iff.2 (by have := i3 y hy; omega)⟩
    have key : ∀ z, (k = 4 ∧ z = 1 ∨ k = 5 ∧ z = 0) → joinM k z mx L' (l.map φ) = addM mx L' (nd k 0 0 (l.map φ)) := by
      intro z hkz
      have hg : gatherM k z L' (l.map φ) = some (l.map φ) := by
        rw [gathered (fun b hb => ?_) (fun b hb => ?_), norm_self (map_lt h hins i1)]
        · obtain ⟨y, hy, rfl⟩ := List.mem_map.1 hb
          exact h.has y (hins y hy)
        · obtain ⟨y, hy, rfl⟩ := List.mem_map.1 hb
          rw [h.nod y (hins y hy)]
          exact ⟨(i3 y hy).2.2, by have := h.big y (hins y hy); omega⟩
      unfold joinM
      rw [hg]
      show finishM k z mx L' (l.map φ) = _
      have a1 : (l.map φ).head? ≠ some (1 - z) := fun e => by
        obtain ⟨y, hy, e⟩ := List.mem_map.1 (List.mem_of_head? e)
        have := h.big y (hins y hy)
        omega
      have a2 := h.compl hL hl i4
      have a3 := (h.confl hL hl (k == 5)).trans i5
      have a4 : 2 ≤ (l.map φ).length := by rw [List.length_map]; exact i2
      unfold finishM
      rw [if_neg a1, if_neg (by rw [a2, a3]; decide)]
      split
      · rename_i e; rw [e] at a4; simp at a4
      · rename_i e; rw [e] at a4; simp at a4
      · rfl
    show makeM mx L' k 0 0 (l.map φ) = addM mx L' (nd k 0 0 (l.map φ))
    unfold makeM
    rcases h45 with rfl | rfl
    · exact key 1 (.inl ⟨rfl, rfl⟩)
    · exact key 0 (.inr ⟨rfl, rfl⟩)
end
/-! ### into a new graph -/
section
variable {L : List GN} {xs : List Int} {a : Int}
def up2 (xs : List Int) (c : Int) : Int := place xs c + 2
/-- The graph behind j nodes. -/
def shG (L : List GN) (xs : List Int) (j : Nat) : List GN := G0 ++ (xs.take j).map fun b => relab (up2 xs) (nat L b)
theorem shG_len {j : Nat} (h : j ≤ xs.length) : (shG L xs j).length = j + 2 := by
  unfold shG
  rw [List.length_append, List.length_map, List.length_take]
  show 2 + _ = _
  omega
theorem shG_get {i j : Nat} (h : i < j) {x : Int} (hx : xs[i]? = some x) : (shG L xs j)[i + 2]? = some (relab (up2 xs) (nat L x)) := by
  unfold shG
  rw [List.getElem?_append_right (by show 2 ≤ _; omega)]
  show ((xs.take j).map _)[i + 2 - 2]? = _
  rw [Nat.add_sub_cancel, List.getElem?_map, List.getElem?_take_of_lt h, hx]
  rfl
theorem copy_sh (hL : Gr L) (ha : hasM L a = true) (h2 : 2 ≤ a) (h : Rows L a xs) {j : Nat} (hj : j ≤ xs.length) : Copy L (shG L xs j) (fun x => ∃ i, i < j ∧ xs[i]? = some x) (up2 xs) := by
  refine ⟨?_, ?_, ?_, ?_, ?_⟩
  · rintro x ⟨i, hi, hx⟩
    unfold up2
    rw [hasM_iff, place_at h.lt hx, shG_len hj]
    omega
  · rintro x ⟨i, hi, hx⟩
    unfold up2
    rw [place_at h.lt hx]
    omega
  · rintro x ⟨i, hi, hx⟩
    have := nat_get (shG_get (L := L) hi hx)
    unfold up2
    rw [place_at h.lt hx]
    exact this
  · rintro x ⟨i, hi, hx⟩ c hc
    have hxm := List.mem_of_getElem? hx
    have hh := (((h.mem x).1 hxm).has hL ha).1
    have hcm := h.closed hxm hc
    obtain ⟨k, hk⟩ := List.getElem?_of_mem hcm
    have := place_lt h.lt hcm hxm (hL.ins_has hh hc).2.2
    rw [place_at h.lt hk, place_at h.lt hx] at this
    exact ⟨k, by omega, hk⟩
  · rintro x y ⟨i, hi, hx⟩ ⟨k, hk, hy⟩ hxy
    have := place_lt h.lt (List.mem_of_getElem? hx) (List.mem_of_getElem? hy) hxy
    unfold up2
    omega
theorem Rows.two (hL : Gr L) (ha : hasM L a = true) (h2 : 2 ≤ a) (h : Rows L a xs) : ∀ x ∈ xs, 2 ≤ x := by
  intro x hx
  have hr := (h.mem x).1 hx
  cases hr with
  | self => exact h2
  | step y x hy hx => exact (hL.ins_has (hy.has hL ha).1 hx).2.1
theorem map_inj_on {φ : Int → Int} : ∀ {l l' : List Int}, (∀ x ∈ l, ∀ y ∈ l', φ x = φ y → x = y) → l.map φ = l'.map φ → l = l'
  | [], [], _, _ => rfl
  | [], _ :: _, _, h => by cases h
  | _ :: _, [], _, h => by cases h
  | x :: l, y :: l', hφ, h => by
    simp only [List.map_cons, List.cons.injEq] at h
    rw [hφ x (List.mem_cons_self ..) y (List.mem_cons_self ..) h.1, map_inj_on (fun x hx y hy => hφ x (List.mem_cons_of_mem _ hx) y (List.mem_cons_of_mem _ hy)) h.2]
theorem relab_inj {φ : Int → Int} {n m : GN} (hφ : ∀ x ∈ n.ins, ∀ y ∈ m.ins, φ x = φ y → x = y) (h : relab φ n = relab φ m) : n = m := by
  obtain ⟨k, b, p, l, u⟩ := n
  obtain ⟨k', b', p', l', u'⟩ := m
  unfold relab nd at h
  simp only [Prod.mk.injEq, and_true] at h
  obtain ⟨rfl, rfl, rfl, h⟩ := h
  have e : l = l' := map_inj_on hφ h
  rw [e]
theorem sh_new (hL : Gr L) (ha : hasM L a = true) (h2 : 2 ≤ a) (h : Rows L a xs) {j : Nat} {x : Int} (hx : xs[j]? = some x) : relab (up2 xs) (nat L x) ∉ shG L xs j := by
  have hxm := List.mem_of_getElem? hx
  have hh := (((h.mem x).1 hxm).has hL ha).1
  have hx2 := h.two hL ha h2 x hxm
  obtain ⟨h0, h1⟩ := hasM_iff.1 hh
  intro hm
  unfold shG at hm
  rcases List.mem_append.1 hm with hm | hm
  · have hk : (nat L x).kind = 0 ∨ (nat L x).kind = 1 := by
      have hm : relab (up2 xs) (nat L x) = nd 0 0 0 [] ∨ relab (up2 xs) (nat L x) = nd 1 0 0 [] := by simpa [G0] using hm
      rcases hm with hm | hm
      · exact .inl (by have := congrArg GN.kind hm; exact this)
      · exact .inr (by have := congrArg GN.kind hm; exact this)
    rcases hL.at h0 h1 with ⟨e0, _⟩ | ⟨e0, _⟩ | ⟨_, ⟨b, p, e, hb⟩ | ⟨c, e, hc, hc2, hck⟩ | ⟨k, l, e, h45, hI⟩⟩
    · omega
    · omega
    · rw [e] at hk
      have hk : (2 : Int) = 0 ∨ (2 : Int) = 1 := hk
      omega
    · rw [e] at hk
      have hk : (3 : Int) = 0 ∨ (3 : Int) = 1 := hk
      omega
    · rw [e] at hk
      have hk : k = 0 ∨ k = 1 := hk
      omega
  · obtain ⟨y, hy, e⟩ := List.mem_map.1 hm
    obtain ⟨i, hi⟩ := List.getElem?_of_mem hy
    have hij : i < j := by
      have := (List.getElem?_eq_some_iff.1 hi).1
      rw [List.length_take] at this
      omega
    rw [List.getElem?_take_of_lt hij] at hi
    have hym := List.mem_of_getElem? hi
    have hhy := (((h.mem y).1 hym).has hL ha).1
    have := relab_inj (fun c hc d hd hcd => place_inj h.lt (h.closed hym hc) (h.closed hxm hd) (by unfold up2 at hcd; omega)) e
    have := nat_inj hL hhy hh this
    subst this
    have p1 := place_at h.lt hi
    have p2 := place_at h.lt hx
    omega
theorem nums_get {xs : List Int} {j : Nat} {c : Int} (h0 : 0 ≤ c) (h1 : c < j) : ((List.range j).map fun (i : Nat) => ((i : Int) + 2)).getD c.toNat 0 = c + 2 := by
  rw [List.getD_eq_getElem?_getD, List.getElem?_map, List.getElem?_range (by omega)]
  show ((c.toNat : Nat) : Int) + 2 = _
  omega
/-- The import of what was exported into a new graph. -/
theorem imp_sh (hL : Gr L) (ha : hasM L a = true) (h2 : 2 ≤ a) (h : Rows L a xs) {mx : Int} (hmx : mx > 0 → ((xs.length + 2 : Nat) : Int) < mx) :
    ∀ (t : Nat) (j : Nat) (last : Int), j + t = xs.length → (j = 0 ∨ last = j + 1) → (t = 0 → 0 < j) → impFrom mx ((List.range j).map fun (i : Nat) => ((i : Int) + 2)) last (shG L xs j) ((exportM L xs).drop j) = ((xs.length : Int) + 1, shG L xs xs.length)
  | 0, j, last, hj, hl, hp => by
    have e : j = xs.length := by omega
    have hp := hp rfl
    rw [List.drop_of_length_le (by rw [exportM_len]; omega), impFrom, ← e]
    rcases hl with hl | hl
    · omega
    · rw [hl]
  | t + 1, j, last, hj, hl, hp => by
    have hjl : j < xs.length := by omega
    obtain ⟨x, hx⟩ : ∃ x, xs[j]? = some x := ⟨xs[j], List.getElem?_eq_getElem hjl⟩
    have hxm := List.mem_of_getElem? hx
    have hh := (((h.mem x).1 hxm).has hL ha).1
    have hx2 := h.two hL ha h2 x hxm
    have hg : (exportM L xs)[j]? = some (relab (place xs) (nat L x)) := exportM_get hx
    have hd : (exportM L xs).drop j = relab (place xs) (nat L x) :: (exportM L xs).drop (j + 1) := by
      rw [List.drop_eq_getElem_cons (by rw [exportM_len]; exact hjl)]
      congr 1
      have := List.getElem?_eq_getElem (l := exportM L xs) (i := j) (by rw [exportM_len]; exact hjl)
      rw [hg] at this
      exact (Option.some.inj this).symm
    have hC := copy_sh hL ha h2 h (j := j) (by omega)
    have hcS : ∀ c ∈ (nat L x).ins, ∃ i, i < j ∧ xs[i]? = some c := by
      intro c hc
      have hcm := h.closed hxm hc
      obtain ⟨k, hk⟩ := List.getElem?_of_mem hcm
      have := place_lt h.lt hcm hxm (hL.ins_has hh hc).2.2
      rw [place_at h.lt hk, place_at h.lt hx] at this
      exact ⟨k, by omega, hk⟩
    have hins : (relab (place xs) (nat L x)).ins.map (fun c => ((List.range j).map fun (i : Nat) => ((i : Int) + 2)).getD c.toNat 0) = (nat L x).ins.map (up2 xs) := by
      rw [relab_ins, List.map_map]
      refine List.map_congr_left (fun c hc => ?_)
      obtain ⟨k, hk, hkc⟩ := hcS c hc
      show ((List.range j).map fun (i : Nat) => ((i : Int) + 2)).getD (place xs c).toNat 0 = up2 xs c
      unfold up2
      rw [place_at h.lt hkc]
      exact nums_get (xs := xs) (by omega) (by omega)
    have hm : makeM mx (shG L xs j) (nat L x).1 (nat L x).2.1 (nat L x).2.2.1 ((nat L x).ins.map (up2 xs)) = ((j : Int) + 2, shG L xs (j + 1)) := by
      rw [hC.make hL hh hx2 hcS]
      unfold addM
      rw [posOf_none.2 (sh_new hL ha h2 h hx), shG_len (by omega)]
      dsimp only
      rw [if_neg (fun hb => by have := hmx hb.1; have := hb.2; omega)]
      have : shG L xs (j + 1) = shG L xs j ++ [relab (up2 xs) (nat L x)] := by
        unfold shG
        rw [List.take_add_one, hx, List.map_append, List.append_assoc]
        rfl
      rw [this]
      congr 1
    rw [hd]
    unfold impFrom
    dsimp only
    rw [hins]
    show (if (makeM mx (shG L xs j) (nat L x).1 (nat L x).2.1 (nat L x).2.2.1 ((nat L x).ins.map (up2 xs))).1 < 0 then _ else impFrom mx (_ ++ [(makeM mx (shG L xs j) (nat L x).1 (nat L x).2.1 (nat L x).2.2.1 ((nat L x).ins.map (up2 xs))).1]) (makeM mx (shG L xs j) (nat L x).1 (nat L x).2.1 (nat L x).2.2.1 ((nat L x).ins.map (up2 xs))).1 (makeM mx (shG L xs j) (nat L x).1 (nat L x).2.1 (nat L x).2.2.1 ((nat L x).ins.map (up2 xs))).2 _) = _
    rw [hm]
    dsimp only
    rw [if_neg (by omega)]
    have hr : (List.range j).map (fun (i : Nat) => ((i : Int) + 2)) ++ [(j : Int) + 2] = (List.range (j + 1)).map fun (i : Nat) => ((i : Int) + 2) := by
      rw [List.range_succ, List.map_append]
      rfl
    rw [hr]
    exact imp_sh hL ha h2 h hmx t (j + 1) _ (by omega) (.inr (by omega)) (by omega)
theorem up_pair : ∀ (n : Nat), ((List.range n).map fun (i : Nat) => ((i : Int) + 2)).Pairwise (· < ·) := by
  intro n
  rw [List.pairwise_map]
  exact List.pairwise_lt_range.imp (fun h => by omega)
theorem rows_sh (hL : Gr L) (ha : hasM L a = true) (h2 : 2 ≤ a) (h : Rows L a xs) (hg : Gr (shG L xs xs.length)) : Rows (shG L xs xs.length) ((xs.length : Int) + 1) ((List.range xs.length).map fun (i : Nat) => ((i : Int) + 2)) := by
  have hC := copy_sh hL ha h2 h (j := xs.length) (Nat.le_refl _)
  obtain ⟨hlast, hne⟩ := h.last hL ha
  have hpos : 0 < xs.length := List.length_pos_iff.2 hne
  have hax : xs[xs.length - 1]? = some a := by rw [← List.getLast?_eq_getElem?]; exact hlast
  have hroot : up2 xs a = (xs.length : Int) + 1 := by
    unfold up2
    rw [place_at h.lt hax]
    omega
  have hhas : hasM (shG L xs xs.length) ((xs.length : Int) + 1) = true := by rw [hasM_iff, shG_len (Nat.le_refl _)]; omega
  refine ⟨up_pair _, fun y => ?_⟩
  constructor
  · intro hy
    obtain ⟨i, hi, rfl⟩ := List.mem_map.1 hy
    have hi := List.mem_range.1 hi
    obtain ⟨x, hx⟩ : ∃ x, xs[i]? = some x := ⟨xs[i], List.getElem?_eq_getElem hi⟩
    have key : ∀ x, Rch L a x → Rch (shG L xs xs.length) ((xs.length : Int) + 1) (up2 xs x) := by
      intro x hr
      induction hr with
      | self => rw [hroot]; exact .self
      | step x y hx hy ih =>
        have hxm := (h.mem x).2 hx
        obtain ⟨k, hk⟩ := List.getElem?_of_mem hxm
        have hkl := (List.getElem?_eq_some_iff.1 hk).1
        refine .step _ _ ih ?_
        rw [hC.nod x ⟨k, hkl, hk⟩]
        exact List.mem_map.2 ⟨y, hy, rfl⟩
    have := key x ((h.mem x).1 (List.mem_of_getElem? hx))
    unfold up2 at this
    rw [place_at h.lt hx] at this
    exact this
  · intro hr
    have h1 := hr.has hg hhas
    have h3 : 2 ≤ y := by
      cases hr with
      | self => omega
      | step x y hx hy => exact (hg.ins_has (hx.has hg hhas).1 hy).2.1
    obtain ⟨g0, g1⟩ := hasM_iff.1 h1.1
    rw [shG_len (Nat.le_refl _)] at g1
    refine List.mem_map.2 ⟨(y - 2).toNat, List.mem_range.2 (by omega), by omega⟩
theorem export_sh (hL : Gr L) (ha : hasM L a = true) (h : Rows L a xs) : exportM (shG L xs xs.length) ((List.range xs.length).map fun (i : Nat) => ((i : Int) + 2)) = exportM L xs := by
  unfold exportM
  refine List.ext_getElem? (fun i => ?_)
  rw [List.getElem?_map, List.getElem?_map, List.getElem?_map]
  rcases Nat.lt_or_ge i xs.length with hi | hi
  · obtain ⟨x, hx⟩ : ∃ x, xs[i]? = some x := ⟨xs[i], List.getElem?_eq_getElem hi⟩
    rw [List.getElem?_range hi, hx]
    show some (relab _ (nat (shG L xs xs.length) ((i : Int) + 2))) = some _
    have := nat_get (shG_get (L := L) hi hx)
    have e2 : ((i + 2 : Nat) : Int) = (i : Int) + 2 := by omega
    rw [e2] at this
    rw [this]
    congr 1
    have hxm := List.mem_of_getElem? hx
    unfold relab
    show nd (nat L x).1 (nat L x).2.1 (nat L x).2.2.1 (((nat L x).ins.map (up2 xs)).map _) = nd (nat L x).1 (nat L x).2.1 (nat L x).2.2.1 ((nat L x).ins.map (place xs))
    rw [List.map_map]
    congr 1
    refine List.map_congr_left (fun c hc => ?_)
    obtain ⟨k, hk⟩ := List.getElem?_of_mem (h.closed hxm hc)
    have hkl := (List.getElem?_eq_some_iff.1 hk).1
    show place _ (up2 xs c) = place xs c
    unfold up2
    rw [place_at h.lt hk]
    exact place_at (up_pair _) (by rw [List.getElem?_map, List.getElem?_range hkl]; rfl)
  · rw [List.getElem?_eq_none (by simpa using hi), List.getElem?_eq_none hi]
    rfl
theorem rows01 (hL : Gr L) (h01 : a = 0 ∨ a = 1) : Rows L a [a] := by
  refine ⟨List.pairwise_singleton _ _, fun x => ?_⟩
  rw [List.mem_singleton]
  constructor
  · rintro rfl
    exact .self
  · intro h
    induction h with
    | self => rfl
    | step x y _ hy ih =>
      subst ih
      rcases h01 with rfl | rfl
      · rw [nat0 hL] at hy; cases hy
      · rw [nat1 hL] at hy; cases hy
/-- What was exported is imported and exported as itself. -/
theorem export_twice (hL : Gr L) (ha : hasM L a = true) (h : Rows L a xs) {mx : Int} (hmx : mx > 0 → ((xs.length + 2 : Nat) : Int) < mx) (hlen : xs.length < 67108860) :
    ∃ ys, Rows (importM mx G0 (exportM L xs)).2 (importM mx G0 (exportM L xs)).1 ys ∧ exportM (importM mx G0 (exportM L xs)).2 ys = exportM L xs ∧ ys.length = xs.length := by
  by_cases h2 : 2 ≤ a
  · obtain ⟨_, hne⟩ := h.last hL ha
    have hpos : 0 < xs.length := List.length_pos_iff.2 hne
    have he : importM mx G0 (exportM L xs) = ((xs.length : Int) + 1, shG L xs xs.length) := by
      have := imp_sh hL ha h2 h hmx xs.length 0 0 (by omega) (.inl rfl) (by omega)
      have e : shG L xs 0 = G0 := by unfold shG; simp
      rw [e, List.drop_zero] at this
      exact this
    have hg : Gr (shG L xs xs.length) := by
      obtain ⟨nums, hI, _⟩ := importM_ok (f := exportM L xs) (mx := mx) grG0 (fun j n hj => export_ok hL ha h hj) (by
        rw [exportM_len]
        exact ⟨by show 2 + _ < _; omega, fun hm => by have := hmx hm; show ((2 + xs.length : Nat) : Int) < mx; omega⟩)
      rw [he] at hI
      exact hI.grow.gr
    rw [he]
    exact ⟨_, rows_sh hL ha h2 h hg, export_sh hL ha h, by simp⟩
  · have h01 : a = 0 ∨ a = 1 := by have := (hasM_iff.1 ha).1; omega
    have e := h.uniq (rows01 hL h01)
    subst e
    have hr := rows01 grG0 h01
    rcases h01 with rfl | rfl
    · have e1 : exportM L [0] = [nd 0 0 0 []] := by
        unfold exportM
        rw [List.map_singleton, nat0 hL]
        rfl
      rw [e1]
      exact ⟨[0], hr, rfl, rfl⟩
    · have e1 : exportM L [1] = [nd 1 0 0 []] := by
        unfold exportM
        rw [List.map_singleton, nat1 hL]
        rfl
      rw [e1]
      exact ⟨[1], hr, rfl, rfl⟩
end
end Go.Sym

/- Plain laws: the blocks that a formula speaks of. -/
namespace Go.Sym
def mark (u : List Bool) (ins : List Int) : List Bool := ins.foldl (fun u a => u.set a.toNat true) u
theorem mark_snoc (u : List Bool) (l : List Int) (a : Int) : mark u (l ++ [a]) = (mark u l).set a.toNat true := by unfold mark; rw [List.foldl_append]; rfl
theorem mark_len : ∀ (l : List Int) (u : List Bool), (mark u l).length = u.length
  | [], _ => rfl
  | a :: l, u => by
    show (mark (u.set a.toNat true) l).length = _
    rw [mark_len l, List.length_set]
theorem getD_set (u : List Bool) (i j : Nat) (b : Bool) : (u.set i b).getD j false = if i = j ∧ i < u.length then b else u.getD j false := by
  rw [List.getD_eq_getElem?_getD, List.getD_eq_getElem?_getD, List.getElem?_set]
  split
  · rename_i e
    subst e
    split
    · rename_i h
      rw [if_pos ⟨rfl, h⟩]
      rfl
    · rename_i h
      rw [if_neg (fun hh => h hh.2), List.getElem?_eq_none (by omega)]
  · rename_i h
    rw [if_neg (fun hh => h hh.1)]
theorem mark_get : ∀ (l : List Int) (u : List Bool) (j : Nat), (mark u l).getD j false = true ↔ u.getD j false = true ∨ (j < u.length ∧ ∃ a ∈ l, a.toNat = j)
  | [], u, j => by simp [mark]
  | a :: l, u, j => by
    show (mark (u.set a.toNat true) l).getD j false = true ↔ _
    rw [mark_get l, getD_set, List.length_set]
    constructor
    · rintro (h | ⟨h1, b, hb, h2⟩)
      · split at h
        · rename_i e
          exact .inr ⟨by omega, a, by simp, e.1⟩
        · exact .inl h
      · exact .inr ⟨h1, b, by simp [hb], h2⟩
    · rintro (h | ⟨h1, b, hb, h2⟩)
      · left
        split
        · rfl
        · exact h
      · rcases List.mem_cons.1 hb with rfl | hb
        · left
          rw [if_pos ⟨h2, by omega⟩]
        · exact .inr ⟨h1, b, hb, h2⟩
def supFrom (f : List GN) : Nat → List Bool → List Int → List Int
  | 0, _, l => l
  | i + 1, u, l => if u.getD i false = true then supFrom f i (mark u (nat f (i : Int)).ins) (if (nat f (i : Int)).kind = 2 then l ++ [(nat f (i : Int)).2.1] else l) else supFrom f i u l
def suppM (f : List GN) : List Int := if validM f = true ∧ f.length ≠ 0 then norm (supFrom f f.length ((List.replicate f.length false).set (f.length - 1) true) []) else []
theorem suppM_lt (f : List GN) : (suppM f).Pairwise (· < ·) := by
  unfold suppM
  split
  · exact norm_lt _
  · exact List.Pairwise.nil
theorem supFrom_mem {f : List GN} (hok : ∀ j n, f[j]? = some n → NOk n j) (r : Int) (hr : hasM f r = true) :
    ∀ (i : Nat) (u : List Bool) (l : List Int), i ≤ f.length → u.length = f.length → (∀ (j : Nat) (β : Int), u.getD j false = true → Occ f β (j : Int) → Occ f β r) → u.getD r.toNat false = true →
      (∀ j : Nat, i ≤ j → u.getD j false = true → ∀ a ∈ (nat f (j : Int)).ins, u.getD a.toNat false = true) →
      (∀ β, β ∈ l ↔ ∃ j : Nat, i ≤ j ∧ j < f.length ∧ u.getD j false = true ∧ (nat f (j : Int)).kind = 2 ∧ (nat f (j : Int)).2.1 = β) →
      ∀ β, β ∈ supFrom f i u l ↔ Occ f β r
  | 0, u, l, _, hu, hA, hB, hC, hD, β => by
    unfold supFrom
    rw [hD]
    constructor
    · rintro ⟨j, _, hj, h1, h2, h3⟩
      exact hA j β h1 (.pick _ (hasM_iff.2 (by omega)) h2 h3)
    · intro ho
      have key : ∀ a, Occ f β a → u.getD a.toNat false = true → ∃ j : Nat, 0 ≤ j ∧ j < f.length ∧ u.getD j false = true ∧ (nat f (j : Int)).kind = 2 ∧ (nat f (j : Int)).2.1 = β := by
        intro a ho
        induction ho with
        | pick a h1 h2 h3 =>
          intro hu1
          obtain ⟨a0, a1⟩ := hasM_iff.1 h1
          have e : ((a.toNat : Nat) : Int) = a := by omega
          exact ⟨a.toNat, Nat.zero_le _, by omega, hu1, by rw [e]; exact h2, by rw [e]; exact h3⟩
        | step a x h1 h2 h3 ih =>
          intro hu1
          obtain ⟨a0, a1⟩ := hasM_iff.1 h1
          have e : ((a.toNat : Nat) : Int) = a := by omega
          exact ih (hC a.toNat (Nat.zero_le _) hu1 x (by rw [e]; exact h2))
      exact key r ho hB
  | i + 1, u, l, hi, hu, hA, hB, hC, hD, β => by
    obtain ⟨n, hn⟩ : ∃ n, f[i]? = some n := ⟨f[i], List.getElem?_eq_getElem (by omega)⟩
    have hnat : nat f (i : Int) = n := nat_get hn
    have hok' := hok i n hn
    have hh : hasM f (i : Int) = true := hasM_iff.2 (by omega)
    unfold supFrom
    split
    · rename_i h1
      rw [hnat]
      have hge : ∀ j : Nat, i ≤ j → ((mark u n.ins).getD j false = true ↔ u.getD j false = true) := fun j hj => by
        rw [mark_get]
        refine ⟨fun h => h.resolve_right ?_, .inl⟩
        rintro ⟨_, a, ha, e⟩
        have := hok'.1 a ha
        omega
      refine supFrom_mem hok r hr i (mark u n.ins) _ (by omega) (by rw [mark_len, hu]) ?_ ((mark_get _ _ _).2 (.inl hB)) ?_ ?_ β
      · intro j β hj ho
        rcases (mark_get _ _ _).1 hj with hj | ⟨_, a, ha, e⟩
        · exact hA j β hj ho
        · have := hok'.1 a ha
          refine hA i β h1 (.step _ a hh (by rw [hnat]; exact ha) ?_)
          rw [show a = (j : Int) by omega]
          exact ho
      · intro j hj hjm a ha
        have hj' := (hge j hj).1 hjm
        rw [mark_get]
        rcases Nat.eq_or_lt_of_le hj with e | e
        · subst e
          rw [hnat] at ha
          have := hok'.1 a ha
          exact .inr ⟨by omega, a, ha, rfl⟩
        · exact .inl (hC j e hj' a ha)
      · intro β
        constructor
        · intro hb
          have hb : (n.kind = 2 ∧ n.2.1 = β) ∨ β ∈ l := by
            split at hb
            · rename_i hk
              rcases List.mem_append.1 hb with hb | hb
              · exact .inr hb
              · exact .inl ⟨hk, (List.mem_singleton.1 hb).symm⟩
            · exact .inr hb
          rcases hb with ⟨hk, hb⟩ | hb
          · exact ⟨i, Nat.le_refl _, by omega, (hge i (Nat.le_refl _)).2 h1, by rw [hnat]; exact hk, by rw [hnat]; exact hb⟩
          · obtain ⟨j, h2, h3, h4, h5⟩ := (hD β).1 hb
            exact ⟨j, by omega, h3, (hge j (by omega)).2 h4, h5⟩
        · rintro ⟨j, h2, h3, h4, h5, h6⟩
          have h4 := (hge j h2).1 h4
          rcases Nat.eq_or_lt_of_le h2 with e | e
          · subst e
            rw [hnat] at h5 h6
            rw [if_pos h5]
            exact List.mem_append_right _ (List.mem_singleton.2 h6.symm)
          · have := (hD β).2 ⟨j, e, h3, h4, h5, h6⟩
            split
            · exact List.mem_append_left _ this
            · exact this
    · rename_i h1
      refine supFrom_mem hok r hr i u l (by omega) hu hA hB ?_ ?_ β
      · intro j hj hj' a ha
        rcases Nat.eq_or_lt_of_le hj with e | e
        · subst e
          exact absurd hj' h1
        · exact hC j e hj' a ha
      · intro β
        rw [hD]
        constructor
        · rintro ⟨j, h2, h3⟩
          exact ⟨j, by omega, h3⟩
        · rintro ⟨j, h2, h3, h4, h5⟩
          rcases Nat.eq_or_lt_of_le h2 with e | e
          · subst e
            exact absurd h4 h1
          · exact ⟨j, e, h3, h4, h5⟩
/-- The support: the blocks of which the root speaks. -/
theorem suppM_mem {f : List GN} (hv : validM f = true) (β : Int) : β ∈ suppM f ↔ Occ f β ((f.length : Int) - 1) := by
  unfold suppM
  by_cases h0 : f.length = 0
  · rw [if_neg (fun h => h.2 h0)]
    refine ⟨fun h => (by cases h), fun h => ?_⟩
    have := hasM_iff.1 h.has
    omega
  · have hr : hasM f ((f.length : Int) - 1) = true := hasM_iff.2 (by omega)
    have e : ((f.length : Int) - 1).toNat = f.length - 1 := by omega
    rw [if_pos ⟨hv, h0⟩, mem_norm]
    have hu : ∀ j : Nat, ((List.replicate f.length false).set (f.length - 1) true).getD j false = true ↔ j = f.length - 1 := by
      intro j
      rw [getD_set, List.length_replicate]
      split
      · rename_i h
        simp [h.1]
      · rename_i h
        constructor
        · intro h2
          rw [List.getD_eq_getElem?_getD, List.getElem?_replicate] at h2
          split at h2 <;> cases h2
        · intro h2
          omega
    refine supFrom_mem (fun j n hj => validM_get hv hj) _ hr f.length _ [] (Nat.le_refl _) (by simp) ?_ (by rw [e, hu]) ?_ ?_ β
    · intro j β hj ho
      rw [hu] at hj
      rw [show (f.length : Int) - 1 = (j : Int) by omega]
      exact ho
    · intro j hj hj'
      rw [hu] at hj'
      omega
    · intro β
      refine ⟨fun h => (by cases h), fun ⟨j, h1, h2, _⟩ => ?_⟩
      omega
end Go.Sym

/- Plain laws: what comes of importing a formula. -/
namespace Go.Sym
theorem import_root {f L : List GN} {mx : Int} (hL : Gr L) (hok : ∀ j n, f[j]? = some n → NOk n j) (hroom : L.length + f.length < 67108864 ∧ (mx > 0 → ((L.length + f.length : Nat) : Int) < mx)) :
    Grow L (importM mx L f).2 ∧ hasM (importM mx L f).2 (importM mx L f).1 = true ∧ (importM mx L f).2.length ≤ L.length + f.length ∧
    (∀ w, V w (importM mx L f).2 (importM mx L f).1 = (vals w f).getD (f.length - 1) false) ∧ ∀ β, Occ (importM mx L f).2 β (importM mx L f).1 → Occ f β ((f.length : Int) - 1) := by
  obtain ⟨nums, hI, hlen, hr⟩ := importM_ok hL hok hroom
  have hl := hI.len
  rw [hlen] at hl
  by_cases h0 : f.length = 0
  · have hn : nums = [] := List.length_eq_zero_iff.1 (by omega)
    have hf : f = [] := List.length_eq_zero_iff.1 h0
    rw [hn] at hr
    have hr : (importM mx L f).1 = 0 := hr
    have hg := hI.grow.gr
    rw [hr]
    refine ⟨hI.grow, (has01 hg (.inl rfl)).1, hl, fun w => ?_, fun β h => absurd h (occ01 hg (.inl rfl))⟩
    rw [V0 hg, hf]
    rfl
  · have hlast : nums[f.length - 1]? = some (importM mx L f).1 := by
      rw [hr, List.getLast?_eq_getElem?, hlen, List.getElem?_eq_getElem (by omega)]
      rfl
    refine ⟨hI.grow, hI.has _ _ hlast, hl, fun w => ?_, fun β h => ?_⟩
    · rw [hI.val w _ _ hlast]
      unfold V
      rw [Int.toNat_natCast]
    · have := hI.occ β _ _ hlast h
      rw [show (f.length : Int) - 1 = ((f.length - 1 : Nat) : Int) by omega]
      exact this
/-- The exported root. -/
theorem export_root {L : List GN} {xs : List Int} {a : Int} (hL : Gr L) (ha : hasM L a = true) (h : Rows L a xs) :
    xs.length ≠ 0 ∧ (∀ w, (vals w (exportM L xs)).getD ((exportM L xs).length - 1) false = V w L a) ∧ ∀ β, Occ (exportM L xs) β (((exportM L xs).length : Int) - 1) → Occ L β a := by
  obtain ⟨h1, h2⟩ := h.last hL ha
  have h3 := List.length_pos_iff.2 h2
  rw [List.getLast?_eq_getElem?] at h1
  refine ⟨by omega, fun w => ?_, fun β ho => ?_⟩
  · have := V_export hL ha h w _ _ h1
    rw [← this, exportM_len]
    unfold V
    rw [Int.toNat_natCast]
  · exact occ_export h hL ha ho (xs.length - 1) a (by rw [exportM_len]; omega) h1
theorem rows_len {L : List GN} {xs : List Int} {a : Int} (hL : Gr L) (ha : hasM L a = true) (h : Rows L a xs) : xs.length ≤ L.length := by
  have := rising_len xs 0 L.length h.lt (fun x hx => hasM_iff.1 (((h.mem x).1 hx).has hL ha).1)
  omega
theorem rows_size {L : List GN} (hL : Gr L) : ∀ (xs : List Int), (∀ x ∈ xs, hasM L x = true) → (xs.map fun b => (nat L b).ins.length).sum ≤ xs.length * L.length
  | [], _ => Nat.zero_le _
  | x :: xs, h => by
    have h1 := rows_size hL xs (fun y hy => h y (List.mem_cons_of_mem _ hy))
    obtain ⟨x0, x1⟩ := hasM_iff.1 (h x (List.mem_cons_self ..))
    have := (hL.at x0 x1).ilen
    show (nat L x).ins.length + (xs.map fun b => (nat L b).ins.length).sum ≤ (xs.length + 1) * L.length
    rw [Nat.succ_mul]
    omega
theorem export_ilen {L : List GN} {xs : List Int} {a : Int} (hL : Gr L) (ha : hasM L a = true) (h : Rows L a xs) : ∀ n ∈ exportM L xs, n.ins.length ≤ L.length := by
  intro n hn
  obtain ⟨x, hx, rfl⟩ := List.mem_map.1 hn
  obtain ⟨x0, x1⟩ := hasM_iff.1 (((h.mem x).1 hx).has hL ha).1
  have := (hL.at x0 x1).ilen
  rw [relab_ins, List.length_map]
  omega
/-- A formula of few nodes, normalized. -/
theorem normal_ex {f : List GN} (hv : validM f = true) (hlen : f.length ≤ 5000) {mx : Int} (hmx : mx = 33554432) :
    ∃ xs, Rows (importM mx G0 f).2 (importM mx G0 f).1 xs ∧ Gr (importM mx G0 f).2 ∧ hasM (importM mx G0 f).2 (importM mx G0 f).1 = true ∧ xs.length ≤ f.length + 2 ∧ xs.length ≠ 0 ∧
      (xs.map fun b => (nat (importM mx G0 f).2 b).ins.length).sum ≤ 33554432 ∧ validM (exportM (importM mx G0 f).2 xs) = true ∧ (∀ n ∈ exportM (importM mx G0 f).2 xs, n.ins.length ≤ f.length + 2) ∧
      (∀ w, holdsM (exportM (importM mx G0 f).2 xs) w = holdsM f w) ∧ (∀ β, β ∈ suppM (exportM (importM mx G0 f).2 xs) → β ∈ suppM f) ∧
      ∃ ys, Rows (importM mx G0 (exportM (importM mx G0 f).2 xs)).2 (importM mx G0 (exportM (importM mx G0 f).2 xs)).1 ys ∧ exportM (importM mx G0 (exportM (importM mx G0 f).2 xs)).2 ys = exportM (importM mx G0 f).2 xs := by
  have hroom : G0.length + f.length < 67108864 ∧ (mx > 0 → ((G0.length + f.length : Nat) : Int) < mx) := by
    show 2 + f.length < 67108864 ∧ (mx > 0 → ((2 + f.length : Nat) : Int) < mx)
    omega
  obtain ⟨g, hh, hl, hV, hO⟩ := import_root grG0 (fun j n hj => validM_get hv hj) hroom
  have hL := g.gr
  have hl : (importM mx G0 f).2.length ≤ 2 + f.length := hl
  generalize importM mx G0 f = p at *
  obtain ⟨a, L⟩ := p
  dsimp only at *
  have hex : ∃ xs, Rows L a xs := by
    classical
    refine ⟨((List.range L.length).map fun (i : Nat) => (i : Int)).filter (fun x => decide (Rch L a x)), ?_, fun x => ?_⟩
    · refine List.Pairwise.filter _ ?_
      rw [List.pairwise_map]
      exact List.pairwise_lt_range.imp (fun h => by omega)
    · rw [List.mem_filter, decide_eq_true_iff]
      refine ⟨fun h => h.2, fun h => ⟨?_, h⟩⟩
      have := hasM_iff.1 (h.has hL hh).1
      exact List.mem_map.2 ⟨x.toNat, List.mem_range.2 (by omega), by omega⟩
  obtain ⟨xs, hx⟩ := hex
  have hxl := rows_len hL hh hx
  obtain ⟨hne, eV, eO⟩ := export_root hL hh hx
  have hsz := rows_size hL xs (fun x h => (((hx.mem x).1 h).has hL hh).1)
  have hsz : (xs.map fun b => (nat L b).ins.length).sum ≤ 33554432 := by
    have : xs.length * L.length ≤ 5002 * 5002 := Nat.mul_le_mul (by omega) (by omega)
    omega
  have hval := export_valid hL hh hx (by omega) hsz
  refine ⟨xs, hx, hL, hh, by omega, hne, hsz, hval, fun n hn => ?_, fun w => ?_, fun β hb => ?_, ?_⟩
  · have := export_ilen hL hh hx n hn
    omega
  · unfold holdsM
    rw [hval, hv, Bool.true_and, Bool.true_and, eV, hV]
  · exact (suppM_mem hv β).2 (hO β (eO β ((suppM_mem hval β).1 hb)))
  · obtain ⟨ys, h1, h2, _⟩ := export_twice hL hh hx (mx := mx) (by omega) (by omega)
    exact ⟨ys, h1, h2⟩
end Go.Sym
