/- Nodes, exports, and what is out of range. -/
import Derived.Test.YtbhnbgelkemhiaaSp
set_option linter.unusedVariables false
namespace Go.Sym.T22
set_option maxRecDepth 1000000
theorem Ans.join {F α : Type} {J : Nat → F} {K : Nat → F → Option α} {y : α} (h : ∀ J', J' = J → Ans (fun n => K n (J' n)) y) : Ans (fun n => Alg.real.join (J n) (K n)) y := h J rfl
theorem real_bind {α β : Type} (x : Option α) (f : α → Option β) : Alg.real.bind x f = x.bind f := rfl
theorem real_branch {α : Type} (b : Bool) (x y : Option α) : Alg.real.branch b x y = if b = true then x else y := rfl
/-- Forty more. -/
def up40 (m : Nat) : Nat := (Nat.succ (Nat.succ (Nat.succ (Nat.succ (Nat.succ (Nat.succ (Nat.succ (Nat.succ (Nat.succ (Nat.succ (Nat.succ (Nat.succ (Nat.succ (Nat.succ (Nat.succ (Nat.succ (Nat.succ (Nat.succ (Nat.succ (Nat.succ (Nat.succ (Nat.succ (Nat.succ (Nat.succ (Nat.succ (Nat.succ (Nat.succ (Nat.succ (Nat.succ (Nat.succ (Nat.succ (Nat.succ (Nat.succ (Nat.succ (Nat.succ (Nat.succ (Nat.succ (Nat.succ (Nat.succ (Nat.succ m))))))))))))))))))))))))))))))))))))))))
theorem up40_eq (m : Nat) : up40 m = m + 40 := rfl
theorem Ans.up {α : Type} {x : Nat → Option α} {y : α} (h : ∀ m, x (up40 m) = some y) : Ans x y :=
  ⟨40, fun n hn => by
    obtain ⟨m, rfl⟩ : ∃ m, n = m + 40 := ⟨n - 40, by omega⟩
    exact h m⟩
/-! ### a node, and a store's nodes as a formula -/
theorem at_spec (n : Nat) (a mx : Int) (L : List GN) (m : GM) (h : hasM L a = true) : c30 (F (n + 1)) a mx L m = some (nat L a, mx, L, m) := by
  obtain ⟨h0, h1⟩ := hasM_iff.1 h
  rw [t30]
  unfold R30
  dsimp only [Alg.real]
  rw [if_pos (decT h0), if_pos (decT h1)]
  rfl
theorem fClone_eq (xs : List Int) (h : xs.length * 8 ≤ 140737488355328) : fClone xs = some xs := if_pos h
theorem node_spec (a mx : Int) (L : List GN) (m : GM) (hL : Gr L) : Ans (fun n => c14 (F n) a mx L m) ((if hasM L a = true then nat L a else zN), hasM L a, mx, L, m) := by
  refine ⟨2, fun n hn => ?_⟩
  obtain ⟨q, rfl⟩ : ∃ q, n = q + 2 := ⟨n - 2, by omega⟩
  show c14 (F (q + 1 + 1)) a mx L m = _
  rw [t14]
  unfold R14
  dsimp only [Alg.real]
  rw [has_spec q]
  by_cases h : hasM L a = true
  · have hlen := (hL.at (hasM_iff.1 h).1 (hasM_iff.1 h).2).ilen
    have h2 := hL.len
    have h3 := (hasM_iff.1 h).2
    show (if (!hasM L a) = true then _ else _) = _
    rw [if_neg (notF h), at_spec q a mx L m h, c31_F, if_pos h, h]
    exact (congrArg (fun q => Option.bind q _) (fClone_eq (nat L a).2.2.2.1 (by show ((nat L a).ins.length * 8 ≤ 140737488355328); omega))).trans rfl
  · show (if (!hasM L a) = true then _ else _) = _
    rw [if_pos (notT h), if_neg h, Bool.eq_false_iff.2 h]
    rfl
theorem export_none (a mx : Int) (L : List GN) (m : GM) (h : ¬ hasM L a = true) : Ans (fun n => c15 (F n) a mx L m) (([], ()), 6, mx, L, m) := by
  refine ⟨2, fun n hn => ?_⟩
  obtain ⟨q, rfl⟩ : ∃ q, n = q + 2 := ⟨n - 2, by omega⟩
  show c15 (F (q + 1 + 1)) a mx L m = _
  rw [t15]
  unfold R15
  dsimp only [Alg.real]
  rw [has_spec q]
  show (if (!hasM L a) = true then _ else _) = _
  rw [if_pos (notT h)]
  rfl
theorem expT20 (m : Nat) (M : GM) : c15 (T (up40 m)) 0 mx0 L0 M = some (([nd 0 0 0 []], ()), 0, mx0, L0, M) := by kernel_rfl
theorem export20 (M : GM) : Ans (fun n => c15 (F n) 0 mx0 L0 M) (([nd 0 0 0 []], ()), 0, mx0, L0, M) := Ans.up fun m => by
  have h := expT20 m M
  rw [T_eq] at h
  exact h
theorem expT21 (m : Nat) (M : GM) : c15 (T (up40 m)) 1 mx0 L0 M = some (([nd 1 0 0 []], ()), 0, mx0, L0, M) := by kernel_rfl
theorem export21 (M : GM) : Ans (fun n => c15 (F n) 1 mx0 L0 M) (([nd 1 0 0 []], ()), 0, mx0, L0, M) := Ans.up fun m => by
  have h := expT21 m M
  rw [T_eq] at h
  exact h
theorem expT30 (m : Nat) (b p : Int) (M : GM) : c15 (T (up40 m)) 0 mx0 [nd 0 0 0 [], nd 1 0 0 [], nd 2 b p []] M = some (([nd 0 0 0 []], ()), 0, mx0, [nd 0 0 0 [], nd 1 0 0 [], nd 2 b p []], M) := by kernel_rfl
theorem export30 (b p : Int) (M : GM) : Ans (fun n => c15 (F n) 0 mx0 [nd 0 0 0 [], nd 1 0 0 [], nd 2 b p []] M) (([nd 0 0 0 []], ()), 0, mx0, [nd 0 0 0 [], nd 1 0 0 [], nd 2 b p []], M) := Ans.up fun m => by
  have h := expT30 m b p M
  rw [T_eq] at h
  exact h
theorem expT31 (m : Nat) (b p : Int) (M : GM) : c15 (T (up40 m)) 1 mx0 [nd 0 0 0 [], nd 1 0 0 [], nd 2 b p []] M = some (([nd 1 0 0 []], ()), 0, mx0, [nd 0 0 0 [], nd 1 0 0 [], nd 2 b p []], M) := by kernel_rfl
theorem export31 (b p : Int) (M : GM) : Ans (fun n => c15 (F n) 1 mx0 [nd 0 0 0 [], nd 1 0 0 [], nd 2 b p []] M) (([nd 1 0 0 []], ()), 0, mx0, [nd 0 0 0 [], nd 1 0 0 [], nd 2 b p []], M) := Ans.up fun m => by
  have h := expT31 m b p M
  rw [T_eq] at h
  exact h
theorem expT32 (m : Nat) (b p : Int) (M : GM) : c15 (T (up40 m)) 2 mx0 [nd 0 0 0 [], nd 1 0 0 [], nd 2 b p []] M = some (([nd 2 b p []], ()), 0, mx0, [nd 0 0 0 [], nd 1 0 0 [], nd 2 b p []], M) := by kernel_rfl
theorem export32 (b p : Int) (M : GM) : Ans (fun n => c15 (F n) 2 mx0 [nd 0 0 0 [], nd 1 0 0 [], nd 2 b p []] M) (([nd 2 b p []], ()), 0, mx0, [nd 0 0 0 [], nd 1 0 0 [], nd 2 b p []], M) := Ans.up fun m => by
  have h := expT32 m b p M
  rw [T_eq] at h
  exact h
end Go.Sym.T22

namespace Go.Sym.T22
set_option maxRecDepth 100000
theorem picked (b p : Int) : ∃ (g : Bool) (v : Int) (L : List GN), (g = true ↔ 0 ≤ b ∧ b < 4096 ∧ -1 ≤ p ∧ p < 16) ∧ pickM mx0 L0 b p = (v, L) ∧ cmpI .eql v 2 = g ∧ (g = false → v = -1) ∧ (L.length : Int) = (if g = true then 3 else 2) ∧ Gr L ∧
    ∀ a, hasM L a = true → ∃ f, Ans (fun n => c15 (F n) a mx0 L (idx L)) ((f, ()), 0, mx0, L, idx L) := by
  by_cases h : 0 ≤ b ∧ b < 4096 ∧ -1 ≤ p ∧ p < 16
  · have e : pickM mx0 L0 b p = (2, [nd 0 0 0 [], nd 1 0 0 [], nd 2 b p []]) := by
      have h1 : nd 2 b p [] ∉ L0 := fun h => by
        simp only [L0, nd, List.mem_cons, List.not_mem_nil, or_false, Prod.mk.injEq] at h
        omega
      unfold pickM addM
      rw [if_neg (by omega), posOf_none.2 h1]
      rfl
    have hg := (pickM_is (mx := mx0) gr0 (mx_room (by decide)) (β := b) (p := p) h).1.gr
    rw [e] at hg
    refine ⟨true, 2, _, ⟨fun _ => h, fun _ => rfl⟩, e, rfl, fun h => (by cases h), rfl, hg, fun a ha => ?_⟩
    have ha := hasM_iff.1 ha
    have hl : ([nd 0 0 0 [], nd 1 0 0 [], nd 2 b p []] : List GN).length = 3 := rfl
    have h3 : a = 0 ∨ a = 1 ∨ a = 2 := by omega
    rcases h3 with rfl | rfl | rfl
    · exact ⟨_, export30 b p _⟩
    · exact ⟨_, export31 b p _⟩
    · exact ⟨_, export32 b p _⟩
  · refine ⟨false, -1, L0, ⟨fun h => (by cases h), fun h' => absurd h' h⟩, ?_, rfl, fun _ => rfl, rfl, gr0, fun a ha => ?_⟩
    · unfold pickM
      rw [if_pos (by omega)]
    · have ha := hasM_iff.1 ha
      have hl : L0.length = 2 := rfl
      have h3 : a = 0 ∨ a = 1 := by omega
      rcases h3 with rfl | rfl
      · exact ⟨_, export20 _⟩
      · exact ⟨_, export21 _⟩
theorem not_none {L : List GN} {a mx : Int} (h : ¬ hasM L a = true) : notM mx L a = (-1, L) := by unfold notM; rw [if_pos h]
theorem join_none {L : List GN} {k z mx a : Int} {l : List Int} (h : ¬ hasM L a = true) (hl : a ∈ l) : joinM k z mx L l = (-1, L) := by
  unfold joinM gatherM
  rw [if_neg (fun e => h (List.all_eq_true.1 e a hl))]
theorem ranges_ans (b p a : Int) : Ans (fun n => c4 (F n) b p a) true := by
  refine Ans.step (x' := fun n => R4 .real (F n) n b p a) ?_ (fun n => by rw [t4])
  unfold R4
  dsimp only [real_bind, real_branch]
  refine Ans.bind st_new ?_
  refine Ans.bind (st_pick b p mx0 L0 gr0) ?_
  obtain ⟨g, v, L, hg, e, hv, hw, hlen, hL, hexp⟩ := picked b p
  rw [e]
  dsimp only [gres]
  refine Ans.join fun J9 h9 => ?_
  suffices h : Ans (fun n => J9 n g mx0 L (idx L)) true by
    by_cases a1 : 0 ≤ b
    · refine Ans.yes (geqT a1) ?_
      by_cases a2 : b < 4096
      · refine Ans.yes (lssT a2) ?_
        by_cases a3 : -1 ≤ p
        · refine Ans.yes (geqT a3) ?_
          have : cmpI .lss p 16 = g := by
            rw [lss_eq, Bool.eq_iff_iff, hg, decide_eq_true_iff]
            exact ⟨fun h => ⟨a1, a2, a3, h⟩, fun h => h.2.2.2⟩
          rw [this]
          exact h
        · refine Ans.no (geqF a3) ?_
          have : g = false := Bool.eq_false_iff.2 (fun h => a3 (hg.1 h).2.2.1)
          rw [this] at h
          exact h
      · refine Ans.no (lssF a2) ?_
        have : g = false := Bool.eq_false_iff.2 (fun h => a2 (hg.1 h).2.1)
        rw [this] at h
        exact h
    · refine Ans.no (geqF a1) ?_
      have : g = false := Bool.eq_false_iff.2 (fun h => a1 (hg.1 h).1)
      rw [this] at h
      exact h
  subst h9
  refine Ans.join fun J13 h13 => ?_
  suffices h : Ans (fun n => J13 n (L.length : Int) mx0 L (idx L)) true by
    rw [hlen] at h
    cases g
    · exact Ans.no (by decide) h
    · exact Ans.yes rfl h
  subst h13
  refine Ans.join fun J17 h17 => ?_
  suffices h : Ans (fun n => J17 n false mx0 L (idx L)) true by
    refine Ans.no (by rw [hv]; simp) ?_
    have h13 : Ans (fun n => (c13 (F n) mx0 L (idx L)).bind fun x18 => J17 n (cmpI .neq x18.1 (L.length : Int)) x18.2.1 x18.2.2.1 x18.2.2.2) true := by
      refine Ans.bind (st_len mx0 L (idx L)) ?_
      dsimp only
      rw [Bool.eq_false_iff.2 (neqF rfl)]
      exact h
    cases hgg : g
    · refine Ans.yes rfl (Ans.no (neqF (hw hgg)) ?_)
      exact h13
    · refine Ans.no (by decide) ?_
      exact h13
  subst h17
  refine Ans.no (by decide) ?_
  refine Ans.bind (node_spec a mx0 L (idx L) hL) ?_
  dsimp only
  have hin : hasM L a = true ↔ 0 ≤ a ∧ a < L.length := hasM_iff
  obtain ⟨f, er, hx, hy⟩ : ∃ (f : List GN) (er : Int), Ans (fun n => c15 (F n) a mx0 L (idx L)) ((f, ()), er, mx0, L, idx L) ∧ ((hasM L a = true ∧ er = 0) ∨ (hasM L a = false ∧ er = 6 ∧ f = [])) := by
    by_cases h : hasM L a = true
    · obtain ⟨f, hf⟩ := hexp a h
      exact ⟨f, 0, hf, .inl ⟨h, rfl⟩⟩
    · exact ⟨[], 6, export_none a mx0 L (idx L) h, .inr ⟨Bool.eq_false_iff.2 h, rfl, rfl⟩⟩
  refine Ans.bind hx ?_
  dsimp only
  refine Ans.join fun J23 h23 => ?_
  suffices h : Ans (fun n => J23 n (hasM L a) f mx0 L (idx L)) true by
    by_cases a1 : 0 ≤ a
    · refine Ans.yes (geqT a1) ?_
      have : cmpI .lss a (L.length : Int) = hasM L a := by
        rw [lss_eq, Bool.eq_iff_iff, hin, decide_eq_true_iff]
        exact ⟨fun h => ⟨a1, h⟩, fun h => h.2⟩
      rw [this]
      exact h
    · refine Ans.no (geqF a1) ?_
      have : hasM L a = false := Bool.eq_false_iff.2 (fun h => a1 (hin.1 h).1)
      rw [this] at h
      exact h
  subst h23
  refine Ans.join fun J28 h28 => ?_
  suffices h : Ans (fun n => J28 n false mx0 L (idx L)) true by
    refine Ans.no (by simp) ?_
    rcases hy with ⟨h1, h2⟩ | ⟨h1, h2, h3⟩
    · refine Ans.no (by rw [h1, eqlT h2]; decide) (Ans.no (notF h1) ?_)
      exact h
    · have hn : ¬ hasM L a = true := Bool.eq_false_iff.1 h1
      refine Ans.no (by rw [h1, h2]; decide) (Ans.yes (notT hn) (Ans.no (neqF h2) (Ans.no (by rw [h3]; decide) ?_)))
      refine Ans.bind (st_not a mx0 L hL) ?_
      rw [not_none hn]
      dsimp only [gres]
      refine Ans.no (neqF rfl) ?_
      refine Ans.bind (st_and mx0 [1, a] L hL (by simp)) ?_
      rw [show andM mx0 L [1, a] = (-1, L) from join_none hn (by simp)]
      dsimp only [gres]
      refine Ans.no (neqF rfl) ?_
      refine Ans.bind (st_or mx0 [a, 0] L hL (by simp)) ?_
      rw [show orM mx0 L [a, 0] = (-1, L) from join_none hn (by simp)]
      dsimp only [gres]
      rw [Bool.eq_false_iff.2 (neqF rfl)]
      exact h
  subst h28
  refine Ans.no (by decide) ?_
  refine Ans.join fun J32 h32 => ?_
  subst h32
  by_cases h : hasM L a = true
  · exact Ans.yes h (Ans.bind awake_ans (Ans.val _))
  · refine Ans.no h (Ans.bind (st_len mx0 L (idx L)) ?_)
    exact Ans.yes (eqlT rfl) (Ans.bind awake_ans (Ans.val _))
end Go.Sym.T22
