/- What the functions of this seat answer. -/
import Derived.Test.YtggcbphplabngaaSys
import Derived.Test.YtggcbphplabngaaPl
set_option linter.unusedVariables false
namespace Go.Sym.T6
set_option maxRecDepth 100000
theorem real_bind {α β : Type} (x : Option α) (f : α → Option β) : Alg.real.bind x f = x.bind f := rfl
theorem real_branch {α : Type} (b : Bool) (x y : Option α) : Alg.real.branch b x y = if b = true then x else y := rfl
theorem check_spec (n : Nat) (p : Int) (on ar : Bool) (lf : Int) (ds : List Sc) (ws : List Pw) : c25 (F (n + 1)) p on ar lf ds ws = some (checkM on ds.length p, on, ar, lf, ds, ws) := by
  rw [t25]
  unfold R25
  dsimp only [Alg.real]
  cases on
  · rfl
  · rw [if_neg (by decide)]
    show _ = some ((if p < 0 ∨ p ≥ (ds.length : Int) then 6 else 0), true, ar, lf, ds, ws)
    by_cases h : p < 0
    · rw [if_pos (lssT h), if_pos rfl, if_pos (show p < 0 ∨ p ≥ (ds.length : Int) from .inl h)]
    · rw [if_neg (lssF h)]
      by_cases h2 : p ≥ (ds.length : Int)
      · rw [if_pos (geqT h2), if_pos (show p < 0 ∨ p ≥ (ds.length : Int) from .inr h2)]
      · rw [if_neg (geqF h2), if_neg (show ¬ (p < 0 ∨ p ≥ (ds.length : Int)) by omega)]
theorem fails_spec (n : Nat) (on ar : Bool) (lf : Int) (ds : List Sc) (ws : List Pw) (h : lf ≤ 9223372036854775807) :
    c26 (F (n + 1)) on ar lf ds ws = some ((failsM on ar lf).1, (failsM on ar lf).2.1, (failsM on ar lf).2.2.1, (failsM on ar lf).2.2.2, ds, ws) := by
  rw [t26]
  unfold R26 failsM
  dsimp only [Alg.real]
  cases ar
  · rfl
  · rw [if_neg (by decide), if_pos rfl]
    by_cases h1 : lf > 0
    · rw [if_pos (gtrT h1), if_pos h1, sub64 (by omega)]
    · rw [if_neg (gtrF h1), if_neg h1]
theorem zero_sc : (Ty.zero (.arr 64 (.int .u8)) : List Int) = zSc := rfl
theorem write_spec (n : Nat) (p : Int) (b : List Int) (on ar : Bool) (lf : Int) (ds : List Sc) (ws : List Pw) (h : lf ≤ 9223372036854775807) (hw : ws.length ≤ 1000000) : c11 (F (n + 2)) p b on ar lf ds ws = some (writeM p b on ar lf ds ws) := by
  show c11 (F (n + 1 + 1)) p b on ar lf ds ws = _
  rw [t11]
  unfold R11 writeM
  dsimp only [Alg.real]
  rw [check_spec, Option.bind_some]
  dsimp only
  by_cases h1 : checkM on ds.length p = 0
  · rw [if_neg (neqF h1), if_pos h1]
    by_cases h2 : b.length ≤ 64
    · rw [if_neg (gtrF (by omega)), if_pos h2, fails_spec n on ar lf ds ws h, Option.bind_some]
      dsimp only
      by_cases h3 : (failsM on ar lf).1 = true
      · rw [if_pos h3, if_pos h3]
      · rw [if_neg h3, if_neg h3, if_pos (decT (by decide)), if_pos (decT (by decide)), if_pos (decT (by decide))]
        show (if decide ((ws.length + 1) * 72 ≤ 140737488355328) = true then some (0, (failsM on ar lf).2.1, (failsM on ar lf).2.2.1, (failsM on ar lf).2.2.2, ds, ws ++ [(p, pad b, ())]) else none) = _
        rw [if_pos (decT (by omega))]
    · rw [if_pos (gtrT (by omega)), if_neg h2]
  · rw [if_pos (neqT h1), if_neg h1]
end Go.Sym.T6

namespace Go.Sym.T6
set_option maxRecDepth 100000
theorem new_spec (k : Nat) (n : Int) (h1 : 1 ≤ n) (h2 : n ≤ 8192) : c10 (F (k + 1)) n = some (0, true, false, 0, List.replicate n.toNat zSc, []) := by
  rw [t10]
  unfold R10
  dsimp only [Alg.real]
  rw [if_neg (lssF (by omega)), Bool.eq_false_iff.2 (gtrF (by omega : ¬ n > 8192)), if_neg (by decide), if_pos (decT (by omega)), if_pos (decT (by omega)), if_pos (decT (by omega))]
  rfl
theorem pend_spec (k : Nat) (on ar : Bool) (lf : Int) (ds : List Sc) (ws : List Pw) : c17 (F (k + 1)) on ar lf ds ws = some ((ws.length : Int), on, ar, lf, ds, ws) := by rw [t17]; rfl
theorem online_spec (k : Nat) (on ar : Bool) (lf : Int) (ds : List Sc) (ws : List Pw) : c21 (F (k + 1)) on ar lf ds ws = some (on, on, ar, lf, ds, ws) := by rw [t21]; rfl
theorem size_spec (k : Nat) (on ar : Bool) (lf : Int) (ds : List Sc) (ws : List Pw) : c19 (F (k + 1)) on ar lf ds ws = some ((ds.length : Int), on, ar, lf, ds, ws) := by rw [t19]; rfl
theorem power_spec (k : Nat) (on ar : Bool) (lf : Int) (ds : List Sc) (ws : List Pw) : c16 (F (k + 1)) on ar lf ds ws = some (true, false, lf, ds, ws) := by rw [t16]; rfl
theorem arm_spec (k : Nat) (n : Int) (on ar : Bool) (lf : Int) (ds : List Sc) (ws : List Pw) : c20 (F (k + 1)) n on ar lf ds ws = some (on, cmpI .geq n 0, n, ds, ws) := by rw [t20]; rfl
theorem pw_at {ws : List Pw} {j : Nat} (h : j < ws.length) (d : Pw) : ws.getD (Int.toNat (j : Int)) d = ws[j] := by
  rw [Int.toNat_natCast, List.getD_eq_getElem?_getD, List.getElem?_eq_getElem h]
  rfl
theorem pw_take {ws : List Pw} {j : Nat} (h : j < ws.length) : ws.take (j + 1) = ws.take j ++ [ws[j]] := by
  rw [List.take_add_one, List.getElem?_eq_getElem h]
  rfl
theorem read_spec (n : Nat) (p : Int) (on ar : Bool) (lf : Int) (ds : List Sc) (ws : List Pw) (hok : DOk ds ws) (hn : ws.length < n + 1) : c14 (F (n + 2)) p on ar lf ds ws = some (readM p on ar lf ds ws) := by
  show c14 (F (n + 1 + 1)) p on ar lf ds ws = _
  rw [t14]
  unfold R14 readM
  dsimp only [Alg.real]
  rw [check_spec, Option.bind_some]
  dsimp only
  have hwl := hok.wl
  by_cases h1 : checkM on ds.length p = 0
  · have hp : 0 ≤ p ∧ p < ds.length := by
      unfold checkM at h1
      split at h1
      · split at h1
        · cases h1
        · omega
      · cases h1
    rw [if_neg (neqF h1), if_pos h1, if_pos (decT hp.1), if_pos (decT hp.2)]
    refine loop7 (fun q (i : Int) on' ar' lf' (bx : List Sc) ws' ds' r => on = on' ∧ ar = ar' ∧ lf = lf' ∧ ws = ws' ∧ ds = ds' ∧ r = (0, on, ar, lf, seen (ds.getD p.toNat zSc) p ws, ds, ws) ∧ ∃ j : Nat, i = j ∧ j ≤ ws.length ∧ q = ws.length - j ∧ bx = [seen (ds.getD p.toNat zSc) p (ws.take j)]) ?_ (n + 1) ws.length _ _ _ _ _ _ _ _ ⟨rfl, rfl, rfl, rfl, rfl, rfl, 0, rfl, Nat.zero_le _, rfl, rfl⟩ hn
    rintro q self i on' ar' lf' bx ws' ds' r ⟨rfl, rfl, rfl, rfl, rfl, rfl, j, rfl, hj, rfl, rfl⟩ ih
    by_cases hlt : j < ws.length
    · have hst := pw_take hlt
      rw [if_pos (lssT (by omega)), if_pos (decT (by omega)), if_pos (decT (by omega)), pw_at hlt]
      have hnext : ∀ bx, bx = [seen (ds.getD p.toNat zSc) p (ws.take (j + 1))] → self (arith .add .i64 (j : Int) 1) on ar lf bx ws ds = some (0, on, ar, lf, seen (ds.getD p.toNat zSc) p ws, ds, ws) := fun bx hbx => by
        rw [add64 (by omega)]
        exact ih (ws.length - (j + 1)) _ _ _ _ _ _ _ (by omega) ⟨rfl, rfl, rfl, rfl, rfl, rfl, j + 1, by omega, by omega, rfl, hbx⟩
      show (if cmpI .eql ws[j].1 p = true then self (arith .add .i64 (j : Int) 1) on ar lf [ws[j].2.1] ws ds else self (arith .add .i64 (j : Int) 1) on ar lf [seen (ds.getD p.toNat zSc) p (ws.take j)] ws ds) = _
      by_cases h2 : ws[j].1 = p
      · rw [if_pos (eqlT h2)]
        exact hnext _ (by rw [hst, seen_snoc, if_pos h2])
      · rw [if_neg (eqlF h2)]
        exact hnext _ (by rw [hst, seen_snoc, if_neg h2])
    · rw [if_neg (lssF (by omega)), List.take_of_length_le (show ws.length ≤ j by omega), if_pos (decT (by decide)), if_pos (decT (by decide)), if_pos (decT (by decide))]
      have hl := seen_len (s := ds.getD p.toNat zSc) (p := p) (getD_sec hok.sec _) ws (fun x hx => (hok.wr x hx).2.2)
      generalize seen (ds.getD p.toNat zSc) p ws = s at *
      show (if decide ((s.take 64).length * 1 ≤ 140737488355328) = true then some (0, on, ar, lf, s.take 64, ds, ws) else none) = _
      rw [List.take_of_length_le (by omega), if_pos (decT (by omega))]
  · rw [if_pos (neqT h1), if_neg h1]
theorem flush_spec (n : Nat) (on ar : Bool) (lf : Int) (ds : List Sc) (ws : List Pw) (hok : DOk ds ws) (h : lf ≤ 9223372036854775807) (hn : ws.length < n + 1) : c13 (F (n + 2)) on ar lf ds ws = some (flushM on ar lf ds ws) := by
  show c13 (F (n + 1 + 1)) on ar lf ds ws = _
  rw [t13]
  unfold R13 flushM
  dsimp only [Alg.real]
  have hwl := hok.wl
  cases on
  · rfl
  · rw [if_neg (by decide), fails_spec n true ar lf ds ws h, Option.bind_some]
    dsimp only
    show _ = some (if (failsM true ar lf).1 = true then (10, (failsM true ar lf).2.1, (failsM true ar lf).2.2.1, (failsM true ar lf).2.2.2, ds, ws) else (0, (failsM true ar lf).2.1, (failsM true ar lf).2.2.1, (failsM true ar lf).2.2.2, flushed ds ws, []))
    generalize failsM true ar lf = f
    obtain ⟨b, on', ar', lf'⟩ := f
    dsimp only
    by_cases h3 : b = true
    · rw [if_pos h3, if_pos h3]
    · rw [if_neg h3, if_neg h3]
      refine loop6 (fun q (i : Int) on2 ar2 lf2 ws2 (ds2 : List Sc) r => on' = on2 ∧ ar' = ar2 ∧ lf' = lf2 ∧ ws = ws2 ∧ r = (0, on', ar', lf', flushed ds ws, []) ∧ ∃ j : Nat, i = j ∧ j ≤ ws.length ∧ q = ws.length - j ∧ ds2 = flushed ds (ws.take j)) ?_ (n + 1) ws.length _ _ _ _ _ _ _ ⟨rfl, rfl, rfl, rfl, rfl, 0, rfl, Nat.zero_le _, rfl, rfl⟩ hn
      rintro q self i on2 ar2 lf2 ws2 ds2 r ⟨rfl, rfl, rfl, rfl, rfl, j, rfl, hj, rfl, rfl⟩ ih
      by_cases hlt : j < ws.length
      · have hst := pw_take hlt
        have hw := hok.wr _ (List.getElem_mem hlt)
        have hfl := flushed_len (ws.take j) ds
        rw [if_pos (lssT (by omega)), if_pos (decT (by omega)), if_pos (decT (by omega)), pw_at hlt]
        show (if decide (0 ≤ ws[j].1) = true then if decide (ws[j].1 < (((flushed ds (ws.take j)).length : Nat) : Int)) = true then self (arith .add .i64 (j : Int) 1) on' ar' lf' ws ((flushed ds (ws.take j)).set ws[j].1.toNat ws[j].2.1) else none else none) = _
        rw [if_pos (decT hw.1), if_pos (decT (by omega)), add64 (by omega)]
        exact ih (ws.length - (j + 1)) _ _ _ _ _ _ (by omega) ⟨rfl, rfl, rfl, rfl, rfl, j + 1, by omega, by omega, rfl, by rw [hst, flushed_snoc]⟩
      · rw [if_neg (lssF (by omega)), List.take_of_length_le (by omega)]
theorem mm_rng (i : Int) (h : 0 ≤ i) : 0 ≤ mm false i 63 := by
  unfold mm
  rw [if_neg (by decide)]
  split <;> omega
theorem surv_spec (n : Nat) (i keep : Int) (h : 0 ≤ i) : c27 (F (n + 1)) i keep = some (surv keep i) := by
  rw [t27]
  unfold R27
  dsimp only [Alg.real]
  rw [if_pos (decT (mm_rng i h))]
  rfl
theorem crash_spec (n : Nat) (keep torn : Int) (on ar : Bool) (lf : Int) (ds : List Sc) (ws : List Pw) (hok : DOk ds ws) (hn : ws.length < n + 1) :
    c15 (F (n + 2)) keep torn on ar lf ds ws = some (false, false, lf, crashed keep torn (lastS keep ws.length 0 (-1)) 0 ds ws, []) := by
  show c15 (F (n + 1 + 1)) keep torn on ar lf ds ws = _
  rw [t15]
  unfold R15
  dsimp only [Alg.real]
  have hwl := hok.wl
  refine loop8 (fun q (last : Int) (i : Int) on' ar' lf' keep' ds' ws' r => on = on' ∧ ar = ar' ∧ lf = lf' ∧ keep = keep' ∧ ds = ds' ∧ ws = ws' ∧ r = (false, false, lf, crashed keep torn (lastS keep ws.length 0 (-1)) 0 ds ws, []) ∧ ∃ j : Nat, i = j ∧ j ≤ ws.length ∧ q = ws.length - j ∧ lastS keep (ws.length - j) j last = lastS keep ws.length 0 (-1)) ?_ (n + 1) ws.length _ _ _ _ _ _ _ _ _ ⟨rfl, rfl, rfl, rfl, rfl, rfl, rfl, 0, rfl, Nat.zero_le _, rfl, rfl⟩ hn
  rintro q self last i on' ar' lf' keep' ds' ws' r ⟨rfl, rfl, rfl, rfl, rfl, rfl, rfl, j, rfl, hj, rfl, hla⟩ ih
  by_cases hlt : j < ws.length
  · rw [if_pos (lssT (by omega)), surv_spec n (j : Int) keep (by omega), Option.bind_some]
    have hl1 : lastS keep (ws.length - j) j last = lastS keep (ws.length - (j + 1)) (j + 1) (if surv keep (j : Int) = true then (j : Int) else last) := by
      rw [show ws.length - j = (ws.length - (j + 1)) + 1 by omega]
      rfl
    rw [hl1] at hla
    by_cases hs : surv keep (j : Int) = true
    · rw [if_pos hs, add64 (by omega)]
      rw [if_pos hs] at hla
      exact ih (ws.length - (j + 1)) _ _ _ _ _ _ _ _ (by omega) ⟨rfl, rfl, rfl, rfl, rfl, rfl, rfl, j + 1, by omega, by omega, rfl, hla⟩
    · rw [if_neg hs, add64 (by omega)]
      rw [if_neg hs] at hla
      exact ih (ws.length - (j + 1)) _ _ _ _ _ _ _ _ (by omega) ⟨rfl, rfl, rfl, rfl, rfl, rfl, rfl, j + 1, by omega, by omega, rfl, hla⟩
  · have hlast : last = lastS keep ws.length 0 (-1) := by
      rw [show ws.length - j = 0 by omega] at hla
      exact hla
    rw [if_neg (lssF (by omega)), ← hlast]
    clear ih hla hlast hj hlt self
    refine loop7 (fun q (i : Int) on' ar' lf' keep' ws' (ds' : List Sc) r => on = on' ∧ ar = ar' ∧ lf = lf' ∧ keep = keep' ∧ ws = ws' ∧ r = (false, false, lf, crashed keep torn last 0 ds ws, []) ∧ ∃ j : Nat, i = j ∧ j ≤ ws.length ∧ q = ws.length - j ∧ ds'.length = ds.length ∧ (∀ s ∈ ds', s.length = 64) ∧ crashed keep torn last j ds' (ws.drop j) = crashed keep torn last 0 ds ws) ?_ (n + 1) ws.length _ _ _ _ _ _ _ _ ⟨rfl, rfl, rfl, rfl, rfl, rfl, 0, rfl, Nat.zero_le _, rfl, rfl, hok.sec, rfl⟩ hn
    rintro q self i on' ar' lf' keep' ws' ds' r ⟨rfl, rfl, rfl, rfl, rfl, rfl, j, rfl, hj, rfl, hdl, hds, hcr⟩ ih
    by_cases hlt : j < ws.length
    · have hw := hok.wr _ (List.getElem_mem hlt)
      rw [if_pos (lssT (by omega)), if_pos (decT (by omega)), if_pos (decT (by omega)), surv_spec n (j : Int) keep (by omega), Option.bind_some, pw_at hlt]
      rw [List.drop_eq_getElem_cons hlt, crashed] at hcr
      generalize ws[j] = x at *
      have hnext : ∀ ds2, ds2.length = ds.length → (∀ s ∈ ds2, s.length = 64) → crashed keep torn last (j + 1) ds2 (ws.drop (j + 1)) = crashed keep torn last 0 ds ws → self (arith .add .i64 (j : Int) 1) on ar lf keep ws ds2 = some (false, false, lf, crashed keep torn last 0 ds ws, []) := fun ds2 g1 g2 g3 => by
        rw [add64 (by omega)]
        exact ih (ws.length - (j + 1)) _ _ _ _ _ _ _ (by omega) ⟨rfl, rfl, rfl, rfl, rfl, rfl, j + 1, by omega, by omega, rfl, g1, g2, g3⟩
      by_cases hs : surv keep (j : Int) = true
      · rw [if_neg (notF hs)]
        rw [if_pos hs] at hcr
        have hz : ∀ size : Int, size = sizeS last torn j → (if decide (0 ≤ x.1) = true then if decide (x.1 < ((ds'.length : Nat) : Int)) = true then if decide ((0 : Int) ≤ 0) = true then if decide (0 ≤ size) = true then if decide (size ≤ ((64 : Nat) : Int)) = true then if decide ((0 : Int) ≤ 0) = true then if decide (0 ≤ size) = true then if decide (size ≤ ((64 : Nat) : Int)) = true then
            self (arith .add .i64 (j : Int) 1) on ar lf keep ws (ds'.set x.1.toNat (((ds'.getD x.1.toNat zSc).take 0) ++ ((x.2.1.take size.toNat).take (min (x.2.1.take size.toNat).length size.toNat) ++ (ds'.getD x.1.toNat zSc).drop (0 + min (x.2.1.take size.toNat).length size.toNat)))) else none else none else none else none else none else none else none else none) = some (false, false, lf, crashed keep torn last 0 ds ws, []) := by
          intro size hsz
          have hr := sizeS_rng last torn j
          rw [← hsz] at hr
          have hg := getD_sec hds x.1.toNat
          have hl1 : (x.2.1.take size.toNat).length = size.toNat := by rw [List.length_take]; omega
          rw [if_pos (decT hw.1), if_pos (decT (by omega)), if_pos (decT (by decide)), if_pos (decT hr.1), if_pos (decT (by omega)), if_pos (decT (by decide)), if_pos (decT hr.1), if_pos (decT (by omega)), hl1, Nat.min_self, Nat.zero_add, List.take_zero, List.nil_append, List.take_of_length_le (by omega : (x.2.1.take size.toNat).length ≤ size.toNat), hsz]
          refine hnext _ (by rw [List.length_set]; exact hdl) (set_sec hds ?_) hcr
          rw [← hsz, List.length_append, hl1, List.length_drop]
          omega
        unfold sizeS at hz
        by_cases h1 : (j : Int) = last
        · rw [if_pos (eqlT h1)]
          by_cases h2 : torn ≥ 0
          · rw [if_pos (geqT h2)]
            by_cases h3 : torn < 64
            · rw [if_pos (lssT h3)]
              exact hz torn (by rw [if_pos ⟨h1, h2, h3⟩])
            · rw [if_neg (lssF h3)]
              exact hz 64 (by rw [if_neg (fun h => h3 h.2.2)])
          · rw [if_neg (geqF h2), if_neg (by decide)]
            exact hz 64 (by rw [if_neg (fun h => h2 h.2.1)])
        · rw [if_neg (eqlF h1), if_neg (by decide)]
          exact hz 64 (by rw [if_neg (fun h => h1 h.1)])
      · rw [if_pos (notT hs)]
        rw [if_neg hs] at hcr
        exact hnext _ hdl hds hcr
    · rw [if_neg (lssF (by omega))]
      rw [List.drop_of_length_le (by omega), crashed] at hcr
      rw [hcr]
end Go.Sym.T6

namespace Go.Sym.T6
set_option maxRecDepth 1000000
theorem Ans.bind {α β : Type} {x : Nat → Option α} {f : Nat → α → Option β} {a : α} {y : β} (h : Ans x a) (h2 : Ans (fun n => f n a) y) : Ans (fun n => (x n).bind (f n)) y := by
  obtain ⟨N, h⟩ := h
  obtain ⟨M, h2⟩ := h2
  refine ⟨N + M, fun n hn => ?_⟩
  have h1 := h n (by omega)
  have h3 := h2 n (by omega)
  show (x n).bind (f n) = some y
  rw [h1]
  exact h3
theorem Ans.yes {α : Type} {c : Bool} {x x' : Nat → Option α} {y : α} (hc : c = true) (h : Ans x y) : Ans (fun n => if c = true then x n else x' n) y := by
  subst hc
  exact h
theorem Ans.no {α : Type} {c : Bool} {x x' : Nat → Option α} {y : α} (hc : ¬ c = true) (h : Ans x' y) : Ans (fun n => if c = true then x n else x' n) y := by
  have hc : c = false := by simpa using hc
  subst hc
  exact h
theorem Ans.val {α : Type} (y : α) : Ans (fun _ => some y) y := Ans.of fun _ => rfl
theorem Ans.join {F α : Type} {J : Nat → F} {K : Nat → F → Option α} {y : α} (h : ∀ J', J' = J → Ans (fun n => K n (J' n)) y) : Ans (fun n => Alg.real.join (J n) (K n)) y := h J rfl
/-- From k on. -/
theorem Ans.from {α : Type} {x : Nat → Option α} {y : α} (k : Nat) (h : ∀ n, x (n + k) = some y) : Ans x y := ⟨k, fun n hn => by
  obtain ⟨m, rfl⟩ : ∃ m, n = m + k := ⟨n - k, by omega⟩
  exact h m⟩
/-- Forty more. -/
def up40 (m : Nat) : Nat := (Nat.succ (Nat.succ (Nat.succ (Nat.succ (Nat.succ (Nat.succ (Nat.succ (Nat.succ (Nat.succ (Nat.succ (Nat.succ (Nat.succ (Nat.succ (Nat.succ (Nat.succ (Nat.succ (Nat.succ (Nat.succ (Nat.succ (Nat.succ (Nat.succ (Nat.succ (Nat.succ (Nat.succ (Nat.succ (Nat.succ (Nat.succ (Nat.succ (Nat.succ (Nat.succ (Nat.succ (Nat.succ (Nat.succ (Nat.succ (Nat.succ (Nat.succ (Nat.succ (Nat.succ (Nat.succ (Nat.succ m))))))))))))))))))))))))))))))))))))))))
theorem awakeT (m : Nat) : c18 (T (up40 m)) = some true := by kernel_rfl
theorem awake_ans : Ans (fun n => c18 (F n)) true := Ans.from 40 fun m => by
  have h := awakeT m
  rw [T_eq] at h
  exact h
end Go.Sym.T6
