/- What the law on flushed contents computes. -/
import Derived.Test.YtggcbphplabngaaSpFl
import Derived.Test.YtggcbphplabngaaPl
set_option linter.unusedVariables false
namespace Go.Sym.T6
set_option maxRecDepth 100000
theorem small_spec (n : Nat) (x k : Int) (hk : k ≠ 0) : c12 (F (n + 1)) x k = some (smallM x k) := by
  rw [t12]
  unfold R12 smallM
  dsimp only [Alg.real]
  by_cases h : cmpI .eql (arith .and .i64 x 15) 15 = true
  · rw [if_pos h, if_pos h]
  · rw [if_neg h, if_neg h, if_neg (by simpa using hk)]
theorem oq_at {l : List Oq} {j : Nat} (h : j < l.length) (d : Oq) : l.getD (Int.toNat (j : Int)) d = l[j] := by
  rw [Int.toNat_natCast, List.getD_eq_getElem?_getD, List.getElem?_eq_getElem h]
  rfl
theorem oq_take {l : List Oq} {j : Nat} (h : j < l.length) : l.take (j + 1) = l.take j ++ [l[j]] := by
  rw [List.take_add_one, List.getElem?_eq_getElem h]
  rfl
theorem fits_spec (n : Nat) (l : List Oq) (most : Int) (hm : most < 1000000) (hn : l.length < n) : c9 (F (n + 1)) l most = some (fitsM l most) := by
  rw [t9]
  unfold R9 fitsM
  dsimp only [Alg.real]
  by_cases h : (l.length : Int) ≤ most
  · rw [if_neg (gtrF (by omega)), decide_eq_true h, Bool.true_and]
    refine loop1 (fun q (i : Int) r => ∃ j : Nat, i = j ∧ j ≤ l.length ∧ q = l.length - j ∧ r = l.all (fun x => decide (x.2.2.2.2.1.length ≤ 80)) ∧ (l.take j).all (fun x => decide (x.2.2.2.2.1.length ≤ 80)) = true) ?_ n l.length _ _ ⟨0, rfl, by omega, by omega, rfl, rfl⟩ hn
    rintro q self i r ⟨j, rfl, hj, rfl, rfl, hall⟩ ih
    by_cases hlt : j < l.length
    · rw [if_pos (lssT (by omega)), if_pos (decT (by omega)), if_pos (decT (by omega)), oq_at hlt]
      by_cases h1 : l[j].2.2.2.2.1.length ≤ 80
      · rw [if_neg (gtrF (by omega)), add64 (by omega)]
        refine ih (l.length - (j + 1)) _ (by omega) ⟨j + 1, by omega, by omega, rfl, rfl, ?_⟩
        rw [oq_take hlt, List.all_append, hall]
        simpa using h1
      · rw [if_pos (gtrT (by omega))]
        have : l.all (fun x => decide (x.2.2.2.2.1.length ≤ 80)) = false := by
          rw [List.all_eq_false]
          exact ⟨_, List.getElem_mem hlt, by simpa using h1⟩
        rw [this]
    · rw [List.take_of_length_le (by omega)] at hall
      rw [if_neg (lssF (by omega)), hall]
  · rw [if_pos (gtrT (by omega)), decide_eq_false h]
    rfl
theorem fits_ans (l : List Oq) (most : Int) (hm : most < 1000000) : Ans (fun n => c9 (F n) l most) (fitsM l most) := Ans.from (l.length + 2) fun n => fits_spec (n + l.length + 1) l most hm (by omega)
/-- Where a write lies, if it is taken. -/
theorem app1_mem {n : Nat} {ws : List Pw} {p : Int} {b : List Int} {x : Pw} (h : x ∈ app1 n ws p b) : x ∈ ws ∨ (x.1 = p ∧ (0 ≤ p ∧ p < (n : Int)) ∧ b.length ≤ 64) := by
  unfold app1 at h
  split at h
  · rename_i hc
    rcases List.mem_append.1 h with h | h
    · exact .inl h
    · rw [List.mem_singleton] at h
      rw [h]
      exact .inr ⟨rfl, hc⟩
  · exact .inl h
abbrev bytesI (l : List Int) : ByteArray := ByteArray.mk (List.toArray (List.map (fun x => UInt8.ofNat (Int.toNat x)) l))
theorem getB_set (l : List Bool) (i j : Nat) : (l.set i true).getD j false = if i = j ∧ i < l.length then true else l.getD j false := by
  rw [List.getD_eq_getElem?_getD, List.getD_eq_getElem?_getD, List.getElem?_set]
  split
  · rename_i e
    subst e
    split
    · rename_i h
      rw [if_pos ⟨rfl, h⟩]
      rfl
    · rename_i h
      rw [if_neg (fun hh => h hh.2), List.getElem?_eq_none (by omega)]
  · rename_i h
    rw [if_neg (fun hh => h hh.1)]
theorem getS_set (l : List (List Int)) (i j : Nat) (x : List Int) : (l.set i x).getD j [] = if i = j ∧ i < l.length then x else l.getD j [] := by
  rw [List.getD_eq_getElem?_getD, List.getD_eq_getElem?_getD, List.getElem?_set]
  split
  · rename_i e
    subst e
    split
    · rename_i h
      rw [if_pos ⟨rfl, h⟩]
      rfl
    · rename_i h
      rw [if_neg (fun hh => h hh.2), List.getElem?_eq_none (by omega)]
  · rename_i h
    rw [if_neg (fun hh => h hh.1)]
theorem durable_ans (l1 l2 : List Oq) (keep torn : Int) : Ans (fun n => c3 (F n) l1 l2 keep torn) true := by
  refine Ans.step (x' := fun n => R3 .real (F n) n l1 l2 keep torn) ?_ (fun n => by rw [t3])
  unfold R3
  dsimp only [real_bind, real_branch]
  refine Ans.join fun J8 h8 => ?_
  refine Ans.bind (fits_ans l1 20 (by decide)) ?_
  suffices h : ∀ q, (q = true ∨ (q = false ∧ l1.length ≤ 20 ∧ l2.length ≤ 20)) → Ans (fun n => J8 n q) true by
    by_cases f1 : fitsM l1 20 = true
    · refine Ans.no (notF f1) (Ans.bind (fits_ans l2 20 (by decide)) (h _ ?_))
      by_cases f2 : fitsM l2 20 = true
      · right
        unfold fitsM at f1
        refine ⟨by rw [f2]; rfl, ?_, ?_⟩
        · simp only [Bool.and_eq_true, decide_eq_true_eq] at f1
          omega
        · unfold fitsM at f2
          simp only [Bool.and_eq_true, decide_eq_true_eq] at f2
          omega
      · left
        exact notT f2
    · exact Ans.yes (notT f1) (h _ (.inl rfl))
  subst h8
  rintro q (rfl | ⟨rfl, hl1, hl2⟩)
  · exact Ans.yes rfl (Ans.val _)
  refine Ans.no (by decide) ?_
  refine Ans.bind (new_ans 4 (by decide) (by decide)) ?_
  dsimp only
  refine Ans.join fun J10 h10 => ?_
  refine Ans.no (neqF rfl) ?_
  subst h10
  refine Ans.no (by decide) ?_
  have hds0 : (List.replicate (Int.toNat 4) zSc).length = 4 := rfl
  have hok0 : DOk (List.replicate (Int.toNat 4) zSc) [] := ⟨by rw [hds0]; decide, zeros_sec 4, fun x hx => (by cases hx), by simp⟩
  generalize List.replicate (Int.toNat 4) zSc = ds0 at *
  obtain ⟨N3, haw⟩ := awake_ans
  refine ⟨N3 + 1000, fun n hn => ?_⟩
  obtain ⟨m, rfl⟩ : ∃ m, n = m + 500 := ⟨n - 500, by omega⟩
  have haw : c18 (F (m + 500)) = _ := haw (m + 500) (by omega)
  dsimp only [Alg.real]
  -- the first writes
  refine loop6 (fun q (i : Int) on ar lf ds' (ws : List Pw) r => true = on ∧ false = ar ∧ 0 = lf ∧ ds0 = ds' ∧ r = true ∧ ∃ j : Nat, i = j ∧ j ≤ l1.length ∧ q = l1.length - j ∧ ws = wrs ds0.length (l1.take j) []) ?_ (m + 500) l1.length _ _ _ _ _ _ _ ⟨rfl, rfl, rfl, rfl, rfl, 0, rfl, Nat.zero_le _, rfl, rfl⟩ (by omega)
  rintro q self i on ar lf ds' ws r ⟨rfl, rfl, rfl, rfl, rfl, j, rfl, hj, rfl, rfl⟩ ih
  obtain ⟨hok, hwl⟩ := wrs_ok (ds := ds0) (l1.take j) [] hok0 (by rw [List.length_take]; simp; omega)
  rw [List.length_take] at hwl
  replace hwl : (wrs ds0.length (l1.take j) []).length ≤ 20 := by
    have : ([] : List Pw).length = 0 := rfl
    omega
  by_cases hlt : j < l1.length
  · rw [if_pos (lssT (by omega)), if_pos (decT (by omega)), if_pos (decT (by omega)), oq_at hlt, small_spec (m + 499) _ 4 (by decide), Option.bind_some, if_pos (decT (by omega)), if_pos (decT (by omega))]
    rw [write_spec (m + 498) _ _ true false 0 ds0 _ (by decide) (by omega), writeM_app.1, Option.bind_some]
    dsimp only
    rw [add64 (by omega)]
    refine ih (l1.length - (j + 1)) _ _ _ _ _ _ (by omega) ⟨rfl, rfl, rfl, rfl, rfl, j + 1, by omega, by omega, rfl, ?_⟩
    rw [oq_take hlt, wrs_snoc, hds0]
    rfl
  · rw [if_neg (lssF (by omega)), flush_spec (m + 498) true false 0 ds0 _ hok (by decide) (by omega), flushM_ok, Option.bind_some]
    have hokf : DOk (flushed ds0 (wrs ds0.length (l1.take j) [])) [] := ⟨by rw [flushed_len]; exact hok.len, flushed_sec _ _ hok.sec (fun x hx => (hok.wr x hx).2.2), fun x hx => (by cases hx), by simp⟩
    have hfl : (flushed ds0 (wrs ds0.length (l1.take j) [])).length = 4 := by rw [flushed_len, hds0]
    generalize flushed ds0 (wrs ds0.length (l1.take j) []) = ds at *
    dsimp only
    rw [if_neg (neqF rfl)]
    clear ih hlt hj hok hwl self j hok0 hds0
    -- what stands there
    refine loop8 (fun q (i : Int) on ar lf (was : List (List (List Int))) (wr : List (List Bool)) ds' (ws : List Pw) r => true = on ∧ false = ar ∧ 0 = lf ∧ ds = ds' ∧ [] = ws ∧ r = true ∧ ∃ (j : Nat) (w1 : List (List Int)), i = j ∧ j ≤ 4 ∧ q = 4 - j ∧ was = [w1] ∧ wr = [List.replicate 4 false] ∧ w1.length = 4 ∧ ∀ p, p < j → w1.getD p [] = ds.getD p zSc) ?_ (m + 500) 4 _ _ _ _ _ _ _ _ _ ⟨rfl, rfl, rfl, rfl, rfl, rfl, 0, List.replicate 4 [], rfl, by decide, rfl, rfl, rfl, rfl, fun p hp => absurd hp (Nat.not_lt_zero _)⟩ (by omega)
    rintro q self i on ar lf was wr ds' ws r ⟨rfl, rfl, rfl, rfl, rfl, rfl, j, w1, rfl, hj, rfl, rfl, rfl, hw1, hwas⟩ ih
    by_cases hlt : j < 4
    · rw [if_pos (lssT (by omega)), read_spec (m + 498) (j : Int) true false 0 ds [] hokf (by simp), readM_ok (by omega), Option.bind_some]
      dsimp only
      rw [if_pos (decT (by omega)), if_pos (decT (by omega)), add64 (by omega)]
      refine ih (4 - (j + 1)) _ _ _ _ _ _ _ _ (by omega) ⟨rfl, rfl, rfl, rfl, rfl, rfl, j + 1, w1.set j (ds.getD j zSc), by omega, by omega, rfl, ?_, rfl, by rw [List.length_set]; exact hw1, fun p hp => ?_⟩
      · rw [Int.toNat_natCast]
        rfl
      · rw [getS_set]
        split
        · rename_i h
          rw [h.1]
        · rename_i h
          exact hwas p (by omega)
    · have ej : j = 4 := by omega
      subst ej
      rw [if_neg (lssF (by omega))]
      clear ih hlt hj self
      -- the later writes
      refine loop8 (fun q (i : Int) on ar lf (was : List (List (List Int))) (wr : List (List Bool)) ds' (ws : List Pw) r => true = on ∧ false = ar ∧ 0 = lf ∧ [w1] = was ∧ ds = ds' ∧ r = true ∧ ∃ (j : Nat) (g : List Bool), i = j ∧ j ≤ l2.length ∧ q = l2.length - j ∧ wr = [g] ∧ g.length = 4 ∧ DOk ds ws ∧ ws.length ≤ j ∧ ∀ x ∈ ws, g.getD x.1.toNat false = true) ?_ (m + 500) l2.length _ _ _ _ _ _ _ _ _ ⟨rfl, rfl, rfl, rfl, rfl, rfl, 0, List.replicate 4 false, rfl, Nat.zero_le _, rfl, rfl, rfl, hokf, Nat.zero_le _, fun x hx => by cases hx⟩ (by omega)
      rintro q self i on ar lf was wr ds' ws r ⟨rfl, rfl, rfl, rfl, rfl, rfl, j, g, rfl, hj, rfl, rfl, hg, hok, hwl, hmk⟩ ih
      by_cases hlt : j < l2.length
      · rw [if_pos (lssT (by omega)), if_pos (decT (by omega)), if_pos (decT (by omega)), oq_at hlt, small_spec (m + 499) _ 4 (by decide), Option.bind_some, if_pos (decT (by omega)), if_pos (decT (by omega))]
        generalize l2[j] = o at *
        obtain ⟨e1, e2⟩ := writeM_app (p := smallM o.2.1 4) (b := o.2.2.2.2.1) (lf := 0) (ds := ds) (ws := ws)
        obtain ⟨a1, a2⟩ := app1_ok hok (p := smallM o.2.1 4) (b := o.2.2.2.2.1) (by omega)
        rw [write_spec (m + 498) (smallM o.2.1 4) o.2.2.2.2.1 true false 0 ds ws (by decide) (by omega), e1, Option.bind_some]
        dsimp only
        by_cases h0 : (writeM (smallM o.2.1 4) o.2.2.2.2.1 true false 0 ds ws).1 = 0
        · obtain ⟨hp, hb⟩ := e2.1 h0
          rw [if_pos (eqlT h0), if_pos (decT hp.1), if_pos (decT (by omega)), add64 (by omega)]
          refine ih (l2.length - (j + 1)) _ _ _ _ _ _ _ _ (by omega) ⟨rfl, rfl, rfl, rfl, rfl, rfl, j + 1, g.set (smallM o.2.1 4).toNat true, by omega, by omega, rfl, rfl, by rw [List.length_set]; exact hg, a1, by omega, fun x hx => ?_⟩
          rw [getB_set]
          split
          · rfl
          · rename_i hne
            rcases app1_mem hx with hx | ⟨hx, _⟩
            · exact hmk x hx
            · exact absurd ⟨by rw [hx], by omega⟩ hne
        · have e3 : app1 ds.length ws (smallM o.2.1 4) o.2.2.2.2.1 = ws := by
            unfold app1
            exact if_neg (fun h => h0 (e2.2 h))
          rw [if_neg (eqlF h0), e3, add64 (by omega)]
          exact ih (l2.length - (j + 1)) _ _ _ _ _ _ _ _ (by omega) ⟨rfl, rfl, rfl, rfl, rfl, rfl, j + 1, g, by omega, by omega, rfl, rfl, hg, hok, by omega, hmk⟩
      · rw [if_neg (lssF (by omega)), crash_spec (m + 498) keep torn true false 0 ds ws hok (by omega), Option.bind_some]
        dsimp only
        obtain ⟨k1, k2⟩ := crashed_ok ws 0 ds keep torn (lastS keep ws.length 0 (-1)) hok.sec (fun x hx => (hok.wr x hx).2.2)
        have hkeep : ∀ p, g.getD p false = false → (crashed keep torn (lastS keep ws.length 0 (-1)) 0 ds ws).getD p zSc = ds.getD p zSc := fun p hp => crashed_keep ws 0 ds (fun x hx => ⟨(hok.wr x hx).1, fun e => by
          have := hmk x hx
          rw [show x.1.toNat = p by omega, hp] at this
          cases this⟩)
        have hokc : DOk (crashed keep torn (lastS keep ws.length 0 (-1)) 0 ds ws) [] := ⟨by rw [k1]; exact hok.len, k2, fun x hx => (by cases hx), by simp⟩
        generalize crashed keep torn (lastS keep ws.length 0 (-1)) 0 ds ws = dc at *
        rw [power_spec (m + 499), Option.bind_some]
        dsimp only
        clear ih hlt hj self hmk hok hwl ws
        -- the look back
        refine loop8 (fun q (i : Int) on ar lf (was : List (List (List Int))) (wr : List (List Bool)) ds' (ws : List Pw) r => true = on ∧ false = ar ∧ 0 = lf ∧ [w1] = was ∧ [g] = wr ∧ dc = ds' ∧ [] = ws ∧ r = true ∧ ∃ j : Nat, i = j ∧ j ≤ 4 ∧ q = 4 - j) ?_ (m + 500) 4 _ _ _ _ _ _ _ _ _ ⟨rfl, rfl, rfl, rfl, rfl, rfl, rfl, rfl, 0, rfl, by decide, rfl⟩ (by omega)
        rintro q self i on ar lf was wr ds' ws r ⟨rfl, rfl, rfl, rfl, rfl, rfl, rfl, rfl, j, rfl, hj, rfl⟩ ih
        by_cases hlt : j < 4
        · have hnext : self (arith .add .i64 (j : Int) 1) true false 0 [w1] [g] dc [] = some true := by
            rw [add64 (by omega)]
            exact ih (4 - (j + 1)) _ _ _ _ _ _ _ _ (by omega) ⟨rfl, rfl, rfl, rfl, rfl, rfl, rfl, rfl, j + 1, by omega, by omega, rfl⟩
          rw [if_pos (lssT (by omega)), read_spec (m + 498) (j : Int) true false 0 dc [] hokc (by simp), readM_ok (by omega), Option.bind_some]
          dsimp only
          rw [if_neg (neqF rfl), if_pos (decT (by omega)), if_pos (decT (by omega))]
          show (if (!(g.getD (Int.toNat (j : Int)) false)) = true then _ else _) = _
          rw [Int.toNat_natCast]
          by_cases hgj : g.getD j false = true
          · rw [if_neg (notF hgj), if_neg (by decide)]
            exact hnext
          · rw [if_pos (notT hgj), if_pos (decT (by omega)), if_pos (decT (by omega))]
            show (if cmpS .neq (bytesI (dc.getD j zSc)) (bytesI (w1.getD (Int.toNat (j : Int)) [])) = true then some false else self (arith .add .i64 (j : Int) 1) true false 0 [w1] [g] dc []) = _
            rw [Int.toNat_natCast, hwas j (by omega), hkeep j (Bool.eq_false_iff.2 hgj), if_neg (cmpS_neq _)]
            exact hnext
        · rw [if_neg (lssF (by omega)), pend_spec (m + 499), Option.bind_some]
          dsimp only
          rw [if_pos (eqlT (show ((([] : List Pw).length : Nat) : Int) = 0 from rfl)), haw]
          rfl
end Go.Sym.T6
