/- What the law on kept writes computes. -/
import Derived.Test.YtggcbphplabngaaSpDu
import Derived.Test.YtggcbphplabngaaPl
set_option linter.unusedVariables false
namespace Go.Sym.T6
set_option maxRecDepth 100000
theorem keeps_ans (l1 l2 : List Oq) : Ans (fun n => c4 (F n) l1 l2) true := by
  refine Ans.step (x' := fun n => R4 .real (F n) n l1 l2) ?_ (fun n => by rw [t4])
  unfold R4
  dsimp only [real_bind, real_branch]
  refine Ans.join fun J6 h6 => ?_
  refine Ans.bind (fits_ans l1 10 (by decide)) ?_
  suffices h : ∀ q, (q = true ∨ (q = false ∧ l1.length ≤ 10 ∧ l2.length ≤ 60)) → Ans (fun n => J6 n q) true by
    by_cases f1 : fitsM l1 10 = true
    · refine Ans.no (notF f1) (Ans.bind (fits_ans l2 60 (by decide)) (h _ ?_))
      by_cases f2 : fitsM l2 60 = true
      · right
        unfold fitsM at f1
        refine ⟨by rw [f2]; rfl, ?_, ?_⟩
        · simp only [Bool.and_eq_true, decide_eq_true_eq] at f1
          omega
        · unfold fitsM at f2
          simp only [Bool.and_eq_true, decide_eq_true_eq] at f2
          omega
      · left
        exact notT f2
    · exact Ans.yes (notT f1) (h _ (.inl rfl))
  subst h6
  rintro q (rfl | ⟨rfl, hl1, hl2⟩)
  · exact Ans.yes rfl (Ans.val _)
  refine Ans.no (by decide) ?_
  refine Ans.bind (new_ans 4 (by decide) (by decide)) (Ans.bind (new_ans 4 (by decide) (by decide)) ?_)
  dsimp only
  refine Ans.join fun J9 h9 => ?_
  refine Ans.no (neqF rfl) (Ans.no (neqF rfl) ?_)
  subst h9
  refine Ans.no (by decide) ?_
  have hds0 : (List.replicate (Int.toNat 4) zSc).length = 4 := rfl
  have hok0 : DOk (List.replicate (Int.toNat 4) zSc) [] := ⟨by rw [hds0]; decide, zeros_sec 4, fun x hx => (by cases hx), by simp⟩
  generalize List.replicate (Int.toNat 4) zSc = ds0 at *
  obtain ⟨N3, haw⟩ := awake_ans
  refine ⟨N3 + 1000, fun n hn => ?_⟩
  obtain ⟨m, rfl⟩ : ∃ m, n = m + 500 := ⟨n - 500, by omega⟩
  have haw : c18 (F (m + 500)) = _ := haw (m + 500) (by omega)
  dsimp only [Alg.real]
  -- the first writes
  refine loop11 (fun q (i : Int) on ar lf on2 ar2 lf2 da (wa : List Pw) db (wb : List Pw) r => true = on ∧ false = ar ∧ 0 = lf ∧ true = on2 ∧ false = ar2 ∧ 0 = lf2 ∧ ds0 = da ∧ ds0 = db ∧ r = true ∧ ∃ j : Nat, i = j ∧ j ≤ l1.length ∧ q = l1.length - j ∧ wa = wrs ds0.length (l1.take j) [] ∧ wb = wrs ds0.length (l1.take j) []) ?_ (m + 500) l1.length _ _ _ _ _ _ _ _ _ _ _ _ ⟨rfl, rfl, rfl, rfl, rfl, rfl, rfl, rfl, rfl, 0, rfl, Nat.zero_le _, rfl, rfl, rfl⟩ (by omega)
  rintro q self i on ar lf on2 ar2 lf2 da wa db wb r ⟨rfl, rfl, rfl, rfl, rfl, rfl, rfl, rfl, rfl, j, rfl, hj, rfl, rfl, rfl⟩ ih
  obtain ⟨hok, hwl⟩ := wrs_ok (ds := ds0) (l1.take j) [] hok0 (by rw [List.length_take]; simp; omega)
  rw [List.length_take] at hwl
  replace hwl : (wrs ds0.length (l1.take j) []).length ≤ 10 := by
    have : ([] : List Pw).length = 0 := rfl
    omega
  by_cases hlt : j < l1.length
  · have hsn : wrs ds0.length (l1.take (j + 1)) [] = app1 ds0.length (wrs ds0.length (l1.take j) []) (smallM l1[j].2.1 4) l1[j].2.2.2.2.1 := by
      rw [oq_take hlt, wrs_snoc, hds0]
      rfl
    rw [if_pos (lssT (by omega)), if_pos (decT (by omega)), if_pos (decT (by omega)), oq_at hlt, small_spec (m + 499) _ 4 (by decide), Option.bind_some, if_pos (decT (by omega)), if_pos (decT (by omega))]
    rw [write_spec (m + 498) _ _ true false 0 ds0 _ (by decide) (by omega), writeM_app.1, Option.bind_some]
    dsimp only
    rw [if_pos (decT (by omega)), if_pos (decT (by omega)), Option.bind_some, if_pos (decT (by omega)), if_pos (decT (by omega)), write_spec (m + 498) _ _ true false 0 ds0 _ (by decide) (by omega), writeM_app.1, Option.bind_some]
    dsimp only
    rw [add64 (by omega), ← hsn]
    exact ih (l1.length - (j + 1)) _ _ _ _ _ _ _ _ _ _ _ (by omega) ⟨rfl, rfl, rfl, rfl, rfl, rfl, rfl, rfl, rfl, j + 1, by omega, by omega, rfl, rfl, rfl⟩
  · rw [if_neg (lssF (by omega)), flush_spec (m + 498) true false 0 ds0 _ hok (by decide) (by omega), flushM_ok, Option.bind_some]
    have hokf : DOk (flushed ds0 (wrs ds0.length (l1.take j) [])) [] := ⟨by rw [flushed_len]; exact hok.len, flushed_sec _ _ hok.sec (fun x hx => (hok.wr x hx).2.2), fun x hx => (by cases hx), by simp⟩
    have hfl : (flushed ds0 (wrs ds0.length (l1.take j) [])).length = 4 := by rw [flushed_len, hds0]
    generalize flushed ds0 (wrs ds0.length (l1.take j) []) = ds at *
    dsimp only
    rw [if_neg (neqF rfl), Option.bind_some]
    dsimp only
    rw [if_neg (neqF rfl)]
    clear ih hlt hj hok hwl self j hok0 hds0
    -- what stands there
    refine loop13 (fun q (i : Int) on ar lf on2 ar2 lf2 (was now : List (List (List Int))) da (wa : List Pw) db (wb : List Pw) r => true = on ∧ false = ar ∧ 0 = lf ∧ true = on2 ∧ false = ar2 ∧ 0 = lf2 ∧ [List.replicate 4 []] = now ∧ ds = da ∧ [] = wa ∧ ds = db ∧ [] = wb ∧ r = true ∧ ∃ (j : Nat) (w1 : List (List Int)), i = j ∧ j ≤ 4 ∧ q = 4 - j ∧ was = [w1] ∧ w1.length = 4 ∧ ∀ p, p < j → w1.getD p [] = ds.getD p zSc) ?_ (m + 500) 4 _ _ _ _ _ _ _ _ _ _ _ _ _ _ ⟨rfl, rfl, rfl, rfl, rfl, rfl, rfl, rfl, rfl, rfl, rfl, rfl, 0, List.replicate 4 [], rfl, by decide, rfl, rfl, rfl, fun p hp => absurd hp (Nat.not_lt_zero _)⟩ (by omega)
    rintro q self i on ar lf on2 ar2 lf2 was now da wa db wb r ⟨rfl, rfl, rfl, rfl, rfl, rfl, rfl, rfl, rfl, rfl, rfl, rfl, j, w1, rfl, hj, rfl, rfl, hw1, hwas⟩ ih
    by_cases hlt : j < 4
    · rw [if_pos (lssT (by omega)), read_spec (m + 498) (j : Int) true false 0 ds [] hokf (by simp), readM_ok (by omega), Option.bind_some]
      dsimp only
      rw [if_pos (decT (by omega)), if_pos (decT (by omega)), add64 (by omega)]
      refine ih (4 - (j + 1)) _ _ _ _ _ _ _ _ _ _ _ _ _ (by omega) ⟨rfl, rfl, rfl, rfl, rfl, rfl, rfl, rfl, rfl, rfl, rfl, rfl, j + 1, w1.set j (ds.getD j zSc), by omega, by omega, rfl, ?_, by rw [List.length_set]; exact hw1, fun p hp => ?_⟩
      · rw [Int.toNat_natCast]
        rfl
      · rw [getS_set]
        split
        · rename_i h
          rw [h.1]
        · rename_i h
          exact hwas p (by omega)
    · have ej : j = 4 := by omega
      subst ej
      rw [if_neg (lssF (by omega))]
      clear ih hlt hj self
      -- the later writes
      refine loop13 (fun q (i : Int) on ar lf on2 ar2 lf2 (was now : List (List (List Int))) da (wa : List Pw) db (wb : List Pw) r => true = on ∧ false = ar ∧ 0 = lf ∧ true = on2 ∧ false = ar2 ∧ 0 = lf2 ∧ [w1] = was ∧ [List.replicate 4 []] = now ∧ ds = da ∧ ds = db ∧ r = true ∧ ∃ j : Nat, i = j ∧ j ≤ l2.length ∧ q = l2.length - j ∧ wa = wrs ds.length (l2.take j) [] ∧ wb = wrs ds.length (l2.take j) []) ?_ (m + 500) l2.length _ _ _ _ _ _ _ _ _ _ _ _ _ _ ⟨rfl, rfl, rfl, rfl, rfl, rfl, rfl, rfl, rfl, rfl, rfl, 0, rfl, Nat.zero_le _, rfl, rfl, rfl⟩ (by omega)
      rintro q self i on ar lf on2 ar2 lf2 was now da wa db wb r ⟨rfl, rfl, rfl, rfl, rfl, rfl, rfl, rfl, rfl, rfl, rfl, j, rfl, hj, rfl, rfl, rfl⟩ ih
      obtain ⟨hok, hwl⟩ := wrs_ok (ds := ds) (l2.take j) [] hokf (by rw [List.length_take]; simp; omega)
      rw [List.length_take] at hwl
      replace hwl : (wrs ds.length (l2.take j) []).length ≤ 60 := by
        have : ([] : List Pw).length = 0 := rfl
        omega
      by_cases hlt : j < l2.length
      · have hsn : wrs ds.length (l2.take (j + 1)) [] = app1 ds.length (wrs ds.length (l2.take j) []) (smallM l2[j].2.1 4) l2[j].2.2.2.2.1 := by
          rw [oq_take hlt, wrs_snoc, hfl]
          rfl
        rw [if_pos (lssT (by omega)), if_pos (decT (by omega)), if_pos (decT (by omega)), oq_at hlt, small_spec (m + 499) _ 4 (by decide), Option.bind_some, if_pos (decT (by omega)), if_pos (decT (by omega))]
        rw [write_spec (m + 498) _ _ true false 0 ds _ (by decide) (by omega), writeM_app.1, Option.bind_some]
        dsimp only
        rw [if_pos (decT (by omega)), if_pos (decT (by omega)), Option.bind_some, if_pos (decT (by omega)), if_pos (decT (by omega)), write_spec (m + 498) _ _ true false 0 ds _ (by decide) (by omega), writeM_app.1, Option.bind_some]
        dsimp only
        rw [add64 (by omega), ← hsn]
        exact ih (l2.length - (j + 1)) _ _ _ _ _ _ _ _ _ _ _ _ _ (by omega) ⟨rfl, rfl, rfl, rfl, rfl, rfl, rfl, rfl, rfl, rfl, rfl, j + 1, by omega, by omega, rfl, rfl, rfl⟩
      · rw [if_neg (lssF (by omega))]
        clear ih
        generalize wrs ds.length (l2.take j) [] = ws at *
        clear hlt hj self j
        -- what is seen now
        refine loop13 (fun q (i : Int) on ar lf on2 ar2 lf2 (was now : List (List (List Int))) da (wa : List Pw) db (wb : List Pw) r => true = on ∧ false = ar ∧ 0 = lf ∧ true = on2 ∧ false = ar2 ∧ 0 = lf2 ∧ [w1] = was ∧ ds = da ∧ ws = wa ∧ ds = db ∧ ws = wb ∧ r = true ∧ ∃ (j : Nat) (w2 : List (List Int)), i = j ∧ j ≤ 4 ∧ q = 4 - j ∧ now = [w2] ∧ w2.length = 4 ∧ ∀ p, p < j → w2.getD p [] = (flushed ds ws).getD p zSc) ?_ (m + 500) 4 _ _ _ _ _ _ _ _ _ _ _ _ _ _ ⟨rfl, rfl, rfl, rfl, rfl, rfl, rfl, rfl, rfl, rfl, rfl, rfl, 0, List.replicate 4 [], rfl, by decide, rfl, rfl, rfl, fun p hp => absurd hp (Nat.not_lt_zero _)⟩ (by omega)
        rintro q self i on ar lf on2 ar2 lf2 was now da wa db wb r ⟨rfl, rfl, rfl, rfl, rfl, rfl, rfl, rfl, rfl, rfl, rfl, rfl, j, w2, rfl, hj, rfl, rfl, hw2, hnow⟩ ih
        by_cases hlt : j < 4
        · rw [if_pos (lssT (by omega)), read_spec (m + 498) (j : Int) true false 0 ds ws hok (by omega), readM_ok (by omega), Option.bind_some]
          dsimp only
          rw [if_pos (decT (by omega)), if_pos (decT (by omega)), add64 (by omega)]
          refine ih (4 - (j + 1)) _ _ _ _ _ _ _ _ _ _ _ _ _ (by omega) ⟨rfl, rfl, rfl, rfl, rfl, rfl, rfl, rfl, rfl, rfl, rfl, rfl, j + 1, w2.set j (seen (ds.getD j zSc) (j : Int) ws), by omega, by omega, rfl, ?_, by rw [List.length_set]; exact hw2, fun p hp => ?_⟩
          · rw [Int.toNat_natCast]
            rfl
          · rw [getS_set]
            split
            · rename_i h
              rw [← h.1, flushed_get ws ds (fun x hx => (hok.wr x hx).1) (by omega)]
            · rename_i h
              exact hnow p (by omega)
        · have ej : j = 4 := by omega
          subst ej
          rw [if_neg (lssF (by omega))]
          clear ih hlt hj self
          have ca : crashed 18446744073709551615 (-1) (lastS 18446744073709551615 ws.length 0 (-1)) 0 ds ws = flushed ds ws := crashed_all ws 0 ds (fun x hx => (hok.wr x hx).2.2) hok.sec (fun p hp => surv_all p (by omega))
          have cb : crashed 0 0 (lastS 0 ws.length 0 (-1)) 0 ds ws = ds := crashed_none ws 0 ds surv_zero
          rw [crash_spec (m + 498) 18446744073709551615 (-1) true false 0 ds ws hok (by omega), Option.bind_some, ca]
          dsimp only
          rw [crash_spec (m + 498) 0 0 true false 0 ds ws hok (by omega), Option.bind_some, cb]
          dsimp only
          rw [power_spec (m + 499), Option.bind_some]
          dsimp only
          rw [power_spec (m + 499), Option.bind_some]
          dsimp only
          have hfl2 : (flushed ds ws).length = 4 := by rw [flushed_len, hfl]
          have hok2 : DOk (flushed ds ws) [] := ⟨by rw [hfl2]; decide, flushed_sec _ _ hok.sec (fun x hx => (hok.wr x hx).2.2), fun x hx => (by cases hx), by simp⟩
          generalize flushed ds ws = dn at *
          -- the look back
          refine loop13 (fun q (i : Int) on ar lf on2 ar2 lf2 (was now : List (List (List Int))) da (wa : List Pw) db (wb : List Pw) r => true = on ∧ false = ar ∧ 0 = lf ∧ true = on2 ∧ false = ar2 ∧ 0 = lf2 ∧ [w1] = was ∧ [w2] = now ∧ dn = da ∧ [] = wa ∧ ds = db ∧ [] = wb ∧ r = true ∧ ∃ j : Nat, i = j ∧ j ≤ 4 ∧ q = 4 - j) ?_ (m + 500) 4 _ _ _ _ _ _ _ _ _ _ _ _ _ _ ⟨rfl, rfl, rfl, rfl, rfl, rfl, rfl, rfl, rfl, rfl, rfl, rfl, rfl, 0, rfl, by decide, rfl⟩ (by omega)
          rintro q self i on ar lf on2 ar2 lf2 was now da wa db wb r ⟨rfl, rfl, rfl, rfl, rfl, rfl, rfl, rfl, rfl, rfl, rfl, rfl, rfl, j, rfl, hj, rfl⟩ ih
          by_cases hlt : j < 4
          · have hnext : self (arith .add .i64 (j : Int) 1) true false 0 true false 0 [w1] [w2] dn [] ds [] = some true := by
              rw [add64 (by omega)]
              exact ih (4 - (j + 1)) _ _ _ _ _ _ _ _ _ _ _ _ _ (by omega) ⟨rfl, rfl, rfl, rfl, rfl, rfl, rfl, rfl, rfl, rfl, rfl, rfl, rfl, j + 1, by omega, by omega, rfl⟩
            rw [if_pos (lssT (by omega)), read_spec (m + 498) (j : Int) true false 0 dn [] hok2 (by simp), readM_ok (by omega), Option.bind_some]
            dsimp only
            rw [read_spec (m + 498) (j : Int) true false 0 ds [] hokf (by simp), readM_ok (by omega), Option.bind_some]
            dsimp only
            rw [if_pos (decT (by omega)), if_pos (decT (by omega))]
            show (if cmpS .neq (bytesI (dn.getD (Int.toNat (j : Int)) zSc)) (bytesI (w2.getD (Int.toNat (j : Int)) [])) = true then _ else if decide (0 ≤ (j : Int)) = true then if decide ((j : Int) < ((4 : Nat) : Int)) = true then (if cmpS .neq (bytesI (ds.getD (Int.toNat (j : Int)) zSc)) (bytesI (w1.getD (Int.toNat (j : Int)) [])) = true then some false else self (arith .add .i64 (j : Int) 1) true false 0 true false 0 [w1] [w2] dn [] ds []) else none else none) = _
            rw [Int.toNat_natCast, hnow j (by omega), if_neg (cmpS_neq _), if_pos (decT (by omega)), if_pos (decT (by omega)), hwas j (by omega), if_neg (cmpS_neq _)]
            exact hnext
          · rw [if_neg (lssF (by omega)), haw]
            rfl
end Go.Sym.T6
