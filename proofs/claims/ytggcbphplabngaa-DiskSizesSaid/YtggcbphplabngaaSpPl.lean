/- The reference disk, and what the law on sequences of calls computes. -/
import Derived.Test.YtggcbphplabngaaSpKe
set_option linter.unusedVariables false
namespace Go.Sym.T6
set_option maxRecDepth 100000
theorem rfails_spec (n : Nat) (on ar : Bool) (lf : Int) (ds : List Sc) (ws : List Pw) (h : lf ≤ 9223372036854775807) :
    c34 (F (n + 1)) (!on) ar lf ds ws = some ((failsM on ar lf).1, !(failsM on ar lf).2.1, (failsM on ar lf).2.2.1, (failsM on ar lf).2.2.2, ds, ws) := by
  rw [t34]
  unfold R34 failsM
  dsimp only [Alg.real]
  cases ar
  · rfl
  · rw [if_neg (by decide), if_pos rfl]
    by_cases h1 : lf > 0
    · rw [if_pos (gtrT h1), if_pos h1, sub64 (by omega)]
    · rw [if_neg (gtrF h1), if_neg h1]
      rfl
theorem rsec_spec (n : Nat) (off ar : Bool) (lf : Int) (ds : List Sc) (ws : List Pw) (hok : DOk ds ws) (hn : ws.length < n) : c35 (F (n + 1)) off ar lf ds ws = some (off, ar, lf, flushed ds ws, ds, ws) := by
  rw [t35]
  unfold R35
  dsimp only [Alg.real]
  have hwl := hok.wl
  have hdl := hok.len
  rw [if_pos (decT (by rw [List.length_replicate]; omega))]
  refine loop7 (fun q (i : Int) off' ar' lf' (dx : List Sc) ds' ws' r => off = off' ∧ ar = ar' ∧ lf = lf' ∧ ds = ds' ∧ ws = ws' ∧ r = (off, ar, lf, flushed ds ws, ds, ws) ∧ ∃ j : Nat, i = j ∧ j ≤ ws.length ∧ q = ws.length - j ∧ dx = flushed ds (ws.take j)) ?_ n ws.length _ _ _ _ _ _ _ _ ⟨rfl, rfl, rfl, rfl, rfl, rfl, 0, rfl, Nat.zero_le _, rfl, rfl⟩ hn
  rintro q self i off' ar' lf' dx ds' ws' r ⟨rfl, rfl, rfl, rfl, rfl, rfl, j, rfl, hj, rfl, rfl⟩ ih
  by_cases hlt : j < ws.length
  · have hst := pw_take hlt
    have hw := hok.wr _ (List.getElem_mem hlt)
    have hfl := flushed_len (ws.take j) ds
    rw [if_pos (lssT (by omega)), if_pos (decT (by omega)), if_pos (decT (by omega)), if_pos (decT (by omega)), if_pos (decT (by omega)), pw_at hlt, if_pos (decT hw.1), if_pos (decT (by omega)), add64 (by omega)]
    exact ih (ws.length - (j + 1)) _ _ _ _ _ _ _ (by omega) ⟨rfl, rfl, rfl, rfl, rfl, rfl, j + 1, by omega, by omega, rfl, by rw [hst, flushed_snoc]⟩
  · rw [if_neg (lssF (by omega)), List.take_of_length_le (show ws.length ≤ j by omega)]
theorem rflush_spec (n : Nat) (on ar : Bool) (lf : Int) (ds : List Sc) (ws : List Pw) (hok : DOk ds ws) (h : lf ≤ 9223372036854775807) (hn : ws.length < n + 1) :
    c28 (F (n + 3)) (!on) ar lf ds ws = some ((flushM on ar lf ds ws).1, !(flushM on ar lf ds ws).2.1, (flushM on ar lf ds ws).2.2) := by
  show c28 (F (n + 2 + 1)) (!on) ar lf ds ws = _
  rw [t28]
  unfold R28 flushM
  dsimp only [Alg.real]
  cases on
  · rfl
  · rw [if_neg (by decide), rfails_spec (n + 1) true ar lf ds ws h, Option.bind_some]
    dsimp only
    rw [if_pos rfl]
    generalize failsM true ar lf = f
    obtain ⟨b, on', ar', lf'⟩ := f
    dsimp only
    by_cases h3 : b = true
    · rw [if_pos h3, if_pos h3]
    · rw [if_neg h3, if_neg h3, rsec_spec (n + 1) (!on') ar' lf' ds ws hok hn, Option.bind_some]
theorem rarm_spec (k : Nat) (n : Int) (off ar : Bool) (lf : Int) (ds : List Sc) (ws : List Pw) : c29 (F (k + 1)) n off ar lf ds ws = some (off, cmpI .geq n 0, mm true n 0, ds, ws) := by rw [t29]; rfl
theorem rpower_spec (k : Nat) (off ar : Bool) (lf : Int) (ds : List Sc) (ws : List Pw) : c31 (F (k + 1)) off ar lf ds ws = some (false, false, lf, ds, ws) := by rw [t31]; rfl
theorem mm_wrap (i : Int) (h : 0 ≤ i) : IntKind.wrap .u64 (mm false i 63) = mm false i 63 := by
  have h1 : 0 ≤ mm false i 63 ∧ mm false i 63 ≤ 63 := by
    unfold mm
    rw [if_neg (by decide)]
    split <;> omega
  generalize mm false i 63 = k at *
  obtain ⟨m, rfl⟩ : ∃ m : Nat, k = m := ⟨k.toNat, by omega⟩
  have hm : m ≤ 63 := by omega
  clear h1
  have : ∀ m : Nat, m ≤ 63 → IntKind.wrap .u64 (m : Int) = (m : Int) := by decide
  exact this m hm
theorem rsurv_spec (n : Nat) (keep i : Int) (h : 0 ≤ i) : c36 (F (n + 1)) keep i = some (surv keep i) := by
  rw [t36]
  unfold R36
  dsimp only [Alg.real]
  rw [mm_wrap i h, if_pos (decT (mm_rng i h))]
  rfl
theorem rread_spec (n : Nat) (p : Int) (on ar : Bool) (lf : Int) (ds : List Sc) (ws : List Pw) (hok : DOk ds ws) (hn : ws.length < n + 1) :
    c33 (F (n + 3)) p (!on) ar lf ds ws = some ((readM p on ar lf ds ws).2.2.2.2.1, (readM p on ar lf ds ws).1, !on, ar, lf, ds, ws) := by
  show c33 (F (n + 2 + 1)) p (!on) ar lf ds ws = _
  rw [t33]
  unfold R33 readM
  dsimp only [Alg.real]
  cases on
  · rfl
  · rw [if_neg (by decide)]
    have hc : checkM true ds.length p = if p < 0 ∨ p ≥ (ds.length : Int) then 6 else 0 := rfl
    rw [hc]
    by_cases hp : 0 ≤ p ∧ p < (ds.length : Int)
    · rw [if_neg (lssF (by omega)), Bool.eq_false_iff.2 (geqF (show ¬ p ≥ ((ds.length : Nat) : Int) by omega)), if_neg (by decide), rsec_spec (n + 1) _ ar lf ds ws hok hn, Option.bind_some]
      dsimp only
      rw [flushed_len, if_neg (show ¬ (p < 0 ∨ p ≥ (ds.length : Int)) by omega), if_pos rfl, if_pos (decT hp.1), if_pos (decT hp.2), if_pos (decT (by decide)), if_pos (decT (by decide)), if_pos (decT (by decide))]
      have hg := flushed_get (p := p.toNat) ws ds (fun x hx => (hok.wr x hx).1) (by omega)
      rw [show ((p.toNat : Nat) : Int) = p by omega] at hg
      have hl := seen_len (s := ds.getD p.toNat zSc) (p := p) (getD_sec hok.sec _) ws (fun x hx => (hok.wr x hx).2.2)
      show (if decide ((0 + (((flushed ds ws).getD p.toNat zSc).take 64).length) * 1 ≤ 140737488355328) = true then some (((flushed ds ws).getD p.toNat zSc).take 64, 0, false, ar, lf, ds, ws) else none) = some (seen (ds.getD p.toNat zSc) p ws, 0, false, ar, lf, ds, ws)
      rw [hg, List.take_of_length_le (by omega), if_pos (decT (by omega))]
    · rw [if_pos (show p < 0 ∨ p ≥ (ds.length : Int) by omega), if_neg (show ¬ (6 : Int) = 0 by decide)]
      by_cases h1 : p < 0
      · rw [if_pos (lssT h1), if_pos rfl]
      · rw [if_neg (lssF h1), geqT (show p ≥ ((ds.length : Nat) : Int) by omega), if_pos rfl]
theorem pad_full {b : List Int} (h : b.length ≤ 64) : b.take b.length ++ zSc.drop b.length = pad b := by
  unfold pad
  rw [Nat.min_eq_left h, Nat.zero_add]
theorem set_pad {b : List Int} {j : Nat} (h : j < b.length) (h2 : b.length ≤ 64) (d : Int) : (b.take j ++ zSc.drop j).set j (b.getD j d) = b.take (j + 1) ++ zSc.drop (j + 1) := by
  have hl : (b.take j).length = j := by rw [List.length_take]; omega
  rw [List.set_append_right _ _ (by omega), hl, Nat.sub_self, List.take_add_one, List.getElem?_eq_getElem h, List.getD_eq_getElem?_getD, List.getElem?_eq_getElem h, List.append_assoc]
  congr 1
  rw [List.drop_eq_getElem_cons (show j < zSc.length by rw [zSc_len]; omega)]
  rfl
theorem rwrite_spec (n : Nat) (p : Int) (b : List Int) (on ar : Bool) (lf : Int) (ds : List Sc) (ws : List Pw) (h : lf ≤ 9223372036854775807) (hw : ws.length ≤ 1000000) (hn : 64 < n + 1) :
    c32 (F (n + 2)) p b (!on) ar lf ds ws = some ((writeM p b on ar lf ds ws).1, !(writeM p b on ar lf ds ws).2.1, (writeM p b on ar lf ds ws).2.2) := by
  show c32 (F (n + 1 + 1)) p b (!on) ar lf ds ws = _
  rw [t32]
  unfold R32 writeM
  dsimp only [Alg.real]
  cases on
  · rfl
  · rw [if_neg (by decide)]
    have hc : checkM true ds.length p = if p < 0 ∨ p ≥ (ds.length : Int) then 6 else 0 := rfl
    rw [hc]
    by_cases hp : 0 ≤ p ∧ p < (ds.length : Int)
    · rw [if_neg (lssF (by omega)), Bool.eq_false_iff.2 (geqF (show ¬ p ≥ ((ds.length : Nat) : Int) by omega)), if_neg (by decide), if_neg (show ¬ (p < 0 ∨ p ≥ (ds.length : Int)) by omega), if_pos rfl]
      by_cases h2 : b.length ≤ 64
      · rw [if_neg (gtrF (by omega)), if_pos h2, rfails_spec n true ar lf ds ws h, Option.bind_some]
        generalize failsM true ar lf = f
        obtain ⟨x, on', ar', lf'⟩ := f
        dsimp only
        by_cases h3 : x = true
        · rw [if_pos h3, if_pos h3]
        · rw [if_neg h3, if_neg h3]
          refine loop7 (fun q (i : Int) off2 ar2 lf2 (bx : List Pw) ds2 ws2 r => (!on') = off2 ∧ ar' = ar2 ∧ lf' = lf2 ∧ ds = ds2 ∧ ws = ws2 ∧ r = (0, !on', ar', lf', ds, ws ++ [(p, pad b, ())]) ∧ ∃ j : Nat, i = j ∧ j ≤ b.length ∧ q = b.length - j ∧ bx = [(p, b.take j ++ zSc.drop j, ())]) ?_ (n + 1) b.length _ _ _ _ _ _ _ _ ⟨rfl, rfl, rfl, rfl, rfl, rfl, 0, rfl, Nat.zero_le _, rfl, rfl⟩ (by omega)
          rintro q self i off2 ar2 lf2 bx ds2 ws2 r ⟨rfl, rfl, rfl, rfl, rfl, rfl, j, rfl, hj, rfl, rfl⟩ ih
          by_cases hlt : j < b.length
          · rw [if_pos (lssT (by omega)), if_pos (decT (by omega)), if_pos (decT (by omega)), if_pos (decT (by omega)), if_pos (decT (by omega)), add64 (by omega)]
            refine ih (b.length - (j + 1)) _ _ _ _ _ _ _ (by omega) ⟨rfl, rfl, rfl, rfl, rfl, rfl, j + 1, by omega, by omega, rfl, ?_⟩
            show [(p, (b.take j ++ zSc.drop j).set (Int.toNat (j : Int)) (b.getD (Int.toNat (j : Int)) 0), ())] = _
            rw [Int.toNat_natCast, set_pad hlt h2]
          · have ej : j = b.length := by omega
            subst ej
            rw [if_neg (lssF (by omega)), pad_full h2]
            show (if decide ((0 + ws.length) * 72 ≤ 140737488355328) = true then if decide (((List.replicate 0 (Ty.zero (.pair (.int .i64) (.pair (.arr 64 (.int .u8)) .unit))) ++ ws).length + 1) * 72 ≤ 140737488355328) = true then some (0, !on', ar', lf', ds, ws ++ [(p, pad b, ())]) else none else none) = _
            rw [if_pos (decT (by omega)), List.length_append, List.length_replicate, if_pos (decT (by omega))]
      · rw [if_pos (gtrT (by omega)), if_neg h2]
    · rw [if_pos (show p < 0 ∨ p ≥ (ds.length : Int) by omega), if_neg (show ¬ (6 : Int) = 0 by decide)]
      by_cases h1 : p < 0
      · rw [if_pos (lssT h1), if_pos rfl]
      · rw [if_neg (lssF h1), geqT (show p ≥ ((ds.length : Nat) : Int) by omega), if_pos rfl]
end Go.Sym.T6

namespace Go.Sym.T6
set_option maxRecDepth 100000
/-- One byte after another. -/
theorem copy_step {s t : List Int} {j : Nat} {d : Int} (hs : j < s.length) (ht : j < t.length) : (s.take j ++ t.drop j).set j (s.getD j d) = s.take (j + 1) ++ t.drop (j + 1) := by
  have hl : (s.take j).length = j := by rw [List.length_take]; omega
  rw [List.set_append_right _ _ (by omega), hl, Nat.sub_self, List.take_add_one, List.getElem?_eq_getElem hs, List.getD_eq_getElem?_getD, List.getElem?_eq_getElem hs, List.append_assoc]
  congr 1
  rw [List.drop_eq_getElem_cons ht]
  rfl
theorem set_getD_same {ds : List Sc} {i : Nat} (h : i < ds.length) : ds.set i (ds.getD i zSc) = ds := by
  rw [List.getD_eq_getElem?_getD, List.getElem?_eq_getElem h]
  exact List.set_getElem_self h
theorem rcrash_spec (n : Nat) (keep torn : Int) (off ar : Bool) (lf : Int) (ds : List Sc) (ws : List Pw) (hok : DOk ds ws) (hn : ws.length < n + 1) (h64 : 64 < n + 1) :
    c30 (F (n + 2)) keep torn off ar lf ds ws = some (true, false, lf, crashed keep torn (lastS keep ws.length 0 (-1)) 0 ds ws, []) := by
  show c30 (F (n + 1 + 1)) keep torn off ar lf ds ws = _
  rw [t30]
  unfold R30
  dsimp only [Alg.real]
  have hwl := hok.wl
  have hdl0 := hok.len
  refine loop7 (fun q (last : Int) (i : Int) on' ar' lf' ds' ws' r => off = on' ∧ ar = ar' ∧ lf = lf' ∧ ds = ds' ∧ ws = ws' ∧ r = (true, false, lf, crashed keep torn (lastS keep ws.length 0 (-1)) 0 ds ws, []) ∧ ∃ j : Nat, i = j ∧ j ≤ ws.length ∧ q = ws.length - j ∧ lastS keep (ws.length - j) j last = lastS keep ws.length 0 (-1)) ?_ (n + 1) ws.length _ _ _ _ _ _ _ _ ⟨rfl, rfl, rfl, rfl, rfl, rfl, 0, rfl, Nat.zero_le _, rfl, rfl⟩ hn
  rintro q self last i on' ar' lf' ds' ws' r ⟨rfl, rfl, rfl, rfl, rfl, rfl, j, rfl, hj, rfl, hla⟩ ih
  by_cases hlt : j < ws.length
  · rw [if_pos (lssT (by omega)), rsurv_spec n keep (j : Int) (by omega), Option.bind_some]
    have hl1 : lastS keep (ws.length - j) j last = lastS keep (ws.length - (j + 1)) (j + 1) (if surv keep (j : Int) = true then (j : Int) else last) := by
      rw [show ws.length - j = (ws.length - (j + 1)) + 1 by omega]
      rfl
    rw [hl1] at hla
    by_cases hs : surv keep (j : Int) = true
    · rw [if_pos hs, add64 (by omega)]
      rw [if_pos hs] at hla
      exact ih (ws.length - (j + 1)) _ _ _ _ _ _ _ (by omega) ⟨rfl, rfl, rfl, rfl, rfl, rfl, j + 1, by omega, by omega, rfl, hla⟩
    · rw [if_neg hs, add64 (by omega)]
      rw [if_neg hs] at hla
      exact ih (ws.length - (j + 1)) _ _ _ _ _ _ _ (by omega) ⟨rfl, rfl, rfl, rfl, rfl, rfl, j + 1, by omega, by omega, rfl, hla⟩
  · have hlast : last = lastS keep ws.length 0 (-1) := by
      rw [show ws.length - j = 0 by omega] at hla
      exact hla
    rw [if_neg (lssF (by omega)), ← hlast, if_pos (decT (by rw [List.length_replicate]; omega))]
    clear ih hla hlast hj hlt self
    refine loop7 (fun q (i : Int) on' ar' lf' (ds' : List Sc) dq ws' r => off = on' ∧ ar = ar' ∧ lf = lf' ∧ ds = dq ∧ ws = ws' ∧ r = (true, false, lf, crashed keep torn last 0 ds ws, []) ∧ ∃ j : Nat, i = j ∧ j ≤ ws.length ∧ q = ws.length - j ∧ ds'.length = ds.length ∧ (∀ s ∈ ds', s.length = 64) ∧ crashed keep torn last j ds' (ws.drop j) = crashed keep torn last 0 ds ws) ?_ (n + 1) ws.length _ _ _ _ _ _ _ _ ⟨rfl, rfl, rfl, rfl, rfl, rfl, 0, rfl, Nat.zero_le _, rfl, rfl, hok.sec, rfl⟩ hn
    rintro q self i on' ar' lf' ds' dq ws' r ⟨rfl, rfl, rfl, rfl, rfl, rfl, j, rfl, hj, rfl, hdl, hds, hcr⟩ ih
    by_cases hlt : j < ws.length
    · have hw := hok.wr _ (List.getElem_mem hlt)
      have hat := pw_at hlt (0, (zSc, ()))
      rw [if_pos (lssT (by omega)), rsurv_spec n keep (j : Int) (by omega), Option.bind_some]
      rw [List.drop_eq_getElem_cons hlt, crashed] at hcr
      generalize ws[j] = x at *
      have hnext : ∀ ds2, ds2.length = ds.length → (∀ s ∈ ds2, s.length = 64) → crashed keep torn last (j + 1) ds2 (ws.drop (j + 1)) = crashed keep torn last 0 ds ws → self (arith .add .i64 (j : Int) 1) off ar lf ds2 ds ws = some (true, false, lf, crashed keep torn last 0 ds ws, []) := fun ds2 g1 g2 g3 => by
        rw [add64 (by omega)]
        exact ih (ws.length - (j + 1)) _ _ _ _ _ _ _ (by omega) ⟨rfl, rfl, rfl, rfl, rfl, rfl, j + 1, by omega, by omega, rfl, g1, g2, g3⟩
      by_cases hs : surv keep (j : Int) = true
      · rw [if_neg (notF hs)]
        rw [if_pos hs] at hcr
        have hxi : x.1.toNat < ds'.length := by omega
        have hsz : ∀ (size : Int) (LP : (Int → Bool → Bool → Int → List Sc → List Sc → List Pw → Option (Bool × Bool × Int × List Sc × List Pw)) → Int → Bool → Bool → Int → List Sc → List Sc → List Pw → Option (Bool × Bool × Int × List Sc × List Pw)) (B : Int → Bool → Bool → Int → List Sc → List Sc → List Pw → Option (Bool × Bool × Int × List Sc × List Pw)),
            size = sizeS last torn j →
            (∀ self2 (k : Int) (on2 ar2 : Bool) (lf2 : Int) (d2 d3 : List Sc) (w2 : List Pw), LP self2 k on2 ar2 lf2 d2 d3 w2 = (if cmpI .lss k size = true then
              (if decide (0 ≤ (j : Int)) = true then if decide ((j : Int) < ((w2.length : Nat) : Int)) = true then if decide (0 ≤ (j : Int)) = true then if decide ((j : Int) < ((w2.length : Nat) : Int)) = true then if decide (0 ≤ k) = true then if decide (k < ((64 : Nat) : Int)) = true then
              if decide (0 ≤ (w2.getD (Int.toNat (j : Int)) (0, (zSc, ()))).1) = true then if decide ((w2.getD (Int.toNat (j : Int)) (0, (zSc, ()))).1 < ((d2.length : Nat) : Int)) = true then if decide (0 ≤ k) = true then if decide (k < ((64 : Nat) : Int)) = true then
              self2 (arith .add .i64 k 1) on2 ar2 lf2 (d2.set (Int.toNat (w2.getD (Int.toNat (j : Int)) (0, (zSc, ()))).1) ((d2.getD (Int.toNat (w2.getD (Int.toNat (j : Int)) (0, (zSc, ()))).1) zSc).set (Int.toNat k) ((w2.getD (Int.toNat (j : Int)) (0, (zSc, ()))).2.1.getD (Int.toNat k) 0))) d3 w2
              else none else none else none else none else none else none else none else none else none else none)
              else self (arith .add .i64 (j : Int) 1) on2 ar2 lf2 d2 d3 w2)) →
            loopR (n + 1) LP B 0 off ar lf ds' ds ws = some (true, false, lf, crashed keep torn last 0 ds ws, []) := by
          intro size LP B hsz hLP
          have hr := sizeS_rng last torn j
          rw [← hsz] at hr hcr
          have hg := getD_sec hds x.1.toNat
          refine loop7 (fun q (k : Int) on' ar' lf' (d2 : List Sc) d3 ws' r => off = on' ∧ ar = ar' ∧ lf = lf' ∧ ds = d3 ∧ ws = ws' ∧ r = (true, false, lf, crashed keep torn last 0 ds ws, []) ∧ ∃ i : Nat, k = i ∧ i ≤ size.toNat ∧ q = size.toNat - i ∧ d2 = ds'.set x.1.toNat (x.2.1.take i ++ (ds'.getD x.1.toNat zSc).drop i)) ?_ (n + 1) size.toNat _ _ _ _ _ _ _ _ ⟨rfl, rfl, rfl, rfl, rfl, rfl, 0, rfl, Nat.zero_le _, rfl, (set_getD_same hxi).symm⟩ (by omega)
          rintro q self2 k on' ar' lf' d2 d3 ws' r ⟨rfl, rfl, rfl, rfl, rfl, rfl, i, rfl, hi, rfl, rfl⟩ ih2
          rw [hLP, hat]
          have hlen : (ds'.set x.1.toNat (x.2.1.take i ++ (ds'.getD x.1.toNat zSc).drop i)).length = ds'.length := List.length_set
          by_cases hik : i < size.toNat
          · rw [if_pos (lssT (by omega)), if_pos (decT (by omega)), if_pos (decT (by omega)), if_pos (decT (by omega)), if_pos (decT (by omega)), if_pos (decT (by omega)), if_pos (decT (by omega)), if_pos (decT hw.1), if_pos (decT (by omega)), if_pos (decT (by omega)), if_pos (decT (by omega)), add64 (by omega)]
            refine ih2 (size.toNat - (i + 1)) _ _ _ _ _ _ _ (by omega) ⟨rfl, rfl, rfl, rfl, rfl, rfl, i + 1, by omega, by omega, rfl, ?_⟩
            rw [List.set_set, List.getD_eq_getElem?_getD (l := ds'.set _ _), List.getElem?_set, if_pos rfl, if_pos hxi, Option.getD_some, Int.toNat_natCast, copy_step (by omega) (by omega)]
          · have ei : i = size.toNat := by omega
            subst ei
            rw [if_neg (lssF (by omega))]
            refine hnext _ (by rw [hlen]; exact hdl) (set_sec hds ?_) hcr
            rw [List.length_append, List.length_take, List.length_drop]
            omega
        unfold sizeS at hsz
        by_cases h1 : (j : Int) = last
        · rw [if_pos (eqlT h1)]
          by_cases h2 : torn ≥ 0
          · rw [if_pos (geqT h2)]
            by_cases h3 : torn < 64
            · rw [if_pos (lssT h3)]
              exact hsz torn _ _ (by rw [if_pos ⟨h1, h2, h3⟩]) (fun _ _ _ _ _ _ _ _ => rfl)
            · rw [if_neg (lssF h3)]
              exact hsz 64 _ _ (by rw [if_neg (fun h => h3 h.2.2)]) (fun _ _ _ _ _ _ _ _ => rfl)
          · rw [if_neg (geqF h2), if_neg (by decide)]
            exact hsz 64 _ _ (by rw [if_neg (fun h => h2 h.2.1)]) (fun _ _ _ _ _ _ _ _ => rfl)
        · rw [if_neg (eqlF h1), if_neg (by decide)]
          exact hsz 64 _ _ (by rw [if_neg (fun h => h1 h.1)]) (fun _ _ _ _ _ _ _ _ => rfl)
      · rw [if_pos (notT hs)]
        rw [if_neg hs] at hcr
        exact hnext _ hdl hds hcr
    · rw [if_neg (lssF (by omega))]
      rw [List.drop_of_length_le (by omega), crashed] at hcr
      rw [hcr]
end Go.Sym.T6

namespace Go.Sym.T6
set_option maxRecDepth 100000
abbrev mx : Int := 9223372036854775807
/-- What two counts of one disk have in common. -/
def Lf (ar : Bool) (l l' : Int) : Prop := (ar = true → l = l') ∧ l ≤ mx ∧ l' ≤ mx
theorem fails2 {on ar : Bool} {l l' : Int} (h : Lf ar l l') : ∃ b on' ar' k k', failsM on ar l = (b, on', ar', k) ∧ failsM on ar l' = (b, on', ar', k') ∧ Lf ar' k k' := by
  obtain ⟨h1, h2, h3⟩ := h
  cases ar
  · exact ⟨_, _, _, _, _, rfl, rfl, h1, h2, h3⟩
  · have e := h1 rfl
    subst e
    by_cases hp : l > 0
    · refine ⟨false, on, true, l - 1, l - 1, ?_, ?_, fun _ => rfl, by omega, by omega⟩ <;> (unfold failsM; rw [if_pos rfl, if_pos hp])
    · refine ⟨true, false, false, l, l, ?_, ?_, fun _ => rfl, by omega, by omega⟩ <;> (unfold failsM; rw [if_pos rfl, if_neg hp])
theorem write2 {p : Int} {b : List Int} {on ar : Bool} {l l' : Int} {ds : List Sc} {ws : List Pw} (hok : DOk ds ws) (hw : ws.length < 1000000) (h : Lf ar l l') :
    ∃ e on' ar' k k' ws', writeM p b on ar l ds ws = (e, on', ar', k, ds, ws') ∧ writeM p b on ar l' ds ws = (e, on', ar', k', ds, ws') ∧ Lf ar' k k' ∧ DOk ds ws' ∧ ws'.length ≤ ws.length + 1 := by
  unfold writeM
  by_cases h1 : checkM on ds.length p = 0
  · have hp : 0 ≤ p ∧ p < ds.length := by
      unfold checkM at h1
      split at h1
      · split at h1
        · cases h1
        · omega
      · cases h1
    rw [if_pos h1, if_pos h1]
    by_cases h2 : b.length ≤ 64
    · rw [if_pos h2, if_pos h2]
      obtain ⟨b', on', ar', k, k', e1, e2, e3⟩ := fails2 (on := on) h
      rw [e1, e2]
      cases b'
      · exact ⟨_, _, _, _, _, _, rfl, rfl, e3, hok.snoc hp hw, by rw [List.length_append]; exact Nat.le_refl _⟩
      · exact ⟨_, _, _, _, _, _, rfl, rfl, e3, hok, by omega⟩
    · rw [if_neg h2, if_neg h2]
      exact ⟨_, _, _, _, _, _, rfl, rfl, h, hok, by omega⟩
  · rw [if_neg h1, if_neg h1]
    exact ⟨_, _, _, _, _, _, rfl, rfl, h, hok, by omega⟩
theorem _root_.Go.Sym.DOk.fl {ds : List Sc} {ws : List Pw} (h : DOk ds ws) : DOk (flushed ds ws) [] := ⟨by rw [flushed_len]; exact h.len, flushed_sec _ _ h.sec (fun x hx => (h.wr x hx).2.2), fun x hx => (by cases hx), by simp⟩
theorem flush2 {on ar : Bool} {l l' : Int} {ds : List Sc} {ws : List Pw} (hok : DOk ds ws) (h : Lf ar l l') :
    ∃ e on' ar' k k' ds' ws', flushM on ar l ds ws = (e, on', ar', k, ds', ws') ∧ flushM on ar l' ds ws = (e, on', ar', k', ds', ws') ∧ Lf ar' k k' ∧ DOk ds' ws' ∧ ws'.length ≤ ws.length + 1 ∧ ds'.length = ds.length := by
  unfold flushM
  cases on
  · exact ⟨_, _, _, _, _, _, _, rfl, rfl, h, hok, by omega, rfl⟩
  · rw [if_pos rfl, if_pos rfl]
    obtain ⟨b', on', ar', k, k', e1, e2, e3⟩ := fails2 (on := true) h
    rw [e1, e2]
    cases b'
    · exact ⟨_, _, _, _, _, _, _, rfl, rfl, e3, hok.fl, by simp, flushed_len _ _⟩
    · exact ⟨_, _, _, _, _, _, _, rfl, rfl, e3, hok, by omega, rfl⟩
theorem read2 {p : Int} {on ar : Bool} {l l' : Int} {ds : List Sc} {ws : List Pw} : ∃ e s, readM p on ar l ds ws = (e, on, ar, l, s, ds, ws) ∧ readM p on ar l' ds ws = (e, on, ar, l', s, ds, ws) := by
  unfold readM
  by_cases h1 : checkM on ds.length p = 0
  · rw [if_pos h1, if_pos h1]
    exact ⟨_, _, rfl, rfl⟩
  · rw [if_neg h1, if_neg h1]
    exact ⟨_, _, rfl, rfl⟩
theorem wrap_mx (x : Int) : IntKind.wrap .i64 x ≤ mx := by
  show (if (true && decide (x % 18446744073709551616 ≥ 9223372036854775808)) = true then x % 18446744073709551616 - 18446744073709551616 else x % 18446744073709551616) ≤ 9223372036854775807
  split
  · omega
  · rename_i h
    simp only [Bool.true_and, decide_eq_true_eq] at h
    omega
theorem act_spec (n : Nat) (o : Oq) {on ar : Bool} {l l' : Int} {ds : List Sc} {ws : List Pw} (ho : o.2.2.1 ≤ mx) (hok : DOk ds ws) (hw : ws.length < 1000) (h : Lf ar l l') :
    ∃ on' ar' k k' ds' ws', c23 (F (n + 2000)) o on ar l (!on) ar l' ds ws ds ws = some (true, on', ar', k, !on', ar', k', ds', ws', ds', ws') ∧ Lf ar' k k' ∧ DOk ds' ws' ∧ ws'.length ≤ ws.length + 1 ∧ ds'.length = ds.length := by
  have e : ∀ on' ar' k k' ds' ws', (∃ x, x = (true, on', ar', k, !on', ar', k', ds', ws', ds', ws') ∧ c23 (F (n + 2000)) o on ar l (!on) ar l' ds ws ds ws = some x) → Lf ar' k k' → DOk ds' ws' → ws'.length ≤ ws.length + 1 → ds'.length = ds.length →
      ∃ on' ar' k k' ds' ws', c23 (F (n + 2000)) o on ar l (!on) ar l' ds ws ds ws = some (true, on', ar', k, !on', ar', k', ds', ws', ds', ws') ∧ Lf ar' k k' ∧ DOk ds' ws' ∧ ws'.length ≤ ws.length + 1 ∧ ds'.length = ds.length := by
    rintro on' ar' k k' ds' ws' ⟨x, rfl, h0⟩ h1 h2 h3 h4
    exact ⟨_, _, _, _, _, _, h0, h1, h2, h3, h4⟩
  have ht : c23 (F (n + 2000)) = R23 .real (F (n + 1999)) (n + 1999) := t23 (n + 1999)
  rw [ht] at e ⊢
  unfold R23 at e ⊢
  dsimp only [Alg.real] at e ⊢
  by_cases h4 : cmpI .eql (arith .and .u8 o.1 7) 4 = true
  · rw [if_pos h4] at e ⊢
    obtain ⟨x, on', ar', k, k', ds', ws', e1, e2, e3, e4, e5, e6⟩ := flush2 (on := on) hok h
    refine e on' ar' k k' ds' ws' ⟨_, rfl, ?_⟩ e3 e4 e5 e6
    rw [flush_spec (n + 1997) on ar l ds ws hok h.2.1 (by omega), e1, Option.bind_some, rflush_spec (n + 1996) on ar l' ds ws hok h.2.2 (by omega), e2, Option.bind_some]
    dsimp only
    rw [eqlT rfl]
  rw [if_neg h4] at e ⊢
  by_cases h5 : cmpI .eql (arith .and .u8 o.1 7) 5 = true
  · rw [if_pos h5] at e ⊢
    rw [small_spec (n + 1998) o.2.2.1 5 (by decide), Option.bind_some] at e ⊢
    have hm : ∀ m : Int, m ≤ mx → Lf (cmpI .geq m 0) m (mm true m 0) := by
      intro m hm
      refine ⟨fun hg => ?_, hm, ?_⟩
      · have hg : m ≥ 0 := of_decide_eq_true hg
        unfold mm
        rw [if_pos rfl]
        split <;> omega
      · unfold mm
        rw [if_pos rfl]
        split
        · decide
        · exact hm
    by_cases h15 : cmpI .eql (arith .and .i64 o.2.2.1 15) 15 = true
    · rw [if_pos h15] at e ⊢
      refine e on _ _ _ ds ws ⟨_, rfl, ?_⟩ (hm o.2.2.1 ho) hok (by omega) rfl
      rw [arm_spec (n + 1998), Option.bind_some, rarm_spec (n + 1998), Option.bind_some]
    · rw [if_neg h15] at e ⊢
      refine e on _ _ _ ds ws ⟨_, rfl, ?_⟩ (hm (arith .sub .i64 (smallM o.2.2.1 5) 1) (wrap_mx _)) hok (by omega) rfl
      rw [arm_spec (n + 1998), Option.bind_some, rarm_spec (n + 1998), Option.bind_some]
  rw [if_neg h5] at e ⊢
  by_cases h6 : cmpI .eql (arith .and .u8 o.1 7) 6 = true
  · rw [if_pos h6] at e ⊢
    rw [small_spec (n + 1998) o.2.2.1 80 (by decide), Option.bind_some, crash_spec (n + 1997) _ _ on ar l ds ws hok (by omega), Option.bind_some, rcrash_spec (n + 1997) _ _ (!on) ar l' ds ws hok (by omega) (by omega), Option.bind_some] at e ⊢
    obtain ⟨g1, g2⟩ := crashed_ok ws 0 ds o.2.2.2.1 (smallM o.2.2.1 80) (lastS o.2.2.2.1 ws.length 0 (-1)) hok.sec (fun x hx => (hok.wr x hx).2.2)
    exact e false false l l' _ [] ⟨_, rfl, rfl⟩ ⟨fun hf => (by cases hf), h.2.1, h.2.2⟩ ⟨by rw [g1]; exact hok.len, g2, fun x hx => (by cases hx), by simp⟩ (by simp) g1
  rw [if_neg h6] at e ⊢
  by_cases h7 : cmpI .eql (arith .and .u8 o.1 7) 7 = true
  · rw [if_pos h7] at e ⊢
    rw [power_spec (n + 1998), Option.bind_some, rpower_spec (n + 1998), Option.bind_some] at e ⊢
    exact e true false l l' ds ws ⟨_, rfl, rfl⟩ ⟨fun hf => (by cases hf), h.2.1, h.2.2⟩ hok (by omega) rfl
  rw [if_neg h7] at e ⊢
  rw [small_spec (n + 1998) o.2.1 5 (by decide), Option.bind_some] at e ⊢
  obtain ⟨x, on', ar', k, k', ws', e1, e2, e3, e4, e5⟩ := write2 (p := smallM o.2.1 5) (b := o.2.2.2.2.1) (on := on) hok (by omega) h
  refine e on' ar' k k' ds ws' ⟨_, rfl, ?_⟩ e3 e4 e5 rfl
  rw [write_spec (n + 1997) _ _ on ar l ds ws h.2.1 (by omega), e1, Option.bind_some, rwrite_spec (n + 1997) _ _ on ar l' ds ws h.2.2 (by omega) (by omega), e2, Option.bind_some]
  dsimp only
  rw [eqlT rfl]
theorem agree_spec (n : Nat) {on ar : Bool} {l l' : Int} {ds : List Sc} {ws : List Pw} (hok : DOk ds ws) (hw : ws.length < 1000) (hd : ds.length < 1000) :
    c24 (F (n + 2000)) on ar l (!on) ar l' ds ws ds ws = some (true, on, ar, l, !on, ar, l', ds, ws, ds, ws) := by
  have ht : c24 (F (n + 2000)) = R24 .real (F (n + 1999)) (n + 1999) := t24 (n + 1999)
  rw [ht]
  unfold R24
  dsimp only [Alg.real]
  rw [size_spec (n + 1998), Option.bind_some]
  dsimp only
  rw [if_neg (neqF rfl), online_spec (n + 1998), Option.bind_some]
  dsimp only
  rw [if_neg (by cases on <;> decide), pend_spec (n + 1998), Option.bind_some]
  dsimp only
  rw [if_neg (neqF rfl)]
  refine loop11 (fun q (i : Int) a1 a2 a3 b1 b2 b3 d w d' w' r => on = a1 ∧ ar = a2 ∧ l = a3 ∧ (!on) = b1 ∧ ar = b2 ∧ l' = b3 ∧ ds = d ∧ ws = w ∧ ds = d' ∧ ws = w' ∧ r = (true, on, ar, l, !on, ar, l', ds, ws, ds, ws) ∧ ∃ j : Nat, i = (j : Int) - 1 ∧ j ≤ ds.length + 2 ∧ q = ds.length + 2 - j) ?_ (n + 1999) (ds.length + 2) _ _ _ _ _ _ _ _ _ _ _ _ ⟨rfl, rfl, rfl, rfl, rfl, rfl, rfl, rfl, rfl, rfl, rfl, 0, rfl, Nat.zero_le _, rfl⟩ (by omega)
  rintro q self i a1 a2 a3 b1 b2 b3 d w d' w' r ⟨rfl, rfl, rfl, rfl, rfl, rfl, rfl, rfl, rfl, rfl, rfl, j, rfl, hj, rfl⟩ ih
  by_cases hlt : (j : Int) - 1 ≤ ds.length
  · obtain ⟨e, s, e1, e2⟩ := read2 (p := (j : Int) - 1) (on := on) (ar := ar) (l := l) (l' := l') (ds := ds) (ws := ws)
    rw [if_pos (leqT hlt), read_spec (n + 1997) _ on ar l ds ws hok (by omega), e1, Option.bind_some, rread_spec (n + 1996) _ on ar l' ds ws hok (by omega), e2, Option.bind_some]
    dsimp only
    rw [if_neg (cmpS_neq _), if_neg (neqF rfl), add64 (by omega)]
    exact ih (ds.length + 2 - (j + 1)) _ _ _ _ _ _ _ _ _ _ _ (by omega) ⟨rfl, rfl, rfl, rfl, rfl, rfl, rfl, rfl, rfl, rfl, rfl, j + 1, by omega, by omega, rfl⟩
  · rw [if_neg (leqF hlt)]
theorem plays_ans (l : List Oq) (hl : ∀ o ∈ l, o.2.2.1 ≤ mx) : Ans (fun n => c8 (F n) l) true := by
  refine Ans.step (x' := fun n => R8 .real (F n) n l) ?_ (fun n => by rw [t8])
  unfold R8
  dsimp only [real_bind, real_branch]
  refine Ans.bind (fits_ans l 40 (by decide)) ?_
  by_cases f1 : fitsM l 40 = true
  case neg => exact Ans.yes (notT f1) (Ans.val _)
  refine Ans.no (notF f1) ?_
  have hl40 : l.length ≤ 40 := by
    unfold fitsM at f1
    simp only [Bool.and_eq_true, decide_eq_true_eq] at f1
    omega
  refine Ans.bind (new_ans 4 (by decide) (by decide)) ?_
  dsimp only
  refine Ans.join fun J7 h7 => ?_
  refine Ans.no (neqF rfl) ?_
  subst h7
  refine Ans.no (by decide) ?_
  have hd4 : (List.replicate (Int.toNat 4) zSc).length = 4 := rfl
  have hok0 : DOk (List.replicate (Int.toNat 4) zSc) [] := ⟨by rw [hd4]; decide, zeros_sec 4, fun x hx => (by cases hx), by simp⟩
  have hnew : Ans (fun k => c22 (F k) 4) (false, false, 0, List.replicate (Int.toNat 4) zSc, []) := Ans.from 1 fun k => by rw [t22]; rfl
  refine Ans.bind hnew ?_
  dsimp only
  generalize List.replicate (Int.toNat 4) zSc = ds at *
  obtain ⟨N3, haw⟩ := awake_ans
  refine ⟨N3 + 3000, fun n hn => ?_⟩
  obtain ⟨m, rfl⟩ : ∃ m, n = m + 2000 := ⟨n - 2000, by omega⟩
  have haw : c18 (F (m + 2000)) = _ := haw (m + 2000) (by omega)
  dsimp only [Alg.real]
  refine loop11 (fun q (i : Int) on ar lf b1 b2 lf' d (w : List Pw) d' w' r => (!on) = b1 ∧ ar = b2 ∧ d = d' ∧ w = w' ∧ r = true ∧ Lf ar lf lf' ∧ DOk d w ∧ d.length = 4 ∧ ∃ j : Nat, i = j ∧ j ≤ l.length ∧ q = l.length - j ∧ w.length ≤ j) ?_ (m + 2000) l.length _ _ _ _ _ _ _ _ _ _ _ _ ⟨rfl, rfl, rfl, rfl, rfl, ⟨fun _ => rfl, by decide, by decide⟩, hok0, hd4, 0, rfl, Nat.zero_le _, rfl, Nat.le_refl _⟩ (by omega)
  rintro q self i on ar lf b1 b2 lf' d w d' w' r ⟨rfl, rfl, rfl, rfl, rfl, hlf, hok, hdl, j, rfl, hj, rfl, hw⟩ ih
  by_cases hlt : j < l.length
  · obtain ⟨on', ar', k, k', ds', ws', e1, e2, e3, e4, e5⟩ := act_spec m l[j] (hl _ (List.getElem_mem hlt)) hok (by omega) hlf
    rw [if_pos (lssT (by omega)), if_pos (decT (by omega)), if_pos (decT (by omega)), oq_at hlt, e1, Option.bind_some]
    dsimp only
    rw [if_neg (by decide), agree_spec m e3 (by omega) (by omega), Option.bind_some]
    dsimp only
    rw [if_neg (by decide), add64 (by omega)]
    exact ih (l.length - (j + 1)) _ _ _ _ _ _ _ _ _ _ _ (by omega) ⟨rfl, rfl, rfl, rfl, rfl, e2, e3, by omega, j + 1, by omega, by omega, rfl, by omega⟩
  · rw [if_neg (lssF (by omega)), haw]
    rfl
theorem wf_mx {n : Int} (h : (Lit.int .i64 n).wf = true) : n ≤ mx := by
  have h2 : IntKind.i64.min ≤ n ∧ n ≤ 9223372036854775807 := by simpa [Lit.wf] using h
  exact h2.2
theorem appl_one {t1 : Ty} {R : Type} {F : Fn [t1] (Option R)} {a : t1.den} {y : R} (h : F a = some y) : appl [t1] F [⟨t1, a⟩] = some y := by
  rw [appl_cons]
  exact h
end Go.Sym.T6
