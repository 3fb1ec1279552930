/- What the law on fresh slices computes. -/
import Derived.Test.YtggcbphplabngaaSp
set_option linter.unusedVariables false
namespace Go.Sym.T6
set_option maxRecDepth 100000
theorem cmpS_refl (a : ByteArray) : cmpS .eql a a = true := by
  show (a.toList == a.toList) = true
  simp
theorem cmpS_neq (a : ByteArray) : ¬ cmpS .neq a a = true := by
  show ¬ (!(a.toList == a.toList)) = true
  simp
theorem write_ans (p : Int) (b : List Int) (on ar : Bool) (lf : Int) (ds : List Sc) (ws : List Pw) (h : lf ≤ 9223372036854775807) (hw : ws.length ≤ 1000000) : Ans (fun n => c11 (F n) p b on ar lf ds ws) (writeM p b on ar lf ds ws) := Ans.from 2 fun n => write_spec n p b on ar lf ds ws h hw
theorem read_ans (p : Int) (on ar : Bool) (lf : Int) (ds : List Sc) (ws : List Pw) (hok : DOk ds ws) : Ans (fun n => c14 (F n) p on ar lf ds ws) (readM p on ar lf ds ws) := Ans.from (ws.length + 2) fun n => read_spec (n + ws.length) p on ar lf ds ws hok (by omega)
theorem flush_ans (on ar : Bool) (lf : Int) (ds : List Sc) (ws : List Pw) (hok : DOk ds ws) (h : lf ≤ 9223372036854775807) : Ans (fun n => c13 (F n) on ar lf ds ws) (flushM on ar lf ds ws) := Ans.from (ws.length + 2) fun n => flush_spec (n + ws.length) on ar lf ds ws hok h (by omega)
theorem crash_ans (keep torn : Int) (on ar : Bool) (lf : Int) (ds : List Sc) (ws : List Pw) (hok : DOk ds ws) : Ans (fun n => c15 (F n) keep torn on ar lf ds ws) (false, false, lf, crashed keep torn (lastS keep ws.length 0 (-1)) 0 ds ws, []) := Ans.from (ws.length + 2) fun n => crash_spec (n + ws.length) keep torn on ar lf ds ws hok (by omega)
theorem new_ans (n : Int) (h1 : 1 ≤ n) (h2 : n ≤ 8192) : Ans (fun k => c10 (F k) n) (0, true, false, 0, List.replicate n.toNat zSc, []) := Ans.from 1 fun k => new_spec k n h1 h2
theorem pend_ans (on ar : Bool) (lf : Int) (ds : List Sc) (ws : List Pw) : Ans (fun k => c17 (F k) on ar lf ds ws) ((ws.length : Int), on, ar, lf, ds, ws) := Ans.from 1 fun k => pend_spec k on ar lf ds ws
theorem online_ans (on ar : Bool) (lf : Int) (ds : List Sc) (ws : List Pw) : Ans (fun k => c21 (F k) on ar lf ds ws) (on, on, ar, lf, ds, ws) := Ans.from 1 fun k => online_spec k on ar lf ds ws
theorem power_ans (on ar : Bool) (lf : Int) (ds : List Sc) (ws : List Pw) : Ans (fun k => c16 (F k) on ar lf ds ws) (true, false, lf, ds, ws) := Ans.from 1 fun k => power_spec k on ar lf ds ws
theorem arm_ans (n : Int) (on ar : Bool) (lf : Int) (ds : List Sc) (ws : List Pw) : Ans (fun k => c20 (F k) n on ar lf ds ws) (on, cmpI .geq n 0, n, ds, ws) := Ans.from 1 fun k => arm_spec k n on ar lf ds ws
theorem own_spec (n : Nat) (p : Int) (b : List Int) (on ar : Bool) (lf : Int) (ds : List Sc) (ws : List Pw) (h : lf ≤ 9223372036854775807) (hw : ws.length ≤ 1000000) :
    c111 (F (n + 2)) p on ar lf b ds ws = some ((writeM p b on ar lf ds ws).1, (writeM p b on ar lf ds ws).2.1, (writeM p b on ar lf ds ws).2.2.1, (writeM p b on ar lf ds ws).2.2.2.1, b, (writeM p b on ar lf ds ws).2.2.2.2.1, (writeM p b on ar lf ds ws).2.2.2.2.2) := by
  show c111 (F (n + 1 + 1)) p on ar lf b ds ws = _
  rw [t111]
  unfold R111 writeM
  dsimp only [Alg.real]
  rw [check_spec, Option.bind_some]
  dsimp only
  by_cases h1 : checkM on ds.length p = 0
  · rw [if_neg (neqF h1), if_pos h1]
    by_cases h2 : b.length ≤ 64
    · rw [if_neg (gtrF (by omega)), if_pos h2, fails_spec n on ar lf ds ws h, Option.bind_some]
      dsimp only
      by_cases h3 : (failsM on ar lf).1 = true
      · rw [if_pos h3, if_pos h3]
      · rw [if_neg h3, if_neg h3, if_pos (decT (by decide)), if_pos (decT (by decide)), if_pos (decT (by decide))]
        show (if decide ((ws.length + 1) * 72 ≤ 140737488355328) = true then some (0, (failsM on ar lf).2.1, (failsM on ar lf).2.2.1, (failsM on ar lf).2.2.2, b, ds, ws ++ [(p, pad b, ())]) else none) = _
        rw [if_pos (decT (by omega))]
    · rw [if_pos (gtrT (by omega)), if_neg h2]
  · rw [if_pos (neqT h1), if_neg h1]
theorem own_ans (p : Int) (b : List Int) (on ar : Bool) (lf : Int) (ds : List Sc) (ws : List Pw) (h : lf ≤ 9223372036854775807) (hw : ws.length ≤ 1000000) :
    Ans (fun n => c111 (F n) p on ar lf b ds ws) ((writeM p b on ar lf ds ws).1, (writeM p b on ar lf ds ws).2.1, (writeM p b on ar lf ds ws).2.2.1, (writeM p b on ar lf ds ws).2.2.2.1, b, (writeM p b on ar lf ds ws).2.2.2.2.1, (writeM p b on ar lf ds ws).2.2.2.2.2) := Ans.from 2 fun n => own_spec n p b on ar lf ds ws h hw
theorem zeros_sec (n : Nat) : ∀ s ∈ List.replicate n zSc, s.length = 64 := fun s hs => by
  rw [(List.mem_replicate.1 hs).2]
  exact zSc_len
/-- The row that was read is laid over; then comes what follows. -/
theorem fresh_ans (data : List Int) (by_ : Int) : Ans (fun n => c5 (F n) data by_) true := by
  refine Ans.step (x' := fun n => R5 .real (F n) n data by_) ?_ (fun n => by rw [t5])
  unfold R5
  dsimp only [real_bind, real_branch]
  refine Ans.join fun J6 h6 => ?_
  suffices h : ∀ q, (q = true ∨ (q = false ∧ 1 ≤ data.length ∧ data.length ≤ 64)) → Ans (fun n => J6 n q) true by
    by_cases h1 : data.length > 64
    · exact Ans.yes (gtrT (by omega)) (h _ (.inl rfl))
    · refine Ans.no (gtrF (by omega)) (h _ ?_)
      by_cases h2 : data.length < 1
      · exact .inl (lssT (by omega))
      · exact .inr ⟨Bool.eq_false_iff.2 (lssF (by omega)), by omega, by omega⟩
  subst h6
  rintro q (rfl | ⟨rfl, hd1, hd2⟩)
  · exact Ans.yes rfl (Ans.val _)
  refine Ans.no (by decide) ?_
  refine Ans.bind (new_ans 2 (by decide) (by decide)) ?_
  dsimp only
  have e2 : List.replicate (Int.toNat 2) zSc = [zSc, zSc] := rfl
  rw [e2]
  refine Ans.join fun J8 h8 => ?_
  refine Ans.no (neqF rfl) ?_
  subst h8
  refine Ans.no (by decide) ?_
  refine Ans.yes (decT (by show (0 + data.length) * 1 ≤ _; omega)) ?_
  have e0 : List.replicate 0 (Ty.zero (.int .u8)) ++ data = data := rfl
  rw [e0]
  refine Ans.bind (own_ans 1 data true false 0 [zSc, zSc] [] (by decide) (by simp)) ?_
  have hw : writeM 1 data true false 0 [zSc, zSc] [] = (0, true, false, 0, [zSc, zSc], [(1, pad data, ())]) := by
    unfold writeM
    rw [if_pos (by rfl), if_pos hd2, if_neg (by decide)]
    rfl
  rw [hw]
  dsimp only
  have hok : DOk [zSc, zSc] [(1, pad data, ())] := ⟨by decide, fun s hs => by
    simp only [List.mem_cons, List.not_mem_nil, or_false, or_self] at hs
    rw [hs]
    exact zSc_len, fun x hx => by
    rw [List.mem_singleton] at hx
    rw [hx]
    exact ⟨(by show (0 : Int) ≤ 1; decide), (by show (1 : Int) < 2; decide), pad_len _⟩, by simp⟩
  refine Ans.no (neqF rfl) (Ans.yes (decT (by decide)) (Ans.yes (decT (by omega)) (Ans.yes (decT (by decide)) (Ans.yes (decT (by omega)) ?_))))
  refine Ans.bind (read_ans 1 true false 0 [zSc, zSc] [(1, pad data, ())] hok) ?_
  have hrd : readM 1 true false 0 [zSc, zSc] [(1, pad data, ())] = (0, true, false, 0, pad data, [zSc, zSc], [(1, pad data, ())]) := rfl
  rw [hrd]
  dsimp only
  refine Ans.join fun J16 h16 => ?_
  refine Ans.no (neqF rfl) ?_
  rw [Bool.eq_false_iff.2 (neqF (show (((pad data).length : Nat) : Int) = 64 by rw [pad_len]; rfl))]
  subst h16
  refine Ans.no (by decide) ?_
  -- what follows the loop
  have hfl := flush_ans true false 0 [zSc, zSc] [(1, pad data, ())] hok (by decide)
  have hfe : flushM true false 0 [zSc, zSc] [(1, pad data, ())] = (0, true, false, 0, [zSc, pad data], []) := rfl
  rw [hfe] at hfl
  have hok2 : DOk [zSc, pad data] [] := ⟨(by show 2 ≤ 8192; decide), fun s hs => by
    simp only [List.mem_cons, List.not_mem_nil, or_false] at hs
    rcases hs with rfl | rfl
    · exact zSc_len
    · exact pad_len _, fun x hx => (by cases hx), by simp⟩
  have hr2 := read_ans 1 true false 0 [zSc, pad data] [] hok2
  have hre : readM 1 true false 0 [zSc, pad data] [] = (0, true, false, 0, pad data, [zSc, pad data], []) := rfl
  rw [hre] at hr2
  obtain ⟨N1, hfl⟩ := hfl
  obtain ⟨N2, hr2⟩ := hr2
  obtain ⟨N3, haw⟩ := awake_ans
  refine ⟨N1 + N2 + N3 + 100, fun n hn => ?_⟩
  have hfl : c13 (F n) true false 0 [zSc, zSc] [(1, pad data, ())] = _ := hfl n (by omega)
  have hr2 : c14 (F n) 1 true false 0 [zSc, pad data] [] = _ := hr2 n (by omega)
  have haw : c18 (F n) = _ := haw n (by omega)
  dsimp only [Alg.real]
  refine loop7 (fun q (i : Int) on ar lf (c : List Int) ds ws r => true = on ∧ false = ar ∧ 0 = lf ∧ [zSc, zSc] = ds ∧ [(1, pad data, ())] = ws ∧ r = true ∧ c.length = 64 ∧ ∃ j : Nat, i = j ∧ j ≤ 64 ∧ q = 64 - j) ?_ n 64 _ _ _ _ _ _ _ _ ⟨rfl, rfl, rfl, rfl, rfl, rfl, pad_len _, 0, rfl, by decide, rfl⟩ (by omega)
  rintro q self i on ar lf c ds ws r ⟨rfl, rfl, rfl, rfl, rfl, rfl, hc, j, rfl, hj, rfl⟩ ih
  by_cases hlt : j < 64
  · rw [if_pos (lssT (by omega)), if_pos (decT (by omega)), if_pos (decT (by omega)), add64 (by omega)]
    exact ih (64 - (j + 1)) _ _ _ _ _ _ _ (by omega) ⟨rfl, rfl, rfl, rfl, rfl, rfl, by rw [List.length_set]; exact hc, j + 1, by omega, by omega, rfl⟩
  · rw [if_neg (lssF (by omega)), hfl, Option.bind_some]
    dsimp only
    rw [if_neg (neqF rfl), hr2, Option.bind_some]
    dsimp only
    rw [if_pos (eqlT rfl), if_pos (eqlT (by rw [pad_len]; rfl)), if_pos (decT (by decide)), if_pos (decT (by omega)), if_pos (decT (by rw [pad_len]; omega))]
    have hb : List.take ((Int.toNat ((data.length : Nat) : Int)) - (Int.toNat 0)) (List.drop (Int.toNat 0) (pad data)) = data := by
      rw [Int.toNat_natCast]
      exact pad_take hd2
    show (if cmpS .eql (ByteArray.mk (List.toArray (List.map (fun x => UInt8.ofNat (Int.toNat x)) (List.take ((Int.toNat ((data.length : Nat) : Int)) - (Int.toNat 0)) (List.drop (Int.toNat 0) (pad data)))))) (ByteArray.mk (List.toArray (List.map (fun x => UInt8.ofNat (Int.toNat x)) data))) = true then _ else _) = _
    rw [hb, if_pos (cmpS_refl _), haw]
    rfl
end Go.Sym.T6
