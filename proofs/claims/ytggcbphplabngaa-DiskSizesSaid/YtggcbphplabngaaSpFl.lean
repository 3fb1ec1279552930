/- What the law on failures computes. -/
import Derived.Test.YtggcbphplabngaaSpFr
set_option linter.unusedVariables false
namespace Go.Sym.T6
set_option maxRecDepth 100000
theorem k7 (a : Int) : ∃ k : Nat, k ≤ 7 ∧ IntKind.wrap .i64 (arith .and .u8 a 7) = (k : Int) := by
  have h : (BitVec.ofInt 8 a &&& BitVec.ofInt 8 7).toNat ≤ 7 := by
    rw [BitVec.toNat_and]
    exact Nat.and_le_right
  refine ⟨(BitVec.ofInt 8 a &&& BitVec.ofInt 8 7).toNat, h, ?_⟩
  show IntKind.wrap .i64 (IntKind.wrap .u8 (((BitVec.ofInt 8 a &&& BitVec.ofInt 8 7).toNat : Nat) : Int)) = _
  generalize (BitVec.ofInt 8 a &&& BitVec.ofInt 8 7).toNat = k at *
  have : ∀ k : Nat, k ≤ 7 → IntKind.wrap .i64 (IntKind.wrap .u8 (k : Int)) = (k : Int) := by
    intro k hk
    have h8 : k = 0 ∨ k = 1 ∨ k = 2 ∨ k = 3 ∨ k = 4 ∨ k = 5 ∨ k = 6 ∨ k = 7 := by omega
    rcases h8 with rfl | rfl | rfl | rfl | rfl | rfl | rfl | rfl <;> rfl
  exact this k h
theorem seen_none {s : Sc} {p : Int} : ∀ (ws : List Pw), (∀ x ∈ ws, x.1 ≠ p) → seen s p ws = s
  | [], _ => rfl
  | x :: ws, h => by
    show seen (if x.1 = p then x.2.1 else s) p ws = s
    rw [if_neg (h x (List.mem_cons_self ..))]
    exact seen_none ws (fun y hy => h y (List.mem_cons_of_mem _ hy))
theorem writeM_ok {p : Int} {b : List Int} {lf : Int} {ds : List Sc} {ws : List Pw} (hp : 0 ≤ p ∧ p < ds.length) (hb : b.length ≤ 64) : writeM p b true false lf ds ws = (0, true, false, lf, ds, ws ++ [(p, pad b, ())]) := by
  have hc : checkM true ds.length p = 0 := by
    show (if p < 0 ∨ p ≥ (ds.length : Int) then (6 : Int) else 0) = 0
    rw [if_neg (by omega)]
  unfold writeM
  rw [if_pos hc, if_pos hb]
  rfl
theorem writeM_left {p : Int} {b : List Int} {lf : Int} {ds : List Sc} {ws : List Pw} (hp : 0 ≤ p ∧ p < ds.length) (hb : b.length ≤ 64) (hl : lf > 0) : writeM p b true true lf ds ws = (0, true, true, lf - 1, ds, ws ++ [(p, pad b, ())]) := by
  have hc : checkM true ds.length p = 0 := by
    show (if p < 0 ∨ p ≥ (ds.length : Int) then (6 : Int) else 0) = 0
    rw [if_neg (by omega)]
  have hf : failsM true true lf = (false, true, true, lf - 1) := by
    unfold failsM
    rw [if_pos rfl, if_pos hl]
  unfold writeM
  rw [if_pos hc, if_pos hb, hf]
  rfl
theorem writeM_fail {p : Int} {b : List Int} {ds : List Sc} {ws : List Pw} (hp : 0 ≤ p ∧ p < ds.length) (hb : b.length ≤ 64) : writeM p b true true 0 ds ws = (10, false, false, 0, ds, ws) := by
  have hc : checkM true ds.length p = 0 := by
    show (if p < 0 ∨ p ≥ (ds.length : Int) then (6 : Int) else 0) = 0
    rw [if_neg (by omega)]
  unfold writeM
  rw [if_pos hc, if_pos hb]
  rfl
theorem writeM_out {p : Int} {b : List Int} {ar : Bool} {lf : Int} {ds : List Sc} {ws : List Pw} (hp : ¬ (0 ≤ p ∧ p < ds.length)) : writeM p b true ar lf ds ws = (6, true, ar, lf, ds, ws) := by
  have hc : checkM true ds.length p = 6 := by
    show (if p < 0 ∨ p ≥ (ds.length : Int) then (6 : Int) else 0) = 6
    rw [if_pos (by omega)]
  unfold writeM
  rw [if_neg (by rw [hc]; decide), hc]
theorem readM_ok {p : Int} {ar : Bool} {lf : Int} {ds : List Sc} {ws : List Pw} (hp : 0 ≤ p ∧ p < ds.length) : readM p true ar lf ds ws = (0, true, ar, lf, seen (ds.getD p.toNat zSc) p ws, ds, ws) := by
  have hc : checkM true ds.length p = 0 := by
    show (if p < 0 ∨ p ≥ (ds.length : Int) then (6 : Int) else 0) = 0
    rw [if_neg (by omega)]
  unfold readM
  rw [if_pos hc]
theorem flushM_ok {lf : Int} {ds : List Sc} {ws : List Pw} : flushM true false lf ds ws = (0, true, false, lf, flushed ds ws, []) := rfl
theorem _root_.Go.Sym.DOk.snoc {ds : List Sc} {ws : List Pw} (h : DOk ds ws) {p : Int} {b : List Int} (hp : 0 ≤ p ∧ p < ds.length) (hl : ws.length < 1000000) : DOk ds (ws ++ [(p, pad b, ())]) :=
  ⟨h.len, h.sec, fun x hx => by
    rcases List.mem_append.1 hx with hx | hx
    · exact h.wr x hx
    · rw [List.mem_singleton] at hx
      rw [hx]
      exact ⟨hp.1, hp.2, pad_len b⟩, by rw [List.length_append, List.length_singleton]; omega⟩
theorem _root_.Go.Sym.DOk.none {ds : List Sc} {ws : List Pw} (h : DOk ds ws) : DOk ds [] := ⟨h.len, h.sec, fun x hx => (by cases hx), by simp⟩
theorem fails_ans (a : Int) (data : List Int) : Ans (fun n => c7 (F n) a data) true := by
  refine Ans.step (x' := fun n => R7 .real (F n) n a data) ?_ (fun n => by rw [t7])
  unfold R7
  dsimp only [real_bind, real_branch]
  by_cases hd : data.length > 64
  · exact Ans.yes (gtrT (by omega)) (Ans.val _)
  refine Ans.no (gtrF (by omega)) ?_
  have hd : data.length ≤ 64 := by omega
  obtain ⟨k, hk, ek⟩ := k7 a
  rw [ek]
  refine Ans.bind (new_ans 8 (by decide) (by decide)) ?_
  dsimp only
  refine Ans.join fun J7 h7 => ?_
  refine Ans.no (neqF rfl) ?_
  subst h7
  refine Ans.no (by decide) ?_
  have e8 : List.replicate (Int.toNat 8) zSc = List.replicate 8 zSc := rfl
  rw [e8]
  refine Ans.bind (arm_ans (k : Int) true false 0 (List.replicate 8 zSc) []) ?_
  dsimp only
  rw [geqT (show (k : Int) ≥ 0 by omega)]
  have hdl : (List.replicate 8 zSc).length = 8 := rfl
  have hok0 : DOk (List.replicate 8 zSc) [] := ⟨by rw [hdl]; decide, zeros_sec 8, fun x hx => (by cases hx), by simp⟩
  generalize hds : List.replicate 8 zSc = ds at *
  have hz7 : ds.getD (Int.toNat 7) zSc = zSc := by rw [← hds]; rfl
  obtain ⟨N3, haw⟩ := awake_ans
  refine ⟨N3 + 1000, fun n hn => ?_⟩
  obtain ⟨m, rfl⟩ : ∃ m, n = m + 100 := ⟨n - 100, by omega⟩
  have haw : c18 (F (m + 100)) = _ := haw (m + 100) (by omega)
  dsimp only [Alg.real]
  refine loop6 (fun q (i : Int) on ar lf ds' (ws : List Pw) r => true = on ∧ true = ar ∧ ds = ds' ∧ r = true ∧ ∃ j : Nat, i = j ∧ j ≤ k ∧ q = k - j ∧ lf = (k : Int) - j ∧ ws.length = j ∧ DOk ds ws ∧ ∀ x ∈ ws, x.1 < j) ?_ (m + 100) k _ _ _ _ _ _ _ ⟨rfl, rfl, rfl, rfl, 0, rfl, Nat.zero_le _, rfl, by omega, rfl, hok0, fun x hx => by cases hx⟩ (by omega)
  rintro q self i on ar lf ds' ws r ⟨rfl, rfl, rfl, rfl, j, rfl, hj, rfl, rfl, hwl, hok, hlt⟩ ih
  by_cases hjk : j < k
  · rw [if_pos (lssT (by omega)), write_spec (m + 98) (j : Int) data true true ((k : Int) - j) ds ws (by omega) (by omega), writeM_left (by omega) hd (by omega), Option.bind_some]
    dsimp only
    rw [if_neg (neqF rfl), write_spec (m + 98) 99 data true true ((k : Int) - j - 1) ds (ws ++ [((j : Int), pad data, ())]) (by omega) (by rw [List.length_append, List.length_singleton]; omega), writeM_out (by omega), Option.bind_some]
    dsimp only
    rw [if_neg (neqF rfl), add64 (by omega)]
    refine ih (k - (j + 1)) _ _ _ _ _ _ (by omega) ⟨rfl, rfl, rfl, rfl, j + 1, by omega, by omega, rfl, by omega, by rw [List.length_append, List.length_singleton]; omega, hok.snoc (by omega) (by omega), fun x hx => ?_⟩
    rcases List.mem_append.1 hx with hx | hx
    · have := hlt x hx
      omega
    · rw [List.mem_singleton] at hx
      rw [hx]
      show (j : Int) < _
      omega
  · have ej : j = k := by omega
    subst ej
    rw [if_neg (lssF (by omega)), if_pos (decT (by decide))]
    have hlost : (List.set (List.set (List.set (List.set (List.replicate 4 (Ty.zero (.int .u8))) 0 108) 1 111) 2 115) 3 116) = ([108, 111, 115, 116] : List Int) := rfl
    rw [hlost, Int.sub_self, write_spec (m + 98) 7 [108, 111, 115, 116] true true 0 ds ws (by decide) (by omega), writeM_fail (by omega) (by decide), Option.bind_some]
    dsimp only
    rw [if_neg (neqF rfl), online_spec (m + 99), Option.bind_some]
    dsimp only
    rw [if_neg (by decide), pend_spec (m + 99), Option.bind_some]
    dsimp only
    rw [if_neg (neqF (by omega)), flush_spec (m + 98) false false 0 ds ws hok (by decide) (by omega), Option.bind_some]
    have hfm : flushM false false 0 ds ws = (10, false, false, 0, ds, ws) := rfl
    rw [hfm]
    dsimp only
    rw [Bool.eq_false_iff.2 (neqF (rfl : (10 : Int) = 10)), if_neg (by decide), power_spec (m + 99), Option.bind_some]
    dsimp only
    rw [read_spec (m + 98) 7 true false 0 ds ws hok (by omega), readM_ok (by omega), Option.bind_some, hz7, seen_none ws (fun x hx => by have := hlt x hx; omega)]
    dsimp only
    rw [if_pos (eqlT rfl), if_pos (decT (by decide)), if_pos (decT (by decide)), if_pos (decT (by decide))]
    show (if cmpS .eql (ByteArray.mk (List.toArray (List.map (fun x => UInt8.ofNat (Int.toNat x)) zSc))) (ByteArray.mk (List.toArray (List.map (fun x => UInt8.ofNat (Int.toNat x)) zSc))) = true then _ else _) = _
    rw [if_pos (cmpS_refl _), pend_spec (m + 99), Option.bind_some]
    dsimp only
    rw [if_pos (eqlT (by omega)), write_spec (m + 98) 7 data true false 0 ds ws (by decide) (by omega), writeM_ok (by omega) hd, Option.bind_some]
    dsimp only
    rw [if_pos (eqlT rfl), flush_spec (m + 98) true false 0 ds (ws ++ [(7, pad data, ())]) (hok.snoc (by omega) (by omega)) (by decide) (by rw [List.length_append, List.length_singleton]; omega), flushM_ok, Option.bind_some]
    dsimp only
    rw [if_pos (eqlT rfl), haw]
    rfl
end Go.Sym.T6
