/- Normal forms: what the law computes. -/
import Derived.Test.YtbhnbgelkemhiaaSpB
set_option linter.unusedVariables false
namespace Go.Sym.T22
set_option maxRecDepth 100000
theorem norm_len (l : List Int) : (norm l).length ≤ l.length := by
  have h : ∀ (l r : List Int), l.Pairwise (· < ·) → (∀ x ∈ l, x ∈ r) → l.length ≤ r.length := by
    intro l
    induction l with
    | nil => intro r _ _; exact Nat.zero_le _
    | cons x l ih =>
      intro r hp hs
      have hx := hs x (List.mem_cons_self ..)
      have h1 := ih (r.erase x) (List.pairwise_cons.1 hp).2 (fun y hy => (List.mem_erase_of_ne (by have := (List.pairwise_cons.1 hp).1 y hy; omega)).2 (hs y (List.mem_cons_of_mem _ hy)))
      rw [List.length_erase_of_mem hx] at h1
      have := List.length_pos_of_mem hx
      simp only [List.length_cons]
      omega
  exact h _ _ (norm_lt l) (fun x hx => (mem_norm l x).1 hx)
theorem supFrom_len (f : List GN) : ∀ (i : Nat) (u : List Bool) (l : List Int), (supFrom f i u l).length ≤ l.length + i
  | 0, _, _ => Nat.le_refl _
  | i + 1, u, l => by
    unfold supFrom
    split
    · have h := supFrom_len f i (mark u (nat f (i : Int)).ins) (if (nat f (i : Int)).kind = 2 then l ++ [(nat f (i : Int)).2.1] else l)
      have h2 : (if (nat f (i : Int)).kind = 2 then l ++ [(nat f (i : Int)).2.1] else l).length ≤ l.length + 1 := by
        split
        · rw [List.length_append]; exact Nat.le_refl _
        · omega
      omega
    · have := supFrom_len f i u l
      omega
theorem suppM_len (f : List GN) : (suppM f).length ≤ f.length := by
  unfold suppM
  split
  · exact Nat.le_trans (norm_len _) (by have := supFrom_len f f.length ((List.replicate f.length false).set (f.length - 1) true) []; simpa using this)
  · exact Nat.zero_le _
theorem meaning_ans (f : List GN) (ws : List (List Int)) : Ans (fun n => c5 (F n) (f, ()) ws) true := by
  refine Ans.step (x' := fun n => R5 .real (F n) n (f, ()) ws) ?_ (fun n => by rw [t5])
  unfold R5
  dsimp only [real_bind, real_branch]
  refine Ans.join fun J6 h6 => ?_
  refine Ans.bind (small_spec f 100 (by decide)) ?_
  suffices h : ∀ q, (q = true ∨ (q = false ∧ smallM f 100 = true ∧ ws.length ≤ 20)) → Ans (fun n => J6 n q f) true by
    by_cases hs : smallM f 100 = true
    · refine Ans.no (notF hs) (h _ ?_)
      by_cases hw : ws.length ≤ 20
      · exact .inr ⟨Bool.eq_false_iff.2 (gtrF (by omega)), hs, hw⟩
      · exact .inl (gtrT (by omega))
    · exact Ans.yes (notT hs) (h _ (.inl rfl))
  subst h6
  rintro q (rfl | ⟨rfl, hs, hw⟩)
  · exact Ans.yes rfl (Ans.bind awake_ans (Ans.val _))
  refine Ans.no (by decide) ?_
  have hlen : f.length ≤ 100 ∧ ∀ x ∈ f, x.ins.length ≤ 100 := by
    unfold smallM at hs
    simp only [Bool.and_eq_true, decide_eq_true_eq, List.all_eq_true] at hs
    exact ⟨by omega, fun x hx => by have := hs.2 x hx; omega⟩
  have h62 : ∀ x ∈ f, x.ins.length < 4611686018427387904 := fun x hx => by have := hlen.2 x hx; omega
  by_cases hv : validM f = true
  · obtain ⟨xs, hx, hg, hh, hxl, hne, hsz, hval, hil, hV, hS, ys, hy, hye⟩ := normal_ex hv (by omega) (mx := mx0) rfl
    have hroom : ∀ h : List GN, h.length ≤ 200 → L0.length + h.length < 67108864 ∧ (mx0 > 0 → ((L0.length + h.length : Nat) : Int) < mx0) := fun h hh => by
      show 2 + h.length < 67108864 ∧ (33554432 > 0 → ((2 + h.length : Nat) : Int) < 33554432)
      omega
    have n1 := norm_good f hv (hroom f (by omega)) (fun x hx => by have := hlen.2 x hx; omega) xs hx (by omega) hsz
    generalize hgg : exportM (importM mx0 L0 f).2 xs = g at *
    have hgl : g.length = xs.length := by rw [← hgg]; exact exportM_len
    have hroot2 := import_root gr0 (fun j n hj => validM_get hval hj) (hroom g (by omega))
    have hyl := rows_len hroot2.1.gr hroot2.2.1 hy
    have hl2 : (importM mx0 L0 g).2.length ≤ 2 + g.length := hroot2.2.2.1
    have hsz2 := rows_size hroot2.1.gr ys (fun x h => (((hy.mem x).1 h).has hroot2.1.gr hroot2.2.1).1)
    have hsz2 : (ys.map fun b => (nat (importM mx0 L0 g).2 b).ins.length).sum ≤ 33554432 := by
      have : ys.length * (importM mx0 L0 g).2.length ≤ 1000 * 1000 := Nat.mul_le_mul (by omega) (by omega)
      omega
    have n2 := norm_good g hval (hroom g (by omega)) (fun x hx => by have := hil x hx; omega) ys hy (by omega) hsz2
    have hye : exportM (importM mx0 L0 g).2 ys = g := hye
    rw [hye] at n2
    refine Ans.bind n1 ?_
    refine Ans.bind (rvalid_spec f h62) ?_
    refine Ans.no (notF hv) ?_
    refine Ans.bind n2 ?_
    dsimp only
    refine Ans.join fun J11 h11 => ?_
    refine Ans.no (neqF rfl) (Ans.no (neqF rfl) (Ans.bind (same_spec g g (by omega) (fun x hx => by have := hil x hx; omega)) ?_))
    rw [decide_eq_true (rfl : g = g)]
    refine Ans.no (by decide) ?_
    rw [Bool.eq_false_iff.2 (eqlF (by omega : ¬ ((g.length : Nat) : Int) = 0))]
    subst h11
    refine Ans.no (by decide) ?_
    obtain ⟨N, hN⟩ := meaning_last (f := f) (g := g) (ws := ws) hw (fun x hx => by have := hlen.2 x hx; omega) (fun x hx => by have := hil x hx; omega) hV hS (by have := suppM_len f; omega) (by have := suppM_len g; omega)
    refine ⟨N + 1000, fun n hn => ?_⟩
    obtain ⟨c1, c2, c3, c4⟩ := hN n (by omega)
    have sl1 := suppM_len f
    have sl2 := suppM_len g
    dsimp only [Alg.real]
    refine loop3 (fun q (i : Int) f' g' r => f = f' ∧ g = g' ∧ r = true ∧ ∃ j : Nat, i = j ∧ j ≤ ws.length ∧ q = ws.length - j) ?_ n ws.length _ _ _ _ ⟨rfl, rfl, rfl, 0, rfl, Nat.zero_le _, rfl⟩ (by omega)
    rintro q self i f' g' r ⟨rfl, rfl, rfl, j, rfl, hj, rfl⟩ ih
    by_cases hlt : j < ws.length
    · have hnext : self (arith .add .i64 (j : Int) 1) f g = some true := by
        rw [add64 (by omega)]
        exact ih (ws.length - (j + 1)) _ _ _ (by omega) ⟨rfl, rfl, rfl, j + 1, by omega, by omega, rfl⟩
      have hgd : ws.getD (Int.toNat (j : Int)) (Ty.zero (.slice (.int .i64))) = ws[j] := by
        rw [Int.toNat_natCast, List.getD_eq_getElem?_getD, List.getElem?_eq_getElem hlt]
        rfl
      have hm := List.getElem_mem hlt
      rw [if_pos (lssT (by omega)), if_pos (decT (by omega)), if_pos (decT (by omega)), hgd]
      generalize ws[j] = w at *
      by_cases hwl : w.length ≤ 100
      · obtain ⟨d1, d2⟩ := c1 w hm hwl
        rw [if_pos (leqT (by omega)), d2, Option.bind_some, d1, Option.bind_some, hV w]
        rw [show (!(holdsM f w == holdsM f w)) = false from by simp, if_neg (by decide)]
        exact hnext
      · rw [if_neg (leqF (by omega)), if_neg (by decide)]
        exact hnext
    · rw [if_neg (lssF (by omega)), c2, Option.bind_some]
      refine loop3 (fun q (i : Int) g' (m : SM) r => g = g' ∧ r = true ∧ ∃ j : Nat, i = j ∧ j ≤ (suppM f).length ∧ q = (suppM f).length - j ∧ ∀ b ∈ (suppM f).take j, @mget (.int .i64) .bool m b = some true) ?_ n (suppM f).length _ _ _ _ ⟨rfl, rfl, 0, rfl, Nat.zero_le _, rfl, fun b hb => by simp at hb⟩ (by omega)
      clear ih hj hlt self j
      rintro q self i g' m r ⟨rfl, rfl, j, rfl, hj, rfl, hm⟩ ih
      by_cases hlt : j < (suppM f).length
      · rw [if_pos (lssT (by omega)), if_pos (decT (by omega)), if_pos (decT (by omega)), getD_at hlt, add64 (by omega)]
        refine ih ((suppM f).length - (j + 1)) _ _ _ (by omega) ⟨rfl, rfl, j + 1, by omega, by omega, rfl, fun b hb => ?_⟩
        rw [mget_mset]
        split
        · rfl
        · rename_i hne
          rw [take_snoc _ _ hlt] at hb
          rcases List.mem_append.1 hb with hb | hb
          · exact hm b hb
          · exact absurd (List.mem_singleton.1 hb) hne
      · rw [List.take_of_length_le (by omega)] at hm
        rw [if_neg (lssF (by omega)), c3, Option.bind_some]
        refine loop2 (fun q (i : Int) (m' : SM) r => m = m' ∧ r = true ∧ ∃ j : Nat, i = j ∧ j ≤ (suppM g).length ∧ q = (suppM g).length - j) ?_ n (suppM g).length _ _ _ ⟨rfl, rfl, 0, rfl, Nat.zero_le _, rfl⟩ (by omega)
        clear ih hj hlt self j
        rintro q self i m' r ⟨rfl, rfl, j, rfl, hj, rfl⟩ ih
        by_cases hlt : j < (suppM g).length
        · have hb := hm _ (hS _ (List.getElem_mem hlt))
          rw [if_pos (lssT (by omega)), if_pos (decT (by omega)), if_pos (decT (by omega)), getD_at hlt, hb]
          show (if (!true) = true then some false else self (arith .add .i64 (j : Int) 1) m) = _
          rw [if_neg (by decide), add64 (by omega)]
          exact ih ((suppM g).length - (j + 1)) _ _ (by omega) ⟨rfl, rfl, j + 1, by omega, by omega, rfl⟩
        · rw [if_neg (lssF (by omega)), c4]
          rfl
  · refine Ans.bind (norm_bad f h62 hv) (Ans.bind (rvalid_spec f h62) ?_)
    refine Ans.yes (notT hv) ?_
    refine Ans.join fun J10 h10 => ?_
    subst h10
    exact Ans.yes (eqlT rfl) (Ans.yes (eqlT rfl) (Ans.bind awake_ans (Ans.val _)))
end Go.Sym.T22
