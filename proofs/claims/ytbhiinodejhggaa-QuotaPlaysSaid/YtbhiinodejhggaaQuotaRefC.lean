/- Contracts of the document's answer, package doleref12: New, Set, Return, Refill, Charge. Conditions: the band is told by value, its local times in a row of their own. -/
import Derived.Test.YtbhiinodejhggaaQuotaRefE
import Derived.Laws.MakeOwn
namespace Go.Proofs.Ytbhiinodejhggaa
open Go Go.RowKit Go.ChangeShapes Go.WideShapes
set_option linter.unusedVariables false

theorem below_alloc (w : World) (o : Obj) : Below w.heap.size w (w.alloc o) := (Below.refl _ _).alloc (Nat.le_refl _) _
/-- Ensure, whole: what it answers, what it leaves -/
theorem rensure_any (k : Nat) (o : Int) (w : World) (b : Bd) (g cap : Nat) (h : RefB w b g cap) (hs : b.Small) (hk : b.l[k]? = some o) :
    Calls Try.prog 24 #[refV b g cap, .int .i64 k] w fun e w' => ∃ g' cap', e = .returned (.tuple #[refV (b.ens k o) g' cap', .bool (b.may o)]) ∧ RefB w' (b.ens k o) g' cap' ∧ Below w.heap.size w w' := by
  have hkl := (List.getElem?_eq_some_iff.1 hk).1
  unfold Bd.may Bd.ens
  by_cases hq : b.q = 0
  · rw [if_pos hq, if_pos hq]
    exact (rensure_free k w b g cap h hkl hq).mono fun e w' ⟨he, hb⟩ => ⟨g, cap, he, h.behind hb, hb⟩
  · have hq' : 0 < b.q := by have := hs.q; omega
    rw [if_neg hq, if_neg hq]
    by_cases ho : 0 < o
    · rw [if_pos ho, if_pos ho]
      exact (rensure_has k o w b g cap h hk hq' ho).mono fun e w' ⟨he, hb⟩ => ⟨g, cap, he, h.behind hb, hb⟩
    · rw [if_neg ho, if_neg ho]
      exact rensure_take k o w b g cap h hs hk hq' (by omega)
theorem rnew_no (ps : Int) (w : World) (h : ps < 1 ∨ 64 < ps) :
    Calls Try.prog 21 #[.int .i64 ps] w fun e w' => e = .returned (.tuple #[.agg #[.int .i64 0, .int .i64 0, .int .i64 0, .int .i64 0, .slice none 0 0], .int .i64 1]) ∧ Below w.heap.size w w' := by
  rcases h with h | h
  · go_enter Try.func21, Try.ntmps21
    go_wp2
    refine bodyPost_ret (v := .tuple #[.agg #[.int .i64 0, .int .i64 0, .int .i64 0, .int .i64 0, .slice none 0 0], .int .i64 1]) (by simp [results, Try.results21, go_sem]) rfl ⟨rfl, ?_⟩
    exact below_alloc _ _
  · go_enter Try.func21, Try.ntmps21
    go_wp2
    refine bodyPost_ret (v := .tuple #[.agg #[.int .i64 0, .int .i64 0, .int .i64 0, .int .i64 0, .slice none 0 0], .int .i64 1]) (by simp [results, Try.results21, go_sem]) rfl ⟨rfl, ?_⟩
    exact below_alloc _ _
theorem make_i64 (i : TypeInfo) (hi : Try.prog.info? 2 = some i) (hz : i.zero = some (.int .i64 0)) (hs : i.size = 1) (hb : i.bytes = 8) (n : Nat) (hn : n ≤ 64) (w : World) :
    (Instr.makeSlice 40 (.int .i64 (n : Int)) (.int .i64 (n : Int))).run Try.prog w = .ok (.slice (some ⟨w.heap.size, 0, none⟩) n n) (w.alloc (.cells (List.replicate n (Value.int .i64 0)).toArray 2)) := by
  have hr := run_make (P := Try.prog) w 40 2 i (.int .i64 0) Try.underlying40 hi hz .i64 .i64 (n : Int) (n : Int) (by omega) (by omega) (by rw [hb]; omega) (by omega)
  simp only [Int.toNat_natCast] at hr
  rw [hr]
  have e : madeCells (Value.int .i64 0).cells (n * i.size) = (List.replicate n (Value.int .i64 0)).toArray := by
    rw [hs, Nat.mul_one]
    unfold madeCells
    have e2 : (fun j : Nat => (Value.int .i64 0).cells[j % (Value.int .i64 0).cells.size]!) = fun _ => Value.int .i64 0 := by funext j; simp [Value.cells, Nat.mod_one]
    rw [e2]
    exact Array.ext (by simp) (by intros; simp)
  rw [e]
theorem refB_made (W : World) (b : Bd) (n g : Nat) (hg : W.heap.size = g) (hl : b.l = List.replicate n 0) (h1 : 1 ≤ n) (h2 : n ≤ 64) : RefB (W.alloc (.cells (List.replicate n (Value.int .i64 0)).toArray 2)) b g n := by
  subst hg
  have hlen : b.l.length = n := by rw [hl]; simp
  refine ⟨?_, by omega, by omega⟩
  have := World.ownsRow_lit (base := 0) (e := 2) (size := 1) W (List.replicate n (Value.int .i64 0)).toArray n (by omega) (by unfold maxLen; omega) (by simp)
  rw [hlen, hl, List.map_replicate]
  exact this
theorem rnew_yes (ps : Nat) (w : World) (h1 : 1 ≤ ps) (h2 : ps ≤ 64) :
    Calls Try.prog 21 #[.int .i64 ps] w fun e w' => ∃ g cap, e = .returned (.tuple #[refV ⟨0, 0, 0, 0, List.replicate ps 0⟩ g cap, .int .i64 0]) ∧ RefB w' ⟨0, 0, 0, 0, List.replicate ps 0⟩ g cap ∧ Below w.heap.size w w' := by
  obtain ⟨i0, hi, hq0, hq1, hq2⟩ := info_parts info_int64
  have hmk := fun w => make_i64 i0 hi hq0 hq1 hq2 ps h2 w
  clear hi hq0 hq1 hq2
  go_enter Try.func21, Try.ntmps21
  go_wp2
  refine bodyPost_ret (v := .tuple #[.agg #[.int .i64 0, .int .i64 0, .int .i64 0, .int .i64 0, .slice (some ⟨w.heap.size + 1, 0, none⟩) ps ps], .int .i64 0]) (by simp [results, Try.results21, go_sem]) rfl ⟨w.heap.size + 1, ps, ?_, ?_, ?_⟩
  · unfold refV; simp
  · have := refB_made (w.alloc (.cells #[.int .i64 0, .int .i64 0, .int .i64 0, .int .i64 0, .slice (some ⟨w.heap.size + 1, 0, none⟩) ps ps] 46)) ⟨0, 0, 0, 0, List.replicate ps 0⟩ ps (w.heap.size + 1) (by simp) rfl h1 h2
    simpa using this
  · exact (below_alloc _ _).alloc (by simp) _

theorem rset_bad (q s : Int) (w : World) (b : Bd) (g cap : Nat) (h : BadSet q s) :
    Calls Try.prog 23 #[refV b g cap, .int .i64 q, .int .i64 s] w fun e w' => e = .returned (.tuple #[refV b g cap, .int .i64 1]) ∧ Below w.heap.size w w' := by
  by_cases h1 : q < 0
  · clear h
    go_enter Try.func23, Try.ntmps23
    go_wp2
    refine bodyPost_ret (v := .tuple #[refV b g cap, .int .i64 1]) (by simp [results, Try.results23, go_sem]) rfl ⟨rfl, ?_⟩
    exact (below_alloc _ _).alloc (by simp) _
  · by_cases h2 : 1099511627776 < q
    · clear h
      go_enter Try.func23, Try.ntmps23
      go_wp2
      refine bodyPost_ret (v := .tuple #[refV b g cap, .int .i64 1]) (by simp [results, Try.results23, go_sem]) rfl ⟨rfl, ?_⟩
      exact (below_alloc _ _).alloc (by simp) _
    · have h3 : 0 < q ∧ (s < 1 ∨ 1099511627776 < s) := by
        rcases h with h | h | h
        · omega
        · omega
        · exact ⟨by omega, h.2⟩
      obtain ⟨hq, h3⟩ := h3
      have d0 : decide (0 < q) = true := decide_eq_true hq
      clear h
      rcases h3 with h3 | h3
      · have d1 : decide (s < 1) = true := decide_eq_true h3
        go_enter Try.func23, Try.ntmps23
        go_wp2
        refine bodyPost_ret (v := .tuple #[refV b g cap, .int .i64 1]) (by simp [results, Try.results23, go_sem]) rfl ⟨rfl, ?_⟩
        exact (below_alloc _ _).alloc (by simp) _
      · have d1 : decide (s < 1) = false := decide_eq_false (by omega)
        have d2 : decide (1099511627776 < s) = true := decide_eq_true h3
        go_enter Try.func23, Try.ntmps23
        go_wp2
        refine bodyPost_ret (v := .tuple #[refV b g cap, .int .i64 1]) (by simp [results, Try.results23, go_sem]) rfl ⟨rfl, ?_⟩
        exact (below_alloc _ _).alloc (by simp) _
theorem rset_ok (q s : Int) (w : World) (b : Bd) (g cap : Nat) (hr : RefB w b g cap) (h : ¬ BadSet q s) :
    Calls Try.prog 23 #[refV b g cap, .int .i64 q, .int .i64 s] w fun e w' => ∃ g' cap', e = .returned (.tuple #[refV (b.setTo q s) g' cap', .int .i64 0]) ∧ RefB w' (b.setTo q s) g' cap' ∧ Below w.heap.size w w' := by
  obtain ⟨i0, hi, hq0, hq1, hq2⟩ := info_parts info_int64
  have hmk := fun w => make_i64 i0 hi hq0 hq1 hq2 b.l.length hr.hi w
  have hlo := hr.lo
  have hhi := hr.hi
  clear hi hq0 hq1 hq2 hr
  have hq0 : 0 ≤ q := by unfold BadSet at h; omega
  have hq1 : q ≤ 1099511627776 := by unfold BadSet at h; omega
  by_cases hq : q = 0
  · have e : b.setTo q s = ⟨0, 0, 0, 0, List.replicate b.l.length 0⟩ := by unfold Bd.setTo; rw [hq]; simp
    rw [e]
    subst hq
    clear h hq0 hq1 e
    go_enter Try.func23, Try.ntmps23
    go_wp2
    refine bodyPost_ret (v := .tuple #[.agg #[.int .i64 0, .int .i64 0, .int .i64 0, .int .i64 0, .slice (some ⟨w.heap.size + 2, 0, none⟩) b.l.length b.l.length], .int .i64 0]) (by simp [results, Try.results23, go_sem]) rfl ⟨w.heap.size + 2, b.l.length, ?_, ?_, ?_⟩
    · unfold refV; simp
    · have := refB_made ((w.alloc (.cells (bcells b g cap) 46)).alloc (.cells #[.int .i64 0, .int .i64 0, .int .i64 0, .int .i64 0, .slice (some ⟨w.heap.size + 2, 0, none⟩) b.l.length b.l.length] 46)) ⟨0, 0, 0, 0, List.replicate b.l.length 0⟩ b.l.length (w.heap.size + 2) (by simp) rfl hlo hhi
      simpa using this
    · exact ((below_alloc _ _).alloc (by simp) _).alloc (by simp; omega) _
  · have e : b.setTo q s = ⟨q, s, q, 0, List.replicate b.l.length 0⟩ := by unfold Bd.setTo; rw [if_neg hq]
    rw [e]
    have hs0 : 1 ≤ s := by unfold BadSet at h; omega
    have hs1 : s ≤ 1099511627776 := by unfold BadSet at h; omega
    have hqp : 0 < q := by omega
    have hqb : (q == 0) = false := beq_eq_false_iff_ne.2 hq
    clear h hq e
    go_enter Try.func23, Try.ntmps23
    go_wp2
    refine bodyPost_ret (v := .tuple #[.agg #[.int .i64 q, .int .i64 s, .int .i64 q, .int .i64 0, .slice (some ⟨w.heap.size + 2, 0, none⟩) b.l.length b.l.length], .int .i64 0]) (by simp [results, Try.results23, go_sem]) rfl ⟨w.heap.size + 2, b.l.length, ?_, ?_, ?_⟩
    · unfold refV; simp
    · have := refB_made ((w.alloc (.cells (bcells b g cap) 46)).alloc (.cells #[.int .i64 q, .int .i64 s, .int .i64 q, .int .i64 0, .slice (some ⟨w.heap.size + 2, 0, none⟩) b.l.length b.l.length] 46)) ⟨q, s, q, 0, List.replicate b.l.length 0⟩ b.l.length (w.heap.size + 2) (by simp) rfl hlo hhi
      simpa using this
    · exact ((below_alloc _ _).alloc (by simp) _).alloc (by simp; omega) _
end Go.Proofs.Ytbhiinodejhggaa
