/- Contracts of the program's package arena over group. Conditions: the pool lies in memory as HasPool says. -/
import Derived.Test.YtnbljnpfmeidfaaPool
namespace Go.Proofs.Ytnbljnpfmeidfaa
open Go Go.RowKit Go.ChangeShapes Go.WideShapes
set_option linter.unusedVariables false

theorem at_nil (i g : Int) (w : World) :
    Calls Try.prog 56 #[.pointer none, .agg #[.int .i64 i, .int .i64 g]] w fun e w' => e = .returned (.pointer none) ∧ ∃ n, (w.alloc (.cells #[.int .i64 i, .int .i64 g] 30)).drewN n = w' := by
  go_enter Try.func56, Try.ntmps56
  go_wp2
  go_quiet (fail)
  go_wp2
  go_ret
  exact ⟨rfl, _, rfl⟩

theorem at_neg (i g : Int) (w : World) (p : Nat) (hi : i < 0) :
    Calls Try.prog 56 #[.pointer (some ⟨p, 0, none⟩), .agg #[.int .i64 i, .int .i64 g]] w fun e w' => e = .returned (.pointer none) ∧ ∃ n, (w.alloc (.cells #[.int .i64 i, .int .i64 g] 30)).drewN n = w' := by
  go_enter Try.func56, Try.ntmps56
  go_wp2
  go_quiet (fail)
  go_wp2
  go_ret
  exact ⟨rfl, _, rfl⟩

theorem at_far (i g : Int) (w : World) (p : Nat) (a : Option Addr) (len cap : Nat) (hp : p < w.heap.size) (hc : w.cell? ⟨p, 2, none⟩ = some (.slice a len cap)) (hi : (len : Int) ≤ i) (h0 : 0 ≤ i) :
    Calls Try.prog 56 #[.pointer (some ⟨p, 0, none⟩), .agg #[.int .i64 i, .int .i64 g]] w fun e w' => e = .returned (.pointer none) ∧ ∃ n, (w.alloc (.cells #[.int .i64 i, .int .i64 g] 30)).drewN n = w' := by
  go_enter Try.func56, Try.ntmps56
  go_wp2
  go_quiet (fail)
  go_wp2
  go_ret
  exact ⟨rfl, _, rfl⟩

theorem at_in (k : Nat) (g : Int) (w : World) (p b : Nat) (len cap : Nat) (q : Pl) (hp : p < w.heap.size) (hb : b < w.heap.size) (hc : w.cell? ⟨p, 2, none⟩ = some (.slice (some ⟨b, 0, none⟩) len cap)) (hk : k < len) (hlen : len ≤ 4096)
    (h1 : w.cell? ⟨b, k * 6 + 3, none⟩ = some (.int .i64 q.gen)) (h2 : w.cell? ⟨b, k * 6 + 4, none⟩ = some (.bool q.used)) :
    Calls Try.prog 56 #[.pointer (some ⟨p, 0, none⟩), .agg #[.int .i64 k, .int .i64 g]] w fun e w' => e = .returned (if q.used = true ∧ q.gen = g then .pointer (some ⟨b, k * 6, none⟩) else .pointer none) ∧ ∃ n, (w.alloc (.cells #[.int .i64 k, .int .i64 g] 30)).drewN n = w' := by
  cases hu : q.used
  · rw [if_neg (by simp)]
    rw [hu] at h2
    clear hu
    go_enter Try.func56, Try.ntmps56
    go_wp2
    go_quiet (fail)
    go_wp2
    go_quiet (fail)
    go_wp2
    go_quiet (fail)
    go_wp2
    go_ret
    refine ⟨rfl, ?_⟩
    simp only [World.drewN_drewN]
    exact ⟨_, rfl⟩
  · by_cases hg : q.gen = g
    · rw [if_pos ⟨rfl, hg⟩]
      have hgb : (q.gen == g) = true := beq_iff_eq.2 hg
      rw [hu] at h2
      clear hu hg
      go_enter Try.func56, Try.ntmps56
      go_wp2
      go_quiet (fail)
      go_wp2
      go_quiet (fail)
      go_wp2
      go_quiet (fail)
      go_wp2
      go_ret
      refine ⟨rfl, ?_⟩
      simp only [World.drewN_drewN]
      exact ⟨_, rfl⟩
    · rw [if_neg (by simp [hg])]
      have hgb : (q.gen == g) = false := beq_eq_false_iff_ne.2 hg
      rw [hu] at h2
      clear hu hg
      go_enter Try.func56, Try.ntmps56
      go_wp2
      go_quiet (fail)
      go_wp2
      go_quiet (fail)
      go_wp2
      go_quiet (fail)
      go_wp2
      go_ret
      refine ⟨rfl, ?_⟩
      simp only [World.drewN_drewN]
      exact ⟨_, rfl⟩
end Go.Proofs.Ytnbljnpfmeidfaa
