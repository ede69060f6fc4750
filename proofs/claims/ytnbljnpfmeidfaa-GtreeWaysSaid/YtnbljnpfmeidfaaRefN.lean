/- Contracts of the document's pool, doleref05: New, Names, Get. Conditions: the rows are as long as one another. -/
import Derived.Test.YtnbljnpfmeidfaaRefP
namespace Go.Proofs.Ytnbljnpfmeidfaa
open Go Go.RowKit Go.ChangeShapes Go.WideShapes
set_option linter.unusedVariables false

theorem rrow_some {w : World} {base : Nat} {e : TypeId} {size : Nat} {a : Option Addr} {c n : Nat} {xs : List Value} (h : w.ownsRow base e size (.slice a n c) n xs) (h0 : 0 < n) : ∃ t, a = some ⟨t, 0, none⟩ ∧ t < w.heap.size := by
  rcases h.2 with ⟨hv, hn⟩ | ⟨t, cf, cur, hv, _, hh, _⟩
  · omega
  · cases hv; exact ⟨t, rfl, (Array.getElem?_eq_some_iff.1 hh).1⟩
theorem icell {w : World} {base : Nat} {e : TypeId} {g c n : Nat} {l : List Int} (h : w.ownsRow base e 1 (.slice (some ⟨g, 0, none⟩) n c) n (iv l)) (hn : n = l.length) (k : Nat) (x : Int) (hk : l[k]? = some x) : w.cell? ⟨g, k, none⟩ = some (.int .i64 x) := by
  have hl := (List.getElem?_eq_some_iff.1 hk).1
  rw [h.cellAt k (by omega), iv, List.getElem?_map, hk]; rfl
theorem bcellx {w : World} {base : Nat} {e : TypeId} {g c n : Nat} {l : List Bool} (h : w.ownsRow base e 1 (.slice (some ⟨g, 0, none⟩) n c) n (bv l)) (hn : n = l.length) (k : Nat) (x : Bool) (hk : l[k]? = some x) : w.cell? ⟨g, k, none⟩ = some (.bool x) := by
  have hl := (List.getElem?_eq_some_iff.1 hk).1
  rw [h.cellAt k (by omega), bv, List.getElem?_map, hk]; rfl
theorem ncell {w : World} {base : Nat} {e : TypeId} {g c n : Nat} {l : List Nat} (h : w.ownsRow base e 1 (.slice (some ⟨g, 0, none⟩) n c) n (nv l)) (hn : n = l.length) (k : Nat) (x : Nat) (hk : l[k]? = some x) : w.cell? ⟨g, k, none⟩ = some (.int .i64 (x : Nat)) := by
  have hl := (List.getElem?_eq_some_iff.1 hk).1
  rw [h.cellAt k (by omega), nv, List.getElem?_map, hk]; rfl
/-- rows as long as one another -/
structure Rp.Ok (r : Rp) : Prop extends r.Fit where
  lu : r.used.length = r.vals.length
  lg : r.gens.length = r.vals.length
  lf : ∀ k ∈ r.freed, k < r.vals.length
/-- a handle names a place of the document's -/
def NamesR (r : Rp) (i g : Int) (k : Nat) : Prop := i = (k : Int) ∧ r.used[k]? = some true ∧ r.gens[k]? = some g
theorem rnames_neg (i g : Int) (w : World) (r : Rp) (a1 : Option Addr) (c1 : Nat) (a2 : Option Addr) (c2 : Nat) (a3 : Option Addr) (c3 : Nat) (a4 : Option Addr) (c4 : Nat) (hi : i < 0) :
    Calls Try.prog 43 #[.agg (pcells r a1 c1 a2 c2 a3 c3 a4 c4), .agg #[.int .i64 i, .int .i64 g]] w fun e w' => e = .returned (.bool false) ∧ Below w.heap.size w w' := by
  have h0 : decide (0 ≤ i) = false := decide_eq_false (by omega)
  go_enter Try.func43, Try.ntmps43
  go_wp2
  go_quiet (fail)
  go_wp2
  go_ret
  exact ⟨rfl, below_drewN ((below_alloc _ _).alloc (by simp) _) _⟩
theorem rnames_far (i g : Int) (w : World) (r : Rp) (a1 : Option Addr) (c1 : Nat) (a2 : Option Addr) (c2 : Nat) (a3 : Option Addr) (c3 : Nat) (a4 : Option Addr) (c4 : Nat) (h0 : 0 ≤ i) (hi : (r.vals.length : Int) ≤ i) :
    Calls Try.prog 43 #[.agg (pcells r a1 c1 a2 c2 a3 c3 a4 c4), .agg #[.int .i64 i, .int .i64 g]] w fun e w' => e = .returned (.bool false) ∧ Below w.heap.size w w' := by
  have h0 : decide (0 ≤ i) = true := decide_eq_true h0
  have h1 : decide (i < (r.vals.length : Int)) = false := decide_eq_false (by omega)
  go_enter Try.func43, Try.ntmps43
  go_wp2
  go_quiet (fail)
  go_wp2
  go_ret
  exact ⟨rfl, below_drewN ((below_alloc _ _).alloc (by simp) _) _⟩
theorem rnames_free (k : Nat) (g : Int) (w : World) (r : Rp) (a1 : Option Addr) (c1 : Nat) (a2 : Option Addr) (c2 : Nat) (a3 : Option Addr) (c3 : Nat) (a4 : Option Addr) (c4 : Nat) (h : RefP w r a1 c1 a2 c2 a3 c3 a4 c4) (ho : r.Ok) (hk : k < r.vals.length) (hu : r.used[k]? = some false) :
    Calls Try.prog 43 #[.agg (pcells r a1 c1 a2 c2 a3 c3 a4 c4), .agg #[.int .i64 k, .int .i64 g]] w fun e w' => e = .returned (.bool false) ∧ Below w.heap.size w w' := by
  have hkl := (List.getElem?_eq_some_iff.1 hu).1
  obtain ⟨g2, rfl, hg2⟩ := rrow_some h.used (by omega)
  have hc := bcellx h.used rfl k _ hu
  have d0 : decide (0 ≤ (k : Int)) = true := decide_eq_true (by omega)
  have d1 : decide ((k : Int) < (r.vals.length : Int)) = true := decide_eq_true (by omega)
  have b1 := ho.used
  have b2 := ho.vals
  clear h hu ho
  go_enter Try.func43, Try.ntmps43
  go_wp2
  go_quiet (fail)
  go_wp2
  go_ret
  exact ⟨rfl, below_drewN ((below_alloc _ _).alloc (by simp) _) _⟩
theorem rnames_gen (k : Nat) (g x : Int) (w : World) (r : Rp) (a1 : Option Addr) (c1 : Nat) (a2 : Option Addr) (c2 : Nat) (a3 : Option Addr) (c3 : Nat) (a4 : Option Addr) (c4 : Nat) (h : RefP w r a1 c1 a2 c2 a3 c3 a4 c4) (ho : r.Ok) (hk : k < r.vals.length) (hu : r.used[k]? = some true) (hg : r.gens[k]? = some x) :
    Calls Try.prog 43 #[.agg (pcells r a1 c1 a2 c2 a3 c3 a4 c4), .agg #[.int .i64 k, .int .i64 g]] w fun e w' => e = .returned (.bool (x == g)) ∧ Below w.heap.size w w' := by
  have hkl := (List.getElem?_eq_some_iff.1 hu).1
  have hkg := (List.getElem?_eq_some_iff.1 hg).1
  obtain ⟨g2, rfl, hg2⟩ := rrow_some h.used (by omega)
  obtain ⟨g3, rfl, hg3⟩ := rrow_some h.gens (by omega)
  have hc := bcellx h.used rfl k _ hu
  have hd := icell h.gens rfl k _ hg
  have d0 : decide (0 ≤ (k : Int)) = true := decide_eq_true (by omega)
  have d1 : decide ((k : Int) < (r.vals.length : Int)) = true := decide_eq_true (by omega)
  have b1 := ho.used
  have b2 := ho.vals
  have b3 := ho.gens
  clear h hu hg ho
  go_enter Try.func43, Try.ntmps43
  go_wp2
  go_quiet (fail)
  go_wp2
  go_ret
  exact ⟨rfl, below_drewN ((below_alloc _ _).alloc (by simp) _) _⟩
theorem rnames_yes (k : Nat) (i g : Int) (w : World) (r : Rp) (a1 : Option Addr) (c1 : Nat) (a2 : Option Addr) (c2 : Nat) (a3 : Option Addr) (c3 : Nat) (a4 : Option Addr) (c4 : Nat) (h : RefP w r a1 c1 a2 c2 a3 c3 a4 c4) (ho : r.Ok) (hn : NamesR r i g k) :
    Calls Try.prog 43 #[.agg (pcells r a1 c1 a2 c2 a3 c3 a4 c4), .agg #[.int .i64 i, .int .i64 g]] w fun e w' => e = .returned (.bool true) ∧ Below w.heap.size w w' := by
  obtain ⟨rfl, hu, hg⟩ := hn
  have c := rnames_gen k g g w r a1 c1 a2 c2 a3 c3 a4 c4 h ho (by have := (List.getElem?_eq_some_iff.1 hu).1; have := ho.lu; omega) hu hg
  rwa [show (g == g) = true by simp] at c
theorem rnames_no (i g : Int) (w : World) (r : Rp) (a1 : Option Addr) (c1 : Nat) (a2 : Option Addr) (c2 : Nat) (a3 : Option Addr) (c3 : Nat) (a4 : Option Addr) (c4 : Nat) (h : RefP w r a1 c1 a2 c2 a3 c3 a4 c4) (ho : r.Ok) (hn : ∀ k, ¬ NamesR r i g k) :
    Calls Try.prog 43 #[.agg (pcells r a1 c1 a2 c2 a3 c3 a4 c4), .agg #[.int .i64 i, .int .i64 g]] w fun e w' => e = .returned (.bool false) ∧ Below w.heap.size w w' := by
  by_cases h0 : i < 0
  · exact rnames_neg i g w r _ _ _ _ _ _ _ _ h0
  · by_cases h1 : (r.vals.length : Int) ≤ i
    · exact rnames_far i g w r _ _ _ _ _ _ _ _ (by omega) h1
    · obtain ⟨k, rfl⟩ := Int.eq_ofNat_of_zero_le (Int.not_lt.1 h0)
      have hk : k < r.vals.length := by omega
      have hu : r.used[k]? = some (r.used[k]'(by rw [ho.lu]; exact hk)) := List.getElem?_eq_getElem _
      have hg : r.gens[k]? = some (r.gens[k]'(by rw [ho.lg]; exact hk)) := List.getElem?_eq_getElem _
      generalize r.used[k]'(by rw [ho.lu]; exact hk) = u at hu
      generalize r.gens[k]'(by rw [ho.lg]; exact hk) = x at hg
      cases u with
      | false => exact rnames_free k g w r _ _ _ _ _ _ _ _ h ho hk hu
      | true =>
        have hne : x ≠ g := by rintro rfl; exact hn k ⟨rfl, hu, hg⟩
        have c := rnames_gen k g x w r _ _ _ _ _ _ _ _ h ho hk hu hg
        rwa [beq_eq_false_iff_ne.2 hne] at c

theorem rnewp_no (room : Int) (w : World) (h : room < 1 ∨ 4096 < room) :
    Calls Try.prog 41 #[.int .i64 room] w fun e w' => e = .returned (.tuple #[.agg pzero, .int .i64 1]) ∧ Below w.heap.size w w' := by
  rcases h with h | h
  all_goals
    go_enter Try.func41, Try.ntmps41
    go_wp2
    refine bodyPost_ret (v := .tuple #[.agg pzero, .int .i64 1]) (by simp [results, Try.results41, go_sem]) rfl ⟨rfl, ?_⟩
    exact below_alloc _ _
theorem rnewp_yes (room : Int) (w : World) (h : 1 ≤ room ∧ room ≤ 4096) :
    Calls Try.prog 41 #[.int .i64 room] w fun e w' => e = .returned (.tuple #[.agg #[.int .i64 room, .slice none 0 0, .slice none 0 0, .slice none 0 0, .slice none 0 0], .int .i64 0]) ∧ Below w.heap.size w w' := by
  go_enter Try.func41, Try.ntmps41
  go_wp2
  refine bodyPost_ret (v := .tuple #[.agg #[.int .i64 room, .slice none 0 0, .slice none 0 0, .slice none 0 0, .slice none 0 0], .int .i64 0]) (by simp [results, Try.results41, go_sem]) rfl ⟨rfl, ?_⟩
  exact below_alloc _ _
theorem refP_nil (w : World) (room : Int) : RefP w ⟨room, [], [], [], []⟩ none 0 none 0 none 0 none 0 := ⟨World.ownsRow_nil _ _ _ _, World.ownsRow_nil _ _ _ _, World.ownsRow_nil _ _ _ _, World.ownsRow_nil _ _ _ _⟩
end Go.Proofs.Ytnbljnpfmeidfaa
