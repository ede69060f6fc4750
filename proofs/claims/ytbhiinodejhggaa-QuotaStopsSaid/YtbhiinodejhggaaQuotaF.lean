/- Contracts of the program's package quota: Ensure where something is taken, Return, New, Set, Charge, Refill. Conditions: the band lies in memory as HasBand says. -/
import Derived.Test.YtbhiinodejhggaaQuotaE
import Derived.Deep.Cut
import Derived.Deep.DeepCutAuto
import Derived.Lib.MinMax
import Derived.WalkLawsBesides
import Derived.RegionTactic
import Derived.Outline
namespace Go.Proofs.Ytbhiinodejhggaa
open Go Go.RowKit Go.ChangeShapes Go.WideShapes
set_option linter.unusedVariables false

/-- bounds within which nothing runs over -/
structure Bd.Small (b : Bd) : Prop where
  q : 0 ≤ b.q ∧ b.q ≤ 1099511627776
  s : 0 ≤ b.s ∧ b.s ≤ 1099511627776
  pool : 0 ≤ b.pool ∧ b.pool ≤ 1125899906842624
  spent : 0 ≤ b.spent ∧ b.spent ≤ 1125899906842624
  l : ∀ x ∈ b.l, -1125899906842624 ≤ x ∧ x ≤ 1099511627776
theorem Bd.Small.loc {b : Bd} (h : b.Small) {k : Nat} {o : Int} (hk : b.l[k]? = some o) : -1125899906842624 ≤ o ∧ o ≤ 1099511627776 := h.l o (List.mem_of_getElem? hk)

/-- what Ensure takes out of the pool -/
def Bd.take (b : Bd) (o : Int) : Int := min b.pool (b.s - o)
def Bd.taken (b : Bd) (k : Nat) (o : Int) : Bd := { b with pool := b.pool - b.take o, l := b.l.set k (o + b.take o) }
set_option maxHeartbeats 1000000 in
theorem ensure_take (k : Nat) (o : Int) (w : World) (p : Nat) (b : Bd) (hb : HasBand w p b) (hs : b.Small) (h : b.l[k]? = some o) (hq : 0 < b.q) (ho : o ≤ 0) :
    Calls Try.prog 13 #[.pointer (some ⟨p, 0, none⟩), .int .i64 k] w fun e w' => e = .returned (.bool (decide (0 < o + b.take o))) ∧ HasBand w' p (b.taken k o) ∧ Tch (· = p) w w' := by
  obtain ⟨c0, c1, c2, c3, c4⟩ := hb.cell
  obtain ⟨hk, hko⟩ := List.getElem?_eq_some_iff.1 h
  have hl := hb.loc k hk
  rw [hko] at hl
  have hp := hb.lt
  have hi := hb.hi
  have hf2 := hb.free 2
  have hf4 := hb.free (4 + k)
  have hqb : (b.q == 0) = false := beq_eq_false_iff_ne.2 (by omega)
  obtain ⟨o1, o2⟩ := hs.loc h
  obtain ⟨s1, s2⟩ := hs.s
  obtain ⟨p1, p2⟩ := hs.pool
  have HB := Lib.hid hb
  unfold Bd.taken Bd.take
  clear hb h hko
  go_enter Try.func13, Try.ntmps13
  go_wp2_with (go_at_call 31; refine (there_in _ _ _ _ HB.out hk).mono ?_; rintro e w1 ⟨rfl, rfl⟩)
  go_quiet (fail)
  go_wp2
  go_ret
  refine ⟨rfl, ((HB.out.drewN nq).loc_ k hk (o + min b.pool (b.s - o))).pool_ (b.pool - min b.pool (b.s - o)), ?_⟩
  exact Tch.setCell (F := (· = p)) (Tch.setCell (F := (· = p)) ((Tch.refl _ _).drewN nq) (.inl rfl) _) (.inl rfl) _
/-- Ensure: what it answers, what it leaves -/
def Bd.may (b : Bd) (o : Int) : Bool := if b.q = 0 then true else if 0 < o then true else decide (0 < o + b.take o)
def Bd.ens (b : Bd) (k : Nat) (o : Int) : Bd := if b.q = 0 then b else if 0 < o then b else b.taken k o
theorem ensure_any (k : Nat) (o : Int) (w : World) (p : Nat) (b : Bd) (hb : HasBand w p b) (hs : b.Small) (h : b.l[k]? = some o) :
    Calls Try.prog 13 #[.pointer (some ⟨p, 0, none⟩), .int .i64 k] w fun e w' => e = .returned (.bool (b.may o)) ∧ HasBand w' p (b.ens k o) ∧ Tch (· = p) w w' := by
  have hk := (List.getElem?_eq_some_iff.1 h).1
  unfold Bd.may Bd.ens
  by_cases hq : b.q = 0
  · rw [if_pos hq, if_pos hq]
    exact (ensure_free k w p b hb hk hq).mono fun e w' ⟨he, hw⟩ => ⟨he, hw ▸ hb, hw ▸ Tch.refl _ _⟩
  · have hq' : 0 < b.q := by have := hs.q; omega
    rw [if_neg hq, if_neg hq]
    by_cases ho : 0 < o
    · rw [if_pos ho, if_pos ho]
      exact (ensure_has k o w p b hb h hq' ho).mono fun e w' ⟨he, hw⟩ => ⟨he, hw ▸ hb, hw ▸ Tch.refl _ _⟩
    · rw [if_neg ho, if_neg ho]
      exact ensure_take k o w p b hb hs h hq' (by omega)

theorem return_nil (k : Int) (w : World) : Calls Try.prog 15 #[.pointer none, .int .i64 k] w fun e w' => e = .returned (.tuple #[]) ∧ w = w' := by
  go_enter Try.func15, Try.ntmps15
  go_wp2_with (go_at_call 31; refine (there_nil _ _).mono ?_; rintro e w1 ⟨rfl, rfl⟩)
  go_end0
  exact ⟨rfl, rfl⟩
theorem return_not (k : Int) (w : World) (p : Nat) (b : Bd) (hb : HasBand w p b) (h : NotP b k) : Calls Try.prog 15 #[.pointer (some ⟨p, 0, none⟩), .int .i64 k] w fun e w' => e = .returned (.tuple #[]) ∧ w = w' := by
  go_enter Try.func15, Try.ntmps15
  go_wp2_with (go_at_call 31; refine (there_not _ _ _ _ hb h).mono ?_; rintro e w1 ⟨rfl, rfl⟩)
  go_end0
  exact ⟨rfl, rfl⟩
def Bd.back (b : Bd) (k : Nat) (o : Int) : Bd := { b with pool := b.pool + max o 0, l := b.l.set k (o - max o 0) }
theorem return_in (k : Nat) (o : Int) (w : World) (p : Nat) (b : Bd) (hb : HasBand w p b) (hs : b.Small) (h : b.l[k]? = some o) :
    Calls Try.prog 15 #[.pointer (some ⟨p, 0, none⟩), .int .i64 k] w fun e w' => e = .returned (.tuple #[]) ∧ HasBand w' p (b.back k o) ∧ Tch (· = p) w w' := by
  obtain ⟨c0, c1, c2, c3, c4⟩ := hb.cell
  obtain ⟨hk, hko⟩ := List.getElem?_eq_some_iff.1 h
  have hl := hb.loc k hk
  rw [hko] at hl
  have hp := hb.lt
  have hi := hb.hi
  have hf2 := hb.free 2
  have hf4 := hb.free (4 + k)
  obtain ⟨o1, o2⟩ := hs.loc h
  obtain ⟨p1, p2⟩ := hs.pool
  have HB := Lib.hid hb
  unfold Bd.back
  clear hb h hko
  go_enter Try.func15, Try.ntmps15
  go_wp2_with (go_at_call 31; refine (there_in _ _ _ _ HB.out hk).mono ?_; rintro e w1 ⟨rfl, rfl⟩)
  go_end0
  refine ⟨rfl, (HB.out.pool_ (b.pool + max o 0)).loc_ k hk (o - max o 0), ?_⟩
  exact Tch.setCell (F := (· = p)) (Tch.setCell (F := (· = p)) (Tch.refl _ _) (.inl rfl) _) (.inl rfl) _

theorem new_no (ps : Int) (w : World) (h : ps < 1 ∨ 64 < ps) :
    Calls Try.prog 20 #[.int .i64 ps] w fun e w' => e = .returned (.tuple #[.pointer none, .int .i64 1]) ∧ w = w' := by
  rcases h with h | h
  · go_enter Try.func20, Try.ntmps20
    go_wp2
    go_ret2
    exact ⟨rfl, rfl⟩
  · go_enter Try.func20, Try.ntmps20
    go_wp2
    go_ret2
    exact ⟨rfl, rfl⟩
/-- a new band's cells -/
def z69 : Array Value := (List.replicate 68 (Value.int .i64 0) ++ [Value.slice none 0 0]).toArray
theorem z69_run (w : World) : (zeroValue 66).run Try.prog w = .ok (.agg z69) w := by kernel_rfl
theorem z69_68 : z69[68]? = some (.slice none 0 0) := by kernel_rfl
theorem z69_band (p ps : Nat) (h2 : ps ≤ 64) : z69.setIfInBounds 68 (.slice (some ⟨p, 4, none⟩) ps 64) = (({ q := 0, s := 0, pool := 0, spent := 0, l := List.replicate ps 0 } : Bd).cells p).toArray := by
  have e : List.replicate 68 (Value.int .i64 0) = [.int .i64 0, .int .i64 0, .int .i64 0, .int .i64 0] ++ (List.replicate ps (Value.int .i64 0) ++ List.replicate (64 - ps) (Value.int .i64 0)) := by
    rw [List.replicate_append_replicate, show ps + (64 - ps) = 64 by omega]; rfl
  unfold z69 Bd.cells
  rw [List.setIfInBounds_toArray, List.set_append_right _ _ (by simp)]
  simp only [List.length_replicate, Nat.sub_self, List.set_cons_zero, List.map_replicate]
  rw [e]
  simp only [List.append_assoc]
set_option maxRecDepth 100000 in
theorem new_yes (ps : Nat) (w : World) (h1 : 1 ≤ ps) (h2 : ps ≤ 64) :
    Calls Try.prog 20 #[.int .i64 ps] w fun e w' => e = .returned (.tuple #[.pointer (some ⟨w.heap.size, 0, none⟩), .int .i64 0]) ∧ HasBand w' w.heap.size ⟨0, 0, 0, 0, List.replicate ps 0⟩ ∧ Below w.heap.size w w' := by
  have hz := z69_run
  have hz8 := z69_68
  go_enter Try.func20, Try.ntmps20
  go_wp2
  go_ret2
  refine ⟨rfl, ⟨?_, by simpa using h1, by simpa using h2⟩, (Below.refl _ _).alloc (Nat.le_refl _) _⟩
  rw [heap_alloc_new w _, z69_band _ _ h2]
end Go.Proofs.Ytbhiinodejhggaa
