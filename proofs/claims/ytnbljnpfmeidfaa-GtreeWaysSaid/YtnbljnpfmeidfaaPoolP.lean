/- Contracts of the program's package arena over group: New, Put. Conditions: the pool lies in memory as HasPool says. -/
import Derived.Test.YtnbljnpfmeidfaaPoolS
namespace Go.Proofs.Ytnbljnpfmeidfaa
open Go Go.RowKit Go.ChangeShapes Go.WideShapes
set_option linter.unusedVariables false

theorem new_no (room : Int) (w : World) (h : room < 1 ∨ 4096 < room) :
    Calls Try.prog 38 #[.int .i64 room] w fun e w' => e = .returned (.tuple #[.pointer none, .int .i64 1]) ∧ w = w' := by
  rcases h with h | h
  · go_enter Try.func38, Try.ntmps38
    go_wp2
    go_ret2
    exact ⟨rfl, rfl⟩
  · go_enter Try.func38, Try.ntmps38
    go_wp2
    go_ret2
    exact ⟨rfl, rfl⟩
theorem new_yes (room : Int) (w : World) (h : 1 ≤ room ∧ room ≤ 4096) :
    Calls Try.prog 38 #[.int .i64 room] w fun e w' => e = .returned (.tuple #[.pointer (some ⟨w.heap.size, 0, none⟩), .int .i64 0]) ∧
      w.alloc (.cells #[.int .i64 room, .int .i64 0, .slice none 0 0, .int .i64 (-1)] 107) = w' := by
  go_enter Try.func38, Try.ntmps38
  go_wp2
  go_ret2
  exact ⟨rfl, rfl⟩
theorem HasPool.made (w : World) (room : Int) (base : Nat) (h : base ≤ w.heap.size) : HasPool (w.alloc (.cells #[.int .i64 room, .int .i64 0, .slice none 0 0, .int .i64 (-1)] 107)) base w.heap.size (.slice none 0 0) room 0 (-1) [] :=
  ⟨heap_alloc_new w _, World.ownsRow_nil _ _ _ _, by simp [Value.ownBlock], h⟩

theorem put_nil (x : Pay) (w : World) :
    Calls Try.prog 39 #[.pointer none, .agg (gcells x)] w fun e w' => e = .returned (.tuple #[.agg #[.int .i64 0, .int .i64 0], .int .i64 3]) ∧ Below w.heap.size w w' := by
  go_enter Try.func39, Try.ntmps39
  go_wp2
  go_quiet (fail)
  go_wp2
  refine bodyPost_ret (v := .tuple #[.agg #[.int .i64 0, .int .i64 0], .int .i64 3]) (by simp [results, Try.results39, go_sem]) rfl ⟨rfl, ?_⟩
  exact ((below_drewN (((Below.refl _ _).alloc (Nat.le_refl _) _).alloc (by simp) _) _).setCell (by simp) _).setCell (by simp) _
theorem put_full (x : Pay) (w : World) (base p : Nat) (v : Value) (room many free : Int) (l : List Pl) (h : HasPool w base p v room many free l) (hm : many = room) :
    Calls Try.prog 39 #[.pointer (some ⟨p, 0, none⟩), .agg (gcells x)] w fun e w' => e = .returned (.tuple #[.agg #[.int .i64 0, .int .i64 0], .int .i64 3]) ∧ Below w.heap.size w w' := by
  subst hm
  have h1 := h.lt
  obtain ⟨c0, c1, c2, c3⟩ := h.cell
  clear h
  go_enter Try.func39, Try.ntmps39
  go_wp2
  go_quiet (fail)
  go_wp2
  refine bodyPost_ret (v := .tuple #[.agg #[.int .i64 0, .int .i64 0], .int .i64 3]) (by simp [results, Try.results39, go_sem]) rfl ⟨rfl, ?_⟩
  exact ((below_drewN (((Below.refl _ _).alloc (Nat.le_refl _) _).alloc (by simp) _) _).setCell (by simp) _).setCell (by simp) _

set_option maxHeartbeats 1000000 in
theorem put_reuse (x : Pay) (k : Nat) (q : Pl) (w : World) (base p b cap : Nat) (room many : Int) (l : List Pl) (h : HasPool w base p (.slice (some ⟨b, 0, none⟩) l.length cap) room many k l) (hl : l.length ≤ 4096) (hq : l[k]? = some q) (hm : -1000000 ≤ many ∧ many ≤ 4096) (hr : many < room) :
    Calls Try.prog 39 #[.pointer (some ⟨p, 0, none⟩), .agg (gcells x)] w fun e w' => e = .returned (.tuple #[.agg #[.int .i64 k, .int .i64 q.gen], .int .i64 0]) ∧
      HasPool w' base p (.slice (some ⟨b, 0, none⟩) l.length cap) room (many + 1) q.next (l.set k ⟨x, q.gen, true, -1⟩) ∧ Tch (fun z => z = b ∨ z = p) w w' := by
  have hb := h.lt2
  have hb1 : b < w.heap.size + 1 := by omega
  have hb2 : b < w.heap.size + 1 + 1 := by omega
  have hb3 : b < w.heap.size + 2 := by omega
  have hp := h.lt
  have hp1 : p < w.heap.size + 1 := by omega
  have hp2 : p < w.heap.size + 1 + 1 := by omega
  have hp3 : p < w.heap.size + 2 := by omega
  have hne : b ≠ p := by
    have := h.ne
    simpa [Value.ownBlock] using this
  obtain ⟨hk, hq'⟩ := List.getElem?_eq_some_iff.1 hq
  have h00 := h.place k 0 hk (by omega)
  have h01 := h.place k 1 hk (by omega)
  have h02 := h.place k 2 hk (by omega)
  have h1 := h.place k 3 hk (by omega)
  have h2 := h.place k 4 hk (by omega)
  have h3 := h.place k 5 hk (by omega)
  rw [hq'] at h00 h01 h02 h1 h2 h3
  have h00' : w.cell? ⟨b, k * 6, none⟩ = some (.int .i64 q.x.ui) := h00
  have h01' : w.cell? ⟨b, k * 6 + 1, none⟩ = some (.int .i64 q.x.ug) := h01
  have h02' : w.cell? ⟨b, k * 6 + 2, none⟩ = some (.int .i64 q.x.dp) := h02
  have h1' : w.cell? ⟨b, k * 6 + 3, none⟩ = some (.int .i64 q.gen) := h1
  have h2' : w.cell? ⟨b, k * 6 + 4, none⟩ = some (.bool q.used) := h2
  have h3' : w.cell? ⟨b, k * 6 + 5, none⟩ = some (.int .i64 q.next) := h3
  have hf0 := h.placeFree (k * 6)
  have hf1 := h.placeFree (k * 6 + 3)
  have hf2 := h.placeFree (k * 6 + 4)
  have hf3 := h.placeFree (k * 6 + 5)
  have hf4 := h.placeFree (k * 6 + 1)
  have hf5 := h.placeFree (k * 6 + 2)
  obtain ⟨c0, c1, c2, c3⟩ := h.cell
  have hg1 := h.free 1
  have hg3 := h.free 3
  have hmr : (many == room) = false := beq_eq_false_iff_ne.2 (by omega)
  have hkn : ((k : Int) == -1) = false := beq_eq_false_iff_ne.2 (by omega)
  have HQ := Lib.hid hq; have HP := Lib.hid h
  clear h h00 h01 h02 h1 h2 h3 hq' hq
  go_enter Try.func39, Try.ntmps39
  go_wp2
  go_quiet (fail)
  go_wp2
  refine bodyPost_ret (v := .tuple #[.agg #[.int .i64 k, .int .i64 q.gen], .int .i64 0]) (by simp [results, Try.results39, go_sem]) rfl ⟨rfl, ?_⟩
  have hx : w.heap.size + 1 ≠ p := by omega
  have hy : (Value.slice (some ⟨b, 0, none⟩) l.length cap).ownBlock ≠ some (w.heap.size + 1) := by simp [Value.ownBlock]; omega
  exact ⟨((((((((HP.out.alloc _).alloc _).drewN _).many_ (many + 1)).free_ q.next).store5 k q ⟨x, q.gen, true, -1⟩ HQ.out rfl).far hx hy).far hx hy),
    ((((((((((((Tch.refl (fun z => z = b ∨ z = p) w).alloc _).alloc _).drewN _).setCell (.inl (.inr rfl)) _).setCell (.inl (.inr rfl)) _).setCell (.inl (.inl rfl)) _).setCell (.inl (.inl rfl)) _).setCell (.inl (.inl rfl)) _).setCell (.inl (.inl rfl)) _).setCell (.inl (.inl rfl)) _).setCell (.inr (by simp)) _).setCell (.inr (by simp)) _⟩
end Go.Proofs.Ytnbljnpfmeidfaa
