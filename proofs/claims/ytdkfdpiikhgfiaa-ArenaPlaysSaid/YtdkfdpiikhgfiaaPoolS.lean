/- Contracts of the program's package arena over int: Set, Free, on a pool that lies in memory as HasPool says, or on none. -/
import Derived.Test.YtdkfdpiikhgfiaaPoolG
namespace Go.Proofs.Ytdkfdpiikhgfiaa
open Go Go.RowKit Go.ChangeShapes Go.WideShapes
set_option linter.unusedVariables false

theorem set_nil (i g x : Int) (w : World) :
    Calls Try.prog 15 #[.pointer none, .agg #[.int .i64 i, .int .i64 g], .int .i64 x] w fun e w' => e = .returned (.int .i64 2) ∧ Below w.heap.size w w' := by
  go_enter Try.func15, Try.ntmps15
  go_wp2_with (go_at_call 25; refine (at_nil _ _ _).mono ?_; rintro e w1 ⟨rfl, n, rfl⟩)
  go_ret
  exact ⟨rfl, below_drewN (((Below.refl _ _).alloc (Nat.le_refl _) _).alloc (by simp) _) _⟩
theorem set_miss (i g x : Int) (w : World) (base p : Nat) (v : Value) (room many free : Int) (l : List Pl) (h : HasPool w base p v room many free l) (hl : l.length ≤ 4096) (hn : NamesNone l i g) :
    Calls Try.prog 15 #[.pointer (some ⟨p, 0, none⟩), .agg #[.int .i64 i, .int .i64 g], .int .i64 x] w fun e w' => e = .returned (.int .i64 2) ∧ Below w.heap.size w w' := by
  have HC := Lib.hid (fun o => at_miss i g (w.alloc o) base p v room many free l (h.alloc o) hl hn)
  clear h hn
  go_enter Try.func15, Try.ntmps15
  go_wp2_with (go_at_call 25; refine (HC.out _).mono ?_; rintro e w1 ⟨rfl, n, rfl⟩)
  go_ret
  exact ⟨rfl, below_drewN (((Below.refl _ _).alloc (Nat.le_refl _) _).alloc (by simp) _) _⟩
theorem set_hit (i g x : Int) (k : Nat) (q : Pl) (w : World) (base p b cap : Nat) (room many free : Int) (l : List Pl) (h : HasPool w base p (.slice (some ⟨b, 0, none⟩) l.length cap) room many free l) (hl : l.length ≤ 4096) (hn : Names l i g k q) :
    Calls Try.prog 15 #[.pointer (some ⟨p, 0, none⟩), .agg #[.int .i64 i, .int .i64 g], .int .i64 x] w fun e w' => e = .returned (.int .i64 0) ∧ HasPool w' base p (.slice (some ⟨b, 0, none⟩) l.length cap) room many free (l.set k { q with x := x }) ∧ Tch (· = b) w w' := by
  have HC := Lib.hid (fun o => at_hit i g k q (w.alloc o) base p b cap room many free l (h.alloc o) hl hn)
  have hb := h.lt2
  have hq := hn.2.1
  obtain ⟨hk, hq'⟩ := List.getElem?_eq_some_iff.1 hq
  have h0 := h.place k 0 hk (by omega)
  rw [hq'] at h0
  have h0' : w.cell? ⟨b, k * 4, none⟩ = some (.int .i64 q.x) := h0
  have h1 := h.placeFree (k * 4)
  have HQ := Lib.hid hq; have HP := Lib.hid h
  clear h hn h0 hq' hq
  go_enter Try.func15, Try.ntmps15
  go_wp2_with (go_at_call 25; refine (HC.out _).mono ?_; rintro e w1 ⟨rfl, n, rfl⟩)
  go_ret
  exact ⟨rfl, (((HP.out.alloc _).alloc _).drewN n).store k 0 (.int .i64 x) q _ HQ.out (by omega) rfl, Tch.setCell (F := (· = b)) ((((Tch.refl _ _).alloc _).alloc _).drewN n) (.inl rfl) _⟩

theorem free_nil (i g : Int) (w : World) :
    Calls Try.prog 12 #[.pointer none, .agg #[.int .i64 i, .int .i64 g]] w fun e w' => e = .returned (.tuple #[.int .i64 0, .int .i64 2]) ∧ Below w.heap.size w w' := by
  go_enter Try.func12, Try.ntmps12
  go_wp2_with (go_at_call 25; refine (at_nil _ _ _).mono ?_; rintro e w1 ⟨rfl, n, rfl⟩)
  go_ret2
  exact ⟨rfl, below_drewN (((Below.refl _ _).alloc (Nat.le_refl _) _).alloc (by simp) _) _⟩
theorem free_miss (i g : Int) (w : World) (base p : Nat) (v : Value) (room many free : Int) (l : List Pl) (h : HasPool w base p v room many free l) (hl : l.length ≤ 4096) (hn : NamesNone l i g) :
    Calls Try.prog 12 #[.pointer (some ⟨p, 0, none⟩), .agg #[.int .i64 i, .int .i64 g]] w fun e w' => e = .returned (.tuple #[.int .i64 0, .int .i64 2]) ∧ Below w.heap.size w w' := by
  have HC := Lib.hid (fun o => at_miss i g (w.alloc o) base p v room many free l (h.alloc o) hl hn)
  clear h hn
  go_enter Try.func12, Try.ntmps12
  go_wp2_with (go_at_call 25; refine (HC.out _).mono ?_; rintro e w1 ⟨rfl, n, rfl⟩)
  go_ret2
  exact ⟨rfl, below_drewN (((Below.refl _ _).alloc (Nat.le_refl _) _).alloc (by simp) _) _⟩
set_option maxHeartbeats 1000000 in
theorem free_hit (i g : Int) (k : Nat) (q : Pl) (w : World) (base p b cap : Nat) (room many free : Int) (l : List Pl) (h : HasPool w base p (.slice (some ⟨b, 0, none⟩) l.length cap) room many free l) (hl : l.length ≤ 4096) (hn : Names l i g k q)
    (hg : 0 ≤ q.gen ∧ q.gen ≤ 1000000) (hm : -1000000 ≤ many ∧ many ≤ 4096) :
    Calls Try.prog 12 #[.pointer (some ⟨p, 0, none⟩), .agg #[.int .i64 i, .int .i64 g]] w fun e w' => e = .returned (.tuple #[.int .i64 q.x, .int .i64 0]) ∧ HasPool w' base p (.slice (some ⟨b, 0, none⟩) l.length cap) room (many - 1) k (l.set k ⟨0, q.gen + 1, false, free⟩) ∧ Tch (fun z => z = b ∨ z = p) w w' := by
  have HC := Lib.hid (fun o => at_hit i g k q (w.alloc o) base p b cap room many free l (h.alloc o) hl hn)
  have hb := h.lt2
  have hp := h.lt
  have hne : b ≠ p := by
    have := h.ne
    simpa [Value.ownBlock] using this
  have hq := hn.2.1
  obtain rfl := hn.1
  obtain ⟨hk, hq'⟩ := List.getElem?_eq_some_iff.1 hq
  have h0 := h.place k 0 hk (by omega)
  have h1 := h.place k 1 hk (by omega)
  have h2 := h.place k 2 hk (by omega)
  have h3 := h.place k 3 hk (by omega)
  rw [hq'] at h0 h1 h2 h3
  have h0' : w.cell? ⟨b, k * 4, none⟩ = some (.int .i64 q.x) := h0
  have h1' : w.cell? ⟨b, k * 4 + 1, none⟩ = some (.int .i64 q.gen) := h1
  have h2' : w.cell? ⟨b, k * 4 + 2, none⟩ = some (.bool q.used) := h2
  have h3' : w.cell? ⟨b, k * 4 + 3, none⟩ = some (.int .i64 q.next) := h3
  have hf0 := h.placeFree (k * 4)
  have hf1 := h.placeFree (k * 4 + 1)
  have hf2 := h.placeFree (k * 4 + 2)
  have hf3 := h.placeFree (k * 4 + 3)
  obtain ⟨c0, c1, c2, c3⟩ := h.cell
  have hg1 := h.free 1
  have hg3 := h.free 3
  have HQ := Lib.hid hq; have HP := Lib.hid h
  clear h hn h0 h1 h2 h3 hq' hq
  go_enter Try.func12, Try.ntmps12
  go_wp2_with (go_at_call 25; refine (HC.out _).mono ?_; rintro e w1 ⟨rfl, n, rfl⟩)
  go_region
  go_wp2
  go_ret2
  exact ⟨rfl, (((((HP.out.alloc _).alloc _).drewN (n + 1)).store4 k q ⟨0, q.gen + 1, false, free⟩ HQ.out).free_ k).many_ (many - 1),
    Tch.setCell (F := fun z => z = b ∨ z = p) (Tch.setCell (F := fun z => z = b ∨ z = p) (Tch.setCell (F := fun z => z = b ∨ z = p) (Tch.setCell (F := fun z => z = b ∨ z = p) (Tch.setCell (F := fun z => z = b ∨ z = p) (Tch.setCell (F := fun z => z = b ∨ z = p) ((((Tch.refl _ _).alloc _).alloc _).drewN (n + 1)) (.inl (.inl rfl)) _) (.inl (.inl rfl)) _) (.inl (.inl rfl)) _) (.inl (.inl rfl)) _) (.inl (.inr rfl)) _) (.inl (.inr rfl)) _⟩
end Go.Proofs.Ytdkfdpiikhgfiaa
