/- Contracts of the program's package arena over group: Set, Free, on a pool that lies in memory as HasPool says, or on none. -/
import Derived.Test.YtnbljnpfmeidfaaPoolG
namespace Go.Proofs.Ytnbljnpfmeidfaa
open Go Go.RowKit Go.ChangeShapes Go.WideShapes
set_option linter.unusedVariables false

theorem set_nil (i g : Int) (x : Pay) (w : World) :
    Calls Try.prog 37 #[.pointer none, .agg #[.int .i64 i, .int .i64 g], .agg (gcells x)] w fun e w' => e = .returned (.int .i64 2) ∧ Below w.heap.size w w' := by
  go_enter Try.func37, Try.ntmps37
  go_wp2_with (go_at_call 56; refine (at_nil _ _ _).mono ?_; rintro e w1 ⟨rfl, n, rfl⟩)
  go_ret
  exact ⟨rfl, below_drewN ((((Below.refl _ _).alloc (Nat.le_refl _) _).alloc (by simp) _).alloc (by simp; omega) _) _⟩
theorem set_miss (i g : Int) (x : Pay) (w : World) (base p : Nat) (v : Value) (room many free : Int) (l : List Pl) (h : HasPool w base p v room many free l) (hl : l.length ≤ 4096) (hn : NamesNone l i g) :
    Calls Try.prog 37 #[.pointer (some ⟨p, 0, none⟩), .agg #[.int .i64 i, .int .i64 g], .agg (gcells x)] w fun e w' => e = .returned (.int .i64 2) ∧ Below w.heap.size w w' := by
  have HC := Lib.hid (fun o o2 => at_miss i g ((w.alloc o).alloc o2) base p v room many free l ((h.alloc o).alloc o2) hl hn)
  clear h hn
  go_enter Try.func37, Try.ntmps37
  go_wp2_with (go_at_call 56; refine (HC.out _ _).mono ?_; rintro e w1 ⟨rfl, n, rfl⟩)
  go_ret
  exact ⟨rfl, below_drewN ((((Below.refl _ _).alloc (Nat.le_refl _) _).alloc (by simp) _).alloc (by simp; omega) _) _⟩
theorem set_hit (i g : Int) (x : Pay) (k : Nat) (q : Pl) (w : World) (base p b cap : Nat) (room many free : Int) (l : List Pl) (h : HasPool w base p (.slice (some ⟨b, 0, none⟩) l.length cap) room many free l) (hl : l.length ≤ 4096) (hn : Names l i g k q) :
    Calls Try.prog 37 #[.pointer (some ⟨p, 0, none⟩), .agg #[.int .i64 i, .int .i64 g], .agg (gcells x)] w fun e w' => e = .returned (.int .i64 0) ∧ HasPool w' base p (.slice (some ⟨b, 0, none⟩) l.length cap) room many free (l.set k ⟨x, q.gen, q.used, q.next⟩) ∧ Tch (· = b) w w' := by
  have HC := Lib.hid (fun o o2 => at_hit i g k q ((w.alloc o).alloc o2) base p b cap room many free l ((h.alloc o).alloc o2) hl hn)
  have hb := h.lt2
  have hb1 : b < w.heap.size + 1 := by omega
  have hb2 : b < w.heap.size + 1 + 1 := by omega
  have hb3 : b < w.heap.size + 2 := by omega
  have hq := hn.2.1
  obtain ⟨hk, hq'⟩ := List.getElem?_eq_some_iff.1 hq
  have h00 := h.place k 0 hk (by omega)
  have h01 := h.place k 1 hk (by omega)
  have h02 := h.place k 2 hk (by omega)
  rw [hq'] at h00 h01 h02
  have h00' : w.cell? ⟨b, k * 6, none⟩ = some (.int .i64 q.x.ui) := h00
  have h01' : w.cell? ⟨b, k * 6 + 1, none⟩ = some (.int .i64 q.x.ug) := h01
  have h02' : w.cell? ⟨b, k * 6 + 2, none⟩ = some (.int .i64 q.x.dp) := h02
  have hf0 := h.placeFree (k * 6)
  have hf1 := h.placeFree (k * 6 + 1)
  have hf2 := h.placeFree (k * 6 + 2)
  have HQ := Lib.hid hq; have HP := Lib.hid h
  clear h hn h00 h01 h02 hq' hq
  go_enter Try.func37, Try.ntmps37
  go_wp2_with (go_at_call 56; refine (HC.out _ _).mono ?_; rintro e w1 ⟨rfl, n, rfl⟩)
  go_ret
  exact ⟨rfl, ((((HP.out.alloc _).alloc _).alloc _).drewN n).storeX k q ⟨x, q.gen, q.used, q.next⟩ HQ.out rfl rfl rfl, Tch.setCell (F := (· = b)) (Tch.setCell (F := (· = b)) (Tch.setCell (F := (· = b)) (((((Tch.refl _ _).alloc _).alloc _).alloc _).drewN n) (.inl rfl) _) (.inl rfl) _) (.inl rfl) _⟩

theorem free_nil (i g : Int) (w : World) :
    Calls Try.prog 40 #[.pointer none, .agg #[.int .i64 i, .int .i64 g]] w fun e w' => e = .returned (.tuple #[.agg (gcells .zero), .int .i64 2]) ∧ Below w.heap.size w w' := by
  go_enter Try.func40, Try.ntmps40
  go_wp2_with (go_at_call 56; refine (at_nil _ _ _).mono ?_; rintro e w1 ⟨rfl, n, rfl⟩)
  refine bodyPost_ret (v := .tuple #[.agg (gcells .zero), .int .i64 2]) (by simp [results, Try.results40, go_sem, Pay.zero]) rfl ⟨rfl, ?_⟩
  exact ((((below_drewN ((((Below.refl _ _).alloc (Nat.le_refl _) _).alloc (by simp) _).alloc (by simp; omega) _) _).setCell (by simp) _).setCell (by simp) _).setCell (by simp) _)
theorem free_miss (i g : Int) (w : World) (base p : Nat) (v : Value) (room many free : Int) (l : List Pl) (h : HasPool w base p v room many free l) (hl : l.length ≤ 4096) (hn : NamesNone l i g) :
    Calls Try.prog 40 #[.pointer (some ⟨p, 0, none⟩), .agg #[.int .i64 i, .int .i64 g]] w fun e w' => e = .returned (.tuple #[.agg (gcells .zero), .int .i64 2]) ∧ Below w.heap.size w w' := by
  have HC := Lib.hid (fun o o2 => at_miss i g ((w.alloc o).alloc o2) base p v room many free l ((h.alloc o).alloc o2) hl hn)
  clear h hn
  go_enter Try.func40, Try.ntmps40
  go_wp2_with (go_at_call 56; refine (HC.out _ _).mono ?_; rintro e w1 ⟨rfl, n, rfl⟩)
  refine bodyPost_ret (v := .tuple #[.agg (gcells .zero), .int .i64 2]) (by simp [results, Try.results40, go_sem, Pay.zero]) rfl ⟨rfl, ?_⟩
  exact ((((below_drewN ((((Below.refl _ _).alloc (Nat.le_refl _) _).alloc (by simp) _).alloc (by simp; omega) _) _).setCell (by simp) _).setCell (by simp) _).setCell (by simp) _)
set_option maxHeartbeats 1000000 in
theorem free_hit (i g : Int) (k : Nat) (q : Pl) (w : World) (base p b cap : Nat) (room many free : Int) (l : List Pl) (h : HasPool w base p (.slice (some ⟨b, 0, none⟩) l.length cap) room many free l) (hl : l.length ≤ 4096) (hn : Names l i g k q)
    (hg : 0 ≤ q.gen ∧ q.gen ≤ 1000000) (hm : -1000000 ≤ many ∧ many ≤ 4096) :
    Calls Try.prog 40 #[.pointer (some ⟨p, 0, none⟩), .agg #[.int .i64 i, .int .i64 g]] w fun e w' => e = .returned (.tuple #[.agg (gcells q.x), .int .i64 0]) ∧ HasPool w' base p (.slice (some ⟨b, 0, none⟩) l.length cap) room (many - 1) k (l.set k ⟨.zero, q.gen + 1, false, free⟩) ∧ Tch (fun z => z = b ∨ z = p) w w' := by
  have HC := Lib.hid (fun o o2 => at_hit i g k q ((w.alloc o).alloc o2) base p b cap room many free l ((h.alloc o).alloc o2) hl hn)
  have hb := h.lt2
  have hb1 : b < w.heap.size + 1 := by omega
  have hb2 : b < w.heap.size + 1 + 1 := by omega
  have hb3 : b < w.heap.size + 2 := by omega
  have hp := h.lt
  have hne : b ≠ p := by
    have := h.ne
    simpa [Value.ownBlock] using this
  have hq := hn.2.1
  obtain rfl := hn.1
  obtain ⟨hk, hq'⟩ := List.getElem?_eq_some_iff.1 hq
  have h00 := h.place k 0 hk (by omega)
  have h01 := h.place k 1 hk (by omega)
  have h02 := h.place k 2 hk (by omega)
  have h1 := h.place k 3 hk (by omega)
  have h2 := h.place k 4 hk (by omega)
  have h3 := h.place k 5 hk (by omega)
  rw [hq'] at h00 h01 h02 h1 h2 h3
  have h00' : w.cell? ⟨b, k * 6, none⟩ = some (.int .i64 q.x.ui) := h00
  have h01' : w.cell? ⟨b, k * 6 + 1, none⟩ = some (.int .i64 q.x.ug) := h01
  have h02' : w.cell? ⟨b, k * 6 + 2, none⟩ = some (.int .i64 q.x.dp) := h02
  have h1' : w.cell? ⟨b, k * 6 + 3, none⟩ = some (.int .i64 q.gen) := h1
  have h2' : w.cell? ⟨b, k * 6 + 4, none⟩ = some (.bool q.used) := h2
  have h3' : w.cell? ⟨b, k * 6 + 5, none⟩ = some (.int .i64 q.next) := h3
  have hf0 := h.placeFree (k * 6)
  have hf1 := h.placeFree (k * 6 + 3)
  have hf2 := h.placeFree (k * 6 + 4)
  have hf3 := h.placeFree (k * 6 + 5)
  have hf4 := h.placeFree (k * 6 + 1)
  have hf5 := h.placeFree (k * 6 + 2)
  obtain ⟨c0, c1, c2, c3⟩ := h.cell
  have hg1 := h.free 1
  have hg3 := h.free 3
  have HQ := Lib.hid hq; have HP := Lib.hid h
  clear h hn h00 h01 h02 h1 h2 h3 hq' hq
  go_enter Try.func40, Try.ntmps40
  go_wp2_with (go_at_call 56; refine (HC.out _ _).mono ?_; rintro e w1 ⟨rfl, n, rfl⟩)
  have hp1 : p < w.heap.size + 1 := by omega
  have hp2 : p < w.heap.size + 1 + 1 := by omega
  have hp3 : p < w.heap.size + 2 := by omega
  go_region
  go_wp2
  refine bodyPost_ret (v := .tuple #[.agg (gcells q.x), .int .i64 0]) (by simp [results, Try.results40, go_sem]) rfl ⟨rfl, ?_⟩
  have hx : w.heap.size + 1 ≠ p := by omega
  have hy : (Value.slice (some ⟨b, 0, none⟩) l.length cap).ownBlock ≠ some (w.heap.size + 1) := by simp [Value.ownBlock]; omega
  exact ⟨((((((((((((HP.out.alloc _).alloc _).alloc _).drewN n).store6 k q ⟨.zero, q.gen + 1, false, free⟩ HQ.out).free_ k).many_ (many - 1)).far hx hy).far hx hy).far hx hy).alloc _).drewN 1),
    (((((((((((((((((Tch.refl (fun z => z = b ∨ z = p) w).alloc _).alloc _).alloc _).drewN n).setCell (.inl (.inl rfl)) _).setCell (.inl (.inl rfl)) _).setCell (.inl (.inl rfl)) _).setCell (.inl (.inl rfl)) _).setCell (.inl (.inl rfl)) _).setCell (.inl (.inl rfl)) _).setCell (.inl (.inr rfl)) _).setCell (.inl (.inr rfl)) _).setCell (.inr (by simp)) _).setCell (.inr (by simp)) _).setCell (.inr (by simp)) _).alloc _).drew⟩
end Go.Proofs.Ytnbljnpfmeidfaa
