/- Contracts of the program's package arena over group: Get, Len, Set, on a pool that lies in memory as HasPool says, or on none. -/
import Derived.Test.YtnbljnpfmeidfaaPoolW
namespace Go.Proofs.Ytnbljnpfmeidfaa
open Go Go.RowKit Go.ChangeShapes Go.WideShapes
set_option linter.unusedVariables false

/-- a handle names a place -/
def Names (l : List Pl) (i g : Int) (k : Nat) (q : Pl) : Prop := i = (k : Int) ∧ l[k]? = some q ∧ q.used = true ∧ q.gen = g
def NamesNone (l : List Pl) (i g : Int) : Prop := ∀ k q, ¬ Names l i g k q

/-- a block of places -/
def isPl (w : World) (z : Nat) : Prop := ∃ cs fr, w.heap[z]? = some (.cells cs 104 fr)
/-- what a step of the pool in block p may touch -/
def PF (p : Nat) (w : World) (z : Nat) : Prop := z = p ∨ isPl w z
/-- a step of a pool: it touches its struct, blocks of places, and nothing below its base -/
structure PoolStep (base p : Nat) (w w' : World) : Prop where
  tch : Tch (PF p w) w w'
  below : Below base w w'
theorem PoolStep.trans {base p : Nat} {a b c : World} (h : PoolStep base p a b) (k : PoolStep base p b c) : PoolStep base p a c :=
  ⟨h.tch.trans k.tch (fun x hx => by
    by_cases hlt : x < a.heap.size
    · left
      rcases hx with rfl | ⟨cs, fr, hb⟩
      · exact .inl rfl
      · by_cases hf : PF p a x
        · exact hf
        · rw [h.tch.block x hlt hf] at hb
          exact .inr ⟨cs, fr, hb⟩
    · right; omega), h.below.trans k.below⟩
theorem PoolStep.of_below {base p : Nat} {w w' : World} (h : Below w.heap.size w w') (hb : base ≤ w.heap.size) : PoolStep base p w w' := ⟨Tch.of_below h, below_le h hb⟩
theorem HasPool.isPl {w : World} {base p g cap n : Nat} {room many free : Int} {l : List Pl} (h : HasPool w base p (.slice (some ⟨g, 0, none⟩) n cap) room many free l) : isPl w g := by
  rcases h.own.2 with ⟨hv, _⟩ | ⟨g', cap', cur, hv, _, hh, _⟩
  · cases hv
  · cases hv; exact ⟨_, _, hh⟩
theorem HasPool.base_le {w : World} {base p g cap n : Nat} {room many free : Int} {l : List Pl} (h : HasPool w base p (.slice (some ⟨g, 0, none⟩) n cap) room many free l) : base ≤ g := by
  rcases h.row with ⟨hv, _⟩ | ⟨b', cap', hv, hb, _⟩
  · cases hv
  · cases hv; exact hb
theorem HasPool.step {w w' : World} {base p g cap n : Nat} {room many free : Int} {l : List Pl} (h : HasPool w base p (.slice (some ⟨g, 0, none⟩) n cap) room many free l) (hb : base ≤ w.heap.size) (ht : Tch (fun z => z = g ∨ z = p) w w') : PoolStep base p w w' :=
  ⟨⟨ht.os, ht.tape, ht.output, ht.size, fun k hk hf => ht.block k hk (fun e => hf (by rcases e with rfl | rfl; exact .inr h.isPl; exact .inl rfl))⟩,
   ht.below hb (fun k hk => by rcases hk with rfl | rfl; exact h.base_le; exact h.lo)⟩
/-- what lies in blocks that a pool's step does not touch is as it was -/
theorem PoolStep.same {base p : Nat} {w w' : World} (h : PoolStep base p w w') {k : Nat} {cs : Array Value} {t : TypeId} {fr : Nat × Nat} (hk : w.heap[k]? = some (.cells cs t fr)) (hp : k ≠ p) (ht : t ≠ 104) : w'.heap[k]? = some (.cells cs t fr) := by
  rw [h.tch.block k (Array.getElem?_eq_some_iff.1 hk).1 ?_]
  · exact hk
  · rintro (e | ⟨cs', fr', hb⟩)
    · exact hp e
    · rw [hk] at hb
      simp only [Option.some.injEq, Obj.cells.injEq] at hb
      exact ht hb.2.1

theorem at_hit (i g : Int) (k : Nat) (q : Pl) (w : World) (base p b cap : Nat) (room many free : Int) (l : List Pl) (h : HasPool w base p (.slice (some ⟨b, 0, none⟩) l.length cap) room many free l) (hl : l.length ≤ 4096) (hn : Names l i g k q) :
    Calls Try.prog 56 #[.pointer (some ⟨p, 0, none⟩), .agg #[.int .i64 i, .int .i64 g]] w fun e w' => e = .returned (.pointer (some ⟨b, k * 6, none⟩)) ∧ ∃ n, (w.alloc (.cells #[.int .i64 i, .int .i64 g] 30)).drewN n = w' := by
  obtain ⟨rfl, hq, hu, hg⟩ := hn
  obtain ⟨hk, hq'⟩ := List.getElem?_eq_some_iff.1 hq
  have hb : b < w.heap.size := h.lt2
  have h1 := h.place k 3 hk (by omega)
  have h2 := h.place k 4 hk (by omega)
  rw [hq'] at h1 h2
  have c := at_in k g w p b l.length cap q h.lt hb h.cell.2.2.1 hk hl h1 h2
  rwa [if_pos ⟨hu, hg⟩] at c
theorem at_miss (i g : Int) (w : World) (base p : Nat) (v : Value) (room many free : Int) (l : List Pl) (h : HasPool w base p v room many free l) (hl : l.length ≤ 4096) (hn : NamesNone l i g) :
    Calls Try.prog 56 #[.pointer (some ⟨p, 0, none⟩), .agg #[.int .i64 i, .int .i64 g]] w fun e w' => e = .returned (.pointer none) ∧ ∃ n, (w.alloc (.cells #[.int .i64 i, .int .i64 g] 30)).drewN n = w' := by
  by_cases h0 : i < 0
  · exact at_neg i g w p h0
  · by_cases h1 : (l.length : Int) ≤ i
    · rcases h.row with ⟨rfl, rfl⟩ | ⟨b, cap, rfl, _⟩
      · exact at_far i g w p _ 0 0 h.lt h.cell.2.2.1 (by simpa using h1) (by omega)
      · exact at_far i g w p _ _ cap h.lt h.cell.2.2.1 h1 (by omega)
    · obtain ⟨k, rfl⟩ := Int.eq_ofNat_of_zero_le (Int.not_lt.1 h0)
      have hk : k < l.length := by omega
      rcases h.row with ⟨_, rfl⟩ | ⟨b, cap, rfl, _, hb, _⟩
      · simp at hk
      · have e1 := h.place k 3 hk (by omega)
        have e2 := h.place k 4 hk (by omega)
        have c := at_in k g w p b l.length cap l[k] h.lt hb h.cell.2.2.1 hk hl e1 e2
        rwa [if_neg (fun hh => hn k l[k] ⟨rfl, List.getElem?_eq_getElem hk, hh.1, hh.2⟩)] at c

theorem get_nil (i g : Int) (w : World) :
    Calls Try.prog 54 #[.pointer none, .agg #[.int .i64 i, .int .i64 g]] w fun e w' => e = .returned (.tuple #[.agg (gcells .zero), .int .i64 2]) ∧ Below w.heap.size w w' := by
  go_enter Try.func54, Try.ntmps54
  go_wp2_with (go_at_call 56; refine (at_nil _ _ _).mono ?_; rintro e w1 ⟨rfl, n, rfl⟩)
  refine bodyPost_ret (v := .tuple #[.agg (gcells .zero), .int .i64 2]) (by simp [results, Try.results54, go_sem, Pay.zero]) rfl ⟨rfl, ?_⟩
  exact ((((below_drewN ((((Below.refl _ _).alloc (Nat.le_refl _) _).alloc (by simp) _).alloc (by simp; omega) _) _).setCell (by simp) _).setCell (by simp) _).setCell (by simp) _)
theorem get_miss (i g : Int) (w : World) (base p : Nat) (v : Value) (room many free : Int) (l : List Pl) (h : HasPool w base p v room many free l) (hl : l.length ≤ 4096) (hn : NamesNone l i g) :
    Calls Try.prog 54 #[.pointer (some ⟨p, 0, none⟩), .agg #[.int .i64 i, .int .i64 g]] w fun e w' => e = .returned (.tuple #[.agg (gcells .zero), .int .i64 2]) ∧ Below w.heap.size w w' := by
  have HC := Lib.hid (fun o o2 => at_miss i g ((w.alloc o).alloc o2) base p v room many free l ((h.alloc o).alloc o2) hl hn)
  clear h hn
  go_enter Try.func54, Try.ntmps54
  go_wp2_with (go_at_call 56; refine (HC.out _ _).mono ?_; rintro e w1 ⟨rfl, n, rfl⟩)
  refine bodyPost_ret (v := .tuple #[.agg (gcells .zero), .int .i64 2]) (by simp [results, Try.results54, go_sem, Pay.zero]) rfl ⟨rfl, ?_⟩
  exact ((((below_drewN ((((Below.refl _ _).alloc (Nat.le_refl _) _).alloc (by simp) _).alloc (by simp; omega) _) _).setCell (by simp) _).setCell (by simp) _).setCell (by simp) _)
theorem get_hit (i g : Int) (k : Nat) (q : Pl) (w : World) (base p b cap : Nat) (room many free : Int) (l : List Pl) (h : HasPool w base p (.slice (some ⟨b, 0, none⟩) l.length cap) room many free l) (hl : l.length ≤ 4096) (hn : Names l i g k q) :
    Calls Try.prog 54 #[.pointer (some ⟨p, 0, none⟩), .agg #[.int .i64 i, .int .i64 g]] w fun e w' => e = .returned (.tuple #[.agg (gcells q.x), .int .i64 0]) ∧ Below w.heap.size w w' := by
  have HC := Lib.hid (fun o o2 => at_hit i g k q ((w.alloc o).alloc o2) base p b cap room many free l ((h.alloc o).alloc o2) hl hn)
  have hb := h.lt2
  obtain ⟨hk, hq'⟩ := List.getElem?_eq_some_iff.1 hn.2.1
  have h00 := h.place k 0 hk (by omega)
  have h01 := h.place k 1 hk (by omega)
  have h02 := h.place k 2 hk (by omega)
  rw [hq'] at h00 h01 h02
  have h00' : w.cell? ⟨b, k * 6, none⟩ = some (.int .i64 q.x.ui) := h00
  have h01' : w.cell? ⟨b, k * 6 + 1, none⟩ = some (.int .i64 q.x.ug) := h01
  have h02' : w.cell? ⟨b, k * 6 + 2, none⟩ = some (.int .i64 q.x.dp) := h02
  have hb1 : b < w.heap.size + 1 := by omega
  have hb2 : b < w.heap.size + 1 + 1 := by omega
  have hb3 : b < w.heap.size + 2 := by omega
  clear h hn h00 h01 h02 hq'
  go_enter Try.func54, Try.ntmps54
  go_wp2_with (go_at_call 56; refine (HC.out _ _).mono ?_; rintro e w1 ⟨rfl, n, rfl⟩)
  refine bodyPost_ret (v := .tuple #[.agg (gcells q.x), .int .i64 0]) (by simp [results, Try.results54, go_sem]) rfl ⟨rfl, ?_⟩
  exact ((((below_drewN ((((Below.refl _ _).alloc (Nat.le_refl _) _).alloc (by simp) _).alloc (by simp; omega) _) _).setCell (by simp) _).setCell (by simp) _).setCell (by simp) _)
end Go.Proofs.Ytnbljnpfmeidfaa
