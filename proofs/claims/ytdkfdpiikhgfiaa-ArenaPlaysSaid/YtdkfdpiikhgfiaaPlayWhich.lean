/- Contract of dolelaw05.which: a deed's handle. Condition: the handles told lie in a row. -/
import Derived.Test.YtdkfdpiikhgfiaaPlayStep
namespace Go.Proofs.Ytdkfdpiikhgfiaa
open Go Go.RowKit Go.ChangeShapes Go.WideShapes
set_option linter.unusedVariables false

structure Ded where
  kd : Int
  n : Int
  old : Int
  i : Int
  g : Int
abbrev dcells (d : Ded) : Array Value := #[.int .i64 d.kd, .int .i64 d.n, .int .i64 d.old, .int .i64 d.i, .int .i64 d.g]
/-- a deed in its box -/
def Dx (w : World) (y : Nat) (d : Ded) : Prop := w.heap[y]? = some (.cells (dcells d) 49 (0, 0))
theorem Dx.new (w : World) (d : Ded) : Dx (w.alloc (.cells (dcells d) 49)) w.heap.size d := heap_alloc_new w _
theorem Dx.lt {w : World} {y : Nat} {d : Ded} (h : Dx w y d) : y < w.heap.size := (Array.getElem?_eq_some_iff.1 h).1
theorem Dx.c5 {w : World} {y : Nat} {d : Ded} (h : Dx w y d) : w.cell? ⟨y, 0, none⟩ = some (.int .i64 d.kd) ∧ w.cell? ⟨y, 1, none⟩ = some (.int .i64 d.n) ∧ w.cell? ⟨y, 2, none⟩ = some (.int .i64 d.old) ∧ w.cell? ⟨y, 3, none⟩ = some (.int .i64 d.i) ∧ w.cell? ⟨y, 4, none⟩ = some (.int .i64 d.g) := by
  unfold Dx at h
  refine ⟨?_, ?_, ?_, ?_, ?_⟩ <;> simp [World.cell?, h]
theorem Dx.behind {w w' : World} {y : Nat} {d : Ded} (h : Dx w y d) (hb : Below w.heap.size w w') : Dx w' y d := by unfold Dx; rw [hb.block y h.lt]; exact h
theorem Dx.alloc {w : World} {y : Nat} {d : Ded} (h : Dx w y d) (o : Obj) : Dx (w.alloc o) y d := h.behind (below_alloc w o)
def hdI (T : List (Nat × Int)) (d : Ded) : Int := if 0 ≤ d.old ∧ 0 < T.length then ((T.getD (d.old.toNat % T.length) (0, 0)).1 : Nat) else d.i
def hdG (T : List (Nat × Int)) (d : Ded) : Int := if 0 ≤ d.old ∧ 0 < T.length then (T.getD (d.old.toNat % T.length) (0, 0)).2 else d.g
set_option maxHeartbeats 1000000 in
theorem which_any (d : Ded) (w : World) (base : Nat) (vt : Value) (T : List (Nat × Int)) (ht : w.ownsRow base 31 2 vt T.length (hcl T)) (hT : T.length ≤ 1000) :
    Calls Try.prog 17 #[.agg (dcells d), vt] w fun e w' => e = .returned (.agg #[.int .i64 (hdI T d), .int .i64 (hdG T d)]) ∧ Below w.heap.size w w' := by
  obtain ⟨a, c, rfl⟩ := hrow_nil ht
  obtain ⟨n, hn⟩ : ∃ n, n = T.length := ⟨_, rfl⟩
  rw [← hn] at hT ⊢
  obtain ⟨W0, hW0⟩ : ∃ W0, W0 = (w.alloc (.cells (dcells d) 49)).alloc (.cells #[.int .i64 0, .int .i64 0] 31) := ⟨_, rfl⟩
  have D0 : Hid (Dx W0 w.heap.size d) := Lib.hid (by rw [hW0]; exact (Dx.new w d).alloc _)
  have H0 : Hid (Hx W0 (w.heap.size + 1) 0 0) := Lib.hid (by rw [hW0]; exact Hx.new1 w _ 0 0)
  have Z0 : Hid (Below w.heap.size w W0) := Lib.hid (by rw [hW0]; exact (below_alloc w _).alloc (by simp) _)
  have T0 : Hid (W0.ownsRow base 31 2 (.slice a n c) n (hcl T)) := Lib.hid (by rw [hW0, hn]; exact (ht.alloc _).alloc _)
  have HN := Lib.hid hn
  obtain ⟨I, hI⟩ : ∃ I, I = hdI T d := ⟨_, rfl⟩
  obtain ⟨G, hG⟩ : ∃ G, G = hdG T d := ⟨_, rfl⟩
  rw [← hI, ← hG]
  have HI := Lib.hid hI
  have HG := Lib.hid hG
  clear hI hG
  obtain ⟨y0, y1, y2, y3, y4⟩ := D0.out.c5
  have l0 := D0.out.lt
  obtain ⟨x0, x1⟩ := H0.out.c2
  have HW := Lib.hid hW0
  clear ht hn hW0
  go_enter Try.func17, Try.ntmps17
  go_upto_region 1 with (fail)
  rw [← HW.out]
  have hB : Below w.heap.size w ((W0.setCell ⟨w.heap.size + 1, 0, none⟩ (.int .i64 I)).setCell ⟨w.heap.size + 1, 1, none⟩ (.int .i64 G)) := (Z0.out.setCell (by simp) _).setCell (by simp) _
  have HB := Lib.hid hB
  have HX : Hid (Hx ((W0.setCell ⟨w.heap.size + 1, 0, none⟩ (.int .i64 I)).setCell ⟨w.heap.size + 1, 1, none⟩ (.int .i64 G)) (w.heap.size + 1) I G) := Lib.hid ((H0.out.set0 I).set1 G)
  have f0 := H0.out.frz
  have l1 := H0.out.lt
  clear hB
  by_cases ho : 0 ≤ d.old
  · by_cases hn : 0 < n
    · obtain ⟨m, hm⟩ := Int.eq_ofNat_of_zero_le ho
      have hmn : m % n < n := Nat.mod_lt _ hn
      obtain ⟨tt, rfl⟩ := hrow_some T0.out hn
      obtain ⟨ih, hT2⟩ : ∃ ih, T[m % n]? = some ih := ⟨_, List.getElem?_eq_getElem (by rw [← HN.out]; exact hmn)⟩
      obtain ⟨i, g2⟩ := ih
      obtain ⟨hh0, hh1, htz⟩ := hcl_cell T0.out (m % n) i g2 hT2 hmn
      have e1 : I = i := by
        rw [HI.out]; unfold hdI; rw [if_pos ⟨ho, by rw [← HN.out]; exact hn⟩, hm, ← HN.out]; simp [List.getD_eq_getElem?_getD, hT2]
      have e2 : G = g2 := by
        rw [HG.out]; unfold hdG; rw [if_pos ⟨ho, by rw [← HN.out]; exact hn⟩, hm, ← HN.out]; simp [List.getD_eq_getElem?_getD, hT2]
      subst e1 e2
      rw [hm] at y2
      clear HI HG hT2 hm ho
      go_wp2_with fail
      obtain ⟨z0, z1⟩ := HX.out.c2
      refine bodyPost_ret (v := .agg #[.int .i64 i, .int .i64 G]) (by simp [results, Try.results17, go_sem, z0, z1]) rfl ⟨rfl, HB.out⟩
    · have hn' : n ≤ 0 := by omega
      have e1 : I = d.i := by rw [HI.out]; unfold hdI; rw [if_neg (by rw [← HN.out]; omega)]
      have e2 : G = d.g := by rw [HG.out]; unfold hdG; rw [if_neg (by rw [← HN.out]; omega)]
      subst e1 e2
      clear hn HI HG
      go_wp2_with fail
      obtain ⟨z0, z1⟩ := HX.out.c2
      refine bodyPost_ret (v := .agg #[.int .i64 d.i, .int .i64 d.g]) (by simp [results, Try.results17, go_sem, z0, z1]) rfl ⟨rfl, HB.out⟩
  · have ho' : d.old < 0 := by omega
    have e1 : I = d.i := by rw [HI.out]; unfold hdI; rw [if_neg (by omega)]
    have e2 : G = d.g := by rw [HG.out]; unfold hdG; rw [if_neg (by omega)]
    subst e1 e2
    clear ho HI HG
    go_wp2_with fail
    obtain ⟨z0, z1⟩ := HX.out.c2
    refine bodyPost_ret (v := .agg #[.int .i64 d.i, .int .i64 d.g]) (by simp [results, Try.results17, go_sem, z0, z1]) rfl ⟨rfl, HB.out⟩
end Go.Proofs.Ytdkfdpiikhgfiaa
