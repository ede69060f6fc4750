/- Contract of the law package's same: what the program and the document tell of a group is the same. Condition: both trees are of one state, within bounds, its groups within one another. -/
import Derived.Test.YtnbljnpfmeidfaaDocN
import Derived.Test.YtnbljnpfmeidfaaInts
namespace Go.Proofs.Ytnbljnpfmeidfaa
open Go Go.RowKit Go.ChangeShapes Go.WideShapes
set_option linter.unusedVariables false

theorem pathL_len {s : Ps} (htr : Tr s.l) (i g : Int) : (s.getV i g).dp = ((pathL s i g).length : Nat) := by
  unfold pathL
  cases hk : s.find i g with
  | none => rw [(getV_no hk).1]; rfl
  | some k =>
    obtain ⟨qk, rfl, hk1, hk2, rfl, h5, _⟩ := find_some hk
    rw [h5]
    simp only
    rw [pth_length htr k ⟨qk, hk1, hk2⟩]
    exact (htr.dp hk1 hk2).2.2.2
theorem pathL_le {s : Ps} (htr : Tr s.l) (i g : Int) : (pathL s i g).length ≤ 8 := by
  unfold pathL
  cases hk : s.find i g with
  | none => simp
  | some k =>
    obtain ⟨qk, rfl, hk1, hk2, rfl, h5, _⟩ := find_some hk
    simp only
    rw [pth_length htr k ⟨qk, hk1, hk2⟩]
    exact (htr.dep0 ⟨qk, hk1, hk2⟩).1
theorem selL_le {s : Ps} {b : Nat} (ho : s.Ok 32 b) (hb : b ≤ 1000) (P : Nat → Bool) : (selL s.l P).length ≤ 1000 := by
  have h1 := List.length_filter_le (fun x : Nat × Int => P x.1) (allL s.l)
  have h2 := allL_len s.l
  have h3 := (ho.lo hb).1
  show (List.filter (fun x : Nat × Int => P x.1) (allL s.l)).length ≤ 1000
  omega
set_option maxHeartbeats 8000000 in
set_option maxRecDepth 100000 in
theorem same_any (i g : Int) (b : Nat) (w : World) (base t p : Nat) (s : Ps) (v1 v2 v3 v4 : Sv) (ht : TrX w base t p s) (h : RfV w 32 s v1 v2 v3 v4) (ho : s.Ok 32 b) (hb : b ≤ 1000) (htr : Tr s.l) :
    Calls Try.prog 27 #[.pointer (some ⟨t, 0, none⟩), .agg (vcl 32 v1 v2 v3 v4), .agg #[.int .i64 i, .int .i64 g]] w fun e w' => e = .returned (.bool true) ∧ Below w.heap.size w w' := by
  have HT := Lib.hid ht; have HR := Lib.hid h
  have C1 := Lib.hid (fun (W : World) (hW : Below w.heap.size w W) => path_any i g b W base t p s (ht.behind hW) ho hb htr)
  have C2 := Lib.hid (fun (W : World) (hW : Below w.heap.size w W) => rpath_any i g b W s v1 v2 v3 v4 (h.behind hW) ho hb htr)
  have C3 := Lib.hid (fun (W : World) (hW : Below w.heap.size w W) => parent_any i g b W base t p s (ht.behind hW) ho hb htr)
  have C4 := Lib.hid (fun (W : World) (hW : Below w.heap.size w W) => rparent_any i g b W s v1 v2 v3 v4 (h.behind hW) ho hb htr)
  have C5 := Lib.hid (fun (W : World) (hW : Below w.heap.size w W) => depth_any i g b W base t p s (ht.behind hW) ho hb)
  have C6 := Lib.hid (fun (W : World) (hW : Below w.heap.size w W) => kids_any i g b W base t p s (ht.behind hW) ho hb htr)
  have C7 := Lib.hid (fun (W : World) (hW : Below w.heap.size w W) => rkids_any i g b W s v1 v2 v3 v4 (h.behind hW) ho hb htr)
  have C8 := Lib.hid (fun (W : World) (hW : Below w.heap.size w W) => below_any i g b W base t p s (ht.behind hW) ho hb htr)
  have C9 := Lib.hid (fun (W : World) (hW : Below w.heap.size w W) => runder_any i g b W s v1 v2 v3 v4 (h.behind hW) ho hb htr)
  rw [pathL_len htr i g] at C5
  have hl1 := selL_le ho hb (kidP s i g)
  have hl2 := selL_le ho hb (belP s i g)
  have hl3 := pathL_le htr i g
  generalize pathL s i g = L at *
  generalize selL s.l (kidP s i g) = LK at *
  generalize selL s.l (belP s i g) = LB at *
  generalize s.namE i g = ne at *
  generalize s.parI i g = pi at *
  generalize s.parG i g = pg at *
  generalize s.parE i g = pe at *
  obtain ⟨n, hn⟩ : ∃ n, n = L.length := ⟨_, rfl⟩
  obtain ⟨nk, hnk⟩ : ∃ nk, nk = LK.length := ⟨_, rfl⟩
  obtain ⟨nb, hnb⟩ : ∃ nb, nb = LB.length := ⟨_, rfl⟩
  rw [← hn] at C1 C2 C5 hl3; rw [← hnk] at C6 C7 hl1; rw [← hnb] at C8 C9 hl2
  have HNL := Lib.hid hn; have HNK := Lib.hid hnk; have HNB := Lib.hid hnb
  clear ht h ho htr hn hnk hnb
  go_enter Try.func27, Try.ntmps27
  go_upto_region 1 with (fail)
  obtain ⟨w1, hw1⟩ : ∃ w1, w1 = (w.alloc (ubox v1 v2 v3 v4)).alloc (hbox i g) := ⟨_, rfl⟩
  have HX : Hid (Ux w1 w.heap.size (vcl 32 v1 v2 v3 v4)) := Lib.hid (by rw [hw1]; exact (Ux.new w _).alloc _)
  have HY : Hid (Hx w1 (w.heap.size + 1) i g) := Lib.hid (by rw [hw1]; exact Hx.new1 w _ i g)
  have HB : Hid (Below w.heap.size w w1) := Lib.hid (by rw [hw1]; exact (below_alloc w _).alloc (by simp) _)
  rw [← hw1]
  clear hw1
  obtain ⟨x, hx⟩ : ∃ x, x = w.heap.size := ⟨_, rfl⟩
  obtain ⟨y, hy⟩ : ∃ y, y = w.heap.size + 1 := ⟨_, rfl⟩
  rw [← hy, ← hx]
  rw [← hx] at HX; rw [← hy] at HY
  have HN : Hid (x = w.heap.size ∧ y = w.heap.size + 1) := Lib.hid ⟨hx, hy⟩
  clear hx hy
  obtain ⟨x0, x1, x2, x3, x4⟩ := HX.out.c5
  have xl := HX.out.lt
  obtain ⟨y0, y1⟩ := HY.out.c2
  have yl := HY.out.lt
  go_wp2_with fail
  refine (C1.out _ HB.out).mono ?_
  rintro e w2 ⟨a1, c1, rfl, hr2, hz2⟩
  have R2 := Lib.hid hr2
  clear hr2 C1
  replace HX := Lib.hid (HX.out.behind hz2)
  replace HY := Lib.hid (HY.out.behind hz2)
  replace HB := Lib.hid (below_trans HB.out hz2 HB.out.size)
  clear hz2 x0 x1 x2 x3 x4 y0 y1 xl yl HT
  obtain ⟨x0, x1, x2, x3, x4⟩ := HX.out.c5
  have xl := HX.out.lt
  obtain ⟨y0, y1⟩ := HY.out.c2
  have yl := HY.out.lt
  go_wp2_with fail
  refine (C2.out _ HB.out).mono ?_
  rintro e w3 ⟨a2, c2, rfl, hr3, hz3⟩
  have R3 := Lib.hid hr3
  replace R2 := Lib.hid (ownsRow_below R2.out hz3)
  clear hr3
  replace HX := Lib.hid (HX.out.behind hz3)
  replace HY := Lib.hid (HY.out.behind hz3)
  replace HB := Lib.hid (below_trans HB.out hz3 HB.out.size)
  clear hz3 x0 x1 x2 x3 x4 y0 y1 xl yl C2
  obtain ⟨x0, x1, x2, x3, x4⟩ := HX.out.c5
  have xl := HX.out.lt
  obtain ⟨y0, y1⟩ := HY.out.c2
  have yl := HY.out.lt
  go_wp2_with fail
  refine (C3.out _ HB.out).mono ?_
  rintro e w4 ⟨rfl, hz4⟩
  replace R2 := Lib.hid (ownsRow_below R2.out hz4)
  replace R3 := Lib.hid (ownsRow_below R3.out hz4)
  replace HX := Lib.hid (HX.out.behind hz4)
  replace HY := Lib.hid (HY.out.behind hz4)
  replace HB := Lib.hid (below_trans HB.out hz4 HB.out.size)
  clear hz4 x0 x1 x2 x3 x4 y0 y1 xl yl C3
  go_upto_region 4 with (fail)
  obtain ⟨w5, hw5⟩ : ∃ w5, w5 = w4.alloc (hbox pi pg) := ⟨_, rfl⟩
  have HP : Hid (Hx w5 w4.heap.size pi pg) := Lib.hid (by rw [hw5]; exact Hx.new w4 _ _)
  have hz5 : Below w4.heap.size w4 w5 := by rw [hw5]; exact below_alloc _ _
  rw [← hw5]
  replace R2 := Lib.hid (ownsRow_below R2.out hz5)
  replace R3 := Lib.hid (ownsRow_below R3.out hz5)
  replace HX := Lib.hid (HX.out.behind hz5)
  replace HY := Lib.hid (HY.out.behind hz5)
  replace HB := Lib.hid (below_trans HB.out hz5 HB.out.size)
  clear hz5
  clear hw5
  obtain ⟨p1, hp1⟩ : ∃ p1, p1 = w4.heap.size := ⟨_, rfl⟩
  rw [← hp1] at HP ⊢
  clear hp1
  obtain ⟨x0, x1, x2, x3, x4⟩ := HX.out.c5
  have xl := HX.out.lt
  obtain ⟨y0, y1⟩ := HY.out.c2
  have yl := HY.out.lt
  go_wp2_with fail
  refine (C4.out _ HB.out).mono ?_
  rintro e w6 ⟨rfl, hz6⟩
  replace R2 := Lib.hid (ownsRow_below R2.out hz6)
  replace R3 := Lib.hid (ownsRow_below R3.out hz6)
  replace HP := Lib.hid (HP.out.behind hz6)
  replace HX := Lib.hid (HX.out.behind hz6)
  replace HY := Lib.hid (HY.out.behind hz6)
  replace HB := Lib.hid (below_trans HB.out hz6 HB.out.size)
  clear hz6 x0 x1 x2 x3 x4 y0 y1 xl yl C4
  go_upto_region 5 with (fail)
  obtain ⟨w7, hw7⟩ : ∃ w7, w7 = w6.alloc (hbox pi pg) := ⟨_, rfl⟩
  have HQ : Hid (Hx w7 w6.heap.size pi pg) := Lib.hid (by rw [hw7]; exact Hx.new w6 _ _)
  have hz7 : Below w6.heap.size w6 w7 := by rw [hw7]; exact below_alloc _ _
  rw [← hw7]
  replace R2 := Lib.hid (ownsRow_below R2.out hz7)
  replace R3 := Lib.hid (ownsRow_below R3.out hz7)
  replace HP := Lib.hid (HP.out.behind hz7)
  replace HX := Lib.hid (HX.out.behind hz7)
  replace HY := Lib.hid (HY.out.behind hz7)
  replace HB := Lib.hid (below_trans HB.out hz7 HB.out.size)
  clear hz7
  clear hw7
  obtain ⟨p2, hp2⟩ : ∃ p2, p2 = w6.heap.size := ⟨_, rfl⟩
  rw [← hp2] at HQ ⊢
  clear hp2
  obtain ⟨x0, x1, x2, x3, x4⟩ := HX.out.c5
  have xl := HX.out.lt
  obtain ⟨y0, y1⟩ := HY.out.c2
  have yl := HY.out.lt
  go_wp2_with fail
  refine (C5.out _ HB.out).mono ?_
  rintro e w8 ⟨rfl, hz8⟩
  replace R2 := Lib.hid (ownsRow_below R2.out hz8)
  replace R3 := Lib.hid (ownsRow_below R3.out hz8)
  replace HP := Lib.hid (HP.out.behind hz8)
  replace HQ := Lib.hid (HQ.out.behind hz8)
  replace HX := Lib.hid (HX.out.behind hz8)
  replace HY := Lib.hid (HY.out.behind hz8)
  replace HB := Lib.hid (below_trans HB.out hz8 HB.out.size)
  clear hz8 x0 x1 x2 x3 x4 y0 y1 xl yl C5
  have hlz : n = (zs L).length := by rw [zs_length]; exact HNL.out
  have CI := Lib.hid (ints_eq w8 _ _ n _ _ (zs L) hlz R2.out R3.out (by omega))
  clear hlz
  obtain ⟨e0, e1⟩ := HP.out.c2
  obtain ⟨f0, f1⟩ := HQ.out.c2
  have el := HP.out.lt
  have fl := HQ.out.lt
  go_wp2_with fail
  refine CI.out.mono ?_
  rintro e w9 ⟨rfl, d9, rfl⟩
  have hz9 : Below w8.heap.size w8 (w8.drewN d9) := below_drewN (Below.refl _ _) d9
  replace HX := Lib.hid (HX.out.behind hz9)
  replace HY := Lib.hid (HY.out.behind hz9)
  replace HB := Lib.hid (below_trans HB.out hz9 HB.out.size)
  clear hz9
  clear e0 e1 f0 f1 el fl CI
  have HP' : Hid (Hx (w8.drewN d9) p1 pi pg) := Lib.hid HP.out
  have HQ' : Hid (Hx (w8.drewN d9) p2 pi pg) := Lib.hid HQ.out
  obtain ⟨w9, hw9⟩ : ∃ w9, w9 = w8.drewN d9 := ⟨_, rfl⟩
  rw [← hw9] at HB HX HY HP' HQ' ⊢
  clear hw9
  obtain ⟨e0, e1⟩ := HP'.out.c2
  obtain ⟨f0, f1⟩ := HQ'.out.c2
  have el := HP'.out.lt
  have fl := HQ'.out.lt
  obtain ⟨x0, x1, x2, x3, x4⟩ := HX.out.c5
  have xl := HX.out.lt
  obtain ⟨y0, y1⟩ := HY.out.c2
  have yl := HY.out.lt
  have HS := Lib.hid (fun (w' : World) (hz : Below w9.drew.heap.size w9.drew w') => show (w'.cell? ⟨x, 0, none⟩ = some (.int .i64 32) ∧ w'.cell? ⟨x, 1, none⟩ = some (.slice v1.a v1.n v1.c) ∧ w'.cell? ⟨x, 2, none⟩ = some (.slice v2.a v2.n v2.c) ∧ w'.cell? ⟨x, 3, none⟩ = some (.slice v3.a v3.n v3.c) ∧ w'.cell? ⟨x, 4, none⟩ = some (.slice v4.a v4.n v4.c) ∧ w'.cell? ⟨y, 0, none⟩ = some (.int .i64 i) ∧ w'.cell? ⟨y, 1, none⟩ = some (.int .i64 g)) from by
    have c := fun (b o : Nat) (h : b < w9.heap.size) => below_cell (w := w9.drew) hz (b := b) (by exact h) o
    exact ⟨(c _ _ xl).trans x0, (c _ _ xl).trans x1, (c _ _ xl).trans x2, (c _ _ xl).trans x3, (c _ _ xl).trans x4, (c _ _ yl).trans y0, (c _ _ yl).trans y1⟩)
  have HB0 : Hid (∀ W, Below w9.drew.heap.size w9.drew W → Below w.heap.size w W) := Lib.hid (fun W hW => below_trans (below_drew HB.out) hW HB.out.size)
  have hz0 : Below w9.drew.heap.size w9.drew w9.drew := Below.refl _ _
  have K6 := Lib.hid (fun (W : World) (hW : Below w9.drew.heap.size w9.drew W) => C6.out W (HB0.out W hW))
  have K7 := Lib.hid (fun (W : World) (hW : Below w9.drew.heap.size w9.drew W) => C7.out W (HB0.out W hW))
  have K8 := Lib.hid (fun (W : World) (hW : Below w9.drew.heap.size w9.drew W) => C8.out W (HB0.out W hW))
  have K9 := Lib.hid (fun (W : World) (hW : Below w9.drew.heap.size w9.drew W) => C9.out W (HB0.out W hW))
  go_wp2_with fail
  clear e0 e1 f0 f1 el fl
  go_region_held3 (fun w' => w'.cell? ⟨x, 0, none⟩ = some (.int .i64 32) ∧ w'.cell? ⟨x, 1, none⟩ = some (.slice v1.a v1.n v1.c) ∧ w'.cell? ⟨x, 2, none⟩ = some (.slice v2.a v2.n v2.c) ∧ w'.cell? ⟨x, 3, none⟩ = some (.slice v3.a v3.n v3.c) ∧ w'.cell? ⟨x, 4, none⟩ = some (.slice v4.a v4.n v4.c) ∧ w'.cell? ⟨y, 0, none⟩ = some (.int .i64 i) ∧ w'.cell? ⟨y, 1, none⟩ = some (.int .i64 g))
    (first | exact ⟨x0, x1, x2, x3, x4, y0, y1⟩ | assumption)
    (first | (go_at_call 30; (with_reducible refine (K6.out _ hz0).mono ?_); rintro e u1 ⟨ka, kc, rfl, hr1, hz1⟩; have S1 := HS.out u1 hz1; have R6 := Lib.hid hr1; clear hr1) | (go_at_call 45; (with_reducible refine (K7.out _ hz1).mono ?_); rintro e u2 ⟨la, lc, rfl, hr2, hz2⟩; have R7 := Lib.hid hr2; replace R6 := Lib.hid (ownsRow_below R6.out hz2); clear hr2; replace hz2 := below_trans hz1 hz2 hz1.size; have S2 := HS.out u2 hz2) | (go_at_call 16; (with_reducible refine (rsame_eq u2 _ _ nk _ _ LK HNK.out R6.out R7.out (by omega)).mono ?_); rintro e u3 ⟨rfl, d3, hd3⟩; have hz3 : Below w9.drew.heap.size w9.drew u3 := (by rw [← hd3]; exact below_drewN hz2 d3); have S3 := HS.out u3 hz3; have HD3 := Lib.hid hd3; clear hd3) | (go_at_call 12; (with_reducible refine (K8.out _ hz3).mono ?_); rintro e u4 ⟨ma, mc, rfl, hr4, hz4⟩; have R8 := Lib.hid hr4; clear hr4; replace hz4 := below_trans hz3 hz4 hz3.size; have S4 := HS.out u4 hz4) | (go_at_call 48; (with_reducible refine (K9.out _ hz4).mono ?_); rintro e u5 ⟨na, nc, rfl, hr5, hz5⟩; have R9 := Lib.hid hr5; replace R8 := Lib.hid (ownsRow_below R8.out hz5); clear hr5; replace hz5 := below_trans hz4 hz5 hz4.size; have S5 := HS.out u5 hz5) | (go_at_call 16; (with_reducible refine (rsame_eq u5 _ _ nb _ _ LB HNB.out R8.out R9.out (by omega)).mono ?_); rintro e u6 ⟨rfl, d6, hd6⟩; have hz6 : Below w9.drew.heap.size w9.drew u6 := (by rw [← hd6]; exact below_drewN hz5 d6); have S6 := HS.out u6 hz6; have HD6 := Lib.hid hd6; clear hd6))
  have HF := Lib.hid (HB0.out u6 hz6)
  clear hz0 hz1 hz2 hz3 hz4 hz5 hz6 S1 S2 S3 S4 S5 S6 x0 x1 x2 x3 x4 y0 y1 xl yl
  go_wp2
  go_ret
  exact ⟨rfl, HF.out⟩
end Go.Proofs.Ytnbljnpfmeidfaa
