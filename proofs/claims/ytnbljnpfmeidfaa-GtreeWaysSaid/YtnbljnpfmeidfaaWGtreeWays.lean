/- The walk of the law GtreeWays: it returns true. Condition: the argument reads as a slice of bytes. -/
import Derived.Test.YtnbljnpfmeidfaaGrown
namespace Go.Proofs.Ytnbljnpfmeidfaa
open Go Go.RowKit Go.ChangeShapes Go.WideShapes
set_option linter.unusedVariables false

theorem TrX.setHx {w : World} {base t p : Nat} {s : Ps} (h : TrX w base t p s) {y : Nat} {i g : Int} (hy : Hx w y i g) (i' g' : Int) : TrX ((w.setCell ⟨y, 0, none⟩ (.int .i64 i')).setCell ⟨y, 1, none⟩ (.int .i64 g')) base t p s :=
  (h.farH hy _ _).farH (hy.set0 _) _ _
theorem below_setHx {B y : Nat} {a w : World} (h : Below B a w) (hy : B ≤ y) (i g : Int) : Below B a ((w.setCell ⟨y, 0, none⟩ (.int .i64 i)).setCell ⟨y, 1, none⟩ (.int .i64 g)) := (h.setCell hy _).setCell hy _
theorem parent_place (c : Nat) (q : Pl) (b : Nat) (w : World) (base t p : Nat) (s : Ps) (h : TrX w base t p s) (ho : s.Ok 32 b) (hb : b ≤ 1000) (h1 : s.l[c]? = some q) (h2 : q.used = true) (h0 : c ≠ 0) (i g : Int) (hi : q.x.ui = i) (hg : q.x.ug = g) :
    Calls Try.prog 13 #[.pointer (some ⟨t, 0, none⟩), .agg #[.int .i64 c, .int .i64 q.gen]] w fun e w' => e = .returned (.tuple #[.agg #[.int .i64 i, .int .i64 g], .int .i64 0]) ∧ Below w.heap.size w w' := by
  obtain ⟨_, f2, f3⟩ := find_of h1 h2
  have := parent_yes c q.gen b w base t p s h ho hb f3 (by omega)
  rwa [f2, hi, hg] at this
set_option maxHeartbeats 4000000 in
set_option maxRecDepth 100000 in
theorem walk_GtreeWays (a : Option Addr) (len capo : Nat) (f : Nat → Nat) (w : World) (h : BytesAt w a len f) (hlen : len ≤ 9223372036854775807) :
    Calls Try.prog 5 #[.slice a len capo] w fun e w' => e = .returned (.bool true) ∧ Below w.heap.size w w' := by
  have HA := Lib.hid h
  clear h
  go_enter Try.func5, Try.ntmps5
  go_wp2_with fail
  refine (awake _).mono ?_
  rintro e w1 ⟨rfl, hz1⟩
  have HB1 := Lib.hid hz1
  clear hz1
  go_wp2_with fail
  refine (grown_any a len capo f w1 (HA.out.behind HB1.out) hlen).mono ?_
  rintro e w2 ⟨t, p, s, v, T, rfl, hg2, hz2⟩
  have hb1 := HB1.out.size
  have HB2 := Lib.hid (below_trans HB1.out hz2 hb1)
  obtain ⟨ta, tc, hv⟩ := hrow_nil hg2.row
  obtain ⟨N, hN⟩ : ∃ N, N = T.length := ⟨_, rfl⟩
  have hrow := hg2.row
  rw [← hN] at hv hrow
  subst hv
  have h0 : 0 < N := by rw [hN]; exact hg2.pos
  have hN41 : N ≤ 41 := by rw [hN]; exact hg2.len
  obtain ⟨tt, rfl⟩ := hrow_some hrow h0
  have HR2 := Lib.hid hrow
  have HTO := Lib.hid hg2.told
  have HS := Lib.hid (And.intro hg2.ok hg2.tr)
  have HT2 := Lib.hid hg2.tree
  have HN := Lib.hid hN
  have HP := Lib.hid (And.intro hg2.tree.has.lt hb1)
  clear hg2 hz2 hrow hb1 hN
  go_wp2_with fail
  go_loopg [6] N (fun n vi wr => ∃ j : Nat, vi = .int .i64 j ∧ j ≤ N ∧ N - j ≤ n ∧ Below w2.heap.size w2 wr)
  case atStart => exact ⟨0, rfl, by omega, by omega, Below.refl _ _⟩
  case round =>
    obtain ⟨j, rfl, hj, hgn, hbr⟩ := hrel
    have HBR := Lib.hid hbr; have HGN := Lib.hid hgn
    clear hbr hgn
    by_cases hjn : j < N
    · obtain ⟨kg, hkg⟩ : ∃ kg, T[j]? = some kg := ⟨_, List.getElem?_eq_getElem (by have := HN.out; omega)⟩
      obtain ⟨k, g⟩ := kg
      obtain ⟨q, hq1, hq2, hq3⟩ := HTO.out (k, g) (List.mem_of_getElem? hkg)
      simp only at hq1 hq3
      subst hq3
      have HQ := Lib.hid (And.intro hq1 (And.intro hq2 hkg))
      have HTr := Lib.hid (HT2.out.behind HBR.out)
      obtain ⟨y0, y1, yl⟩ := hcl_cell (ownsRow_below HR2.out HBR.out) j k q.gen hkg hjn
      have hdp := HS.out.2.dp hq1 hq2
      have hd8 := (HS.out.2.dep0 ⟨q, hq1, hq2⟩).1
      obtain ⟨_, f2, f3⟩ := find_of (s := s) hq1 hq2
      have hpl : pathL s k q.gen = pth s.l k := by unfold pathL; rw [(find_of hq1 hq2).1]
      have hplen := pth_length HS.out.2 k ⟨q, hq1, hq2⟩
      obtain ⟨D, hD⟩ : ∃ D, D = dep s.l k := ⟨_, rfl⟩
      have HD := Lib.hid hD
      have HPA := Lib.hid (fun W (hW : TrX W w1.heap.size t p s) => show Calls Try.prog 14 #[.pointer (some ⟨t, 0, none⟩), .agg #[.int .i64 k, .int .i64 q.gen]] W (fun e w' => ∃ a c, e = .returned (.tuple #[.slice a D c, .int .i64 0]) ∧ w'.ownsRow W.heap.size 3 1 (.slice a D c) D (iv (zs (pth s.l k))) ∧ Below W.heap.size W w') from by
        have := path_any k q.gen 41 W w1.heap.size t p s hW HS.out.1 (by omega) HS.out.2
        rwa [hpl, f3, hplen, ← hD] at this)
      have HDE := Lib.hid (fun W (hW : TrX W w1.heap.size t p s) => show Calls Try.prog 18 #[.pointer (some ⟨t, 0, none⟩), .agg #[.int .i64 k, .int .i64 q.gen]] W (fun e w' => e = .returned (.tuple #[.int .i64 D, .int .i64 0]) ∧ Below W.heap.size W w') from by
        have := depth_any k q.gen 41 W w1.heap.size t p s hW HS.out.1 (by omega)
        rwa [f2, f3, hdp.2.2.2, ← hD] at this)
      rw [← hD] at hd8
      clear hq1 hq2 hkg hdp f2 f3 hpl hplen hD
      go_wp2_with fail
      refine (HPA.out _ HTr.out).mono ?_
      rintro e w3 ⟨pa, pc, rfl, hr3, hz3⟩
      have HBR3 := Lib.hid (below_trans HBR.out hz3 HBR.out.size)
      have HR3 := Lib.hid hr3
      obtain ⟨x0, x1, xl⟩ := hcl_cell (ownsRow_below HR2.out HBR3.out) j k q.gen HQ.out.2.2 hjn
      have HT3 := Lib.hid (HTr.out.behind hz3)
      clear hr3 hz3 y0 y1 yl
      go_wp2_with fail
      refine (HDE.out _ HT3.out).mono ?_
      rintro e w4 ⟨rfl, hz4⟩
      have HBR4 := Lib.hid (below_trans HBR3.out hz4 HBR3.out.size)
      have HR4 := Lib.hid (ownsRow_below HR3.out hz4)
      obtain ⟨y0, y1, yl⟩ := hcl_cell (ownsRow_below HR2.out HBR4.out) j k q.gen HQ.out.2.2 hjn
      have HT4 := Lib.hid (HT3.out.behind hz4)
      clear hz4 x0 x1 xl
      obtain ⟨hb, hhb⟩ : ∃ hb, hb = w4.heap.size := ⟨_, rfl⟩
      obtain ⟨w5, hw5⟩ : ∃ w5, w5 = w4.alloc (hbox k q.gen) := ⟨_, rfl⟩
      have HX5 : Hid (Hx w5 hb k q.gen) := Lib.hid (by rw [hw5, hhb]; exact Hx.new w4 _ _)
      have HBR5 : Hid (Below w2.heap.size w2 w5) := Lib.hid (by rw [hw5]; exact HBR4.out.alloc HBR4.out.size _)
      have HR5 : Hid (w5.ownsRow wr.heap.size 3 1 (.slice pa D pc) D (iv (zs (pth s.l k)))) := Lib.hid (by rw [hw5]; exact HR4.out.alloc _)
      have HT5 : Hid (TrX w5 w1.heap.size t p s) := Lib.hid (by rw [hw5]; exact HT4.out.alloc _)
      have HHB : Hid (w2.heap.size ≤ hb) := Lib.hid (by rw [hhb]; exact HBR4.out.size)
      go_upto_region 13 with (fail)
      rw [show w4.alloc (Obj.cells #[Value.int IntKind.i64 k, Value.int IntKind.i64 q.gen] 30) = w5 from hw5.symm, ← hhb]
      clear hw5 hhb y0 y1 yl
      go_wp2_with fail
      go_loopg [12] 9 (fun n vi wq => ∃ (c dc : Nat) (qc : Pl) (rest : List Nat), vi = .int .i64 ((dc : Int) - 1) ∧ dc = dep s.l c ∧ dc + 1 ≤ n ∧ s.l[c]? = some qc ∧ qc.used = true ∧ pth s.l k = pth s.l c ++ rest ∧ Hx wq hb c qc.gen ∧ TrX wq w1.heap.size t p s ∧ wq.ownsRow wr.heap.size 3 1 (.slice pa D pc) D (iv (zs (pth s.l k))) ∧ Below w2.heap.size w2 wq)
      case atStart => exact ⟨k, D, q, [], rfl, HD.out, by omega, HQ.out.1, HQ.out.2.1, by simp, HX5.out, HT5.out, HR5.out, HBR5.out⟩
      case round =>
        obtain ⟨c, dc, qc, rest, rfl, hdc, hn, hc1, hc2, hpt, hx, ht, hr, hb2⟩ := hrel
        have HDC := Lib.hid hdc; have HGN2 := Lib.hid hn; have HC := Lib.hid (And.intro hc1 hc2); have HPT := Lib.hid hpt; have HX := Lib.hid hx; have HT := Lib.hid ht; have HR := Lib.hid hr; have HB := Lib.hid hb2
        have hrootc := (HS.out.2.dep0 ⟨qc, hc1, hc2⟩)
        rw [← hdc] at hrootc
        obtain ⟨hdc8, hdc0⟩ := hrootc
        clear hdc hpt hx ht hr hb2 HX5 HT5 HR5 HBR5 hn
        obtain ⟨x0, x1⟩ := HX.out.c2
        by_cases hc0 : c = 0
        · have hd0 : dc = 0 := hdc0.2 hc0
          have hg0 := zero_of HS.out.2 hc1 hc0
          subst hd0
          subst hc0
          rw [hg0] at x1
          clear hdc0 hc1 hc2 hg0
          go_wp2_with fail
          go_roundg (N - (j + 1))
          case measure => have := HGN.out; omega
          case rel => exact ⟨j + 1, by go_num, by omega, Nat.le_refl _, HB.out⟩
        · obtain ⟨d, pd, hd1, hd2, hd3, hd4, hd5, hd6⟩ := HS.out.2.up_eq hc1 hc2 hc0
          rw [← HDC.out] at hd6
          have hpc := pth_cons HS.out.2 ⟨qc, hc1, hc2⟩ hc0
          rw [hd5] at hpc
          have hpl := pth_length HS.out.2 d ⟨pd, hd1, hd2⟩
          obtain ⟨e, he⟩ : ∃ e, e = dep s.l d := ⟨_, rfl⟩
          rw [← he] at hd6 hpl
          subst hd6
          have HE := Lib.hid he
          have hget : (zs (pth s.l k))[e]? = some (c : Int) := by
            rw [HPT.out, hpc]
            unfold zs
            rw [List.getElem?_map, List.append_assoc, List.getElem?_append_right (by omega), hpl]
            simp
          have hDk : D = (pth s.l k).length := by rw [pth_length HS.out.2 k ⟨q, HQ.out.1, HQ.out.2.1⟩, HD.out]
          have heD : e < D := by
            have h1 : (pth s.l k).length = (pth s.l c).length + rest.length := by rw [HPT.out, List.length_append]
            rw [hpc, List.length_append, hpl] at h1
            simp at h1
            omega
          obtain ⟨rg, hrg⟩ := hrow_some HR.out (by omega)
          subst hrg
          have hce := icell HR.out (by rw [zs_length]; exact hDk) e (c : Int) hget
          have hgl := (HR.out.lt rg rfl).2
          have hpt2 : pth s.l k = pth s.l d ++ (c :: rest) := by rw [HPT.out, hpc, List.append_assoc]; rfl
          have HPT2 := Lib.hid hpt2
          have HD1 := Lib.hid (And.intro hd1 (And.intro hd2 (And.intro hd3 hd4)))
          have HC0 := Lib.hid hc0
          have hee : ((e + 1 : Nat) : Int) - 1 = (e : Int) := by omega
          have hge : (0 : Int) ≤ (e : Int) := by omega
          have hged : (e : Int) < (D : Int) := by omega
          rw [hee]
          clear hc1 hc2 hpc hpl he hget hDk hpt2 hd1 hd2 hd3 hd4 hd5 hc0 hdc0 hee
          go_wp2_with fail
          go_quiet (fail)
          go_wp2_with fail
          have hbq := below_drewN (Below.refl wr.heap.size wr) nq
          refine (parent_place c qc 41 _ w1.heap.size t p s (HT.out.behind hbq) HS.out.1 (by omega) HC.out.1 HC.out.2 HC0.out d pd.gen HD1.out.2.2.1 HD1.out.2.2.2).mono ?_
          rintro e7 w7 ⟨rfl, hz7⟩
          have hz7' : Below wr.heap.size wr w7 := below_trans hbq hz7 (Nat.le_refl _)
          have hb8 : Below w2.heap.size w2 w7 := below_trans HB.out hz7' HB.out.size
          have HX8 := Lib.hid ((HX.out.behind hz7').alloc (hbox d pd.gen))
          have HT8 := Lib.hid ((HT.out.behind hz7').alloc (hbox d pd.gen))
          have HR8 := Lib.hid ((ownsRow_below HR.out hz7').alloc (hbox d pd.gen))
          have HB8 := Lib.hid (hb8.alloc hb8.size (hbox d pd.gen))
          have HY8 := Lib.hid (Hx.new w7 d pd.gen)
          obtain ⟨w8, hw8⟩ : ∃ w8, w8 = w7.alloc (hbox d pd.gen) := ⟨_, rfl⟩
          obtain ⟨yb, hyb⟩ : ∃ yb, yb = w7.heap.size := ⟨_, rfl⟩
          rw [← hw8] at HX8 HT8 HR8 HB8 HY8
          rw [← hyb] at HY8
          clear hbq hz7 hz7' hb8 x0 x1 hce hgl
          go_upto_region 21 with (fail)
          rw [show w7.alloc (Obj.cells #[Value.int IntKind.i64 d, Value.int IntKind.i64 pd.gen] 30) = w8 from hw8.symm, ← hyb]
          clear hw8 hyb
          obtain ⟨x0, x1⟩ := HX8.out.c2
          obtain ⟨y0, y1⟩ := HY8.out.c2
          have xf := HX8.out.frz
          have xl := HX8.out.lt
          go_wp2_with fail
          go_roundg (e + 1)
          case measure => have := HGN2.out; omega
          case rel =>
            have hne := row_hx HR8.out HX8.out (by decide)
            exact ⟨d, e, pd, c :: rest, rfl, HE.out, Nat.le_refl _, HD1.out.1, HD1.out.2.1, HPT2.out, (HX8.out.set0 _).set1 _, HT8.out.setHx HX8.out _ _, row_other (row_other HR8.out hne) hne, below_setHx HB8.out HHB.out _ _⟩
    · have hjN : j = N := by omega
      subst hjN
      go_wp2
      go_ret
      exact ⟨rfl, below_trans HB2.out HBR.out HB2.out.size⟩
end Go.Proofs.Ytnbljnpfmeidfaa
