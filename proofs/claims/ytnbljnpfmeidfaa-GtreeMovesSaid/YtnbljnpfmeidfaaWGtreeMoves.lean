/- The walk of the law GtreeMoves: it returns true. Condition: the arguments read as a slice of bytes and two bytes. -/
import Derived.Test.YtnbljnpfmeidfaaGtBack
import Derived.Test.YtnbljnpfmeidfaaInts
namespace Go.Proofs.Ytnbljnpfmeidfaa
open Go Go.RowKit Go.ChangeShapes Go.WideShapes
set_option linter.unusedVariables false

theorem row_two {w : World} {base base2 : Nat} {e e2 : TypeId} {size size2 n n2 : Nat} {v v2 : Value} {xs xs2 : List Value} (h : w.ownsRow base e size v n xs) (h2 : w.ownsRow base2 e2 size2 v2 n2 xs2) (he : e ≠ e2) {k : Nat} (hk : v2.ownBlock = some k) : v.ownBlock ≠ some k := by
  intro hv
  rcases h.2 with ⟨rfl, _⟩ | ⟨g, cap, cur, rfl, _, hh, _⟩
  · simp [Value.ownBlock] at hv
  · rcases h2.2 with ⟨rfl, _⟩ | ⟨g2, cap2, cur2, rfl, _, hh2, _⟩
    · simp [Value.ownBlock] at hk
    · simp [Value.ownBlock] at hv hk
      subst hv hk
      rw [hh] at hh2
      simp only [Option.some.injEq, Obj.cells.injEq] at hh2
      exact he hh2.2.1
/-- a row behind the growth of another -/
theorem row_keep {w w' : World} {base base2 : Nat} {e e2 : TypeId} {size size2 n n2 : Nat} {v v2 : Value} {xs xs2 : List Value} (h : w.ownsRow base e size v n xs) (h2 : w.ownsRow base2 e2 size2 v2 n2 xs2) (he : e ≠ e2) (hg : w.grownBy w' v2.ownBlock) : w'.ownsRow base e size v n xs := by
  refine ⟨h.1, ?_⟩
  rcases h.2 with hn | ⟨g, cap, cur, hv, hb, hh, hr⟩
  · exact .inl hn
  · refine .inr ⟨g, cap, cur, hv, hb, ?_, hr⟩
    rw [hg.block g (Array.getElem?_eq_some_iff.1 hh).1 ?_]
    · exact hh
    · intro hk
      exact row_two h h2 he hk.symm (by rw [hv]; rfl)
theorem rinfo_ints : (Try.prog.info? 38).map (fun i => (i.zero, i.size, i.bytes)) = some (some (.slice none 0 0), 1, 24) := by kernel_rfl
/-- the paths of the told handles, each in a row of its own -/
def Paths (w : World) (base : Nat) (l : List Pl) (T : List (Nat × Int)) (W : List Value) : Prop :=
  ∀ (i : Nat) (v : Value), W[i]? = some v → ∃ (a : Option Addr) (c k : Nat) (g : Int), T[i]? = some (k, g) ∧ v = .slice a (pth l k).length c ∧ w.ownsRow base 3 1 (.slice a (pth l k).length c) (pth l k).length (iv (zs (pth l k)))
theorem Paths.behind {w w' : World} {base : Nat} {l : List Pl} {T : List (Nat × Int)} {W : List Value} (h : Paths w base l T W) (hb : Below w.heap.size w w') : Paths w' base l T W := by
  intro i v hv
  obtain ⟨a, c, k, g, h1, h2, h3⟩ := h i v hv
  exact ⟨a, c, k, g, h1, h2, ownsRow_below h3 hb⟩
theorem Paths.keep {w w' : World} {base : Nat} {l : List Pl} {T : List (Nat × Int)} {W : List Value} (h : Paths w base l T W) {base2 size2 n2 : Nat} {e2 : TypeId} {v2 : Value} {xs2 : List Value} (h2 : w.ownsRow base2 e2 size2 v2 n2 xs2) (he : 3 ≠ e2) (hg : w.grownBy w' v2.ownBlock) : Paths w' base l T W := by
  intro i v hv
  obtain ⟨a, c, k, g, h1, h4, h3⟩ := h i v hv
  exact ⟨a, c, k, g, h1, h4, row_keep h3 h2 he hg⟩
theorem Paths.step {w w' : World} {base base2 t p : Nat} {s : Ps} {l : List Pl} {T : List (Nat × Int)} {W : List Value} (h : Paths w base l T W) (ht : TrX w base2 t p s) (hs : PoolStep base2 p w w') : Paths w' base l T W := by
  intro i v hv
  obtain ⟨a, c, k, g, h1, h4, h3⟩ := h i v hv
  exact ⟨a, c, k, g, h1, h4, ownsRow_step h3 hs (by decide) (ht.notRow _ (by decide))⟩
theorem path_place (k : Nat) (g : Int) (b : Nat) (w : World) (base t p : Nat) (s : Ps) (h : TrX w base t p s) (ho : s.Ok 32 b) (hb : b ≤ 1000) (htr : Tr s.l) (hk : ∃ q, s.l[k]? = some q ∧ q.used = true ∧ q.gen = g) :
    Calls Try.prog 14 #[.pointer (some ⟨t, 0, none⟩), .agg #[.int .i64 k, .int .i64 g]] w fun e w' => ∃ a c, e = .returned (.tuple #[.slice a (pth s.l k).length c, .int .i64 0]) ∧ w'.ownsRow w.heap.size 3 1 (.slice a (pth s.l k).length c) (pth s.l k).length (iv (zs (pth s.l k))) ∧ Below w.heap.size w w' := by
  obtain ⟨q, h1, h2, rfl⟩ := hk
  exact path_yes k q b w base t p s h ho hb htr h1 h2
theorem below_place2 (k : Nat) (gk : Int) (b : Nat) (w : World) (base t p : Nat) (s : Ps) (h : TrX w base t p s) (ho : s.Ok 32 b) (hb : b ≤ 1000) (htr : Tr s.l)
    (hk : ∃ q, s.l[k]? = some q ∧ q.used = true ∧ q.gen = gk) (B : List (Nat × Int)) (hB : bel s.l k = B) :
    Calls Try.prog 12 #[.pointer (some ⟨t, 0, none⟩), .agg #[.int .i64 k, .int .i64 gk]] w fun e w' => ∃ a c, e = .returned (.slice a B.length c) ∧ w'.ownsRow w.heap.size 30 2 (.slice a B.length c) B.length (hcl B) ∧ Below w.heap.size w w' := by
  obtain ⟨qk, h1, h2, rfl⟩ := hk
  have hbel : belP s k qk.gen = fun i => und s.l i k := by funext i; unfold belP; rw [(find_of h1 h2).1]
  have := below_any k qk.gen b w base t p s h ho hb htr
  rw [hbel, show selL s.l (fun i => und s.l i k) = B from hB] at this
  exact this
/-- the told handle that a byte picks -/
theorem pick2 {w : World} {base tt N c : Nat} {T : List (Nat × Int)} (hr : w.ownsRow base 30 2 (.slice (some ⟨tt, 0, none⟩) N c) N (hcl T)) (hN : N = T.length) (h0 : 0 < N) {s : Ps} (ht : Told s T) (n : Nat) :
    ∃ (k : Nat) (g : Int), (∃ q, s.l[k]? = some q ∧ q.used = true ∧ q.gen = g) ∧ w.cell? ⟨tt, n % N * 2, none⟩ = some (.int .i64 k) ∧ w.cell? ⟨tt, n % N * 2 + 1, none⟩ = some (.int .i64 g) ∧ tt < w.heap.size ∧ n % N < N ∧ T[n % N]? = some (k, g) := by
  have hlt : n % N < N := Nat.mod_lt _ h0
  obtain ⟨kg, hk⟩ : ∃ kg, T[n % N]? = some kg := ⟨_, List.getElem?_eq_getElem (by omega)⟩
  obtain ⟨k, g⟩ := kg
  obtain ⟨y0, y1, y2⟩ := hcl_cell hr (n % N) k g hk hlt
  exact ⟨k, g, ht (k, g) (List.mem_of_getElem? hk), y0, y1, y2, hlt, hk⟩
theorem parent_at (c : Nat) (q : Pl) (b : Nat) (w : World) (base t p : Nat) (s : Ps) (h : TrX w base t p s) (ho : s.Ok 32 b) (hb : b ≤ 1000) (h1 : s.l[c]? = some q) (h2 : q.used = true) (h0 : c ≠ 0) (i g : Int) (hi : q.x.ui = i) (hg : q.x.ug = g) :
    Calls Try.prog 13 #[.pointer (some ⟨t, 0, none⟩), .agg #[.int .i64 c, .int .i64 q.gen]] w fun e w' => e = .returned (.tuple #[.agg #[.int .i64 i, .int .i64 g], .int .i64 0]) ∧ Below w.heap.size w w' := by
  obtain ⟨_, f2, f3⟩ := find_of h1 h2
  have := parent_yes c q.gen b w base t p s h ho hb f3 (by omega)
  rwa [f2, hi, hg] at this
set_option maxHeartbeats 8000000 in
set_option maxRecDepth 100000 in
theorem walk_GtreeMoves (a : Option Addr) (len capo : Nat) (f : Nat → Nat) (n1 n2 : Nat) (w : World) (h : BytesAt w a len f) (hlen : len ≤ 9223372036854775807) (hn1 : n1 ≤ 255) (hn2 : n2 ≤ 255) :
    Calls Try.prog 4 #[.slice a len capo, .int .u8 n1, .int .u8 n2] w fun e w' => e = .returned (.bool true) ∧ Below w.heap.size w w' := by
  obtain ⟨i0, hi, hq0, hq1, hq2⟩ := info_parts rinfo_ints
  have HA := Lib.hid h
  clear h
  go_enter Try.func4, Try.ntmps4
  go_wp2_with fail
  refine (awake _).mono ?_
  rintro e w1 ⟨rfl, hz1⟩
  have HB1 := Lib.hid hz1
  clear hz1
  go_wp2_with fail
  refine (grown_any a len capo f w1 (HA.out.behind HB1.out) hlen).mono ?_
  rintro e w2 ⟨t, p, s, v, T, rfl, hg2, hz2⟩
  have hb1 := HB1.out.size
  have HB2 := Lib.hid (below_trans HB1.out hz2 hb1)
  obtain ⟨ta, tc, hv⟩ := hrow_nil hg2.row
  obtain ⟨N, hN⟩ : ∃ N, N = T.length := ⟨_, rfl⟩
  have hrow := hg2.row
  rw [← hN] at hv hrow
  subst hv
  have h0 : 0 < N := by rw [hN]; exact hg2.pos
  have hN41 : N ≤ 41 := by rw [hN]; exact hg2.len
  obtain ⟨tt, rfl⟩ := hrow_some hrow h0
  obtain ⟨hk, gh, hkx, a0, a1, al, ai, _⟩ := pick2 hrow hN h0 hg2.told n1
  obtain ⟨pk, gp, hky, b0, b1, bl, bi, _⟩ := pick2 hrow hN h0 hg2.told n2
  have HR2 := Lib.hid hrow
  have HTO := Lib.hid hg2.told
  have HE := Lib.hid (And.intro hkx hky)
  have HS := Lib.hid (And.intro hg2.ok hg2.tr)
  have HT2 := Lib.hid hg2.tree
  have HN := Lib.hid hN
  have hpl := hg2.tree.has.lt
  clear hg2 hz2 hrow hkx hky hN
  go_upto_region 7 with (fail)
  obtain ⟨w3, hw3⟩ : ∃ w3, w3 = (w2.alloc (hbox hk gh)).alloc (hbox pk gp) := ⟨_, rfl⟩
  obtain ⟨hb, hhb⟩ : ∃ hb, hb = w2.heap.size := ⟨_, rfl⟩
  obtain ⟨pb, hpb⟩ : ∃ pb, pb = w2.heap.size + 1 := ⟨_, rfl⟩
  have hz2 := HB2.out.size
  have HX3 : Hid (Hx w3 hb hk gh) := Lib.hid (by rw [hw3, hhb]; exact (Hx.new w2 _ _).alloc _)
  have HY3 : Hid (Hx w3 pb pk gp) := Lib.hid (by rw [hw3, hpb]; exact Hx.new1 w2 _ _ _)
  have HB3 : Hid (Below w.heap.size w w3) := Lib.hid (by rw [hw3]; exact (HB2.out.alloc hz2 _).alloc (by simp; omega) _)
  have HT3 : Hid (TrX w3 w1.heap.size t p s) := Lib.hid (by rw [hw3]; exact (HT2.out.alloc _).alloc _)
  have HR3 : Hid (w3.ownsRow w1.heap.size 30 2 (.slice (some ⟨tt, 0, none⟩) N tc) N (hcl T)) := Lib.hid (by rw [hw3]; exact (HR2.out.alloc _).alloc _)
  have HP : Hid (p < hb ∧ p < pb ∧ w.heap.size ≤ w1.heap.size) := Lib.hid (by omega)
  rw [show (w2.alloc (Obj.cells #[Value.int IntKind.i64 hk, Value.int IntKind.i64 gh] 30)).alloc (Obj.cells #[Value.int IntKind.i64 pk, Value.int IntKind.i64 gp] 30) = w3 from hw3.symm, ← hpb, ← hhb]
  clear hw3 hhb hpb hz2 a0 a1 al ai b0 b1 bl bi HR2 HT2 HB2 hpl hb1
  -- whose parent
  obtain ⟨bk, gb, fe, hpar, hfe⟩ : ∃ (bk : Nat) (gb fe : Int), (∀ W, TrX W w1.heap.size t p s → Calls Try.prog 13 #[.pointer (some ⟨t, 0, none⟩), .agg #[.int .i64 hk, .int .i64 gh]] W fun e w' => e = .returned (.tuple #[.agg #[.int .i64 bk, .int .i64 gb], .int .i64 fe]) ∧ Below W.heap.size W w') ∧
      ((hk = 0 ∧ fe = 12) ∨ (hk ≠ 0 ∧ fe = 0 ∧ ∃ (qh qb : Pl), s.l[hk]? = some qh ∧ qh.used = true ∧ qh.gen = gh ∧ s.l[bk]? = some qb ∧ qb.used = true ∧ qb.gen = gb ∧ qh.x = ⟨bk, bk, qb.gen, qb.x.dp + 1⟩)) := by
    obtain ⟨qh, h1, h2, h3⟩ := HE.out.1
    by_cases h0 : hk = 0
    · subst h0
      have hg := zero_of HS.out.2 h1 rfl
      refine ⟨0, 0, 12, fun W hW => ?_, .inl ⟨rfl, rfl⟩⟩
      obtain ⟨_, _, f3⟩ := find_of h1 h2
      rw [← h3, hg]
      rw [hg] at f3
      exact parent_root 41 W w1.heap.size t p s hW HS.out.1 (by omega) f3
    · obtain ⟨d, pd, hd1, hd2, hd3, _⟩ := HS.out.2.kid hk qh h1 h2 h0
      refine ⟨d, pd.gen, 0, fun W hW => ?_, .inr ⟨h0, rfl, qh, pd, h1, h2, h3, hd1, hd2, rfl, hd3⟩⟩
      rw [← h3]
      exact parent_at hk qh 41 W w1.heap.size t p s hW HS.out.1 (by omega) h1 h2 h0 d pd.gen (by rw [hd3]) (by rw [hd3])
  have HPAR := Lib.hid hpar
  have HFE := Lib.hid hfe
  clear hpar hfe
  obtain ⟨x0, x1⟩ := HX3.out.c2
  go_wp2_with fail
  refine (HPAR.out _ HT3.out).mono ?_
  rintro e w4 ⟨rfl, hz4⟩
  obtain ⟨w5, hw5⟩ : ∃ w5, w5 = w4.alloc (hbox bk gb) := ⟨_, rfl⟩
  obtain ⟨kb, hkb⟩ : ∃ kb, kb = w4.heap.size := ⟨_, rfl⟩
  have hb5 : Below w3.heap.size w3 w5 := by rw [hw5]; exact hz4.alloc hz4.size _
  have HX5 := Lib.hid (HX3.out.behind hb5)
  have HY5 := Lib.hid (HY3.out.behind hb5)
  have HK5 : Hid (Hx w5 kb bk gb) := Lib.hid (by rw [hw5, hkb]; exact Hx.new w4 _ _)
  have HB5 := Lib.hid (below_trans HB3.out hb5 HB3.out.size)
  have HT5 := Lib.hid (HT3.out.behind hb5)
  have HR5 := Lib.hid (ownsRow_below HR3.out hb5)
  have HPK : Hid (p < kb) := Lib.hid (by have := HT3.out.has.lt; have := hz4.size; omega)
  go_upto_region 8 with (fail)
  rw [show w4.alloc (Obj.cells #[Value.int IntKind.i64 bk, Value.int IntKind.i64 gb] 30) = w5 from hw5.symm, ← hkb]
  clear hw5 hkb hb5 hz4 x0 x1 HX3 HY3 HB3 HT3 HR3
  obtain ⟨x0, x1⟩ := HX5.out.c2
  obtain ⟨B, hB⟩ : ∃ B, bel s.l hk = B := ⟨_, rfl⟩
  have HBE := Lib.hid hB
  go_wp2_with fail
  refine (below_place2 hk gh 41 _ w1.heap.size t p s HT5.out HS.out.1 (by omega) HS.out.2 HE.out.1 B HBE.out).mono ?_
  rintro e w6 ⟨ba, bc, rfl, hr6, hz6⟩
  have hB41 : B.length ≤ 41 := by
    rw [← hB]
    have h1 : (bel s.l hk).length ≤ (allL s.l).length := List.length_filter_le _ _
    have := allL_len s.l
    have := HS.out.1.len
    omega
  obtain ⟨M, hM⟩ : ∃ M, M = B.length := ⟨_, rfl⟩
  rw [← hM] at hr6 hB41 ⊢
  have HM := Lib.hid hM
  have HRB := Lib.hid hr6
  have HX6 := Lib.hid (HX5.out.behind hz6)
  have HY6 := Lib.hid (HY5.out.behind hz6)
  have HK6 := Lib.hid (HK5.out.behind hz6)
  have HB6 := Lib.hid (below_trans HB5.out hz6 HB5.out.size)
  have HT6 := Lib.hid (HT5.out.behind hz6)
  have HR6 := Lib.hid (ownsRow_below HR5.out hz6)
  clear hM hr6 hz6 hB x0 x1 HX5 HY5 HK5 HB5 HT5 HR5
  go_wp2_with fail
  go_loopg [15, 16] N (fun n vw vi wr => ∃ (j : Nat) (v : Value) (W : List Value), vw = v ∧ vi = .int .i64 j ∧ j ≤ N ∧ N - j ≤ n ∧ j = W.length ∧ wr.ownsRow w6.heap.size 38 1 v j W ∧ Paths wr w6.heap.size s.l T W ∧ Below w6.heap.size w6 wr)
  case atStart => exact ⟨0, _, [], rfl, rfl, by omega, by omega, rfl, World.ownsRow_nil _ _ _ _, fun i v hv => by simp at hv, Below.refl _ _⟩
  case round =>
    obtain ⟨j, v, W, rfl, rfl, hj, hgn, hjW, hrw, hpa, hbr⟩ := hrel
    have HGN := Lib.hid hgn; have HJW := Lib.hid hjW; have HRW := Lib.hid hrw; have HPA := Lib.hid hpa; have HBR := Lib.hid hbr
    clear hgn hjW hrw hpa hbr
    obtain ⟨va, vc, rfl⟩ := hrow_nil HRW.out
    by_cases hjn : j < N
    · obtain ⟨kg, hkg⟩ : ∃ kg, T[j]? = some kg := ⟨_, List.getElem?_eq_getElem (by have := HN.out; omega)⟩
      obtain ⟨k, g⟩ := kg
      have HQ := Lib.hid (And.intro (HTO.out (k, g) (List.mem_of_getElem? hkg)) hkg)
      obtain ⟨y0, y1, yl⟩ := hcl_cell (ownsRow_below HR6.out HBR.out) j k g hkg hjn
      clear hkg
      go_wp2_with fail
      refine (path_place k g 41 _ w1.heap.size t p s (HT6.out.behind HBR.out) HS.out.1 (by omega) HS.out.2 HQ.out.1).mono ?_
      rintro e w7 ⟨pa, pc, rfl, hr7, hz7⟩
      have HB7 := Lib.hid (below_trans HBR.out hz7 HBR.out.size)
      have HRW7 := Lib.hid (ownsRow_below HRW.out hz7)
      have HPA7 := Lib.hid (HPA.out.behind hz7)
      have HR7 := Lib.hid (row_base hr7 HBR.out.size)
      clear hr7 hz7 y0 y1 yl
      obtain ⟨D, hD⟩ : ∃ D, D = (pth s.l k).length := ⟨_, rfl⟩
      rw [← hD] at HR7 ⊢
      have HD := Lib.hid hD
      clear hD
      have hz7 := HB7.out.size
      go_wp2_with (at_builtin; go_loud (refine wpList_append_own _ rfl _ _ 37 rfl w6.heap.size 38 i0 (.slice none 0 0) 1 24 Try.underlying37 hi hq0 hq1 hq2 rfl (by decide) _ j W rfl (HRW7.out.alloc _) ⟨w7.heap.size, 0, none⟩ 1 1 [.slice pa D pc] rfl rfl ?c1 ?c2 ?c3 ?c4 ?c5 ?_))
      try case c1 =>
        intro jj u hj'
        have hj0 : jj = 0 := by have := (List.getElem?_eq_some_iff.1 hj').1; simp at this; omega
        subst hj0
        simp at hj'
        subst hj'
        simp [go_sem]
      case c2 => first | (intro u hu; simp at hu; subst hu; rfl) | rfl
      case c3 => unfold maxLen; omega
      case c4 => omega
      case c5 => first | omega | (simp; omega)
      intro v8 w8 hown8 hgrow8 _
      obtain ⟨a8, c8, rfl⟩ := hrow_nil hown8
      have HPA8 : Hid (Paths w8 w6.heap.size s.l T (W ++ [.slice pa D pc])) := Lib.hid (by
        have hold := ((HPA7.out.behind (below_alloc w7 (.cells #[.slice pa D pc] 38)))).keep (HRW7.out.alloc _) (by decide) hgrow8
        have hnew := row_keep (HR7.out.alloc (.cells #[.slice pa D pc] 38)) (HRW7.out.alloc _) (by decide) hgrow8
        intro i v hv
        by_cases hi : i < W.length
        · rw [List.getElem?_append_left hi] at hv
          exact hold i v hv
        · rw [List.getElem?_append_right (by omega)] at hv
          have hi0 : i - W.length = 0 := by have := (List.getElem?_eq_some_iff.1 hv).1; simpa using this
          rw [hi0] at hv
          simp at hv
          subst hv
          have hij : i = j := by have := HJW.out; omega
          rw [HD.out] at hnew ⊢
          exact ⟨pa, pc, k, g, by rw [hij]; exact HQ.out.2, rfl, hnew⟩)
      have HRW8 := Lib.hid hown8
      have HB8 := Lib.hid (Below.grown (HB7.out.alloc hz7 (.cells #[.slice pa D pc] 38)) hgrow8 (by simp; omega) (fun kk hk' => (HRW7.out.lt kk hk').1))
      clear hown8 hgrow8
      go_wp2_with fail
      go_roundg (N - (j + 1))
      case measure => have := HGN.out; omega
      case rel => exact ⟨j + 1, _, W ++ [.slice pa D pc], rfl, by go_num, by omega, Nat.le_refl _, by rw [List.length_append, ← HJW.out]; rfl, HRW8.out, HPA8.out, HB8.out⟩
    · have hjN : j = N := by omega
      have HX7 := Lib.hid (HX6.out.behind HBR.out)
      have HY7 := Lib.hid (HY6.out.behind HBR.out)
      have HK7 := Lib.hid (HK6.out.behind HBR.out)
      have HB7 := Lib.hid (below_trans HB6.out HBR.out HB6.out.size)
      have HT7 := Lib.hid (HT6.out.behind HBR.out)
      have HR7 := Lib.hid (ownsRow_below HR6.out HBR.out)
      have HRB7 := Lib.hid (ownsRow_below HRB.out HBR.out)
      have hWN : W.length = N := by rw [← HJW.out]; exact hjN
      rw [hjN] at HRW
      have HWN := Lib.hid hWN
      have HPA7 := Lib.hid HPA.out
      have HRW7 := Lib.hid HRW.out
      rw [hjN]
      clear hWN hjN HPA HRW HJW HGN HX6 HY6 HK6 HB6 HT6 HR6 HRB hj hjn
      obtain ⟨x0, x1⟩ := HX7.out.c2
      obtain ⟨y0, y1⟩ := HY7.out.c2
      have HMV := Lib.hid (move_any hk gh pk gp 41 wr w1.heap.size t p s HT7.out HS.out.1 (by omega) HS.out.2)
      have hcase : (s.movE hk gh pk gp = 0 ∧ hk ≠ 0 ∧ und s.l pk hk = false ∧ tooDeep s.l hk (mvBy s.l hk pk) = false ∧ s.mov hk gh pk gp = ⟨mvL s.l hk pk gp (mvBy s.l hk pk), s.free, s.st, s.many⟩) ∨
          (s.movE hk gh pk gp = 1 ∧ fe = 12) ∨ (s.movE hk gh pk gp ≠ 0 ∧ s.movE hk gh pk gp ≠ 1 ∧ fe = 0) := by
        obtain ⟨qh, h1, h2, h3⟩ := HE.out.1
        obtain ⟨qp, p1, p2, p3⟩ := HE.out.2
        have fh : s.find hk gh = some hk := by rw [← h3]; exact (find_of h1 h2).1
        have fp : s.find pk gp = some pk := by rw [← p3]; exact (find_of p1 p2).1
        unfold Ps.movE Ps.mov
        rw [fh, fp]
        simp only
        rcases HFE.out with ⟨e1, e2⟩ | ⟨e1, e2, _⟩
        · rw [if_pos e1]; exact .inr (.inl ⟨rfl, e2⟩)
        · rw [if_neg e1, if_neg e1]
          cases hl : und s.l pk hk
          · cases hd : tooDeep s.l hk (mvBy s.l hk pk)
            · exact .inl ⟨rfl, e1, rfl, rfl, rfl⟩
            · exact .inr (.inr ⟨by simp, by simp, e2⟩)
          · exact .inr (.inr ⟨by simp, by simp, e2⟩)
      obtain ⟨s2, hs2⟩ : ∃ s2, s2 = s.mov hk gh pk gp := ⟨_, rfl⟩
      obtain ⟨me, hme⟩ : ∃ me, me = s.movE hk gh pk gp := ⟨_, rfl⟩
      rw [← hs2, ← hme] at HMV hcase
      have HCASE := Lib.hid hcase
      have HS2 : Hid (s2.Ok 32 42 ∧ Tr s2.l) := Lib.hid (by rw [hs2]; exact ⟨HS.out.1.mov _ _ _ _, HS.out.2.mov _ _ _ _⟩)
      clear hcase hs2 hme
      go_wp2_with fail
      refine HMV.out.mono ?_
      rintro e w8 ⟨rfl, ht8, hs8⟩
      have HT8 := Lib.hid ht8
      have HX8 := Lib.hid (HX7.out.step hs8 (by have := HP.out; omega))
      have HY8 := Lib.hid (HY7.out.step hs8 (by have := HP.out; omega))
      have HK8 := Lib.hid (HK7.out.step hs8 (by have := HPK.out; omega))
      have hb01 := HP.out.2.2
      have HB8 := Lib.hid (HB7.out.trans ⟨hs8.below.os, hs8.below.tape, hs8.below.output, hs8.below.size, fun k hk => hs8.below.block k (by omega)⟩)
      have hno := HT7.out.notRow 30 (by decide)
      have HR8 := Lib.hid (ownsRow_step HR7.out hs8 (by decide) hno)
      have HRB8 := Lib.hid (ownsRow_step HRB7.out hs8 (by decide) hno)
      have HRW8 := Lib.hid (ownsRow_step HRW7.out hs8 (by decide) (HT7.out.notRow 38 (by decide)))
      have HPA8 := Lib.hid (HPA7.out.step HT7.out hs8)
      clear ht8 hs8 hno x0 x1 y0 y1 HT7 HX7 HY7 HK7 HB7 HR7 HRB7 HRW7 HPA7 HMV
      rcases HCASE.out with ⟨hme, hk0, hund, hdeep, hs2⟩ | ⟨hme, hfe⟩ | ⟨hme0, hme1, hfe⟩
      · subst hme
        obtain ⟨qh, h1, h2, h3⟩ := HE.out.1
        obtain ⟨qp, p1, p2, p3⟩ := HE.out.2
        rcases HFE.out with ⟨e1, _⟩ | ⟨_, hfe, qh', qb, g1, g2, g3, g4, g5, g6, g7⟩
        · exact absurd e1 hk0
        have hqq : qh' = qh := by rw [h1] at g1; cases g1; rfl
        subst hqq
        have hmv := mvOk_of HS.out.2 h1 h2 p1 p2 hk0 hund hdeep
        have hpt : Part s.l (mvQ hk pk qp.gen (mvBy s.l hk pk)) (belowB s.l hk) s2.l := by rw [hs2, p3]; exact part_turn _ _ _
        obtain ⟨m1, m2, m3, m4, m5, m6⟩ := mv_back hmv hpt g4 g5 g7
        have hbl : bel s2.l hk = B := by rw [mv_bel hmv hpt]; exact HBE.out
        have fh2 := find_of (s := s2) m2 h2
        have fb2 := find_of (s := s2) m1 g5
        have hgq : (mvQ hk pk qp.gen (mvBy s.l hk pk) hk qh').gen = gh := h3
        rw [hgq] at fh2
        rw [g6] at fb2
        have hE2 : s2.movE hk gh bk gb = 0 ∧ s2.mov hk gh bk gb = s := by
          unfold Ps.movE Ps.mov
          rw [fh2.1, fb2.1]
          simp only [if_neg hk0, m3, m5]
          refine ⟨rfl, ?_⟩
          rw [g6] at m6
          simp only [Bool.false_eq_true, if_false, m6]
          rw [hs2]
        have HPAR2 := Lib.hid (fun W (hW : TrX W w1.heap.size t p s2) => show Calls Try.prog 13 #[.pointer (some ⟨t, 0, none⟩), .agg #[.int .i64 hk, .int .i64 gh]] W (fun e w' => e = .returned (.tuple #[.agg #[.int .i64 pk, .int .i64 gp], .int .i64 0]) ∧ Below W.heap.size W w') from by
          have := parent_at hk (mvQ hk pk qp.gen (mvBy s.l hk pk) hk qh') 42 W w1.heap.size t p s2 hW HS2.out.1 (by omega) m2 h2 hk0 pk gp (by simp [mvQ]) (by simp [mvQ, p3])
          rwa [hgq] at this)
        have HBEL2 := Lib.hid (fun W (hW : TrX W w1.heap.size t p s2) => below_place2 hk gh 42 W w1.heap.size t p s2 hW HS2.out.1 (by omega) HS2.out.2 ⟨_, m2, h2, hgq⟩ B hbl)
        have HMV2 := Lib.hid (fun W (hW : TrX W w1.heap.size t p s2) => show Calls Try.prog 15 #[.pointer (some ⟨t, 0, none⟩), .agg #[.int .i64 hk, .int .i64 gh], .agg #[.int .i64 bk, .int .i64 gb]] W (fun e w' => e = .returned (.int .i64 0) ∧ TrX w' w1.heap.size t p s ∧ PoolStep w1.heap.size p W w') from by
          have := move_any hk gh bk gb 42 W w1.heap.size t p s2 hW HS2.out.1 (by omega) HS2.out.2
          rwa [hE2.1, hE2.2] at this)
        subst hfe
        clear h1 h2 h3 p1 p2 p3 g1 g2 g3 g4 g5 g6 g7 hmv hpt m1 m2 m3 m4 m5 m6 hbl fh2 fb2 hgq hE2 hk0 hund hdeep hs2 HCASE
        obtain ⟨x0, x1⟩ := HX8.out.c2
        go_wp2_with fail
        refine (HPAR2.out _ HT8.out).mono ?_
        rintro e w9 ⟨rfl, hz9⟩
        obtain ⟨w10, hw10⟩ : ∃ w10, w10 = w9.alloc (hbox pk gp) := ⟨_, rfl⟩
        obtain ⟨qb2, hqb2⟩ : ∃ qb2, qb2 = w9.heap.size := ⟨_, rfl⟩
        have hz10 : Below w8.heap.size w8 w10 := by rw [hw10]; exact hz9.alloc hz9.size _
        have HX10 := Lib.hid (HX8.out.behind hz10)
        have HY10 := Lib.hid (HY8.out.behind hz10)
        have HK10 := Lib.hid (HK8.out.behind hz10)
        have HQ10 : Hid (Hx w10 qb2 pk gp) := Lib.hid (by rw [hw10, hqb2]; exact Hx.new w9 _ _)
        have HB10 := Lib.hid (below_trans HB8.out hz10 HB8.out.size)
        have HT10 := Lib.hid (HT8.out.behind hz10)
        have HR10 := Lib.hid (ownsRow_below HR8.out hz10)
        have HRB10 := Lib.hid (ownsRow_below HRB8.out hz10)
        have HRW10 := Lib.hid (ownsRow_below HRW8.out hz10)
        have HPA10 := Lib.hid (HPA8.out.behind hz10)
        go_upto_region 19 with (fail)
        rw [show w9.alloc (Obj.cells #[Value.int IntKind.i64 pk, Value.int IntKind.i64 gp] 30) = w10 from hw10.symm, ← hqb2]
        clear hw10 hqb2 hz9 hz10 x0 x1 HX8 HY8 HK8 HB8 HT8 HR8 HRB8 HRW8 HPA8
        obtain ⟨x0, x1⟩ := HX10.out.c2
        obtain ⟨y0, y1⟩ := HY10.out.c2
        obtain ⟨q0, q1⟩ := HQ10.out.c2
        go_wp2_with fail
        refine (HBEL2.out _ HT10.out).mono ?_
        rintro e w11 ⟨ca, cc, rfl, hr11, hz11⟩
        have HX11 := Lib.hid (HX10.out.behind hz11)
        have HK11 := Lib.hid (HK10.out.behind hz11)
        have HB11 := Lib.hid (below_trans HB10.out hz11 HB10.out.size)
        have HT11 := Lib.hid (HT10.out.behind hz11)
        have HR11 := Lib.hid (ownsRow_below HR10.out hz11)
        have HRB11 := Lib.hid (ownsRow_below HRB10.out hz11)
        have HRW11 := Lib.hid (ownsRow_below HRW10.out hz11)
        have HPA11 := Lib.hid (HPA10.out.behind hz11)
        rw [← HM.out] at hr11 ⊢
        have HRC11 := Lib.hid hr11
        clear hr11 hz11 x0 x1 y0 y1 q0 q1 HX10 HY10 HK10 HQ10 HB10 HT10 HR10 HRB10 HRW10 HPA10
        go_wp2_with fail
        refine (rsame_eq _ _ _ M _ _ B HM.out HRC11.out HRB11.out (by omega)).mono ?_
        rintro e w12 ⟨rfl, dd, rfl⟩
        have hz12 := below_drewN (Below.refl w11.heap.size w11) dd
        have HX12 := Lib.hid (HX11.out.behind hz12)
        have HK12 := Lib.hid (HK11.out.behind hz12)
        have HB12 := Lib.hid (below_trans HB11.out hz12 HB11.out.size)
        have HT12 := Lib.hid (HT11.out.behind hz12)
        have HR12 := Lib.hid (ownsRow_below HR11.out hz12)
        have HRW12 := Lib.hid (ownsRow_below HRW11.out hz12)
        have HPA12 := Lib.hid (HPA11.out.behind hz12)
        obtain ⟨w12, hw12⟩ : ∃ w12, w12 = w11.drewN dd := ⟨_, rfl⟩
        rw [← hw12] at HX12 HK12 HB12 HT12 HR12 HRW12 HPA12 ⊢
        clear hw12 hz12 HX11 HK11 HB11 HT11 HR11 HRB11 HRW11 HPA11 HRC11
        obtain ⟨x0, x1⟩ := HX12.out.c2
        obtain ⟨k0, k1⟩ := HK12.out.c2
        go_wp2_with fail
        refine (HMV2.out _ HT12.out).mono ?_
        rintro e w13 ⟨rfl, ht13, hs13⟩
        have HT13 := Lib.hid ht13
        have HB13 := Lib.hid (HB12.out.trans ⟨hs13.below.os, hs13.below.tape, hs13.below.output, hs13.below.size, fun k hk => hs13.below.block k (by omega)⟩)
        have HR13 := Lib.hid (ownsRow_step HR12.out hs13 (by decide) (HT12.out.notRow 30 (by decide)))
        have HRW13 := Lib.hid (ownsRow_step HRW12.out hs13 (by decide) (HT12.out.notRow 38 (by decide)))
        have HPA13 := Lib.hid (HPA12.out.step HT12.out hs13)
        clear ht13 hs13 x0 x1 k0 k1 HX12 HK12 HB12 HT12 HR12 HRW12 HPA12
        go_wp2_with fail
        go_loopg [22] N (fun n vi wr => ∃ j : Nat, vi = .int .i64 j ∧ j ≤ N ∧ N - j ≤ n ∧ Below w13.heap.size w13 wr)
        case atStart => exact ⟨0, rfl, by omega, by omega, Below.refl _ _⟩
        case round =>
          obtain ⟨j, rfl, hj, hgn, hbr⟩ := hrel
          have HGN := Lib.hid hgn; have HBR := Lib.hid hbr
          clear hgn hbr
          by_cases hjn : j < N
          · obtain ⟨kg, hkg⟩ : ∃ kg, T[j]? = some kg := ⟨_, List.getElem?_eq_getElem (by have := HN.out; omega)⟩
            obtain ⟨k, g⟩ := kg
            have HQ := Lib.hid (And.intro (HTO.out (k, g) (List.mem_of_getElem? hkg)) hkg)
            obtain ⟨y0, y1, yl⟩ := hcl_cell (ownsRow_below HR13.out HBR.out) j k g hkg hjn
            clear hkg
            go_wp2_with fail
            refine (path_place k g 41 _ w1.heap.size t p s (HT13.out.behind HBR.out) HS.out.1 (by omega) HS.out.2 HQ.out.1).mono ?_
            rintro e w14 ⟨pa, pc, rfl, hr14, hz14⟩
            have HB14 := Lib.hid (below_trans HBR.out hz14 HBR.out.size)
            obtain ⟨u, hu⟩ : ∃ u, W[j]? = some u := ⟨_, List.getElem?_eq_getElem (by rw [HWN.out]; exact hjn)⟩
            obtain ⟨wa, wc, k', g', hk', rfl, hrw⟩ := (HPA13.out.behind HB14.out) j u hu
            have hkk : k' = k := by rw [HQ.out.2] at hk'; cases hk'; rfl
            subst hkk
            obtain ⟨D, hD⟩ : ∃ D, D = (pth s.l k').length := ⟨_, rfl⟩
            rw [← hD] at hr14 hrw hu ⊢
            have HD := Lib.hid hD
            have HR14 := Lib.hid hr14; have HRW14 := Lib.hid hrw
            have hww := ownsRow_below HRW13.out HB14.out
            obtain ⟨wb, rfl⟩ := hrow_some hww (by omega)
            have u0 : w14.cell? ⟨wb, j, none⟩ = some (.slice wa D wc) := by rw [hww.cellAt j (by omega)]; exact hu
            have ul := (hww.lt wb rfl).2
            have hD9 : D ≤ 100 := by
              obtain ⟨q, h1, h2, _⟩ := HQ.out.1
              rw [hD, pth_length HS.out.2 k' ⟨q, h1, h2⟩]
              have := (HS.out.2.dep0 ⟨q, h1, h2⟩).1
              omega
            clear hr14 hz14 hrw hu hk' hD hww y0 y1 yl
            go_wp2_with fail
            refine (ints_eq _ _ _ D _ _ (zs (pth s.l k')) (by rw [zs_length]; exact HD.out) HR14.out HRW14.out (by omega)).mono ?_
            rintro e w15 ⟨rfl, d2, rfl⟩
            clear u0 ul
            go_wp2_with fail
            go_roundg (N - (j + 1))
            case measure => have := HGN.out; omega
            case rel => exact ⟨j + 1, by go_num, by omega, Nat.le_refl _, below_drewN HB14.out _⟩
          · have hjN : j = N := by omega
            subst hjN
            go_wp2
            go_ret
            exact ⟨rfl, below_trans HB13.out HBR.out HB13.out.size⟩
      · subst hme
        subst hfe
        go_wp2
        go_ret
        exact ⟨rfl, HB8.out⟩
      · subst hfe
        have e1 : (me == 0) = false := beq_eq_false_iff_ne.2 hme0
        have e2 : (me == 1) = false := beq_eq_false_iff_ne.2 hme1
        have e3 : (me != 0) = true := by simpa using hme0
        clear hme0 hme1 HCASE
        go_wp2
        go_ret
        exact ⟨rfl, HB8.out⟩
end Go.Proofs.Ytnbljnpfmeidfaa
