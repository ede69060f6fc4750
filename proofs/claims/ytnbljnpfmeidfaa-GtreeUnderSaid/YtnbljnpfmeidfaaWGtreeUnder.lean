/- The walk of the law GtreeUnder: it returns true. Condition: the arguments read as a slice of bytes and three bytes. -/
import Derived.Test.YtnbljnpfmeidfaaGrown
namespace Go.Proofs.Ytnbljnpfmeidfaa
open Go Go.RowKit Go.ChangeShapes Go.WideShapes
set_option linter.unusedVariables false

theorem under_place (k j : Nat) (gk gj : Int) (b : Nat) (w : World) (base t p : Nat) (s : Ps) (h : TrX w base t p s) (ho : s.Ok 32 b) (hb : b ≤ 1000) (htr : Tr s.l)
    (hk : ∃ q, s.l[k]? = some q ∧ q.used = true ∧ q.gen = gk) (hj : ∃ q, s.l[j]? = some q ∧ q.used = true ∧ q.gen = gj) (r : Bool) (hr : und s.l k j = r) :
    Calls Try.prog 11 #[.pointer (some ⟨t, 0, none⟩), .agg #[.int .i64 k, .int .i64 gk], .agg #[.int .i64 j, .int .i64 gj]] w fun e w' => e = .returned (.bool r) ∧ Below w.heap.size w w' := by
  obtain ⟨qk, h1, h2, rfl⟩ := hk
  obtain ⟨qj, h3, h4, rfl⟩ := hj
  rw [← hr]
  exact under_yes k j qk qj b w base t p s h ho hb htr h1 h2 h3 h4
theorem below_place (k : Nat) (gk : Int) (b : Nat) (w : World) (base t p : Nat) (s : Ps) (h : TrX w base t p s) (ho : s.Ok 32 b) (hb : b ≤ 1000) (htr : Tr s.l)
    (hk : ∃ q, s.l[k]? = some q ∧ q.used = true ∧ q.gen = gk) :
    Calls Try.prog 12 #[.pointer (some ⟨t, 0, none⟩), .agg #[.int .i64 k, .int .i64 gk]] w fun e w' => ∃ a c, e = .returned (.slice a (bel s.l k).length c) ∧ w'.ownsRow w.heap.size 30 2 (.slice a (bel s.l k).length c) (bel s.l k).length (hcl (bel s.l k)) ∧ Below w.heap.size w w' := by
  obtain ⟨qk, h1, h2, rfl⟩ := hk
  have hbel : belP s k qk.gen = fun i => und s.l i k := by funext i; unfold belP; rw [(find_of h1 h2).1]
  have := below_any k qk.gen b w base t p s h ho hb htr
  rw [hbel] at this
  exact this
/-- the told handle that a byte picks -/
theorem pick {w : World} {base tt N c : Nat} {T : List (Nat × Int)} (hr : w.ownsRow base 30 2 (.slice (some ⟨tt, 0, none⟩) N c) N (hcl T)) (hN : N = T.length) (h0 : 0 < N) {s : Ps} (ht : Told s T) (n : Nat) :
    ∃ (k : Nat) (g : Int), (∃ q, s.l[k]? = some q ∧ q.used = true ∧ q.gen = g) ∧ w.cell? ⟨tt, n % N * 2, none⟩ = some (.int .i64 k) ∧ w.cell? ⟨tt, n % N * 2 + 1, none⟩ = some (.int .i64 g) ∧ tt < w.heap.size ∧ n % N < N ∧ T[n % N]? = some (k, g) := by
  have hlt : n % N < N := Nat.mod_lt _ h0
  obtain ⟨kg, hk⟩ : ∃ kg, T[n % N]? = some kg := ⟨_, List.getElem?_eq_getElem (by omega)⟩
  obtain ⟨k, g⟩ := kg
  obtain ⟨y0, y1, y2⟩ := hcl_cell hr (n % N) k g hk hlt
  exact ⟨k, g, ht (k, g) (List.mem_of_getElem? hk), y0, y1, y2, hlt, hk⟩
theorem Tr.root_ex {l : List Pl} (h : Tr l) : ∃ q, l[0]? = some q ∧ q.used = true ∧ q.gen = 0 := by
  obtain ⟨q, h1, h2, h3, _⟩ := h.root
  exact ⟨q, h1, h2, h3⟩
set_option maxHeartbeats 4000000 in
set_option maxRecDepth 100000 in
theorem walk_GtreeUnder (a : Option Addr) (len capo : Nat) (f : Nat → Nat) (n0 n1 n2 : Nat) (w : World) (h : BytesAt w a len f) (hlen : len ≤ 9223372036854775807) (hn0 : n0 ≤ 255) (hn1 : n1 ≤ 255) (hn2 : n2 ≤ 255) :
    Calls Try.prog 3 #[.slice a len capo, .agg #[.int .u8 n0, .int .u8 n1, .int .u8 n2]] w fun e w' => e = .returned (.bool true) ∧ Below w.heap.size w w' := by
  have HA := Lib.hid h
  clear h
  go_enter Try.func3, Try.ntmps3
  go_wp2_with fail
  refine (awake _).mono ?_
  rintro e w1 ⟨rfl, hz1⟩
  have HB1 := Lib.hid (below_trans (below_alloc w (.cells #[.int .u8 n0, .int .u8 n1, .int .u8 n2] 23)) hz1 (by simp))
  have h30 : (w.alloc (.cells #[.int .u8 n0, .int .u8 n1, .int .u8 n2] 23)).heap[w.heap.size]? = some (.cells #[.int .u8 n0, .int .u8 n1, .int .u8 n2] 23 (0, 0)) := heap_alloc_new w _
  have h31 : w1.heap[w.heap.size]? = some (.cells #[.int .u8 n0, .int .u8 n1, .int .u8 n2] 23 (0, 0)) := by rw [hz1.block _ (by simp)]; exact h30
  clear hz1 h30
  go_wp2_with fail
  refine (grown_any a len capo f w1 (HA.out.behind HB1.out) hlen).mono ?_
  rintro e w2 ⟨t, p, s, v, T, rfl, hg2, hz2⟩
  have h32 : w2.heap[w.heap.size]? = some (.cells #[.int .u8 n0, .int .u8 n1, .int .u8 n2] 23 (0, 0)) := by rw [hz2.block _ (Array.getElem?_eq_some_iff.1 h31).1]; exact h31
  have hb1 := HB1.out.size
  have HB2 := Lib.hid (below_trans HB1.out hz2 hb1)
  obtain ⟨ta, tc, hv⟩ := hrow_nil hg2.row
  obtain ⟨N, hN⟩ : ∃ N, N = T.length := ⟨_, rfl⟩
  have hrow := hg2.row
  rw [← hN] at hv hrow
  subst hv
  have h0 : 0 < N := by rw [hN]; exact hg2.pos
  have hN41 : N ≤ 41 := by rw [hN]; exact hg2.len
  obtain ⟨tt, rfl⟩ := hrow_some hrow h0
  obtain ⟨kx, gx, hkx, a0, a1, al, ai, _⟩ := pick hrow hN h0 hg2.told n0
  obtain ⟨ky, gy, hky, b0, b1, bl, bi, _⟩ := pick hrow hN h0 hg2.told n1
  obtain ⟨kz, gz, hkz, c0, c1, cl, ci, _⟩ := pick hrow hN h0 hg2.told n2
  have HE := Lib.hid (And.intro hkx (And.intro hky hkz))
  have HS := Lib.hid (And.intro hg2.ok hg2.tr)
  have HT2 := Lib.hid hg2.tree
  obtain ⟨ab, hab⟩ : ∃ ab, ab = w.heap.size := ⟨_, rfl⟩
  rw [← hab] at h32
  have hal := (Array.getElem?_eq_some_iff.1 h32).1
  have d0 : w2.cell? ⟨ab, 0, none⟩ = some (.int .u8 n0) := by simp [World.cell?, h32]
  have d1 : w2.cell? ⟨ab, 1, none⟩ = some (.int .u8 n1) := by simp [World.cell?, h32]
  have d2 : w2.cell? ⟨ab, 2, none⟩ = some (.int .u8 n2) := by simp [World.cell?, h32]
  have HAB := Lib.hid hab
  clear hg2 hz2 hrow hkx hky hkz h31 h32 hb1 hN
  go_upto_region 5 with (fail)
  rw [← HAB.out]
  clear hab
  go_upto_region 8 with (fail)
  obtain ⟨w3, hw3⟩ : ∃ w3, w3 = ((w2.alloc (hbox kx gx)).alloc (hbox ky gy)).alloc (hbox kz gz) := ⟨_, rfl⟩
  obtain ⟨xb, hxb⟩ : ∃ xb, xb = w2.heap.size := ⟨_, rfl⟩
  obtain ⟨yb, hyb⟩ : ∃ yb, yb = w2.heap.size + 1 := ⟨_, rfl⟩
  obtain ⟨zb, hzb⟩ : ∃ zb, zb = w2.heap.size + 1 + 1 := ⟨_, rfl⟩
  have HX : Hid (Hx w3 xb kx gx) := Lib.hid (by rw [hw3, hxb]; exact ((Hx.new w2 _ _).alloc _).alloc _)
  have HY : Hid (Hx w3 yb ky gy) := Lib.hid (by rw [hw3, hyb]; exact (Hx.new1 w2 _ _ _).alloc _)
  have HZ : Hid (Hx w3 zb kz gz) := Lib.hid (by
    rw [hw3, hzb]
    have := Hx.new1 (w2.alloc (hbox kx gx)) (hbox ky gy) kz gz
    simpa using this)
  have HB : Hid (Below w.heap.size w w3) := Lib.hid (by
    have h1 := HB2.out.size
    rw [hw3]; exact ((HB2.out.alloc h1 _).alloc (by simp; omega) _).alloc (by simp; omega) _)
  have HT : Hid (TrX w3 w1.heap.size t p s) := Lib.hid (by rw [hw3]; exact ((HT2.out.alloc _).alloc _).alloc _)
  rw [show ((w2.alloc (Obj.cells #[Value.int IntKind.i64 kx, Value.int IntKind.i64 gx] 30)).alloc (Obj.cells #[Value.int IntKind.i64 ky, Value.int IntKind.i64 gy] 30)).alloc (Obj.cells #[Value.int IntKind.i64 kz, Value.int IntKind.i64 gz] 30) = w3 from hw3.symm, ← hzb, ← hyb, ← hxb]
  clear hw3 hxb hyb hzb a0 a1 al ai b0 b1 bl bi c0 c1 cl ci d0 d1 d2 hal HT2 HB2
  obtain ⟨rxy, hrxy⟩ : ∃ r, und s.l kx ky = r := ⟨_, rfl⟩
  obtain ⟨ryx, hryx⟩ : ∃ r, und s.l ky kx = r := ⟨_, rfl⟩
  obtain ⟨ryz, hryz⟩ : ∃ r, und s.l ky kz = r := ⟨_, rfl⟩
  have HRXY := Lib.hid hrxy; have HRYX := Lib.hid hryx; have HRYZ := Lib.hid hryz
  have HXX : Hid (und s.l kx kx = true) := Lib.hid (by
    obtain ⟨q, h1, h2, _⟩ := HE.out.1
    exact decide_eq_true (way_self HS.out.2 ⟨q, h1, h2⟩))
  have HX0 : Hid (und s.l kx 0 = true) := Lib.hid (by
    obtain ⟨q, h1, h2, _⟩ := HE.out.1
    exact decide_eq_true (way_zero HS.out.2 kx ⟨q, h1, h2⟩))
  clear hrxy hryx hryz
  obtain ⟨x0, x1⟩ := HX.out.c2
  obtain ⟨y0, y1⟩ := HY.out.c2
  obtain ⟨z0, z1⟩ := HZ.out.c2
  go_wp2_with fail
  refine (under_place kx ky gx gy 41 _ _ _ _ s HT.out HS.out.1 (by omega) HS.out.2 HE.out.1 HE.out.2.1 rxy HRXY.out).mono ?_
  rintro e w4 ⟨rfl, hz⟩
  have HX' := Lib.hid (HX.out.behind hz)
  have HY' := Lib.hid (HY.out.behind hz)
  have HZ' := Lib.hid (HZ.out.behind hz)
  have HB' := Lib.hid (below_trans HB.out hz HB.out.size)
  have HT' := Lib.hid (HT.out.behind hz)
  clear HX HY HZ HB HT hz x0 x1 y0 y1 z0 z1
  have HX := HX'; have HY := HY'; have HZ := HZ'; have HB := HB'; have HT := HT'
  clear HX' HY' HZ' HB' HT'
  obtain ⟨x0, x1⟩ := HX.out.c2
  obtain ⟨y0, y1⟩ := HY.out.c2
  obtain ⟨z0, z1⟩ := HZ.out.c2
  go_wp2_with fail
  refine (under_place ky kx gy gx 41 _ _ _ _ s HT.out HS.out.1 (by omega) HS.out.2 HE.out.2.1 HE.out.1 ryx HRYX.out).mono ?_
  rintro e w4 ⟨rfl, hz⟩
  have HX' := Lib.hid (HX.out.behind hz)
  have HY' := Lib.hid (HY.out.behind hz)
  have HZ' := Lib.hid (HZ.out.behind hz)
  have HB' := Lib.hid (below_trans HB.out hz HB.out.size)
  have HT' := Lib.hid (HT.out.behind hz)
  clear HX HY HZ HB HT hz x0 x1 y0 y1 z0 z1
  have HX := HX'; have HY := HY'; have HZ := HZ'; have HB := HB'; have HT := HT'
  clear HX' HY' HZ' HB' HT'
  obtain ⟨x0, x1⟩ := HX.out.c2
  obtain ⟨y0, y1⟩ := HY.out.c2
  obtain ⟨z0, z1⟩ := HZ.out.c2
  go_wp2_with fail
  refine (under_place ky kz gy gz 41 _ _ _ _ s HT.out HS.out.1 (by omega) HS.out.2 HE.out.2.1 HE.out.2.2 ryz HRYZ.out).mono ?_
  rintro e w4 ⟨rfl, hz⟩
  have HX' := Lib.hid (HX.out.behind hz)
  have HY' := Lib.hid (HY.out.behind hz)
  have HZ' := Lib.hid (HZ.out.behind hz)
  have HB' := Lib.hid (below_trans HB.out hz HB.out.size)
  have HT' := Lib.hid (HT.out.behind hz)
  clear HX HY HZ HB HT hz x0 x1 y0 y1 z0 z1
  have HX := HX'; have HY := HY'; have HZ := HZ'; have HB := HB'; have HT := HT'
  clear HX' HY' HZ' HB' HT'
  cases rxy with
  | false =>
    obtain ⟨x0, x1⟩ := HX.out.c2
    obtain ⟨y0, y1⟩ := HY.out.c2
    obtain ⟨z0, z1⟩ := HZ.out.c2
    go_wp2_with fail
    refine (under_place kx kx gx gx 41 _ _ _ _ s HT.out HS.out.1 (by omega) HS.out.2 HE.out.1 HE.out.1 true HXX.out).mono ?_
    rintro e w4 ⟨rfl, hz⟩
    have HX' := Lib.hid (HX.out.behind hz)
    have HY' := Lib.hid (HY.out.behind hz)
    have HZ' := Lib.hid (HZ.out.behind hz)
    have HB' := Lib.hid (below_trans HB.out hz HB.out.size)
    have HT' := Lib.hid (HT.out.behind hz)
    clear HX HY HZ HB HT hz x0 x1 y0 y1 z0 z1
    have HX := HX'; have HY := HY'; have HZ := HZ'; have HB := HB'; have HT := HT'
    clear HX' HY' HZ' HB' HT'
    obtain ⟨x0, x1⟩ := HX.out.c2
    obtain ⟨y0, y1⟩ := HY.out.c2
    obtain ⟨z0, z1⟩ := HZ.out.c2
    go_wp2_with fail
    refine (under_place kx 0 gx 0 41 _ _ _ _ s HT.out HS.out.1 (by omega) HS.out.2 HE.out.1 (HS.out.2.root_ex) true HX0.out).mono ?_
    rintro e w4 ⟨rfl, hz⟩
    have HX' := Lib.hid (HX.out.behind hz)
    have HY' := Lib.hid (HY.out.behind hz)
    have HZ' := Lib.hid (HZ.out.behind hz)
    have HB' := Lib.hid (below_trans HB.out hz HB.out.size)
    have HT' := Lib.hid (HT.out.behind hz)
    clear HX HY HZ HB HT hz x0 x1 y0 y1 z0 z1
    have HX := HX'; have HY := HY'; have HZ := HZ'; have HB := HB'; have HT := HT'
    clear HX' HY' HZ' HB' HT'
    obtain ⟨x0, x1⟩ := HX.out.c2
    obtain ⟨y0, y1⟩ := HY.out.c2
    obtain ⟨z0, z1⟩ := HZ.out.c2
    go_wp2_with fail
    refine (below_place ky gy 41 _ _ _ _ s HT.out HS.out.1 (by omega) HS.out.2 HE.out.2.1).mono ?_
    rintro e w5 ⟨ba, bc, rfl, hr5, hz⟩
    have HR5 := Lib.hid hr5
    have hLM : ∀ k g, (k, g) ∈ bel s.l ky ↔ (∃ q, s.l[k]? = some q ∧ q.used = true ∧ q.gen = g) ∧ und s.l k ky = true := fun k g => selL_mem
    have HLM := Lib.hid hLM
    have hL32 : (bel s.l ky).length ≤ 41 := by
      have h1 : (bel s.l ky).length ≤ (allL s.l).length := List.length_filter_le _ _
      have := allL_len s.l
      have := HS.out.1.len
      omega
    obtain ⟨L, hL⟩ : ∃ L, L = bel s.l ky := ⟨_, rfl⟩
    rw [← hL] at HR5 HLM hL32
    rw [← hL]
    obtain ⟨M, hM⟩ : ∃ M, M = L.length := ⟨_, rfl⟩
    rw [← hM] at HR5 hL32
    rw [← hM]
    have HM := Lib.hid hM
    clear hr5 hLM hL hM
    have HX' := Lib.hid (HX.out.behind hz)
    have HY' := Lib.hid (HY.out.behind hz)
    have HZ' := Lib.hid (HZ.out.behind hz)
    have HB' := Lib.hid (below_trans HB.out hz HB.out.size)
    have HT' := Lib.hid (HT.out.behind hz)
    clear HX HY HZ HB HT hz x0 x1 y0 y1 z0 z1
    have HX := HX'; have HY := HY'; have HZ := HZ'; have HB := HB'; have HT := HT'
    clear HX' HY' HZ' HB' HT'
    go_wp2_with fail
    go_loopg [15, 16] M (fun n vf vi wr => ∃ (j : Nat) (fd : Bool), vf = .bool fd ∧ vi = .int .i64 j ∧ j ≤ M ∧ M - j ≤ n ∧ fd = decide ((kx, gx) ∈ L.take j) ∧ Below w5.heap.size w5 wr)
    case atStart => exact ⟨0, false, rfl, rfl, by omega, by omega, by simp, Below.refl _ _⟩
    case round =>
      obtain ⟨j, fd, rfl, rfl, hj, hgn, hfd, hbr⟩ := hrel
      have HFD := Lib.hid hfd; have HBR := Lib.hid hbr; have HGN := Lib.hid hgn
      clear hfd hbr hgn
      have HXr := Lib.hid (HX.out.behind HBR.out)
      by_cases hjm : j < M
      · obtain ⟨kg, hkg⟩ : ∃ kg, L[j]? = some kg := ⟨_, List.getElem?_eq_getElem (by have := HM.out; omega)⟩
        obtain ⟨k, g⟩ := kg
        obtain ⟨tb, rfl⟩ := hrow_some HR5.out (by omega)
        obtain ⟨y0, y1, yl⟩ := hcl_cell (ownsRow_below HR5.out HBR.out) j k g hkg hjm
        obtain ⟨x0, x1⟩ := HXr.out.c2
        have hst : decide ((kx, gx) ∈ L.take (j + 1)) = (decide ((kx, gx) ∈ L.take j) || decide ((kx, gx) = (k, g))) := by
          have hl : j < L.length := (List.getElem?_eq_some_iff.1 hkg).1
          have e : L[j] = (k, g) := by have := List.getElem?_eq_getElem hl; rw [hkg] at this; simpa using this.symm
          rw [← List.take_append_getElem hl, e]
          simp [Bool.decide_or]
        rw [← HFD.out] at hst
        have hgens : k = kx → g = gx := by
          rintro rfl
          obtain ⟨⟨q, h1, h2, h3⟩, _⟩ := (HLM.out k g).1 (List.mem_of_getElem? hkg)
          obtain ⟨q', h4, h5, h6⟩ := HE.out.1
          rw [h1] at h4
          cases h4
          rw [← h3, h6]
        have HST := Lib.hid hst
        clear hst
        cases fd with
        | true =>
          clear hkg hgens
          go_wp2_with fail
          go_quiet (fail)
          go_wp2_with fail
          go_roundg (M - (j + 1))
          case measure => have := HGN.out; omega
          case rel => exact ⟨j + 1, true, rfl, by go_num, by omega, Nat.le_refl _, by rw [HST.out]; rfl, below_drewN HBR.out _⟩
        | false =>
          by_cases hk : k = kx
          · have hg := hgens hk
            subst hk
            subst hg
            clear hkg hgens
            go_wp2_with fail
            go_quiet (fail)
            go_wp2_with fail
            go_roundg (M - (j + 1))
            case measure => have := HGN.out; omega
            case rel => exact ⟨j + 1, true, rfl, by go_num, by omega, Nat.le_refl _, by rw [HST.out]; simp, below_drewN HBR.out _⟩
          · have hkb : ((k : Int) == (kx : Int)) = false := beq_eq_false_iff_ne.2 (by omega)
            have HK := Lib.hid hk
            clear hkg hgens hk
            go_wp2_with fail
            go_quiet (fail)
            go_wp2_with fail
            go_roundg (M - (j + 1))
            case measure => have := HGN.out; omega
            case rel => exact ⟨j + 1, false, rfl, by go_num, by omega, Nat.le_refl _, by rw [HST.out]; simp; intro h; exact absurd h.symm HK.out, below_drewN HBR.out _⟩
      · have hjm' : j = M := by omega
        have hf : fd = false := by
          rw [HFD.out, hjm', HM.out, List.take_length]
          exact decide_eq_false (fun hm => by have := ((HLM.out kx gx).1 hm).2; rw [HRXY.out] at this; cases this)
        subst hf
        go_wp2
        go_ret
        exact ⟨rfl, below_trans HB.out HBR.out HB.out.size⟩
  | true =>
    cases ryx with
    | true =>
      have hkk : kx = ky := by
        obtain ⟨q1, h1, h2, _⟩ := HE.out.1
        obtain ⟨q2, h3, h4, _⟩ := HE.out.2.1
        exact way_anti HS.out.2 ⟨q1, h1, h2⟩ ⟨q2, h3, h4⟩ (of_decide_eq_true HRYX.out) (of_decide_eq_true HRXY.out)
      have hgg : gx = gy := by
        obtain ⟨q1, h1, h2, h5⟩ := HE.out.1
        obtain ⟨q2, h3, h4, h6⟩ := HE.out.2.1
        rw [hkk, h3] at h1
        cases h1
        rw [← h5, h6]
      subst hkk
      subst hgg
      cases ryz with
      | true =>
        have HXZ : Hid (und s.l kx kz = true) := Lib.hid (by
          obtain ⟨q1, h1, h2, _⟩ := HE.out.1
          exact decide_eq_true (way_trans HS.out.2 kx ⟨q1, h1, h2⟩ kx (of_decide_eq_true HRXY.out) kz (of_decide_eq_true HRYZ.out)))
        obtain ⟨x0, x1⟩ := HX.out.c2
        obtain ⟨y0, y1⟩ := HY.out.c2
        obtain ⟨z0, z1⟩ := HZ.out.c2
        go_wp2_with fail
        refine (under_place kx kx gx gx 41 _ _ _ _ s HT.out HS.out.1 (by omega) HS.out.2 HE.out.1 HE.out.1 true HXX.out).mono ?_
        rintro e w4 ⟨rfl, hz⟩
        have HX' := Lib.hid (HX.out.behind hz)
        have HY' := Lib.hid (HY.out.behind hz)
        have HZ' := Lib.hid (HZ.out.behind hz)
        have HB' := Lib.hid (below_trans HB.out hz HB.out.size)
        have HT' := Lib.hid (HT.out.behind hz)
        clear HX HY HZ HB HT hz x0 x1 y0 y1 z0 z1
        have HX := HX'; have HY := HY'; have HZ := HZ'; have HB := HB'; have HT := HT'
        clear HX' HY' HZ' HB' HT'
        obtain ⟨x0, x1⟩ := HX.out.c2
        obtain ⟨y0, y1⟩ := HY.out.c2
        obtain ⟨z0, z1⟩ := HZ.out.c2
        go_wp2_with fail
        refine (under_place kx 0 gx 0 41 _ _ _ _ s HT.out HS.out.1 (by omega) HS.out.2 HE.out.1 (HS.out.2.root_ex) true HX0.out).mono ?_
        rintro e w4 ⟨rfl, hz⟩
        have HX' := Lib.hid (HX.out.behind hz)
        have HY' := Lib.hid (HY.out.behind hz)
        have HZ' := Lib.hid (HZ.out.behind hz)
        have HB' := Lib.hid (below_trans HB.out hz HB.out.size)
        have HT' := Lib.hid (HT.out.behind hz)
        clear HX HY HZ HB HT hz x0 x1 y0 y1 z0 z1
        have HX := HX'; have HY := HY'; have HZ := HZ'; have HB := HB'; have HT := HT'
        clear HX' HY' HZ' HB' HT'
        obtain ⟨x0, x1⟩ := HX.out.c2
        obtain ⟨y0, y1⟩ := HY.out.c2
        obtain ⟨z0, z1⟩ := HZ.out.c2
        go_wp2_with fail
        refine (under_place kx kz gx gz 41 _ _ _ _ s HT.out HS.out.1 (by omega) HS.out.2 HE.out.1 HE.out.2.2 true HXZ.out).mono ?_
        rintro e w4 ⟨rfl, hz⟩
        have HX' := Lib.hid (HX.out.behind hz)
        have HY' := Lib.hid (HY.out.behind hz)
        have HZ' := Lib.hid (HZ.out.behind hz)
        have HB' := Lib.hid (below_trans HB.out hz HB.out.size)
        have HT' := Lib.hid (HT.out.behind hz)
        clear HX HY HZ HB HT hz x0 x1 y0 y1 z0 z1
        have HX := HX'; have HY := HY'; have HZ := HZ'; have HB := HB'; have HT := HT'
        clear HX' HY' HZ' HB' HT'
        obtain ⟨x0, x1⟩ := HX.out.c2
        obtain ⟨y0, y1⟩ := HY.out.c2
        obtain ⟨z0, z1⟩ := HZ.out.c2
        go_wp2_with fail
        refine (below_place kx gx 41 _ _ _ _ s HT.out HS.out.1 (by omega) HS.out.2 HE.out.2.1).mono ?_
        rintro e w5 ⟨ba, bc, rfl, hr5, hz⟩
        have HR5 := Lib.hid hr5
        have hLM : ∀ k g, (k, g) ∈ bel s.l kx ↔ (∃ q, s.l[k]? = some q ∧ q.used = true ∧ q.gen = g) ∧ und s.l k kx = true := fun k g => selL_mem
        have HLM := Lib.hid hLM
        have hL32 : (bel s.l kx).length ≤ 41 := by
          have h1 : (bel s.l kx).length ≤ (allL s.l).length := List.length_filter_le _ _
          have := allL_len s.l
          have := HS.out.1.len
          omega
        obtain ⟨L, hL⟩ : ∃ L, L = bel s.l kx := ⟨_, rfl⟩
        rw [← hL] at HR5 HLM hL32
        rw [← hL]
        obtain ⟨M, hM⟩ : ∃ M, M = L.length := ⟨_, rfl⟩
        rw [← hM] at HR5 hL32
        rw [← hM]
        have HM := Lib.hid hM
        clear hr5 hLM hL hM
        have HX' := Lib.hid (HX.out.behind hz)
        have HY' := Lib.hid (HY.out.behind hz)
        have HZ' := Lib.hid (HZ.out.behind hz)
        have HB' := Lib.hid (below_trans HB.out hz HB.out.size)
        have HT' := Lib.hid (HT.out.behind hz)
        clear HX HY HZ HB HT hz x0 x1 y0 y1 z0 z1
        have HX := HX'; have HY := HY'; have HZ := HZ'; have HB := HB'; have HT := HT'
        clear HX' HY' HZ' HB' HT'
        go_wp2_with fail
        go_loopg [15, 16] M (fun n vf vi wr => ∃ (j : Nat) (fd : Bool), vf = .bool fd ∧ vi = .int .i64 j ∧ j ≤ M ∧ M - j ≤ n ∧ fd = decide ((kx, gx) ∈ L.take j) ∧ Below w5.heap.size w5 wr)
        case atStart => exact ⟨0, false, rfl, rfl, by omega, by omega, by simp, Below.refl _ _⟩
        case round =>
          obtain ⟨j, fd, rfl, rfl, hj, hgn, hfd, hbr⟩ := hrel
          have HFD := Lib.hid hfd; have HBR := Lib.hid hbr; have HGN := Lib.hid hgn
          clear hfd hbr hgn
          have HXr := Lib.hid (HX.out.behind HBR.out)
          by_cases hjm : j < M
          · obtain ⟨kg, hkg⟩ : ∃ kg, L[j]? = some kg := ⟨_, List.getElem?_eq_getElem (by have := HM.out; omega)⟩
            obtain ⟨k, g⟩ := kg
            obtain ⟨tb, rfl⟩ := hrow_some HR5.out (by omega)
            obtain ⟨y0, y1, yl⟩ := hcl_cell (ownsRow_below HR5.out HBR.out) j k g hkg hjm
            obtain ⟨x0, x1⟩ := HXr.out.c2
            have hst : decide ((kx, gx) ∈ L.take (j + 1)) = (decide ((kx, gx) ∈ L.take j) || decide ((kx, gx) = (k, g))) := by
              have hl : j < L.length := (List.getElem?_eq_some_iff.1 hkg).1
              have e : L[j] = (k, g) := by have := List.getElem?_eq_getElem hl; rw [hkg] at this; simpa using this.symm
              rw [← List.take_append_getElem hl, e]
              simp [Bool.decide_or]
            rw [← HFD.out] at hst
            have hgens : k = kx → g = gx := by
              rintro rfl
              obtain ⟨⟨q, h1, h2, h3⟩, _⟩ := (HLM.out k g).1 (List.mem_of_getElem? hkg)
              obtain ⟨q', h4, h5, h6⟩ := HE.out.1
              rw [h1] at h4
              cases h4
              rw [← h3, h6]
            have HST := Lib.hid hst
            clear hst
            cases fd with
            | true =>
              clear hkg hgens
              go_wp2_with fail
              go_quiet (fail)
              go_wp2_with fail
              go_roundg (M - (j + 1))
              case measure => have := HGN.out; omega
              case rel => exact ⟨j + 1, true, rfl, by go_num, by omega, Nat.le_refl _, by rw [HST.out]; rfl, below_drewN HBR.out _⟩
            | false =>
              by_cases hk : k = kx
              · have hg := hgens hk
                subst hk
                subst hg
                clear hkg hgens
                go_wp2_with fail
                go_quiet (fail)
                go_wp2_with fail
                go_roundg (M - (j + 1))
                case measure => have := HGN.out; omega
                case rel => exact ⟨j + 1, true, rfl, by go_num, by omega, Nat.le_refl _, by rw [HST.out]; simp, below_drewN HBR.out _⟩
              · have hkb : ((k : Int) == (kx : Int)) = false := beq_eq_false_iff_ne.2 (by omega)
                have HK := Lib.hid hk
                clear hkg hgens hk
                go_wp2_with fail
                go_quiet (fail)
                go_wp2_with fail
                go_roundg (M - (j + 1))
                case measure => have := HGN.out; omega
                case rel => exact ⟨j + 1, false, rfl, by go_num, by omega, Nat.le_refl _, by rw [HST.out]; simp; intro h; exact absurd h.symm HK.out, below_drewN HBR.out _⟩
          · have hjm' : j = M := by omega
            have hf : fd = true := by
              rw [HFD.out, hjm', HM.out, List.take_length]
              exact decide_eq_true ((HLM.out kx gx).2 ⟨HE.out.1, HRXY.out⟩)
            subst hf
            go_wp2
            go_ret
            exact ⟨rfl, below_trans HB.out HBR.out HB.out.size⟩
      | false =>
        obtain ⟨x0, x1⟩ := HX.out.c2
        obtain ⟨y0, y1⟩ := HY.out.c2
        obtain ⟨z0, z1⟩ := HZ.out.c2
        go_wp2_with fail
        refine (under_place kx kx gx gx 41 _ _ _ _ s HT.out HS.out.1 (by omega) HS.out.2 HE.out.1 HE.out.1 true HXX.out).mono ?_
        rintro e w4 ⟨rfl, hz⟩
        have HX' := Lib.hid (HX.out.behind hz)
        have HY' := Lib.hid (HY.out.behind hz)
        have HZ' := Lib.hid (HZ.out.behind hz)
        have HB' := Lib.hid (below_trans HB.out hz HB.out.size)
        have HT' := Lib.hid (HT.out.behind hz)
        clear HX HY HZ HB HT hz x0 x1 y0 y1 z0 z1
        have HX := HX'; have HY := HY'; have HZ := HZ'; have HB := HB'; have HT := HT'
        clear HX' HY' HZ' HB' HT'
        obtain ⟨x0, x1⟩ := HX.out.c2
        obtain ⟨y0, y1⟩ := HY.out.c2
        obtain ⟨z0, z1⟩ := HZ.out.c2
        go_wp2_with fail
        refine (under_place kx 0 gx 0 41 _ _ _ _ s HT.out HS.out.1 (by omega) HS.out.2 HE.out.1 (HS.out.2.root_ex) true HX0.out).mono ?_
        rintro e w4 ⟨rfl, hz⟩
        have HX' := Lib.hid (HX.out.behind hz)
        have HY' := Lib.hid (HY.out.behind hz)
        have HZ' := Lib.hid (HZ.out.behind hz)
        have HB' := Lib.hid (below_trans HB.out hz HB.out.size)
        have HT' := Lib.hid (HT.out.behind hz)
        clear HX HY HZ HB HT hz x0 x1 y0 y1 z0 z1
        have HX := HX'; have HY := HY'; have HZ := HZ'; have HB := HB'; have HT := HT'
        clear HX' HY' HZ' HB' HT'
        obtain ⟨x0, x1⟩ := HX.out.c2
        obtain ⟨y0, y1⟩ := HY.out.c2
        obtain ⟨z0, z1⟩ := HZ.out.c2
        go_wp2_with fail
        refine (below_place kx gx 41 _ _ _ _ s HT.out HS.out.1 (by omega) HS.out.2 HE.out.2.1).mono ?_
        rintro e w5 ⟨ba, bc, rfl, hr5, hz⟩
        have HR5 := Lib.hid hr5
        have hLM : ∀ k g, (k, g) ∈ bel s.l kx ↔ (∃ q, s.l[k]? = some q ∧ q.used = true ∧ q.gen = g) ∧ und s.l k kx = true := fun k g => selL_mem
        have HLM := Lib.hid hLM
        have hL32 : (bel s.l kx).length ≤ 41 := by
          have h1 : (bel s.l kx).length ≤ (allL s.l).length := List.length_filter_le _ _
          have := allL_len s.l
          have := HS.out.1.len
          omega
        obtain ⟨L, hL⟩ : ∃ L, L = bel s.l kx := ⟨_, rfl⟩
        rw [← hL] at HR5 HLM hL32
        rw [← hL]
        obtain ⟨M, hM⟩ : ∃ M, M = L.length := ⟨_, rfl⟩
        rw [← hM] at HR5 hL32
        rw [← hM]
        have HM := Lib.hid hM
        clear hr5 hLM hL hM
        have HX' := Lib.hid (HX.out.behind hz)
        have HY' := Lib.hid (HY.out.behind hz)
        have HZ' := Lib.hid (HZ.out.behind hz)
        have HB' := Lib.hid (below_trans HB.out hz HB.out.size)
        have HT' := Lib.hid (HT.out.behind hz)
        clear HX HY HZ HB HT hz x0 x1 y0 y1 z0 z1
        have HX := HX'; have HY := HY'; have HZ := HZ'; have HB := HB'; have HT := HT'
        clear HX' HY' HZ' HB' HT'
        go_wp2_with fail
        go_loopg [15, 16] M (fun n vf vi wr => ∃ (j : Nat) (fd : Bool), vf = .bool fd ∧ vi = .int .i64 j ∧ j ≤ M ∧ M - j ≤ n ∧ fd = decide ((kx, gx) ∈ L.take j) ∧ Below w5.heap.size w5 wr)
        case atStart => exact ⟨0, false, rfl, rfl, by omega, by omega, by simp, Below.refl _ _⟩
        case round =>
          obtain ⟨j, fd, rfl, rfl, hj, hgn, hfd, hbr⟩ := hrel
          have HFD := Lib.hid hfd; have HBR := Lib.hid hbr; have HGN := Lib.hid hgn
          clear hfd hbr hgn
          have HXr := Lib.hid (HX.out.behind HBR.out)
          by_cases hjm : j < M
          · obtain ⟨kg, hkg⟩ : ∃ kg, L[j]? = some kg := ⟨_, List.getElem?_eq_getElem (by have := HM.out; omega)⟩
            obtain ⟨k, g⟩ := kg
            obtain ⟨tb, rfl⟩ := hrow_some HR5.out (by omega)
            obtain ⟨y0, y1, yl⟩ := hcl_cell (ownsRow_below HR5.out HBR.out) j k g hkg hjm
            obtain ⟨x0, x1⟩ := HXr.out.c2
            have hst : decide ((kx, gx) ∈ L.take (j + 1)) = (decide ((kx, gx) ∈ L.take j) || decide ((kx, gx) = (k, g))) := by
              have hl : j < L.length := (List.getElem?_eq_some_iff.1 hkg).1
              have e : L[j] = (k, g) := by have := List.getElem?_eq_getElem hl; rw [hkg] at this; simpa using this.symm
              rw [← List.take_append_getElem hl, e]
              simp [Bool.decide_or]
            rw [← HFD.out] at hst
            have hgens : k = kx → g = gx := by
              rintro rfl
              obtain ⟨⟨q, h1, h2, h3⟩, _⟩ := (HLM.out k g).1 (List.mem_of_getElem? hkg)
              obtain ⟨q', h4, h5, h6⟩ := HE.out.1
              rw [h1] at h4
              cases h4
              rw [← h3, h6]
            have HST := Lib.hid hst
            clear hst
            cases fd with
            | true =>
              clear hkg hgens
              go_wp2_with fail
              go_quiet (fail)
              go_wp2_with fail
              go_roundg (M - (j + 1))
              case measure => have := HGN.out; omega
              case rel => exact ⟨j + 1, true, rfl, by go_num, by omega, Nat.le_refl _, by rw [HST.out]; rfl, below_drewN HBR.out _⟩
            | false =>
              by_cases hk : k = kx
              · have hg := hgens hk
                subst hk
                subst hg
                clear hkg hgens
                go_wp2_with fail
                go_quiet (fail)
                go_wp2_with fail
                go_roundg (M - (j + 1))
                case measure => have := HGN.out; omega
                case rel => exact ⟨j + 1, true, rfl, by go_num, by omega, Nat.le_refl _, by rw [HST.out]; simp, below_drewN HBR.out _⟩
              · have hkb : ((k : Int) == (kx : Int)) = false := beq_eq_false_iff_ne.2 (by omega)
                have HK := Lib.hid hk
                clear hkg hgens hk
                go_wp2_with fail
                go_quiet (fail)
                go_wp2_with fail
                go_roundg (M - (j + 1))
                case measure => have := HGN.out; omega
                case rel => exact ⟨j + 1, false, rfl, by go_num, by omega, Nat.le_refl _, by rw [HST.out]; simp; intro h; exact absurd h.symm HK.out, below_drewN HBR.out _⟩
          · have hjm' : j = M := by omega
            have hf : fd = true := by
              rw [HFD.out, hjm', HM.out, List.take_length]
              exact decide_eq_true ((HLM.out kx gx).2 ⟨HE.out.1, HRXY.out⟩)
            subst hf
            go_wp2
            go_ret
            exact ⟨rfl, below_trans HB.out HBR.out HB.out.size⟩
    | false =>
      cases ryz with
      | true =>
        have HXZ : Hid (und s.l kx kz = true) := Lib.hid (by
          obtain ⟨q1, h1, h2, _⟩ := HE.out.1
          exact decide_eq_true (way_trans HS.out.2 kx ⟨q1, h1, h2⟩ ky (of_decide_eq_true HRXY.out) kz (of_decide_eq_true HRYZ.out)))
        obtain ⟨x0, x1⟩ := HX.out.c2
        obtain ⟨y0, y1⟩ := HY.out.c2
        obtain ⟨z0, z1⟩ := HZ.out.c2
        go_wp2_with fail
        refine (under_place kx kx gx gx 41 _ _ _ _ s HT.out HS.out.1 (by omega) HS.out.2 HE.out.1 HE.out.1 true HXX.out).mono ?_
        rintro e w4 ⟨rfl, hz⟩
        have HX' := Lib.hid (HX.out.behind hz)
        have HY' := Lib.hid (HY.out.behind hz)
        have HZ' := Lib.hid (HZ.out.behind hz)
        have HB' := Lib.hid (below_trans HB.out hz HB.out.size)
        have HT' := Lib.hid (HT.out.behind hz)
        clear HX HY HZ HB HT hz x0 x1 y0 y1 z0 z1
        have HX := HX'; have HY := HY'; have HZ := HZ'; have HB := HB'; have HT := HT'
        clear HX' HY' HZ' HB' HT'
        obtain ⟨x0, x1⟩ := HX.out.c2
        obtain ⟨y0, y1⟩ := HY.out.c2
        obtain ⟨z0, z1⟩ := HZ.out.c2
        go_wp2_with fail
        refine (under_place kx 0 gx 0 41 _ _ _ _ s HT.out HS.out.1 (by omega) HS.out.2 HE.out.1 (HS.out.2.root_ex) true HX0.out).mono ?_
        rintro e w4 ⟨rfl, hz⟩
        have HX' := Lib.hid (HX.out.behind hz)
        have HY' := Lib.hid (HY.out.behind hz)
        have HZ' := Lib.hid (HZ.out.behind hz)
        have HB' := Lib.hid (below_trans HB.out hz HB.out.size)
        have HT' := Lib.hid (HT.out.behind hz)
        clear HX HY HZ HB HT hz x0 x1 y0 y1 z0 z1
        have HX := HX'; have HY := HY'; have HZ := HZ'; have HB := HB'; have HT := HT'
        clear HX' HY' HZ' HB' HT'
        obtain ⟨x0, x1⟩ := HX.out.c2
        obtain ⟨y0, y1⟩ := HY.out.c2
        obtain ⟨z0, z1⟩ := HZ.out.c2
        go_wp2_with fail
        refine (under_place kx kz gx gz 41 _ _ _ _ s HT.out HS.out.1 (by omega) HS.out.2 HE.out.1 HE.out.2.2 true HXZ.out).mono ?_
        rintro e w4 ⟨rfl, hz⟩
        have HX' := Lib.hid (HX.out.behind hz)
        have HY' := Lib.hid (HY.out.behind hz)
        have HZ' := Lib.hid (HZ.out.behind hz)
        have HB' := Lib.hid (below_trans HB.out hz HB.out.size)
        have HT' := Lib.hid (HT.out.behind hz)
        clear HX HY HZ HB HT hz x0 x1 y0 y1 z0 z1
        have HX := HX'; have HY := HY'; have HZ := HZ'; have HB := HB'; have HT := HT'
        clear HX' HY' HZ' HB' HT'
        obtain ⟨x0, x1⟩ := HX.out.c2
        obtain ⟨y0, y1⟩ := HY.out.c2
        obtain ⟨z0, z1⟩ := HZ.out.c2
        go_wp2_with fail
        refine (below_place ky gy 41 _ _ _ _ s HT.out HS.out.1 (by omega) HS.out.2 HE.out.2.1).mono ?_
        rintro e w5 ⟨ba, bc, rfl, hr5, hz⟩
        have HR5 := Lib.hid hr5
        have hLM : ∀ k g, (k, g) ∈ bel s.l ky ↔ (∃ q, s.l[k]? = some q ∧ q.used = true ∧ q.gen = g) ∧ und s.l k ky = true := fun k g => selL_mem
        have HLM := Lib.hid hLM
        have hL32 : (bel s.l ky).length ≤ 41 := by
          have h1 : (bel s.l ky).length ≤ (allL s.l).length := List.length_filter_le _ _
          have := allL_len s.l
          have := HS.out.1.len
          omega
        obtain ⟨L, hL⟩ : ∃ L, L = bel s.l ky := ⟨_, rfl⟩
        rw [← hL] at HR5 HLM hL32
        rw [← hL]
        obtain ⟨M, hM⟩ : ∃ M, M = L.length := ⟨_, rfl⟩
        rw [← hM] at HR5 hL32
        rw [← hM]
        have HM := Lib.hid hM
        clear hr5 hLM hL hM
        have HX' := Lib.hid (HX.out.behind hz)
        have HY' := Lib.hid (HY.out.behind hz)
        have HZ' := Lib.hid (HZ.out.behind hz)
        have HB' := Lib.hid (below_trans HB.out hz HB.out.size)
        have HT' := Lib.hid (HT.out.behind hz)
        clear HX HY HZ HB HT hz x0 x1 y0 y1 z0 z1
        have HX := HX'; have HY := HY'; have HZ := HZ'; have HB := HB'; have HT := HT'
        clear HX' HY' HZ' HB' HT'
        go_wp2_with fail
        go_loopg [15, 16] M (fun n vf vi wr => ∃ (j : Nat) (fd : Bool), vf = .bool fd ∧ vi = .int .i64 j ∧ j ≤ M ∧ M - j ≤ n ∧ fd = decide ((kx, gx) ∈ L.take j) ∧ Below w5.heap.size w5 wr)
        case atStart => exact ⟨0, false, rfl, rfl, by omega, by omega, by simp, Below.refl _ _⟩
        case round =>
          obtain ⟨j, fd, rfl, rfl, hj, hgn, hfd, hbr⟩ := hrel
          have HFD := Lib.hid hfd; have HBR := Lib.hid hbr; have HGN := Lib.hid hgn
          clear hfd hbr hgn
          have HXr := Lib.hid (HX.out.behind HBR.out)
          by_cases hjm : j < M
          · obtain ⟨kg, hkg⟩ : ∃ kg, L[j]? = some kg := ⟨_, List.getElem?_eq_getElem (by have := HM.out; omega)⟩
            obtain ⟨k, g⟩ := kg
            obtain ⟨tb, rfl⟩ := hrow_some HR5.out (by omega)
            obtain ⟨y0, y1, yl⟩ := hcl_cell (ownsRow_below HR5.out HBR.out) j k g hkg hjm
            obtain ⟨x0, x1⟩ := HXr.out.c2
            have hst : decide ((kx, gx) ∈ L.take (j + 1)) = (decide ((kx, gx) ∈ L.take j) || decide ((kx, gx) = (k, g))) := by
              have hl : j < L.length := (List.getElem?_eq_some_iff.1 hkg).1
              have e : L[j] = (k, g) := by have := List.getElem?_eq_getElem hl; rw [hkg] at this; simpa using this.symm
              rw [← List.take_append_getElem hl, e]
              simp [Bool.decide_or]
            rw [← HFD.out] at hst
            have hgens : k = kx → g = gx := by
              rintro rfl
              obtain ⟨⟨q, h1, h2, h3⟩, _⟩ := (HLM.out k g).1 (List.mem_of_getElem? hkg)
              obtain ⟨q', h4, h5, h6⟩ := HE.out.1
              rw [h1] at h4
              cases h4
              rw [← h3, h6]
            have HST := Lib.hid hst
            clear hst
            cases fd with
            | true =>
              clear hkg hgens
              go_wp2_with fail
              go_quiet (fail)
              go_wp2_with fail
              go_roundg (M - (j + 1))
              case measure => have := HGN.out; omega
              case rel => exact ⟨j + 1, true, rfl, by go_num, by omega, Nat.le_refl _, by rw [HST.out]; rfl, below_drewN HBR.out _⟩
            | false =>
              by_cases hk : k = kx
              · have hg := hgens hk
                subst hk
                subst hg
                clear hkg hgens
                go_wp2_with fail
                go_quiet (fail)
                go_wp2_with fail
                go_roundg (M - (j + 1))
                case measure => have := HGN.out; omega
                case rel => exact ⟨j + 1, true, rfl, by go_num, by omega, Nat.le_refl _, by rw [HST.out]; simp, below_drewN HBR.out _⟩
              · have hkb : ((k : Int) == (kx : Int)) = false := beq_eq_false_iff_ne.2 (by omega)
                have HK := Lib.hid hk
                clear hkg hgens hk
                go_wp2_with fail
                go_quiet (fail)
                go_wp2_with fail
                go_roundg (M - (j + 1))
                case measure => have := HGN.out; omega
                case rel => exact ⟨j + 1, false, rfl, by go_num, by omega, Nat.le_refl _, by rw [HST.out]; simp; intro h; exact absurd h.symm HK.out, below_drewN HBR.out _⟩
          · have hjm' : j = M := by omega
            have hf : fd = true := by
              rw [HFD.out, hjm', HM.out, List.take_length]
              exact decide_eq_true ((HLM.out kx gx).2 ⟨HE.out.1, HRXY.out⟩)
            subst hf
            go_wp2
            go_ret
            exact ⟨rfl, below_trans HB.out HBR.out HB.out.size⟩
      | false =>
        obtain ⟨x0, x1⟩ := HX.out.c2
        obtain ⟨y0, y1⟩ := HY.out.c2
        obtain ⟨z0, z1⟩ := HZ.out.c2
        go_wp2_with fail
        refine (under_place kx kx gx gx 41 _ _ _ _ s HT.out HS.out.1 (by omega) HS.out.2 HE.out.1 HE.out.1 true HXX.out).mono ?_
        rintro e w4 ⟨rfl, hz⟩
        have HX' := Lib.hid (HX.out.behind hz)
        have HY' := Lib.hid (HY.out.behind hz)
        have HZ' := Lib.hid (HZ.out.behind hz)
        have HB' := Lib.hid (below_trans HB.out hz HB.out.size)
        have HT' := Lib.hid (HT.out.behind hz)
        clear HX HY HZ HB HT hz x0 x1 y0 y1 z0 z1
        have HX := HX'; have HY := HY'; have HZ := HZ'; have HB := HB'; have HT := HT'
        clear HX' HY' HZ' HB' HT'
        obtain ⟨x0, x1⟩ := HX.out.c2
        obtain ⟨y0, y1⟩ := HY.out.c2
        obtain ⟨z0, z1⟩ := HZ.out.c2
        go_wp2_with fail
        refine (under_place kx 0 gx 0 41 _ _ _ _ s HT.out HS.out.1 (by omega) HS.out.2 HE.out.1 (HS.out.2.root_ex) true HX0.out).mono ?_
        rintro e w4 ⟨rfl, hz⟩
        have HX' := Lib.hid (HX.out.behind hz)
        have HY' := Lib.hid (HY.out.behind hz)
        have HZ' := Lib.hid (HZ.out.behind hz)
        have HB' := Lib.hid (below_trans HB.out hz HB.out.size)
        have HT' := Lib.hid (HT.out.behind hz)
        clear HX HY HZ HB HT hz x0 x1 y0 y1 z0 z1
        have HX := HX'; have HY := HY'; have HZ := HZ'; have HB := HB'; have HT := HT'
        clear HX' HY' HZ' HB' HT'
        obtain ⟨x0, x1⟩ := HX.out.c2
        obtain ⟨y0, y1⟩ := HY.out.c2
        obtain ⟨z0, z1⟩ := HZ.out.c2
        go_wp2_with fail
        refine (below_place ky gy 41 _ _ _ _ s HT.out HS.out.1 (by omega) HS.out.2 HE.out.2.1).mono ?_
        rintro e w5 ⟨ba, bc, rfl, hr5, hz⟩
        have HR5 := Lib.hid hr5
        have hLM : ∀ k g, (k, g) ∈ bel s.l ky ↔ (∃ q, s.l[k]? = some q ∧ q.used = true ∧ q.gen = g) ∧ und s.l k ky = true := fun k g => selL_mem
        have HLM := Lib.hid hLM
        have hL32 : (bel s.l ky).length ≤ 41 := by
          have h1 : (bel s.l ky).length ≤ (allL s.l).length := List.length_filter_le _ _
          have := allL_len s.l
          have := HS.out.1.len
          omega
        obtain ⟨L, hL⟩ : ∃ L, L = bel s.l ky := ⟨_, rfl⟩
        rw [← hL] at HR5 HLM hL32
        rw [← hL]
        obtain ⟨M, hM⟩ : ∃ M, M = L.length := ⟨_, rfl⟩
        rw [← hM] at HR5 hL32
        rw [← hM]
        have HM := Lib.hid hM
        clear hr5 hLM hL hM
        have HX' := Lib.hid (HX.out.behind hz)
        have HY' := Lib.hid (HY.out.behind hz)
        have HZ' := Lib.hid (HZ.out.behind hz)
        have HB' := Lib.hid (below_trans HB.out hz HB.out.size)
        have HT' := Lib.hid (HT.out.behind hz)
        clear HX HY HZ HB HT hz x0 x1 y0 y1 z0 z1
        have HX := HX'; have HY := HY'; have HZ := HZ'; have HB := HB'; have HT := HT'
        clear HX' HY' HZ' HB' HT'
        go_wp2_with fail
        go_loopg [15, 16] M (fun n vf vi wr => ∃ (j : Nat) (fd : Bool), vf = .bool fd ∧ vi = .int .i64 j ∧ j ≤ M ∧ M - j ≤ n ∧ fd = decide ((kx, gx) ∈ L.take j) ∧ Below w5.heap.size w5 wr)
        case atStart => exact ⟨0, false, rfl, rfl, by omega, by omega, by simp, Below.refl _ _⟩
        case round =>
          obtain ⟨j, fd, rfl, rfl, hj, hgn, hfd, hbr⟩ := hrel
          have HFD := Lib.hid hfd; have HBR := Lib.hid hbr; have HGN := Lib.hid hgn
          clear hfd hbr hgn
          have HXr := Lib.hid (HX.out.behind HBR.out)
          by_cases hjm : j < M
          · obtain ⟨kg, hkg⟩ : ∃ kg, L[j]? = some kg := ⟨_, List.getElem?_eq_getElem (by have := HM.out; omega)⟩
            obtain ⟨k, g⟩ := kg
            obtain ⟨tb, rfl⟩ := hrow_some HR5.out (by omega)
            obtain ⟨y0, y1, yl⟩ := hcl_cell (ownsRow_below HR5.out HBR.out) j k g hkg hjm
            obtain ⟨x0, x1⟩ := HXr.out.c2
            have hst : decide ((kx, gx) ∈ L.take (j + 1)) = (decide ((kx, gx) ∈ L.take j) || decide ((kx, gx) = (k, g))) := by
              have hl : j < L.length := (List.getElem?_eq_some_iff.1 hkg).1
              have e : L[j] = (k, g) := by have := List.getElem?_eq_getElem hl; rw [hkg] at this; simpa using this.symm
              rw [← List.take_append_getElem hl, e]
              simp [Bool.decide_or]
            rw [← HFD.out] at hst
            have hgens : k = kx → g = gx := by
              rintro rfl
              obtain ⟨⟨q, h1, h2, h3⟩, _⟩ := (HLM.out k g).1 (List.mem_of_getElem? hkg)
              obtain ⟨q', h4, h5, h6⟩ := HE.out.1
              rw [h1] at h4
              cases h4
              rw [← h3, h6]
            have HST := Lib.hid hst
            clear hst
            cases fd with
            | true =>
              clear hkg hgens
              go_wp2_with fail
              go_quiet (fail)
              go_wp2_with fail
              go_roundg (M - (j + 1))
              case measure => have := HGN.out; omega
              case rel => exact ⟨j + 1, true, rfl, by go_num, by omega, Nat.le_refl _, by rw [HST.out]; rfl, below_drewN HBR.out _⟩
            | false =>
              by_cases hk : k = kx
              · have hg := hgens hk
                subst hk
                subst hg
                clear hkg hgens
                go_wp2_with fail
                go_quiet (fail)
                go_wp2_with fail
                go_roundg (M - (j + 1))
                case measure => have := HGN.out; omega
                case rel => exact ⟨j + 1, true, rfl, by go_num, by omega, Nat.le_refl _, by rw [HST.out]; simp, below_drewN HBR.out _⟩
              · have hkb : ((k : Int) == (kx : Int)) = false := beq_eq_false_iff_ne.2 (by omega)
                have HK := Lib.hid hk
                clear hkg hgens hk
                go_wp2_with fail
                go_quiet (fail)
                go_wp2_with fail
                go_roundg (M - (j + 1))
                case measure => have := HGN.out; omega
                case rel => exact ⟨j + 1, false, rfl, by go_num, by omega, Nat.le_refl _, by rw [HST.out]; simp; intro h; exact absurd h.symm HK.out, below_drewN HBR.out _⟩
          · have hjm' : j = M := by omega
            have hf : fd = true := by
              rw [HFD.out, hjm', HM.out, List.take_length]
              exact decide_eq_true ((HLM.out kx gx).2 ⟨HE.out.1, HRXY.out⟩)
            subst hf
            go_wp2
            go_ret
            exact ⟨rfl, below_trans HB.out HBR.out HB.out.size⟩
theorem flat_byte3 {cs : List Value} (h : Flat [some .u8, some .u8, some .u8] cs) : ∃ n0 n1 n2 : Nat, cs = [.int .u8 n0, .int .u8 n1, .int .u8 n2] ∧ n0 ≤ 255 ∧ n1 ≤ 255 ∧ n2 ≤ 255 := by
  match cs, h with
  | [c0, c1, c2], h =>
    obtain ⟨⟨v0, rfl, h0⟩, ⟨v1, rfl, h1⟩, ⟨v2, rfl, h2⟩, _⟩ := h
    have b0 := u8_of_wf h0; have b1 := u8_of_wf h1; have b2 := u8_of_wf h2
    exact ⟨v0.toNat, v1.toNat, v2.toNat, by
      rw [Int.toNat_of_nonneg b0.1, Int.toNat_of_nonneg b1.1, Int.toNat_of_nonneg b2.1], by omega, by omega, by omega⟩
end Go.Proofs.Ytnbljnpfmeidfaa
