/- The document's tree of groups, told by value: Path, Destroy. Condition: the tree is within bounds, its groups within one another. -/
import Derived.Test.YtnbljnpfmeidfaaDocD
import Derived.Test.YtnbljnpfmeidfaaTreeN
namespace Go.Proofs.Ytnbljnpfmeidfaa
open Go Go.RowKit Go.ChangeShapes Go.WideShapes
set_option linter.unusedVariables false

theorem rpath_no (i g : Int) (b : Nat) (w : World) (s : Ps) (v1 v2 v3 v4 : Sv) (h : RfV w 32 s v1 v2 v3 v4) (ho : s.Ok 32 b) (hb : b ≤ 1000) (hf : s.find i g = none) :
    Calls Try.prog 50 #[.agg (vcl 32 v1 v2 v3 v4), .agg #[.int .i64 i, .int .i64 g]] w fun e w' => e = .returned (.tuple #[.slice none 0 0, .int .i64 2]) ∧ Below w.heap.size w w' := by
  have HO := Lib.hid ho
  have HR := Lib.hid h
  have HF := Lib.hid hf
  clear h ho hf
  go_enter Try.func50, Try.ntmps50
  go_upto_region 1 with (fail)
  obtain ⟨w1, hw1⟩ : ∃ w1, w1 = (w.alloc (ubox v1 v2 v3 v4)).alloc (hbox i g) := ⟨_, rfl⟩
  have HX : Hid (Ux w1 w.heap.size (vcl 32 v1 v2 v3 v4)) := Lib.hid (by rw [hw1]; exact (Ux.new w _).alloc _)
  have HY : Hid (Hx w1 (w.heap.size + 1) i g) := Lib.hid (by rw [hw1]; exact Hx.new1 w _ i g)
  have HB : Hid (Below w.heap.size w w1) := Lib.hid (by rw [hw1]; exact (below_alloc w _).alloc (by simp) _)
  rw [← hw1]
  clear hw1
  obtain ⟨x, hx⟩ : ∃ x, x = w.heap.size := ⟨_, rfl⟩
  obtain ⟨y, hy⟩ : ∃ y, y = w.heap.size + 1 := ⟨_, rfl⟩
  rw [← hy, ← hx]
  rw [← hx] at HX; rw [← hy] at HY
  have HN : Hid (x = w.heap.size ∧ y = w.heap.size + 1) := Lib.hid ⟨hx, hy⟩
  clear hx hy
  have HC := Lib.hid (rv_no HF.out (HR.out.behind HB.out) HO.out hb)
  obtain ⟨x0, x1, x2, x3, x4⟩ := HX.out.c5
  have xl := HX.out.lt
  obtain ⟨y0, y1⟩ := HY.out.c2
  have yl := HY.out.lt
  go_wp2_with fail
  refine HC.out.mono ?_
  rintro e w2 ⟨rfl, hz2⟩
  replace HX := Lib.hid (HX.out.behind hz2)
  replace HY := Lib.hid (HY.out.behind hz2)
  replace HB := Lib.hid (below_trans HB.out hz2 HB.out.size)
  clear hz2 x0 x1 x2 x3 x4 y0 y1 xl yl HC
  go_wp2
  go_ret2
  exact ⟨rfl, HB.out⟩
set_option maxHeartbeats 2000000 in
set_option maxRecDepth 100000 in
theorem rpath_yes (k : Nat) (qk : Pl) (b : Nat) (w : World) (s : Ps) (v1 v2 v3 v4 : Sv) (h : RfV w 32 s v1 v2 v3 v4) (ho : s.Ok 32 b) (hb : b ≤ 1000) (htr : Tr s.l) (hk : s.l[k]? = some qk) (hku : qk.used = true) :
    Calls Try.prog 50 #[.agg (vcl 32 v1 v2 v3 v4), .agg #[.int .i64 k, .int .i64 qk.gen]] w fun e w' => ∃ a c, e = .returned (.tuple #[.slice a (pth s.l k).length c, .int .i64 0]) ∧ w'.ownsRow w.heap.size 3 1 (.slice a (pth s.l k).length c) (pth s.l k).length (iv (zs (pth s.l k))) ∧ Below w.heap.size w w' := by
  obtain ⟨i0, hi, hq0, hq1, hq2⟩ := info_parts rinfo_int
  obtain ⟨g1, e1, hg, hw⟩ := h.words htr
  have HF := Lib.hid (find_of hk hku).1
  have HU := Lib.hid (show Usd s.l k from ⟨qk, hk, hku⟩)
  have HW := Lib.hid hw
  have HTR := Lib.hid htr
  have HO := Lib.hid ho
  have HR := Lib.hid h
  have H1A := Lib.hid e1
  generalize hgg : qk.gen = g at *
  have HGG := Lib.hid hgg
  obtain ⟨P, hP⟩ : ∃ P, P = pth s.l k := ⟨_, rfl⟩
  rw [← hP]
  have HP := Lib.hid hP
  clear h ho htr hw hk hku e1 hgg hP
  go_enter Try.func50, Try.ntmps50
  go_upto_region 1 with (fail)
  obtain ⟨w1, hw1⟩ : ∃ w1, w1 = (w.alloc (ubox v1 v2 v3 v4)).alloc (hbox k g) := ⟨_, rfl⟩
  have HX : Hid (Ux w1 w.heap.size (vcl 32 v1 v2 v3 v4)) := Lib.hid (by rw [hw1]; exact (Ux.new w _).alloc _)
  have HY : Hid (Hx w1 (w.heap.size + 1) k g) := Lib.hid (by rw [hw1]; exact Hx.new1 w _ k g)
  have HB : Hid (Below w.heap.size w w1) := Lib.hid (by rw [hw1]; exact (below_alloc w _).alloc (by simp) _)
  rw [← hw1]
  clear hw1
  obtain ⟨x, hx⟩ : ∃ x, x = w.heap.size := ⟨_, rfl⟩
  obtain ⟨y, hy⟩ : ∃ y, y = w.heap.size + 1 := ⟨_, rfl⟩
  rw [← hy, ← hx]
  rw [← hx] at HX; rw [← hy] at HY
  have HN : Hid (x = w.heap.size ∧ y = w.heap.size + 1) := Lib.hid ⟨hx, hy⟩
  clear hx hy
  have HC := Lib.hid (rv_yes HF.out (HR.out.behind HB.out) HO.out hb)
  obtain ⟨x0, x1, x2, x3, x4⟩ := HX.out.c5
  have xl := HX.out.lt
  obtain ⟨y0, y1⟩ := HY.out.c2
  have yl := HY.out.lt
  go_wp2_with fail
  refine HC.out.mono ?_
  rintro e w2 ⟨rfl, hz2⟩
  replace HX := Lib.hid (HX.out.behind hz2)
  replace HY := Lib.hid (HY.out.behind hz2)
  replace HB := Lib.hid (below_trans HB.out hz2 HB.out.size)
  clear hz2 x0 x1 x2 x3 x4 y0 y1 xl yl HC
  obtain ⟨y0, y1⟩ := HY.out.c2
  have yl := HY.out.lt
  go_wp2_with fail
  go_loopg [6, 7] (dep s.l k + 1) (fun n vl vi wr => ∃ (c m : Nat) (acc : List Nat) (ar : Option Addr) (cr : Nat), vl = .slice ar m cr ∧ vi = .int .i64 c ∧ Usd s.l c ∧ m = acc.length ∧ n = dep s.l c + 1 ∧ m + dep s.l c ≤ 8 ∧ pth s.l k = pth s.l c ++ acc ∧ wr.ownsRow w2.heap.size 3 1 (.slice ar m cr) m (iv (zs acc)) ∧ Below w2.heap.size w2 wr)
  case atStart => exact ⟨k, 0, [], none, 0, rfl, rfl, HU.out, rfl, rfl, by have := (HTR.out.dep0 HU.out).1; omega, by simp, World.ownsRow_nil _ _ _ _, Below.refl _ _⟩
  case round =>
    obtain ⟨c, m, acc, ar, cr, rfl, rfl, hu, hm, hn, hmn, hp, hrow, hbr⟩ := hrel
    have HM := Lib.hid hm; have HNN := Lib.hid hn; have HPT := Lib.hid hp; have HRW := Lib.hid hrow; have HBR := Lib.hid hbr; have HUC := Lib.hid hu; have HMN := Lib.hid hmn
    have hm8 : m ≤ 8 := by omega
    clear hm hn hp hrow hbr hu hmn
    by_cases hc0 : c = 0
    · subst hc0
      have HPA : Hid (P = acc) := Lib.hid (by rw [HP.out, HPT.out, pth_root, List.nil_append])
      clear hi hq0 hq1 hq2
      go_wp2_with fail
      go_ret2
      have e : m = P.length := by rw [HPA.out]; exact HM.out
      subst e
      have hpa := HPA.out
      have hrw := HRW.out
      rw [← hpa] at hrw
      exact ⟨ar, cr, rfl, row_base hrw HB.out.size, below_trans HB.out HBR.out HB.out.size⟩
    · have hcp : 0 < c := by omega
      obtain ⟨hkn, hkc⟩ := HW.out wr (below_trans HB.out HBR.out HB.out.size) c HUC.out
      rw [show wrd s.l c = upI s.l c from if_neg hc0] at hkc
      obtain ⟨hu1, hu2⟩ := HTR.out.up HUC.out hc0
      have hpc := pth_cons HTR.out HUC.out hc0
      obtain ⟨d, hd⟩ : ∃ d, d = upI s.l c := ⟨_, rfl⟩
      rw [← hd] at hkc hu1 hu2 hpc
      have HKC := Lib.hid (And.intro hkn hkc)
      have HU1 := Lib.hid hu1; have HU2 := Lib.hid hu2; have HPC := Lib.hid hpc
      have hbs := HBR.out.size
      clear hkn hkc hu1 hu2 hpc hd hc0
      have O1 : Hid ((wr.alloc (.cells #[.int .i64 c] 3)).ownsRow w2.heap.size 3 1 (.slice (some ⟨wr.heap.size, 0, none⟩) 1 1) 1 [.int .i64 c]) := Lib.hid (World.ownsRow_lit wr #[.int .i64 c] 1 hbs (by unfold maxLen; omega) (by simp))
      go_wp2_with (at_builtin; go_loud (refine wpList_append_row rfl _ _ 38 rfl w2.heap.size 3 i0 (.int .i64 0) 1 8 Try.underlying38 hi hq0 hq1 hq2 rfl (by decide) (.slice (some ⟨wr.heap.size, 0, none⟩) 1 1) 1 [.int .i64 c] rfl O1.out w2.heap.size (.slice ar m cr) m (iv (zs acc)) rfl (HRW.out.alloc _) (iv_one _) ?c3 ?c4 ?c5 ?_))
      case c3 => unfold maxLen; omega
      case c4 => omega
      case c5 => simp; omega
      intro v6 w6 hown6 hgrow6 _
      have HB6 := Lib.hid (Below.grown (HBR.out.alloc hbs (.cells #[.int .i64 c] 3)) hgrow6 (by simp; omega) (fun kk hk' => (O1.out.lt kk hk').1))
      obtain ⟨a6, c6, rfl⟩ := hrow_nil hown6
      have HR6 : Hid (w6.ownsRow w2.heap.size 3 1 (.slice a6 (m + 1) c6) (m + 1) (iv (zs (c :: acc)))) := Lib.hid (by
        have h6 := hown6
        rw [Nat.add_comm 1 m] at h6
        exact h6)
      rw [Nat.add_comm 1 m]
      obtain ⟨hkn, hkc⟩ := HW.out w6 (below_trans HB.out HB6.out HB.out.size) c HUC.out
      have hkc2 : w6.cell? ⟨g1, c, none⟩ = some (.int .i64 d) := by
        rw [hkc]
        have := HKC.out.2
        have h7 := HW.out wr (below_trans HB.out HBR.out HB.out.size) c HUC.out
        rw [this] at h7
        rw [← h7.2]
      have HX6 := Lib.hid (HX.out.behind HB6.out)
      have hg6 : g1 < w6.heap.size := by have := HB.out.size; have := HB6.out.size; omega
      clear hown6 hgrow6 hkc O1
      obtain ⟨x0, x1, x2, x3, x4⟩ := HX6.out.c5
      have xl := HX6.out.lt
      rw [H1A.out] at x1
      go_wp2_with fail
      go_roundg (dep s.l d + 1)
      case measure => have := HNN.out; have := HU2.out; omega
      case rel => exact ⟨d, m + 1, c :: acc, a6, c6, by go_num, rfl, HU1.out, by rw [HM.out]; rfl, rfl, by have := HU2.out; have := HMN.out; omega, by rw [HPT.out, HPC.out, List.append_assoc]; rfl, HR6.out, HB6.out⟩
theorem rpath_any (i g : Int) (b : Nat) (w : World) (s : Ps) (v1 v2 v3 v4 : Sv) (h : RfV w 32 s v1 v2 v3 v4) (ho : s.Ok 32 b) (hb : b ≤ 1000) (htr : Tr s.l) :
    Calls Try.prog 50 #[.agg (vcl 32 v1 v2 v3 v4), .agg #[.int .i64 i, .int .i64 g]] w fun e w' => ∃ a c, e = .returned (.tuple #[.slice a (pathL s i g).length c, .int .i64 (s.namE i g)]) ∧ w'.ownsRow w.heap.size 3 1 (.slice a (pathL s i g).length c) (pathL s i g).length (iv (zs (pathL s i g))) ∧ Below w.heap.size w w' := by
  unfold pathL
  cases hk : s.find i g with
  | none =>
    refine (rpath_no i g b w s v1 v2 v3 v4 h ho hb hk).mono ?_
    rintro e w' ⟨rfl, hz⟩
    rw [(getV_no hk).2]
    exact ⟨none, 0, rfl, World.ownsRow_nil _ _ _ _, hz⟩
  | some k =>
    obtain ⟨qk, rfl, hk1, hk2, rfl, _, h6⟩ := find_some hk
    rw [h6]
    exact rpath_yes k qk b w s v1 v2 v3 v4 h ho hb htr hk1 hk2
end Go.Proofs.Ytnbljnpfmeidfaa
