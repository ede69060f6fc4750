/- The walk of the law GtreeDeep: it returns true. Condition: the argument fits its kind. -/
import Derived.Test.YtnbljnpfmeidfaaDeepS
namespace Go.Proofs.Ytnbljnpfmeidfaa
open Go Go.RowKit Go.ChangeShapes Go.WideShapes
set_option linter.unusedVariables false

theorem destroy_at (i g : Int) (s s2 : Ps) (ke : Int) (b : Nat) (hc : s.des i g = s2 ∧ s.desE i g = ke) (w : World) (base t p : Nat) (h : TrX w base t p s) (ho : s.Ok 32 b) (hb : b ≤ 1000) (htr : Tr s.l) :
    Calls Try.prog 21 #[.pointer (some ⟨t, 0, none⟩), .agg #[.int .i64 i, .int .i64 g]] w fun e w' => e = .returned (.int .i64 ke) ∧ TrX w' base t p s2 ∧ PoolStep base p w w' := by
  have := destroy_any i g b w base t p s h ho hb htr
  rwa [hc.1, hc.2] at this
theorem TrX.setH {w : World} {base t p : Nat} {s : Ps} (h : TrX w base t p s) {y : Nat} {i g : Int} (hy : Hx w y i g) (i' g' : Int) : TrX ((w.setCell ⟨y, 0, none⟩ (.int .i64 i')).setCell ⟨y, 1, none⟩ (.int .i64 g')) base t p s :=
  (h.farH hy _ _).farH (hy.set0 _) _ _
theorem below_setH {B y : Nat} {a w : World} (h : Below B a w) (hy : B ≤ y) (i g : Int) : Below B a ((w.setCell ⟨y, 0, none⟩ (.int .i64 i)).setCell ⟨y, 1, none⟩ (.int .i64 g)) := (h.setCell hy _).setCell hy _
set_option maxHeartbeats 4000000 in
set_option maxRecDepth 100000 in
theorem walk_GtreeDeep (n : Int) (hn : 0 ≤ n ∧ n ≤ 255) (w : World) :
    Calls Try.prog 6 #[.int .u8 n] w fun e w' => e = .returned (.bool true) ∧ Below w.heap.size w w' := by
  go_enter Try.func6, Try.ntmps6
  go_wp2_with fail
  refine (awake _).mono ?_
  rintro e w1 ⟨rfl, hz1⟩
  have hs1 := hz1.size
  go_wp2_with fail
  refine (new_any _).mono ?_
  rintro e w2 ⟨t, p, rfl, ht2, hz2⟩
  have HB2 := Lib.hid (below_trans hz1 hz2 hz1.size)
  have ht2' : TrX w2 w.heap.size t p ps0 := ⟨ht2.tb, by obtain ⟨v, hp⟩ := ht2.has; exact ⟨v, ⟨hp.blk, row_base hp.own hs1, hp.ne, by have := hp.lo; omega⟩⟩, by have := ht2.lo; omega⟩
  have HT2 := Lib.hid (ht2'.alloc (hbox 0 0))
  have hpl := ht2'.has.lt
  clear hz1 hs1 hz2 ht2 ht2'
  go_upto_region 6 with (fail)
  obtain ⟨w3, hw3⟩ : ∃ w3, w3 = w2.alloc (hbox 0 0) := ⟨_, rfl⟩
  obtain ⟨hx, hhx⟩ : ∃ hx, hx = w2.heap.size := ⟨_, rfl⟩
  have HX3 : Hid (Hx w3 hx 0 0) := Lib.hid (by rw [hw3, hhx]; exact Hx.new w2 0 0)
  have HB3 : Hid (Below w.heap.size w w3) := Lib.hid (by rw [hw3]; exact HB2.out.alloc HB2.out.size _)
  have HP : Hid (p < hx ∧ w.heap.size ≤ hx) := Lib.hid (by rw [hhx]; exact ⟨hpl, HB2.out.size⟩)
  rw [show w2.alloc (Obj.cells #[Value.int IntKind.i64 0, Value.int IntKind.i64 0] 30) = w3 from hw3.symm, ← hhx]
  rw [← hw3] at HT2
  clear hw3 hhx hpl
  go_wp2_with fail
  go_loopg [6] 8 (fun g vi wr => ∃ k : Nat, vi = .int .i64 k ∧ k ≤ 8 ∧ 8 - k ≤ g ∧ TrX wr w.heap.size t p (dS k) ∧ Hx wr hx k 0 ∧ Below w.heap.size w wr)
  case atStart => exact ⟨0, rfl, by omega, by omega, HT2.out, HX3.out, HB3.out⟩
  case round =>
    obtain ⟨k, rfl, hk, hg, htr, hxr, hbr⟩ := hrel
    have HTr := Lib.hid htr; have HXr := Lib.hid hxr; have HBr := Lib.hid hbr
    clear htr hxr hbr HT2 HX3 HB3
    obtain ⟨z0, z1⟩ := HXr.out.c2
    have zl := HXr.out.lt
    by_cases hk8 : k < 8
    · have hs : dH k = k := if_pos hk8
      have hc := dS_step k (by omega)
      rw [hs] at hc
      obtain ⟨k2, hk2⟩ : ∃ k2, k2 = k + 1 := ⟨_, rfl⟩
      have HC : Hid ((dS k).cre k 0 = dS k2 ∧ (dS k).creI k 0 = k2 ∧ (dS k).creG k 0 = 0 ∧ (dS k).creE k 0 = 0) := Lib.hid ⟨by rw [hk2, dS, hs], by rw [hk2]; exact hc⟩
      have HK2 := Lib.hid hk2
      clear hs hc hk2
      go_wp2_with fail
      refine (create_at k 0 (dS k) (dS k2) k2 0 0 (k + 1) HC.out _ _ _ _ HTr.out (dS_ok k) (by omega) (dS_tr k)).mono ?_
      rintro e w4 ⟨rfl, ht4, hs4⟩
      have HT4 := Lib.hid (ht4.alloc (hbox k2 0))
      have HX4 := Lib.hid ((HXr.out.step hs4 (by have := HP.out; omega)).alloc (hbox k2 0))
      have hb4 := HBr.out.trans hs4.below
      have HB4 := Lib.hid (hb4.alloc hb4.size (hbox k2 0))
      have HY4 := Lib.hid (Hx.new w4 k2 0)
      clear ht4 hs4 hb4 z0 z1 zl
      obtain ⟨w5, hw5⟩ : ∃ w5, w5 = w4.alloc (hbox k2 0) := ⟨_, rfl⟩
      obtain ⟨yb, hyb⟩ : ∃ yb, yb = w4.heap.size := ⟨_, rfl⟩
      rw [← hw5] at HT4 HX4 HB4 HY4
      rw [← hyb] at HY4
      go_upto_region 12 with (fail)
      rw [show w4.alloc (Obj.cells #[Value.int IntKind.i64 k2, Value.int IntKind.i64 0] 30) = w5 from hw5.symm, ← hyb]
      clear hw5 hyb
      obtain ⟨z0, z1⟩ := HX4.out.c2
      obtain ⟨y0, y1⟩ := HY4.out.c2
      have zf := HX4.out.frz
      have zl := HX4.out.lt
      go_wp2_with fail
      go_roundg (8 - k2)
      case measure => have := HK2.out; omega
      case rel => exact ⟨k2, by rw [HK2.out]; go_num, by have := HK2.out; omega, Nat.le_refl _, HT4.out.setH HX4.out _ _, (HX4.out.set0 _).set1 _, below_setH HB4.out HP.out.2 _ _⟩
    · have hk8' : k = 8 := by omega
      subst hk8'
      clear hk8 hk hg
      go_wp2_with fail
      refine (create_at 8 0 (dS 8) (dS 8) 0 0 5 9 ⟨dS_eight', dS_eight⟩ _ _ _ _ HTr.out (dS_ok 8) (by omega) (dS_tr 8)).mono ?_
      rintro e w4 ⟨rfl, ht4, hs4⟩
      have ht5 := (ht4.alloc (hbox 0 0)).alloc (hbox 8 0)
      have hb4 := HBr.out.trans hs4.below
      have hb5 := (hb4.alloc hb4.size (hbox 0 0)).alloc (by have := hb4.size; simp; omega) (hbox 8 0)
      have hy5 := Hx.new (w4.alloc (hbox 0 0)) 8 0
      have hx4 := HXr.out.step hs4 (by have := HP.out; omega)
      have hz4 := hs4.tch.size
      clear z0 z1
      obtain ⟨z0, z1⟩ := hx4.c2
      have zl4 := hx4.lt
      obtain ⟨w5, hw5⟩ : ∃ w5, w5 = (w4.alloc (hbox 0 0)).alloc (hbox 8 0) := ⟨_, rfl⟩
      obtain ⟨lb, hlb⟩ : ∃ lb, lb = w4.heap.size + 1 := ⟨_, rfl⟩
      have HT5 : Hid (TrX w5 w.heap.size t p (dS 8)) := Lib.hid (by rw [hw5]; exact ht5)
      have HB5 : Hid (Below w.heap.size w w5) := Lib.hid (by rw [hw5]; exact hb5)
      have HL5 : Hid (Hx w5 lb 8 0) := Lib.hid (by rw [hw5, hlb]; simpa using hy5)
      have HQ : Hid (p < lb ∧ w.heap.size ≤ lb) := Lib.hid (by have h1 := HP.out; have h2 := HXr.out.lt; omega)
      clear ht5 hb5 hy5 ht4 hs4 hb4 hx4 hz4
      go_upto_region 15 with (fail)
      rw [show (w4.alloc (Obj.cells #[Value.int IntKind.i64 0, Value.int IntKind.i64 0] 30)).alloc (Obj.cells #[Value.int IntKind.i64 8, Value.int IntKind.i64 0] 30) = w5 from hw5.symm, ← hlb]
      clear hw5 hlb z0 z1 zl4 zl HTr HXr HBr
      go_wp2_with fail
      go_loopg [12] 32 (fun g vi wr => ∃ k k1 : Nat, k1 = k + 1 ∧ vi = .int .i64 k1 ∧ 8 ≤ k ∧ k ≤ 31 ∧ 31 - k ≤ g ∧ TrX wr w.heap.size t p (dS k) ∧ Hx wr lb k 0 ∧ Below w.heap.size w wr)
      case atStart => exact ⟨8, 9, rfl, rfl, by omega, by omega, by omega, HT5.out, HL5.out, HB5.out⟩
      case round =>
        obtain ⟨k, k1, hk1, rfl, hk, hk31, hg, htr, hxr, hbr⟩ := hrel
        have HTr := Lib.hid htr; have HXr := Lib.hid hxr; have HBr := Lib.hid hbr; have HG := Lib.hid hg; have HK1 := Lib.hid hk1
        clear htr hxr hbr HT5 HL5 HB5 hg
        obtain ⟨z0, z1⟩ := HXr.out.c2
        have zl := HXr.out.lt
        by_cases hk8 : k1 < 32
        · have hs : dH k = 0 := if_neg (by omega)
          have hc := dS_step k (by omega)
          rw [hs] at hc
          have HC : Hid ((dS k).cre 0 0 = dS k1 ∧ (dS k).creI 0 0 = k1 ∧ (dS k).creG 0 0 = 0 ∧ (dS k).creE 0 0 = 0) := Lib.hid ⟨by rw [hk1, dS, hs], by rw [hk1]; exact hc⟩
          clear hs hc hk1
          go_wp2_with fail
          refine (create_at 0 0 (dS k) (dS k1) k1 0 0 (k + 1) HC.out _ _ _ _ HTr.out (dS_ok k) (by omega) (dS_tr k)).mono ?_
          rintro e w4 ⟨rfl, ht4, hs4⟩
          have HT4 := Lib.hid (ht4.alloc (hbox k1 0))
          have HX4 := Lib.hid ((HXr.out.step hs4 (by have := HQ.out; omega)).alloc (hbox k1 0))
          have hb4 := HBr.out.trans hs4.below
          have HB4 := Lib.hid (hb4.alloc hb4.size (hbox k1 0))
          have HY4 := Lib.hid (Hx.new w4 k1 0)
          clear ht4 hs4 hb4 z0 z1 zl
          obtain ⟨w5, hw5⟩ : ∃ w5, w5 = w4.alloc (hbox k1 0) := ⟨_, rfl⟩
          obtain ⟨yb, hyb⟩ : ∃ yb, yb = w4.heap.size := ⟨_, rfl⟩
          rw [← hw5] at HT4 HX4 HB4 HY4
          rw [← hyb] at HY4
          go_upto_region 21 with (fail)
          rw [show w4.alloc (Obj.cells #[Value.int IntKind.i64 k1, Value.int IntKind.i64 0] 30) = w5 from hw5.symm, ← hyb]
          clear hw5 hyb
          obtain ⟨z0, z1⟩ := HX4.out.c2
          obtain ⟨y0, y1⟩ := HY4.out.c2
          have zf := HX4.out.frz
          have zl := HX4.out.lt
          go_wp2_with fail
          go_roundg (31 - k1)
          case measure => have := HK1.out; have := HG.out; omega
          case rel => exact ⟨k1, k1 + 1, rfl, by go_num, by have := HK1.out; omega, by omega, Nat.le_refl _, HT4.out.setH HX4.out _ _, (HX4.out.set0 _).set1 _, below_setH HB4.out HQ.out.2 _ _⟩
        · have hk31' : k = 31 := by omega
          have hk32 : k1 = 32 := by omega
          subst hk31' hk32
          clear hk8 hk hk31 hk1 HK1 HG
          go_wp2_with fail
          refine (create_at 0 0 (dS 31) (dS 31) 0 0 3 32 ⟨dS_full', dS_full⟩ _ _ _ _ HTr.out (dS_ok 31) (by omega) (dS_tr 31)).mono ?_
          rintro e w4 ⟨rfl, ht4, hs4⟩
          have HT4 := Lib.hid (ht4.alloc (hbox 0 0))
          have HX4 := Lib.hid ((HXr.out.step hs4 (by have := HQ.out; omega)).alloc (hbox 0 0))
          have hb4 := HBr.out.trans hs4.below
          have HB4 := Lib.hid (hb4.alloc hb4.size (hbox 0 0))
          clear ht4 hs4 hb4 z0 z1 zl HTr HXr HBr
          obtain ⟨w5, hw5⟩ : ∃ w5, w5 = w4.alloc (hbox 0 0) := ⟨_, rfl⟩
          rw [← hw5] at HT4 HX4 HB4
          go_upto_region 23 with (fail)
          rw [show w4.alloc (Obj.cells #[Value.int IntKind.i64 0, Value.int IntKind.i64 0] 30) = w5 from hw5.symm]
          clear hw5
          obtain ⟨z0, z1⟩ := HX4.out.c2
          have zl := HX4.out.lt
          go_wp2_with fail
          refine (destroy_at 31 0 (dS 31) dA 0 32 ⟨rfl, dA_E⟩ _ _ _ _ HT4.out (dS_ok 31) (by omega) (dS_tr 31)).mono ?_
          rintro e w6 ⟨rfl, ht6, hs6⟩
          have HT6 := Lib.hid ht6
          have HX6 := Lib.hid (HX4.out.step hs6 (by have := HQ.out; omega))
          have HB6 := Lib.hid (HB4.out.trans hs6.below)
          clear ht6 hs6 z0 z1 zl HT4 HX4 HB4
          rcases (show n % 2 = 0 ∨ n % 2 = 1 by omega) with hn2 | hn2
          · go_wp2_with fail
            refine (create_at 0 0 dA dB 31 1 0 33 ⟨rfl, dA_even.1, dA_even.2.1, dA_even.2.2.1⟩ _ _ _ _ HT6.out dA_ok (by omega) dA_tr).mono ?_
            rintro e w7 ⟨rfl, ht7, hs7⟩
            have HT7 := Lib.hid (ht7.alloc (hbox 31 1))
            have HX7 := Lib.hid ((HX6.out.step hs7 (by have := HQ.out; omega)).alloc (hbox 31 1))
            have hb7 := HB6.out.trans hs7.below
            have HB7 := Lib.hid (hb7.alloc hb7.size (hbox 31 1))
            have HY7 := Lib.hid (Hx.new w7 31 1)
            have hlb7 := (HX6.out.step hs7 (by have := HQ.out; omega)).lt
            obtain ⟨w8, hw8⟩ : ∃ w8, w8 = w7.alloc (hbox 31 1) := ⟨_, rfl⟩
            obtain ⟨ab, hab⟩ : ∃ ab, ab = w7.heap.size := ⟨_, rfl⟩
            have HAP : Hid (ab ≠ p) := Lib.hid (by have := HQ.out; omega)
            rw [← hw8] at HT7 HX7 HB7 HY7
            rw [← hab] at HY7
            clear ht7 hs7 hb7 HT6 HX6 HB6 hlb7
            go_upto_region 25 with (fail)
            rw [show w7.alloc (Obj.cells #[Value.int IntKind.i64 31, Value.int IntKind.i64 1] 30) = w8 from hw8.symm, ← hab]
            clear hw8 hab
            obtain ⟨z0, z1⟩ := HX7.out.c2
            have zl := HX7.out.lt
            go_wp2_with fail
            refine (destroy_at 31 0 dB dB 2 34 ⟨dB_des, dA_even.2.2.2.1⟩ _ _ _ _ HT7.out dB_ok (by omega) dB_tr).mono ?_
            rintro e w9 ⟨rfl, ht9, hs9⟩
            have HT9 := Lib.hid ht9
            have HX9 := Lib.hid (HX7.out.step hs9 (by have := HQ.out; omega))
            have HY9 := Lib.hid (HY7.out.step hs9 HAP.out)
            have HB9 := Lib.hid (HB7.out.trans hs9.below)
            clear ht9 hs9 z0 z1 zl HT7 HX7 HB7 HY7
            obtain ⟨z0, z1⟩ := HX9.out.c2
            obtain ⟨y0, y1⟩ := HY9.out.c2
            go_wp2_with fail
            refine (destroy_at 0 0 dB (dB.des 0 0) 1 34 ⟨rfl, dA_even.2.2.2.2⟩ _ _ _ _ HT9.out dB_ok (by omega) dB_tr).mono ?_
            rintro e w10 ⟨rfl, ht10, hs10⟩
            go_wp2
            go_ret
            exact ⟨rfl, HB9.out.trans hs10.below⟩
          · go_wp2_with fail
            refine (create_at 8 0 dA dA 0 0 5 33 ⟨dA_odd', dA_odd.1, dA_odd.2.1, dA_odd.2.2.1⟩ _ _ _ _ HT6.out dA_ok (by omega) dA_tr).mono ?_
            rintro e w7 ⟨rfl, ht7, hs7⟩
            have HT7 := Lib.hid (ht7.alloc (hbox 0 0))
            have HX7 := Lib.hid ((HX6.out.step hs7 (by have := HQ.out; omega)).alloc (hbox 0 0))
            have hb7 := HB6.out.trans hs7.below
            have HB7 := Lib.hid (hb7.alloc hb7.size (hbox 0 0))
            have HY7 := Lib.hid (Hx.new w7 0 0)
            have hlb7 := (HX6.out.step hs7 (by have := HQ.out; omega)).lt
            obtain ⟨w8, hw8⟩ : ∃ w8, w8 = w7.alloc (hbox 0 0) := ⟨_, rfl⟩
            obtain ⟨ab, hab⟩ : ∃ ab, ab = w7.heap.size := ⟨_, rfl⟩
            have HAP : Hid (ab ≠ p) := Lib.hid (by have := HQ.out; omega)
            rw [← hw8] at HT7 HX7 HB7 HY7
            rw [← hab] at HY7
            clear ht7 hs7 hb7 HT6 HX6 HB6 hlb7
            go_upto_region 25 with (fail)
            rw [show w7.alloc (Obj.cells #[Value.int IntKind.i64 0, Value.int IntKind.i64 0] 30) = w8 from hw8.symm, ← hab]
            clear hw8 hab
            obtain ⟨z0, z1⟩ := HX7.out.c2
            have zl := HX7.out.lt
            go_wp2_with fail
            refine (destroy_at 31 0 dA dA 2 33 ⟨dA_des, dA_odd.2.2.2.1⟩ _ _ _ _ HT7.out dA_ok (by omega) dA_tr).mono ?_
            rintro e w9 ⟨rfl, ht9, hs9⟩
            have HT9 := Lib.hid ht9
            have HX9 := Lib.hid (HX7.out.step hs9 (by have := HQ.out; omega))
            have HY9 := Lib.hid (HY7.out.step hs9 HAP.out)
            have HB9 := Lib.hid (HB7.out.trans hs9.below)
            clear ht9 hs9 z0 z1 zl HT7 HX7 HB7 HY7
            obtain ⟨z0, z1⟩ := HX9.out.c2
            obtain ⟨y0, y1⟩ := HY9.out.c2
            go_wp2_with fail
            refine (destroy_at 0 0 dA (dA.des 0 0) 1 33 ⟨rfl, dA_odd.2.2.2.2⟩ _ _ _ _ HT9.out dA_ok (by omega) dA_tr).mono ?_
            rintro e w10 ⟨rfl, ht10, hs10⟩
            go_wp2
            go_ret
            exact ⟨rfl, HB9.out.trans hs10.below⟩
end Go.Proofs.Ytnbljnpfmeidfaa
