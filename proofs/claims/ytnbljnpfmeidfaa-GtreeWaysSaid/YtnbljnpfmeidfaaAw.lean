/- The law package's own small test, awake: it returns true. No conditions. -/
import Derived.Test.YtnbljnpfmeidfaaTreeN
namespace Go.Proofs.Ytnbljnpfmeidfaa
open Go Go.RowKit Go.ChangeShapes Go.WideShapes
set_option linter.unusedVariables false

def ps1 : Ps := ⟨[⟨⟨-1, 0, 0, 0⟩, 0, true, -1⟩, ⟨⟨0, 0, 0, 1⟩, 0, true, -1⟩], -1, [], 2⟩
def ps2 : Ps := ⟨[⟨⟨-1, 0, 0, 0⟩, 0, true, -1⟩, ⟨⟨0, 0, 0, 1⟩, 0, true, -1⟩, ⟨⟨1, 1, 0, 2⟩, 0, true, -1⟩], -1, [], 3⟩
theorem ps1_cre : ps0.cre 0 0 = ps1 ∧ ps0.creI 0 0 = 1 ∧ ps0.creG 0 0 = 0 ∧ ps0.creE 0 0 = 0 := ⟨rfl, rfl, rfl, rfl⟩
theorem ps2_cre : ps1.cre 1 0 = ps2 ∧ ps1.creI 1 0 = 2 ∧ ps1.creG 1 0 = 0 ∧ ps1.creE 1 0 = 0 := ⟨rfl, rfl, rfl, rfl⟩
theorem ps1_ok : ps1.Ok 32 2 := by rw [← ps1_cre.1]; exact ps0_ok.cre 0 0
theorem ps2_ok : ps2.Ok 32 3 := by rw [← ps2_cre.1]; exact ps1_ok.cre 1 0
theorem ps1_tr : Tr ps1.l := by rw [← ps1_cre.1]; exact ps0_tr.cre ps0_ok 0 0
theorem ps2_tr : Tr ps2.l := by rw [← ps2_cre.1]; exact ps1_tr.cre ps1_ok 1 0
theorem ps2_path : pathL ps2 2 0 = [1, 2] ∧ ps2.namE 2 0 = 0 ∧ ps2.movE 1 0 2 0 = 10 ∧ ps2.mov 1 0 2 0 = ps2 ∧ undH ps2 2 0 1 0 = true := ⟨by decide, rfl, rfl, rfl, by decide⟩
/-- boxes of the walk's own lie above the tree's pool -/
theorem create_at (i g : Int) (s s2 : Ps) (k : Nat) (kg ke : Int) (b : Nat) (hc : s.cre i g = s2 ∧ s.creI i g = k ∧ s.creG i g = kg ∧ s.creE i g = ke) (w : World) (base t p : Nat) (h : TrX w base t p s) (ho : s.Ok 32 b) (hb : b ≤ 1000) (htr : Tr s.l) :
    Calls Try.prog 20 #[.pointer (some ⟨t, 0, none⟩), .agg #[.int .i64 i, .int .i64 g]] w fun e w' => e = .returned (.tuple #[.agg #[.int .i64 k, .int .i64 kg], .int .i64 ke]) ∧ TrX w' base t p s2 ∧ PoolStep base p w w' := by
  have := create_any i g b w base t p s h ho hb htr
  rwa [hc.1, hc.2.1, hc.2.2.1, hc.2.2.2] at this
set_option maxHeartbeats 1000000 in
theorem awake (w : World) : Calls Try.prog 9 #[] w fun e w' => e = .returned (.bool true) ∧ Below w.heap.size w w' := by
  go_enter Try.func9, Try.ntmps9
  go_wp2_with fail
  refine (new_any _).mono ?_
  rintro e w1 ⟨t, p, rfl, ht1, hz1⟩
  have HT1 := Lib.hid ht1; have HB1 := Lib.hid hz1
  have hp1 := ht1.has.lt
  clear ht1 hz1
  go_wp2_with fail
  refine (create_at 0 0 ps0 ps1 1 0 0 1 ps1_cre _ _ _ _ HT1.out ps0_ok (by omega) ps0_tr).mono ?_
  rintro e w2 ⟨rfl, ht2, hs2⟩
  have HT2 := Lib.hid ht2; have HB2 := Lib.hid (HB1.out.trans hs2.below)
  have HX2 := Lib.hid (Hx.new w2 1 0)
  have hz2 := hs2.tch.size
  clear ht2 hs2
  obtain ⟨a, ha⟩ : ∃ a, a = w2.heap.size := ⟨_, rfl⟩
  have hap : a ≠ p := by omega
  have HA := Lib.hid ha
  rw [← ha] at HX2
  clear ha
  go_upto_region 5 with (fail)
  obtain ⟨w3, hw3⟩ : ∃ w3, w3 = w2.alloc (hbox 1 0) := ⟨_, rfl⟩
  have HT3 : Hid (TrX w3 w.heap.size t p ps1) := Lib.hid (by rw [hw3]; exact HT2.out.alloc _)
  have HB3 : Hid (Below w.heap.size w w3) := Lib.hid (by rw [hw3]; exact HB2.out.alloc HB2.out.size _)
  rw [show w2.alloc (Obj.cells #[Value.int IntKind.i64 1, Value.int IntKind.i64 0] 30) = w3 from hw3.symm, ← HA.out]
  rw [← hw3] at HX2
  clear hw3 hz2
  obtain ⟨a0, a1⟩ := HX2.out.c2
  have al := HX2.out.lt
  go_wp2_with fail
  refine (create_at 1 0 ps1 ps2 2 0 0 2 ps2_cre _ _ _ _ HT3.out ps1_ok (by omega) ps1_tr).mono ?_
  rintro e w4 ⟨rfl, ht4, hs4⟩
  have HT4 := Lib.hid (ht4.alloc (hbox 2 0)); have HB4 := Lib.hid ((HB3.out.trans hs4.below).alloc (HB3.out.trans hs4.below).size (hbox 2 0))
  have HX4 := Lib.hid ((HX2.out.step hs4 hap).alloc (hbox 2 0))
  have HY4 := Lib.hid (Hx.new w4 2 0)
  have hz4 := hs4.tch.size
  have hp4 := ht4.has.lt
  obtain ⟨b, hbb⟩ : ∃ b, b = w4.heap.size := ⟨_, rfl⟩
  obtain ⟨w5, hw5⟩ : ∃ w5, w5 = w4.alloc (hbox 2 0) := ⟨_, rfl⟩
  go_upto_region 6 with (fail)
  rw [show w4.alloc (Obj.cells #[Value.int IntKind.i64 2, Value.int IntKind.i64 0] 30) = w5 from hw5.symm, ← hbb]
  rw [← hw5] at HT4 HB4 HX4 HY4
  rw [← hbb] at HY4
  have hbp : b ≠ p := by omega
  clear ht4 hs4 hz4 hp4 hbb hw5 a0 a1 al
  obtain ⟨a0, a1⟩ := HX4.out.c2
  obtain ⟨b0, b1⟩ := HY4.out.c2
  have al := HX4.out.lt
  have bl := HY4.out.lt
  go_wp2_with fail
  refine (path_any 2 0 3 _ _ _ _ ps2 HT4.out ps2_ok (by omega) ps2_tr).mono ?_
  rw [ps2_path.1, ps2_path.2.1]
  rintro e w6 ⟨pa, pc, rfl, hr6, hz6⟩
  obtain ⟨pg, rfl⟩ := hrow_some hr6 (by simp)
  have hc0 := icell hr6 rfl 0 1 rfl
  have hc1 := icell hr6 rfl 1 2 rfl
  have hgl := (hr6.lt pg rfl).2
  have HT6 := Lib.hid (HT4.out.behind hz6); have HB6 := Lib.hid (below_trans HB4.out hz6 HB4.out.size)
  have HX6 := Lib.hid (HX4.out.behind hz6)
  have HY6 := Lib.hid (HY4.out.behind hz6)
  clear hr6 hz6 a0 a1 b0 b1 al bl
  obtain ⟨a0, a1⟩ := HX6.out.c2
  obtain ⟨b0, b1⟩ := HY6.out.c2
  simp only [List.length_cons, List.length_nil]
  go_wp2_with fail
  refine (move_any 1 0 2 0 3 _ _ _ _ ps2 HT6.out ps2_ok (by omega) ps2_tr).mono ?_
  rw [ps2_path.2.2.1, ps2_path.2.2.2.1]
  rintro e w7 ⟨rfl, ht7, hs7⟩
  have HT7 := Lib.hid ht7; have HB7 := Lib.hid (HB6.out.trans hs7.below)
  obtain ⟨a2, a3⟩ := (HX6.out.step hs7 hap).c2
  obtain ⟨b2, b3⟩ := (HY6.out.step hs7 hbp).c2
  clear ht7 hs7 a0 a1 b0 b1 hc0 hc1
  go_wp2_with fail
  refine (under_any 2 0 1 0 3 _ _ _ _ ps2 HT7.out ps2_ok (by omega) ps2_tr).mono ?_
  rw [ps2_path.2.2.2.2]
  rintro e w8 ⟨rfl, hz8⟩
  go_wp2
  go_ret
  exact ⟨rfl, below_trans HB7.out hz8 HB7.out.size⟩
end Go.Proofs.Ytnbljnpfmeidfaa
