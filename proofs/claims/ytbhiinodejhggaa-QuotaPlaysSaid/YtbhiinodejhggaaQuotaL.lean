/- Contracts of the laws' own helpers set, serve and local. Conditions: the band lies in memory as HasBand says, and BInv holds of it. -/
import Derived.Test.YtbhiinodejhggaaQuotaP
namespace Go.Proofs.Ytbhiinodejhggaa
open Go Go.RowKit Go.ChangeShapes Go.WideShapes
set_option linter.unusedVariables false

theorem ensure_k (k : Nat) (w : World) (p : Nat) (b : Bd) (hb : HasBand w p b) (hs : b.Small) (h : k < b.l.length) :
    Calls Try.prog 13 #[.pointer (some ⟨p, 0, none⟩), .int .i64 k] w fun e w' => e = .returned (.bool (b.May k)) ∧ HasBand w' p (b.Ens k) ∧ Tch (· = p) w w' :=
  ensure_any k _ w p b hb hs (Bd.at_get h)
theorem Bd.Chd_at {b : Bd} {k : Nat} (ns : Int) (h : k < b.l.length) : (b.Chd k ns).at k = b.left (b.at k) ns := Bd.at_of (Bd.charged_loc ns (Bd.at_get h))
theorem charge_k (k : Nat) (ns : Int) (w : World) (p : Nat) (b : Bd) (hb : HasBand w p b) (hs : b.Small) (h : k < b.l.length) (h0 : 0 ≤ ns) (h1 : ns ≤ 1000000000) (hs2 : (b.Chd k ns).Small) :
    Calls Try.prog 25 #[.pointer (some ⟨p, 0, none⟩), .int .i64 k, .int .i64 ns] w fun e w' => e = .returned (.tuple #[.bool ((b.Chd k ns).May k), .int .i64 0]) ∧ HasBand w' p (b.Chg k ns) ∧ Tch (· = p) w w' := by
  have c := charge_any k _ ns w p b hb hs (Bd.at_get h) h0 h1 hs2
  unfold Bd.May Bd.Chg Bd.Ens
  rw [Bd.Chd_at ns h]
  exact c
theorem return_k (k : Nat) (w : World) (p : Nat) (b : Bd) (hb : HasBand w p b) (hs : b.Small) (h : k < b.l.length) :
    Calls Try.prog 15 #[.pointer (some ⟨p, 0, none⟩), .int .i64 k] w fun e w' => e = .returned (.tuple #[]) ∧ HasBand w' p (b.Back k) ∧ Tch (· = p) w w' :=
  return_in k _ w p b hb hs (Bd.at_get h)
theorem local_k (k : Nat) (w : World) (p : Nat) (b : Bd) (hb : HasBand w p b) (h : k < b.l.length) :
    Calls Try.prog 14 #[.pointer (some ⟨p, 0, none⟩), .int .i64 k] w fun e w' => e = .returned (.int .i64 (b.at k)) ∧ w = w' := by
  have c := local_in k w p b hb h
  rw [Bd.at_of (List.getElem?_eq_getElem h)]
  exact c
theorem set_law (ps t0 t1 : Nat) (w : World) (h0 : t0 ≤ 4294967295) (h1 : t1 ≤ 4294967295) (hps : ps ≤ 255) :
    Calls Try.prog 11 #[.int .u8 ps, .agg #[.int .u32 t0, .int .u32 t1]] w fun e w' => ∃ p, e = .returned (.pointer (some ⟨p, 0, none⟩)) ∧ w.heap.size ≤ p ∧ HasBand w' p ⟨1 + t0, 1 + t1, 1 + t0, 0, List.replicate (1 + ps % 8) 0⟩ ∧ Below w.heap.size w w' := by
  have hm : ps % 8 < 8 := Nat.mod_lt _ (by decide)
  go_enter Try.func11, Try.ntmps11
  go_wp2_with fail
  rw [show (1 + (ps : Int) % 8) = ((1 + ps % 8 : Nat) : Int) from by omega]
  refine (new_yes (1 + ps % 8) _ (by omega) (by omega)).mono ?_
  rintro e w1 ⟨rfl, hb1, hz1⟩
  have hx : w1.heap[w.heap.size]? = some (.cells #[.int .u32 t0, .int .u32 t1] 23 (0, 0)) := by
    rw [hz1.block w.heap.size (by simp)]; exact heap_alloc_new w _
  have x0 : w1.cell? ⟨w.heap.size, 0, none⟩ = some (.int .u32 t0) := by simp [World.cell?, hx]
  have x1 : w1.cell? ⟨w.heap.size, 1, none⟩ = some (.int .u32 t1) := by simp [World.cell?, hx]
  have hsz := hz1.size
  simp only [World.size_alloc] at hsz
  have hxl : w.heap.size < w1.heap.size := by omega
  have hzz : (w.alloc (.cells #[.int .u32 t0, .int .u32 t1] 23)).heap.size = w.heap.size + 1 := by simp
  rw [hzz] at hb1
  have HB1 := Lib.hid hb1
  have HZ1 := Lib.hid (((Below.refl w.heap.size w).alloc (Nat.le_refl _) (.cells #[.int .u32 t0, .int .u32 t1] 23)).trans (below_le hz1 (by simp)))
  clear hb1 hz1 hx hsz hzz
  go_wp2_with fail
  refine (set_ok (1 + t0) (1 + t1) _ _ _ HB1.out (by unfold BadSet; omega)).mono ?_
  rintro e w2 ⟨rfl, hb2, ht2⟩
  have hb3 : HasBand w2 (w.heap.size + 1) ⟨1 + t0, 1 + t1, 1 + t0, 0, List.replicate (1 + ps % 8) 0⟩ := by
    have := hb2
    unfold Bd.setTo at this
    rw [if_neg (by omega)] at this
    simpa using this
  have HB3 := Lib.hid hb3
  have HZ2 := Lib.hid (HZ1.out.trans (ht2.below HZ1.out.size (fun k hk => by omega)))
  clear hb2 ht2 hb3 x0 x1
  go_wp2
  go_ret
  exact ⟨_, rfl, by simp, HB3.out, HZ2.out⟩

/-- the sum of the first ones -/
def sumTo (l : List Int) (k : Nat) : Int := (l.take k).sum
theorem sumTo_succ (b : Bd) (k : Nat) (h : k < b.l.length) : sumTo b.l (k + 1) = sumTo b.l k + b.at k := by
  unfold sumTo
  rw [List.take_succ_eq_append_getElem h, List.sum_append, Bd.at_of (List.getElem?_eq_getElem h)]
  simp
theorem sumTo_all (l : List Int) : sumTo l l.length = l.sum := by simp [sumTo]
theorem sumTo_bound (b : Bd) (hs : b.Small) (k : Nat) (hk : k ≤ 64) : -72057594037927936 ≤ sumTo b.l k ∧ sumTo b.l k ≤ 72057594037927936 := by
  have h1 := sum_low 1125899906842624 (b.l.take k) (fun x hx => (hs.l x (List.mem_of_mem_take hx)).1)
  have h2 := sum_high 1099511627776 (b.l.take k) (fun x hx => (hs.l x (List.mem_of_mem_take hx)).2)
  have h3 : (b.l.take k).length ≤ 64 := by simp; omega
  unfold sumTo
  omega
set_option maxHeartbeats 1000000 in
theorem local_law (ps : Nat) (w : World) (p : Nat) (b : Bd) (hb : HasBand w p b) (hs : b.Small) (hn : b.l.length = 1 + ps % 8) (hps : ps ≤ 255) :
    Calls Try.prog 19 #[.pointer (some ⟨p, 0, none⟩), .int .u8 ps] w fun e w' => e = .returned (.int .i64 b.l.sum) ∧ w = w' := by
  have hm : ps % 8 < 8 := Nat.mod_lt _ (by decide)
  have HB := Lib.hid hb; have HS := Lib.hid hs; have HN := Lib.hid hn
  clear hb hs hn
  go_enter Try.func19, Try.ntmps19
  go_wp2_with fail
  go_loop [5, 6] (fun s i => ∃ k : Nat, k ≤ 1 + ps % 8 ∧ i = .int .i64 k ∧ s = .int .i64 (sumTo b.l k)) (fun _ i => 1 + ps % 8 - (intOf i).toNat)
  case atStart => exact ⟨0, by omega, rfl, rfl⟩
  case round =>
    obtain ⟨k, hk, rfl, rfl⟩ := hrel
    by_cases hlt : k < 1 + ps % 8
    · have hlt' : (k : Int) < 1 + (ps : Int) % 8 := by omega
      have hkl : k < b.l.length := by rw [HN.out]; exact hlt
      obtain ⟨s1, s2⟩ := sumTo_bound b HS.out k (by omega)
      obtain ⟨a1, a2⟩ := HS.out.loc (Bd.at_get hkl)
      have HSU := Lib.hid (sumTo_succ b k hkl)
      go_wp2_with (go_at_call 14; refine (local_k _ _ _ _ HB.out hkl).mono ?_; rintro e w1 ⟨rfl, rfl⟩)
      go_round
      case rel => exact ⟨k + 1, by omega, by go_num, by rw [HSU.out]⟩
      case measure => simp [intOf]; omega
    · have hlt' : ¬ (k : Int) < 1 + (ps : Int) % 8 := by omega
      have hfin : sumTo b.l k = b.l.sum := by rw [show k = b.l.length by rw [HN.out]; omega]; exact sumTo_all _
      have HF := Lib.hid hfin; clear hfin
      go_wp2
      go_ret
      exact ⟨by rw [← HF.out]; rfl, rfl⟩

/-- what a band keeps, whole -/
structure Good (w : World) (p n : Nat) (q s d began : Int) (b : Bd) : Prop where
  has : HasBand w p b
  inv : BInv n q s d began b
theorem Tch.one {p : Nat} {a b c : World} (h : Tch (· = p) a b) (k : Tch (· = p) b c) : Tch (· = p) a c := h.trans k (fun x hx => .inl hx)
set_option maxHeartbeats 1000000 in
theorem serve_law (kd : Int) (P ns ps : Nat) (w : World) (p n : Nat) (q s d began : Int) (b : Bd) (g : Good w p n q s d began b) (t : Terms n q s d began) (hn : n = 1 + ps % 8) (hps : ps ≤ 255) (hP : P ≤ 255) (hns : ns ≤ 4294967295) :
    Calls Try.prog 17 #[.pointer (some ⟨p, 0, none⟩), .agg #[.int .i64 kd, .int .u8 P, .int .u32 ns], .int .u8 ps, .int .i64 d] w fun e w' =>
      e = .returned (.tuple #[]) ∧ Good w' p n q s d began (b.serve kd (P % n) (ns % (d + 1))) ∧ Tch (· = p) w w' := by
  have hm : ps % 8 < 8 := Nat.mod_lt _ (by decide)
  have hkn : P % n < n := Nat.mod_lt _ (by omega)
  obtain ⟨d1, d2⟩ := t.hd
  have r0 : 0 ≤ (ns : Int) % (d + 1) := Int.emod_nonneg _ (by omega)
  have r1 : (ns : Int) % (d + 1) < d + 1 := Int.emod_lt_of_pos _ (by omega)
  have HG := Lib.hid g
  have HT := Lib.hid t
  have HK : Hid ((P : Int) % (1 + (ps : Int) % 8) = ((P % n : Nat) : Int)) := Lib.hid (by rw [Int.natCast_emod, hn, show ((1 + ps % 8 : Nat) : Int) = 1 + (ps : Int) % 8 from by omega])
  have HX := Lib.hid (g.inv.serve t kd (P % n) hkn (ns % (d + 1)) r0 (by omega))
  have HSm := Lib.hid (g.inv.small t)
  have HL : Hid (P % n < b.l.length) := Lib.hid (by rw [g.inv.len]; exact hkn)
  have HEi := Lib.hid (g.inv.ens t (P % n) hkn)
  have HMay := Lib.hid (g.inv.may t (P % n) hkn)
  clear g t hn
  generalize P % n = k at *
  generalize hr : (ns : Int) % (d + 1) = r at *
  have HR := Lib.hid hr; clear hr
  by_cases hkd : kd = 1
  · subst hkd
    have e1 : b.serve 1 k r = b.Back k := by unfold Bd.serve; rw [if_pos rfl]
    have HE := Lib.hid e1; clear e1
    go_enter Try.func17, Try.ntmps17
    go_wp2_with fail
    rw [HK.out]
    refine (return_k k _ _ _ (HG.out.has.alloc _) HSm.out HL.out).mono ?_
    rintro e w1 ⟨rfl, hb1, ht1⟩
    have HB1 := Lib.hid hb1; have HT1 := Lib.hid ht1; clear hb1 ht1
    go_wp2
    first | (refine bodyPost_ret (results_none rfl _ _ _) rfl ?_) | go_end0
    exact ⟨rfl, ⟨by rw [HE.out]; exact HB1.out, HX.out⟩, ((Tch.refl _ _).alloc _).one HT1.out⟩
  · have hkb : (kd == 1) = false := beq_eq_false_iff_ne.2 hkd
    cases hmay : b.May k with
    | true =>
      have e1 : b.serve kd k r = (b.Ens k).Chg k r := by unfold Bd.serve; rw [if_neg hkd, if_pos hmay]
      have hpos : 0 < (b.Ens k).at k := by have := HMay.out; rw [hmay] at this; simpa using this.symm
      have HCi := Lib.hid (HEi.out.chd HT.out k hkn r r0 (by omega) hpos)
      have HE := Lib.hid e1; have HM := Lib.hid hmay
      clear e1 hmay hpos hkd
      go_enter Try.func17, Try.ntmps17
      go_wp2_with fail
      rw [HK.out]
      refine (ensure_k k _ _ _ (HG.out.has.alloc _) HSm.out HL.out).mono ?_
      rw [HM.out]
      rintro e w1 ⟨rfl, hb1, ht1⟩
      have HB1 := Lib.hid hb1; have HT1 := Lib.hid (((Tch.refl (· = p) w).alloc (.cells #[.int .i64 kd, .int .u8 P, .int .u32 ns] 35)).one ht1)
      have hx : w1.heap[w.heap.size]? = some (.cells #[.int .i64 kd, .int .u8 P, .int .u32 ns] 35 (0, 0)) := by
        rw [ht1.block w.heap.size (by simp) (fun e => by have := HG.out.has.lt; omega)]; exact heap_alloc_new w _
      have x2 : w1.cell? ⟨w.heap.size, 2, none⟩ = some (.int .u32 ns) := by simp [World.cell?, hx]
      have hsz := ht1.size
      simp only [World.size_alloc] at hsz
      have hxl : w.heap.size < w1.heap.size := by omega
      clear hb1 ht1 hx hsz
      go_wp2_with fail
      rw [HR.out]
      refine (charge_k k r _ _ _ HB1.out (HEi.out.small HT.out) (by rw [HEi.out.len]; exact hkn) r0 (by omega) (HCi.out.small HT.out)).mono ?_
      rintro e w2 ⟨rfl, hb2, ht2⟩
      have HB2 := Lib.hid hb2; have HT2 := Lib.hid (HT1.out.one ht2)
      clear hb2 ht2
      go_wp2
      go_end0
      exact ⟨rfl, ⟨by rw [HE.out]; exact HB2.out, HX.out⟩, HT2.out⟩
    | false =>
      have e1 : b.serve kd k r = b.Ens k := by unfold Bd.serve; rw [if_neg hkd, if_neg (by rw [hmay]; simp)]
      have HE := Lib.hid e1; have HM := Lib.hid hmay
      clear e1 hmay hkd
      go_enter Try.func17, Try.ntmps17
      go_wp2_with fail
      rw [HK.out]
      refine (ensure_k k _ _ _ (HG.out.has.alloc _) HSm.out HL.out).mono ?_
      rw [HM.out]
      rintro e w1 ⟨rfl, hb1, ht1⟩
      have HB1 := Lib.hid hb1; have HT1 := Lib.hid (((Tch.refl (· = p) w).alloc (.cells #[.int .i64 kd, .int .u8 P, .int .u32 ns] 35)).one ht1)
      clear hb1 ht1
      go_wp2
      go_end0
      exact ⟨rfl, ⟨by rw [HE.out]; exact HB1.out, HX.out⟩, HT1.out⟩
end Go.Proofs.Ytbhiinodejhggaa
