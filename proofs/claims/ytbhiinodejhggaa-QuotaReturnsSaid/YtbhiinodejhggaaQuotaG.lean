/- Contracts of the program's package quota: Set, Charge, Refill. Conditions: the band lies in memory as HasBand says. -/
import Derived.Test.YtbhiinodejhggaaQuotaF
import Derived.Test.YtbhiinodejhggaaSat
namespace Go.Proofs.Ytbhiinodejhggaa
open Go Go.RowKit Go.ChangeShapes Go.WideShapes
set_option linter.unusedVariables false

theorem set_nil (q s : Int) (w : World) : Calls Try.prog 22 #[.pointer none, .int .i64 q, .int .i64 s] w fun e w' => e = .returned (.int .i64 1) ∧ w = w' := by
  go_enter Try.func22, Try.ntmps22
  go_wp2
  go_ret
  exact ⟨rfl, rfl⟩
/-- a quota and a slice that Set refuses -/
def BadSet (q s : Int) : Prop := q < 0 ∨ 1099511627776 < q ∨ (q ≠ 0 ∧ (s < 1 ∨ 1099511627776 < s))
theorem set_bad (q s : Int) (w : World) (p : Nat) (h : BadSet q s) : Calls Try.prog 22 #[.pointer (some ⟨p, 0, none⟩), .int .i64 q, .int .i64 s] w fun e w' => e = .returned (.int .i64 1) ∧ w = w' := by
  by_cases h1 : q < 0
  · clear h
    go_enter Try.func22, Try.ntmps22
    go_wp2
    go_ret
    exact ⟨rfl, rfl⟩
  · by_cases h2 : 1099511627776 < q
    · clear h
      go_enter Try.func22, Try.ntmps22
      go_wp2
      go_ret
      exact ⟨rfl, rfl⟩
    · have h3 : q ≠ 0 ∧ (s < 1 ∨ 1099511627776 < s) := by
        rcases h with h | h | h
        · omega
        · omega
        · exact h
      obtain ⟨hq, h3⟩ := h3
      have hqb : (q == 0) = false := beq_eq_false_iff_ne.2 hq
      clear h hq
      rcases h3 with h3 | h3
      · go_enter Try.func22, Try.ntmps22
        go_wp2
        go_ret
        exact ⟨rfl, rfl⟩
      · go_enter Try.func22, Try.ntmps22
        go_wp2
        go_ret
        exact ⟨rfl, rfl⟩
theorem int_zero (w : World) : (zeroValue 2).run Try.prog w = .ok (.int .i64 0) w := by kernel_rfl
theorem clear_band (T : TypeId) (w : World) (p : Nat) (b : Bd) (hb : HasBand w p b) : (Builtin.clear_ #[40] T #[.slice (some ⟨p, 4, none⟩) b.l.length 64]).run Try.prog w =
    .ok (.tuple #[]) (w.setRow p (((b.cells p).toArray.toList.take 4 ++ List.replicate b.l.length (Value.int .i64 0) ++ (b.cells p).toArray.toList.drop (4 + b.l.length)).toArray)) := by
  have hst := run_storeCells_at Try.prog p 4 66 (List.replicate b.l.length (Value.int .i64 0)) 0 (b.cells p).toArray w hb.blk (by have := hb.hi; simp [Bd.cells_length p b hb.hi]; omega) (by intro v hv; rw [List.eq_of_mem_replicate hv]; rfl)
  have hlo := hb.lo
  obtain ⟨n, hn⟩ : ∃ n, b.l.length = n + 1 := ⟨b.l.length - 1, by omega⟩
  have hz := int_zero w
  have hzc : Builtin.zeroCells #[Value.int .i64 0] b.l.length = (List.replicate b.l.length (Value.int .i64 0)).toArray := by
    have e : (fun i : Nat => (#[Value.int .i64 0])[i % (#[Value.int .i64 0]).size]!) = fun _ => Value.int .i64 0 := by funext i; simp [Nat.mod_one]
    unfold Builtin.zeroCells
    rw [e]
    exact Array.ext (by simp) (by intros; simp)
  simp only [List.length_replicate, Nat.add_zero] at hst
  rw [hn] at hst hzc ⊢
  simp [Builtin.clear_, run_underlying Try.underlying40, hz, Value.cells, hzc, hst]
theorem Tch.setRow {F : Nat → Prop} {a w : World} (h : Tch F a w) {g : Nat} (hg : F g ∨ a.heap.size ≤ g) (cs : Array Value) : Tch F a (w.setRow g cs) :=
  ⟨h.os, h.tape, h.output, by simpa using h.size, fun k hk hf => by
    rw [setRow_other w g k cs (by rintro rfl; rcases hg with hg | hg; exact hf hg; omega)]; exact h.block k hk hf⟩
def Bd.setTo (b : Bd) (q s : Int) : Bd := ⟨q, if q = 0 then 0 else s, q, 0, List.replicate b.l.length 0⟩
set_option maxHeartbeats 1000000 in
theorem set_ok (q s : Int) (w : World) (p : Nat) (b : Bd) (hb : HasBand w p b) (h : ¬ BadSet q s) :
    Calls Try.prog 22 #[.pointer (some ⟨p, 0, none⟩), .int .i64 q, .int .i64 s] w fun e w' => e = .returned (.int .i64 0) ∧ HasBand w' p (b.setTo q s) ∧ Tch (· = p) w w' := by
  obtain ⟨c0, c1, c2, c3, c4⟩ := hb.cell
  have hp := hb.lt
  have hf0 := hb.free 0
  have hf1 := hb.free 1
  have hf2 := hb.free 2
  have hf3 := hb.free 3
  have HB := Lib.hid hb
  have hq0 : 0 ≤ q := by unfold BadSet at h; omega
  have hq1 : q ≤ 1099511627776 := by unfold BadSet at h; omega
  unfold Bd.setTo
  by_cases hq : q = 0
  · rw [if_pos hq]
    subst hq
    clear hb h hq0 hq1
    go_enter Try.func22, Try.ntmps22
    go_upto_region 9 with (fail)
    obtain ⟨w2, hw2⟩ : ∃ w2, w2 = (((w.setCell ⟨p, 0, none⟩ (.int .i64 0)).setCell ⟨p, 1, none⟩ (.int .i64 0)).setCell ⟨p, 2, none⟩ (.int .i64 0)).setCell ⟨p, 3, none⟩ (.int .i64 0) := ⟨_, rfl⟩
    rw [← hw2]
    have hB2 : HasBand w2 p ⟨0, 0, 0, 0, b.l⟩ := by rw [hw2]; exact (((HB.out.q_ 0).s_ 0).pool_ 0).spent_ 0
    have hT2 : Tch (· = p) w w2 := by rw [hw2]; exact Tch.setCell (F := (· = p)) (Tch.setCell (F := (· = p)) (Tch.setCell (F := (· = p)) (Tch.setCell (F := (· = p)) (Tch.refl _ _) (.inl rfl) _) (.inl rfl) _) (.inl rfl) _) (.inl rfl) _
    have hcl := fun T => clear_band T w2 p _ hB2
    have hlt2 := hB2.lt
    have c5 := hB2.cell.2.2.2.2
    obtain ⟨w3, hw3⟩ : ∃ w3, w3 = w2.setRow p ((((⟨0, 0, 0, 0, b.l⟩ : Bd).cells p).toArray.toList.take 4 ++ List.replicate b.l.length (Value.int .i64 0) ++ ((⟨0, 0, 0, 0, b.l⟩ : Bd).cells p).toArray.toList.drop (4 + b.l.length)).toArray) := ⟨_, rfl⟩
    have hB3 : HasBand w3 p ⟨0, 0, 0, 0, List.replicate b.l.length 0⟩ := by rw [hw3]; exact hB2.cleared b.l.length rfl
    have hT3 : Tch (· = p) w w3 := by rw [hw3]; exact Tch.setRow (F := (· = p)) hT2 (.inl rfl) _
    rw [← hw3] at hcl
    have HB3 := Lib.hid hB3; have HT3 := Lib.hid hT3
    clear hw2 hw3 hB3 hT3 hB2 hT2 c0 c1 c2 c3 c4 hf0 hf1 hf2 hf3
    go_wp2
    go_ret
    exact ⟨rfl, HB3.out, HT3.out⟩
  · rw [if_neg hq]
    have hs0 : 1 ≤ s := by unfold BadSet at h; omega
    have hs1 : s ≤ 1099511627776 := by unfold BadSet at h; omega
    have hqb : (q == 0) = false := beq_eq_false_iff_ne.2 hq
    clear hb h hq
    go_enter Try.func22, Try.ntmps22
    go_upto_region 9 with (fail)
    obtain ⟨w2, hw2⟩ : ∃ w2, w2 = (((w.setCell ⟨p, 0, none⟩ (.int .i64 q)).setCell ⟨p, 1, none⟩ (.int .i64 s)).setCell ⟨p, 2, none⟩ (.int .i64 q)).setCell ⟨p, 3, none⟩ (.int .i64 0) := ⟨_, rfl⟩
    rw [← hw2]
    have hB2 : HasBand w2 p ⟨q, s, q, 0, b.l⟩ := by rw [hw2]; exact (((HB.out.q_ q).s_ s).pool_ q).spent_ 0
    have hT2 : Tch (· = p) w w2 := by rw [hw2]; exact Tch.setCell (F := (· = p)) (Tch.setCell (F := (· = p)) (Tch.setCell (F := (· = p)) (Tch.setCell (F := (· = p)) (Tch.refl _ _) (.inl rfl) _) (.inl rfl) _) (.inl rfl) _) (.inl rfl) _
    have hcl := fun T => clear_band T w2 p _ hB2
    have hlt2 := hB2.lt
    have c5 := hB2.cell.2.2.2.2
    obtain ⟨w3, hw3⟩ : ∃ w3, w3 = w2.setRow p ((((⟨q, s, q, 0, b.l⟩ : Bd).cells p).toArray.toList.take 4 ++ List.replicate b.l.length (Value.int .i64 0) ++ ((⟨q, s, q, 0, b.l⟩ : Bd).cells p).toArray.toList.drop (4 + b.l.length)).toArray) := ⟨_, rfl⟩
    have hB3 : HasBand w3 p ⟨q, s, q, 0, List.replicate b.l.length 0⟩ := by rw [hw3]; exact hB2.cleared b.l.length rfl
    have hT3 : Tch (· = p) w w3 := by rw [hw3]; exact Tch.setRow (F := (· = p)) hT2 (.inl rfl) _
    rw [← hw3] at hcl
    have HB3 := Lib.hid hB3; have HT3 := Lib.hid hT3
    clear hw2 hw3 hB3 hT3 hB2 hT2 c0 c1 c2 c3 c4 hf0 hf1 hf2 hf3
    go_wp2
    go_ret
    exact ⟨rfl, HB3.out, HT3.out⟩

theorem charge_nil (k ns : Int) (w : World) : Calls Try.prog 25 #[.pointer none, .int .i64 k, .int .i64 ns] w fun e w' => e = .returned (.tuple #[.bool false, .int .i64 1]) ∧ w = w' := by
  go_enter Try.func25, Try.ntmps25
  go_wp2_with (go_at_call 31; refine (there_nil _ _).mono ?_; rintro e w1 ⟨rfl, rfl⟩)
  go_ret2
  exact ⟨rfl, rfl⟩
theorem charge_not (k ns : Int) (w : World) (p : Nat) (b : Bd) (hb : HasBand w p b) (h : NotP b k) : Calls Try.prog 25 #[.pointer (some ⟨p, 0, none⟩), .int .i64 k, .int .i64 ns] w fun e w' => e = .returned (.tuple #[.bool false, .int .i64 1]) ∧ w = w' := by
  go_enter Try.func25, Try.ntmps25
  go_wp2_with (go_at_call 31; refine (there_not _ _ _ _ hb h).mono ?_; rintro e w1 ⟨rfl, rfl⟩)
  go_ret2
  exact ⟨rfl, rfl⟩
theorem charge_tick (k : Nat) (ns : Int) (w : World) (p : Nat) (b : Bd) (hb : HasBand w p b) (h : k < b.l.length) (hn : ns < 0 ∨ 1000000000 < ns) : Calls Try.prog 25 #[.pointer (some ⟨p, 0, none⟩), .int .i64 k, .int .i64 ns] w fun e w' => e = .returned (.tuple #[.bool false, .int .i64 8]) ∧ w = w' := by
  rcases hn with hn | hn
  · go_enter Try.func25, Try.ntmps25
    go_wp2_with (go_at_call 31; refine (there_in _ _ _ _ hb h).mono ?_; rintro e w1 ⟨rfl, rfl⟩)
    go_ret2
    exact ⟨rfl, rfl⟩
  · go_enter Try.func25, Try.ntmps25
    go_wp2_with (go_at_call 31; refine (there_in _ _ _ _ hb h).mono ?_; rintro e w1 ⟨rfl, rfl⟩)
    go_ret2
    exact ⟨rfl, rfl⟩
/-- a band behind a charge, ahead of Ensure; and what it has of a P then -/
def Bd.charged (b : Bd) (k : Nat) (o ns : Int) : Bd := if b.q = 0 then { b with spent := b.spent + ns } else { b with spent := b.spent + ns, l := b.l.set k (o - ns) }
def Bd.left (b : Bd) (o ns : Int) : Int := if b.q = 0 then o else o - ns
theorem Bd.charged_loc {b : Bd} {k : Nat} {o : Int} (ns : Int) (h : b.l[k]? = some o) : (b.charged k o ns).l[k]? = some (b.left o ns) := by
  unfold Bd.charged Bd.left
  split
  · exact h
  · exact List.getElem?_set_self (List.getElem?_eq_some_iff.1 h).1
set_option maxHeartbeats 1000000 in
theorem charge_any (k : Nat) (o ns : Int) (w : World) (p : Nat) (b : Bd) (hb : HasBand w p b) (hs : b.Small) (h : b.l[k]? = some o) (h0 : 0 ≤ ns) (h1 : ns ≤ 1000000000) (hs2 : (b.charged k o ns).Small) :
    Calls Try.prog 25 #[.pointer (some ⟨p, 0, none⟩), .int .i64 k, .int .i64 ns] w fun e w' => e = .returned (.tuple #[.bool ((b.charged k o ns).may (b.left o ns)), .int .i64 0]) ∧ HasBand w' p ((b.charged k o ns).ens k (b.left o ns)) ∧ Tch (· = p) w w' := by
  obtain ⟨c0, c1, c2, c3, c4⟩ := hb.cell
  obtain ⟨hk, hko⟩ := List.getElem?_eq_some_iff.1 h
  have hl := hb.loc k hk
  rw [hko] at hl
  have hp := hb.lt
  have hi := hb.hi
  have hf3 := hb.free 3
  have hf4 := hb.free (4 + k)
  obtain ⟨o1, o2⟩ := hs.loc h
  obtain ⟨s1, s2⟩ := hs.spent
  have hl2 := Lib.hid (Bd.charged_loc ns h)
  have HB := Lib.hid hb
  have HS2 := Lib.hid hs2
  by_cases hq : b.q = 0
  · rw [hq] at c0
    have HBC : Hid (HasBand ((w.setCell ⟨p, 3, none⟩ (.int .i64 (b.spent + ns))).alloc (.cells #[.int .i64 ns] 2)) p (b.charged k o ns)) := Lib.hid (by unfold Bd.charged; rw [if_pos hq]; exact (HB.out.spent_ (b.spent + ns)).alloc _)
    clear hb h hko hs hs2 hq
    go_enter Try.func25, Try.ntmps25
    go_wp2_with (first | (go_at_call 31; refine (there_in _ _ _ _ HB.out hk).mono ?_; rintro e w1 ⟨rfl, rfl⟩) | (go_at_call 34; refine (sat_yes _ _ _ (by omega) (by omega) (by omega)).mono ?_; rintro e w1 ⟨rfl, rfl⟩))
    refine (ensure_any k _ _ _ _ HBC.out HS2.out hl2.out).mono ?_
    rintro e w2 ⟨rfl, hb2, ht2⟩
    have HB2 := Lib.hid hb2; have HT2 := Lib.hid ht2; clear hb2 ht2
    go_wp2
    go_ret2
    exact ⟨rfl, HB2.out, ((Tch.setCell (F := (· = p)) (Tch.refl _ _) (.inl rfl) _).alloc _).trans HT2.out (fun x hx => .inl hx)⟩
  · have hq0 : 0 < b.q := by have := hs.q; omega
    have HBC : Hid (HasBand (((w.setCell ⟨p, 3, none⟩ (.int .i64 (b.spent + ns))).setCell ⟨p, 4 + k, none⟩ (.int .i64 (o - ns))).alloc (.cells #[.int .i64 ns] 2)) p (b.charged k o ns)) := Lib.hid (by unfold Bd.charged; rw [if_neg hq]; exact ((HB.out.spent_ (b.spent + ns)).loc_ k hk _).alloc _)
    clear hb h hko hs hs2 hq
    go_enter Try.func25, Try.ntmps25
    go_wp2_with (first | (go_at_call 31; refine (there_in _ _ _ _ HB.out hk).mono ?_; rintro e w1 ⟨rfl, rfl⟩) | (go_at_call 34; refine (sat_yes _ _ _ (by omega) (by omega) (by omega)).mono ?_; rintro e w1 ⟨rfl, rfl⟩))
    refine (ensure_any k _ _ _ _ HBC.out HS2.out hl2.out).mono ?_
    rintro e w2 ⟨rfl, hb2, ht2⟩
    have HB2 := Lib.hid hb2; have HT2 := Lib.hid ht2; clear hb2 ht2
    go_wp2
    go_ret2
    exact ⟨rfl, HB2.out, ((Tch.setCell (F := (· = p)) (Tch.setCell (F := (· = p)) (Tch.refl _ _) (.inl rfl) _) (.inl rfl) _).alloc _).trans HT2.out (fun x hx => .inl hx)⟩
end Go.Proofs.Ytbhiinodejhggaa
