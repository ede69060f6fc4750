/- The walk of the law RenormRises: it returns true. Conditions: the arguments are numbers that their kinds hold, and a slice of such within the form's reach. -/
import Derived.Test.YtjokpdgcjhgeeaaAwake
import Derived.Laws.AppendOwnNone
namespace Go.Proofs.Ytjokpdgcjhgeeaa
open Go Go.RowKit Go.ChangeShapes Go.WideShapes
set_option linter.unusedVariables false

theorem lm_le (xs : List Int) : ∀ (k j : Nat), j < k → lm xs k ≤ xs.getD j 0
  | 0, _, h => by omega
  | k + 1, j, h => by
    unfold lm
    by_cases e : j = k
    · subst e; split <;> omega
    · have := lm_le xs k j (by omega)
      split <;> omega
theorem getD_left (xs : List Int) (v : Int) (k : Nat) (h : k < xs.length) : (xs ++ [v]).getD k 0 = xs.getD k 0 := by
  show ((xs ++ [v])[k]?).getD 0 = (xs[k]?).getD 0
  rw [List.getElem?_append_left h]
theorem lm_append (xs : List Int) (v : Int) : ∀ k, 0 < k → k ≤ xs.length → lm (xs ++ [v]) k = lm xs k
  | k + 1, _, h => by
    by_cases e : k = 0
    · subst e
      rw [lm_one, lm_one, getD_left xs v 0 (by omega)]
    · have hk := lm_append xs v k (by omega) (by omega)
      unfold lm
      rw [hk, getD_left xs v k (by omega)]
theorem lm_snoc (xs : List Int) (v : Int) (h : 0 < xs.length) : lm (xs ++ [v]) (xs.length + 1) = if v < lm xs xs.length then v else lm xs xs.length := by
  show (if (xs ++ [v]).getD xs.length 0 < lm (xs ++ [v]) xs.length then (xs ++ [v]).getD xs.length 0 else lm (xs ++ [v]) xs.length) = _
  rw [lm_append xs v _ h (Nat.le_refl _)]
  have : (xs ++ [v]).getD xs.length 0 = v := by simp [List.getD]
  rw [this]
theorem high_low (m : Int) (xs : List Int) : m ≤ highV m xs := by unfold highV; split <;> (try split) <;> omega
theorem high_le (m : Int) (xs : List Int) (j : Nat) (hj : j < xs.length) (h : m < highV m xs) : highV m xs ≤ xs.getD j 0 := by
  have := lm_le xs xs.length j hj
  unfold highV at h ⊢
  split at h
  · omega
  · split at h
    · rw [if_neg (by omega), if_pos (by assumption)]; exact this
    · omega
theorem high_again (m : Int) (xs : List Int) : highV (highV m xs) xs = highV m xs := by
  unfold highV
  by_cases h : xs.length = 0
  · simp [h]
  · simp only [if_neg h]
    by_cases h1 : m < lm xs xs.length
    · rw [if_pos h1, if_neg (by omega)]
    · rw [if_neg h1, if_neg h1]
theorem high_more (m : Int) (xs : List Int) (v : Int) (h : 0 < xs.length) : highV m (xs ++ [v]) ≤ highV m xs := by
  have e1 : highV m (xs ++ [v]) = if m < lm (xs ++ [v]) (xs.length + 1) then lm (xs ++ [v]) (xs.length + 1) else m := by
    unfold highV
    rw [List.length_append, List.length_singleton, if_neg (by omega)]
  have e2 : highV m xs = if m < lm xs xs.length then lm xs xs.length else m := by
    unfold highV
    rw [if_neg (by omega)]
  rw [e1, e2, lm_snoc xs v h]
  repeat' split
  all_goals omega
theorem high_first (m v : Int) : highV m [v] = if m < v then v else m := by
  unfold highV
  simp [lm]
theorem info_i64 : (Try.prog.info? 2).map (fun i => (i.zero, i.size, i.bytes)) = some (some (.int .i64 0), 1, 8) := by kernel_rfl
theorem own_intRow {w : World} {base : Nat} {e : TypeId} {v : Value} {n : Nat} {xs : List Int} (h : w.ownsRow base e 1 v n (xs.map (Value.int .i64))) (hn : 0 < n) :
    ∃ g cap, v = .slice (some ⟨g, 0, none⟩) n cap ∧ IntRow w (some ⟨g, 0, none⟩) n xs := by
  obtain ⟨hl, ⟨rfl, rfl⟩ | ⟨g, cap, cur, rfl, hg, hh, hnc, hcm, hcs, htake⟩⟩ := h
  · omega
  · have hlen : xs.length = n := by simpa using hl
    refine ⟨g, cap, rfl, hlen, by unfold maxLen at hcm; omega, fun j hj => ⟨g, 0, rfl, (Array.getElem?_eq_some_iff.1 hh).1, ?_⟩⟩
    have h1 : (cur.toList.take (n * 1))[j]? = (xs.map (Value.int .i64))[j]? := by rw [htake]
    rw [List.getElem?_take_of_lt (by omega)] at h1
    simp only [World.cell?, hh, Nat.zero_add]
    rw [← Array.getElem?_toList, h1]
    simp [List.getD, hlen, hj]

theorem IntRow.news {w : World} {ad : Addr} {len : Nat} {xs : List Int} (h : IntRow w (some ad) len xs) : ∀ j u, (xs.map (Value.int .i64))[j]? = some u → w.cell? (ad.add j) = some u := by
  intro j u hj
  have hlt : j < xs.length := by
    have := (List.getElem?_eq_some_iff.1 hj).1
    simpa using this
  obtain ⟨b, off, hab, _, hc⟩ := h.cell j (by rw [← h.length]; exact hlt)
  cases hab
  rw [add_plain, hc]
  simp only [List.getElem?_map, List.getElem?_eq_getElem hlt, Option.map_some] at hj
  rw [← hj]
  simp [List.getD, hlt]
theorem ints_oneCell (xs : List Int) : ∀ u ∈ xs.map (Value.int .i64), u.oneCell' = true := by
  intro u hu
  obtain ⟨x, _, rfl⟩ := List.mem_map.1 hu
  rfl
set_option maxHeartbeats 1000000 in
theorem walk_RenormRises (m v : Int) (a : Option Addr) (len cap : Nat) (xs : List Int) (w : World) (hr : IntRow w a len xs) (hreach : len * 8 ≤ 140737488351232) (hnil : a = none → cap = 0) :
    Calls Try.prog 8 #[.int .i64 m, .slice a len cap, .int .i64 v] w fun e w' => e = .returned (.bool true) ∧ Below w.heap.size w w' := by
  have HR := Lib.hid hr; clear hr
  obtain ⟨i0, hi, hz0, hz1, hz2⟩ := info_parts info_i64
  have hlow := high_low m xs
  go_enter Try.func8, Try.ntmps8
  go_wp2_with fail
  refine (awake _).mono ?_
  rintro e w1 ⟨rfl, b0⟩
  go_wp2_with fail
  refine (higher_any _ _ _ _ xs _ (HR.out.below b0)).mono ?_
  rintro e w' ⟨rfl, n1, rfl⟩
  have HA := Lib.hid (high_le m xs); have HG := Lib.hid (high_again m xs); have HO := Lib.hid (high_more m xs v)
  have HF := Lib.hid (show len = 0 → highV m xs = m from fun h => by unfold highV; rw [HR.out.length, if_pos h])
  generalize highV m xs = n at *
  go_wp2_with fail
  go_loopw [9] (fun i wr => ∃ k : Nat, k ≤ len ∧ i = .int .i64 k ∧ ∃ q, wr = w1.drewN q) (fun i _ => len - (intOf i).toNat)
  case atStart => exact ⟨0, Nat.zero_le _, rfl, _, rfl⟩
  case round =>
    obtain ⟨k, hk, rfl, q, rfl⟩ := hrel
    by_cases hlt : k < len
    · obtain ⟨b, off, rfl, hb, hc⟩ := ((HR.out.below b0).drewN q).cell k hlt
      have hle := HA.out k (by rw [HR.out.length]; exact hlt)
      generalize xs.getD k 0 = x at *
      by_cases hm : m < n
      · have hle := hle hm
        go_wp2
        try (go_quiet (fail); go_wp2)
        go_roundw
        case rel => exact ⟨k + 1, by omega, by go_num, _, rfl⟩
        case measure => simp [intOf]; omega
      · clear hle
        go_wp2
        try (go_quiet (fail); go_wp2)
        go_roundw
        case rel => exact ⟨k + 1, by omega, by go_num, _, rfl⟩
        case measure => simp [intOf]; omega
    · obtain rfl : k = len := by omega
      rcases a with _ | ⟨ab, ao, asp⟩
      · have hk00 : k = 0 := by
          rcases Nat.eq_zero_or_pos k with h | h
          · exact h
          · obtain ⟨_, _, h', _⟩ := HR.out.cell 0 h; cases h'
        obtain rfl : cap = 0 := hnil rfl
        subst hk00
        have hown1 : ((w1.drewN q).alloc (.cells #[] 2)).ownsRow w.heap.size 2 1 (.slice (some ⟨w1.heap.size, 0, none⟩) 0 0) 0 [] := World.ownsRow_lit _ #[] 0 (by have := b0.size; simpa using this) (by decide) rfl
        have hb2 : Below w.heap.size w ((w1.drewN q).alloc (.cells #[] 2)) := (below_drewN b0 _).alloc (by simpa using b0.size) _
        obtain rfl : xs = [] := List.eq_nil_of_length_eq_zero HR.out.length
        go_wp2_with (at_builtin; (first | (refine wpList_append_own_none rfl _ _ 28 rfl w.heap.size 2 i0 1 Try.underlying28 hi _ 0 [] rfl hown1 rfl ?_) | (refine wpList_append_own _ rfl _ _ 28 rfl w.heap.size 2 i0 (.int .i64 0) 1 8 Try.underlying28 hi hz0 hz1 hz2 rfl (by decide) _ _ _ rfl (hown1.alloc _) ⟨w1.heap.size + 1, 0, none⟩ 1 1 [.int .i64 v] rfl rfl ?e1 ?e2 ?e3 ?e4 ?e5 ?_)))
        case e2 => rfl
        case e3 => unfold maxLen; omega
        case e5 => have := hb2.size; simp at this ⊢; omega
        intro v2 w3 hown2 hgrow2 _
        have hb3 : Below w.heap.size w w3 := (hb2.alloc hb2.size _).grown hgrow2 (by have := hb2.size; simp at this ⊢; omega) (fun k hk => (hown1.lt k hk).1)
        clear hown1 hgrow2
        obtain ⟨g, cap2, rfl, hrow2⟩ := own_intRow (xs := [] ++ [v]) (by simpa using hown2) (by omega)
        clear hown2
        have HW := Lib.hid hrow2; clear hrow2
        go_wp2_with fail
        refine (higher_any _ _ _ _ ([] ++ [v]) _ HW.out).mono ?_
        rintro e w4 ⟨rfl, n4, rfl⟩
        have hr4 := Lib.hid ((HR.out.below hb3).drewN n4)
        obtain rfl : n = m := by first | exact HF.out rfl | exact HF.out trivial | exact HF.out
        rw [List.nil_append, high_first]
        rcases Int.lt_trichotomy n v with hv | hv | hv
        · rw [if_pos hv]
          go_wp2_with (go_at_call 18; refine (higher_any _ _ _ _ [] _ hr4.out).mono ?_; rw [HG.out]; rintro e w5 ⟨rfl, n5, rfl⟩)
          go_ret
          exact ⟨rfl, by repeat (first | exact hb3 | apply below_drewN)⟩
        · subst hv
          rw [if_neg (by omega)]
          go_wp2_with (go_at_call 18; refine (higher_any _ _ _ _ [] _ hr4.out).mono ?_; rw [HG.out]; rintro e w5 ⟨rfl, n5, rfl⟩)
          go_ret
          exact ⟨rfl, by repeat (first | exact hb3 | apply below_drewN)⟩
        · rw [if_neg (by omega)]
          go_wp2_with (go_at_call 18; refine (higher_any _ _ _ _ [] _ hr4.out).mono ?_; rw [HG.out]; rintro e w5 ⟨rfl, n5, rfl⟩)
          go_ret
          exact ⟨rfl, by repeat (first | exact hb3 | apply below_drewN)⟩
      · have hrow := (((HR.out.below b0).drewN q).below (w' := (w1.drewN q).alloc (.cells #[] 2)) ((Below.refl _ _).alloc (Nat.le_refl _) _))
        have HN := Lib.hid hrow.news
        have HL := Lib.hid hrow.length
        clear hrow
        go_wp2_with (at_builtin; go_loud (refine wpList_append_own _ rfl _ _ 28 rfl w.heap.size 2 i0 (.int .i64 0) 1 8 Try.underlying28 hi hz0 hz1 hz2 rfl (by decide) _ 0 [] rfl ?c1 _ k cap (xs.map (Value.int .i64)) rfl ?c2 ?c3 ?c4 ?c5 ?c6 ?c7 ?_))
        case c1 => exact World.ownsRow_lit _ #[] 0 (by have := b0.size; simp; omega) (by decide) rfl
        case c2 => simp [HL.out]
        case c3 => exact HN.out
        case c4 => exact ints_oneCell xs
        case c5 => unfold maxLen; omega
        case c6 => omega
        case c7 => have := b0.size; simp; omega
        intro v1 w2 hown1 hgrow1 _
        try simp only [Nat.zero_add, List.nil_append] at hown1
        have hb2 : Below w.heap.size w w2 := (below_drewN b0 _).alloc (by simpa using b0.size) _ |>.grown hgrow1 (by have := b0.size; simp; omega) (by intro k hk; have := b0.size; simp [Value.ownBlock] at hk; omega)
        go_wp2_with (at_builtin; go_loud (refine wpList_append_own _ rfl _ _ 28 rfl w.heap.size 2 i0 (.int .i64 0) 1 8 Try.underlying28 hi hz0 hz1 hz2 rfl (by decide) _ _ _ rfl (hown1.alloc _) ⟨w2.heap.size, 0, none⟩ 1 1 [.int .i64 v] rfl rfl ?d1 ?d2 ?d3 ?d4 ?d5 ?_))
        case d1 =>
          intro j u hj
          have hj0 : j = 0 := by have := (List.getElem?_eq_some_iff.1 hj).1; simpa using this
          subst hj0
          simp at hj
          subst hj
          simp [go_sem]
        case d2 => intro u hu; simp at hu; subst hu; rfl
        case d3 => unfold maxLen; omega
        case d4 => omega
        case d5 => have := hb2.size; simp; omega
        intro v2 w3 hown2 hgrow2 _
        have hb3 : Below w.heap.size w w3 := (hb2.alloc hb2.size _).grown hgrow2 (by have := hb2.size; simp; omega) (fun k hk => (hown1.lt k hk).1)
        clear hown1 hgrow1 hgrow2
        obtain ⟨g, cap2, rfl, hrow2⟩ := own_intRow (xs := xs ++ [v]) (by simpa using hown2) (by omega)
        clear hown2
        have HW := Lib.hid hrow2; clear hrow2
        go_wp2_with fail
        refine (higher_any _ _ _ _ (xs ++ [v]) _ HW.out).mono ?_
        rintro e w4 ⟨rfl, n4, rfl⟩
        have hr4 := Lib.hid ((HR.out.below hb3).drewN n4)
        by_cases hk0 : k = 0
        · obtain rfl : n = m := HF.out hk0
          obtain rfl : xs = [] := List.eq_nil_of_length_eq_zero (by rw [HR.out.length, hk0])
          rw [List.nil_append, high_first]
          have hbk : (((k : Nat) : Int) == 0) = true := by simp; omega
          clear hk0
          rcases Int.lt_trichotomy n v with hv | hv | hv
          · rw [if_pos hv]
            go_wp2_with (go_at_call 18; refine (higher_any _ _ _ _ [] _ hr4.out).mono ?_; rw [HG.out]; rintro e w5 ⟨rfl, n5, rfl⟩)
            go_ret
            exact ⟨rfl, by repeat (first | exact hb3 | apply below_drewN)⟩
          · subst hv
            rw [if_neg (by omega)]
            go_wp2_with (go_at_call 18; refine (higher_any _ _ _ _ [] _ hr4.out).mono ?_; rw [HG.out]; rintro e w5 ⟨rfl, n5, rfl⟩)
            go_ret
            exact ⟨rfl, by repeat (first | exact hb3 | apply below_drewN)⟩
          · rw [if_neg (by omega)]
            go_wp2_with (go_at_call 18; refine (higher_any _ _ _ _ [] _ hr4.out).mono ?_; rw [HG.out]; rintro e w5 ⟨rfl, n5, rfl⟩)
            go_ret
            exact ⟨rfl, by repeat (first | exact hb3 | apply below_drewN)⟩
        · have hmore := HO.out (by rw [HR.out.length]; omega)
          generalize highV m (xs ++ [v]) = more at *
          have hbk : (((k : Nat) : Int) == 0) = false := by simp; omega
          have hbp : 0 < k := by omega
          clear hk0
          go_wp2_with (go_at_call 18; refine (higher_any _ _ _ _ xs _ hr4.out).mono ?_; rw [HG.out]; rintro e w5 ⟨rfl, n5, rfl⟩)
          go_ret
          exact ⟨rfl, by repeat (first | exact hb3 | apply below_drewN)⟩
end Go.Proofs.Ytjokpdgcjhgeeaa
