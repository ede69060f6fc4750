/- The walk of the law ArenaOnce: it returns true. Condition: the second argument reads as a slice of int. -/
import Derived.Test.YtdkfdpiikhgfiaaOnce
import Derived.Test.YtdkfdpiikhgfiaaWArenaKeeps
namespace Go.Proofs.Ytdkfdpiikhgfiaa
open Go Go.RowKit Go.ChangeShapes Go.WideShapes
set_option linter.unusedVariables false

theorem info_bool : (Try.prog.info? 4).map (fun i => (i.zero, i.size, i.bytes)) = some (some (.bool false), 1, 1) := by kernel_rfl
def hcs (T : List (Nat × Int)) : List Value := T.flatMap fun p => [.int .i64 (p.1 : Nat), .int .i64 p.2]
theorem hcs_length (T : List (Nat × Int)) : (hcs T).length = T.length * 2 := by
  induction T with
  | nil => rfl
  | cons a T ih => simp [hcs] at ih ⊢; omega
theorem hcs_app (T : List (Nat × Int)) (k : Nat) (g : Int) : hcs T ++ [.int .i64 k, .int .i64 g] = hcs (T ++ [(k, g)]) := by simp [hcs]
theorem hcs_get : ∀ (T : List (Nat × Int)) (n i : Nat) (g : Int), T[n]? = some (i, g) → (hcs T)[n * 2]? = some (.int .i64 (i : Nat)) ∧ (hcs T)[n * 2 + 1]? = some (.int .i64 g)
  | [], n, i, g, h => by simp at h
  | a :: T, 0, i, g, h => by simp at h; subst h; simp [hcs]
  | a :: T, n + 1, i, g, h => by
    have ih := hcs_get T n i g (by simpa using h)
    have e : hcs (a :: T) = [.int .i64 (a.1 : Nat), .int .i64 a.2] ++ hcs T := by simp [hcs]
    rw [e, List.getElem?_append_right (by simp; omega), List.getElem?_append_right (by simp; omega)]
    have e1 : (n + 1) * 2 - [Value.int .i64 (a.1 : Nat), Value.int .i64 a.2].length = n * 2 := by simp; omega
    have e2 : (n + 1) * 2 + 1 - [Value.int .i64 (a.1 : Nat), Value.int .i64 a.2].length = n * 2 + 1 := by simp; omega
    rw [e1, e2]
    exact ih
def bcs (L : List Bool) : List Value := L.map .bool
theorem hcs_cell {w : World} {base t m cf : Nat} {T : List (Nat × Int)} (h : w.ownsRow base 31 2 (.slice (some ⟨t, 0, none⟩) m cf) m (hcs T)) (n i : Nat) (g : Int) (hT : T[n]? = some (i, g)) (hn : n < m) :
    w.cell? ⟨t, n * 2, none⟩ = some (.int .i64 (i : Nat)) ∧ w.cell? ⟨t, n * 2 + 1, none⟩ = some (.int .i64 g) ∧ t < w.heap.size := by
  rw [h.cellAt (n * 2) (by omega), h.cellAt (n * 2 + 1) (by omega)]
  exact ⟨(hcs_get T n i g hT).1, (hcs_get T n i g hT).2, (h.lt t rfl).2⟩
theorem bcs_cell {w : World} {base t m cf : Nat} {L : List Bool} (h : w.ownsRow base 4 1 (.slice (some ⟨t, 0, none⟩) m cf) m (bcs L)) (n : Nat) (v : Bool) (hL : L[n]? = some v) (hn : n < m) :
    w.cell? ⟨t, n, none⟩ = some (.bool v) ∧ t < w.heap.size ∧ w.frozen? ⟨t, n, none⟩ = false := by
  rw [h.cellAt n (by omega)]
  exact ⟨by simp [bcs, hL], (h.lt t rfl).2, h.frozenAt n⟩
theorem ownsRow_two {w : World} {base base2 : Nat} {e e2 : TypeId} {size size2 n n2 : Nat} {v v2 : Value} {xs xs2 : List Value} (h : w.ownsRow base e size v n xs) (h2 : w.ownsRow base2 e2 size2 v2 n2 xs2) (he : e ≠ e2) {k : Nat} (hk : v2.ownBlock = some k) : v.ownBlock ≠ some k := by
  intro hv
  rcases h.2 with ⟨rfl, _⟩ | ⟨g, cap, cur, rfl, _, hh, _⟩
  · simp [Value.ownBlock] at hv
  · rcases h2.2 with ⟨rfl, _⟩ | ⟨g2, cap2, cur2, rfl, _, hh2, _⟩
    · simp [Value.ownBlock] at hk
    · simp [Value.ownBlock] at hv hk
      subst hv
      subst hk
      rw [hh] at hh2
      simp only [Option.some.injEq, Obj.cells.injEq] at hh2
      exact he hh2.2.1
theorem ownsRow_grown {w w' : World} {base base2 : Nat} {e e2 : TypeId} {size size2 n n2 : Nat} {v v2 : Value} {xs xs2 : List Value} (h : w.ownsRow base e size v n xs) (h2 : w.ownsRow base2 e2 size2 v2 n2 xs2) (he : e ≠ e2) (hg : w.grownBy w' v2.ownBlock) : w'.ownsRow base e size v n xs := by
  refine ⟨h.1, ?_⟩
  rcases h.2 with hn | ⟨g, cap, cur, rfl, hb, hh, hr⟩
  · exact .inl hn
  · refine .inr ⟨g, cap, cur, rfl, hb, ?_, hr⟩
    rw [hg.block g (Array.getElem?_eq_some_iff.1 hh).1 (fun e' => ownsRow_two h h2 he e'.symm rfl)]
    exact hh
theorem row_nil {w : World} {base : Nat} {e : TypeId} {size : Nat} {v : Value} {n : Nat} {xs : List Value} (h : w.ownsRow base e size v n xs) : ∃ a cap, v = .slice a n cap := by
  rcases h.2 with ⟨hv, hn⟩ | ⟨t, cf, cur, hv, _⟩
  · exact ⟨none, 0, by rw [hv, hn]⟩
  · exact ⟨_, _, hv⟩
theorem row_some {w : World} {base : Nat} {e : TypeId} {size : Nat} {v : Value} {n : Nat} {xs : List Value} (h : w.ownsRow base e size v n xs) (h0 : 0 < n) : ∃ t cap, v = .slice (some ⟨t, 0, none⟩) n cap := by
  rcases h.2 with ⟨hv, hn⟩ | ⟨t, cf, cur, hv, _⟩
  · omega
  · exact ⟨_, _, hv⟩

theorem OnceAt.storeRow {w : World} {base p : Nat} {room : Int} {T : List (Nat × Int)} {L : List Bool} {b : Nat} (h : OnceAt w base p room T L b) {t cap base2 : Nat} {e : TypeId} {size m n : Nat} {xs : List Value} {o : Nat} {u : Value} (hr : w.ownsRow base2 e size (.slice (some ⟨t, 0, none⟩) m cap) n xs)
    (he : e ≠ 64) (he2 : e ≠ 66) : OnceAt (w.setCell ⟨t, o, none⟩ u) base p room T L b := by
  have hne := h.notRow e he
  obtain ⟨v, many, free, l, st, h1, h2⟩ := h
  refine ⟨v, many, free, l, st, h1.far ?_ (ownsRow_two h1.own hr (fun e => he2 e.symm) rfl), h2⟩
  rintro rfl
  rcases hr.2 with ⟨hv, _⟩ | ⟨g, cap, cur, hv, _, hh, _⟩
  · cases hv
  · cases hv; exact hne _ _ hh
theorem set_same {α : Type} (L : List α) (k : Nat) (v : α) (h : L[k]? = some v) : L.set k v = L := by
  apply List.ext_getElem?
  intro j
  obtain ⟨hk, hv⟩ := List.getElem?_eq_some_iff.1 h
  by_cases e : k = j
  · subst e
    rw [List.getElem?_set_self hk, h]
  · rw [List.getElem?_set_ne e]
theorem bcs_store {w : World} {base t m cf : Nat} {L : List Bool} (h : w.ownsRow base 4 1 (.slice (some ⟨t, 0, none⟩) m cf) m (bcs L)) (k : Nat) : (w.setCell ⟨t, k, none⟩ (.bool false)).ownsRow base 4 1 (.slice (some ⟨t, 0, none⟩) m cf) m (bcs (L.set k false)) := by
  have := (h.stored k (.bool false)).1
  rw [bcs, List.map_set]
  exact this

set_option maxHeartbeats 4000000 in
set_option maxRecDepth 100000 in
theorem walk_ArenaOnce (rm : Nat) (a : Option Addr) (len capo : Nat) (f : Nat → Int) (w : World) (h : IntsAt w a len f) (hlen : len ≤ 9223372036854775807) (hrm : rm ≤ 255) :
    Calls Try.prog 3 #[.int .u8 rm, .slice a len capo] w fun e w' => e = .returned (.bool true) ∧ Below w.heap.size w w' := by
  obtain ⟨i0, hi, hq0, hq1, hq2⟩ := info_parts info_handle
  obtain ⟨i1, hi1, hr0, hr1, hr2⟩ := info_parts info_bool
  have HE := Lib.hid h; clear h
  go_enter Try.func3, Try.ntmps3
  go_wp2_with fail
  refine (awake _).mono ?_
  rintro e w1 ⟨rfl, b1⟩
  have hm9 : rm % 9 < 9 := Nat.mod_lt _ (by decide)
  go_wp2_with fail
  refine (new_yes _ _ (by omega)).mono ?_
  rintro e w2 ⟨rfl, rfl⟩
  have hz1 := b1.size
  obtain ⟨room, hroom⟩ : ∃ room : Int, room = 1 + (rm : Int) % 9 := ⟨_, rfl⟩
  rw [← hroom]
  have HP : Hid (OnceAt (w1.alloc (.cells #[.int .i64 room, .int .i64 0, .slice none 0 0, .int .i64 (-1)] 64)) w.heap.size w1.heap.size room [] [] 0) := Lib.hid ⟨_, _, _, _, _, HasPool.made w1 room w.heap.size b1.size, Once.nil 0, by omega, by omega, by omega⟩
  have HB := Lib.hid (b1.alloc b1.size (.cells #[.int .i64 room, .int .i64 0, .slice none 0 0, .int .i64 (-1)] 64))
  clear b1 hroom
  go_wp2_with fail
  go_loopw [8, 9, 10] (fun vt vl i wr => ∃ (k : Nat) (T : List (Nat × Int)) (L : List Bool), k ≤ len ∧ k ≤ 60 ∧ i = .int .i64 k ∧ OnceAt wr w.heap.size w1.heap.size room T L (2 * k) ∧
    wr.ownsRow w.heap.size 31 2 vt T.length (hcs T) ∧ wr.ownsRow w.heap.size 4 1 vl T.length (bcs L) ∧ T.length = L.length ∧ T.length ≤ k ∧ Below w.heap.size w wr) (fun _ _ i _ => 60 - (intOf i).toNat)
  case atStart => exact ⟨0, [], [], by omega, by omega, rfl, HP.out, World.ownsRow_nil _ _ _ _, World.ownsRow_nil _ _ _ _, rfl, by simp, HB.out⟩
  case round =>
    obtain ⟨k, T, L, hk, hk1, rfl, hp, howt, howl, hTL, hTk, hb⟩ := hrel
    have hzr := hb.size
    have HPr := Lib.hid hp; have HBr := Lib.hid hb; have HTr := Lib.hid howt; have HLr := Lib.hid howl; have HTL := Lib.hid hTL; clear hp hb howt howl hTL
    by_cases hlt : k < len
    · by_cases hlt1 : k < 60
      · obtain ⟨bo, off, rfl, hbo, hc⟩ := HE.out k hlt
        have HC := Lib.hid hc; clear hc
        go_wp2_with fail
        refine (put_once _ _ _ _ _ _ _ _ HPr.out (by omega) (by omega)).mono ?_
        rintro e w3 ⟨hs3, ⟨rfl, ho3⟩ | ⟨kk, g, rfl, hnot, ho3⟩⟩
        · have hz3 := hs3.tch.size
          have HT2 := Lib.hid ((ownsRow_step HTr.out hs3 (by decide) (HPr.out.notRow _ (by decide))).alloc (.cells #[.int .i64 0, .int .i64 0] 31))
          have HL2 := Lib.hid ((ownsRow_step HLr.out hs3 (by decide) (HPr.out.notRow _ (by decide))).alloc (.cells #[.int .i64 0, .int .i64 0] 31))
          have HP2 := Lib.hid (ho3.behind ((Below.refl w3.heap.size w3).alloc (Nat.le_refl _) (.cells #[.int .i64 0, .int .i64 0] 31)))
          have HB2 := Lib.hid ((HBr.out.trans hs3.below).alloc (by omega) (.cells #[.int .i64 0, .int .i64 0] 31)); clear hs3 ho3
          obtain ⟨n2, hn2⟩ : ∃ n2, n2 = T.length := ⟨_, rfl⟩
          obtain ⟨T2, hT2⟩ : ∃ T2, T2 = T := ⟨_, rfl⟩
          obtain ⟨L2, hL2⟩ : ∃ L2, L2 = L := ⟨_, rfl⟩
          have hnk : n2 ≤ k + 1 := by omega
          rw [← hn2, ← hT2] at HT2; rw [← hn2, ← hL2] at HL2; rw [← hT2, ← hL2] at HP2
          have HN2 : Hid (n2 = T2.length) := Lib.hid (by rw [hT2]; exact hn2)
          have HTL2 : Hid (T2.length = L2.length) := Lib.hid (by rw [hT2, hL2]; exact HTL.out)
          clear hn2 hT2 hL2
          go_upto_region 19 with (fail)
          obtain ⟨wp, hwp⟩ : ∃ wp, wp = w3.alloc (.cells #[.int .i64 0, .int .i64 0] 31) := ⟨_, rfl⟩
          rw [← hwp] at HT2 HL2 HP2 HB2 ⊢
          clear hwp
          obtain ⟨at2, ct2, hvt⟩ := row_nil HT2.out
          subst hvt
          obtain ⟨al2, cl2, hvl⟩ := row_nil HL2.out
          subst hvl
          have hc3 : wp.cell? ⟨bo, off + k, none⟩ = some (.int .i64 (f k)) := by rw [HB2.out.cell (p := ⟨bo, off + k, none⟩) hbo]; exact HC.out
          have hbz : bo < wp.heap.size := by have := HB2.out.size; omega
          by_cases hneg : f k < 0
          · go_wp2_with fail
            go_roundw
            case rel => exact ⟨k + 1, T2, L2, by omega, by omega, by go_num, HP2.out.more, (HN2.out ▸ HT2.out), (HN2.out ▸ HL2.out), HTL2.out, by rw [← HN2.out]; omega, HB2.out⟩
            case measure => simp [intOf]; omega
          · obtain ⟨m, hm⟩ := Int.eq_ofNat_of_zero_le (Int.not_lt.1 hneg)
            rw [hm] at hc3
            clear hm hneg
            by_cases hn0 : n2 = 0
            · have hn0' : n2 ≤ 0 := by omega
              have H0 := Lib.hid hn0; clear hn0
              go_wp2_with fail
              go_roundw
              case rel => exact ⟨k + 1, T2, L2, by omega, by omega, by go_num, HP2.out.more, (HN2.out ▸ HT2.out), (HN2.out ▸ HL2.out), HTL2.out, by rw [← HN2.out]; omega, HB2.out⟩
              case measure => simp [intOf]; omega
            · have hmn : m % n2 < n2 := Nat.mod_lt _ (by omega)
              obtain ⟨tt, _, htt⟩ := row_some HT2.out (by omega)
              cases htt
              obtain ⟨tl, _, htl⟩ := row_some HL2.out (by omega)
              cases htl
              obtain ⟨ih, hT⟩ : ∃ ih, T2[m % n2]? = some ih := ⟨_, List.getElem?_eq_getElem (by rw [← HN2.out]; exact hmn)⟩
              obtain ⟨i, g2⟩ := ih
              obtain ⟨vb, hL⟩ : ∃ vb, L2[m % n2]? = some vb := ⟨_, List.getElem?_eq_getElem (by rw [← HTL2.out, ← HN2.out]; exact hmn)⟩
              obtain ⟨hh0, hh1, htz⟩ := hcs_cell HT2.out (m % n2) i g2 hT hmn
              have HTT := Lib.hid hT; have HLL := Lib.hid hL
              clear hT hL
              cases vb with
              | true =>
                go_wp2_with fail
                refine (free_once (m % n2) i g2 _ _ _ _ _ _ _ HP2.out HTT.out HLL.out (by omega) HB2.out.size).mono ?_
                rintro e w4 ⟨⟨y, rfl⟩, hs4, ho4⟩
                have hz4 := hs4.tch.size
                have HT4 := Lib.hid (ownsRow_step HT2.out hs4 (by decide) (HP2.out.notRow _ (by decide)))
                have HL4 := Lib.hid (ownsRow_step HL2.out hs4 (by decide) (HP2.out.notRow _ (by decide)))
                have HP4 := Lib.hid ho4; have HB4 := Lib.hid (HB2.out.trans hs4.below); clear hs4 ho4 hc3 hh0 hh1 htz
                obtain ⟨hl0, hlz, hlf⟩ := bcs_cell HL4.out (m % n2) _ HLL.out hmn
                have HP5 := Lib.hid (HP4.out.storeRow (o := m % n2) (u := .bool false) HL4.out (by decide) (by decide))
                have HT5 := Lib.hid (ownsRow_other (o := m % n2) (u := .bool false) HT4.out (ownsRow_two HT4.out HL4.out (by decide) rfl))
                have HL5 := Lib.hid (bcs_store HL4.out (m % n2))
                have HB5 := Lib.hid (HB4.out.setCell (p := ⟨tl, m % n2, none⟩) (HL4.out.lt tl rfl).1 (.bool false))
                go_upto_region 25 with (fail)
                obtain ⟨w5, hw5⟩ : ∃ w5, w5 = w4.setCell ⟨tl, m % n2, none⟩ (.bool false) := ⟨_, rfl⟩
                rw [← hw5] at HP5 HT5 HL5 HB5 ⊢
                clear hl0 hlz hlf hw5
                obtain ⟨hh0, hh1, htz⟩ := hcs_cell HT5.out (m % n2) i g2 HTT.out hmn
                go_wp2_with fail
                refine (get_none (m % n2) i g2 _ _ _ _ _ _ _ HP5.out HTT.out (List.getElem?_set_self (List.getElem?_eq_some_iff.1 HLL.out).1) (by omega)).mono ?_
                rintro e w6 ⟨rfl, hb6, ho6⟩
                have hz6 := hb6.size
                have HT6 := Lib.hid (ownsRow_below HT5.out hb6)
                have HL6 := Lib.hid (ownsRow_below HL5.out hb6)
                have HP6 := Lib.hid ho6
                have HB6 := Lib.hid (HB5.out.trans (below_le hb6 HB5.out.size))
                clear hb6 ho6 hh0 hh1 htz
                go_wp2_with fail
                go_roundw
                case rel => exact ⟨k + 1, T2, L2.set (m % n2) false, by omega, by omega, by go_num, HP6.out, (HN2.out ▸ HT6.out), (HN2.out ▸ HL6.out), by rw [List.length_set]; exact HTL2.out, by rw [← HN2.out]; omega, HB6.out⟩
                case measure => simp [intOf]; omega
              | false =>
                go_wp2_with fail
                refine (free_none (m % n2) i g2 _ _ _ _ _ _ _ HP2.out HTT.out HLL.out (by omega)).mono ?_
                rintro e w4 ⟨rfl, hb4, ho4⟩
                have hz4 := hb4.size
                have HT4 := Lib.hid (ownsRow_below HT2.out hb4)
                have HL4 := Lib.hid (ownsRow_below HL2.out hb4)
                have e4 : L2.set (m % n2) false = L2 := set_same _ _ _ HLL.out
                have HP4 : Hid (OnceAt w4 w.heap.size w1.heap.size room T2 (L2.set (m % n2) false) (2 * k + 1 + 1)) := Lib.hid (by rw [e4]; exact ho4.more)
                have HB4 := Lib.hid (HB2.out.trans (below_le hb4 HB2.out.size)); clear hb4 ho4 hc3 hh0 hh1 htz e4
                obtain ⟨hl0, hlz, hlf⟩ := bcs_cell HL4.out (m % n2) _ HLL.out hmn
                have HP5 := Lib.hid (HP4.out.storeRow (o := m % n2) (u := .bool false) HL4.out (by decide) (by decide))
                have HT5 := Lib.hid (ownsRow_other (o := m % n2) (u := .bool false) HT4.out (ownsRow_two HT4.out HL4.out (by decide) rfl))
                have HL5 := Lib.hid (bcs_store HL4.out (m % n2))
                have HB5 := Lib.hid (HB4.out.setCell (p := ⟨tl, m % n2, none⟩) (HL4.out.lt tl rfl).1 (.bool false))
                go_upto_region 25 with (fail)
                obtain ⟨w5, hw5⟩ : ∃ w5, w5 = w4.setCell ⟨tl, m % n2, none⟩ (.bool false) := ⟨_, rfl⟩
                rw [← hw5] at HP5 HT5 HL5 HB5 ⊢
                clear hl0 hlz hlf hw5
                obtain ⟨hh0, hh1, htz⟩ := hcs_cell HT5.out (m % n2) i g2 HTT.out hmn
                go_wp2_with fail
                refine (get_none (m % n2) i g2 _ _ _ _ _ _ _ HP5.out HTT.out (List.getElem?_set_self (List.getElem?_eq_some_iff.1 HLL.out).1) (by omega)).mono ?_
                rintro e w6 ⟨rfl, hb6, ho6⟩
                have hz6 := hb6.size
                have HT6 := Lib.hid (ownsRow_below HT5.out hb6)
                have HL6 := Lib.hid (ownsRow_below HL5.out hb6)
                have HP6 := Lib.hid ho6
                have HB6 := Lib.hid (HB5.out.trans (below_le hb6 HB5.out.size))
                clear hb6 ho6 hh0 hh1 htz
                go_wp2_with fail
                go_roundw
                case rel => exact ⟨k + 1, T2, L2.set (m % n2) false, by omega, by omega, by go_num, HP6.out, (HN2.out ▸ HT6.out), (HN2.out ▸ HL6.out), by rw [List.length_set]; exact HTL2.out, by rw [← HN2.out]; omega, HB6.out⟩
                case measure => simp [intOf]; omega
        · have hz3 := hs3.tch.size
          have HT3 := Lib.hid ((ownsRow_step HTr.out hs3 (by decide) (HPr.out.notRow _ (by decide))).alloc (.cells #[.int .i64 kk, .int .i64 g] 31))
          have HL3 := Lib.hid ((ownsRow_step HLr.out hs3 (by decide) (HPr.out.notRow _ (by decide))).alloc (.cells #[.int .i64 kk, .int .i64 g] 31))
          have HP3 := Lib.hid (ho3.behind ((Below.refl w3.heap.size w3).alloc (Nat.le_refl _) (.cells #[.int .i64 kk, .int .i64 g] 31)))
          have HB3 := Lib.hid ((HBr.out.trans hs3.below).alloc (by omega) (.cells #[.int .i64 kk, .int .i64 g] 31)); have HN := Lib.hid hnot
          have HX := Lib.hid (Box.new w3 kk g)
          clear hs3 ho3 hnot
          obtain ⟨at3, ct3, hvt⟩ := row_nil HT3.out
          subst hvt
          obtain ⟨n3, hn3⟩ : ∃ n3, n3 = T.length := ⟨_, rfl⟩
          rw [← hn3] at HT3 HL3 ⊢
          have HN3 := Lib.hid hn3
          have hn3k : n3 ≤ k := by omega
          clear hn3 hTk
          go_wp2_with fail
          obtain ⟨W3, hW3⟩ : ∃ W3, W3 = w3.alloc (.cells #[.int .i64 kk, .int .i64 g] 31) := ⟨_, rfl⟩
          have hWs : W3.heap.size = w3.heap.size + 1 := by rw [hW3]; simp
          rw [← hW3] at HT3 HL3 HP3 HB3 HX ⊢
          have hWs1 : w3.heap.size < W3.heap.size := by omega
          have HWS := Lib.hid hWs
          clear hW3 hWs
          obtain ⟨wo, rfl⟩ : ∃ wo : World, wo = wr := ⟨_, rfl⟩
          go_loopw [13] (fun i wy => ∃ j nd : Nat, j ≤ n3 ∧ i = .int .i64 j ∧ wy = W3.drewN nd) (fun i _ => n3 - (intOf i).toNat)
          case atStart => exact ⟨0, 0, by omega, rfl, rfl⟩
          case round =>
            obtain ⟨j, nd, hj, rfl, rfl⟩ := hrel
            by_cases hjn : j < n3
            · obtain ⟨tt, _, htt⟩ := row_some HT3.out (by omega)
              cases htt
              obtain ⟨ih, hT⟩ : ∃ ih, T[j]? = some ih := ⟨_, List.getElem?_eq_getElem (by rw [← HN3.out]; exact hjn)⟩
              obtain ⟨i, g2⟩ := ih
              have hne : (i, g2) ≠ (kk, g) := fun e => HN.out (e ▸ List.mem_of_getElem? hT)
              obtain ⟨hh0, hh1, htz⟩ := hcs_cell HT3.out j i g2 hT hjn
              obtain ⟨x0, x1⟩ := HX.out.cells
              clear hT
              by_cases hik : (i : Int) = (kk : Int)
              · have hg : g2 ≠ g := fun e => hne (by rw [e]; congr 1; omega)
                rw [hik] at hh0
                have hgb : (g2 == g) = false := beq_eq_false_iff_ne.2 hg
                clear hne hg hik
                go_wp2_with fail
                go_quiet (fail)
                go_wp2_with fail
                go_roundw
                case rel => exact ⟨j + 1, _, by omega, by go_num, rfl⟩
                case measure => simp [intOf]; omega
              · have hib : ((i : Int) == (kk : Int)) = false := beq_eq_false_iff_ne.2 hik
                clear hne hik
                go_wp2_with fail
                go_quiet (fail)
                go_wp2_with fail
                go_roundw
                case rel => exact ⟨j + 1, _, by omega, by go_num, rfl⟩
                case measure => simp [intOf]; omega
            · obtain ⟨Wd, hWd⟩ : ∃ Wd, Wd = W3.drewN nd := ⟨_, rfl⟩
              have hxd : Box Wd w3.heap.size kk g := by rw [hWd]; exact HX.out
              obtain ⟨x0, x1⟩ := hxd.cells
              have HTd : Hid (Wd.ownsRow w.heap.size 31 2 (.slice at3 n3 ct3) n3 (hcs T)) := Lib.hid (by rw [hWd]; exact HT3.out)
              have HLd : Hid (Wd.ownsRow w.heap.size 4 1 u9 n3 (bcs L)) := Lib.hid (by rw [hWd]; exact HL3.out)
              have HPd := Lib.hid (HP3.out.behind (below_drewN (Below.refl _ _) nd)); rw [← hWd] at HPd
              have HBd : Hid (Below w.heap.size w Wd) := Lib.hid (by rw [hWd]; exact below_drewN HB3.out nd)
              have hds : Wd.heap.size = W3.heap.size := by rw [hWd]; rfl
              rw [← hWd]
              have hds1 : W3.heap.size ≤ Wd.heap.size := by omega
              have hws1 : w.heap.size ≤ Wd.heap.size := HBd.out.size
              clear hds hWd hxd
              go_wp2_with (at_builtin; go_loud (refine wpList_append_own _ rfl _ _ 28 rfl w.heap.size 31 i0 (.agg #[.int .i64 0, .int .i64 0]) 2 16 Try.underlying28 hi hq0 hq1 hq2 rfl (by decide) _ n3 (hcs T) rfl (HTd.out.alloc _) ⟨Wd.heap.size, 0, none⟩ 1 1 [.int .i64 kk, .int .i64 g] rfl rfl ?c1 ?c2 ?c3 ?c4 ?c5 ?_))
              case c1 =>
                intro jj u hj'
                have hj0 : jj = 0 ∨ jj = 1 := by have := (List.getElem?_eq_some_iff.1 hj').1; simp at this; omega
                rcases hj0 with rfl | rfl
                · simp at hj'
                  subst hj'
                  simp [go_sem]
                · simp at hj'
                  subst hj'
                  simp [go_sem]
              case c2 => intro u hu; simp at hu; rcases hu with rfl | rfl <;> rfl
              case c3 => unfold maxLen; omega
              case c4 => omega
              case c5 => simp; omega
              intro v5 w5 hown5 hgrow5 _
              have HP5 := Lib.hid ((HPd.out.behind ((Below.refl Wd.heap.size Wd).alloc (Nat.le_refl _) (.cells #[.int .i64 kk, .int .i64 g] 31))).rowGrown hgrow5 (HTd.out.alloc _) (by decide) (by decide))
              have hz5 := hgrow5.size
              have HB5 := Lib.hid ((HBd.out.alloc (by omega) (.cells #[.int .i64 kk, .int .i64 g] 31)).grown hgrow5 (by simp; omega) (fun kk hk' => (HTd.out.lt kk hk').1))
              have HL5 := Lib.hid (ownsRow_grown (HLd.out.alloc (.cells #[.int .i64 kk, .int .i64 g] 31)) (HTd.out.alloc _) (by decide) hgrow5)
              rw [hcs_app] at hown5
              have HT5 := Lib.hid hown5
              clear hown5 hgrow5 hz5
              obtain ⟨al5, cl5, hvl⟩ := row_nil HL5.out
              subst hvl
              have hz5 := HB5.out.size
              go_wp2_with (at_builtin; go_loud (refine wpList_append_own _ rfl _ _ 29 rfl w.heap.size 4 i1 (.bool false) 1 1 Try.underlying29 hi1 hr0 hr1 hr2 rfl (by decide) _ n3 (bcs L) rfl (HL5.out.alloc _) ⟨w5.heap.size, 0, none⟩ 1 1 [.bool true] rfl rfl ?d1 ?d2 ?d3 ?d4 ?d5 ?_))
              case d1 =>
                intro jj u hj'
                have hj0 : jj = 0 := by have := (List.getElem?_eq_some_iff.1 hj').1; simp at this; omega
                subst hj0
                simp at hj'
                subst hj'
                simp [go_sem]
              case d2 => intro u hu; simp at hu; rcases hu with rfl; rfl
              case d3 => unfold maxLen; omega
              case d4 => omega
              case d5 => simp; omega
              intro v6 w6 hown6 hgrow6 _
              have HP2 := Lib.hid ((HP5.out.behind ((Below.refl w5.heap.size w5).alloc (Nat.le_refl _) (.cells #[.bool true] 4))).rowGrown hgrow6 (HL5.out.alloc _) (by decide) (by decide))
              have HB2 := Lib.hid ((HB5.out.alloc (by omega) (.cells #[.bool true] 4)).grown hgrow6 (by simp; omega) (fun kk hk' => (HL5.out.lt kk hk').1))
              have HT2 := Lib.hid (ownsRow_grown (HT5.out.alloc (.cells #[.bool true] 4)) (HL5.out.alloc _) (by decide) hgrow6)
              have e6 : bcs L ++ [.bool true] = bcs (L ++ [true]) := by simp [bcs]
              rw [e6] at hown6
              have HL2 := Lib.hid hown6
              clear hown6 hgrow6 hz5 e6 x0 x1
              obtain ⟨n2, hn2⟩ : ∃ n2, n2 = n3 + 1 := ⟨_, rfl⟩
              obtain ⟨T2, hT2⟩ : ∃ T2, T2 = T ++ [(kk, g)] := ⟨_, rfl⟩
              obtain ⟨L2, hL2⟩ : ∃ L2, L2 = L ++ [true] := ⟨_, rfl⟩
              have hnk : n2 ≤ k + 1 := by omega
              rw [← hn2, ← hT2] at HT2; rw [← hn2, ← hL2] at HL2; rw [← hT2, ← hL2] at HP2
              have HN2 : Hid (n2 = T2.length) := Lib.hid (by rw [hT2, hn2, List.length_append, HN3.out]; rfl)
              have HTL2 : Hid (T2.length = L2.length) := Lib.hid (by rw [hT2, hL2, List.length_append, List.length_append, HTL.out]; rfl)
              clear hn2 hT2 hL2
              go_upto_region 19 with (fail)
              obtain ⟨wp, hwp⟩ : ∃ wp, wp = w6 := ⟨_, rfl⟩
              rw [← hwp] at HT2 HL2 HP2 HB2 ⊢
              clear hwp
              obtain ⟨at2, ct2, hvt⟩ := row_nil HT2.out
              subst hvt
              obtain ⟨al2, cl2, hvl⟩ := row_nil HL2.out
              subst hvl
              have hc3 : wp.cell? ⟨bo, off + k, none⟩ = some (.int .i64 (f k)) := by rw [HB2.out.cell (p := ⟨bo, off + k, none⟩) hbo]; exact HC.out
              have hbz : bo < wp.heap.size := by have := HB2.out.size; omega
              by_cases hneg : f k < 0
              · go_wp2_with fail
                go_roundw
                case rel => exact ⟨k + 1, T2, L2, by omega, by omega, by go_num, HP2.out.more, (HN2.out ▸ HT2.out), (HN2.out ▸ HL2.out), HTL2.out, by rw [← HN2.out]; omega, HB2.out⟩
                case measure => simp [intOf]; omega
              · obtain ⟨m, hm⟩ := Int.eq_ofNat_of_zero_le (Int.not_lt.1 hneg)
                rw [hm] at hc3
                clear hm hneg
                by_cases hn0 : n2 = 0
                · have hn0' : n2 ≤ 0 := by omega
                  have H0 := Lib.hid hn0; clear hn0
                  go_wp2_with fail
                  go_roundw
                  case rel => exact ⟨k + 1, T2, L2, by omega, by omega, by go_num, HP2.out.more, (HN2.out ▸ HT2.out), (HN2.out ▸ HL2.out), HTL2.out, by rw [← HN2.out]; omega, HB2.out⟩
                  case measure => simp [intOf]; omega
                · have hmn : m % n2 < n2 := Nat.mod_lt _ (by omega)
                  obtain ⟨tt, _, htt⟩ := row_some HT2.out (by omega)
                  cases htt
                  obtain ⟨tl, _, htl⟩ := row_some HL2.out (by omega)
                  cases htl
                  obtain ⟨ih, hT⟩ : ∃ ih, T2[m % n2]? = some ih := ⟨_, List.getElem?_eq_getElem (by rw [← HN2.out]; exact hmn)⟩
                  obtain ⟨i, g2⟩ := ih
                  obtain ⟨vb, hL⟩ : ∃ vb, L2[m % n2]? = some vb := ⟨_, List.getElem?_eq_getElem (by rw [← HTL2.out, ← HN2.out]; exact hmn)⟩
                  obtain ⟨hh0, hh1, htz⟩ := hcs_cell HT2.out (m % n2) i g2 hT hmn
                  have HTT := Lib.hid hT; have HLL := Lib.hid hL
                  clear hT hL
                  cases vb with
                  | true =>
                    go_wp2_with fail
                    refine (free_once (m % n2) i g2 _ _ _ _ _ _ _ HP2.out HTT.out HLL.out (by omega) HB2.out.size).mono ?_
                    rintro e w4 ⟨⟨y, rfl⟩, hs4, ho4⟩
                    have hz4 := hs4.tch.size
                    have HT4 := Lib.hid (ownsRow_step HT2.out hs4 (by decide) (HP2.out.notRow _ (by decide)))
                    have HL4 := Lib.hid (ownsRow_step HL2.out hs4 (by decide) (HP2.out.notRow _ (by decide)))
                    have HP4 := Lib.hid ho4; have HB4 := Lib.hid (HB2.out.trans hs4.below); clear hs4 ho4 hc3 hh0 hh1 htz
                    obtain ⟨hl0, hlz, hlf⟩ := bcs_cell HL4.out (m % n2) _ HLL.out hmn
                    have HP5 := Lib.hid (HP4.out.storeRow (o := m % n2) (u := .bool false) HL4.out (by decide) (by decide))
                    have HT5 := Lib.hid (ownsRow_other (o := m % n2) (u := .bool false) HT4.out (ownsRow_two HT4.out HL4.out (by decide) rfl))
                    have HL5 := Lib.hid (bcs_store HL4.out (m % n2))
                    have HB5 := Lib.hid (HB4.out.setCell (p := ⟨tl, m % n2, none⟩) (HL4.out.lt tl rfl).1 (.bool false))
                    go_upto_region 25 with (fail)
                    obtain ⟨w5, hw5⟩ : ∃ w5, w5 = w4.setCell ⟨tl, m % n2, none⟩ (.bool false) := ⟨_, rfl⟩
                    rw [← hw5] at HP5 HT5 HL5 HB5 ⊢
                    clear hl0 hlz hlf hw5
                    obtain ⟨hh0, hh1, htz⟩ := hcs_cell HT5.out (m % n2) i g2 HTT.out hmn
                    go_wp2_with fail
                    refine (get_none (m % n2) i g2 _ _ _ _ _ _ _ HP5.out HTT.out (List.getElem?_set_self (List.getElem?_eq_some_iff.1 HLL.out).1) (by omega)).mono ?_
                    rintro e w6 ⟨rfl, hb6, ho6⟩
                    have hz6 := hb6.size
                    have HT6 := Lib.hid (ownsRow_below HT5.out hb6)
                    have HL6 := Lib.hid (ownsRow_below HL5.out hb6)
                    have HP6 := Lib.hid ho6
                    have HB6 := Lib.hid (HB5.out.trans (below_le hb6 HB5.out.size))
                    clear hb6 ho6 hh0 hh1 htz
                    go_wp2_with fail
                    go_roundw
                    case rel => exact ⟨k + 1, T2, L2.set (m % n2) false, by omega, by omega, by go_num, HP6.out, (HN2.out ▸ HT6.out), (HN2.out ▸ HL6.out), by rw [List.length_set]; exact HTL2.out, by rw [← HN2.out]; omega, HB6.out⟩
                    case measure => simp [intOf]; omega
                  | false =>
                    go_wp2_with fail
                    refine (free_none (m % n2) i g2 _ _ _ _ _ _ _ HP2.out HTT.out HLL.out (by omega)).mono ?_
                    rintro e w4 ⟨rfl, hb4, ho4⟩
                    have hz4 := hb4.size
                    have HT4 := Lib.hid (ownsRow_below HT2.out hb4)
                    have HL4 := Lib.hid (ownsRow_below HL2.out hb4)
                    have e4 : L2.set (m % n2) false = L2 := set_same _ _ _ HLL.out
                    have HP4 : Hid (OnceAt w4 w.heap.size w1.heap.size room T2 (L2.set (m % n2) false) (2 * k + 1 + 1)) := Lib.hid (by rw [e4]; exact ho4.more)
                    have HB4 := Lib.hid (HB2.out.trans (below_le hb4 HB2.out.size)); clear hb4 ho4 hc3 hh0 hh1 htz e4
                    obtain ⟨hl0, hlz, hlf⟩ := bcs_cell HL4.out (m % n2) _ HLL.out hmn
                    have HP5 := Lib.hid (HP4.out.storeRow (o := m % n2) (u := .bool false) HL4.out (by decide) (by decide))
                    have HT5 := Lib.hid (ownsRow_other (o := m % n2) (u := .bool false) HT4.out (ownsRow_two HT4.out HL4.out (by decide) rfl))
                    have HL5 := Lib.hid (bcs_store HL4.out (m % n2))
                    have HB5 := Lib.hid (HB4.out.setCell (p := ⟨tl, m % n2, none⟩) (HL4.out.lt tl rfl).1 (.bool false))
                    go_upto_region 25 with (fail)
                    obtain ⟨w5, hw5⟩ : ∃ w5, w5 = w4.setCell ⟨tl, m % n2, none⟩ (.bool false) := ⟨_, rfl⟩
                    rw [← hw5] at HP5 HT5 HL5 HB5 ⊢
                    clear hl0 hlz hlf hw5
                    obtain ⟨hh0, hh1, htz⟩ := hcs_cell HT5.out (m % n2) i g2 HTT.out hmn
                    go_wp2_with fail
                    refine (get_none (m % n2) i g2 _ _ _ _ _ _ _ HP5.out HTT.out (List.getElem?_set_self (List.getElem?_eq_some_iff.1 HLL.out).1) (by omega)).mono ?_
                    rintro e w6 ⟨rfl, hb6, ho6⟩
                    have hz6 := hb6.size
                    have HT6 := Lib.hid (ownsRow_below HT5.out hb6)
                    have HL6 := Lib.hid (ownsRow_below HL5.out hb6)
                    have HP6 := Lib.hid ho6
                    have HB6 := Lib.hid (HB5.out.trans (below_le hb6 HB5.out.size))
                    clear hb6 ho6 hh0 hh1 htz
                    go_wp2_with fail
                    go_roundw
                    case rel => exact ⟨k + 1, T2, L2.set (m % n2) false, by omega, by omega, by go_num, HP6.out, (HN2.out ▸ HT6.out), (HN2.out ▸ HL6.out), by rw [List.length_set]; exact HTL2.out, by rw [← HN2.out]; omega, HB6.out⟩
                    case measure => simp [intOf]; omega
      · go_wp2_with fail
        go_ret
        exact ⟨rfl, HBr.out⟩
    · go_wp2_with fail
      go_ret
      exact ⟨rfl, HBr.out⟩
theorem walk_ArenaOnce' (rm : Int) (a : Option Addr) (len capo : Nat) (w : World) (hrm : (Lit.int .u8 rm).wf = true) (h : FlatSlice [some .i64] w a len) :
    Calls Try.prog 3 #[.int .u8 rm, .slice a len capo] w fun e w' => e = .returned (.bool true) ∧ Below w.heap.size w w' := by
  obtain ⟨f, hf⟩ := intsAt_of h
  have hu := u8_of_wf hrm
  obtain ⟨n, rfl⟩ := Int.eq_ofNat_of_zero_le hu.1
  exact walk_ArenaOnce n a len capo f w hf (by have := h.1; first | exact this | (unfold maxLen at this; omega)) (by omega)
end Go.Proofs.Ytdkfdpiikhgfiaa
