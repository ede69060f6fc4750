/- The walk of the law ArenaKeeps: it returns true. Condition: the first argument reads as a slice of int. -/
import Derived.Test.YtdkfdpiikhgfiaaLast
namespace Go.Proofs.Ytdkfdpiikhgfiaa
open Go Go.RowKit Go.ChangeShapes Go.WideShapes
set_option linter.unusedVariables false

theorem info_handle : (Try.prog.info? 31).map (fun i => (i.zero, i.size, i.bytes)) = some (some (.agg #[.int .i64 0, .int .i64 0]), 2, 16) := by kernel_rfl
/-- what a slice of int holds -/
def IntsAt (w : World) (a : Option Addr) (len : Nat) (f : Nat → Int) : Prop := ∀ j, j < len → ∃ b off, a = some ⟨b, off, none⟩ ∧ b < w.heap.size ∧ w.cell? ⟨b, off + j, none⟩ = some (.int .i64 (f j))
theorem intsAt_of {w : World} {a : Option Addr} {len : Nat} (h : FlatSlice [some .i64] w a len) : ∃ f, IntsAt w a len f := by
  have g : ∀ j, ∃ x : Int, j < len → ∃ b off, a = some ⟨b, off, none⟩ ∧ b < w.heap.size ∧ w.cell? ⟨b, off + j, none⟩ = some (.int .i64 x) := by
    intro j
    by_cases hj : j < len
    · obtain ⟨b, off, v, ha, hb, hv, hc⟩ := flatSlice_int h j hj
      exact ⟨v, fun _ => ⟨b, off, ha, hb, hc⟩⟩
    · exact ⟨0, fun h => absurd h hj⟩
  exact ⟨fun j => (g j).choose, fun j hj => (g j).choose_spec hj⟩
/-- the places of a pool into which f 0, f 1, .. were put -/
def keepL (f : Nat → Int) : Nat → List Pl
  | 0 => []
  | n + 1 => keepL f n ++ [⟨f n, 0, true, -1⟩]
theorem keepL_length (f : Nat → Int) (n : Nat) : (keepL f n).length = n := by
  induction n with
  | zero => rfl
  | succ n ih => simp [keepL, ih]
theorem keepL_get (f : Nat → Int) (n k : Nat) (h : k < n) : (keepL f n)[k]? = some ⟨f k, 0, true, -1⟩ := by
  induction n with
  | zero => omega
  | succ n ih =>
    by_cases e : k = n
    · subst e
      rw [keepL, List.getElem?_append_right (by rw [keepL_length]; omega), keepL_length]; simp
    · rw [keepL, List.getElem?_append_left (by rw [keepL_length]; omega)]; exact ih (by omega)
theorem put_keep (f : Nat → Int) (k : Nat) (w : World) (base p : Nat) (v : Value) (room many : Int) (h : HasPool w base p v room many (-1) (keepL f k)) (hm : many = k) (hl : k < 4096) (hr : (k : Int) < room) (hbase : base ≤ w.heap.size) :
    Calls Try.prog 11 #[.pointer (some ⟨p, 0, none⟩), .int .i64 (f k)] w fun e w' => e = .returned (.tuple #[.agg #[.int .i64 k, .int .i64 0], .int .i64 0]) ∧
      ∃ g cap, HasPool w' base p (.slice (some ⟨g, 0, none⟩) (k + 1) cap) room (k + 1 : Nat) (-1) (keepL f (k + 1)) ∧ PoolStep base p w w' := by
  subst hm
  have c := put_grow (f k) w base p v room k (keepL f k) h (by rw [keepL_length]; omega) (by omega) hr hbase
  rw [keepL_length] at c
  exact c
/-- the handles that were told -/
def hv : Nat → List Value
  | 0 => []
  | n + 1 => hv n ++ [.int .i64 (n : Nat), .int .i64 0]
theorem hv_length (n : Nat) : (hv n).length = n * 2 := by
  induction n with
  | zero => rfl
  | succ n ih => simp [hv, ih]; omega
theorem hv_get (n k : Nat) (h : k < n) : (hv n)[k * 2]? = some (.int .i64 (k : Nat)) ∧ (hv n)[k * 2 + 1]? = some (.int .i64 0) := by
  induction n with
  | zero => omega
  | succ n ih =>
    by_cases e : k = n
    · subst e
      rw [hv, List.getElem?_append_right (by rw [hv_length]; omega), List.getElem?_append_right (by rw [hv_length]; omega), hv_length]
      simp
    · rw [hv, List.getElem?_append_left (by rw [hv_length]; omega), List.getElem?_append_left (by rw [hv_length]; omega)]
      exact ih (by omega)

theorem told_cell {w : World} {base t k cf : Nat} (h : w.ownsRow base 31 2 (.slice (some ⟨t, 0, none⟩) k cf) k (hv k)) (j : Nat) (hj : j < k) :
    w.cell? ⟨t, j * 2, none⟩ = some (.int .i64 (j : Nat)) ∧ w.cell? ⟨t, j * 2 + 1, none⟩ = some (.int .i64 0) := by
  rw [h.cellAt (j * 2) (by omega), h.cellAt (j * 2 + 1) (by omega)]
  exact hv_get k j hj
theorem told_lt {w : World} {base t k cf : Nat} (h : w.ownsRow base 31 2 (.slice (some ⟨t, 0, none⟩) k cf) k (hv k)) : t < w.heap.size := (h.lt t rfl).2
/-- the places behind Set and Free of one -/
def keepF (f : Nat → Int) (n m : Nat) : List Pl := (keepL f n).set m ⟨0, 1, false, -1⟩
theorem keepF_length (f : Nat → Int) (n m : Nat) : (keepF f n m).length = n := by rw [keepF, List.length_set, keepL_length]
theorem keepF_none (f : Nat → Int) (n m : Nat) (h : m < n) : NamesNone (keepF f n m) m 0 := by
  rintro j q ⟨h1, h2, h3, h4⟩
  have hj : j = m := by omega
  subst hj
  rw [keepF, List.getElem?_set_self (by rw [keepL_length]; exact h)] at h2
  cases h2
  cases h3
theorem keepF_some (f : Nat → Int) (n m j : Nat) (h : j < n) (hne : j ≠ m) : Names (keepF f n m) j 0 j ⟨f j, 0, true, -1⟩ :=
  ⟨rfl, by rw [keepF, List.getElem?_set_ne (by omega)]; exact keepL_get f n j h, rfl, rfl⟩

set_option maxHeartbeats 4000000 in
set_option maxRecDepth 100000 in
theorem walk_ArenaKeeps (a : Option Addr) (len capo : Nat) (f : Nat → Int) (wh : Nat) (x : Int) (w : World) (h : IntsAt w a len f) (hlen : len ≤ 9223372036854775807) (hwh : wh ≤ 255) :
    Calls Try.prog 6 #[.slice a len capo, .int .u8 wh, .int .i64 x] w fun e w' => e = .returned (.bool true) ∧ Below w.heap.size w w' := by
  obtain ⟨i0, hi, hq0, hq1, hq2⟩ := info_parts info_handle
  have HE := Lib.hid h; clear h
  go_enter Try.func6, Try.ntmps6
  go_wp2_with fail
  refine (awake _).mono ?_
  rintro e w1 ⟨rfl, b1⟩
  go_wp2_with fail
  refine (new_yes _ _ (by omega)).mono ?_
  rintro e w2 ⟨rfl, rfl⟩
  have hz1 := b1.size
  have HP := Lib.hid (HasPool.made w1 64 w.heap.size b1.size)
  have HB := Lib.hid (b1.alloc b1.size (.cells #[.int .i64 64, .int .i64 0, .slice none 0 0, .int .i64 (-1)] 64))
  clear b1
  go_wp2_with fail
  go_loopw [10, 11] (fun vt i wr => ∃ (k : Nat) (v : Value), k ≤ len ∧ k ≤ 60 ∧ i = .int .i64 k ∧ HasPool wr w.heap.size w1.heap.size v 64 k (-1) (keepL f k) ∧
    wr.ownsRow w.heap.size 31 2 vt k (hv k) ∧ Below w.heap.size w wr) (fun _ i _ => 60 - (intOf i).toNat)
  case atStart => exact ⟨0, _, by omega, by omega, rfl, HP.out, World.ownsRow_nil _ _ _ _, HB.out⟩
  case round =>
    obtain ⟨k, v, hk, hk1, rfl, hp, hown, hb⟩ := hrel
    have hzr := hb.size
    have HPr := Lib.hid hp; have HBr := Lib.hid hb; have HOr := Lib.hid hown; clear hp hb hown
    by_cases hlt : k < len
    · by_cases hlt1 : k < 60
      · obtain ⟨bo, off, rfl, hbo, hc⟩ := HE.out k hlt
        have hcx : wr.cell? ⟨bo, off + k, none⟩ = some (.int .i64 (f k)) := by rw [HBr.out.cell (p := ⟨bo, off + k, none⟩) hbo]; exact hc
        go_wp2_with fail
        refine (put_keep f k _ _ _ _ _ _ HPr.out rfl (by omega) (by omega) (by omega)).mono ?_
        rintro e w3 ⟨rfl, g, cap, hp3, hs3⟩
        have hz3 := hs3.tch.size
        have HO3 := Lib.hid (ownsRow_step HOr.out hs3 (by decide) (HPr.out.notRow _ (by decide)))
        have HP3 := Lib.hid hp3; have HB3 := Lib.hid (HBr.out.trans hs3.below); clear hp3 hs3 hcx
        go_wp2_with (at_builtin; go_loud (refine wpList_append_own _ rfl _ _ 28 rfl w.heap.size 31 i0 (.agg #[.int .i64 0, .int .i64 0]) 2 16 Try.underlying28 hi hq0 hq1 hq2 rfl (by decide) _ k (hv k) rfl ((HO3.out.alloc _).alloc _) ⟨w3.heap.size + 1, 0, none⟩ 1 1 [.int .i64 k, .int .i64 0] rfl rfl ?c1 ?c2 ?c3 ?c4 ?c5 ?_))
        case c1 =>
          intro jj u hj'
          have hj0 : jj = 0 ∨ jj = 1 := by have := (List.getElem?_eq_some_iff.1 hj').1; simp at this; omega
          rcases hj0 with rfl | rfl
          · simp at hj'
            subst hj'
            simp [go_sem]
          · simp at hj'
            subst hj'
            simp [go_sem]
        case c2 => intro u hu; simp at hu; rcases hu with rfl | rfl <;> rfl
        case c3 => unfold maxLen; omega
        case c4 => omega
        case c5 => have := HB3.out.size; simp; omega
        intro v5 w5 hown5 hgrow5 _
        have HP5 := Lib.hid (((HP3.out.alloc _).alloc _).rowGrown hgrow5 ((HO3.out.alloc _).alloc _) (by decide) (by decide))
        have HB5 := Lib.hid (((HB3.out.alloc HB3.out.size _).alloc (by simp; have := HB3.out.size; omega) _).grown hgrow5 (by have := HB3.out.size; simp; omega) (fun kk hk' => (HO3.out.lt kk hk').1))
        have hown6 : w5.ownsRow w.heap.size 31 2 v5 (k + 1) (hv (k + 1)) := hown5
        have HO5 := Lib.hid hown6
        clear hown5 hgrow5 hown6
        go_wp2_with fail
        go_roundw
        case rel => exact ⟨k + 1, _, by omega, by omega, by go_num, HP5.out, HO5.out, HB5.out⟩
        case measure => simp [intOf]; omega
      · by_cases hk0 : k = 0
        · first
          | exact absurd hlt1 (by omega)
          | (skip
             subst hk0
             obtain ⟨ao, cf, rfl⟩ : ∃ ao cf, u10 = .slice ao 0 cf := by
               rcases HOr.out.2 with ⟨hv, hn⟩ | ⟨t, cf, cur, hv, _⟩
               · exact ⟨none, 0, hv⟩
               · exact ⟨_, _, hv⟩
             go_wp2_with fail
             refine (len_any _ _ _ _ _ _ _ _ HPr.out).mono ?_
             rintro e w7 ⟨rfl, rfl⟩
             go_wp2
             go_ret
             exact ⟨rfl, HBr.out⟩)
        · obtain ⟨t, cf, rfl⟩ : ∃ t cf, u10 = .slice (some ⟨t, 0, none⟩) k cf := by
            rcases HOr.out.2 with ⟨hv, hn⟩ | ⟨t, cf, cur, hv, _⟩
            · omega
            · exact ⟨t, cf, hv⟩
          obtain ⟨g, cap, rfl⟩ : ∃ g cap, v = .slice (some ⟨g, 0, none⟩) k cap := by
            rcases HPr.out.row with ⟨_, hn⟩ | ⟨g, cap, hv, _⟩
            · have := congrArg List.length hn; rw [keepL_length] at this; simp at this; omega
            · rw [keepL_length] at hv; exact ⟨g, cap, hv⟩
          have hm : wh % k < k := Nat.mod_lt _ (by omega)
          have HQ := Lib.hid (show Names (keepL f k) ((wh % k : Nat) : Int) 0 (wh % k) ⟨f (wh % k), 0, true, -1⟩ from ⟨rfl, keepL_get f k _ hm, rfl, rfl⟩)
          obtain ⟨hc0, hc1⟩ := told_cell HOr.out (wh % k) hm
          have ht0 := told_lt HOr.out
          go_wp2_with fail
          refine (set_step _ 0 x (wh % k) _ _ _ _ _ _ _ _ _ _ _ HPr.out (by rw [keepL_length]; omega) HQ.out (by omega)).mono ?_
          rintro e w4 ⟨rfl, hp4, hs4⟩
          have HP4 := Lib.hid hp4; have HB4 := Lib.hid (HBr.out.trans hs4.below); have HO4 := Lib.hid (ownsRow_step HOr.out hs4 (by decide) (HPr.out.notRow _ (by decide)))
          have HQ4 := Lib.hid (show Names ((keepL f k).set (wh % k) ⟨x, 0, true, -1⟩) ((wh % k : Nat) : Int) 0 (wh % k) ⟨x, 0, true, -1⟩ from ⟨rfl, List.getElem?_set_self (by rw [keepL_length]; exact hm), rfl, rfl⟩)
          clear hp4 hs4 hc0 hc1 ht0
          obtain ⟨hc0, hc1⟩ := told_cell HO4.out (wh % k) hm
          have ht0 := told_lt HO4.out
          go_wp2_with fail
          refine (get_step _ 0 (wh % k) _ _ _ _ _ _ _ _ _ _ _ HP4.out (by rw [List.length_set, keepL_length]; omega) HQ4.out).mono ?_
          rintro e w5 ⟨rfl, b5⟩
          have HP5 := Lib.hid (HP4.out.behind b5); have HB5 := Lib.hid (HB4.out.trans (below_le b5 HB4.out.size)); have HO5 := Lib.hid (ownsRow_below HO4.out b5)
          clear b5 hc0 hc1 ht0
          obtain ⟨hc0, hc1⟩ := told_cell HO5.out (wh % k) hm
          have ht0 := told_lt HO5.out
          go_wp2_with fail
          refine (free_step _ 0 (wh % k) _ _ _ _ _ _ _ _ _ _ _ HP5.out (by rw [List.length_set, keepL_length]; omega) HQ4.out (by simp) (by omega) HB5.out.size).mono ?_
          rintro e w6 ⟨rfl, hp6, hs6⟩
          rw [List.set_set] at hp6
          have hp6' : HasPool w6 w.heap.size w1.heap.size (.slice (some ⟨g, 0, none⟩) k cap) 64 ((k : Int) - 1) ((wh % k : Nat) : Int) (keepF f k (wh % k)) := hp6
          have HP6 := Lib.hid hp6'; have HB6 := Lib.hid (HB5.out.trans hs6.below); have HO6 := Lib.hid (ownsRow_step HO5.out hs6 (by decide) (HP5.out.notRow _ (by decide)))
          clear hp6 hs6 hc0 hc1 ht0 hp6'
          go_wp2_with fail
          obtain ⟨wo, rfl⟩ : ∃ wo : World, wo = wr := ⟨_, rfl⟩
          go_loopw [20] (fun i wy => ∃ j : Nat, j ≤ k ∧ i = .int .i64 j ∧ HasPool wy w.heap.size w1.heap.size (.slice (some ⟨g, 0, none⟩) k cap) 64 ((k : Int) - 1) ((wh % k : Nat) : Int) (keepF f k (wh % k)) ∧ wy.ownsRow w.heap.size 31 2 (.slice (some ⟨t, 0, none⟩) k cf) k (hv k) ∧ Below w.heap.size w wy) (fun i _ => k - (intOf i).toNat)
          case atStart => exact ⟨0, by omega, rfl, HP6.out, HO6.out, HB6.out⟩
          case round =>
            obtain ⟨j, hj, rfl, hpy, howny, hby⟩ := hrel
            have hzy := hby.size
            have HPy := Lib.hid hpy; have HBy := Lib.hid hby; have HOy := Lib.hid howny; clear hpy hby howny
            by_cases hjk : j < k
            · obtain ⟨hc0, hc1⟩ := told_cell HOy.out j hjk
              have ht0 := told_lt HOy.out
              by_cases hjm : j = wh % k
              · have hN := Lib.hid (show NamesNone (keepF f k (wh % k)) (j : Nat) 0 from by rw [hjm]; exact keepF_none f k _ hm)
                have hje : ((j : Int) == ((wh % k : Nat) : Int)) = true := beq_iff_eq.2 (by rw [hjm])
                have hjm' := Lib.hid hjm; clear hjm
                go_wp2_with fail
                refine (get_miss _ _ _ _ _ _ _ _ _ _ HPy.out (by rw [keepF_length]; omega) hN.out).mono ?_
                rintro e w7 ⟨rfl, b7⟩
                have HP7 := Lib.hid (HPy.out.behind b7); have HB7 := Lib.hid (HBy.out.trans (below_le b7 HBy.out.size)); have HO7 := Lib.hid (ownsRow_below HOy.out b7)
                clear b7 hc0 hc1 ht0
                go_wp2_with fail
                go_roundw
                case rel => exact ⟨j + 1, by omega, by go_num, HP7.out, HO7.out, HB7.out⟩
                case measure => simp [intOf]; omega
              · have hN := Lib.hid (keepF_some f k (wh % k) j hjk hjm)
                have hje : ((j : Int) == ((wh % k : Nat) : Int)) = false := by simp; omega
                go_wp2_with fail
                refine (get_step _ _ _ _ _ _ _ _ _ _ _ _ _ _ HPy.out (by rw [keepF_length]; omega) hN.out).mono ?_
                rintro e w7 ⟨rfl, b7⟩
                have HP7 := Lib.hid (HPy.out.behind b7); have HB7 := Lib.hid (HBy.out.trans (below_le b7 HBy.out.size)); have HO7 := Lib.hid (ownsRow_below HOy.out b7)
                clear b7 hc0 hc1 ht0
                obtain ⟨bo, off, rfl, hbo, hc⟩ := HE.out j (by omega)
                have hcx : w7.cell? ⟨bo, off + j, none⟩ = some (.int .i64 (f j)) := by rw [HB7.out.cell (p := ⟨bo, off + j, none⟩) hbo]; exact hc
                have hbz := HB7.out.size
                go_wp2_with fail
                go_roundw
                case rel => exact ⟨j + 1, by omega, by go_num, HP7.out, HO7.out, HB7.out⟩
                case measure => simp [intOf]; omega
            · obtain rfl : j = k := by omega
              have hnb : (((j : Nat) : Int) - 1 == (j : Int) - 1) = true := beq_iff_eq.2 rfl
              go_wp2_with fail
              refine (len_any _ _ _ _ _ _ _ _ HPy.out).mono ?_
              rintro e w7 ⟨rfl, rfl⟩
              go_wp2
              go_ret
              exact ⟨rfl, HBy.out⟩
    · by_cases hk0 : k = 0
      · first
        | exact absurd hlt1 (by omega)
        | (skip
           subst hk0
           obtain ⟨ao, cf, rfl⟩ : ∃ ao cf, u10 = .slice ao 0 cf := by
             rcases HOr.out.2 with ⟨hv, hn⟩ | ⟨t, cf, cur, hv, _⟩
             · exact ⟨none, 0, hv⟩
             · exact ⟨_, _, hv⟩
           go_wp2_with fail
           refine (len_any _ _ _ _ _ _ _ _ HPr.out).mono ?_
           rintro e w7 ⟨rfl, rfl⟩
           go_wp2
           go_ret
           exact ⟨rfl, HBr.out⟩)
      · obtain ⟨t, cf, rfl⟩ : ∃ t cf, u10 = .slice (some ⟨t, 0, none⟩) k cf := by
          rcases HOr.out.2 with ⟨hv, hn⟩ | ⟨t, cf, cur, hv, _⟩
          · omega
          · exact ⟨t, cf, hv⟩
        obtain ⟨g, cap, rfl⟩ : ∃ g cap, v = .slice (some ⟨g, 0, none⟩) k cap := by
          rcases HPr.out.row with ⟨_, hn⟩ | ⟨g, cap, hv, _⟩
          · have := congrArg List.length hn; rw [keepL_length] at this; simp at this; omega
          · rw [keepL_length] at hv; exact ⟨g, cap, hv⟩
        have hm : wh % k < k := Nat.mod_lt _ (by omega)
        have HQ := Lib.hid (show Names (keepL f k) ((wh % k : Nat) : Int) 0 (wh % k) ⟨f (wh % k), 0, true, -1⟩ from ⟨rfl, keepL_get f k _ hm, rfl, rfl⟩)
        obtain ⟨hc0, hc1⟩ := told_cell HOr.out (wh % k) hm
        have ht0 := told_lt HOr.out
        go_wp2_with fail
        refine (set_step _ 0 x (wh % k) _ _ _ _ _ _ _ _ _ _ _ HPr.out (by rw [keepL_length]; omega) HQ.out (by omega)).mono ?_
        rintro e w4 ⟨rfl, hp4, hs4⟩
        have HP4 := Lib.hid hp4; have HB4 := Lib.hid (HBr.out.trans hs4.below); have HO4 := Lib.hid (ownsRow_step HOr.out hs4 (by decide) (HPr.out.notRow _ (by decide)))
        have HQ4 := Lib.hid (show Names ((keepL f k).set (wh % k) ⟨x, 0, true, -1⟩) ((wh % k : Nat) : Int) 0 (wh % k) ⟨x, 0, true, -1⟩ from ⟨rfl, List.getElem?_set_self (by rw [keepL_length]; exact hm), rfl, rfl⟩)
        clear hp4 hs4 hc0 hc1 ht0
        obtain ⟨hc0, hc1⟩ := told_cell HO4.out (wh % k) hm
        have ht0 := told_lt HO4.out
        go_wp2_with fail
        refine (get_step _ 0 (wh % k) _ _ _ _ _ _ _ _ _ _ _ HP4.out (by rw [List.length_set, keepL_length]; omega) HQ4.out).mono ?_
        rintro e w5 ⟨rfl, b5⟩
        have HP5 := Lib.hid (HP4.out.behind b5); have HB5 := Lib.hid (HB4.out.trans (below_le b5 HB4.out.size)); have HO5 := Lib.hid (ownsRow_below HO4.out b5)
        clear b5 hc0 hc1 ht0
        obtain ⟨hc0, hc1⟩ := told_cell HO5.out (wh % k) hm
        have ht0 := told_lt HO5.out
        go_wp2_with fail
        refine (free_step _ 0 (wh % k) _ _ _ _ _ _ _ _ _ _ _ HP5.out (by rw [List.length_set, keepL_length]; omega) HQ4.out (by simp) (by omega) HB5.out.size).mono ?_
        rintro e w6 ⟨rfl, hp6, hs6⟩
        rw [List.set_set] at hp6
        have hp6' : HasPool w6 w.heap.size w1.heap.size (.slice (some ⟨g, 0, none⟩) k cap) 64 ((k : Int) - 1) ((wh % k : Nat) : Int) (keepF f k (wh % k)) := hp6
        have HP6 := Lib.hid hp6'; have HB6 := Lib.hid (HB5.out.trans hs6.below); have HO6 := Lib.hid (ownsRow_step HO5.out hs6 (by decide) (HP5.out.notRow _ (by decide)))
        clear hp6 hs6 hc0 hc1 ht0 hp6'
        go_wp2_with fail
        obtain ⟨wo, rfl⟩ : ∃ wo : World, wo = wr := ⟨_, rfl⟩
        go_loopw [20] (fun i wy => ∃ j : Nat, j ≤ k ∧ i = .int .i64 j ∧ HasPool wy w.heap.size w1.heap.size (.slice (some ⟨g, 0, none⟩) k cap) 64 ((k : Int) - 1) ((wh % k : Nat) : Int) (keepF f k (wh % k)) ∧ wy.ownsRow w.heap.size 31 2 (.slice (some ⟨t, 0, none⟩) k cf) k (hv k) ∧ Below w.heap.size w wy) (fun i _ => k - (intOf i).toNat)
        case atStart => exact ⟨0, by omega, rfl, HP6.out, HO6.out, HB6.out⟩
        case round =>
          obtain ⟨j, hj, rfl, hpy, howny, hby⟩ := hrel
          have hzy := hby.size
          have HPy := Lib.hid hpy; have HBy := Lib.hid hby; have HOy := Lib.hid howny; clear hpy hby howny
          by_cases hjk : j < k
          · obtain ⟨hc0, hc1⟩ := told_cell HOy.out j hjk
            have ht0 := told_lt HOy.out
            by_cases hjm : j = wh % k
            · have hN := Lib.hid (show NamesNone (keepF f k (wh % k)) (j : Nat) 0 from by rw [hjm]; exact keepF_none f k _ hm)
              have hje : ((j : Int) == ((wh % k : Nat) : Int)) = true := beq_iff_eq.2 (by rw [hjm])
              have hjm' := Lib.hid hjm; clear hjm
              go_wp2_with fail
              refine (get_miss _ _ _ _ _ _ _ _ _ _ HPy.out (by rw [keepF_length]; omega) hN.out).mono ?_
              rintro e w7 ⟨rfl, b7⟩
              have HP7 := Lib.hid (HPy.out.behind b7); have HB7 := Lib.hid (HBy.out.trans (below_le b7 HBy.out.size)); have HO7 := Lib.hid (ownsRow_below HOy.out b7)
              clear b7 hc0 hc1 ht0
              go_wp2_with fail
              go_roundw
              case rel => exact ⟨j + 1, by omega, by go_num, HP7.out, HO7.out, HB7.out⟩
              case measure => simp [intOf]; omega
            · have hN := Lib.hid (keepF_some f k (wh % k) j hjk hjm)
              have hje : ((j : Int) == ((wh % k : Nat) : Int)) = false := by simp; omega
              go_wp2_with fail
              refine (get_step _ _ _ _ _ _ _ _ _ _ _ _ _ _ HPy.out (by rw [keepF_length]; omega) hN.out).mono ?_
              rintro e w7 ⟨rfl, b7⟩
              have HP7 := Lib.hid (HPy.out.behind b7); have HB7 := Lib.hid (HBy.out.trans (below_le b7 HBy.out.size)); have HO7 := Lib.hid (ownsRow_below HOy.out b7)
              clear b7 hc0 hc1 ht0
              obtain ⟨bo, off, rfl, hbo, hc⟩ := HE.out j (by omega)
              have hcx : w7.cell? ⟨bo, off + j, none⟩ = some (.int .i64 (f j)) := by rw [HB7.out.cell (p := ⟨bo, off + j, none⟩) hbo]; exact hc
              have hbz := HB7.out.size
              go_wp2_with fail
              go_roundw
              case rel => exact ⟨j + 1, by omega, by go_num, HP7.out, HO7.out, HB7.out⟩
              case measure => simp [intOf]; omega
          · obtain rfl : j = k := by omega
            have hnb : (((j : Nat) : Int) - 1 == (j : Int) - 1) = true := beq_iff_eq.2 rfl
            go_wp2_with fail
            refine (len_any _ _ _ _ _ _ _ _ HPy.out).mono ?_
            rintro e w7 ⟨rfl, rfl⟩
            go_wp2
            go_ret
            exact ⟨rfl, HBy.out⟩
theorem walk_ArenaKeeps' (a : Option Addr) (len capo : Nat) (wh x : Int) (w : World) (h : FlatSlice [some .i64] w a len) (hwh : (Lit.int .u8 wh).wf = true) :
    Calls Try.prog 6 #[.slice a len capo, .int .u8 wh, .int .i64 x] w fun e w' => e = .returned (.bool true) ∧ Below w.heap.size w w' := by
  obtain ⟨f, hf⟩ := intsAt_of h
  have hu := u8_of_wf hwh
  obtain ⟨n, rfl⟩ := Int.eq_ofNat_of_zero_le hu.1
  exact walk_ArenaKeeps a len capo f n x w hf (by have := h.1; first | exact this | (unfold maxLen at this; omega)) (by omega)
end Go.Proofs.Ytdkfdpiikhgfiaa
