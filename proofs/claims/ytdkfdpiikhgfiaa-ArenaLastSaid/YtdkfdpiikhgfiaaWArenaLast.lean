/- The walk of the law ArenaLast: it returns true. Condition: the argument reads as a slice of uint8. -/
import Derived.Test.YtdkfdpiikhgfiaaLast
namespace Go.Proofs.Ytdkfdpiikhgfiaa
open Go Go.RowKit Go.ChangeShapes Go.WideShapes
set_option linter.unusedVariables false

theorem info_int : (Try.prog.info? 3).map (fun i => (i.zero, i.size, i.bytes)) = some (some (.int .i64 0), 1, 8) := by kernel_rfl
def natVals (l : List Nat) : List Value := l.map fun i => Value.int .i64 (i : Nat)

set_option maxHeartbeats 2000000 in
theorem walk_ArenaLast (a : Option Addr) (len capo : Nat) (w : World) (h : FlatSlice [some .u8] w a len) :
    Calls Try.prog 5 #[.slice a len capo] w fun e w' => e = .returned (.bool true) ∧ Below w.heap.size w w' := by
  obtain ⟨i0, hi, hq0, hq1, hq2⟩ := info_parts info_int
  have hlen := h.1
  have HE := Lib.hid h; clear h
  go_enter Try.func5, Try.ntmps5
  go_wp2_with fail
  refine (awake _).mono ?_
  rintro e w1 ⟨rfl, b1⟩
  go_wp2_with fail
  refine (new_yes _ _ (by omega)).mono ?_
  rintro e w2 ⟨rfl, rfl⟩
  have hz1 := b1.size
  have HP := Lib.hid (HasPool.made w1 256 w.heap.size b1.size)
  have HB := Lib.hid (b1.alloc b1.size (.cells #[.int .i64 256, .int .i64 0, .slice none 0 0, .int .i64 (-1)] 64))
  clear b1
  go_wp2_with fail
  go_loopw [6] (fun i wr => ∃ (k : Nat) (v : Value), k ≤ 256 ∧ i = .int .i64 k ∧ HasPool wr w.heap.size w1.heap.size v 256 k (-1) (fullL k) ∧ Below w.heap.size w wr) (fun i _ => 256 - (intOf i).toNat)
  case atStart => exact ⟨0, _, by omega, rfl, HP.out, HB.out⟩
  case round =>
    obtain ⟨k, v, hk, rfl, hp, hb⟩ := hrel
    have hzr := hb.size
    have HPr := Lib.hid hp; have HBr := Lib.hid hb; clear hp hb
    by_cases hlt : (k : Int) < 256
    · go_wp2_with fail
      refine (put_next k _ _ _ _ _ _ HPr.out rfl (by omega) (by omega) (by omega)).mono ?_
      rintro e w3 ⟨rfl, g, cap, hp3, hs3⟩
      have HP3 := Lib.hid hp3; have HB3 := Lib.hid (HBr.out.trans hs3.below); clear hp3 hs3
      go_wp2_with fail
      go_roundw
      case rel => exact ⟨k + 1, _, by omega, by go_num, HP3.out, HB3.out⟩
      case measure => simp [intOf]; omega
    · obtain rfl : k = 256 := by omega
      obtain ⟨g, cap, rfl⟩ : ∃ g cap, v = .slice (some ⟨g, 0, none⟩) 256 cap := by
        rcases HPr.out.row with ⟨_, hn⟩ | ⟨g, cap, hv, _⟩
        · have := congrArg List.length hn; rw [fullL_length] at this; simp at this
        · rw [fullL_length] at hv; exact ⟨g, cap, hv⟩
      have HL := Lib.hid (show LastIs (fullL 256) (-1) [] from ⟨fullL_length _, rfl, List.nodup_nil, by simp, fun k hk _ => fullL_get _ _ hk⟩)
      go_wp2_with fail
      obtain ⟨wo, rfl⟩ : ∃ wo : World, wo = wr := ⟨_, rfl⟩
      go_loopw [7, 8] (fun vf i wx => ∃ (k : Nat) (st : List Nat) (l : List Pl) (free M : Int), k ≤ len ∧ k ≤ 100 ∧ i = .int .i64 k ∧ M = 256 - (st.length : Int) ∧ st.length ≤ k ∧ HasPool wx w.heap.size w1.heap.size (.slice (some ⟨g, 0, none⟩) 256 cap) 256 M free l ∧ LastIs l free st ∧
        wx.ownsRow w.heap.size 3 1 vf st.length (natVals st.reverse) ∧ Below w.heap.size w wx) (fun _ i _ => 100 - (intOf i).toNat)
      case atStart => exact ⟨0, [], _, -1, 256, by omega, by omega, rfl, rfl, by simp, HPr.out, HL.out, World.ownsRow_nil _ _ _ _, HBr.out⟩
      case round =>
        obtain ⟨k, st, l, free, M, hk, hk1, rfl, hM, hst, hp, hl, hown, hb⟩ := hrel
        have hzx := hb.size
        have HPx := Lib.hid hp; have HBx := Lib.hid hb; have HLx := Lib.hid hl; have HOx := Lib.hid hown; have HMx := Lib.hid hM
        have hM0 : 0 ≤ M := by omega
        have hM1 : M ≤ 256 := by omega
        clear hp hb hl hown hM
        by_cases hlt : k < len
        · by_cases hlt1 : k < 100
          · obtain ⟨bo, off, vv, rfl, hbo, hwf, hc⟩ := flatSlice_int HE.out k hlt
            obtain ⟨j, rfl⟩ := Int.eq_ofNat_of_zero_le (u8_of_wf hwf).1
            have hj : j < 256 := by have := (u8_of_wf hwf).2; omega
            have hcx : wr.cell? ⟨bo, off + k, none⟩ = some (.int .u8 (j : Int)) := by rw [HBx.out.cell (p := ⟨bo, off + k, none⟩) hbo]; exact hc
            by_cases hm : j ∈ st
            · go_wp2_with fail
              refine (free_miss _ _ _ _ _ _ _ _ _ _ HPx.out (by rw [HLx.out.len]; omega) (HLx.out.none j hm)).mono ?_
              rintro e w4 ⟨rfl, b4⟩
              have HB4 := Lib.hid (HBx.out.trans (below_le b4 (by omega))); have HP4 := Lib.hid (HPx.out.behind b4); have HO4 := Lib.hid (ownsRow_below HOx.out b4)
              clear b4 hcx
              go_wp2_with fail
              go_roundw
              case rel => exact ⟨k + 1, st, l, free, M, by omega, by omega, by go_num, HMx.out, by omega, HP4.out, HLx.out, HO4.out, HB4.out⟩
              case measure => simp [intOf]; omega
            · go_wp2_with fail
              refine (free_step _ 0 j ⟨j, 0, true, -1⟩ _ _ _ _ _ _ _ _ _ _ HPx.out (by rw [HLx.out.len]; omega) (HLx.out.some j hj hm) (by simp) (by omega) (by omega)).mono ?_
              rintro e w4 ⟨rfl, hp4, hs4⟩
              have hz4 := hs4.tch.size
              have hO4 := ownsRow_step HOx.out hs4 (by decide) (HPx.out.notRow _ (by decide))
              have HO4 := Lib.hid hO4
              have HB4 := Lib.hid (HBx.out.trans hs4.below); have HP4 := Lib.hid hp4; have HL4 := Lib.hid (HLx.out.free j hj hm)
              clear hp4 hs4 hcx hO4
              have hcx : w4.cell? ⟨bo, off + k, none⟩ = some (.int .u8 (j : Int)) := by rw [HB4.out.cell (p := ⟨bo, off + k, none⟩) hbo]; exact hc
              go_wp2_with (at_builtin; go_loud (refine wpList_append_own _ rfl _ _ 22 rfl w.heap.size 3 i0 (.int .i64 0) 1 8 Try.underlying22 hi hq0 hq1 hq2 rfl (by decide) _ st.length (natVals st.reverse) rfl (HO4.out.alloc _) ⟨w4.heap.size, 0, none⟩ 1 1 [.int .i64 j] rfl rfl ?c1 ?c2 ?c3 ?c4 ?c5 ?_))
              case c1 =>
                intro jj u hj'
                have hj0 : jj = 0 := by have := (List.getElem?_eq_some_iff.1 hj').1; simpa using this
                subst hj0
                simp at hj'
                subst hj'
                simp [go_sem]
              case c2 => intro u hu; simp at hu; subst hu; rfl
              case c3 => unfold maxLen; omega
              case c4 => omega
              case c5 => have := HB4.out.size; simp; omega
              intro v5 w5 hown5 hgrow5 _
              have hv5 : natVals st.reverse ++ [Value.int .i64 (j : Int)] = natVals (j :: st).reverse := by simp [natVals]
              rw [hv5] at hown5
              have HP5 := Lib.hid ((HP4.out.alloc (.cells #[.int .i64 j] 3)).rowGrown hgrow5 (HO4.out.alloc _) (by decide) (by decide))
              have HB5 := Lib.hid ((HB4.out.alloc HB4.out.size (.cells #[.int .i64 j] 3)).grown hgrow5 (by have := HB4.out.size; simp; omega) (fun kk hk' => (HO4.out.lt kk hk').1))
              have HO5 := Lib.hid hown5
              clear hown5 hgrow5 hv5 hcx
              go_wp2_with fail
              go_roundw
              case rel => exact ⟨k + 1, j :: st, _, j, M - 1, by omega, by omega, by go_num, by have := HMx.out; simp; omega, by simp; omega, HP5.out, HL4.out, HO5.out, HB5.out⟩
              case measure => simp [intOf]; omega
          · obtain ⟨ao, cf, rfl⟩ : ∃ ao cf, u7 = .slice ao st.length cf := by
              rcases HOx.out.2 with ⟨hv, hn⟩ | ⟨t, cf, cur, hv, _⟩
              · exact ⟨none, 0, by rw [hv, hn]⟩
              · exact ⟨_, _, hv⟩
            have HBK := Lib.hid (show BackIs l free st from ⟨HLx.out.len, HLx.out.chain, HLx.out.nodup⟩)
            go_wp2_with fail
            obtain ⟨wo2, rfl⟩ : ∃ wo2 : World, wo2 = wr := ⟨_, rfl⟩
            go_loopw [11] (fun i wy => ∃ (pre st' : List Nat) (l' : List Pl) (free' M' : Int), st = pre ++ st' ∧ i = .int .i64 ((st'.length : Int) - 1) ∧ M' = 256 - (st'.length : Int) ∧ HasPool wy w.heap.size w1.heap.size (.slice (some ⟨g, 0, none⟩) 256 cap) 256 M' free' l' ∧ BackIs l' free' st' ∧
              wy.ownsRow w.heap.size 3 1 (.slice ao st.length cf) st.length (natVals st.reverse) ∧ Below w.heap.size w wy) (fun i _ => (intOf i + 1).toNat)
            case atStart => exact ⟨[], st, l, free, M, rfl, rfl, HMx.out, HPx.out, HBK.out, HOx.out, HBx.out⟩
            case round =>
              obtain ⟨pre, st', l', free', M', hst', hi', hM', hp', hbk', hown', hb'⟩ := hrel
              have hzy := hb'.size
              have HPy := Lib.hid hp'; have HBy := Lib.hid hb'; have HKy := Lib.hid hbk'; have HOy := Lib.hid hown'; have HMy := Lib.hid hM'; have HSy := Lib.hid hst'
              have hlst : st'.length ≤ st.length := by rw [hst', List.length_append]; omega
              clear hp' hb' hbk' hown' hM' hst'
              cases st' with
              | nil =>
                subst hi'
                have hMb : (M' == 256) = true := beq_iff_eq.2 (by have := HMy.out; simpa using this)
                go_wp2_with fail
                refine (len_any _ _ _ _ _ _ _ _ HPy.out).mono ?_
                rintro e w7 ⟨rfl, rfl⟩
                go_wp2
                go_ret
                exact ⟨rfl, HBy.out⟩
              | cons x r =>
                have he : (((x :: r).length : Nat) : Int) - 1 = (r.length : Int) := by simp
                rw [he] at hi'
                subst hi'
                clear he
                simp only [List.length_cons] at hlst
                obtain ⟨q, hf, hq, hg, hb2⟩ := HKy.out.put 0
                subst hf
                have hM2 : 0 ≤ M' ∧ M' < 256 := by have := HMy.out; simp at this; omega
                obtain ⟨hM3, hM4⟩ := hM2
                have c := put_again 0 x q _ _ _ _ _ _ _ _ _ HPy.out (by rw [HKy.out.len]; omega) hq (by omega) hM4 (by omega)
                rw [hg] at c
                have HC := Lib.hid c; have HQ2 := Lib.hid hb2; clear c hq hg hb2
                obtain ⟨t, rfl⟩ : ∃ t, ao = some ⟨t, 0, none⟩ := by
                  rcases HOy.out.2 with ⟨_, hn⟩ | ⟨t, cf', cur, hv, _⟩
                  · omega
                  · cases hv; exact ⟨t, rfl⟩
                go_wp2_with fail
                refine HC.out.mono ?_
                rintro e w5 ⟨rfl, hp5, hs5⟩
                have hO5 := ownsRow_step HOy.out hs5 (by decide) (HPy.out.notRow _ (by decide))
                have ht5 : t < w5.heap.size := (hO5.lt t rfl).2
                have hc5 : w5.cell? ⟨t, r.length, none⟩ = some (.int .i64 (x : Nat)) := by
                  rw [hO5.cellAt r.length (by omega)]
                  have e : natVals st.reverse = natVals r.reverse ++ ([Value.int .i64 (x : Nat)] ++ natVals pre.reverse) := by rw [HSy.out]; simp [natVals]
                  rw [e, List.getElem?_append_right (by simp [natVals])]
                  simp [natVals]
                have HP5 := Lib.hid hp5; have HB5 := Lib.hid (HBy.out.trans hs5.below); have HO5 := Lib.hid hO5
                clear hp5 hs5 hO5
                go_wp2_with fail
                go_quiet (fail)
                go_wp2_with fail
                go_roundw
                case rel => exact ⟨pre ++ [x], r, _, _, M' + 1, by rw [HSy.out]; simp, rfl, by have := HMy.out; simp at this; omega, (HP5.out.alloc _).drewN _, HQ2.out, ownsRow_below HO5.out (below_drewN ((Below.refl _ _).alloc (Nat.le_refl _) _) _), below_drewN (HB5.out.alloc HB5.out.size _) _⟩
                case measure => simp [intOf]
        · obtain ⟨ao, cf, rfl⟩ : ∃ ao cf, u7 = .slice ao st.length cf := by
            rcases HOx.out.2 with ⟨hv, hn⟩ | ⟨t, cf, cur, hv, _⟩
            · exact ⟨none, 0, by rw [hv, hn]⟩
            · exact ⟨_, _, hv⟩
          have HBK := Lib.hid (show BackIs l free st from ⟨HLx.out.len, HLx.out.chain, HLx.out.nodup⟩)
          go_wp2_with fail
          obtain ⟨wo2, rfl⟩ : ∃ wo2 : World, wo2 = wr := ⟨_, rfl⟩
          go_loopw [11] (fun i wy => ∃ (pre st' : List Nat) (l' : List Pl) (free' M' : Int), st = pre ++ st' ∧ i = .int .i64 ((st'.length : Int) - 1) ∧ M' = 256 - (st'.length : Int) ∧ HasPool wy w.heap.size w1.heap.size (.slice (some ⟨g, 0, none⟩) 256 cap) 256 M' free' l' ∧ BackIs l' free' st' ∧
            wy.ownsRow w.heap.size 3 1 (.slice ao st.length cf) st.length (natVals st.reverse) ∧ Below w.heap.size w wy) (fun i _ => (intOf i + 1).toNat)
          case atStart => exact ⟨[], st, l, free, M, rfl, rfl, HMx.out, HPx.out, HBK.out, HOx.out, HBx.out⟩
          case round =>
            obtain ⟨pre, st', l', free', M', hst', hi', hM', hp', hbk', hown', hb'⟩ := hrel
            have hzy := hb'.size
            have HPy := Lib.hid hp'; have HBy := Lib.hid hb'; have HKy := Lib.hid hbk'; have HOy := Lib.hid hown'; have HMy := Lib.hid hM'; have HSy := Lib.hid hst'
            have hlst : st'.length ≤ st.length := by rw [hst', List.length_append]; omega
            clear hp' hb' hbk' hown' hM' hst'
            cases st' with
            | nil =>
              subst hi'
              have hMb : (M' == 256) = true := beq_iff_eq.2 (by have := HMy.out; simpa using this)
              go_wp2_with fail
              refine (len_any _ _ _ _ _ _ _ _ HPy.out).mono ?_
              rintro e w7 ⟨rfl, rfl⟩
              go_wp2
              go_ret
              exact ⟨rfl, HBy.out⟩
            | cons x r =>
              have he : (((x :: r).length : Nat) : Int) - 1 = (r.length : Int) := by simp
              rw [he] at hi'
              subst hi'
              clear he
              simp only [List.length_cons] at hlst
              obtain ⟨q, hf, hq, hg, hb2⟩ := HKy.out.put 0
              subst hf
              have hM2 : 0 ≤ M' ∧ M' < 256 := by have := HMy.out; simp at this; omega
              obtain ⟨hM3, hM4⟩ := hM2
              have c := put_again 0 x q _ _ _ _ _ _ _ _ _ HPy.out (by rw [HKy.out.len]; omega) hq (by omega) hM4 (by omega)
              rw [hg] at c
              have HC := Lib.hid c; have HQ2 := Lib.hid hb2; clear c hq hg hb2
              obtain ⟨t, rfl⟩ : ∃ t, ao = some ⟨t, 0, none⟩ := by
                rcases HOy.out.2 with ⟨_, hn⟩ | ⟨t, cf', cur, hv, _⟩
                · omega
                · cases hv; exact ⟨t, rfl⟩
              go_wp2_with fail
              refine HC.out.mono ?_
              rintro e w5 ⟨rfl, hp5, hs5⟩
              have hO5 := ownsRow_step HOy.out hs5 (by decide) (HPy.out.notRow _ (by decide))
              have ht5 : t < w5.heap.size := (hO5.lt t rfl).2
              have hc5 : w5.cell? ⟨t, r.length, none⟩ = some (.int .i64 (x : Nat)) := by
                rw [hO5.cellAt r.length (by omega)]
                have e : natVals st.reverse = natVals r.reverse ++ ([Value.int .i64 (x : Nat)] ++ natVals pre.reverse) := by rw [HSy.out]; simp [natVals]
                rw [e, List.getElem?_append_right (by simp [natVals])]
                simp [natVals]
              have HP5 := Lib.hid hp5; have HB5 := Lib.hid (HBy.out.trans hs5.below); have HO5 := Lib.hid hO5
              clear hp5 hs5 hO5
              go_wp2_with fail
              go_quiet (fail)
              go_wp2_with fail
              go_roundw
              case rel => exact ⟨pre ++ [x], r, _, _, M' + 1, by rw [HSy.out]; simp, rfl, by have := HMy.out; simp at this; omega, (HP5.out.alloc _).drewN _, HQ2.out, ownsRow_below HO5.out (below_drewN ((Below.refl _ _).alloc (Nat.le_refl _) _) _), below_drewN (HB5.out.alloc HB5.out.size _) _⟩
              case measure => simp [intOf]
end Go.Proofs.Ytdkfdpiikhgfiaa
