/- Contract of the program's package arena over group: All. Condition: the pool lies in memory as HasPool says. -/
import Derived.Test.YtnbljnpfmeidfaaPoolA
import Derived.Test.YtnbljnpfmeidfaaRefA
namespace Go.Proofs.Ytnbljnpfmeidfaa
open Go Go.RowKit Go.ChangeShapes Go.WideShapes
set_option linter.unusedVariables false

def usedOf (l : List Pl) : List Bool := l.map (·.used)
def gensOf (l : List Pl) : List Int := l.map (·.gen)
def valsOf (l : List Pl) : List Int := l.map (·.x.x)
def allL (l : List Pl) : List (Nat × Int) := allTo (usedOf l) (gensOf l) l.length
set_option maxHeartbeats 2000000 in
theorem pall_any (w : World) (base p : Nat) (v : Value) (room many free : Int) (l : List Pl) (h : HasPool w base p v room many free l) (hl : l.length ≤ 4096) :
    Calls Try.prog 52 #[.pointer (some ⟨p, 0, none⟩)] w fun e w' => ∃ v', e = .returned v' ∧ w'.ownsRow w.heap.size 30 2 v' (allL l).length (hcl (allL l)) ∧ Below w.heap.size w w' := by
  obtain ⟨i0, hi, hq0, hq1, hq2⟩ := info_parts rinfo_handle
  have hp := h.lt
  obtain ⟨c0, c1, c2, c3⟩ := h.cell
  obtain ⟨av, cv, hv⟩ : ∃ a c, v = .slice a l.length c := by
    rcases h.row with ⟨hv, hn⟩ | ⟨g, cap, hv, _⟩
    · exact ⟨none, 0, by rw [hv, hn]; rfl⟩
    · exact ⟨_, _, hv⟩
  subst hv
  have HP := Lib.hid h
  clear h
  go_enter Try.func52, Try.ntmps52
  go_wp2_with fail
  clear c0 c1 c2 c3
  go_loopw [3, 13] (fun vl i wr => ∃ (k m : Nat), k ≤ l.length ∧ m ≤ k ∧ i = .int .i64 k ∧ m = (allTo (usedOf l) (gensOf l) k).length ∧ wr.ownsRow w.heap.size 30 2 vl m (hcl (allTo (usedOf l) (gensOf l) k)) ∧ Below w.heap.size w wr) (fun _ i _ => l.length - (intOf i).toNat)
  case atStart => exact ⟨0, 0, by omega, by omega, rfl, rfl, World.ownsRow_nil _ _ _ _, Below.refl _ _⟩
  case round =>
    obtain ⟨k, m, hk, hmk, rfl, hm, hown, hb⟩ := hrel
    have HM := Lib.hid hm; have HO := Lib.hid hown; have HB := Lib.hid hb
    obtain ⟨ar, cr, hv⟩ := hrow_nil hown
    subst hv
    clear hm hown hb
    have hzb := HB.out.size
    by_cases hkn : k < l.length
    · have HPr := Lib.hid (HP.out.behind HB.out)
      obtain ⟨q, hq⟩ : ∃ q, l[k]? = some q := ⟨_, List.getElem?_eq_getElem hkn⟩
      obtain ⟨g, cap, hav, hgw⟩ : ∃ g cap, Value.slice av l.length cv = .slice (some ⟨g, 0, none⟩) l.length cap ∧ g < wr.heap.size := by
        rcases HPr.out.row with ⟨hv, hn⟩ | ⟨g, cap, hv, _, hg, _⟩
        · rw [hn] at hkn; simp at hkn
        · exact ⟨g, cap, hv, hg⟩
      cases hav
      obtain ⟨hk', hq'⟩ := List.getElem?_eq_some_iff.1 hq
      have h00 := HPr.out.place k 0 hkn (by omega)
      have h01 := HPr.out.place k 1 hkn (by omega)
      have h02 := HPr.out.place k 2 hkn (by omega)
      have h1 := HPr.out.place k 3 hkn (by omega)
      have h2 := HPr.out.place k 4 hkn (by omega)
      have h3 := HPr.out.place k 5 hkn (by omega)
      rw [hq'] at h00 h01 h02 h1 h2 h3
      have h00' : wr.cell? ⟨g, k * 6, none⟩ = some (.int .i64 q.x.ui) := h00
      have h01' : wr.cell? ⟨g, k * 6 + 1, none⟩ = some (.int .i64 q.x.ug) := h01
      have h02' : wr.cell? ⟨g, k * 6 + 2, none⟩ = some (.int .i64 q.x.dp) := h02
      have h1' : wr.cell? ⟨g, k * 6 + 3, none⟩ = some (.int .i64 q.gen) := h1
      have h2' : wr.cell? ⟨g, k * 6 + 4, none⟩ = some (.bool q.used) := h2
      have h3' : wr.cell? ⟨g, k * 6 + 5, none⟩ = some (.int .i64 q.next) := h3
      have hs : allTo (usedOf l) (gensOf l) (k + 1) = allTo (usedOf l) (gensOf l) k ++ (if q.used = true then [(k, q.gen)] else []) := by
        have e1 : (usedOf l).getD k false = q.used := by rw [usedOf, List.getD_eq_getElem?_getD, List.getElem?_map, hq]; rfl
        have e2 : (gensOf l).getD k 0 = q.gen := by rw [gensOf, List.getD_eq_getElem?_getD, List.getElem?_map, hq]; rfl
        simp only [allTo, e1, e2]
      have HS := Lib.hid hs
      clear hs h00 h01 h02 h1 h2 h3 hq hq'
      obtain ⟨x, gn, u, nx⟩ := q
      simp only at h00' h01' h02' h1' h2' h3' HS
      cases u with
      | false =>
        have e : allTo (usedOf l) (gensOf l) (k + 1) = allTo (usedOf l) (gensOf l) k := by rw [HS.out]; simp
        have HE := Lib.hid e; clear e
        go_wp2_with fail
        go_roundw
        case rel => exact ⟨k + 1, m, by omega, by omega, by go_num, by rw [HE.out]; exact HM.out, by rw [HE.out]; exact HO.out.alloc _, HB.out.alloc hzb _⟩
        case measure => simp [intOf]; omega
      | true =>
        have e : allTo (usedOf l) (gensOf l) (k + 1) = allTo (usedOf l) (gensOf l) k ++ [(k, gn)] := by rw [HS.out]; simp
        have HE := Lib.hid e; clear e
        go_wp2_with (at_builtin; go_loud (refine wpList_append_own _ rfl _ _ 26 rfl w.heap.size 30 i0 (.agg #[.int .i64 0, .int .i64 0]) 2 16 Try.underlying26 hi hq0 hq1 hq2 rfl (by decide) _ m (hcl (allTo (usedOf l) (gensOf l) k)) rfl ((HO.out.alloc _).alloc _) ⟨wr.heap.size + 1, 0, none⟩ 1 1 [.int .i64 k, .int .i64 gn] rfl rfl ?c1 ?c2 ?c3 ?c4 ?c5 ?_))
        try case c1 =>
          intro jj u hj'
          have hj0 : jj = 0 ∨ jj = 1 := by have := (List.getElem?_eq_some_iff.1 hj').1; simp at this; omega
          rcases hj0 with rfl | rfl
          · simp at hj'
            subst hj'
            simp [go_sem]
          · simp at hj'
            subst hj'
            simp [go_sem]
        try case c2 => first | (intro u hu; simp at hu; rcases hu with rfl | rfl <;> rfl) | exact ⟨rfl, rfl⟩
        try case c3 => unfold maxLen; omega
        try case c4 => omega
        try case c5 => first | omega | (simp; omega)
        intro v6 w6 hown6 hgrow6 _
        have HB6 := Lib.hid (((HB.out.alloc hzb (.cells #[.int .i64 x.ui, .int .i64 x.ug, .int .i64 x.dp, .int .i64 gn, .bool true, .int .i64 nx] 104)).alloc (by simp; omega) (.cells #[.int .i64 k, .int .i64 gn] 30)).grown hgrow6 (by simp; omega) (fun kk hk' => (HO.out.lt kk hk').1))
        have ho6 : w6.ownsRow w.heap.size 30 2 v6 (m + 1) (hcl (allTo (usedOf l) (gensOf l) (k + 1))) := by rw [HE.out, ← hcl_app]; exact hown6
        have HO6 := Lib.hid ho6
        have HM6 : Hid (m + 1 = (allTo (usedOf l) (gensOf l) (k + 1)).length) := Lib.hid (by rw [HE.out, List.length_append, ← HM.out]; rfl)
        clear hown6 hgrow6 ho6
        go_wp2_with fail
        go_roundw
        case rel => exact ⟨k + 1, m + 1, by omega, by omega, by go_num, HM6.out, HO6.out, HB6.out⟩
        case measure => simp [intOf]; omega
    · obtain rfl : k = l.length := by omega
      have hfin : wr.ownsRow w.heap.size 30 2 (.slice ar m cr) (allL l).length (hcl (allL l)) := by
        have := HO.out
        unfold allL
        rw [← HM.out]
        exact this
      have HF := Lib.hid hfin
      clear hfin
      go_wp2
      go_ret
      exact ⟨_, rfl, HF.out, HB.out⟩
end Go.Proofs.Ytnbljnpfmeidfaa
