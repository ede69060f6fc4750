/- Contracts of the document's pool, doleref05: All, Same. Conditions: the rows are as long as one another. -/
import Derived.Test.YtnbljnpfmeidfaaRefR
namespace Go.Proofs.Ytnbljnpfmeidfaa
open Go Go.RowKit Go.ChangeShapes Go.WideShapes
set_option linter.unusedVariables false

theorem rinfo_handle : (Try.prog.info? 30).map (fun i => (i.zero, i.size, i.bytes)) = some (some (.agg #[.int .i64 0, .int .i64 0]), 2, 16) := by kernel_rfl
/-- the cells of handles -/
def hcl (T : List (Nat × Int)) : List Value := T.flatMap fun p => [.int .i64 (p.1 : Nat), .int .i64 p.2]
theorem hcl_length (T : List (Nat × Int)) : (hcl T).length = T.length * 2 := by
  induction T with
  | nil => rfl
  | cons a T ih => simp [hcl] at ih ⊢; omega
theorem hcl_app (T : List (Nat × Int)) (k : Nat) (g : Int) : hcl T ++ [.int .i64 k, .int .i64 g] = hcl (T ++ [(k, g)]) := by simp [hcl]
theorem hcl_get : ∀ (T : List (Nat × Int)) (n i : Nat) (g : Int), T[n]? = some (i, g) → (hcl T)[n * 2]? = some (.int .i64 (i : Nat)) ∧ (hcl T)[n * 2 + 1]? = some (.int .i64 g)
  | [], n, i, g, h => by simp at h
  | a :: T, 0, i, g, h => by simp at h; subst h; simp [hcl]
  | a :: T, n + 1, i, g, h => by
    have ih := hcl_get T n i g (by simpa using h)
    have e : hcl (a :: T) = [.int .i64 (a.1 : Nat), .int .i64 a.2] ++ hcl T := by simp [hcl]
    rw [e, List.getElem?_append_right (by simp; omega), List.getElem?_append_right (by simp; omega)]
    have e1 : (n + 1) * 2 - [Value.int .i64 (a.1 : Nat), Value.int .i64 a.2].length = n * 2 := by simp; omega
    have e2 : (n + 1) * 2 + 1 - [Value.int .i64 (a.1 : Nat), Value.int .i64 a.2].length = n * 2 + 1 := by simp; omega
    rw [e1, e2]
    exact ih
theorem hcl_cell {w : World} {base t m cf : Nat} {T : List (Nat × Int)} (h : w.ownsRow base 30 2 (.slice (some ⟨t, 0, none⟩) m cf) m (hcl T)) (n i : Nat) (g : Int) (hT : T[n]? = some (i, g)) (hn : n < m) :
    w.cell? ⟨t, n * 2, none⟩ = some (.int .i64 (i : Nat)) ∧ w.cell? ⟨t, n * 2 + 1, none⟩ = some (.int .i64 g) ∧ t < w.heap.size := by
  rw [h.cellAt (n * 2) (by omega), h.cellAt (n * 2 + 1) (by omega)]
  exact ⟨(hcl_get T n i g hT).1, (hcl_get T n i g hT).2, (h.lt t rfl).2⟩
theorem hrow_nil {w : World} {base : Nat} {e : TypeId} {size : Nat} {v : Value} {n : Nat} {xs : List Value} (h : w.ownsRow base e size v n xs) : ∃ a cap, v = .slice a n cap := by
  rcases h.2 with ⟨hv, hn⟩ | ⟨t, cf, cur, hv, _⟩
  · exact ⟨none, 0, by rw [hv, hn]⟩
  · exact ⟨_, _, hv⟩
theorem hrow_some {w : World} {base : Nat} {e : TypeId} {size : Nat} {a : Option Addr} {c n : Nat} {xs : List Value} (h : w.ownsRow base e size (.slice a n c) n xs) (h0 : 0 < n) : ∃ t, a = some ⟨t, 0, none⟩ := by
  rcases h.2 with ⟨hv, hn⟩ | ⟨t, cf, cur, hv, _⟩
  · omega
  · cases hv; exact ⟨t, rfl⟩
set_option maxHeartbeats 1000000 in
set_option maxRecDepth 100000 in
theorem rsame_eq (w : World) (b1 b2 n : Nat) (v1 v2 : Value) (T : List (Nat × Int)) (hn : n = T.length) (h1 : w.ownsRow b1 30 2 v1 n (hcl T)) (h2 : w.ownsRow b2 30 2 v2 n (hcl T)) (hb : n ≤ 9223372036854775807) :
    Calls Try.prog 16 #[v1, v2] w fun e w' => e = .returned (.bool true) ∧ ∃ d, w.drewN d = w' := by
  obtain ⟨a1, c1, rfl⟩ := hrow_nil h1
  obtain ⟨a2, c2, rfl⟩ := hrow_nil h2
  have H1 := Lib.hid h1; have H2 := Lib.hid h2; have HN := Lib.hid hn
  clear h1 h2 hn
  go_enter Try.func16, Try.ntmps16
  go_wp2_with fail
  go_loopw [5] (fun i wr => ∃ k d : Nat, k ≤ n ∧ i = .int .i64 k ∧ wr = w.drewN d) (fun i _ => n - (intOf i).toNat)
  case atStart => exact ⟨0, 0, by omega, rfl, rfl⟩
  case round =>
    obtain ⟨k, d, hk, rfl, rfl⟩ := hrel
    by_cases hkn : k < n
    · obtain ⟨ih, hT⟩ : ∃ ih, T[k]? = some ih := ⟨_, List.getElem?_eq_getElem (by rw [← HN.out]; exact hkn)⟩
      obtain ⟨i, g⟩ := ih
      obtain ⟨t1, rfl⟩ := hrow_some H1.out (by omega)
      obtain ⟨t2, rfl⟩ := hrow_some H2.out (by omega)
      obtain ⟨x0, x1, xl⟩ := hcl_cell H1.out k i g hT hkn
      obtain ⟨y0, y1, yl⟩ := hcl_cell H2.out k i g hT hkn
      clear hT
      go_wp2_with fail
      go_quiet (fail)
      go_wp2_with fail
      go_roundw
      case rel => exact ⟨k + 1, _, by omega, by go_num, rfl⟩
      case measure => simp [intOf]; omega
    · go_wp2
      go_ret
      exact ⟨rfl, d, rfl⟩
/-- the handles that name something, by rising places -/
def allTo (used : List Bool) (gens : List Int) : Nat → List (Nat × Int)
  | 0 => []
  | k + 1 => allTo used gens k ++ (if used.getD k false then [(k, gens.getD k 0)] else [])
theorem allTo_length (used : List Bool) (gens : List Int) : ∀ k, (allTo used gens k).length ≤ k
  | 0 => Nat.le_refl _
  | k + 1 => by
    have := allTo_length used gens k
    simp only [allTo, List.length_append]
    split <;> simp <;> omega
def Rp.all (r : Rp) : List (Nat × Int) := allTo r.used r.gens r.vals.length
set_option maxHeartbeats 2000000 in
set_option maxRecDepth 100000 in
theorem rall_any (w : World) (r : Rp) (a1 : Option Addr) (c1 : Nat) (a2 : Option Addr) (c2 : Nat) (a3 : Option Addr) (c3 : Nat) (a4 : Option Addr) (c4 : Nat) (h : RefP w r a1 c1 a2 c2 a3 c3 a4 c4) (ho : r.Ok) :
    Calls Try.prog 29 #[.agg (pcells r a1 c1 a2 c2 a3 c3 a4 c4)] w fun e w' => ∃ v, e = .returned v ∧ w'.ownsRow w.heap.size 30 2 v r.all.length (hcl r.all) ∧ Below w.heap.size w w' := by
  obtain ⟨i0, hi, hq0, hq1, hq2⟩ := info_parts rinfo_handle
  have HR := Lib.hid h
  have b1 := ho.vals
  have b2 := ho.used
  have b3 := ho.gens
  have hlu := ho.lu
  have hlg := ho.lg
  have HLU := Lib.hid hlu
  have HLG := Lib.hid hlg
  clear h hlu hlg
  go_enter Try.func29, Try.ntmps29
  go_wp2_with fail
  go_loopw [3, 4] (fun vl i wr => ∃ (k m : Nat), k ≤ r.vals.length ∧ m ≤ k ∧ i = .int .i64 k ∧ m = (allTo r.used r.gens k).length ∧ wr.ownsRow w.heap.size 30 2 vl m (hcl (allTo r.used r.gens k)) ∧ Px wr w.heap.size (pcells r a1 c1 a2 c2 a3 c3 a4 c4) ∧ RefP wr r a1 c1 a2 c2 a3 c3 a4 c4 ∧ Below w.heap.size w wr) (fun _ i _ => r.vals.length - (intOf i).toNat)
  case atStart => exact ⟨0, 0, by omega, by omega, rfl, rfl, World.ownsRow_nil _ _ _ _, Px.new w _, HR.out.behind (below_alloc _ _), below_alloc _ _⟩
  case round =>
    obtain ⟨k, m, hk, hmk, rfl, hm, hown, hx, hr, hb⟩ := hrel
    have HM := Lib.hid hm; have HO := Lib.hid hown; have HX := Lib.hid hx; have HRr := Lib.hid hr; have HB := Lib.hid hb
    obtain ⟨av, cv, hv⟩ := hrow_nil hown
    subst hv
    clear hm hown hx hr hb
    obtain ⟨q0, q1, q2, q3, q4⟩ := HX.out.c5
    have l0 := HX.out.lt
    have hzb := HB.out.size
    by_cases hkn : k < r.vals.length
    · have hku : k < r.used.length := by have := HLU.out; omega
      have hkg : k < r.gens.length := by have := HLG.out; omega
      obtain ⟨u, hu⟩ : ∃ u, r.used[k]? = some u := ⟨_, List.getElem?_eq_getElem hku⟩
      obtain ⟨g, hg⟩ : ∃ g, r.gens[k]? = some g := ⟨_, List.getElem?_eq_getElem hkg⟩
      obtain ⟨t2, rfl, ht2⟩ := rrow_some HRr.out.used (by omega)
      obtain ⟨t3, rfl, ht3⟩ := rrow_some HRr.out.gens (by omega)
      have hc2 := bcellx HRr.out.used rfl k _ hu
      have hc3 := icell HRr.out.gens rfl k _ hg
      have hs : allTo r.used r.gens (k + 1) = allTo r.used r.gens k ++ (if u = true then [(k, g)] else []) := by
        have e1 : r.used.getD k false = u := by rw [List.getD_eq_getElem?_getD, hu]; rfl
        have e2 : r.gens.getD k 0 = g := by rw [List.getD_eq_getElem?_getD, hg]; rfl
        simp only [allTo, e1, e2]
      have HS := Lib.hid hs
      clear hu hg hs
      cases u with
      | false =>
        have e : allTo r.used r.gens (k + 1) = allTo r.used r.gens k := by rw [HS.out]; simp
        have HE := Lib.hid e; clear e
        go_wp2_with fail
        go_roundw
        case rel => exact ⟨k + 1, m, by omega, by omega, by go_num, by rw [HE.out]; exact HM.out, by rw [HE.out]; exact HO.out, HX.out, HRr.out, HB.out⟩
        case measure => simp [intOf]; omega
      | true =>
        have e : allTo r.used r.gens (k + 1) = allTo r.used r.gens k ++ [(k, g)] := by rw [HS.out]; simp
        have HE := Lib.hid e; clear e
        go_wp2_with (at_builtin; go_loud (refine wpList_append_own _ rfl _ _ 26 rfl w.heap.size 30 i0 (.agg #[.int .i64 0, .int .i64 0]) 2 16 Try.underlying26 hi hq0 hq1 hq2 rfl (by decide) _ m (hcl (allTo r.used r.gens k)) rfl (HO.out.alloc _) ⟨wr.heap.size, 0, none⟩ 1 1 [.int .i64 k, .int .i64 g] rfl rfl ?c1 ?c2 ?c3 ?c4 ?c5 ?_))
        try case c1 =>
          intro jj u hj'
          have hj0 : jj = 0 ∨ jj = 1 := by have := (List.getElem?_eq_some_iff.1 hj').1; simp at this; omega
          rcases hj0 with rfl | rfl
          · simp at hj'
            subst hj'
            simp [go_sem]
          · simp at hj'
            subst hj'
            simp [go_sem]
        try case c2 => first | (intro u hu; simp at hu; rcases hu with rfl | rfl <;> rfl) | exact ⟨rfl, rfl⟩
        case c3 => unfold maxLen; omega
        case c4 => omega
        case c5 => first | omega | (simp; omega)
        intro v6 w6 hown6 hgrow6 _
        have hbel : Below w.heap.size w w6 := (HB.out.alloc hzb (.cells #[.int .i64 k, .int .i64 g] 30)).grown hgrow6 (by simp; omega) (fun kk hk' => (HO.out.lt kk hk').1)
        have hx6 : Px w6 w.heap.size (pcells r a1 c1 (some ⟨t2, 0, none⟩) c2 (some ⟨t3, 0, none⟩) c3 a4 c4) := by
          unfold Px
          rw [hgrow6.block w.heap.size (by simp; omega) (fun e => by
            rcases HO.out.2 with ⟨hv, _⟩ | ⟨g', cap, cur, hv, _, hh, _⟩
            · rw [hv] at e; simp [Value.ownBlock] at e
            · rw [hv] at e; simp [Value.ownBlock] at e; rw [← e] at hh; have := HX.out; unfold Px at this; rw [this] at hh; simp only [Option.some.injEq, Obj.cells.injEq] at hh; exact absurd hh.2.1 (by decide)), Below.heap_alloc _ _ _ l0]
          exact HX.out
        have HX6 := Lib.hid hx6
        have HB6 := Lib.hid hbel
        have HR6 := Lib.hid (HR.out.behind hbel)
        have ho6 : w6.ownsRow w.heap.size 30 2 v6 (m + 1) (hcl (allTo r.used r.gens (k + 1))) := by rw [HE.out, ← hcl_app]; exact hown6
        have HO6 := Lib.hid ho6
        have HM6 : Hid (m + 1 = (allTo r.used r.gens (k + 1)).length) := Lib.hid (by rw [HE.out, List.length_append, ← HM.out]; rfl)
        clear hown6 hgrow6 hbel hx6 ho6
        go_wp2_with fail
        go_roundw
        case rel => exact ⟨k + 1, m + 1, by omega, by omega, by go_num, HM6.out, HO6.out, HX6.out, HR6.out, HB6.out⟩
        case measure => simp [intOf]; omega
    · obtain rfl : k = r.vals.length := by omega
      have hfin : wr.ownsRow w.heap.size 30 2 (.slice av m cv) r.all.length (hcl r.all) := by
        have := HO.out
        unfold Rp.all
        rw [← HM.out]
        exact this
      have HF := Lib.hid hfin
      clear hfin
      go_wp2
      go_ret
      exact ⟨_, rfl, HF.out, HB.out⟩
end Go.Proofs.Ytnbljnpfmeidfaa
