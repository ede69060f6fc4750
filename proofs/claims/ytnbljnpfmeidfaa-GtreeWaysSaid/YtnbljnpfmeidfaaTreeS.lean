/- Contracts of the program's package gtree: All, some. Conditions: the tree lies in memory as TrX says, its pool within bounds. -/
import Derived.Test.YtnbljnpfmeidfaaTreeC
namespace Go.Proofs.Ytnbljnpfmeidfaa
open Go Go.RowKit Go.ChangeShapes Go.WideShapes
set_option linter.unusedVariables false

theorem all_nil (w : World) : Calls Try.prog 28 #[.pointer none] w fun e w' => e = .returned (.slice none 0 0) ∧ w = w' := by
  go_enter Try.func28, Try.ntmps28
  go_wp2
  go_ret
  exact ⟨rfl, rfl⟩
theorem all_any (b : Nat) (w : World) (base t p : Nat) (s : Ps) (h : TrX w base t p s) (ho : s.Ok 32 b) (hb : b ≤ 1000) :
    Calls Try.prog 28 #[.pointer (some ⟨t, 0, none⟩)] w fun e w' => ∃ a c, e = .returned (.slice a (allL s.l).length c) ∧ w'.ownsRow w.heap.size 30 2 (.slice a (allL s.l).length c) (allL s.l).length (hcl (allL s.l)) ∧ Below w.heap.size w w' := by
  obtain ⟨v, hp⟩ := h.has
  have hc := h.cell
  have hl := (ho.lo hb).1
  have HP := Lib.hid hp
  obtain ⟨L, hL⟩ : ∃ L, L = allL s.l := ⟨_, rfl⟩
  have HC := Lib.hid (pall_any w base p v 32 s.many s.free s.l hp (by omega))
  rw [← hL] at HC ⊢
  clear h ho hp hl hL
  go_enter Try.func28, Try.ntmps28
  go_wp2_with fail
  refine HC.out.mono ?_
  rintro e w' ⟨v', rfl, h1, h2⟩
  obtain ⟨a, c, rfl⟩ := hrow_nil h1
  have H1 := Lib.hid h1; have H2 := Lib.hid h2
  clear h1 h2
  go_wp2
  go_ret
  exact ⟨a, c, rfl, H1.out, H2.out⟩
theorem allTo_mem (l : List Pl) : ∀ n, n ≤ l.length → ∀ k g, (k, g) ∈ allTo (usedOf l) (gensOf l) n → ∃ q, l[k]? = some q ∧ q.used = true ∧ q.gen = g
  | 0, _, k, g, h => by simp [allTo] at h
  | n + 1, hn, k, g, h => by
    have hq : l[n]? = some l[n] := List.getElem?_eq_getElem (by omega)
    have e1 : (usedOf l).getD n false = l[n].used := by rw [usedOf, List.getD_eq_getElem?_getD, List.getElem?_map, hq]; rfl
    have e2 : (gensOf l).getD n 0 = l[n].gen := by rw [gensOf, List.getD_eq_getElem?_getD, List.getElem?_map, hq]; rfl
    simp only [allTo, e1, e2] at h
    rcases List.mem_append.1 h with h | h
    · exact allTo_mem l n (by omega) k g h
    · split at h
      · rename_i hu
        have := List.mem_singleton.1 h
        cases this
        exact ⟨l[n], hq, hu, rfl⟩
      · simp at h
theorem allL_mem {l : List Pl} {k : Nat} {g : Int} (h : (k, g) ∈ allL l) : ∃ q, l[k]? = some q ∧ q.used = true ∧ q.gen = g := allTo_mem l _ (Nat.le_refl _) k g h
theorem allL_len (l : List Pl) : (allL l).length ≤ l.length := by
  have := allTo_count l l.length (Nat.le_refl _)
  rw [allL, this]
  exact Nat.le_trans List.countP_le_length (by simp)
def selL (l : List Pl) (P : Nat → Bool) : List (Nat × Int) := (allL l).filter (fun x => P x.1)
set_option maxHeartbeats 2000000 in
theorem some_kids (c0 : Nat) (P : Nat → Bool) (b : Nat) (w : World) (base t p : Nat) (s : Ps) (h : TrX w base t p s) (ho : s.Ok 32 b) (hb : b ≤ 1000)
    (hr : ∀ W, Below w.heap.size w W → ∀ (k : Nat) (q : Pl), s.l[k]? = some q → q.used = true → Calls Try.prog 53 #[.agg #[.int .i64 k, .int .i64 q.gen], .agg (gcells q.x), .pointer (some ⟨c0, 0, none⟩)] W fun e w' => e = .returned (.bool (P k)) ∧ Below W.heap.size W w') :
    Calls Try.prog 33 #[.pointer (some ⟨t, 0, none⟩), .func (.func 53) #[] #[.pointer (some ⟨c0, 0, none⟩)]] w fun e w' => ∃ a c, e = .returned (.slice a (selL s.l P).length c) ∧ w'.ownsRow w.heap.size 30 2 (.slice a (selL s.l P).length c) (selL s.l P).length (hcl (selL s.l P)) ∧ Below w.heap.size w w' := by
  obtain ⟨i0, hi, hq0, hq1, hq2⟩ := info_parts rinfo_handle
  have HA := Lib.hid (all_any b w base t p s h ho hb)
  have HT := Lib.hid h; have HO := Lib.hid ho; have HRULE := Lib.hid hr
  have hln := allL_len s.l
  have hlo := (ho.lo hb).1
  obtain ⟨L, hL⟩ : ∃ L, L = allL s.l := ⟨_, rfl⟩
  have hM : ∀ k g, (k, g) ∈ L → ∃ q, s.l[k]? = some q ∧ q.used = true ∧ q.gen = g := by rw [hL]; exact fun k g => allL_mem
  have HM := Lib.hid hM
  unfold selL
  rw [← hL] at HA hln ⊢
  have hl1 : L.length ≤ 1000 := by omega
  clear h ho hr hM hL hln hlo
  go_enter Try.func33, Try.ntmps33
  go_wp2_with fail
  refine HA.out.mono ?_
  rintro e w1 ⟨a1, cc1, rfl, hr1, hz1⟩
  have HR1 := Lib.hid hr1; have HB1 := Lib.hid hz1
  clear hr1 hz1
  obtain ⟨N, hN⟩ : ∃ N, N = L.length := ⟨_, rfl⟩
  rw [← hN] at HR1 hl1 ⊢
  have HN := Lib.hid hN
  clear hN HA
  go_wp2_with fail
  go_loopg [5, 13] N (fun n vl vi wr => ∃ (j m : Nat) (ar : Option Addr) (cr : Nat), vl = .slice ar m cr ∧ vi = .int .i64 j ∧ j ≤ N ∧ N - j ≤ n ∧ m ≤ j ∧ m = ((L.take j).filter (fun x => P x.1)).length ∧ wr.ownsRow w1.heap.size 30 2 (.slice ar m cr) m (hcl ((L.take j).filter (fun x => P x.1))) ∧ Below w1.heap.size w1 wr)
  case atStart => exact ⟨0, 0, none, 0, rfl, rfl, by omega, by omega, by omega, by simp, by simpa [hcl] using World.ownsRow_nil _ _ _ _, Below.refl _ _⟩
  case round =>
    obtain ⟨j, m, ar, cr, rfl, rfl, hj, hn, hmj, hm, hrow, hbr⟩ := hrel
    have HM2 := Lib.hid hm; have HR := Lib.hid hrow; have HBR := Lib.hid hbr; have HGN := Lib.hid hn
    clear hm hrow hbr hn
    by_cases hjn : j < N
    · obtain ⟨kg, hkg⟩ : ∃ kg, L[j]? = some kg := ⟨_, List.getElem?_eq_getElem (by have := HN.out; omega)⟩
      obtain ⟨k, g⟩ := kg
      obtain ⟨q, hq1', hq2', hq3'⟩ := HM.out k g (List.mem_of_getElem? hkg)
      subst hq3'
      obtain ⟨tt, rfl⟩ := hrow_some HR1.out (by omega)
      have HR1r := Lib.hid (ownsRow_below HR1.out HBR.out)
      obtain ⟨y0, y1, yl⟩ := hcl_cell HR1r.out j k q.gen hkg hjn
      have hsel : (L.take (j + 1)).filter (fun x => P x.1) = (L.take j).filter (fun x => P x.1) ++ (if P k = true then [(k, q.gen)] else []) := by
        have hjl : j < L.length := (List.getElem?_eq_some_iff.1 hkg).1
        have e : L[j] = (k, q.gen) := by have := List.getElem?_eq_getElem hjl; rw [hkg] at this; simpa using this.symm
        rw [← List.take_append_getElem hjl, List.filter_append, e]
        cases hP : P k <;> simp [hP]
      have HSEL := Lib.hid hsel
      have HQ := Lib.hid (And.intro hq1' hq2')
      have HTr := Lib.hid ((HT.out.behind HB1.out).behind HBR.out)
      have hzb := HBR.out.size
      clear hsel hkg hq1' hq2'
      go_wp2_with fail
      refine (tat_place k q b _ base t p s (HTr.out.alloc _) HO.out hb HQ.out.1 HQ.out.2).mono ?_
      rintro e w2 ⟨rfl, hz2⟩
      have HB2 := Lib.hid (below_trans (HBR.out.alloc hzb (hbox k q.gen)) hz2 (by simp; omega))
      have HX2 := Lib.hid ((Hx.new wr k q.gen).behind hz2)
      have HWR2 : Hid (Below wr.heap.size wr w2) := Lib.hid (below_trans (below_alloc wr (hbox k q.gen)) hz2 (by simp))
      clear hz2 y0 y1 yl
      obtain ⟨xb, hxb⟩ : ∃ xb, xb = wr.heap.size := ⟨_, rfl⟩
      rw [← hxb] at HX2 ⊢
      clear hxb
      obtain ⟨x0, x1⟩ := HX2.out.c2
      have xl := HX2.out.lt
      go_wp2_with fail
      refine (HRULE.out _ (below_trans HB1.out (HB2.out.alloc HB2.out.size (gbox q.x)) HB1.out.size) k q HQ.out.1 HQ.out.2).mono ?_
      rintro e w3 ⟨rfl, hz3⟩
      have HB3 := Lib.hid (below_trans (HB2.out.alloc HB2.out.size (gbox q.x)) hz3 (by have := HB2.out.size; simp; omega))
      have HX3 := Lib.hid ((HX2.out.alloc (gbox q.x)).behind hz3)
      have HR3 := Lib.hid (ownsRow_below HR.out (below_trans (HWR2.out.alloc HWR2.out.size (gbox q.x)) hz3 (by have := HWR2.out.size; simp; omega)))
      clear hz3 x0 x1 xl
      obtain ⟨x0, x1⟩ := HX3.out.c2
      have xl := HX3.out.lt
      have hz13 := HB3.out.size
      cases hP : P k
      · have HE : Hid ((L.take (j + 1)).filter (fun x => P x.1) = (L.take j).filter (fun x => P x.1)) := Lib.hid (by rw [HSEL.out, hP]; simp)
        clear hP
        go_wp2_with fail
        go_roundg (N - (j + 1))
        case measure => have := HGN.out; omega
        case rel => exact ⟨j + 1, m, ar, cr, rfl, by go_num, by omega, Nat.le_refl _, by omega, by rw [HE.out]; exact HM2.out, by rw [HE.out]; exact HR3.out, HB3.out⟩
      · have HE : Hid ((L.take (j + 1)).filter (fun x => P x.1) = (L.take j).filter (fun x => P x.1) ++ [(k, q.gen)]) := Lib.hid (by rw [HSEL.out, hP]; simp)
        clear hP
        go_wp2_with (at_builtin; go_loud (refine wpList_append_own _ rfl _ _ 26 rfl w1.heap.size 30 i0 (.agg #[.int .i64 0, .int .i64 0]) 2 16 Try.underlying26 hi hq0 hq1 hq2 rfl (by decide) _ m (hcl ((L.take j).filter (fun x => P x.1))) rfl (HR3.out.alloc _) ⟨w3.heap.size, 0, none⟩ 1 1 [.int .i64 k, .int .i64 q.gen] rfl rfl ?c1 ?c2 ?c3 ?c4 ?c5 ?_))
        case c1 =>
          intro jj u hj'
          have hj0 : jj = 0 ∨ jj = 1 := by have := (List.getElem?_eq_some_iff.1 hj').1; simp at this; omega
          rcases hj0 with rfl | rfl
          · simp at hj'
            subst hj'
            simp [go_sem]
          · simp at hj'
            subst hj'
            simp [go_sem]
        case c2 => intro u hu; simp at hu; rcases hu with rfl | rfl <;> rfl
        case c3 => unfold maxLen; omega
        case c4 => omega
        case c5 => simp; omega
        intro v6 w6 hown6 hgrow6 _
        have HR6 : Hid (w6.ownsRow w1.heap.size 30 2 v6 (m + 1) (hcl ((L.take (j + 1)).filter (fun x => P x.1)))) := Lib.hid (by rw [HE.out, ← hcl_app]; exact hown6)
        have HB6 := Lib.hid (Below.grown (HB3.out.alloc hz13 (.cells #[.int .i64 k, .int .i64 q.gen] 30)) hgrow6 (by simp; omega) (fun kk hk' => (HR3.out.lt kk hk').1))
        obtain ⟨a6, c6, rfl⟩ := hrow_nil hown6
        clear hown6 hgrow6
        go_wp2_with fail
        go_roundg (N - (j + 1))
        case measure => have := HGN.out; omega
        case rel => exact ⟨j + 1, m + 1, a6, c6, rfl, by go_num, by omega, Nat.le_refl _, by omega, by rw [HE.out, List.length_append, ← HM2.out]; rfl, HR6.out, HB6.out⟩
    · have hjN : j = N := by omega
      subst hjN
      go_wp2
      go_ret
      have hf := HR.out
      have hm := HM2.out
      have ht : L.take j = L := by rw [HN.out, List.take_length]
      rw [ht] at hf hm
      subst hm
      exact ⟨ar, cr, rfl, row_base hf HB1.out.size, below_trans HB1.out HBR.out HB1.out.size⟩
set_option maxHeartbeats 2000000 in
theorem some_below (c0 c1 : Nat) (P : Nat → Bool) (b : Nat) (w : World) (base t p : Nat) (s : Ps) (h : TrX w base t p s) (ho : s.Ok 32 b) (hb : b ≤ 1000)
    (hr : ∀ W, Below w.heap.size w W → ∀ (k : Nat) (q : Pl), s.l[k]? = some q → q.used = true → Calls Try.prog 34 #[.agg #[.int .i64 k, .int .i64 q.gen], .agg (gcells q.x), .pointer (some ⟨c0, 0, none⟩), .pointer (some ⟨c1, 0, none⟩)] W fun e w' => e = .returned (.bool (P k)) ∧ Below W.heap.size W w') :
    Calls Try.prog 33 #[.pointer (some ⟨t, 0, none⟩), .func (.func 34) #[] #[.pointer (some ⟨c0, 0, none⟩), .pointer (some ⟨c1, 0, none⟩)]] w fun e w' => ∃ a c, e = .returned (.slice a (selL s.l P).length c) ∧ w'.ownsRow w.heap.size 30 2 (.slice a (selL s.l P).length c) (selL s.l P).length (hcl (selL s.l P)) ∧ Below w.heap.size w w' := by
  obtain ⟨i0, hi, hq0, hq1, hq2⟩ := info_parts rinfo_handle
  have HA := Lib.hid (all_any b w base t p s h ho hb)
  have HT := Lib.hid h; have HO := Lib.hid ho; have HRULE := Lib.hid hr
  have hln := allL_len s.l
  have hlo := (ho.lo hb).1
  obtain ⟨L, hL⟩ : ∃ L, L = allL s.l := ⟨_, rfl⟩
  have hM : ∀ k g, (k, g) ∈ L → ∃ q, s.l[k]? = some q ∧ q.used = true ∧ q.gen = g := by rw [hL]; exact fun k g => allL_mem
  have HM := Lib.hid hM
  unfold selL
  rw [← hL] at HA hln ⊢
  have hl1 : L.length ≤ 1000 := by omega
  clear h ho hr hM hL hln hlo
  go_enter Try.func33, Try.ntmps33
  go_wp2_with fail
  refine HA.out.mono ?_
  rintro e w1 ⟨a1, cc1, rfl, hr1, hz1⟩
  have HR1 := Lib.hid hr1; have HB1 := Lib.hid hz1
  clear hr1 hz1
  obtain ⟨N, hN⟩ : ∃ N, N = L.length := ⟨_, rfl⟩
  rw [← hN] at HR1 hl1 ⊢
  have HN := Lib.hid hN
  clear hN HA
  go_wp2_with fail
  go_loopg [5, 13] N (fun n vl vi wr => ∃ (j m : Nat) (ar : Option Addr) (cr : Nat), vl = .slice ar m cr ∧ vi = .int .i64 j ∧ j ≤ N ∧ N - j ≤ n ∧ m ≤ j ∧ m = ((L.take j).filter (fun x => P x.1)).length ∧ wr.ownsRow w1.heap.size 30 2 (.slice ar m cr) m (hcl ((L.take j).filter (fun x => P x.1))) ∧ Below w1.heap.size w1 wr)
  case atStart => exact ⟨0, 0, none, 0, rfl, rfl, by omega, by omega, by omega, by simp, by simpa [hcl] using World.ownsRow_nil _ _ _ _, Below.refl _ _⟩
  case round =>
    obtain ⟨j, m, ar, cr, rfl, rfl, hj, hn, hmj, hm, hrow, hbr⟩ := hrel
    have HM2 := Lib.hid hm; have HR := Lib.hid hrow; have HBR := Lib.hid hbr; have HGN := Lib.hid hn
    clear hm hrow hbr hn
    by_cases hjn : j < N
    · obtain ⟨kg, hkg⟩ : ∃ kg, L[j]? = some kg := ⟨_, List.getElem?_eq_getElem (by have := HN.out; omega)⟩
      obtain ⟨k, g⟩ := kg
      obtain ⟨q, hq1', hq2', hq3'⟩ := HM.out k g (List.mem_of_getElem? hkg)
      subst hq3'
      obtain ⟨tt, rfl⟩ := hrow_some HR1.out (by omega)
      have HR1r := Lib.hid (ownsRow_below HR1.out HBR.out)
      obtain ⟨y0, y1, yl⟩ := hcl_cell HR1r.out j k q.gen hkg hjn
      have hsel : (L.take (j + 1)).filter (fun x => P x.1) = (L.take j).filter (fun x => P x.1) ++ (if P k = true then [(k, q.gen)] else []) := by
        have hjl : j < L.length := (List.getElem?_eq_some_iff.1 hkg).1
        have e : L[j] = (k, q.gen) := by have := List.getElem?_eq_getElem hjl; rw [hkg] at this; simpa using this.symm
        rw [← List.take_append_getElem hjl, List.filter_append, e]
        cases hP : P k <;> simp [hP]
      have HSEL := Lib.hid hsel
      have HQ := Lib.hid (And.intro hq1' hq2')
      have HTr := Lib.hid ((HT.out.behind HB1.out).behind HBR.out)
      have hzb := HBR.out.size
      clear hsel hkg hq1' hq2'
      go_wp2_with fail
      refine (tat_place k q b _ base t p s (HTr.out.alloc _) HO.out hb HQ.out.1 HQ.out.2).mono ?_
      rintro e w2 ⟨rfl, hz2⟩
      have HB2 := Lib.hid (below_trans (HBR.out.alloc hzb (hbox k q.gen)) hz2 (by simp; omega))
      have HX2 := Lib.hid ((Hx.new wr k q.gen).behind hz2)
      have HWR2 : Hid (Below wr.heap.size wr w2) := Lib.hid (below_trans (below_alloc wr (hbox k q.gen)) hz2 (by simp))
      clear hz2 y0 y1 yl
      obtain ⟨xb, hxb⟩ : ∃ xb, xb = wr.heap.size := ⟨_, rfl⟩
      rw [← hxb] at HX2 ⊢
      clear hxb
      obtain ⟨x0, x1⟩ := HX2.out.c2
      have xl := HX2.out.lt
      go_wp2_with fail
      refine (HRULE.out _ (below_trans HB1.out (HB2.out.alloc HB2.out.size (gbox q.x)) HB1.out.size) k q HQ.out.1 HQ.out.2).mono ?_
      rintro e w3 ⟨rfl, hz3⟩
      have HB3 := Lib.hid (below_trans (HB2.out.alloc HB2.out.size (gbox q.x)) hz3 (by have := HB2.out.size; simp; omega))
      have HX3 := Lib.hid ((HX2.out.alloc (gbox q.x)).behind hz3)
      have HR3 := Lib.hid (ownsRow_below HR.out (below_trans (HWR2.out.alloc HWR2.out.size (gbox q.x)) hz3 (by have := HWR2.out.size; simp; omega)))
      clear hz3 x0 x1 xl
      obtain ⟨x0, x1⟩ := HX3.out.c2
      have xl := HX3.out.lt
      have hz13 := HB3.out.size
      cases hP : P k
      · have HE : Hid ((L.take (j + 1)).filter (fun x => P x.1) = (L.take j).filter (fun x => P x.1)) := Lib.hid (by rw [HSEL.out, hP]; simp)
        clear hP
        go_wp2_with fail
        go_roundg (N - (j + 1))
        case measure => have := HGN.out; omega
        case rel => exact ⟨j + 1, m, ar, cr, rfl, by go_num, by omega, Nat.le_refl _, by omega, by rw [HE.out]; exact HM2.out, by rw [HE.out]; exact HR3.out, HB3.out⟩
      · have HE : Hid ((L.take (j + 1)).filter (fun x => P x.1) = (L.take j).filter (fun x => P x.1) ++ [(k, q.gen)]) := Lib.hid (by rw [HSEL.out, hP]; simp)
        clear hP
        go_wp2_with (at_builtin; go_loud (refine wpList_append_own _ rfl _ _ 26 rfl w1.heap.size 30 i0 (.agg #[.int .i64 0, .int .i64 0]) 2 16 Try.underlying26 hi hq0 hq1 hq2 rfl (by decide) _ m (hcl ((L.take j).filter (fun x => P x.1))) rfl (HR3.out.alloc _) ⟨w3.heap.size, 0, none⟩ 1 1 [.int .i64 k, .int .i64 q.gen] rfl rfl ?c1 ?c2 ?c3 ?c4 ?c5 ?_))
        case c1 =>
          intro jj u hj'
          have hj0 : jj = 0 ∨ jj = 1 := by have := (List.getElem?_eq_some_iff.1 hj').1; simp at this; omega
          rcases hj0 with rfl | rfl
          · simp at hj'
            subst hj'
            simp [go_sem]
          · simp at hj'
            subst hj'
            simp [go_sem]
        case c2 => intro u hu; simp at hu; rcases hu with rfl | rfl <;> rfl
        case c3 => unfold maxLen; omega
        case c4 => omega
        case c5 => simp; omega
        intro v6 w6 hown6 hgrow6 _
        have HR6 : Hid (w6.ownsRow w1.heap.size 30 2 v6 (m + 1) (hcl ((L.take (j + 1)).filter (fun x => P x.1)))) := Lib.hid (by rw [HE.out, ← hcl_app]; exact hown6)
        have HB6 := Lib.hid (Below.grown (HB3.out.alloc hz13 (.cells #[.int .i64 k, .int .i64 q.gen] 30)) hgrow6 (by simp; omega) (fun kk hk' => (HR3.out.lt kk hk').1))
        obtain ⟨a6, c6, rfl⟩ := hrow_nil hown6
        clear hown6 hgrow6
        go_wp2_with fail
        go_roundg (N - (j + 1))
        case measure => have := HGN.out; omega
        case rel => exact ⟨j + 1, m + 1, a6, c6, rfl, by go_num, by omega, Nat.le_refl _, by omega, by rw [HE.out, List.length_append, ← HM2.out]; rfl, HR6.out, HB6.out⟩
    · have hjN : j = N := by omega
      subst hjN
      go_wp2
      go_ret
      have hf := HR.out
      have hm := HM2.out
      have ht : L.take j = L := by rw [HN.out, List.take_length]
      rw [ht] at hf hm
      subst hm
      exact ⟨ar, cr, rfl, row_base hf HB1.out.size, below_trans HB1.out HBR.out HB1.out.size⟩
end Go.Proofs.Ytnbljnpfmeidfaa
