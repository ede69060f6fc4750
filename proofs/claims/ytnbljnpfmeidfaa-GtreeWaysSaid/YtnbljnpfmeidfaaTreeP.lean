/- Contract of the program's package gtree: Path. Conditions: the tree lies in memory as TrX says, its pool within bounds, its groups within one another. -/
import Derived.Test.YtnbljnpfmeidfaaTreeV
import Derived.Test.YtnbljnpfmeidfaaRev
namespace Go.Proofs.Ytnbljnpfmeidfaa
open Go Go.RowKit Go.ChangeShapes Go.WideShapes
set_option linter.unusedVariables false

theorem grown_same {w w' : World} {vr : Value} {base2 : Nat} {e : TypeId} {size n : Nat} {xs : List Value} (hg : w.grownBy w' vr.ownBlock) (hr : w.ownsRow base2 e size vr n xs) {k : Nat} {cs : Array Value} {t : TypeId} {fr : Nat × Nat} (hk : w.heap[k]? = some (.cells cs t fr)) (ht : t ≠ e) : w'.heap[k]? = some (.cells cs t fr) := by
  rw [hg.block k (Array.getElem?_eq_some_iff.1 hk).1 ?_]
  · exact hk
  · intro e'
    rcases hr.2 with ⟨rfl, _⟩ | ⟨g, cap, cur, rfl, _, hh, _⟩
    · simp [Value.ownBlock] at e'
    · simp [Value.ownBlock] at e'
      subst e'
      rw [hk] at hh
      simp only [Option.some.injEq, Obj.cells.injEq] at hh
      exact ht hh.2.1
theorem Itr.grown {w w' : World} {a hb ob : Nat} {tv : Option Addr} {i g : Int} {over : Bool} (h : Itr w a hb ob tv i g over) {vr : Value} {base2 : Nat} {e : TypeId} {size n : Nat} {xs : List Value} (hg : w.grownBy w' vr.ownBlock) (hr : w.ownsRow base2 e size vr n xs) (h1 : 25 ≠ e) (h2 : 30 ≠ e) (h3 : 4 ≠ e) : Itr w' a hb ob tv i g over :=
  ⟨grown_same hg hr h.ta h1, grown_same hg hr h.hx h2, grown_same hg hr h.ox h3⟩
theorem ownsRow_tch {F : Nat → Prop} {w w' : World} {base : Nat} {e : TypeId} {size : Nat} {v : Value} {n : Nat} {xs : List Value} (h : w.ownsRow base e size v n xs) (ht : Tch F w w') (hF : ∀ k, F k → ∃ cs t fr, w.heap[k]? = some (.cells cs t fr) ∧ t ≠ e) : w'.ownsRow base e size v n xs := by
  refine ⟨h.1, ?_⟩
  rcases h.2 with hn | ⟨g, cap, cur, hv, hbg, hh, hr⟩
  · exact .inl hn
  · refine .inr ⟨g, cap, cur, hv, hbg, ?_, hr⟩
    rw [ht.block g (Array.getElem?_eq_some_iff.1 hh).1 ?_]
    · exact hh
    · intro hf
      obtain ⟨cs, t, fr, h1, h2⟩ := hF g hf
      rw [h1] at hh
      simp only [Option.some.injEq, Obj.cells.injEq] at hh
      exact h2 hh.2.1
theorem Itr.types {w : World} {a hb ob : Nat} {tv : Option Addr} {i g : Int} {over : Bool} (h : Itr w a hb ob tv i g over) (e : TypeId) (h2 : 30 ≠ e) (h3 : 4 ≠ e) : ∀ k, (k = hb ∨ k = ob) → ∃ cs t fr, w.heap[k]? = some (.cells cs t fr) ∧ t ≠ e := by
  rintro k (rfl | rfl)
  · exact ⟨_, _, _, h.hx, h2⟩
  · exact ⟨_, _, _, h.ox, h3⟩
def zs (l : List Nat) : List Int := l.map (fun n : Nat => (n : Int))
theorem zs_length (l : List Nat) : (zs l).length = l.length := by simp [zs]
set_option maxHeartbeats 2000000 in
theorem path_yes (k : Nat) (qk : Pl) (b : Nat) (w : World) (base t p : Nat) (s : Ps) (h : TrX w base t p s) (ho : s.Ok 32 b) (hb : b ≤ 1000) (htr : Tr s.l)
    (hk : s.l[k]? = some qk) (hku : qk.used = true) :
    Calls Try.prog 14 #[.pointer (some ⟨t, 0, none⟩), .agg #[.int .i64 k, .int .i64 qk.gen]] w fun e w' => ∃ a c, e = .returned (.tuple #[.slice a (pth s.l k).length c, .int .i64 0]) ∧ w'.ownsRow w.heap.size 3 1 (.slice a (pth s.l k).length c) (pth s.l k).length (iv (zs (pth s.l k))) ∧ Below w.heap.size w w' := by
  obtain ⟨i0, hi, hq0, hq1, hq2⟩ := info_parts rinfo_int
  have HC := Lib.hid (tat_place k qk b (w.alloc (hbox k qk.gen)) base t p s (h.alloc _) ho hb hk hku)
  have HT := Lib.hid h; have HO := Lib.hid ho; have HTR := Lib.hid htr; have HK := Lib.hid (And.intro hk hku)
  obtain ⟨P, hP⟩ : ∃ P, P = pth s.l k := ⟨_, rfl⟩
  rw [← hP]
  have HP := Lib.hid hP
  clear h ho htr hk hku hP
  go_enter Try.func14, Try.ntmps14
  go_wp2_with fail
  refine HC.out.mono ?_
  rintro e w2 ⟨rfl, hz2⟩
  have HB2 : Hid (Below w.heap.size w w2) := Lib.hid (below_trans (below_alloc w _) hz2 (by simp))
  have HK2 : Hid (Hx w2 w.heap.size k qk.gen) := Lib.hid ((Hx.new w _ _).behind hz2)
  obtain ⟨kb, hkb⟩ : ∃ kb, kb = w.heap.size := ⟨_, rfl⟩
  rw [← hkb]
  rw [← hkb] at HK2
  have HKB := Lib.hid hkb
  clear hz2 hkb
  obtain ⟨k0, k1⟩ := HK2.out.c2
  have kl := HK2.out.lt
  go_wp2_with fail
  refine (up_some _ _ _ _).mono ?_
  rintro e w3 ⟨a, ab, ob, rfl, hn, hi3, hz3⟩
  have hz3' : Below w2.heap.size w2 w3 := below_trans (below_alloc w2 _) hz3 (by simp)
  have HN : Hid (w2.heap.size ≤ a ∧ w2.heap.size ≤ ab ∧ w2.heap.size ≤ ob) := Lib.hid (by simp at hn; omega)
  have HI3 := Lib.hid hi3
  have HT3 := Lib.hid ((HT.out.behind HB2.out).behind hz3')
  have HB3 := Lib.hid hz3'
  clear hz3 hz3' hn hi3 k0 k1 kl
  go_wp2_with fail
  refine (next_step k qk false b _ base t p a ab ob s HT3.out HO.out hb HTR.out HK.out.1 HK.out.2 HI3.out).mono ?_
  rintro e w4 ⟨rfl, hi4, ht4⟩
  have HI4 := Lib.hid (hi4.behind (below_alloc w4 (hbox k qk.gen)))
  have hb4 : Below w2.heap.size w2 w4 := below_trans HB3.out (ht4.below (B := w2.heap.size) HB3.out.size (by have := HN.out; rintro z (rfl | rfl) <;> omega)) (Nat.le_refl _)
  have HB4 := Lib.hid (hb4.alloc hb4.size (hbox k qk.gen))
  have HX4 := Lib.hid (Hx.new w4 k qk.gen)
  have NE4 : Hid (w2.heap.size ≤ w4.heap.size ∧ w4.heap.size ≠ ab ∧ w4.heap.size ≠ ob) := Lib.hid ⟨hb4.size, by have := hi4.lt.2.1; omega, by have := hi4.lt.2.2; omega⟩
  obtain ⟨w5, hw5⟩ : ∃ w5, w5 = w4.alloc (hbox k qk.gen) := ⟨_, rfl⟩
  obtain ⟨xb, hxb⟩ : ∃ xb, xb = w4.heap.size := ⟨_, rfl⟩
  rw [← hw5, ← hxb] at HX4
  rw [← hw5] at HI4 HB4
  rw [← hxb] at NE4
  go_wp2_with fail
  rw [show w4.alloc (Obj.cells #[Value.int IntKind.i64 k, Value.int IntKind.i64 qk.gen] 30) = w5 from hw5.symm, ← hxb]
  have HW4 : Hid (Wk w2 w5 t a ab ob xb s.l k qk) := Lib.hid ⟨HK.out.1, HK.out.2, HX4.out, HI4.out, ⟨HN.out.1, HN.out.2.1, HN.out.2.2, NE4.out.1⟩, NE4.out.2⟩
  clear hi4 ht4 hb4 hw5 hxb HI4 HX4 NE4 HI3 HC
  go_loopg [8, 10, 11] 9 (fun n vl vx vi wr => ∃ (xb c m : Nat) (q : Pl) (acc : List Nat) (ar : Option Addr) (cr : Nat), vl = .slice ar m cr ∧ vx = .pointer (some ⟨xb, 0, none⟩) ∧ vi = .bool true ∧ m = acc.length ∧ m + n ≤ 9 ∧ dep s.l c + 1 ≤ n ∧ Below w2.heap.size w2 wr ∧ Wk w2 wr t a ab ob xb s.l c q ∧ pth s.l k = pth s.l c ++ acc.reverse ∧ wr.ownsRow w2.heap.size 3 1 (.slice ar m cr) m (iv (zs acc)))
  case atStart => exact ⟨xb, k, 0, qk, [], none, 0, rfl, rfl, rfl, rfl, by omega, by have := HTR.out.dep_le HK.out.1 HK.out.2; omega, HB4.out, HW4.out, by simp, World.ownsRow_nil _ _ _ _⟩
  case round =>
    obtain ⟨xr, c, m, q, acc, ar, cr, rfl, rfl, rfl, hm, hmn, hn, hbr, hw, hp, hrow⟩ := hrel
    have HBR := Lib.hid hbr; have HW := Lib.hid hw; have HPT := Lib.hid hp; have HR := Lib.hid hrow; have HM := Lib.hid hm; have HGN := Lib.hid hn
    clear hbr hw hp hrow hm hn HW4 HB4
    have HTr := Lib.hid ((HT.out.behind HB2.out).behind HBR.out)
    obtain ⟨x0, x1⟩ := HW.out.x.c2
    by_cases hc0 : c = 0
    · subst hc0
      have HPA : Hid (P = acc.reverse) := Lib.hid (by rw [HP.out, HPT.out, pth_root, List.nil_append])
      clear hi hq0 hq1 hq2
      by_cases hm0 : m = 0
      · subst hm0
        go_wp2_with fail
        refine (reverse_nil _ _ _).mono ?_
        rintro e w6 ⟨rfl, rfl⟩
        go_wp2
        go_ret2
        have hPl : P = [] := by
          rw [HPA.out]
          have : acc = [] := List.eq_nil_of_length_eq_zero HM.out.symm
          rw [this]; rfl
        rw [hPl]
        have hr := HR.out
        have ha : acc = [] := List.eq_nil_of_length_eq_zero HM.out.symm
        rw [ha] at hr
        exact ⟨ar, cr, rfl, row_base hr HB2.out.size, below_trans HB2.out HBR.out HB2.out.size⟩
      · obtain ⟨g, hg⟩ := hrow_some HR.out (by omega)
        subst hg
        go_wp2_with fail
        refine (reverse_any w2.heap.size g m cr (zs acc) wr HR.out (by rw [zs_length]; exact HM.out) (by omega)).mono ?_
        rintro e w6 ⟨rfl, hr6, ht6⟩
        have HR6 := Lib.hid hr6
        have HB6 := Lib.hid (below_trans HB2.out (below_trans HBR.out (ht6.below (B := w2.heap.size) HBR.out.size (by rintro z rfl; exact (HR.out.lt z rfl).1)) (Nat.le_refl _)) HB2.out.size)
        clear hr6 ht6
        go_wp2
        go_ret2
        have hz : zs P = (zs acc).reverse := by rw [HPA.out]; simp [zs]
        have hl : P.length = m := by rw [HPA.out, List.length_reverse]; exact HM.out.symm
        rw [hz, hl]
        exact ⟨_, cr, rfl, row_base HR6.out HB2.out.size, HB6.out⟩
    · obtain ⟨d, pd, hd1, hd2, hd3, hd4, hd5, hd6⟩ := HTR.out.up_eq HW.out.at_ HW.out.usd hc0
      have hI := HW.out.it
      rw [decide_eq_false hc0, hd3, hd4] at hI
      have HI := Lib.hid hI
      have HD := Lib.hid (And.intro hd1 hd2)
      have HPD : Hid (pth s.l k = pth s.l d ++ (acc ++ [c]).reverse) := Lib.hid (by
        rw [HPT.out, pth_cons HTR.out ⟨q, HW.out.at_, HW.out.usd⟩ hc0, hd5]; simp)
      have HGD : Hid (dep s.l d + 2 ≤ gk) := Lib.hid (by have := HGN.out; omega)
      have hcz : ((c : Int) != 0) = true := by simp; omega
      have hm9 : m ≤ 7 := by have := HGD.out; omega
      clear hI hd1 hd2 hd3 hd4 hd5 hd6 hc0
      have hzr := HBR.out.size
      go_wp2_with (at_builtin; go_loud (refine wpList_append_own _ rfl _ _ 38 rfl w2.heap.size 3 i0 (.int .i64 0) 1 8 Try.underlying38 hi hq0 hq1 hq2 rfl (by decide) _ m (iv (zs acc)) rfl (HR.out.alloc _) ⟨wr.heap.size, 0, none⟩ 1 1 [.int .i64 c] rfl rfl ?c1 ?c2 ?c3 ?c4 ?c5 ?_))
      case c1 =>
        intro jj u hj'
        have hj0 : jj = 0 := by have := (List.getElem?_eq_some_iff.1 hj').1; simp at this; omega
        subst hj0
        simp at hj'
        subst hj'
        simp [go_sem]
      case c2 => intro u hu; simp at hu; subst hu; rfl
      case c3 => unfold maxLen; omega
      case c4 => omega
      case c5 => simp; omega
      intro v6 w6 hown6 hgrow6 _
      have HR6 : Hid (w6.ownsRow w2.heap.size 3 1 v6 (m + 1) (iv (zs (acc ++ [c])))) := Lib.hid (by
        have e : iv (zs acc) ++ [Value.int .i64 (c : Int)] = iv (zs (acc ++ [c])) := by simp [iv, zs]
        rw [← e]; exact hown6)
      have HB6 := Lib.hid (Below.grown (HBR.out.alloc hzr (.cells #[.int .i64 c] 3)) hgrow6 (by simp; omega) (fun kk hk' => (HR.out.lt kk hk').1))
      have HX6 : Hid (Hx w6 xr c q.gen) := Lib.hid (grown_same hgrow6 (HR.out.alloc _) (HW.out.x.alloc _) (by decide))
      have HI6 : Hid (Itr w6 a ab ob (some ⟨t, 0, none⟩) d pd.gen false) := Lib.hid (Itr.grown (HI.out.behind (below_alloc wr _)) hgrow6 (HR.out.alloc _) (by decide) (by decide) (by decide))
      have HT6 := Lib.hid ((HT.out.behind HB2.out).behind HB6.out)
      obtain ⟨a6, c6, rfl⟩ := hrow_nil hown6
      clear hown6 hgrow6 x0 x1 hcz hzr
      obtain ⟨x0, x1⟩ := HX6.out.c2
      go_wp2_with fail
      refine (next_step d pd false b _ base t p a ab ob s (HT6.out.behind (below_alloc w6 _)) HO.out hb HTR.out HD.out.1 HD.out.2 (HI6.out.behind (below_alloc w6 (hbox c q.gen)))).mono ?_
      rintro e w7 ⟨rfl, hi7, ht7⟩
      obtain ⟨n0, n1, n2, n3⟩ := HW.out.new
      have hlw := HI6.out.lt
      have hz8 : Below w2.heap.size w2 (w6.alloc (hbox c q.gen)) := HB6.out.alloc HB6.out.size _
      have HB7 := Lib.hid (below_trans hz8 (ht7.below (B := w2.heap.size) hz8.size (by rintro z (rfl | rfl) <;> omega)) (Nat.le_refl _))
      have HX7 := Lib.hid ((Hx.new w6 c q.gen).tch ht7 (by rintro (e | e) <;> omega))
      have HR7 := Lib.hid (ownsRow_tch (HR6.out.alloc (hbox c q.gen)) ht7 ((HI6.out.behind (below_alloc w6 (hbox c q.gen))).types 3 (by decide) (by decide)))
      have HI7 := Lib.hid hi7
      have HNX : Hid (w6.heap.size ≠ a ∧ w6.heap.size ≠ ab ∧ w6.heap.size ≠ ob ∧ w2.heap.size ≤ w6.heap.size) := Lib.hid (by have := HB6.out.size; omega)
      clear hz8 ht7 hi7 n0 n1 n2 n3 hlw
      obtain ⟨xn, hxn⟩ : ∃ xn, xn = w6.heap.size := ⟨_, rfl⟩
      rw [← hxn] at HX7 HNX ⊢
      clear hxn
      have xf := HX7.out.frz
      have xl := HX7.out.lt
      obtain ⟨c0, c1⟩ := HX7.out.c2
      clear x0 x1
      go_wp2_with fail
      go_roundg (dep s.l d + 1)
      case measure => have := HGD.out; omega
      case rel =>
        obtain ⟨n0, n1, n2, n3⟩ := HW.out.new
        obtain ⟨m0, m1, m2, m3⟩ := HNX.out
        have hx := HX7.out
        have hne : (Value.slice a6 (m + 1) c6).ownBlock ≠ some xn := row_hx HR7.out hx (by decide)
        exact ⟨xn, d, m + 1, pd, acc ++ [c], a6, c6, rfl, rfl, rfl, by rw [List.length_append, ← HM.out]; rfl, by have := HGD.out; omega, Nat.le_refl _, (HB7.out.setCell m3 _).setCell m3 _, ⟨HD.out.1, HD.out.2, (HX7.out.set0 _).set1 _, (HI7.out.far m0 m1 m2).far m0 m1 m2, ⟨n0, n1, n2, m3⟩, ⟨m1, m2⟩⟩, HPD.out, row_other (row_other HR7.out hne) hne⟩
theorem path_two (i g : Int) (w : World) (tv : Option Addr) (hc : ∀ W, Below w.heap.size w W → Calls Try.prog 31 #[.pointer tv, .agg #[.int .i64 i, .int .i64 g]] W fun e w' => e = .returned (.tuple #[.agg (gcells .zero), .int .i64 2]) ∧ Below W.heap.size W w') :
    Calls Try.prog 14 #[.pointer tv, .agg #[.int .i64 i, .int .i64 g]] w fun e w' => e = .returned (.tuple #[.slice none 0 0, .int .i64 2]) ∧ Below w.heap.size w w' := by
  have HC := Lib.hid (hc (w.alloc (hbox i g)) (below_alloc w _))
  clear hc
  go_enter Try.func14, Try.ntmps14
  go_wp2_with fail
  refine HC.out.mono ?_
  rintro e w2 ⟨rfl, hz2⟩
  have HB2 : Hid (Below w.heap.size w w2) := Lib.hid (below_trans (below_alloc w _) hz2 (by simp))
  clear hz2
  go_wp2
  go_ret2
  exact ⟨rfl, HB2.out.alloc HB2.out.size _⟩
theorem path_nil (i g : Int) (w : World) :
    Calls Try.prog 14 #[.pointer none, .agg #[.int .i64 i, .int .i64 g]] w fun e w' => e = .returned (.tuple #[.slice none 0 0, .int .i64 2]) ∧ Below w.heap.size w w' :=
  path_two i g w none (fun W _ => tat_nil i g W)
/-- the path of a handle -/
def pathL (s : Ps) (i g : Int) : List Nat := match s.find i g with
  | none => []
  | some k => pth s.l k
theorem path_any (i g : Int) (b : Nat) (w : World) (base t p : Nat) (s : Ps) (h : TrX w base t p s) (ho : s.Ok 32 b) (hb : b ≤ 1000) (htr : Tr s.l) :
    Calls Try.prog 14 #[.pointer (some ⟨t, 0, none⟩), .agg #[.int .i64 i, .int .i64 g]] w fun e w' => ∃ a c, e = .returned (.tuple #[.slice a (pathL s i g).length c, .int .i64 (s.namE i g)]) ∧ w'.ownsRow w.heap.size 3 1 (.slice a (pathL s i g).length c) (pathL s i g).length (iv (zs (pathL s i g))) ∧ Below w.heap.size w w' := by
  unfold pathL
  cases hk : s.find i g with
  | none =>
    refine (path_two i g w _ (fun W hW => ?_)).mono ?_
    · have := tat_any i g b W base t p s (h.behind hW) ho hb
      rwa [(getV_no hk).1, (getV_no hk).2] at this
    · rintro e w' ⟨rfl, hz⟩
      rw [(getV_no hk).2]
      exact ⟨none, 0, rfl, World.ownsRow_nil _ _ _ _, hz⟩
  | some k =>
    obtain ⟨qk, rfl, hk1, hk2, rfl, _, h6⟩ := find_some hk
    rw [h6]
    exact path_yes k qk b w base t p s h ho hb htr hk1 hk2
end Go.Proofs.Ytnbljnpfmeidfaa
