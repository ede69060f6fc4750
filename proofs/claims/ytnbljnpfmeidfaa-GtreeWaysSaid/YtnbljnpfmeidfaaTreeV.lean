/- Contract of the program's package gtree: Under. Conditions: the tree lies in memory as TrX says, its pool within bounds, its groups within one another. -/
import Derived.Test.YtnbljnpfmeidfaaTreeU
import Derived.Deep.LoopGhost
namespace Go.Proofs.Ytnbljnpfmeidfaa
open Go Go.RowKit Go.ChangeShapes Go.WideShapes
set_option linter.unusedVariables false

def undH (s : Ps) (i g ti tg : Int) : Bool := match s.find ti tg with
  | none => false
  | some j => match s.find i g with
    | none => false
    | some k => und s.l k j
theorem find_some {s : Ps} {i g : Int} {k : Nat} (h : s.find i g = some k) : ∃ q, i = (k : Int) ∧ s.l[k]? = some q ∧ q.used = true ∧ q.gen = g ∧ s.getV i g = q.x ∧ s.namE i g = 0 := by
  obtain ⟨q, ⟨h1, h2, h3, h4⟩, h5⟩ := find_yes h
  refine ⟨q, h1, h2, h3, h4, ?_, ?_⟩
  · unfold Ps.getV; rw [h]; simp only [h5]
  · unfold Ps.namE; rw [h]
theorem find_of {s : Ps} {k : Nat} {q : Pl} (h1 : s.l[k]? = some q) (h2 : q.used = true) : s.find k q.gen = some k ∧ s.getV k q.gen = q.x ∧ s.namE k q.gen = 0 := by
  have e : s.find k q.gen = some k := by unfold Ps.find; simp [h1, h2]
  obtain ⟨q', _, h3, _, _, h5, h6⟩ := find_some e
  rw [h1] at h3
  cases h3
  exact ⟨e, h5, h6⟩
/-- what at answers of a place that is used -/
theorem tat_place (k : Nat) (q : Pl) (b : Nat) (w : World) (base t p : Nat) (s : Ps) (h : TrX w base t p s) (ho : s.Ok 32 b) (hb : b ≤ 1000) (h1 : s.l[k]? = some q) (h2 : q.used = true) :
    Calls Try.prog 31 #[.pointer (some ⟨t, 0, none⟩), .agg #[.int .i64 k, .int .i64 q.gen]] w fun e w' => e = .returned (.tuple #[.agg (gcells q.x), .int .i64 0]) ∧ Below w.heap.size w w' := by
  have := tat_any k q.gen b w base t p s h ho hb
  rwa [(find_of h1 h2).2.1, (find_of h1 h2).2.2] at this
theorem Tr.up_eq {l : List Pl} (h : Tr l) {c : Nat} {q : Pl} (hq : l[c]? = some q) (hu : q.used = true) (hc : c ≠ 0) : ∃ (d : Nat) (p : Pl), l[d]? = some p ∧ p.used = true ∧ q.x.ui = d ∧ q.x.ug = p.gen ∧ upI l c = d ∧ dep l c = dep l d + 1 := by
  obtain ⟨d, p, hp, hpu, hx, _⟩ := h.kid c q hq hu hc
  have e : upI l c = d := by unfold upI; rw [getD_of hq, hx]; simp
  have := (h.up ⟨q, hq, hu⟩ hc).2
  rw [e] at this
  exact ⟨d, p, hp, hpu, by rw [hx], by rw [hx], e, this⟩
theorem Tr.isRoot {l : List Pl} (h : Tr l) {d : Nat} {p : Pl} (hp : l[d]? = some p) : decide ((d : Int) = 0 ∧ p.gen = 0) = decide (d = 0) := by
  by_cases hd : d = 0
  · subst hd
    obtain ⟨q, hq, _, hg, _⟩ := h.root
    rw [hp] at hq
    cases hq
    simp [hg]
  · simp [hd]
/-- the closure's step from one group on the way up -/
theorem next_step (c : Nat) (q : Pl) (over : Bool) (b : Nat) (w : World) (base t p a hb ob : Nat) (s : Ps) (ht : TrX w base t p s) (ho : s.Ok 32 b) (hbb : b ≤ 1000) (htr : Tr s.l) (h1 : s.l[c]? = some q) (h2 : q.used = true)
    (h : Itr w a hb ob (some ⟨t, 0, none⟩) c q.gen false) :
    Calls Try.prog 55 #[.pointer (some ⟨a, 0, none⟩), .pointer (some ⟨hb, 0, none⟩), .pointer (some ⟨ob, 0, none⟩)] w fun e w' => e = .returned (.tuple #[.agg #[.int .i64 c, .int .i64 q.gen], .bool true]) ∧ Itr w' a hb ob (some ⟨t, 0, none⟩) q.x.ui q.x.ug (decide (c = 0)) ∧ Tch (fun z => z = hb ∨ z = ob) w w' := by
  have := next_yes c q.gen q.x w a hb ob (some ⟨t, 0, none⟩) h (fun W hW => tat_place c q b W base t p s (ht.behind hW) ho hbb h1 h2)
  rwa [htr.isRoot h1] at this
theorem next_end (i g : Int) (b : Nat) (w : World) (base t p a hb ob : Nat) (s : Ps) (ht : TrX w base t p s) (ho : s.Ok 32 b) (hbb : b ≤ 1000) (h : Itr w a hb ob (some ⟨t, 0, none⟩) i g true) :
    Calls Try.prog 55 #[.pointer (some ⟨a, 0, none⟩), .pointer (some ⟨hb, 0, none⟩), .pointer (some ⟨ob, 0, none⟩)] w fun e w' => e = .returned (.tuple #[.agg #[.int .i64 0, .int .i64 0], .bool false]) ∧ Below w.heap.size w w' :=
  next_over i g _ _ w a hb ob (some ⟨t, 0, none⟩) h (fun W hW => tat_any i g b W base t p s (ht.behind hW) ho hbb)
theorem Hx.tch {F : Nat → Prop} {w w' : World} {k : Nat} {i g : Int} (h : Hx w k i g) (ht : Tch F w w') (hk : ¬ F k) : Hx w' k i g := by unfold Hx; rw [ht.block k h.lt hk]; exact h
theorem up_some (tv : Option Addr) (i g : Int) (w : World) :
    Calls Try.prog 32 #[.pointer tv, .agg #[.int .i64 i, .int .i64 g]] w fun e w' => ∃ a hb ob, e = .returned (itv a hb ob) ∧ (w.heap.size ≤ a ∧ w.heap.size ≤ hb ∧ w.heap.size ≤ ob) ∧ Itr w' a hb ob tv i g false ∧ Below w.heap.size w w' :=
  (up_any tv i g w).mono fun e w' ⟨h1, h2, h3⟩ => ⟨_, _, _, h1, ⟨by omega, by omega, by omega⟩, h2, h3⟩
theorem Tr.dep_le {l : List Pl} (h : Tr l) {k : Nat} {q : Pl} (h1 : l[k]? = some q) (h2 : q.used = true) : dep l k ≤ 8 := (h.dep0 ⟨q, h1, h2⟩).1
/-- the loop of the way up: where it stands -/
structure Wk (w1 wr : World) (t a hb ob xb : Nat) (l : List Pl) (c : Nat) (q : Pl) : Prop where
  at_ : l[c]? = some q
  usd : q.used = true
  x : Hx wr xb c q.gen
  it : Itr wr a hb ob (some ⟨t, 0, none⟩) q.x.ui q.x.ug (decide (c = 0))
  new : w1.heap.size ≤ a ∧ w1.heap.size ≤ hb ∧ w1.heap.size ≤ ob ∧ w1.heap.size ≤ xb
  ne : xb ≠ hb ∧ xb ≠ ob
set_option maxHeartbeats 1000000 in
theorem under_yes (k j : Nat) (qk qj : Pl) (b : Nat) (w : World) (base t p : Nat) (s : Ps) (h : TrX w base t p s) (ho : s.Ok 32 b) (hb : b ≤ 1000) (htr : Tr s.l)
    (hk : s.l[k]? = some qk) (hku : qk.used = true) (hj : s.l[j]? = some qj) (hju : qj.used = true) :
    Calls Try.prog 11 #[.pointer (some ⟨t, 0, none⟩), .agg #[.int .i64 k, .int .i64 qk.gen], .agg #[.int .i64 j, .int .i64 qj.gen]] w fun e w' => e = .returned (.bool (und s.l k j)) ∧ Below w.heap.size w w' := by
  have HC := Lib.hid (tat_place j qj b ((w.alloc (hbox k qk.gen)).alloc (hbox j qj.gen)) base t p s ((h.alloc _).alloc _) ho hb hj hju)
  have HT := Lib.hid h; have HO := Lib.hid ho; have HTR := Lib.hid htr; have HK := Lib.hid (And.intro hk hku); have HJ := Lib.hid (And.intro hj hju)
  obtain ⟨res, hres⟩ : ∃ res, res = und s.l k j := ⟨_, rfl⟩
  rw [← hres]
  have HRS := Lib.hid hres
  clear h ho htr hk hku hj hju hres
  go_enter Try.func11, Try.ntmps11
  go_wp2_with fail
  refine HC.out.mono ?_
  rintro e w2 ⟨rfl, hz2⟩
  have HB2 : Hid (Below w.heap.size w w2) := Lib.hid (below_trans ((below_alloc w _).alloc (by simp) _) hz2 (by simp; omega))
  have HK2 : Hid (Hx w2 w.heap.size k qk.gen) := Lib.hid (((Hx.new w _ _).alloc _).behind hz2)
  have HJ2 : Hid (Hx w2 (w.heap.size + 1) j qj.gen) := Lib.hid ((Hx.new1 w _ _ _).behind hz2)
  obtain ⟨kb, hkb⟩ : ∃ kb, kb = w.heap.size := ⟨_, rfl⟩
  obtain ⟨jb, hjb⟩ : ∃ jb, jb = w.heap.size + 1 := ⟨_, rfl⟩
  rw [← hjb, ← hkb]
  rw [← hjb] at HJ2
  rw [← hkb] at HK2
  have HBS := Lib.hid (And.intro hkb hjb)
  clear hz2 hkb hjb
  obtain ⟨j0, j1⟩ := HJ2.out.c2
  obtain ⟨k0, k1⟩ := HK2.out.c2
  have kl := HK2.out.lt
  go_wp2_with fail
  refine (up_some _ _ _ _).mono ?_
  rintro e w3 ⟨a, ab, ob, rfl, hn, hi3, hz3⟩
  have hz3' : Below w2.heap.size w2 w3 := below_trans (below_alloc w2 _) hz3 (by simp)
  have HN : Hid (w2.heap.size ≤ a ∧ w2.heap.size ≤ ab ∧ w2.heap.size ≤ ob) := Lib.hid (by simp at hn; omega)
  have HI3 := Lib.hid hi3
  have HT3 := Lib.hid ((HT.out.behind HB2.out).behind hz3')
  have HB3 := Lib.hid hz3'
  clear hz3 hz3' hn hi3 j0 j1 k0 k1 kl
  go_wp2_with fail
  refine (next_step k qk false b _ base t p a ab ob s HT3.out HO.out hb HTR.out HK.out.1 HK.out.2 HI3.out).mono ?_
  rintro e w4 ⟨rfl, hi4, ht4⟩
  have HI4 := Lib.hid (hi4.behind (below_alloc w4 (hbox k qk.gen)))
  have hb4 : Below w2.heap.size w2 w4 := below_trans HB3.out (ht4.below (B := w2.heap.size) HB3.out.size (by have := HN.out; rintro z (rfl | rfl) <;> omega)) (Nat.le_refl _)
  have HB4 := Lib.hid (hb4.alloc hb4.size (hbox k qk.gen))
  have HX4 := Lib.hid (Hx.new w4 k qk.gen)
  have NE4 : Hid (w2.heap.size ≤ w4.heap.size ∧ w4.heap.size ≠ ab ∧ w4.heap.size ≠ ob) := Lib.hid ⟨hb4.size, by have := hi4.lt.2.1; omega, by have := hi4.lt.2.2; omega⟩
  obtain ⟨w5, hw5⟩ : ∃ w5, w5 = w4.alloc (hbox k qk.gen) := ⟨_, rfl⟩
  obtain ⟨xb, hxb⟩ : ∃ xb, xb = w4.heap.size := ⟨_, rfl⟩
  rw [← hw5, ← hxb] at HX4
  rw [← hw5] at HI4 HB4
  rw [← hxb] at NE4
  go_wp2_with fail
  rw [show w4.alloc (Obj.cells #[Value.int IntKind.i64 k, Value.int IntKind.i64 qk.gen] 30) = w5 from hw5.symm, ← hxb]
  have HST : Hid (∃ c q, (9 : Nat) = 9 ∧ dep s.l c + 1 ≤ 9 ∧ Wk w2 w5 t a ab ob xb s.l c q ∧ und s.l c j = res) := Lib.hid ⟨k, qk, rfl, by have := HTR.out.dep_le HK.out.1 HK.out.2; omega, ⟨HK.out.1, HK.out.2, HX4.out, HI4.out, ⟨HN.out.1, HN.out.2.1, HN.out.2.2, NE4.out.1⟩, NE4.out.2⟩, HRS.out.symm⟩
  clear hi4 ht4 hb4 hw5 hxb HI4 HX4 NE4 HI3 HC
  go_loopg [10, 11] 9 (fun n vx vi wr => ∃ (xb : Nat) (is : Bool), vx = .pointer (some ⟨xb, 0, none⟩) ∧ vi = .bool is ∧ Below w2.heap.size w2 wr ∧ ((is = true ∧ ∃ c q, dep s.l c + 1 ≤ n ∧ Wk w2 wr t a ab ob xb s.l c q ∧ und s.l c j = res) ∨ (is = false ∧ res = false)))
  case atStart =>
    obtain ⟨c, q, _, h1, h2, h3⟩ := HST.out
    exact ⟨xb, true, rfl, rfl, HB4.out, .inl ⟨rfl, c, q, h1, h2, h3⟩⟩
  case round =>
    obtain ⟨xr, is, rfl, rfl, hbr, hor⟩ := hrel
    have HBR := Lib.hid hbr
    clear hbr
    rcases hor with ⟨rfl, c, q, hn, hw, hu⟩ | ⟨rfl, hr⟩
    · have HW := Lib.hid hw; have HU := Lib.hid hu; have HGN := Lib.hid hn
      clear hw hu hn
      have HTr := Lib.hid ((HT.out.behind HB2.out).behind HBR.out)
      have HJr := Lib.hid (HJ2.out.behind HBR.out)
      obtain ⟨x0, x1⟩ := HW.out.x.c2
      obtain ⟨j0, j1⟩ := HJr.out.c2
      by_cases hcj : c = j
      · subst hcj
        have hq : q = qj := by have h1 := HW.out.at_; rw [HJ.out.1] at h1; cases h1; rfl
        subst hq
        have hr : res = true := by rw [← HU.out]; exact decide_eq_true (way_self HTR.out ⟨_, HW.out.at_, HW.out.usd⟩)
        subst hr
        go_wp2
        go_ret
        exact ⟨rfl, below_trans HB2.out HBR.out HB2.out.size⟩
      · have hcb : ((c : Int) == (j : Int)) = false := beq_eq_false_iff_ne.2 (by omega)
        have HCJ := Lib.hid hcj
        clear hcj
        clear x0 x1 j0 j1 hcb HST
        by_cases hc0 : c = 0
        · subst hc0
          have hr : res = false := by rw [← HU.out, und_root]; exact decide_eq_false (fun e => HCJ.out e.symm)
          have hI := HW.out.it.behind (below_alloc wr (hbox (0 : Nat) q.gen))
          simp only [decide_true] at hI
          have HI := Lib.hid hI
          have HR := Lib.hid hr
          clear hI hr
          obtain ⟨x0, x1⟩ := HW.out.x.c2
          obtain ⟨j0, j1⟩ := HJr.out.c2
          have hjc : ((0 : Int) == (j : Int)) = false := beq_eq_false_iff_ne.2 (by have := HCJ.out; omega)
          go_wp2_with fail
          refine (next_end _ _ b _ base t p a ab ob s (HTr.out.behind (below_alloc wr _)) HO.out hb HI.out).mono ?_
          rintro e w7 ⟨rfl, hz7⟩
          have HB7 := Lib.hid (below_trans (HBR.out.alloc HBR.out.size _) hz7 (by have := HBR.out.size; simp; omega))
          have HX7 := Lib.hid ((Hx.new wr _ _).behind hz7)
          clear hz7
          obtain ⟨xn, hxn⟩ : ∃ xn, xn = wr.heap.size := ⟨_, rfl⟩
          rw [← hxn] at HX7 ⊢
          have HXN : Hid (w2.heap.size ≤ xn) := Lib.hid (by rw [hxn]; exact HBR.out.size)
          clear hxn
          have xf := HX7.out.frz
          have xl := HX7.out.lt
          obtain ⟨c0, c1⟩ := HX7.out.c2
          clear x0 x1 j0 j1
          go_wp2_with fail
          go_roundg 0
          case measure => have := HGN.out; omega
          case rel => exact ⟨xn, false, rfl, rfl, (HB7.out.setCell HXN.out _).setCell HXN.out _, .inr ⟨rfl, HR.out⟩⟩
        · obtain ⟨d, pd, hd1, hd2, hd3, hd4, hd5, hd6⟩ := HTR.out.up_eq HW.out.at_ HW.out.usd hc0
          have hI := HW.out.it.behind (below_alloc wr (hbox c q.gen))
          rw [decide_eq_false hc0, hd3, hd4] at hI
          have HI := Lib.hid hI
          have HD := Lib.hid (And.intro hd1 hd2)
          have HC0 := Lib.hid hc0
          have HR : Hid (und s.l d j = res) := Lib.hid (by
            rw [← HU.out, und_cons HTR.out ⟨q, HW.out.at_, HW.out.usd⟩ hc0, hd5, decide_eq_false (fun e => HCJ.out e.symm), Bool.false_or])
          have HGD : Hid (dep s.l d + 2 ≤ gk) := Lib.hid (by have := HGN.out; omega)
          clear hI hd1 hd2 hd3 hd4 hd5 hd6 hc0
          obtain ⟨x0, x1⟩ := HW.out.x.c2
          obtain ⟨j0, j1⟩ := HJr.out.c2
          have hjc : ((c : Int) == (j : Int)) = false := beq_eq_false_iff_ne.2 (by have := HCJ.out; omega)
          go_wp2_with fail
          refine (next_step d pd false b _ base t p a ab ob s (HTr.out.behind (below_alloc wr _)) HO.out hb HTR.out HD.out.1 HD.out.2 HI.out).mono ?_
          rintro e w7 ⟨rfl, hi7, ht7⟩
          obtain ⟨n0, n1, n2, n3⟩ := HW.out.new
          have hlw := HW.out.it.lt
          have hz8 : Below w2.heap.size w2 (wr.alloc (hbox c q.gen)) := HBR.out.alloc HBR.out.size _
          have HB7 := Lib.hid (below_trans hz8 (ht7.below (B := w2.heap.size) hz8.size (by rintro z (rfl | rfl) <;> omega)) (Nat.le_refl _))
          have HX7 := Lib.hid ((Hx.new wr c q.gen).tch ht7 (by rintro (e | e) <;> omega))
          have HI7 := Lib.hid hi7
          have HNX : Hid (wr.heap.size ≠ a ∧ wr.heap.size ≠ ab ∧ wr.heap.size ≠ ob ∧ w2.heap.size ≤ wr.heap.size) := Lib.hid (by have := HBR.out.size; omega)
          clear hz8 ht7 hi7 n0 n1 n2 n3 hlw
          obtain ⟨xn, hxn⟩ : ∃ xn, xn = wr.heap.size := ⟨_, rfl⟩
          rw [← hxn] at HX7 HNX ⊢
          clear hxn
          have xf := HX7.out.frz
          have xl := HX7.out.lt
          obtain ⟨c0, c1⟩ := HX7.out.c2
          clear x0 x1 j0 j1 hjc
          go_wp2_with fail
          go_roundg (dep s.l d + 1)
          case measure => have := HGD.out; omega
          case rel =>
            obtain ⟨n0, n1, n2, n3⟩ := HW.out.new
            obtain ⟨m0, m1, m2, m3⟩ := HNX.out
            exact ⟨xn, true, rfl, rfl, (HB7.out.setCell m3 _).setCell m3 _, .inl ⟨rfl, d, pd, Nat.le_refl _, ⟨HD.out.1, HD.out.2, (HX7.out.set0 _).set1 _, (HI7.out.far m0 m1 m2).far m0 m1 m2, ⟨n0, n1, n2, m3⟩, ⟨m1, m2⟩⟩, HR.out⟩⟩
    · subst hr
      go_wp2
      go_ret
      exact ⟨rfl, below_trans HB2.out HBR.out HB2.out.size⟩
theorem under_top (i g ti tg : Int) (w : World) (tv : Option Addr) (hc : ∀ W, Below w.heap.size w W → Calls Try.prog 31 #[.pointer tv, .agg #[.int .i64 ti, .int .i64 tg]] W fun e w' => e = .returned (.tuple #[.agg (gcells .zero), .int .i64 2]) ∧ Below W.heap.size W w') :
    Calls Try.prog 11 #[.pointer tv, .agg #[.int .i64 i, .int .i64 g], .agg #[.int .i64 ti, .int .i64 tg]] w fun e w' => e = .returned (.bool false) ∧ Below w.heap.size w w' := by
  have HC := Lib.hid (hc ((w.alloc (hbox i g)).alloc (hbox ti tg)) ((below_alloc w _).alloc (by simp) _))
  clear hc
  go_enter Try.func11, Try.ntmps11
  go_wp2_with fail
  refine HC.out.mono ?_
  rintro e w2 ⟨rfl, hz2⟩
  have HB2 : Hid (Below w.heap.size w w2) := Lib.hid (below_trans ((below_alloc w _).alloc (by simp) _) hz2 (by simp; omega))
  clear hz2
  go_wp2_with fail
  go_ret
  exact ⟨rfl, HB2.out.alloc HB2.out.size _⟩
set_option maxHeartbeats 1000000 in
theorem under_low (i g : Int) (j : Nat) (qj : Pl) (b : Nat) (w : World) (base t p : Nat) (s : Ps) (h : TrX w base t p s) (ho : s.Ok 32 b) (hb : b ≤ 1000)
    (hk : s.find i g = none) (hj : s.l[j]? = some qj) (hju : qj.used = true) :
    Calls Try.prog 11 #[.pointer (some ⟨t, 0, none⟩), .agg #[.int .i64 i, .int .i64 g], .agg #[.int .i64 j, .int .i64 qj.gen]] w fun e w' => e = .returned (.bool false) ∧ Below w.heap.size w w' := by
  have HC := Lib.hid (tat_place j qj b ((w.alloc (hbox i g)).alloc (hbox j qj.gen)) base t p s ((h.alloc _).alloc _) ho hb hj hju)
  have HT := Lib.hid h; have HO := Lib.hid ho; have HK := Lib.hid hk
  clear h ho hk hj hju
  go_enter Try.func11, Try.ntmps11
  go_wp2_with fail
  refine HC.out.mono ?_
  rintro e w2 ⟨rfl, hz2⟩
  have HB2 : Hid (Below w.heap.size w w2) := Lib.hid (below_trans ((below_alloc w _).alloc (by simp) _) hz2 (by simp; omega))
  have HK2 : Hid (Hx w2 w.heap.size i g) := Lib.hid (((Hx.new w _ _).alloc _).behind hz2)
  have HJ2 : Hid (Hx w2 (w.heap.size + 1) j qj.gen) := Lib.hid ((Hx.new1 w _ _ _).behind hz2)
  obtain ⟨kb, hkb⟩ : ∃ kb, kb = w.heap.size := ⟨_, rfl⟩
  obtain ⟨jb, hjb⟩ : ∃ jb, jb = w.heap.size + 1 := ⟨_, rfl⟩
  rw [← hjb, ← hkb]
  rw [← hjb] at HJ2
  rw [← hkb] at HK2
  clear hz2 hkb hjb
  obtain ⟨j0, j1⟩ := HJ2.out.c2
  obtain ⟨k0, k1⟩ := HK2.out.c2
  have kl := HK2.out.lt
  go_wp2_with fail
  refine (up_some _ _ _ _).mono ?_
  rintro e w3 ⟨a, ab, ob, rfl, hn, hi3, hz3⟩
  have hz3' : Below w2.heap.size w2 w3 := below_trans (below_alloc w2 _) hz3 (by simp)
  have HI3 := Lib.hid hi3
  have HT3 := Lib.hid ((HT.out.behind HB2.out).behind hz3')
  have HB3 := Lib.hid (below_trans HB2.out hz3' HB2.out.size)
  clear hz3 hz3' hn hi3 j0 j1 k0 k1 kl
  go_wp2_with fail
  refine (next_err i g .zero _ a ab ob (some ⟨t, 0, none⟩) HI3.out (fun W hW => by
    have := tat_any i g b W base t p s (HT3.out.behind hW) HO.out hb
    rwa [(getV_no HK.out).1, (getV_no HK.out).2] at this)).mono ?_
  rintro e w4 ⟨rfl, hz4⟩
  have HB4 := Lib.hid (below_trans HB3.out hz4 HB3.out.size)
  have hz := HB4.out.size
  clear hz4
  go_wp2_with fail
  go_loopg [10, 11] 1 (fun n vx vi wr => vi = .bool false ∧ Below w.heap.size w wr)
  case atStart => exact ⟨rfl, HB4.out.alloc HB4.out.size _⟩
  case round =>
    obtain ⟨rfl, hbr⟩ := hrel
    have HBR := Lib.hid hbr
    clear hbr
    go_wp2
    go_ret
    exact ⟨rfl, HBR.out⟩
theorem under_nil (i g ti tg : Int) (w : World) :
    Calls Try.prog 11 #[.pointer none, .agg #[.int .i64 i, .int .i64 g], .agg #[.int .i64 ti, .int .i64 tg]] w fun e w' => e = .returned (.bool false) ∧ Below w.heap.size w w' :=
  under_top i g ti tg w none (fun W _ => tat_nil ti tg W)
theorem under_any (i g ti tg : Int) (b : Nat) (w : World) (base t p : Nat) (s : Ps) (h : TrX w base t p s) (ho : s.Ok 32 b) (hb : b ≤ 1000) (htr : Tr s.l) :
    Calls Try.prog 11 #[.pointer (some ⟨t, 0, none⟩), .agg #[.int .i64 i, .int .i64 g], .agg #[.int .i64 ti, .int .i64 tg]] w fun e w' => e = .returned (.bool (undH s i g ti tg)) ∧ Below w.heap.size w w' := by
  unfold undH
  cases hj : s.find ti tg with
  | none =>
    exact under_top i g ti tg w _ (fun W hW => by
      have := tat_any ti tg b W base t p s (h.behind hW) ho hb
      rwa [(getV_no hj).1, (getV_no hj).2] at this)
  | some j =>
    obtain ⟨qj, rfl, hj1, hj2, rfl, _⟩ := find_some hj
    cases hk : s.find i g with
    | none => exact under_low i g j qj b w base t p s h ho hb hk hj1 hj2
    | some k =>
      obtain ⟨qk, rfl, hk1, hk2, rfl, _⟩ := find_some hk
      exact under_yes k j qk qj b w base t p s h ho hb htr hk1 hk2 hj1 hj2
end Go.Proofs.Ytnbljnpfmeidfaa
