/- Contract of the program's package gtree: Move of a group that is not the root. Conditions: the tree lies in memory as TrX says, its pool within bounds, its groups within one another. -/
import Derived.Test.YtnbljnpfmeidfaaTreeM
namespace Go.Proofs.Ytnbljnpfmeidfaa
open Go Go.RowKit Go.ChangeShapes Go.WideShapes
set_option linter.unusedVariables false

theorem Gx.setD {w : World} {y : Nat} {x : Pay} (h : Gx w y x) (d : Int) : Gx (w.setCell ⟨y, 2, none⟩ (.int .i64 d)) y ⟨x.x, x.ui, x.ug, d⟩ := by
  unfold Gx; rw [heap_set_same h]; rfl
theorem Gx.setU {w : World} {y : Nat} {x : Pay} (h : Gx w y x) (d : Int) : Gx (w.setCell ⟨y, 0, none⟩ (.int .i64 d)) y ⟨x.x, d, x.ug, x.dp⟩ := by
  unfold Gx; rw [heap_set_same h]; rfl
theorem Gx.setG {w : World} {y : Nat} {x : Pay} (h : Gx w y x) (d : Int) : Gx (w.setCell ⟨y, 1, none⟩ (.int .i64 d)) y ⟨x.x, x.ui, d, x.dp⟩ := by
  unfold Gx; rw [heap_set_same h]; rfl
theorem Gx.setMv {w : World} {y : Nat} {q : Pl} (h : Gx w y q.x) (k pk : Nat) (gp by_ : Int) : Gx (((w.setCell ⟨y, 2, none⟩ (.int .i64 (q.x.dp + by_))).setCell ⟨y, 0, none⟩ (.int .i64 pk)).setCell ⟨y, 1, none⟩ (.int .i64 gp)) y (mvQ k pk gp by_ k q).x := by
  have h1 := ((h.setD (q.x.dp + by_)).setU pk).setG gp
  unfold Gx at h1 ⊢
  rw [h1]
  simp [mvQ]
theorem TrX.farG {w : World} {base t p : Nat} {s : Ps} (h : TrX w base t p s) {y : Nat} {x : Pay} (hy : Gx w y x) (o : Nat) (u : Value) : TrX (w.setCell ⟨y, o, none⟩ u) base t p s := h.far hy (by decide) (by decide) (by decide) o u
/-- those below a group, told with their handles; is one of them too deep for a move? -/
def bel (l : List Pl) (hk : Nat) : List (Nat × Int) := selL l (fun k => und l k hk)
def tooDeep (l : List Pl) (hk : Nat) (by_ : Int) : Bool := (bel l hk).any (fun x => decide (8 < (l.getD x.1 plz).x.dp + by_))
/-- what a move makes of the places -/
def mvL (l : List Pl) (hk pk : Nat) (pg by_ : Int) : List Pl := turnL l (mvQ hk pk pg by_) (belowB l hk)
theorem allTo_pair (l : List Pl) : ∀ n, n ≤ l.length → ((allTo (usedOf l) (gensOf l) n).map (·.1)).Pairwise (· < ·) ∧ ∀ x ∈ allTo (usedOf l) (gensOf l) n, x.1 < n
  | 0, _ => by simp [allTo]
  | n + 1, hn => by
    obtain ⟨h1, h2⟩ := allTo_pair l n (by omega)
    simp only [allTo]
    refine ⟨?_, ?_⟩
    · rw [List.map_append, List.pairwise_append]
      refine ⟨h1, ?_, ?_⟩
      · split <;> simp
      · intro a ha b hb
        obtain ⟨x, hx, rfl⟩ := List.mem_map.1 ha
        have := h2 x hx
        split at hb
        · simp at hb; omega
        · simp at hb
    · intro x hx
      rcases List.mem_append.1 hx with hx | hx
      · have := h2 x hx; omega
      · split at hx
        · simp at hx; rw [hx]; simp
        · simp at hx
theorem allTo_has (l : List Pl) : ∀ n, n ≤ l.length → ∀ k q, k < n → l[k]? = some q → q.used = true → (k, q.gen) ∈ allTo (usedOf l) (gensOf l) n
  | 0, _, k, q, hk, _, _ => by omega
  | n + 1, hn, k, q, hk, hq, hu => by
    simp only [allTo]
    by_cases hkn : k = n
    · subst hkn
      have e1 : (usedOf l).getD k false = q.used := by rw [usedOf, List.getD_eq_getElem?_getD, List.getElem?_map, hq]; rfl
      have e2 : (gensOf l).getD k 0 = q.gen := by rw [gensOf, List.getD_eq_getElem?_getD, List.getElem?_map, hq]; rfl
      rw [e1, e2, if_pos hu]
      simp
    · exact List.mem_append_left _ (allTo_has l n (by omega) k q (by omega) hq hu)
theorem selL_pair (l : List Pl) (P : Nat → Bool) : ((selL l P).map (·.1)).Pairwise (· < ·) :=
  List.Pairwise.sublist (List.Sublist.map _ List.filter_sublist) (allTo_pair l _ (Nat.le_refl _)).1
theorem selL_mem {l : List Pl} {P : Nat → Bool} {k : Nat} {g : Int} : (k, g) ∈ selL l P ↔ (∃ q, l[k]? = some q ∧ q.used = true ∧ q.gen = g) ∧ P k = true := by
  unfold selL
  rw [List.mem_filter]
  constructor
  · rintro ⟨h1, h2⟩
    exact ⟨allL_mem h1, h2⟩
  · rintro ⟨⟨q, h1, h2, h3⟩, h4⟩
    refine ⟨?_, h4⟩
    rw [← h3]
    exact allTo_has l _ (Nat.le_refl _) k q (List.getElem?_eq_some_iff.1 h1).1 h1 h2
theorem deep_of {l : List Pl} {hk : Nat} {by_ : Int} (h : tooDeep l hk by_ = false) {k : Nat} {q : Pl} (hq : l[k]? = some q) (hu : q.used = true) (hs : und l k hk = true) : q.x.dp + by_ ≤ 8 := by
  unfold tooDeep at h
  rw [List.any_eq_false] at h
  have := h (k, q.gen) (selL_mem.2 ⟨⟨q, hq, hu, rfl⟩, hs⟩)
  simp only [decide_eq_true_eq] at this
  rw [getD_of hq] at this
  omega
theorem set_place {s : Ps} {k : Nat} {q : Pl} (h1 : s.l[k]? = some q) (h2 : q.used = true) (x : Pay) : s.set k q.gen x = ⟨s.l.set k ⟨x, q.gen, q.used, q.next⟩, s.free, s.st, s.many⟩ := by
  unfold Ps.set
  rw [(find_of h1 h2).1]
  have hg : s.l.getD k ⟨.zero, 0, false, 0⟩ = q := by rw [List.getD_eq_getElem?_getD, h1]; rfl
  simp only [hg]
/-- how far a move has come: the first j of those below are moved -/
def doneB (B : List (Nat × Int)) (j : Nat) (k : Nat) : Bool := decide (k ∈ (B.take j).map (·.1))
theorem doneB_step {B : List (Nat × Int)} {j k : Nat} {g : Int} (h : B[j]? = some (k, g)) (i : Nat) : doneB B (j + 1) i = (doneB B j i || decide (i = k)) := by
  have hl : j < B.length := (List.getElem?_eq_some_iff.1 h).1
  have e : B[j] = (k, g) := by have := List.getElem?_eq_getElem hl; rw [h] at this; simpa using this.symm
  unfold doneB
  rw [← List.take_append_getElem hl, e]
  simp [Bool.decide_or]
theorem doneB_not {B : List (Nat × Int)} (hp : (B.map (·.1)).Pairwise (· < ·)) {j k : Nat} {g : Int} (h : B[j]? = some (k, g)) : doneB B j k = false := by
  unfold doneB
  refine decide_eq_false ?_
  intro hm
  have hl : j < B.length := (List.getElem?_eq_some_iff.1 h).1
  have e : B[j] = (k, g) := by have := List.getElem?_eq_getElem hl; rw [h] at this; simpa using this.symm
  obtain ⟨i, hi, hik⟩ := List.mem_iff_getElem.1 hm
  have hij : i < j := by simp at hi; omega
  have := (List.pairwise_iff_getElem.1 hp) i j (by simp; omega) (by simpa using hl) hij
  simp only [List.getElem_map, List.getElem_take] at this hik
  rw [e] at this
  omega
set_option maxHeartbeats 4000000 in
set_option maxRecDepth 100000 in
theorem move_some (hk pk : Nat) (qh qp : Pl) (b : Nat) (w : World) (base t p : Nat) (s : Ps) (h : TrX w base t p s) (ho : s.Ok 32 b) (hb : b ≤ 1000) (htr : Tr s.l)
    (hq : s.l[hk]? = some qh) (hu : qh.used = true) (pq : s.l[pk]? = some qp) (pu : qp.used = true) (h0 : hk ≠ 0) (res : Int) (s2 : Ps)
    (hres : res = if und s.l pk hk = true then 10 else if tooDeep s.l hk (qp.x.dp + 1 - qh.x.dp) = true then 5 else 0)
    (hs2 : s2 = if und s.l pk hk = true then s else if tooDeep s.l hk (qp.x.dp + 1 - qh.x.dp) = true then s else ⟨mvL s.l hk pk qp.gen (qp.x.dp + 1 - qh.x.dp), s.free, s.st, s.many⟩) :
    Calls Try.prog 15 #[.pointer (some ⟨t, 0, none⟩), .agg #[.int .i64 hk, .int .i64 qh.gen], .agg #[.int .i64 pk, .int .i64 qp.gen]] w fun e w' => e = .returned (.int .i64 res) ∧ TrX w' base t p s2 ∧ PoolStep base p w w' := by
  obtain ⟨i0, hi, hq0, hq1, hq2⟩ := info_parts rinfo_handle
  have HC := Lib.hid (tat_place hk qh b ((w.alloc (hbox hk qh.gen)).alloc (hbox pk qp.gen)) base t p s ((h.alloc _).alloc _) ho hb hq hu)
  have HC2 := Lib.hid (fun W (hW : TrX W base t p s) => tat_place pk qp b W base t p s hW ho hb pq pu)
  have HUN := Lib.hid (fun W (hW : TrX W base t p s) => under_yes pk hk qp qh b W base t p s hW ho hb htr pq pu hq hu)
  have HBE := Lib.hid (fun W (hW : TrX W base t p s) => below_any hk qh.gen b W base t p s hW ho hb htr)
  have hbel : belP s hk qh.gen = fun k => und s.l k hk := by funext k; unfold belP; rw [(find_of hq hu).1]
  rw [hbel] at HBE
  obtain ⟨B, hB⟩ : ∃ B, B = bel s.l hk := ⟨_, rfl⟩
  rw [show selL s.l (fun k => und s.l k hk) = B from hB.symm] at HBE
  have hBP : (B.map (·.1)).Pairwise (· < ·) := by rw [hB]; exact selL_pair _ _
  have hBM : ∀ k g, (k, g) ∈ B ↔ (∃ q, s.l[k]? = some q ∧ q.used = true ∧ q.gen = g) ∧ und s.l k hk = true := by rw [hB]; intro k g; exact selL_mem
  have hBN : B.length ≤ 1000 := by
    rw [hB]
    have h1 : (bel s.l hk).length ≤ (allL s.l).length := List.length_filter_le _ _
    have := allL_len s.l
    have := (ho.lo hb).1
    omega
  have hBD : ∀ by_, tooDeep s.l hk by_ = B.any (fun x => decide (8 < (s.l.getD x.1 plz).x.dp + by_)) := by intro by_; rw [hB]; rfl
  have HBP := Lib.hid hBP; have HBM := Lib.hid hBM; have HBD := Lib.hid hBD
  have HT := Lib.hid h; have HO := Lib.hid ho; have HTR := Lib.hid htr
  have HDH := Lib.hid (htr.dp hq hu); have HDP := Lib.hid (htr.dp pq pu)
  have HPL := Lib.hid (And.intro hq (And.intro hu (And.intro pq pu)))
  have HRES := Lib.hid hres; have HS2 := Lib.hid hs2
  have hkb : ((hk : Int) == 0) = false := beq_eq_false_iff_ne.2 (by omega)
  have H0 := Lib.hid h0
  have hb0 := h.base_le
  obtain ⟨gh, hgh⟩ : ∃ gh, gh = qh.gen := ⟨_, rfl⟩
  obtain ⟨gp, hgp⟩ : ∃ gp, gp = qp.gen := ⟨_, rfl⟩
  have HGP := Lib.hid hgp; have HGH := Lib.hid hgh
  rw [← hgh] at HC HUN HBE ⊢
  rw [← hgp] at HC HC2 HUN ⊢
  obtain ⟨x1, hx1⟩ : ∃ x1, x1 = qh.x := ⟨_, rfl⟩
  obtain ⟨x2, hx2⟩ : ∃ x2, x2 = qp.x := ⟨_, rfl⟩
  have HX1 := Lib.hid hx1; have HX2 := Lib.hid hx2
  rw [← hx1] at HC HDH
  rw [← hx2] at HC2 HDP
  clear h ho htr hq hu pq pu h0 hres hs2 hbel hgh hgp hx1 hx2 hB hBP hBM hBD
  go_enter Try.func15, Try.ntmps15
  go_wp2_with fail
  refine HC.out.mono ?_
  rintro e w2 ⟨rfl, hz2⟩
  have HB2 : Hid (Below w.heap.size w w2) := Lib.hid (below_trans ((below_alloc w _).alloc (by simp) _) hz2 (by simp; omega))
  have HP2 : Hid (Hx w2 (w.heap.size + 1) pk gp) := Lib.hid ((Hx.new1 w _ _ _).behind hz2)
  have HH2 : Hid (Hx w2 w.heap.size hk gh) := Lib.hid (((Hx.new w _ _).alloc _).behind hz2)
  clear hz2 HC
  obtain ⟨pb, hpb⟩ : ∃ pb, pb = w.heap.size + 1 := ⟨_, rfl⟩
  obtain ⟨hx, hhx⟩ : ∃ hx, hx = w.heap.size := ⟨_, rfl⟩
  rw [← hpb] at HP2 ⊢
  rw [← hhx] at HH2 ⊢
  have HXN := Lib.hid (And.intro hhx hpb)
  clear hpb hhx
  obtain ⟨p0, p1⟩ := HP2.out.c2
  have pl := HP2.out.lt
  go_wp2_with fail
  refine (HC2.out _ (((HT.out.behind HB2.out)).alloc _)).mono ?_
  rintro e w3 ⟨rfl, hz3⟩
  go_upto_region 5 with (fail)
  have hb4 : Below w.heap.size w (w3.alloc (gbox x2)) := ((below_trans (HB2.out.alloc HB2.out.size (gbox x1)) hz3 (by have := HB2.out.size; simp; omega)).alloc (by have := HB2.out.size; have := hz3.size; simp at this; omega) (gbox x2))
  have HB4 := Lib.hid hb4
  have HH4 := Lib.hid (((HH2.out.alloc (gbox x1)).behind hz3).alloc (gbox x2))
  have HP4 := Lib.hid (((HP2.out.alloc (gbox x1)).behind hz3).alloc (gbox x2))
  have HG4 := Lib.hid (((Gx.new w2 x1).behind hz3).alloc (gbox x2))
  have HQ4 := Lib.hid (Gx.new w3 x2)
  obtain ⟨w4, hw4⟩ : ∃ w4, w4 = w3.alloc (gbox x2) := ⟨_, rfl⟩
  rw [show w3.alloc (Obj.cells #[Value.int IntKind.i64 x2.ui, Value.int IntKind.i64 x2.ug, Value.int IntKind.i64 x2.dp] 71) = w4 from hw4.symm]
  rw [← hw4] at HB4 HH4 HP4 HG4 HQ4
  obtain ⟨gb, hgb⟩ : ∃ gb, gb = w2.heap.size := ⟨_, rfl⟩
  obtain ⟨qb, hqb⟩ : ∃ qb, qb = w3.heap.size := ⟨_, rfl⟩
  rw [← hgb] at HG4 ⊢
  rw [← hqb] at HQ4 ⊢
  clear hz3 p0 p1 pl hw4 hb4 hgb hqb HP2 HH2 HB2
  obtain ⟨z0, z1⟩ := HH4.out.c2
  go_region_held3 (fun w' => w'.cell? ⟨hx, 0, none⟩ = some (.int .i64 hk) ∧ w'.cell? ⟨hx, 1, none⟩ = some (.int .i64 gh)) (go_keep)
    (first | (go_at_call 35; refine (root_any _).mono ?_; rintro e w4 ⟨rfl, rfl⟩))
  rename_i hHeld
  clear hHeld z0 z1
  obtain ⟨w5, hw5⟩ : ∃ w5, w5 = (w4.alloc (hbox 0 0)).drew := ⟨_, rfl⟩
  have hb5 : Below w4.heap.size w4 w5 := by rw [hw5]; exact below_drew (below_alloc _ _)
  rw [show (w4.alloc (Obj.cells #[Value.int IntKind.i64 0, Value.int IntKind.i64 0] 30)).drew = w5 from hw5.symm]
  clear hw5
  have HH5 := Lib.hid (HH4.out.behind hb5)
  have HP5 := Lib.hid (HP4.out.behind hb5)
  have HG5 := Lib.hid (HG4.out.behind hb5)
  have HQ5 := Lib.hid (HQ4.out.behind hb5)
  have HB5 := Lib.hid (below_trans HB4.out hb5 HB4.out.size)
  clear hb5 HH4 HP4 HG4 HQ4 HB4
  obtain ⟨z0, z1⟩ := HH5.out.c2
  obtain ⟨p0, p1⟩ := HP5.out.c2
  go_wp2_with fail
  refine (HUN.out _ (HT.out.behind HB5.out)).mono ?_
  rintro e w6 ⟨rfl, hz6⟩
  have HH6 := Lib.hid (HH5.out.behind hz6)
  have HP6 := Lib.hid (HP5.out.behind hz6)
  have HG6 := Lib.hid (HG5.out.behind hz6)
  have HQ6 := Lib.hid (HQ5.out.behind hz6)
  have HB6 := Lib.hid (below_trans HB5.out hz6 HB5.out.size)
  clear hz6 HH5 HP5 HG5 HQ5 HB5 z0 z1 p0 p1
  cases hloop : und s.l pk hk
  case true =>
    have hr : res = 10 := by rw [HRES.out, hloop]; rfl
    have hs : s2 = s := by rw [HS2.out, hloop]; rfl
    subst hr
    subst hs
    clear hloop
    go_wp2
    go_ret
    exact ⟨rfl, HT.out.behind HB6.out, PoolStep.of_below HB6.out hb0⟩
  case false =>
    have HLO := Lib.hid hloop
    obtain ⟨by_, hby⟩ : ∃ by_, by_ = x2.dp + 1 - x1.dp := ⟨_, rfl⟩
    have HBY : Hid (by_ = qp.x.dp + 1 - qh.x.dp) := Lib.hid (by rw [hby, HX1.out, HX2.out])
    have HRES' := Lib.hid HRES.out; have HS2' := Lib.hid HS2.out
    rw [hloop, ← HBY.out] at HRES' HS2'
    have HBYB : Hid (-8 ≤ by_ ∧ by_ ≤ 9) := Lib.hid (by have h1 := HDH.out; have h2 := HDP.out; omega)
    clear hloop HRES HS2
    obtain ⟨g0, g1, g2⟩ := HG6.out.c3
    obtain ⟨q0, q1, q2⟩ := HQ6.out.c3
    obtain ⟨z0, z1⟩ := HH6.out.c2
    have hw1 : IntKind.i64.wrap (x2.dp + 1) = x2.dp + 1 := IntWalk.i64_in _ (by have h2 := HDP.out; omega)
    have hw2 : IntKind.i64.wrap (x2.dp + 1 - x1.dp) = by_ := by rw [hby]; exact IntWalk.i64_in _ (by have h1 := HDH.out; have h2 := HDP.out; omega)
    clear hby
    go_wp2_with fail
    refine (HBE.out _ (HT.out.behind HB6.out)).mono ?_
    rintro e w7 ⟨ba, bc, rfl, hr7, hz7⟩
    have HH7 := Lib.hid (HH6.out.behind hz7)
    have HP7 := Lib.hid (HP6.out.behind hz7)
    have HB7 := Lib.hid (below_trans HB6.out hz7 HB6.out.size)
    have HR7 := Lib.hid hr7
    obtain ⟨N, hN⟩ : ∃ N, N = B.length := ⟨_, rfl⟩
    rw [← hN] at HR7 hBN ⊢
    have HN := Lib.hid hN
    clear hz7 hr7 HH6 HP6 HG6 HQ6 g0 g1 g2 q0 q1 q2 z0 z1 hw1 hw2 hN HC2 HUN HBE
    go_wp2_with fail
    go_loopg [60] N (fun n vi wr => ∃ j : Nat, vi = .int .i64 j ∧ j ≤ N ∧ N - j ≤ n ∧ Below w7.heap.size w7 wr ∧ (∀ (i kx : Nat) (gx : Int), i < j → B[i]? = some (kx, gx) → (s.l.getD kx plz).x.dp + by_ ≤ 8))
    case atStart => exact ⟨0, rfl, by omega, by omega, Below.refl _ _, fun i kx gx hi => by omega⟩
    case round =>
      obtain ⟨j, rfl, hj, hn, hbr, hall⟩ := hrel
      have HBR := Lib.hid hbr; have HALL := Lib.hid hall; have HGN := Lib.hid hn
      clear hbr hall hn
      by_cases hjn : j < N
      · obtain ⟨kg, hkg⟩ : ∃ kg, B[j]? = some kg := ⟨_, List.getElem?_eq_getElem (by have := HN.out; omega)⟩
        obtain ⟨k, g⟩ := kg
        obtain ⟨⟨q, hq1', hq2', hq3'⟩, hund⟩ := (HBM.out k g).1 (List.mem_of_getElem? hkg)
        subst hq3'
        obtain ⟨tt, rfl⟩ := hrow_some HR7.out (by omega)
        have HR7r := Lib.hid (ownsRow_below HR7.out HBR.out)
        obtain ⟨y0, y1, yl⟩ := hcl_cell HR7r.out j k q.gen hkg hjn
        have HQ := Lib.hid (And.intro hq1' (And.intro hq2' hkg))
        have HTr := Lib.hid ((HT.out.behind HB7.out).behind HBR.out)
        have hzb := HBR.out.size
        have hqd := HTR.out.dp hq1' hq2'
        have hwx : IntKind.i64.wrap (q.x.dp + by_) = q.x.dp + by_ := IntWalk.i64_in _ (by have := HBYB.out; omega)
        clear hund hkg hq1' hq2' hqd
        go_wp2_with fail
        refine (tat_place k q b _ base t p s (HTr.out.alloc _) HO.out hb HQ.out.1 HQ.out.2.1).mono ?_
        rintro e w8 ⟨rfl, hz8⟩
        have HB8 := Lib.hid (below_trans (HBR.out.alloc hzb (hbox k q.gen)) hz8 (by simp; omega))
        clear hz8 y0 y1 yl
        by_cases hdeep : q.x.dp + by_ ≤ 8
        · have HD := Lib.hid hdeep
          go_wp2_with fail
          go_roundg (N - (j + 1))
          case measure => have := HGN.out; omega
          case rel =>
            refine ⟨j + 1, by go_num, by omega, Nat.le_refl _, HB8.out.alloc HB8.out.size _, ?_⟩
            intro i kx gx hi' hBi
            by_cases hij : i = j
            · subst hij
              rw [HQ.out.2.2] at hBi
              cases hBi
              rw [getD_of HQ.out.1]; exact HD.out
            · exact HALL.out i kx gx (by omega) hBi
        · have hd : 8 < q.x.dp + by_ := by omega
          have htd : tooDeep s.l hk by_ = true := by
            rw [HBD.out by_, List.any_eq_true]
            exact ⟨(k, q.gen), List.mem_of_getElem? HQ.out.2.2, by rw [getD_of HQ.out.1]; exact decide_eq_true hd⟩
          have hr : res = 5 := by rw [HRES'.out, htd]; rfl
          have hs : s2 = s := by rw [HS2'.out, htd]; rfl
          subst hr
          subst hs
          clear hdeep htd
          go_wp2
          go_ret
          have hb9 := below_trans HB7.out (HB8.out.alloc HB8.out.size (gbox q.x)) HB7.out.size
          exact ⟨rfl, HT.out.behind hb9, PoolStep.of_below hb9 hb0⟩
      · have hjN : j = N := by omega
        subst hjN
        have htd : tooDeep s.l hk by_ = false := by
          rw [HBD.out by_, List.any_eq_false]
          rintro ⟨k, g⟩ hm
          obtain ⟨i, hi⟩ := List.getElem?_of_mem hm
          have hil := (List.getElem?_eq_some_iff.1 hi).1
          have := HALL.out i k g (by have := HN.out; omega) hi
          simp only [decide_eq_true_eq]
          omega
        have hr : res = 0 := by rw [HRES'.out, htd]; rfl
        have hs : s2 = ⟨mvL s.l hk pk qp.gen by_, s.free, s.st, s.many⟩ := by rw [HS2'.out, htd]; rfl
        subst hr
        have HTD := Lib.hid htd
        have HS := Lib.hid hs
        clear htd hs
        have HHr := Lib.hid (HH7.out.behind HBR.out)
        have HPr := Lib.hid (HP7.out.behind HBR.out)
        have HR7r := Lib.hid (ownsRow_below HR7.out HBR.out)
        have HBw := Lib.hid (below_trans HB7.out HBR.out HB7.out.size)
        have HTr := Lib.hid (HT.out.behind HBw.out)
        have hbr0 : base ≤ wr.heap.size := by have := HBw.out.size; omega
        clear HALL HGN HBR HH7 HP7 HB7 HRES' HS2'
        obtain ⟨N, hN⟩ : ∃ N, N = j := ⟨_, rfl⟩
        rw [← hN] at HR7r HN hBN
        rw [← hN]
        clear hN hj hjn HR7
        go_wp2_with fail
        go_loopg [78] N (fun n vi wq => ∃ (j : Nat) (c : List Pl), vi = .int .i64 j ∧ j ≤ N ∧ N - j ≤ n ∧ Part s.l (mvQ hk pk gp by_) (doneB B j) c ∧ TrX wq base t p ⟨c, s.free, s.st, s.many⟩ ∧ PoolStep base p wr wq)
        case atStart => exact ⟨0, s.l, rfl, by omega, by omega, (part_none _ _).congr (fun k q _ => by simp [doneB]), HTr.out, PoolStep.of_below (Below.refl _ _) hbr0⟩
        case round =>
          obtain ⟨j, c, rfl, hj, hn, hpart, htq, hsq⟩ := hrel
          have HPA := Lib.hid hpart; have HTQ := Lib.hid htq; have HSQ := Lib.hid hsq; have HGN := Lib.hid hn
          clear hpart htq hsq hn
          by_cases hjn : j < N
          · obtain ⟨kg, hkg⟩ : ∃ kg, B[j]? = some kg := ⟨_, List.getElem?_eq_getElem (by have := HN.out; omega)⟩
            obtain ⟨k, g⟩ := kg
            obtain ⟨⟨q, hq1', hq2', hq3'⟩, hund⟩ := (HBM.out k g).1 (List.mem_of_getElem? hkg)
            subst hq3'
            have hnot := doneB_not HBP.out hkg
            have hcq : c[k]? = some q := by rw [HPA.out k, hq1', Option.map_some, hnot]; rfl
            have HOC := Lib.hid (HO.out.alike (HPA.out.alike (mvQ_same hk pk gp by_)))
            obtain ⟨v0, hp0⟩ := HTr.out.has
            have hnr := hp0.notRow 30 (by decide)
            obtain ⟨tt, rfl⟩ := hrow_some HR7r.out (by omega)
            have HR7q := Lib.hid (ownsRow_step HR7r.out HSQ.out (by decide) hnr)
            obtain ⟨y0, y1, yl⟩ := hcl_cell HR7q.out j k q.gen hkg hjn
            have hpw := HT.out.has.lt
            have nh : hx ≠ p := by have := HXN.out.1; omega
            have np : pb ≠ p := by have := HXN.out.2; omega
            have HHq := Lib.hid (HHr.out.step HSQ.out nh)
            have HPq := Lib.hid (HPr.out.step HSQ.out np)
            have HQ := Lib.hid (And.intro hq1' (And.intro hq2' (And.intro hkg (And.intro hcq hnot))))
            have hqd := HTR.out.dp hq1' hq2'
            have hwx : IntKind.i64.wrap (q.x.dp + by_) = q.x.dp + by_ := IntWalk.i64_in _ (by have := HBYB.out; omega)
            clear hund hkg hq1' hq2' hqd hnot hcq hp0 hnr hpw nh np
            go_wp2_with fail
            refine (tat_place k q b _ base t p ⟨c, s.free, s.st, s.many⟩ (HTQ.out.alloc _) HOC.out hb HQ.out.2.2.2.1 HQ.out.2.1).mono ?_
            rintro e w8 ⟨rfl, hz8⟩
            go_upto_region 22 with (fail)
            have hb8 : Below wr.heap.size wr w8 := below_trans (below_alloc wr (hbox k q.gen)) hz8 (by simp)
            have hb9 : Below wr.heap.size wr (w8.alloc (gbox q.x)) := hb8.alloc hb8.size _
            have HX9 := Lib.hid (((Hx.new wr k q.gen).behind hz8).alloc (gbox q.x))
            have HG9 := Lib.hid (Gx.new w8 q.x)
            obtain ⟨w9, hw9⟩ : ∃ w9, w9 = w8.alloc (gbox q.x) := ⟨_, rfl⟩
            rw [show w8.alloc (Obj.cells #[Value.int IntKind.i64 q.x.ui, Value.int IntKind.i64 q.x.ug, Value.int IntKind.i64 q.x.dp] 71) = w9 from hw9.symm]
            rw [← hw9] at hb9 HX9 HG9
            have HH9 := Lib.hid (HHq.out.behind hb9)
            have HP9 := Lib.hid (HPq.out.behind hb9)
            have HT9 := Lib.hid (HTQ.out.behind hb9)
            have hbw0 := (HTQ.out.base_le)
            have HS9 : Hid (PoolStep base p wr w9) := Lib.hid (PoolStep.of_below hb9 hbw0)
            obtain ⟨x, hxx⟩ : ∃ x, x = wr.heap.size := ⟨_, rfl⟩
            obtain ⟨y, hy⟩ : ∃ y, y = w8.heap.size := ⟨_, rfl⟩
            rw [← hxx] at HX9 ⊢
            rw [← hy] at HG9 ⊢
            have hxy : x < y := by have := hz8.size; simp at this; omega
            have hyh : y ≠ hx := by have := HHq.out.lt; omega
            have hyp : y ≠ pb := by have := HPq.out.lt; omega
            have HXY := Lib.hid (And.intro hxx hxy)
            have HYN := Lib.hid (And.intro hyh hyp)
            clear hz8 hb8 hb9 hw9 hxx hy y0 y1 yl hxy hyh hyp
            obtain ⟨g0, g1, g2⟩ := HG9.out.c3
            have gf := HG9.out.frz
            obtain ⟨c0, c1⟩ := HX9.out.c2
            obtain ⟨d0, d1⟩ := HH9.out.c2
            obtain ⟨e0, e1⟩ := HP9.out.c2
            by_cases hkh : k = hk
            · subst hkh
              have hqq : q = qh := by have h1 := HQ.out.1; rw [HPL.out.1] at h1; cases h1; rfl
              have hgg : q.gen = gh := by rw [hqq, HGH.out]
              rw [hgg] at c1
              have HGG := Lib.hid hgg
              clear hqq hgg
              go_upto_region 25 with (fail)
              obtain ⟨w10, hw10⟩ : ∃ w10, w10 = ((w9.setCell ⟨y, 2, none⟩ (.int .i64 (q.x.dp + by_))).setCell ⟨y, 0, none⟩ (.int .i64 pk)).setCell ⟨y, 1, none⟩ (.int .i64 gp) := ⟨_, rfl⟩
              rw [← hw10]
              have HG10 : Hid (Gx w10 y (mvQ k pk gp by_ k q).x) := Lib.hid (by
                rw [hw10]
                exact HG9.out.setMv _ _ _ _)
              have HX10 : Hid (Hx w10 x k q.gen) := Lib.hid (by
                have hxy := HXY.out.2
                rw [hw10]
                exact ((HX9.out.far (by omega)).far (by omega)).far (by omega))
              have HT10 : Hid (TrX w10 base t p ⟨c, s.free, s.st, s.many⟩) := Lib.hid (by
                rw [hw10]
                have h1 := HT9.out.farG HG9.out 2 (.int .i64 (q.x.dp + by_))
                have b1 := HG9.out.setD (q.x.dp + by_)
                have h2 := h1.farG b1 0 (.int .i64 pk)
                have b2 := b1.setU (pk : Int)
                exact h2.farG b2 1 (.int .i64 gp))
              have HS10 : Hid (PoolStep base p wr w10) := Lib.hid (by
                have h1 := HXY.out
                rw [hw10]
                exact ((HS9.out.set hbw0 (by omega)).set hbw0 (by omega)).set hbw0 (by omega))
              clear hw10 g0 g1 g2 gf c0 c1 d0 d1 e0 e1
              obtain ⟨g0, g1, g2⟩ := HG10.out.c3
              obtain ⟨c0, c1⟩ := HX10.out.c2
              obtain ⟨q', hq'⟩ : ∃ q', q' = (mvQ k pk gp by_ k q).x := ⟨_, rfl⟩
              have HQX := Lib.hid hq'
              rw [← hq'] at g0 g1 g2
              clear hq'
              have tc := HT10.out.cell
              have HSET := Lib.hid (pl_set k q.gen q' b w10.drew base p 32 ⟨c, s.free, s.st, s.many⟩ (HT10.out.behind (below_drew (Below.refl _ w10))).has HOC.out hb HT10.out.base_le)
              have HSN := Lib.hid (fun (w11 : World) (hs : PoolStep base p w10.drew w11) => show (w11.cell? ⟨t, 0, none⟩ = some (.pointer (some ⟨p, 0, none⟩)) ∧ w11.cell? ⟨x, 0, none⟩ = some (.int .i64 k) ∧ w11.cell? ⟨x, 1, none⟩ = some (.int .i64 q.gen) ∧ w11.cell? ⟨y, 0, none⟩ = some (.int .i64 q'.ui) ∧ w11.cell? ⟨y, 1, none⟩ = some (.int .i64 q'.ug) ∧ w11.cell? ⟨y, 2, none⟩ = some (.int .i64 q'.dp)) from by
                have hpw := HTQ.out.has.lt
                have h1 := HXY.out
                have hx4 := Hx.step (w := w10.drew) HX10.out.drew hs (by omega)
                have hy4 := Gx.step (w := w10.drew) (x := q') (by rw [HQX.out]; exact HG10.out) hs (by omega)
                have ht4 : w11.heap[t]? = _ := hs.same (w := w10.drew) HT10.out.tb HT10.out.ne (by decide)
                exact ⟨by simp [World.cell?, ht4], hx4.c2.1, hx4.c2.2, hy4.c3.1, hy4.c3.2.1, hy4.c3.2.2⟩)
              rw [(find_of (s := ⟨c, s.free, s.st, s.many⟩) HQ.out.2.2.2.1 HQ.out.2.1).2.2, set_place (s := ⟨c, s.free, s.st, s.many⟩) HQ.out.2.2.2.1 HQ.out.2.1] at HSET
              go_region_held3 (fun w' => w'.cell? ⟨t, 0, none⟩ = some (.pointer (some ⟨p, 0, none⟩)) ∧ w'.cell? ⟨x, 0, none⟩ = some (.int .i64 k) ∧ w'.cell? ⟨x, 1, none⟩ = some (.int .i64 q.gen) ∧ w'.cell? ⟨y, 0, none⟩ = some (.int .i64 q'.ui) ∧ w'.cell? ⟨y, 1, none⟩ = some (.int .i64 q'.ug) ∧ w'.cell? ⟨y, 2, none⟩ = some (.int .i64 q'.dp))
                (first | exact ⟨tc, c0, c1, g0, g1, g2⟩ | assumption)
                (first | (go_at_call 37; refine HSET.out.mono ?_; rintro e w11 ⟨rfl, hp11, hs11⟩; have hS11 := HSN.out w11 hs11))
              rename_i hHeld
              clear hHeld hS11
              go_wp2_with fail
              go_roundg (N - (j + 1))
              case measure => have := HGN.out; omega
              case rel =>
                refine ⟨j + 1, c.set k (mvQ k pk gp by_ k q), by go_num, by omega, Nat.le_refl _, HPA.out.step HQ.out.1 HQ.out.2.2.2.2 (doneB_step HQ.out.2.2.1), ?_, ?_⟩
                · have h1 := (HT10.out.behind (below_drew (Below.refl _ w10))).step hs11 hp11
                  rw [HQX.out] at h1
                  exact h1
                · have h1 : PoolStep base p w10 w10.drew := PoolStep.of_below (below_drew (Below.refl _ w10)) HT10.out.base_le
                  exact HSQ.out.trans ((HS10.out.trans h1).trans hs11)
            · have hkhb : ((k : Int) == (hk : Int)) = false := beq_eq_false_iff_ne.2 (by omega)
              have HKH := Lib.hid hkh
              clear hkh
              go_upto_region 25 with (fail)
              obtain ⟨w10, hw10⟩ : ∃ w10, w10 = w9.setCell ⟨y, 2, none⟩ (.int .i64 (q.x.dp + by_)) := ⟨_, rfl⟩
              rw [← hw10]
              have HG10 : Hid (Gx w10 y (mvQ hk pk gp by_ k q).x) := Lib.hid (by
                rw [hw10]
                rw [show (mvQ hk pk gp by_ k q).x = ⟨q.x.x, q.x.ui, q.x.ug, q.x.dp + by_⟩ by simp only [mvQ, if_neg HKH.out]]
                exact HG9.out.setD (q.x.dp + by_))
              have HX10 : Hid (Hx w10 x k q.gen) := Lib.hid (by
                have hxy := HXY.out.2
                rw [hw10]
                exact HX9.out.far (by omega))
              have HT10 : Hid (TrX w10 base t p ⟨c, s.free, s.st, s.many⟩) := Lib.hid (by
                rw [hw10]
                exact HT9.out.farG HG9.out 2 (.int .i64 (q.x.dp + by_)))
              have HS10 : Hid (PoolStep base p wr w10) := Lib.hid (by
                have h1 := HXY.out
                rw [hw10]
                exact HS9.out.set hbw0 (by omega))
              clear hw10 g0 g1 g2 gf c0 c1 d0 d1 e0 e1
              obtain ⟨g0, g1, g2⟩ := HG10.out.c3
              obtain ⟨c0, c1⟩ := HX10.out.c2
              obtain ⟨q', hq'⟩ : ∃ q', q' = (mvQ hk pk gp by_ k q).x := ⟨_, rfl⟩
              have HQX := Lib.hid hq'
              rw [← hq'] at g0 g1 g2
              clear hq'
              have tc := HT10.out.cell
              have HSET := Lib.hid (pl_set k q.gen q' b w10.drew base p 32 ⟨c, s.free, s.st, s.many⟩ (HT10.out.behind (below_drew (Below.refl _ w10))).has HOC.out hb HT10.out.base_le)
              have HSN := Lib.hid (fun (w11 : World) (hs : PoolStep base p w10.drew w11) => show (w11.cell? ⟨t, 0, none⟩ = some (.pointer (some ⟨p, 0, none⟩)) ∧ w11.cell? ⟨x, 0, none⟩ = some (.int .i64 k) ∧ w11.cell? ⟨x, 1, none⟩ = some (.int .i64 q.gen) ∧ w11.cell? ⟨y, 0, none⟩ = some (.int .i64 q'.ui) ∧ w11.cell? ⟨y, 1, none⟩ = some (.int .i64 q'.ug) ∧ w11.cell? ⟨y, 2, none⟩ = some (.int .i64 q'.dp)) from by
                have hpw := HTQ.out.has.lt
                have h1 := HXY.out
                have hx4 := Hx.step (w := w10.drew) HX10.out.drew hs (by omega)
                have hy4 := Gx.step (w := w10.drew) (x := q') (by rw [HQX.out]; exact HG10.out) hs (by omega)
                have ht4 : w11.heap[t]? = _ := hs.same (w := w10.drew) HT10.out.tb HT10.out.ne (by decide)
                exact ⟨by simp [World.cell?, ht4], hx4.c2.1, hx4.c2.2, hy4.c3.1, hy4.c3.2.1, hy4.c3.2.2⟩)
              rw [(find_of (s := ⟨c, s.free, s.st, s.many⟩) HQ.out.2.2.2.1 HQ.out.2.1).2.2, set_place (s := ⟨c, s.free, s.st, s.many⟩) HQ.out.2.2.2.1 HQ.out.2.1] at HSET
              go_region_held3 (fun w' => w'.cell? ⟨t, 0, none⟩ = some (.pointer (some ⟨p, 0, none⟩)) ∧ w'.cell? ⟨x, 0, none⟩ = some (.int .i64 k) ∧ w'.cell? ⟨x, 1, none⟩ = some (.int .i64 q.gen) ∧ w'.cell? ⟨y, 0, none⟩ = some (.int .i64 q'.ui) ∧ w'.cell? ⟨y, 1, none⟩ = some (.int .i64 q'.ug) ∧ w'.cell? ⟨y, 2, none⟩ = some (.int .i64 q'.dp))
                (first | exact ⟨tc, c0, c1, g0, g1, g2⟩ | assumption)
                (first | (go_at_call 37; refine HSET.out.mono ?_; rintro e w11 ⟨rfl, hp11, hs11⟩; have hS11 := HSN.out w11 hs11))
              rename_i hHeld
              clear hHeld hS11
              go_wp2_with fail
              go_roundg (N - (j + 1))
              case measure => have := HGN.out; omega
              case rel =>
                refine ⟨j + 1, c.set k (mvQ hk pk gp by_ k q), by go_num, by omega, Nat.le_refl _, HPA.out.step HQ.out.1 HQ.out.2.2.2.2 (doneB_step HQ.out.2.2.1), ?_, ?_⟩
                · have h1 := (HT10.out.behind (below_drew (Below.refl _ w10))).step hs11 hp11
                  rw [HQX.out] at h1
                  exact h1
                · have h1 : PoolStep base p w10 w10.drew := PoolStep.of_below (below_drew (Below.refl _ w10)) HT10.out.base_le
                  exact HSQ.out.trans ((HS10.out.trans h1).trans hs11)
          · have hjN : j = N := by omega
            subst hjN
            go_wp2
            go_ret
            refine ⟨rfl, ?_, (PoolStep.of_below HBw.out hb0).trans HSQ.out⟩
            have hpt := HPA.out
            have e : c = mvL s.l hk pk qp.gen by_ := by
              refine Part.eq (hpt.congr (T := belowB s.l hk) ?_) (by rw [HGP.out]; exact part_turn _ _ _)
              intro k q hq
              unfold doneB
              rw [show B.take j = B by rw [HN.out, List.take_length]]
              by_cases hu : q.used = true
              · rw [belowB_of hq hu]
                cases hun : und s.l k hk
                · refine decide_eq_false ?_
                  intro hm
                  obtain ⟨⟨k', g⟩, h1, h2⟩ := List.mem_map.1 hm
                  simp only at h2
                  subst h2
                  have := ((HBM.out k' g).1 h1).2
                  rw [hun] at this
                  cases this
                · refine decide_eq_true ?_
                  exact List.mem_map.2 ⟨(k, q.gen), (HBM.out k q.gen).2 ⟨⟨q, hq, hu, rfl⟩, hun⟩, rfl⟩
              · have h1 : belowB s.l hk k = false := by
                  unfold belowB
                  rw [getD_of hq]
                  cases hh : q.used
                  · rfl
                  · exact absurd hh hu
                rw [h1]
                refine decide_eq_false ?_
                intro hm
                obtain ⟨⟨k', g⟩, hm1, h2⟩ := List.mem_map.1 hm
                simp only at h2
                subst h2
                obtain ⟨⟨q', h3, h4, _⟩, _⟩ := (HBM.out k' g).1 hm1
                rw [hq] at h3
                cases h3
                exact hu h4
            rw [HS.out, ← e]
            exact HTQ.out
/-- Move -/
def mvBy (l : List Pl) (hk pk : Nat) : Int := (l.getD pk plz).x.dp + 1 - (l.getD hk plz).x.dp
def Ps.movE (s : Ps) (i g i2 g2 : Int) : Int := match s.find i g, s.find i2 g2 with
  | some hk, some pk => if hk = 0 then 1 else if und s.l pk hk = true then 10 else if tooDeep s.l hk (mvBy s.l hk pk) = true then 5 else 0
  | _, _ => 2
def Ps.mov (s : Ps) (i g i2 g2 : Int) : Ps := match s.find i g, s.find i2 g2 with
  | some hk, some pk => if hk = 0 then s else if und s.l pk hk = true then s else if tooDeep s.l hk (mvBy s.l hk pk) = true then s else ⟨mvL s.l hk pk g2 (mvBy s.l hk pk), s.free, s.st, s.many⟩
  | _, _ => s
theorem move_any (i g i2 g2 : Int) (b : Nat) (w : World) (base t p : Nat) (s : Ps) (h : TrX w base t p s) (ho : s.Ok 32 b) (hb : b ≤ 1000) (htr : Tr s.l) :
    Calls Try.prog 15 #[.pointer (some ⟨t, 0, none⟩), .agg #[.int .i64 i, .int .i64 g], .agg #[.int .i64 i2, .int .i64 g2]] w fun e w' => e = .returned (.int .i64 (s.movE i g i2 g2)) ∧ TrX w' base t p (s.mov i g i2 g2) ∧ PoolStep base p w w' := by
  have herr : s.find i g = none ∨ s.find i2 g2 = none → Calls Try.prog 15 #[.pointer (some ⟨t, 0, none⟩), .agg #[.int .i64 i, .int .i64 g], .agg #[.int .i64 i2, .int .i64 g2]] w fun e w' => e = .returned (.int .i64 2) ∧ TrX w' base t p s ∧ PoolStep base p w w' := fun hn =>
    (move_err i g i2 g2 b w base t p s h ho hb hn).mono fun e w' ⟨h1, h2⟩ => ⟨h1, h.behind h2, PoolStep.of_below h2 h.base_le⟩
  unfold Ps.mov Ps.movE
  cases hk : s.find i g with
  | none => exact herr (.inl hk)
  | some hk0 =>
    cases hp : s.find i2 g2 with
    | none => exact herr (.inr hp)
    | some pk =>
      obtain ⟨qh, rfl, h1, h2, rfl, _, h6⟩ := find_some hk
      obtain ⟨qp, rfl, p1, p2, rfl, _, p6⟩ := find_some hp
      by_cases h0 : hk0 = 0
      · have hg := zero_of htr h1 h0
        subst h0
        simp only [if_true]
        rw [hg] at h6 ⊢
        exact (move_root pk qp.gen b w base t p s h ho hb h6 p6).mono fun e w' ⟨h1, h2⟩ => ⟨h1, h.behind h2, PoolStep.of_below h2 h.base_le⟩
      · simp only [if_neg h0]
        have hby : mvBy s.l hk0 pk = qp.x.dp + 1 - qh.x.dp := by unfold mvBy; rw [getD_of h1, getD_of p1]
        rw [hby]
        exact move_some hk0 pk qh qp b w base t p s h ho hb htr h1 h2 p1 p2 h0 _ _ rfl rfl
/-- what a move leaves is groups within one another -/
theorem mvOk_of {s : Ps} (htr : Tr s.l) {hk pk : Nat} {qh qp : Pl} (h1 : s.l[hk]? = some qh) (h2 : qh.used = true) (p1 : s.l[pk]? = some qp) (p2 : qp.used = true) (h0 : hk ≠ 0) (hl : und s.l pk hk = false) (hd : tooDeep s.l hk (mvBy s.l hk pk) = false) : MvOk s.l hk pk qh qp (mvBy s.l hk pk) :=
  ⟨htr, h1, h2, p1, p2, h0, hl, by unfold mvBy; rw [getD_of h1, getD_of p1], fun k q hq hu hs => deep_of hd hq hu hs⟩
theorem Tr.mov {s : Ps} (htr : Tr s.l) (i g i2 g2 : Int) : Tr (s.mov i g i2 g2).l := by
  unfold Ps.mov
  cases hk : s.find i g with
  | none => exact htr
  | some hk0 =>
    cases hp : s.find i2 g2 with
    | none => exact htr
    | some pk =>
      obtain ⟨qh, rfl, h1, h2, rfl, _, h6⟩ := find_some hk
      obtain ⟨qp, rfl, p1, p2, rfl, _, p6⟩ := find_some hp
      simp only
      split
      · exact htr
      · rename_i h0
        split
        · exact htr
        · rename_i hl
          split
          · exact htr
          · rename_i hd
            exact (mvOk_of htr h1 h2 p1 p2 h0 (by simpa using hl) (by simpa using hd)).moved (part_turn _ _ _)
theorem Ps.Ok.mov {s : Ps} {b : Nat} (h : s.Ok 32 b) (i g i2 g2 : Int) : (s.mov i g i2 g2).Ok 32 (b + 1) := by
  unfold Ps.mov
  split
  · split
    · exact h.more
    · split
      · exact h.more
      · split
        · exact h.more
        · exact (h.alike ((part_turn s.l _ _).alike (mvQ_same _ _ _ _))).more
  · exact h.more
theorem Tr.des {s : Ps} (htr : Tr s.l) (i g : Int) : Tr (s.des i g).l := by
  unfold Ps.des
  cases hk : s.find i g with
  | none => exact htr
  | some k =>
    obtain ⟨q, rfl, h1, h2, rfl, _, _⟩ := find_some hk
    simp only
    split
    · exact htr
    · rename_i h0
      split
      · rename_i hl
        unfold Ps.fre
        rw [hk]
        refine htr.less h0 (fun j qj hj hju hj0 he => ?_) _ rfl
        have hm : (j, qj.gen) ∈ selL s.l (kidP s k q.gen) := by
          refine selL_mem.2 ⟨⟨qj, hj, hju, rfl⟩, ?_⟩
          unfold kidP
          rw [hk]
          exact decide_eq_true ⟨hj0, by unfold upI; rw [getD_of hj, he]; simp⟩
        rw [List.eq_nil_of_length_eq_zero hl] at hm
        simp at hm
      · exact htr
theorem Ps.Ok.des {s : Ps} {b : Nat} (h : s.Ok 32 b) (i g : Int) : (s.des i g).Ok 32 (b + 1) := by
  unfold Ps.des
  split
  · exact h.more
  · split
    · exact h.more
    · split
      · exact h.fre _ _
      · exact h.more
end Go.Proofs.Ytnbljnpfmeidfaa
