/- The walk of the law QuotaPlays: it returns true. Condition: the last argument reads as a slice of Deed. -/
import Derived.Test.YtbhiinodejhggaaQuotaAll
namespace Go.Proofs.Ytbhiinodejhggaa
open Go Go.RowKit Go.ChangeShapes Go.WideShapes
set_option linter.unusedVariables false

structure Ded where
  kd : Int
  P : Int
  n : Int
  s : Int
/-- what a slice of Deed holds -/
def DeedsAt (w : World) (a : Option Addr) (len : Nat) (f : Nat → Ded) : Prop := ∀ j, j < len → ∃ b off, a = some ⟨b, off, none⟩ ∧ b < w.heap.size ∧
  w.cell? ⟨b, off + j * 4, none⟩ = some (.int .i64 (f j).kd) ∧ w.cell? ⟨b, off + j * 4 + 1, none⟩ = some (.int .i64 (f j).P) ∧ w.cell? ⟨b, off + j * 4 + 2, none⟩ = some (.int .i64 (f j).n) ∧ w.cell? ⟨b, off + j * 4 + 3, none⟩ = some (.int .i64 (f j).s)
theorem deedsAt_of {w : World} {a : Option Addr} {len : Nat} (h : FlatSlice [some .i64, some .i64, some .i64, some .i64] w a len) : ∃ f, DeedsAt w a len f := by
  have g : ∀ j, ∃ x : Ded, j < len → ∃ b off, a = some ⟨b, off, none⟩ ∧ b < w.heap.size ∧
      w.cell? ⟨b, off + j * 4, none⟩ = some (.int .i64 x.kd) ∧ w.cell? ⟨b, off + j * 4 + 1, none⟩ = some (.int .i64 x.P) ∧ w.cell? ⟨b, off + j * 4 + 2, none⟩ = some (.int .i64 x.n) ∧ w.cell? ⟨b, off + j * 4 + 3, none⟩ = some (.int .i64 x.s) := by
    intro j
    by_cases hj : j < len
    · obtain ⟨b, off, cs, ha, hb, hf, hc⟩ := h.2 j hj
      obtain ⟨v0, v1, v2, v3, rfl, w0, w1, w2, w3⟩ := flat_int4 hf
      have c0 := hc 0 (by simp)
      have c1 := hc 1 (by simp)
      have c2 := hc 2 (by simp)
      have c3 := hc 3 (by simp)
      exact ⟨⟨v0, v1, v2, v3⟩, fun _ => ⟨b, off, ha, hb, by simpa using c0, by simpa [Nat.add_assoc] using c1, by simpa [Nat.add_assoc] using c2, by simpa [Nat.add_assoc] using c3⟩⟩
    · exact ⟨⟨0, 0, 0, 0⟩, fun h => absurd h hj⟩
  exact ⟨fun j => (g j).choose, fun j hj => (g j).choose_spec hj⟩
/-- a deed in its box -/
def Dx (w : World) (y : Nat) (d : Ded) : Prop := w.heap[y]? = some (.cells #[.int .i64 d.kd, .int .i64 d.P, .int .i64 d.n, .int .i64 d.s] 50 (0, 0))
theorem Dx.new (w : World) (d : Ded) : Dx (w.alloc (.cells #[.int .i64 d.kd, .int .i64 d.P, .int .i64 d.n, .int .i64 d.s] 50)) w.heap.size d := heap_alloc_new w _
theorem Dx.lt {w : World} {y : Nat} {d : Ded} (h : Dx w y d) : y < w.heap.size := (Array.getElem?_eq_some_iff.1 h).1
theorem Dx.c4 {w : World} {y : Nat} {d : Ded} (h : Dx w y d) : w.cell? ⟨y, 0, none⟩ = some (.int .i64 d.kd) ∧ w.cell? ⟨y, 1, none⟩ = some (.int .i64 d.P) ∧ w.cell? ⟨y, 2, none⟩ = some (.int .i64 d.n) ∧ w.cell? ⟨y, 3, none⟩ = some (.int .i64 d.s) := by
  unfold Dx at h
  refine ⟨?_, ?_, ?_, ?_⟩ <;> simp [World.cell?, h]
/-- the program's band in block p, the document's in the box x, the deed in the box y -/
structure Sit (w : World) (p x y : Nat) (b b2 : Bd) (g cap : Nat) (d : Ded) : Prop where
  has : HasBand w p b
  box : Bx w x (bcells b2 g cap)
  ref : RefB w b2 g cap
  deed : Dx w y d
  ne : x ≠ p
  ny : y ≠ p
  xy : x ≠ y
theorem RefB.tch {w w' : World} {p : Nat} {b b2 : Bd} {g cap : Nat} (h : RefB w b2 g cap) (hb : HasBand w p b) (t : Tch (· = p) w w') : RefB w' b2 g cap := by
  refine ⟨⟨h.row.1, ?_⟩, h.lo, h.hi⟩
  rcases h.row.2 with hn | ⟨g', cap', cur, hv, hbg, hh, hr⟩
  · exact .inl hn
  · refine .inr ⟨g', cap', cur, hv, hbg, ?_, hr⟩
    rw [t.block g' (Array.getElem?_eq_some_iff.1 hh).1 ?_]
    · exact hh
    · rintro rfl
      have := hb.blk
      rw [hh] at this
      simp only [Option.some.injEq, Obj.cells.injEq] at this
      exact absurd this.2.1 (by decide)
theorem Sit.prog {w w' : World} {p x y : Nat} {b b2 b' : Bd} {g cap : Nat} {d : Ded} (h : Sit w p x y b b2 g cap d) (hb : HasBand w' p b') (t : Tch (· = p) w w') : Sit w' p x y b' b2 g cap d :=
  ⟨hb, by unfold Bx; rw [t.block x h.box.lt h.ne]; exact h.box, h.ref.tch h.has t, by unfold Dx; rw [t.block y h.deed.lt h.ny]; exact h.deed, h.ne, h.ny, h.xy⟩
theorem Sit.behind {w w' : World} {p x y : Nat} {b b2 : Bd} {g cap : Nat} {d : Ded} (h : Sit w p x y b b2 g cap d) (hb : Below w.heap.size w w') : Sit w' p x y b b2 g cap d :=
  ⟨h.has.behind hb, h.box.behind hb, h.ref.behind hb, by unfold Dx; rw [hb.block y h.deed.lt]; exact h.deed, h.ne, h.ny, h.xy⟩
theorem HasBand.far {w : World} {p c o : Nat} {b : Bd} {u : Value} (h : HasBand w p b) (hne : c ≠ p) : HasBand (w.setCell ⟨c, o, none⟩ u) p b := ⟨by rw [Below.heap_setCell _ _ _ _ (by exact fun e => hne e.symm)]; exact h.blk, h.lo, h.hi⟩
theorem Dx.far {w : World} {y c o : Nat} {d : Ded} {u : Value} (h : Dx w y d) (hne : c ≠ y) : Dx (w.setCell ⟨c, o, none⟩ u) y d := by unfold Dx; rw [Below.heap_setCell _ _ _ _ (by exact fun e => hne e.symm)]; exact h
/-- the five stores that lay another band into the box -/
def put5 (w : World) (x : Nat) (b : Bd) (g cap : Nat) : World :=
  ((((w.setCell ⟨x, 0, none⟩ (.int .i64 b.q)).setCell ⟨x, 1, none⟩ (.int .i64 b.s)).setCell ⟨x, 2, none⟩ (.int .i64 b.pool)).setCell ⟨x, 3, none⟩ (.int .i64 b.spent)).setCell ⟨x, 4, none⟩ (.slice (some ⟨g, 0, none⟩) b.l.length cap)
theorem Sit.store {w : World} {p x y : Nat} {b b2 b3 : Bd} {g cap g3 c3 : Nat} {d : Ded} (h : Sit w p x y b b2 g cap d) (hr : RefB w b3 g3 c3) : Sit (put5 w x b3 g3 c3) p x y b b3 g3 c3 d :=
  ⟨((((h.has.far h.ne).far h.ne).far h.ne).far h.ne).far h.ne, ((((h.box.set _).set _).set _).set _).set _,
    (((((hr.far h.box 0 _).far (h.box.set _) 1 _).far ((h.box.set _).set _) 2 _).far (((h.box.set _).set _).set _) 3 _).far ((((h.box.set _).set _).set _).set _) 4 _),
    ((((h.deed.far h.xy).far h.xy).far h.xy).far h.xy).far h.xy, h.ne, h.ny, h.xy⟩
theorem put5_below {B : Nat} {a w : World} {x : Nat} (h : Below B a w) (hx : B ≤ x) (b : Bd) (g cap : Nat) : Below B a (put5 w x b g cap) :=
  ((((h.setCell hx _).setCell hx _).setCell hx _).setCell hx _).setCell hx _
set_option maxHeartbeats 4000000 in
set_option maxRecDepth 100000 in
theorem walk_QuotaPlays (ps : Int) (a : Option Addr) (len capo : Nat) (f : Nat → Ded) (w : World) (h : DeedsAt w a len f) (hlen : len ≤ 9223372036854775807) :
    Calls Try.prog 8 #[.int .i64 ps, .slice a len capo] w fun e w' => e = .returned (.bool true) ∧ Below w.heap.size w w' := by
  have HE := Lib.hid h; clear h
  by_cases hps : ps < 1 ∨ 64 < ps
  · have HP := Lib.hid hps; clear hps
    go_enter Try.func8, Try.ntmps8
    go_wp2_with fail
    refine (awake _).mono ?_
    rintro e w1 ⟨rfl, hz1⟩
    have HZ1 := Lib.hid hz1; clear hz1
    go_wp2_with fail
    refine (new_no _ _ HP.out).mono ?_
    rintro e w2 ⟨rfl, rfl⟩
    go_wp2_with fail
    refine (rnew_no _ _ HP.out).mono ?_
    rintro e w2 ⟨rfl, hz2⟩
    have HZ2 := Lib.hid (below_trans HZ1.out hz2 HZ1.out.size); clear hz2
    go_wp2
    go_ret
    exact ⟨rfl, HZ2.out.alloc HZ2.out.size _⟩
  · obtain ⟨n, rfl⟩ := Int.eq_ofNat_of_zero_le (show 0 ≤ ps by omega)
    have hn1 : 1 ≤ n := by omega
    have hn2 : n ≤ 64 := by omega
    clear hps
    go_enter Try.func8, Try.ntmps8
    go_wp2_with fail
    refine (awake _).mono ?_
    rintro e w1 ⟨rfl, hz1⟩
    have HZ1 := Lib.hid hz1; clear hz1
    go_wp2_with fail
    refine (new_yes n _ hn1 hn2).mono ?_
    rintro e w2 ⟨rfl, hb2, hz2⟩
    have HB2 := Lib.hid hb2
    have HZ2 := Lib.hid (below_trans HZ1.out hz2 HZ1.out.size)
    clear hz2 hb2
    go_wp2_with fail
    refine (rnew_yes n _ hn1 hn2).mono ?_
    rintro e w3 ⟨g0, c0, rfl, hr3, hz3⟩
    obtain ⟨b0, hb0⟩ : ∃ b0 : Bd, b0 = ⟨0, 0, 0, 0, List.replicate n 0⟩ := ⟨_, rfl⟩
    rw [← hb0] at hr3 HB2
    have hlim : Lim 0 b0 := by rw [hb0]; exact Lim.start n
    have hfl : b0.l.length = n := by rw [hb0]; simp
    have HLim := Lib.hid hlim
    obtain ⟨p, hp⟩ : ∃ p, p = w1.heap.size := ⟨_, rfl⟩
    rw [← hp] at HB2 ⊢
    have hpx : w3.heap.size ≠ p := by have := (HB2.out.behind hz3).lt; omega
    have hpw : w.heap.size ≤ p := by rw [hp]; exact HZ1.out.size
    have hxw : w.heap.size ≤ w3.heap.size := by have := HZ2.out.size; have := hz3.size; omega
    obtain ⟨w4, hw4⟩ : ∃ w4, w4 = w3.alloc (.cells #[.int .i64 b0.q, .int .i64 b0.s, .int .i64 b0.pool, .int .i64 b0.spent, .slice (some ⟨g0, 0, none⟩) b0.l.length c0] 46) := ⟨_, rfl⟩
    have HB4 : Hid (HasBand w4 p b0) := Lib.hid (by rw [hw4]; exact (HB2.out.behind hz3).alloc _)
    have HR4 : Hid (RefB w4 b0 g0 c0) := Lib.hid (by rw [hw4]; exact hr3.behind (below_alloc _ _))
    have HX4 : Hid (Bx w4 w3.heap.size (bcells b0 g0 c0)) := Lib.hid (by rw [hw4]; exact Bx.new w3 _)
    have HZ4 : Hid (Below w.heap.size w w4) := Lib.hid (by rw [hw4]; exact (below_trans HZ2.out hz3 HZ2.out.size).alloc hxw _)
    have HV : Hid (refV ⟨0, 0, 0, 0, List.replicate n 0⟩ g0 c0 = refV b0 g0 c0) := Lib.hid (by rw [hb0])
    rw [HV.out]
    have HW := Lib.hid hw4
    have HF := Lib.hid hfl
    clear hb0 hlim hz3 hr3 hp HV hw4 hfl HB2
    go_wp2_with fail
    rw [← HW.out]
    go_loopw [10] (fun i wr => ∃ (k : Nat) (b : Bd) (g cap : Nat), k ≤ len ∧ k ≤ 100 ∧ i = .int .i64 k ∧ HasBand wr p b ∧ Bx wr w3.heap.size (bcells b g cap) ∧ RefB wr b g cap ∧ Lim k b ∧ Below w.heap.size w wr) (fun i _ => 100 - (intOf i).toNat)
    case atStart => exact ⟨0, b0, g0, c0, by omega, by omega, rfl, HB4.out, HX4.out, HR4.out, HLim.out, HZ4.out⟩
    case round =>
      obtain ⟨k, b, g, cap, hk, hk2, rfl, hb, hx, hr, hl, hz⟩ := hrel
      have HZr := Lib.hid hz
      by_cases hlt : k < len
      · by_cases hlt1 : k < 100
        · obtain ⟨bo, off, rfl, hbo, hc⟩ := HE.out k hlt
          obtain ⟨hc0, hc1, hc2, hc3⟩ : wr.cell? ⟨bo, off + k * 4, none⟩ = some (.int .i64 (f k).kd) ∧ wr.cell? ⟨bo, off + k * 4 + 1, none⟩ = some (.int .i64 (f k).P) ∧ wr.cell? ⟨bo, off + k * 4 + 2, none⟩ = some (.int .i64 (f k).n) ∧ wr.cell? ⟨bo, off + k * 4 + 3, none⟩ = some (.int .i64 (f k).s) := by
            rw [HZr.out.cell (p := ⟨bo, off + k * 4, none⟩) hbo, HZr.out.cell (p := ⟨bo, off + k * 4 + 1, none⟩) hbo, HZr.out.cell (p := ⟨bo, off + k * 4 + 2, none⟩) hbo, HZr.out.cell (p := ⟨bo, off + k * 4 + 3, none⟩) hbo]; exact hc
          have hbr : bo < wr.heap.size := by have := hz.size; omega
          clear hc
          generalize f k = d at *
          have hpl := hb.lt
          have hxl := hx.lt
          have SS0 : Hid (Sit (wr.alloc (.cells #[.int .i64 d.kd, .int .i64 d.P, .int .i64 d.n, .int .i64 d.s] 50)) p w3.heap.size wr.heap.size b b g cap d) := Lib.hid ⟨hb.alloc _, hx.alloc _, hr.behind (below_alloc _ _), Dx.new wr d, hpx, by omega, by omega⟩
          have HZb0 := Lib.hid (hz.alloc hz.size (.cells #[.int .i64 d.kd, .int .i64 d.P, .int .i64 d.n, .int .i64 d.s] 50))
          have HLk := Lib.hid hl
          clear hb hx hr hl hz
          go_upto_region 12 with (fail)
          obtain ⟨wb, hwb⟩ : ∃ wb, wb = wr.alloc (.cells #[.int .i64 d.kd, .int .i64 d.P, .int .i64 d.n, .int .i64 d.s] 50) := ⟨_, rfl⟩
          rw [← hwb] at SS0 HZb0 ⊢
          have SS := SS0
          have HZb := HZb0
          clear hwb SS0 HZb0 hc0 hc1 hc2 hc3
          by_cases k0 : d.kd = 0
          · have kb : (d.kd == 0) = true := beq_iff_eq.2 k0
            clear k0
            obtain ⟨q0, q1, q2, q3, q4⟩ := SS.out.box.c5
            obtain ⟨y0, y1, y2, y3⟩ := SS.out.deed.c4
            have f0 := SS.out.box.frz
            have l0 := SS.out.box.lt
            have l1 := SS.out.deed.lt
            go_wp2_with fail
            refine (pl_set d.n d.s _ p b SS.out.has).mono ?_
            rintro e w4 ⟨rfl, hb4, ht4⟩
            have S4 := Lib.hid (SS.out.prog hb4 ht4)
            have Z4 := Lib.hid (Good.below HZb.out ht4 hpw (Nat.le_refl _))
            clear hb4 ht4
            clear q0 q1 q2 q3 q4 y0 y1 y2 y3 f0 l0 l1
            obtain ⟨q0, q1, q2, q3, q4⟩ := S4.out.box.c5
            obtain ⟨y0, y1, y2, y3⟩ := S4.out.deed.c4
            have f0 := S4.out.box.frz
            have l0 := S4.out.box.lt
            have l1 := S4.out.deed.lt
            go_wp2_with fail
            refine (rl_set d.n d.s _ b g cap S4.out.ref).mono ?_
            rintro e w5 ⟨g5, c5, rfl, hr5, hz5⟩
            have S5 := Lib.hid (S4.out.behind hz5)
            have HR5 := Lib.hid hr5
            have Z5 := Lib.hid (below_trans Z4.out hz5 Z4.out.size)
            have HL5 := Lib.hid (HLk.out.setR d.n d.s)
            clear hr5 hz5
            clear q0 q1 q2 q3 q4 y0 y1 y2 y3 f0 l0 l1
            generalize b.setR d.n d.s = b5 at *
            generalize setE d.n d.s = e5 at *
            obtain ⟨q0, q1, q2, q3, q4⟩ := S5.out.box.c5
            obtain ⟨y0, y1, y2, y3⟩ := S5.out.deed.c4
            have f0 := S5.out.box.frz
            have l0 := S5.out.box.lt
            have l1 := S5.out.deed.lt
            go_upto_region 36 with (fail)
            clear q0 q1 q2 q3 q4 y0 y1 y2 y3 f0 l0 l1
            obtain ⟨w6, hw6⟩ : ∃ w6, w6 = (((((w5.setCell ⟨w3.heap.size, 0, none⟩ (.int .i64 b5.q)).setCell ⟨w3.heap.size, 1, none⟩ (.int .i64 b5.s)).setCell ⟨w3.heap.size, 2, none⟩ (.int .i64 b5.pool)).setCell ⟨w3.heap.size, 3, none⟩ (.int .i64 b5.spent)).setCell ⟨w3.heap.size, 4, none⟩ (.slice (some ⟨g5, 0, none⟩) b5.l.length c5)).alloc (.cells (bcells b5 g5 c5) 46) := ⟨_, rfl⟩
            rw [← hw6]
            have S6 : Hid (Sit w6 p w3.heap.size wr.heap.size b5 b5 g5 c5 d) := Lib.hid (by rw [hw6]; exact (S5.out.store HR5.out).behind (below_alloc _ _))
            have Z6 : Hid (Below w.heap.size w w6) := Lib.hid (by rw [hw6]; exact (put5_below Z5.out hxw b5 g5 c5).alloc (put5_below Z5.out hxw b5 g5 c5).size _)
            clear hw6
            obtain ⟨q0, q1, q2, q3, q4⟩ := S6.out.box.c5
            obtain ⟨y0, y1, y2, y3⟩ := S6.out.deed.c4
            have f0 := S6.out.box.frz
            have l0 := S6.out.box.lt
            have l1 := S6.out.deed.lt
            go_wp2_with fail
            refine (same_any _ p b5 g5 c5 S6.out.has S6.out.ref).mono ?_
            rintro e w7 ⟨rfl, hz7⟩
            have S7 := Lib.hid (S6.out.behind hz7)
            have Z7 := Lib.hid (below_trans Z6.out hz7 Z6.out.size)
            clear hz7
            clear q0 q1 q2 q3 q4 y0 y1 y2 y3 f0 l0 l1
            go_wp2_with fail
            go_roundw
            case rel => exact ⟨k + 1, b5, g5, c5, by omega, by omega, by go_num, S7.out.has, S7.out.box, S7.out.ref, HL5.out, Z7.out⟩
            case measure => simp [intOf]; omega
          · have kb : (d.kd == 0) = false := beq_eq_false_iff_ne.2 k0
            by_cases k1 : d.kd = 1
            · have kb1 : (d.kd == 1) = true := beq_iff_eq.2 k1
              clear k0 k1
              obtain ⟨q0, q1, q2, q3, q4⟩ := SS.out.box.c5
              obtain ⟨y0, y1, y2, y3⟩ := SS.out.deed.c4
              have f0 := SS.out.box.frz
              have l0 := SS.out.box.lt
              have l1 := SS.out.deed.lt
              go_wp2_with fail
              refine (pl_ensure d.P k _ p b SS.out.has HLk.out (by omega)).mono ?_
              rintro e w4 ⟨rfl, hb4, ht4⟩
              have S4 := Lib.hid (SS.out.prog hb4 ht4)
              have Z4 := Lib.hid (Good.below HZb.out ht4 hpw (Nat.le_refl _))
              clear hb4 ht4
              clear q0 q1 q2 q3 q4 y0 y1 y2 y3 f0 l0 l1
              obtain ⟨q0, q1, q2, q3, q4⟩ := S4.out.box.c5
              obtain ⟨y0, y1, y2, y3⟩ := S4.out.deed.c4
              have f0 := S4.out.box.frz
              have l0 := S4.out.box.lt
              have l1 := S4.out.deed.lt
              go_wp2_with fail
              refine (rl_ensure d.P k _ b g cap S4.out.ref HLk.out (by omega)).mono ?_
              rintro e w5 ⟨g5, c5, rfl, hr5, hz5⟩
              have S5 := Lib.hid (S4.out.behind hz5)
              have HR5 := Lib.hid hr5
              have Z5 := Lib.hid (below_trans Z4.out hz5 Z4.out.size)
              have HL5 := Lib.hid (HLk.out.ensP d.P)
              clear hr5 hz5
              clear q0 q1 q2 q3 q4 y0 y1 y2 y3 f0 l0 l1
              generalize b.ensP d.P = b5 at *
              generalize b.mayP d.P = m5 at *
              obtain ⟨q0, q1, q2, q3, q4⟩ := S5.out.box.c5
              obtain ⟨y0, y1, y2, y3⟩ := S5.out.deed.c4
              have f0 := S5.out.box.frz
              have l0 := S5.out.box.lt
              have l1 := S5.out.deed.lt
              go_upto_region 36 with (fail)
              clear q0 q1 q2 q3 q4 y0 y1 y2 y3 f0 l0 l1
              obtain ⟨w6, hw6⟩ : ∃ w6, w6 = (((((w5.setCell ⟨w3.heap.size, 0, none⟩ (.int .i64 b5.q)).setCell ⟨w3.heap.size, 1, none⟩ (.int .i64 b5.s)).setCell ⟨w3.heap.size, 2, none⟩ (.int .i64 b5.pool)).setCell ⟨w3.heap.size, 3, none⟩ (.int .i64 b5.spent)).setCell ⟨w3.heap.size, 4, none⟩ (.slice (some ⟨g5, 0, none⟩) b5.l.length c5)).alloc (.cells (bcells b5 g5 c5) 46) := ⟨_, rfl⟩
              rw [← hw6]
              have S6 : Hid (Sit w6 p w3.heap.size wr.heap.size b5 b5 g5 c5 d) := Lib.hid (by rw [hw6]; exact (S5.out.store HR5.out).behind (below_alloc _ _))
              have Z6 : Hid (Below w.heap.size w w6) := Lib.hid (by rw [hw6]; exact (put5_below Z5.out hxw b5 g5 c5).alloc (put5_below Z5.out hxw b5 g5 c5).size _)
              clear hw6
              obtain ⟨q0, q1, q2, q3, q4⟩ := S6.out.box.c5
              obtain ⟨y0, y1, y2, y3⟩ := S6.out.deed.c4
              have f0 := S6.out.box.frz
              have l0 := S6.out.box.lt
              have l1 := S6.out.deed.lt
              go_wp2_with fail
              refine (same_any _ p b5 g5 c5 S6.out.has S6.out.ref).mono ?_
              rintro e w7 ⟨rfl, hz7⟩
              have S7 := Lib.hid (S6.out.behind hz7)
              have Z7 := Lib.hid (below_trans Z6.out hz7 Z6.out.size)
              clear hz7
              clear q0 q1 q2 q3 q4 y0 y1 y2 y3 f0 l0 l1
              go_wp2_with fail
              go_roundw
              case rel => exact ⟨k + 1, b5, g5, c5, by omega, by omega, by go_num, S7.out.has, S7.out.box, S7.out.ref, HL5.out, Z7.out⟩
              case measure => simp [intOf]; omega
            · have kb1 : (d.kd == 1) = false := beq_eq_false_iff_ne.2 k1
              by_cases k2 : d.kd = 2
              · have kb2 : (d.kd == 2) = true := beq_iff_eq.2 k2
                clear k0 k1 k2
                obtain ⟨q0, q1, q2, q3, q4⟩ := SS.out.box.c5
                obtain ⟨y0, y1, y2, y3⟩ := SS.out.deed.c4
                have f0 := SS.out.box.frz
                have l0 := SS.out.box.lt
                have l1 := SS.out.deed.lt
                go_wp2_with fail
                refine (pl_charge d.P d.n k _ p b SS.out.has HLk.out (by omega)).mono ?_
                rintro e w4 ⟨rfl, hb4, ht4⟩
                have S4 := Lib.hid (SS.out.prog hb4 ht4)
                have Z4 := Lib.hid (Good.below HZb.out ht4 hpw (Nat.le_refl _))
                clear hb4 ht4
                clear q0 q1 q2 q3 q4 y0 y1 y2 y3 f0 l0 l1
                obtain ⟨q0, q1, q2, q3, q4⟩ := S4.out.box.c5
                obtain ⟨y0, y1, y2, y3⟩ := S4.out.deed.c4
                have f0 := S4.out.box.frz
                have l0 := S4.out.box.lt
                have l1 := S4.out.deed.lt
                go_wp2_with fail
                refine (rl_charge d.P d.n k _ b g cap S4.out.ref HLk.out (by omega)).mono ?_
                rintro e w5 ⟨g5, c5, rfl, hr5, hz5⟩
                have S5 := Lib.hid (S4.out.behind hz5)
                have HR5 := Lib.hid hr5
                have Z5 := Lib.hid (below_trans Z4.out hz5 Z4.out.size)
                have HL5 := Lib.hid (HLk.out.chR d.P d.n)
                clear hr5 hz5
                clear q0 q1 q2 q3 q4 y0 y1 y2 y3 f0 l0 l1
                generalize b.chR d.P d.n = b5 at *
                generalize b.chM d.P d.n = m5 at *
                generalize b.chE d.P d.n = e5 at *
                obtain ⟨q0, q1, q2, q3, q4⟩ := S5.out.box.c5
                obtain ⟨y0, y1, y2, y3⟩ := S5.out.deed.c4
                have f0 := S5.out.box.frz
                have l0 := S5.out.box.lt
                have l1 := S5.out.deed.lt
                go_upto_region 36 with (fail)
                clear q0 q1 q2 q3 q4 y0 y1 y2 y3 f0 l0 l1
                obtain ⟨w6, hw6⟩ : ∃ w6, w6 = (((((w5.setCell ⟨w3.heap.size, 0, none⟩ (.int .i64 b5.q)).setCell ⟨w3.heap.size, 1, none⟩ (.int .i64 b5.s)).setCell ⟨w3.heap.size, 2, none⟩ (.int .i64 b5.pool)).setCell ⟨w3.heap.size, 3, none⟩ (.int .i64 b5.spent)).setCell ⟨w3.heap.size, 4, none⟩ (.slice (some ⟨g5, 0, none⟩) b5.l.length c5)).alloc (.cells (bcells b5 g5 c5) 46) := ⟨_, rfl⟩
                rw [← hw6]
                have S6 : Hid (Sit w6 p w3.heap.size wr.heap.size b5 b5 g5 c5 d) := Lib.hid (by rw [hw6]; exact (S5.out.store HR5.out).behind (below_alloc _ _))
                have Z6 : Hid (Below w.heap.size w w6) := Lib.hid (by rw [hw6]; exact (put5_below Z5.out hxw b5 g5 c5).alloc (put5_below Z5.out hxw b5 g5 c5).size _)
                clear hw6
                obtain ⟨q0, q1, q2, q3, q4⟩ := S6.out.box.c5
                obtain ⟨y0, y1, y2, y3⟩ := S6.out.deed.c4
                have f0 := S6.out.box.frz
                have l0 := S6.out.box.lt
                have l1 := S6.out.deed.lt
                go_wp2_with fail
                refine (same_any _ p b5 g5 c5 S6.out.has S6.out.ref).mono ?_
                rintro e w7 ⟨rfl, hz7⟩
                have S7 := Lib.hid (S6.out.behind hz7)
                have Z7 := Lib.hid (below_trans Z6.out hz7 Z6.out.size)
                clear hz7
                clear q0 q1 q2 q3 q4 y0 y1 y2 y3 f0 l0 l1
                go_wp2_with fail
                go_roundw
                case rel => exact ⟨k + 1, b5, g5, c5, by omega, by omega, by go_num, S7.out.has, S7.out.box, S7.out.ref, HL5.out, Z7.out⟩
                case measure => simp [intOf]; omega
              · have kb2 : (d.kd == 2) = false := beq_eq_false_iff_ne.2 k2
                by_cases k3 : d.kd = 3
                · have kb3 : (d.kd == 3) = true := beq_iff_eq.2 k3
                  clear k0 k1 k2 k3
                  obtain ⟨q0, q1, q2, q3, q4⟩ := SS.out.box.c5
                  obtain ⟨y0, y1, y2, y3⟩ := SS.out.deed.c4
                  have f0 := SS.out.box.frz
                  have l0 := SS.out.box.lt
                  have l1 := SS.out.deed.lt
                  go_wp2_with fail
                  refine (pl_return d.P k _ p b SS.out.has HLk.out (by omega)).mono ?_
                  rintro e w4 ⟨rfl, hb4, ht4⟩
                  have S4 := Lib.hid (SS.out.prog hb4 ht4)
                  have Z4 := Lib.hid (Good.below HZb.out ht4 hpw (Nat.le_refl _))
                  clear hb4 ht4
                  clear q0 q1 q2 q3 q4 y0 y1 y2 y3 f0 l0 l1
                  obtain ⟨q0, q1, q2, q3, q4⟩ := S4.out.box.c5
                  obtain ⟨y0, y1, y2, y3⟩ := S4.out.deed.c4
                  have f0 := S4.out.box.frz
                  have l0 := S4.out.box.lt
                  have l1 := S4.out.deed.lt
                  go_wp2_with fail
                  refine (rl_return d.P k _ b g cap S4.out.ref HLk.out (by omega)).mono ?_
                  rintro e w5 ⟨g5, c5, rfl, hr5, hz5⟩
                  have S5 := Lib.hid (S4.out.behind hz5)
                  have HR5 := Lib.hid hr5
                  have Z5 := Lib.hid (below_trans Z4.out hz5 Z4.out.size)
                  have HL5 := Lib.hid (HLk.out.retR d.P)
                  clear hr5 hz5
                  clear q0 q1 q2 q3 q4 y0 y1 y2 y3 f0 l0 l1
                  generalize b.retR d.P = b5 at *
                  obtain ⟨q0, q1, q2, q3, q4⟩ := S5.out.box.c5
                  obtain ⟨y0, y1, y2, y3⟩ := S5.out.deed.c4
                  have f0 := S5.out.box.frz
                  have l0 := S5.out.box.lt
                  have l1 := S5.out.deed.lt
                  go_upto_region 36 with (fail)
                  clear q0 q1 q2 q3 q4 y0 y1 y2 y3 f0 l0 l1
                  obtain ⟨w6, hw6⟩ : ∃ w6, w6 = (((((w5.setCell ⟨w3.heap.size, 0, none⟩ (.int .i64 b5.q)).setCell ⟨w3.heap.size, 1, none⟩ (.int .i64 b5.s)).setCell ⟨w3.heap.size, 2, none⟩ (.int .i64 b5.pool)).setCell ⟨w3.heap.size, 3, none⟩ (.int .i64 b5.spent)).setCell ⟨w3.heap.size, 4, none⟩ (.slice (some ⟨g5, 0, none⟩) b5.l.length c5)) := ⟨_, rfl⟩
                  rw [← hw6]
                  have S6 : Hid (Sit w6 p w3.heap.size wr.heap.size b5 b5 g5 c5 d) := Lib.hid (by rw [hw6]; exact S5.out.store HR5.out)
                  have Z6 : Hid (Below w.heap.size w w6) := Lib.hid (by rw [hw6]; exact put5_below Z5.out hxw b5 g5 c5)
                  clear hw6
                  obtain ⟨q0, q1, q2, q3, q4⟩ := S6.out.box.c5
                  obtain ⟨y0, y1, y2, y3⟩ := S6.out.deed.c4
                  have f0 := S6.out.box.frz
                  have l0 := S6.out.box.lt
                  have l1 := S6.out.deed.lt
                  go_wp2_with fail
                  refine (same_any _ p b5 g5 c5 S6.out.has S6.out.ref).mono ?_
                  rintro e w7 ⟨rfl, hz7⟩
                  have S7 := Lib.hid (S6.out.behind hz7)
                  have Z7 := Lib.hid (below_trans Z6.out hz7 Z6.out.size)
                  clear hz7
                  clear q0 q1 q2 q3 q4 y0 y1 y2 y3 f0 l0 l1
                  go_wp2_with fail
                  go_roundw
                  case rel => exact ⟨k + 1, b5, g5, c5, by omega, by omega, by go_num, S7.out.has, S7.out.box, S7.out.ref, HL5.out, Z7.out⟩
                  case measure => simp [intOf]; omega
                · have kb3 : (d.kd == 3) = false := beq_eq_false_iff_ne.2 k3
                  clear k0 k1 k2 k3
                  obtain ⟨q0, q1, q2, q3, q4⟩ := SS.out.box.c5
                  obtain ⟨y0, y1, y2, y3⟩ := SS.out.deed.c4
                  have f0 := SS.out.box.frz
                  have l0 := SS.out.box.lt
                  have l1 := SS.out.deed.lt
                  go_wp2_with fail
                  refine (refill_any _ p b SS.out.has).mono ?_
                  rintro e w4 ⟨rfl, hb4, ht4⟩
                  have S4 := Lib.hid (SS.out.prog hb4 ht4)
                  have Z4 := Lib.hid (Good.below HZb.out ht4 hpw (Nat.le_refl _))
                  clear hb4 ht4
                  clear q0 q1 q2 q3 q4 y0 y1 y2 y3 f0 l0 l1
                  obtain ⟨q0, q1, q2, q3, q4⟩ := S4.out.box.c5
                  obtain ⟨y0, y1, y2, y3⟩ := S4.out.deed.c4
                  have f0 := S4.out.box.frz
                  have l0 := S4.out.box.lt
                  have l1 := S4.out.deed.lt
                  go_wp2_with fail
                  refine (rrefill_any _ b g cap S4.out.ref).mono ?_
                  rintro e w5 ⟨g5, c5, rfl, hr5, hz5⟩
                  have S5 := Lib.hid (S4.out.behind hz5)
                  have HR5 := Lib.hid hr5
                  have Z5 := Lib.hid (below_trans Z4.out hz5 Z4.out.size)
                  have HL5 := Lib.hid (HLk.out.refill)
                  clear hr5 hz5
                  clear q0 q1 q2 q3 q4 y0 y1 y2 y3 f0 l0 l1
                  generalize b.refill = b5 at *
                  obtain ⟨q0, q1, q2, q3, q4⟩ := S5.out.box.c5
                  obtain ⟨y0, y1, y2, y3⟩ := S5.out.deed.c4
                  have f0 := S5.out.box.frz
                  have l0 := S5.out.box.lt
                  have l1 := S5.out.deed.lt
                  go_upto_region 36 with (fail)
                  clear q0 q1 q2 q3 q4 y0 y1 y2 y3 f0 l0 l1
                  obtain ⟨w6, hw6⟩ : ∃ w6, w6 = (((((w5.setCell ⟨w3.heap.size, 0, none⟩ (.int .i64 b5.q)).setCell ⟨w3.heap.size, 1, none⟩ (.int .i64 b5.s)).setCell ⟨w3.heap.size, 2, none⟩ (.int .i64 b5.pool)).setCell ⟨w3.heap.size, 3, none⟩ (.int .i64 b5.spent)).setCell ⟨w3.heap.size, 4, none⟩ (.slice (some ⟨g5, 0, none⟩) b5.l.length c5)) := ⟨_, rfl⟩
                  rw [← hw6]
                  have S6 : Hid (Sit w6 p w3.heap.size wr.heap.size b5 b5 g5 c5 d) := Lib.hid (by rw [hw6]; exact S5.out.store HR5.out)
                  have Z6 : Hid (Below w.heap.size w w6) := Lib.hid (by rw [hw6]; exact put5_below Z5.out hxw b5 g5 c5)
                  clear hw6
                  obtain ⟨q0, q1, q2, q3, q4⟩ := S6.out.box.c5
                  obtain ⟨y0, y1, y2, y3⟩ := S6.out.deed.c4
                  have f0 := S6.out.box.frz
                  have l0 := S6.out.box.lt
                  have l1 := S6.out.deed.lt
                  go_wp2_with fail
                  refine (same_any _ p b5 g5 c5 S6.out.has S6.out.ref).mono ?_
                  rintro e w7 ⟨rfl, hz7⟩
                  have S7 := Lib.hid (S6.out.behind hz7)
                  have Z7 := Lib.hid (below_trans Z6.out hz7 Z6.out.size)
                  clear hz7
                  clear q0 q1 q2 q3 q4 y0 y1 y2 y3 f0 l0 l1
                  go_wp2_with fail
                  go_roundw
                  case rel => exact ⟨k + 1, b5, g5, c5, by omega, by omega, by go_num, S7.out.has, S7.out.box, S7.out.ref, HL5.out, Z7.out⟩
                  case measure => simp [intOf]; omega
        · go_wp2
          go_ret
          exact ⟨rfl, HZr.out⟩
      · go_wp2
        go_ret
        exact ⟨rfl, HZr.out⟩
theorem walk_QuotaPlays' (ps : Int) (a : Option Addr) (len capo : Nat) (w : World) (h : FlatSlice [some .i64, some .i64, some .i64, some .i64] w a len) :
    Calls Try.prog 8 #[.int .i64 ps, .slice a len capo] w fun e w' => e = .returned (.bool true) ∧ Below w.heap.size w w' := by
  obtain ⟨f, hf⟩ := deedsAt_of h
  exact walk_QuotaPlays ps a len capo f w hf h.1
end Go.Proofs.Ytbhiinodejhggaa
