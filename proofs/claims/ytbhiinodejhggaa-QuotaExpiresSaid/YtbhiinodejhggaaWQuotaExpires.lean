/- The walk of the law QuotaExpires: it returns true. Condition: the last argument reads as a slice of Serve. -/
import Derived.Test.YtbhiinodejhggaaServes
namespace Go.Proofs.Ytbhiinodejhggaa
open Go Go.RowKit Go.ChangeShapes Go.WideShapes
set_option linter.unusedVariables false

theorem info_int64 : (Try.prog.info? 2).map (fun i => (i.zero, i.size, i.bytes)) = some (some (.int .i64 0), 1, 8) := by kernel_rfl
def ics (l : List Int) (k : Nat) : List Value := (l.take k).map (Value.int .i64)
theorem ics_succ (b : Bd) (k : Nat) (h : k < b.l.length) : ics b.l k ++ [.int .i64 (b.at k)] = ics b.l (k + 1) := by
  unfold ics
  rw [List.take_succ_eq_append_getElem h, List.map_append, Bd.at_of (List.getElem?_eq_getElem h)]
  rfl
theorem ics_get (b : Bd) (n k : Nat) (hk : k < n) (h : n ≤ b.l.length) : (ics b.l n)[k]? = some (.int .i64 (b.at k)) := by
  unfold ics
  rw [List.getElem?_map, List.getElem?_take_of_lt hk, Bd.at_get (by omega)]
  rfl
theorem refill_at (b : Bd) (k : Nat) (h : k < b.l.length) : b.refill.at k = min (b.at k) 0 := Bd.at_of (by
  show (b.l.map (fun x => min x 0))[k]? = _
  rw [List.getElem?_map, Bd.at_get h]; rfl)
theorem ownsRow_tch {w w' : World} {base p : Nat} {e : TypeId} {size : Nat} {v : Value} {n : Nat} {xs : List Value} (h : w.ownsRow base e size v n xs) (t : Tch (· = p) w w') (hp : v.ownBlock ≠ some p) : w'.ownsRow base e size v n xs := by
  refine ⟨h.1, ?_⟩
  rcases h.2 with hn | ⟨g, cap, cur, hv, hb, hh, hr⟩
  · exact .inl hn
  · exact .inr ⟨g, cap, cur, hv, hb, by rw [t.block g (Array.getElem?_eq_some_iff.1 hh).1 (fun e => hp (by rw [hv, ← e]; rfl))]; exact hh, hr⟩
theorem ownsRow_ne {w : World} {base p : Nat} {v : Value} {n : Nat} {xs : List Value} {b : Bd} (h : w.ownsRow base 2 1 v n xs) (hb : HasBand w p b) : v.ownBlock ≠ some p := by
  rcases h.2 with ⟨rfl, _⟩ | ⟨g, cap, cur, rfl, _, hh, _⟩
  · simp [Value.ownBlock]
  · intro e
    simp [Value.ownBlock] at e
    subst e
    have := hb.blk
    rw [hh] at this
    simp only [Option.some.injEq, Obj.cells.injEq] at this
    exact absurd this.2.1 (by decide)
theorem row_nil {w : World} {base : Nat} {e : TypeId} {size : Nat} {v : Value} {n : Nat} {xs : List Value} (h : w.ownsRow base e size v n xs) : ∃ a cap, v = .slice a n cap := by
  rcases h.2 with ⟨hv, hn⟩ | ⟨t, cf, cur, hv, _⟩
  · exact ⟨none, 0, by rw [hv, hn]⟩
  · exact ⟨_, _, hv⟩
theorem row_some {w : World} {base : Nat} {e : TypeId} {size : Nat} {v : Value} {n : Nat} {xs : List Value} (h : w.ownsRow base e size v n xs) (h0 : 0 < n) : ∃ t cap, v = .slice (some ⟨t, 0, none⟩) n cap := by
  rcases h.2 with ⟨hv, hn⟩ | ⟨t, cf, cur, hv, _⟩
  · omega
  · exact ⟨_, _, hv⟩
theorem Good.drewN {w : World} {p n : Nat} {q s d began : Int} {b : Bd} (g : Good w p n q s d began b) (k : Nat) : Good (w.drewN k) p n q s d began b := ⟨g.has.drewN k, g.inv⟩
set_option maxHeartbeats 4000000 in
set_option maxRecDepth 100000 in
theorem walk_QuotaExpires (ps t0 t1 : Nat) (a : Option Addr) (len capo : Nat) (f : Nat → Srv) (w : World) (hps : ps ≤ 255) (h0 : t0 ≤ 4294967295) (h1 : t1 ≤ 4294967295) (h : ServesAt w a len f) (hlen : len ≤ 9223372036854775807) :
    Calls Try.prog 7 #[.int .u8 ps, .agg #[.int .u32 t0, .int .u32 t1], .slice a len capo] w fun e w' => e = .returned (.bool true) ∧ Below w.heap.size w w' := by
  obtain ⟨i0, hi, hq0, hq1, hq2⟩ := info_parts info_int64
  have HE := Lib.hid h; clear h
  go_enter Try.func7, Try.ntmps7
  go_wp2_with fail
  refine (awake _).mono ?_
  rintro e w1 ⟨rfl, hz1⟩
  have hx : w1.heap[w.heap.size]? = some (.cells #[.int .u32 t0, .int .u32 t1] 23 (0, 0)) := by
    rw [hz1.block w.heap.size (by simp)]; exact heap_alloc_new w _
  have x0 : w1.cell? ⟨w.heap.size, 0, none⟩ = some (.int .u32 t0) := by simp [World.cell?, hx]
  have x1 : w1.cell? ⟨w.heap.size, 1, none⟩ = some (.int .u32 t1) := by simp [World.cell?, hx]
  have HX1 := Lib.hid hx
  have hxl := (Array.getElem?_eq_some_iff.1 hx).1
  have HZ1 := Lib.hid (((Below.refl w.heap.size w).alloc (Nat.le_refl _) (.cells #[.int .u32 t0, .int .u32 t1] 23)).trans (below_le hz1 (by simp)))
  clear hz1 hx
  go_wp2_with fail
  refine (set_law ps t0 t1 _ h0 h1 hps).mono ?_
  rintro e w2 ⟨p, rfl, hp, hb2, hz2⟩
  have HX2 : Hid (w2.heap[w.heap.size]? = some (.cells #[.int .u32 t0, .int .u32 t1] 23 (0, 0))) := Lib.hid (by rw [hz2.block w.heap.size hxl]; exact HX1.out)
  have hz2' := hz2.size
  have hsz2b : w.heap.size < w2.heap.size := by omega
  have HZ2 := Lib.hid (HZ1.out.trans (below_le hz2 (by omega)))
  have hpm : ps % 8 < 8 := Nat.mod_lt _ (by decide)
  obtain ⟨n, hn⟩ : ∃ n : Nat, n = 1 + ps % 8 := ⟨_, rfl⟩
  have hnl : n ≤ 8 := by omega
  have t : Terms n (1 + t0) (1 + t1) 1000000 0 := ⟨by omega, by omega, by omega, by omega, by omega, by omega⟩
  have HG := Lib.hid (good_start _ _ _ _ _ _ (by rw [hn]; exact hb2) t)
  have HT := Lib.hid t
  have HN := Lib.hid hn
  have hpb : w.heap.size < p := by omega
  clear hb2 hz2 x0 x1 hz2' hn t
  go_wp2_with fail
  go_loopw [9] (fun i wr => ∃ (k : Nat) (b : Bd) (began : Int), k ≤ len ∧ k ≤ 100 ∧ i = .int .i64 k ∧ Good wr p n (1 + t0) (1 + t1) 1000000 began b ∧ Terms n (1 + t0) (1 + t1) 1000000 began ∧ Below w.heap.size w wr ∧ wr.heap[w.heap.size]? = some (.cells #[.int .u32 t0, .int .u32 t1] 23 (0, 0))) (fun i _ => 100 - (intOf i).toNat)
  case atStart => exact ⟨0, _, 0, by omega, by omega, rfl, HG.out, HT.out, HZ2.out, HX2.out⟩
  case round =>
    obtain ⟨k, b, began, hk, hk2, rfl, hg, ht, hb, hxr⟩ := hrel
    have HGr := Lib.hid hg; have HTr := Lib.hid ht; have HBr := Lib.hid hb; have HXr := Lib.hid hxr
    have hzr := hb.size
    clear hg ht hb hxr
    by_cases hlt : k < len
    · by_cases hlt1 : k < 100
      · skip
        obtain ⟨bo, off, rfl, hbo, hP, hns, hc⟩ := HE.out k hlt
        obtain ⟨hc0, hc1, hc2⟩ : wr.cell? ⟨bo, off + k * 3, none⟩ = some (.int .i64 (f k).kd) ∧ wr.cell? ⟨bo, off + k * 3 + 1, none⟩ = some (.int .u8 (f k).P) ∧ wr.cell? ⟨bo, off + k * 3 + 2, none⟩ = some (.int .u32 (f k).ns) := by
          rw [HBr.out.cell (p := ⟨bo, off + k * 3, none⟩) hbo, HBr.out.cell (p := ⟨bo, off + k * 3 + 1, none⟩) hbo, HBr.out.cell (p := ⟨bo, off + k * 3 + 2, none⟩) hbo]; exact hc
        have hbr : bo < wr.heap.size := by omega
        have HC := Lib.hid hc
        clear hc
        generalize f k = x at *
        obtain ⟨kd, P, ns⟩ := x
        simp only at hP hns hc0 hc1 hc2 HC
        go_wp2_with fail
        refine (serve_law kd P ns ps _ p n _ _ 1000000 began b HGr.out HTr.out HN.out hps hP hns).mono ?_
        rintro e w3 ⟨rfl, hg3, ht3⟩
        have HG3 := Lib.hid hg3
        have HB3 := Lib.hid (Good.below HBr.out ht3 (Nat.le_of_lt hpb) (Nat.le_refl _))
        have HX3 : Hid (w3.heap[w.heap.size]? = some (.cells #[.int .u32 t0, .int .u32 t1] 23 (0, 0))) := Lib.hid (by rw [ht3.block w.heap.size (Array.getElem?_eq_some_iff.1 HXr.out).1 (by omega)]; exact HXr.out)
        clear hg3 ht3 hc0 hc1 hc2
        go_wp2_with fail
        go_roundw
        case rel => exact ⟨k + 1, _, _, by omega, by omega, by go_num, HG3.out, HTr.out, HB3.out, HX3.out⟩
        case measure => simp [intOf]; omega
      · obtain ⟨wo, rfl⟩ : ∃ wo : World, wo = wr := ⟨_, rfl⟩
        obtain ⟨n1, n2⟩ := HTr.out.hn
        have HSm := Lib.hid (HGr.out.inv.small HTr.out)
        have HLn : Hid (b.l.length = n) := Lib.hid HGr.out.inv.len
        go_wp2_with fail
        go_loopw [10, 11] (fun vt i wy => ∃ j : Nat, j ≤ n ∧ i = .int .i64 j ∧ Good wy p n (1 + t0) (1 + t1) 1000000 began b ∧ wy.ownsRow w.heap.size 2 1 vt j (ics b.l j) ∧ Below w.heap.size w wy ∧ wy.heap[w.heap.size]? = some (.cells #[.int .u32 t0, .int .u32 t1] 23 (0, 0))) (fun _ i _ => n - (intOf i).toNat)
        case atStart => exact ⟨0, by omega, rfl, HGr.out, World.ownsRow_nil _ _ _ _, HBr.out, HXr.out⟩
        case round =>
          obtain ⟨j, hj, rfl, hg, ho, hb, hx⟩ := hrel
          have HGy := Lib.hid hg; have HBy := Lib.hid hb; have HXy := Lib.hid hx; have HOy := Lib.hid ho
          have hzy := hb.size
          obtain ⟨av, cv, hvt0⟩ := row_nil HOy.out
          subst hvt0
          clear hg ho hb hx
          by_cases hjn : j < n
          · have hlt' : (j : Int) < 1 + (ps : Int) % 8 := by have := HN.out; omega
            have hjl : j < b.l.length := by rw [HLn.out]; exact hjn
            go_wp2_with (first | (go_at_call 14; refine (local_k j _ _ _ HGy.out.has hjl).mono ?_; rintro e w5 ⟨rfl, rfl⟩) | (at_builtin; go_loud (refine wpList_append_own _ rfl _ _ 40 rfl w.heap.size 2 i0 (.int .i64 0) 1 8 Try.underlying40 hi hq0 hq1 hq2 rfl (by decide) _ j (ics b.l j) rfl (HOy.out.alloc _) ⟨wr.heap.size, 0, none⟩ 1 1 [.int .i64 (b.at j)] rfl rfl ?c1 ?c2 ?c3 ?c4 ?c5 ?_)))
            case c1 =>
              intro jj u hj'
              have hj0 : jj = 0 := by have := (List.getElem?_eq_some_iff.1 hj').1; simp at this; omega
              subst hj0
              simp at hj'
              subst hj'
              simp [go_sem]
            case c2 => intro u hu; simp at hu; rcases hu with rfl; rfl
            case c3 => unfold maxLen; omega
            case c4 => omega
            case c5 => simp; omega
            intro v6 w6 hown6 hgrow6 _
            have hne := ownsRow_ne HOy.out HGy.out.has
            have HG6 : Hid (Good w6 p n (1 + t0) (1 + t1) 1000000 began b) := Lib.hid ⟨(HGy.out.has.alloc _).kept (hgrow6.block p (HGy.out.has.alloc _).lt (fun e => hne e.symm)), HGy.out.inv⟩
            have HB6 := Lib.hid ((HBy.out.alloc hzy (.cells #[.int .i64 (b.at j)] 2)).grown hgrow6 (by simp; omega) (fun kk hk' => (HOy.out.lt kk hk').1))
            have HX6 : Hid (w6.heap[w.heap.size]? = some (.cells #[.int .u32 t0, .int .u32 t1] 23 (0, 0))) := Lib.hid (by
              have hl := (Array.getElem?_eq_some_iff.1 HXy.out).1
              rw [hgrow6.block w.heap.size (by simp; omega) (fun e => by
                rcases HOy.out.2 with ⟨hv, _⟩ | ⟨g, cap, cur, hv, _, hh, _⟩
                · rw [hv] at e; simp [Value.ownBlock] at e
                · rw [hv] at e; simp [Value.ownBlock] at e; rw [← e] at hh; rw [HXy.out] at hh; simp only [Option.some.injEq, Obj.cells.injEq] at hh; exact absurd hh.2.1 (by decide)), Below.heap_alloc _ _ _ hl]
              exact HXy.out)
            rw [ics_succ b j hjl] at hown6
            have HO6 := Lib.hid hown6
            clear hown6 hgrow6 hne
            go_wp2_with fail
            go_roundw
            case rel => exact ⟨j + 1, by omega, by go_num, HG6.out, HO6.out, HB6.out, HX6.out⟩
            case measure => simp [intOf]; omega
          · have hlt' : ¬ (j : Int) < 1 + (ps : Int) % 8 := by have := HN.out; omega
            obtain rfl : j = n := by omega
            obtain ⟨g, cg, hvt⟩ := row_some HOy.out n1
            cases hvt
            go_wp2_with fail
            refine (refill_any _ _ _ HGy.out.has).mono ?_
            rintro e w3 ⟨rfl, hb3, ht3⟩
            obtain ⟨hi3, hT3⟩ := HGy.out.inv.refill HTr.out
            have HG3 : Hid (Good w3 p j (1 + t0) (1 + t1) 1000000 _ b.refill) := Lib.hid ⟨hb3, hi3⟩
            have HB3 := Lib.hid (Good.below HBy.out ht3 (Nat.le_of_lt hpb) (Nat.le_refl _))
            have HX3 : Hid (w3.heap[w.heap.size]? = some (.cells #[.int .u32 t0, .int .u32 t1] 23 (0, 0))) := Lib.hid (by rw [ht3.block w.heap.size (Array.getElem?_eq_some_iff.1 HXy.out).1 (by omega)]; exact HXy.out)
            have HO3 := Lib.hid (ownsRow_tch HOy.out ht3 (ownsRow_ne HOy.out HGy.out.has))
            clear hb3 ht3 hT3 hi3
            go_wp2_with fail
            obtain ⟨wo2, rfl⟩ : ∃ wo2 : World, wo2 = wr := ⟨_, rfl⟩
            go_loopw [12] (fun i wz => ∃ m : Nat, m ≤ j ∧ i = .int .i64 m ∧ HasBand wz p b.refill ∧ wz.ownsRow w.heap.size 2 1 (.slice (some ⟨g, 0, none⟩) j cv) j (ics b.l j) ∧ Below w.heap.size w wz ∧ wz.heap[w.heap.size]? = some (.cells #[.int .u32 t0, .int .u32 t1] 23 (0, 0))) (fun i _ => j - (intOf i).toNat)
            case atStart => exact ⟨0, by omega, rfl, HG3.out.has, HO3.out, HB3.out, HX3.out⟩
            case round =>
              obtain ⟨m, hm, rfl, hg, ho, hb, hx⟩ := hrel
              have HGz := Lib.hid hg; have HBz := Lib.hid hb; have HXz := Lib.hid hx; have HOz := Lib.hid ho
              clear hg ho hb hx
              by_cases hmj : m < j
              · have hml : m < b.l.length := by rw [HLn.out]; exact hmj
                have hmr : m < b.refill.l.length := by show m < (b.l.map _).length; simpa using hml
                have hc : wr.cell? ⟨g, m, none⟩ = some (.int .i64 (b.at m)) := by
                  rw [HOz.out.cellAt m (by omega)]
                  exact ics_get b j m hmj (by rw [HLn.out]; exact Nat.le_refl _)
                have hgl := (HOz.out.lt g rfl).2
                have hat : (b.refill.at m != min (b.at m) 0) = false := by rw [refill_at b m hml]; simp
                go_wp2_with fail
                go_quiet ((go_at_call 14; exact Calls.quiet_of_same ((local_k m _ _ _ (HGz.out.drewN _) hmr).mono fun _ _ h => ⟨h.1, h.2.symm⟩)))
                go_wp2_with fail
                go_roundw
                case rel => exact ⟨m + 1, by omega, by go_num, HGz.out.drewN _, HOz.out, below_drewN HBz.out _, HXz.out⟩
                case measure => simp [intOf]; omega
              · have hx0 : wr.cell? ⟨w.heap.size, 0, none⟩ = some (.int .u32 t0) := by simp [World.cell?, HXz.out]
                have hsz3 : w.heap.size < wr.heap.size := (Array.getElem?_eq_some_iff.1 HXz.out).1
                have hpool : (b.refill.pool == 1 + (t0 : Int)) = true := beq_iff_eq.2 HGr.out.inv.hq
                have hsp : (b.refill.spent == 0) = true := rfl
                have e1 : IntKind.i64.wrap (1 + (t0 : Int)) = 1 + (t0 : Int) := IntWalk.i64_in _ (by omega)
                have e5 : 0 ≤ t0 ∧ (t0 : Int) ≤ 4294967295 := by omega
                go_wp2_with fail
                go_quiet (first | (go_at_call 12; exact Calls.quiet_of_same ((pool_any _ _ _ (HGz.out.drewN _)).mono fun _ _ h => ⟨h.1, h.2.symm⟩)) | (go_at_call 18; exact Calls.quiet_of_same ((spent_any _ _ _ (HGz.out.drewN _)).mono fun _ _ h => ⟨h.1, h.2.symm⟩)))
                clear e1
                go_wp2
                go_ret
                exact ⟨rfl, below_drewN HBz.out _⟩
    · obtain ⟨wo, rfl⟩ : ∃ wo : World, wo = wr := ⟨_, rfl⟩
      obtain ⟨n1, n2⟩ := HTr.out.hn
      have HSm := Lib.hid (HGr.out.inv.small HTr.out)
      have HLn : Hid (b.l.length = n) := Lib.hid HGr.out.inv.len
      go_wp2_with fail
      go_loopw [10, 11] (fun vt i wy => ∃ j : Nat, j ≤ n ∧ i = .int .i64 j ∧ Good wy p n (1 + t0) (1 + t1) 1000000 began b ∧ wy.ownsRow w.heap.size 2 1 vt j (ics b.l j) ∧ Below w.heap.size w wy ∧ wy.heap[w.heap.size]? = some (.cells #[.int .u32 t0, .int .u32 t1] 23 (0, 0))) (fun _ i _ => n - (intOf i).toNat)
      case atStart => exact ⟨0, by omega, rfl, HGr.out, World.ownsRow_nil _ _ _ _, HBr.out, HXr.out⟩
      case round =>
        obtain ⟨j, hj, rfl, hg, ho, hb, hx⟩ := hrel
        have HGy := Lib.hid hg; have HBy := Lib.hid hb; have HXy := Lib.hid hx; have HOy := Lib.hid ho
        have hzy := hb.size
        obtain ⟨av, cv, hvt0⟩ := row_nil HOy.out
        subst hvt0
        clear hg ho hb hx
        by_cases hjn : j < n
        · have hlt' : (j : Int) < 1 + (ps : Int) % 8 := by have := HN.out; omega
          have hjl : j < b.l.length := by rw [HLn.out]; exact hjn
          go_wp2_with (first | (go_at_call 14; refine (local_k j _ _ _ HGy.out.has hjl).mono ?_; rintro e w5 ⟨rfl, rfl⟩) | (at_builtin; go_loud (refine wpList_append_own _ rfl _ _ 40 rfl w.heap.size 2 i0 (.int .i64 0) 1 8 Try.underlying40 hi hq0 hq1 hq2 rfl (by decide) _ j (ics b.l j) rfl (HOy.out.alloc _) ⟨wr.heap.size, 0, none⟩ 1 1 [.int .i64 (b.at j)] rfl rfl ?c1 ?c2 ?c3 ?c4 ?c5 ?_)))
          case c1 =>
            intro jj u hj'
            have hj0 : jj = 0 := by have := (List.getElem?_eq_some_iff.1 hj').1; simp at this; omega
            subst hj0
            simp at hj'
            subst hj'
            simp [go_sem]
          case c2 => intro u hu; simp at hu; rcases hu with rfl; rfl
          case c3 => unfold maxLen; omega
          case c4 => omega
          case c5 => simp; omega
          intro v6 w6 hown6 hgrow6 _
          have hne := ownsRow_ne HOy.out HGy.out.has
          have HG6 : Hid (Good w6 p n (1 + t0) (1 + t1) 1000000 began b) := Lib.hid ⟨(HGy.out.has.alloc _).kept (hgrow6.block p (HGy.out.has.alloc _).lt (fun e => hne e.symm)), HGy.out.inv⟩
          have HB6 := Lib.hid ((HBy.out.alloc hzy (.cells #[.int .i64 (b.at j)] 2)).grown hgrow6 (by simp; omega) (fun kk hk' => (HOy.out.lt kk hk').1))
          have HX6 : Hid (w6.heap[w.heap.size]? = some (.cells #[.int .u32 t0, .int .u32 t1] 23 (0, 0))) := Lib.hid (by
            have hl := (Array.getElem?_eq_some_iff.1 HXy.out).1
            rw [hgrow6.block w.heap.size (by simp; omega) (fun e => by
              rcases HOy.out.2 with ⟨hv, _⟩ | ⟨g, cap, cur, hv, _, hh, _⟩
              · rw [hv] at e; simp [Value.ownBlock] at e
              · rw [hv] at e; simp [Value.ownBlock] at e; rw [← e] at hh; rw [HXy.out] at hh; simp only [Option.some.injEq, Obj.cells.injEq] at hh; exact absurd hh.2.1 (by decide)), Below.heap_alloc _ _ _ hl]
            exact HXy.out)
          rw [ics_succ b j hjl] at hown6
          have HO6 := Lib.hid hown6
          clear hown6 hgrow6 hne
          go_wp2_with fail
          go_roundw
          case rel => exact ⟨j + 1, by omega, by go_num, HG6.out, HO6.out, HB6.out, HX6.out⟩
          case measure => simp [intOf]; omega
        · have hlt' : ¬ (j : Int) < 1 + (ps : Int) % 8 := by have := HN.out; omega
          obtain rfl : j = n := by omega
          obtain ⟨g, cg, hvt⟩ := row_some HOy.out n1
          cases hvt
          go_wp2_with fail
          refine (refill_any _ _ _ HGy.out.has).mono ?_
          rintro e w3 ⟨rfl, hb3, ht3⟩
          obtain ⟨hi3, hT3⟩ := HGy.out.inv.refill HTr.out
          have HG3 : Hid (Good w3 p j (1 + t0) (1 + t1) 1000000 _ b.refill) := Lib.hid ⟨hb3, hi3⟩
          have HB3 := Lib.hid (Good.below HBy.out ht3 (Nat.le_of_lt hpb) (Nat.le_refl _))
          have HX3 : Hid (w3.heap[w.heap.size]? = some (.cells #[.int .u32 t0, .int .u32 t1] 23 (0, 0))) := Lib.hid (by rw [ht3.block w.heap.size (Array.getElem?_eq_some_iff.1 HXy.out).1 (by omega)]; exact HXy.out)
          have HO3 := Lib.hid (ownsRow_tch HOy.out ht3 (ownsRow_ne HOy.out HGy.out.has))
          clear hb3 ht3 hT3 hi3
          go_wp2_with fail
          obtain ⟨wo2, rfl⟩ : ∃ wo2 : World, wo2 = wr := ⟨_, rfl⟩
          go_loopw [12] (fun i wz => ∃ m : Nat, m ≤ j ∧ i = .int .i64 m ∧ HasBand wz p b.refill ∧ wz.ownsRow w.heap.size 2 1 (.slice (some ⟨g, 0, none⟩) j cv) j (ics b.l j) ∧ Below w.heap.size w wz ∧ wz.heap[w.heap.size]? = some (.cells #[.int .u32 t0, .int .u32 t1] 23 (0, 0))) (fun i _ => j - (intOf i).toNat)
          case atStart => exact ⟨0, by omega, rfl, HG3.out.has, HO3.out, HB3.out, HX3.out⟩
          case round =>
            obtain ⟨m, hm, rfl, hg, ho, hb, hx⟩ := hrel
            have HGz := Lib.hid hg; have HBz := Lib.hid hb; have HXz := Lib.hid hx; have HOz := Lib.hid ho
            clear hg ho hb hx
            by_cases hmj : m < j
            · have hml : m < b.l.length := by rw [HLn.out]; exact hmj
              have hmr : m < b.refill.l.length := by show m < (b.l.map _).length; simpa using hml
              have hc : wr.cell? ⟨g, m, none⟩ = some (.int .i64 (b.at m)) := by
                rw [HOz.out.cellAt m (by omega)]
                exact ics_get b j m hmj (by rw [HLn.out]; exact Nat.le_refl _)
              have hgl := (HOz.out.lt g rfl).2
              have hat : (b.refill.at m != min (b.at m) 0) = false := by rw [refill_at b m hml]; simp
              go_wp2_with fail
              go_quiet ((go_at_call 14; exact Calls.quiet_of_same ((local_k m _ _ _ (HGz.out.drewN _) hmr).mono fun _ _ h => ⟨h.1, h.2.symm⟩)))
              go_wp2_with fail
              go_roundw
              case rel => exact ⟨m + 1, by omega, by go_num, HGz.out.drewN _, HOz.out, below_drewN HBz.out _, HXz.out⟩
              case measure => simp [intOf]; omega
            · have hx0 : wr.cell? ⟨w.heap.size, 0, none⟩ = some (.int .u32 t0) := by simp [World.cell?, HXz.out]
              have hsz3 : w.heap.size < wr.heap.size := (Array.getElem?_eq_some_iff.1 HXz.out).1
              have hpool : (b.refill.pool == 1 + (t0 : Int)) = true := beq_iff_eq.2 HGr.out.inv.hq
              have hsp : (b.refill.spent == 0) = true := rfl
              have e1 : IntKind.i64.wrap (1 + (t0 : Int)) = 1 + (t0 : Int) := IntWalk.i64_in _ (by omega)
              have e5 : 0 ≤ t0 ∧ (t0 : Int) ≤ 4294967295 := by omega
              go_wp2_with fail
              go_quiet (first | (go_at_call 12; exact Calls.quiet_of_same ((pool_any _ _ _ (HGz.out.drewN _)).mono fun _ _ h => ⟨h.1, h.2.symm⟩)) | (go_at_call 18; exact Calls.quiet_of_same ((spent_any _ _ _ (HGz.out.drewN _)).mono fun _ _ h => ⟨h.1, h.2.symm⟩)))
              clear e1
              go_wp2
              go_ret
              exact ⟨rfl, below_drewN HBz.out _⟩
theorem walk_QuotaExpires' (ps : Int) (cs : List Value) (a : Option Addr) (len capo : Nat) (w : World) (hps : (Lit.int .u8 ps).wf = true) (hcs : Flat [some .u32, some .u32] cs) (h : FlatSlice [some .i64, some .u8, some .u32] w a len) :
    Calls Try.prog 7 #[.int .u8 ps, .agg ⟨cs⟩, .slice a len capo] w fun e w' => e = .returned (.bool true) ∧ Below w.heap.size w w' := by
  obtain ⟨t0, t1, rfl, u0, u1⟩ := flat_int2 hcs
  obtain ⟨m0, rfl, e0⟩ := u32_nat u0
  obtain ⟨m1, rfl, e1⟩ := u32_nat u1
  obtain ⟨m, rfl, e⟩ := u8_nat hps
  obtain ⟨f, hf⟩ := servesAt_of h
  exact walk_QuotaExpires m m0 m1 a len capo f w e e0 e1 hf h.1
end Go.Proofs.Ytbhiinodejhggaa
