/- Contract of the law package's grown: a tree of groups, and their handles. Condition: the argument reads as a slice of bytes. -/
import Derived.Test.YtnbljnpfmeidfaaAw
import Derived.Test.YtnbljnpfmeidfaaFlat
namespace Go.Proofs.Ytnbljnpfmeidfaa
open Go Go.RowKit Go.ChangeShapes Go.WideShapes
set_option linter.unusedVariables false

theorem put_keep {s : Ps} {room : Int} {b : Nat} (ho : s.Ok room b) (x : Pay) {k : Nat} {q : Pl} (hq : s.l[k]? = some q) (hu : q.used = true) : (s.put room x).l[k]? = some q := by
  unfold Ps.put
  split
  · exact hq
  · have hc := ho.chain
    cases hst : s.st with
    | nil => simp only; rw [List.getElem?_append_left (List.getElem?_eq_some_iff.1 hq).1]; exact hq
    | cons j st =>
      rw [hst] at hc
      obtain ⟨hf, q0, hq0, hu0, hc'⟩ := hc
      have hij : j ≠ k := by
        rintro rfl
        rw [hq0] at hq
        cases hq
        rw [hu0] at hu
        cases hu
      simp only
      rw [List.getElem?_set_ne hij]; exact hq
theorem put_new {s : Ps} {room : Int} {b : Nat} (ho : s.Ok room b) (x : Pay) (hm : s.many ≠ room) : ∃ q, (s.put room x).l[s.putI room]? = some q ∧ q.used = true ∧ q.gen = s.putG room := by
  unfold Ps.put Ps.putI Ps.putG
  rw [if_neg hm, if_neg hm, if_neg hm]
  have hc := ho.chain
  cases hst : s.st with
  | nil => exact ⟨⟨x, 0, true, -1⟩, by simp, rfl, rfl⟩
  | cons j st =>
    rw [hst] at hc
    obtain ⟨hf, q0, hq0, hu0, hc'⟩ := hc
    exact ⟨_, List.getElem?_set_self (List.getElem?_eq_some_iff.1 hq0).1, rfl, rfl⟩
theorem cre_keep {s : Ps} {b : Nat} (ho : s.Ok 32 b) (i g : Int) {k : Nat} {q : Pl} (hq : s.l[k]? = some q) (hu : q.used = true) : (s.cre i g).l[k]? = some q := by
  unfold Ps.cre
  split
  · exact hq
  · split
    · exact hq
    · exact put_keep ho _ hq hu
theorem cre_new {s : Ps} {b : Nat} (ho : s.Ok 32 b) (i g : Int) (h : s.creE i g = 0) : ∃ q, (s.cre i g).l[s.creI i g]? = some q ∧ q.used = true ∧ q.gen = s.creG i g := by
  unfold Ps.creE at h
  unfold Ps.cre Ps.creI Ps.creG
  cases hk : s.find i g with
  | none => rw [hk] at h; simp at h
  | some k =>
    rw [hk] at h
    simp only at h ⊢
    by_cases hd : dep s.l k = 8
    · rw [if_pos hd] at h; simp at h
    · rw [if_neg hd] at h
      rw [if_neg hd, if_neg hd, if_neg hd]
      refine put_new ho _ ?_
      intro hm
      unfold Ps.putE at h
      rw [if_pos hm] at h
      simp at h
/-- each handle that was told names a group -/
def Told (s : Ps) (T : List (Nat × Int)) : Prop := ∀ x ∈ T, ∃ q, s.l[x.1]? = some q ∧ q.used = true ∧ q.gen = x.2
theorem Told.cre {s : Ps} {b : Nat} {T : List (Nat × Int)} (h : Told s T) (ho : s.Ok 32 b) (i g : Int) : Told (s.cre i g) T := by
  intro x hx
  obtain ⟨q, h1, h2, h3⟩ := h x hx
  exact ⟨q, cre_keep ho i g h1 h2, h2, h3⟩
theorem Told.creNew {s : Ps} {b : Nat} {T : List (Nat × Int)} (h : Told s T) (ho : s.Ok 32 b) (i g : Int) (he : s.creE i g = 0) : Told (s.cre i g) (T ++ [(s.creI i g, s.creG i g)]) := by
  intro x hx
  rcases List.mem_append.1 hx with hx | hx
  · exact h.cre ho i g x hx
  · rw [List.mem_singleton.1 hx]
    exact cre_new ho i g he
theorem Ps.Ok.le {s : Ps} {room : Int} {b c : Nat} (h : s.Ok room b) (hbc : b ≤ c) : s.Ok room c :=
  ⟨h.chain, h.nodup, Nat.le_trans h.len hbc, Nat.le_trans h.stl hbc, fun k q hq => by have := h.gens k q hq; omega, h.many, h.room, h.cnt⟩
/-- bytes in a slice -/
def BytesAt (w : World) (a : Option Addr) (len : Nat) (f : Nat → Nat) : Prop := ∀ j, j < len → ∃ b off, a = some ⟨b, off, none⟩ ∧ b < w.heap.size ∧ f j ≤ 255 ∧ w.cell? ⟨b, off + j, none⟩ = some (.int .u8 (f j : Nat))
theorem bytesAt_of {w : World} {a : Option Addr} {len : Nat} (h : FlatSlice [some .u8] w a len) : ∃ f, BytesAt w a len f := by
  have g : ∀ j, ∃ x : Nat, j < len → ∃ b off, a = some ⟨b, off, none⟩ ∧ b < w.heap.size ∧ x ≤ 255 ∧ w.cell? ⟨b, off + j, none⟩ = some (.int .u8 (x : Nat)) := by
    intro j
    by_cases hj : j < len
    · obtain ⟨b, off, v, h1, h2, h3, h4⟩ := flatSlice_int h j hj
      have hv := u8_of_wf h3
      exact ⟨v.toNat, fun _ => ⟨b, off, h1, h2, by omega, by rw [h4]; congr 2; omega⟩⟩
    · exact ⟨0, fun h => absurd h hj⟩
  exact ⟨fun j => (g j).choose, fun j hj => (g j).choose_spec hj⟩
theorem BytesAt.behind {w w' : World} {a : Option Addr} {len : Nat} {f : Nat → Nat} (h : BytesAt w a len f) (hb : Below w.heap.size w w') : BytesAt w' a len f := by
  intro j hj
  obtain ⟨b, off, h1, h2, h3, h4⟩ := h j hj
  exact ⟨b, off, h1, Nat.lt_of_lt_of_le h2 hb.size, h3, by rw [(bcell hb).1 b _ h2]; exact h4⟩
/-- a tree beside the handles that it told -/
structure Gro (w : World) (base t p : Nat) (s : Ps) (b : Nat) (v : Value) (T : List (Nat × Int)) : Prop where
  tree : TrX w base t p s
  ok : s.Ok 32 b
  tr : Tr s.l
  told : Told s T
  row : w.ownsRow base 30 2 v T.length (hcl T)
  pos : 0 < T.length
  len : T.length ≤ b
theorem Gro.behind {w w' : World} {base t p : Nat} {s : Ps} {b : Nat} {v : Value} {T : List (Nat × Int)} (h : Gro w base t p s b v T) (hb : Below w.heap.size w w') : Gro w' base t p s b v T :=
  ⟨h.tree.behind hb, h.ok, h.tr, h.told, ownsRow_below h.row hb, h.pos, h.len⟩
theorem TrX.notRow {w : World} {base t p : Nat} {s : Ps} (h : TrX w base t p s) (e : TypeId) (he : e ≠ 107) : ∀ cs fr, w.heap[p]? ≠ some (.cells cs e fr) := by
  obtain ⟨v, hp⟩ := h.has
  exact hp.notRow e he
theorem TrX.rebase {w : World} {base base2 t p : Nat} {s : Ps} (h : TrX w base t p s) (hb : base2 ≤ base) : TrX w base2 t p s :=
  ⟨h.tb, by obtain ⟨v, hp⟩ := h.has; exact ⟨v, ⟨hp.blk, row_base hp.own hb, hp.ne, by have := hp.lo; omega⟩⟩, by have := h.lo; omega⟩
theorem TrX.rowGrown {w w' : World} {base t p : Nat} {s : Ps} (h : TrX w base t p s) {vr : Value} (hg : w.grownBy w' vr.ownBlock) {base2 : Nat} {e : TypeId} {size n : Nat} {xs : List Value} (hr : w.ownsRow base2 e size vr n xs)
    (h1 : e ≠ 107) (h2 : e ≠ 104) (h3 : e ≠ 83) : TrX w' base t p s := by
  obtain ⟨v, hp⟩ := h.has
  exact ⟨grown_same hg hr h.tb (fun e' => h3 e'.symm), ⟨v, hp.rowGrown hg hr h1 h2⟩, h.lo⟩
set_option maxHeartbeats 4000000 in
set_option maxRecDepth 100000 in
theorem grown_any (a : Option Addr) (len capo : Nat) (f : Nat → Nat) (w : World) (h : BytesAt w a len f) (hlen : len ≤ 9223372036854775807) :
    Calls Try.prog 10 #[.slice a len capo] w fun e w' => ∃ t p s v T, e = .returned (.tuple #[.pointer (some ⟨t, 0, none⟩), v]) ∧ Gro w' w.heap.size t p s 41 v T ∧ Below w.heap.size w w' := by
  obtain ⟨i0, hi, hz0, hz1, hz2⟩ := info_parts rinfo_handle
  have HBY := Lib.hid h
  clear h
  go_enter Try.func10, Try.ntmps10
  go_wp2_with fail
  refine (new_any _).mono ?_
  rintro e w2 ⟨t, p, rfl, ht2, hzz2⟩
  have HB2 := Lib.hid hzz2
  have HT2 := Lib.hid ht2
  clear ht2 hzz2
  go_wp2_with fail
  have hg0 : Gro (w2.alloc (hbox 0 0)) w.heap.size t p ps0 1 (.slice (some ⟨w2.heap.size, 0, none⟩) 1 1) [(0, 0)] :=
    ⟨HT2.out.alloc _, ps0_ok, ps0_tr, by intro x hx; rw [List.mem_singleton.1 hx]; exact ⟨_, rfl, rfl, rfl⟩, row_base (World.ownsRow_lit w2 #[.int .i64 0, .int .i64 0] 1 (Nat.le_refl _) (by unfold maxLen; omega) (by simp)) HB2.out.size, by simp, by simp⟩
  have HG0 := Lib.hid hg0
  have HB0 := Lib.hid (HB2.out.alloc HB2.out.size (hbox 0 0))
  clear hg0
  go_loopg [5, 6] 40 (fun n vt vi wr => ∃ (k : Nat) (s : Ps) (v : Value) (T : List (Nat × Int)), vi = .int .i64 k ∧ vt = v ∧ k ≤ len ∧ k ≤ 40 ∧ 40 - k ≤ n ∧ Gro wr w.heap.size t p s (k + 1) v T ∧ Below w.heap.size w wr)
  case atStart => exact ⟨0, ps0, _, _, rfl, rfl, by omega, by omega, by omega, HG0.out, HB0.out⟩
  case round =>
    obtain ⟨k, s, v, T, rfl, rfl, hkl, hk40, hgn, hgr, hbr⟩ := hrel
    have HG := Lib.hid hgr; have HB := Lib.hid hbr; have HGN := Lib.hid hgn
    clear hgr hbr hgn HG0 HB0
    obtain ⟨ta, tc, hv⟩ := hrow_nil HG.out.row
    obtain ⟨m, hm⟩ : ∃ m, m = T.length := ⟨_, rfl⟩
    rw [← hm] at hv
    have HM := Lib.hid hm
    clear hm
    subst hv
    have hmp : 0 < m := by rw [HM.out]; exact HG.out.pos
    have hm41 : m ≤ 41 := by rw [HM.out]; have := HG.out.len; omega
    by_cases hkn : k < len ∧ k < 40
    · obtain ⟨hk1, hk2⟩ := hkn
      obtain ⟨bb, off, rfl, hbl, hf255, hbc⟩ := (HBY.out.behind HB.out) k hk1
      obtain ⟨x, hx⟩ : ∃ x, x = f k := ⟨_, rfl⟩
      rw [← hx] at hbc hf255
      have hrow := HG.out.row
      rw [← HM.out] at hrow
      obtain ⟨tt, rfl⟩ := hrow_some hrow hmp
      have hxm : x % m < m := Nat.mod_lt _ hmp
      obtain ⟨ih, hT2⟩ : ∃ ih, T[x % m]? = some ih := ⟨_, List.getElem?_eq_getElem (by rw [← HM.out]; exact hxm)⟩
      obtain ⟨hi1, hg1⟩ := ih
      obtain ⟨y0, y1, yl⟩ := hcl_cell hrow (x % m) hi1 hg1 hT2 hxm
      have HC := Lib.hid (create_any hi1 hg1 (k + 1) wr w.heap.size t p s HG.out.tree HG.out.ok (by omega) HG.out.tr)
      obtain ⟨s2, hs2⟩ : ∃ s2, s2 = s.cre hi1 hg1 := ⟨_, rfl⟩
      obtain ⟨ki, hki⟩ : ∃ ki, ki = s.creI hi1 hg1 := ⟨_, rfl⟩
      obtain ⟨kg, hkg⟩ : ∃ kg, kg = s.creG hi1 hg1 := ⟨_, rfl⟩
      obtain ⟨ke, hke⟩ : ∃ ke, ke = s.creE hi1 hg1 := ⟨_, rfl⟩
      have HOK : Hid (s2.Ok 32 (k + 1 + 1)) := Lib.hid (by rw [hs2]; exact HG.out.ok.cre _ _)
      have HTR : Hid (Tr s2.l) := Lib.hid (by rw [hs2]; exact HG.out.tr.cre HG.out.ok _ _)
      have HTO : Hid (Told s2 T) := Lib.hid (by rw [hs2]; exact HG.out.told.cre HG.out.ok _ _)
      have HTN : Hid (ke = 0 → Told s2 (T ++ [(ki, kg)])) := Lib.hid (by rw [hs2, hke, hki, hkg]; exact HG.out.told.creNew HG.out.ok _ _)
      rw [← hs2, ← hki, ← hkg, ← hke] at HC
      have HRW := Lib.hid hrow
      clear hs2 hki hkg hke hx hrow hT2
      go_wp2_with fail
      refine HC.out.mono ?_
      rintro e w4 ⟨rfl, ht4, hs4⟩
      have HT4 := Lib.hid (ht4.alloc (hbox ki kg))
      have hb4 := HB.out.trans hs4.below
      have HB4 := Lib.hid (hb4.alloc hb4.size (hbox ki kg))
      have HR4 := Lib.hid ((ownsRow_step HRW.out hs4 (by decide) (HG.out.tree.notRow _ (by decide))).alloc (hbox ki kg))
      have HY4 := Lib.hid (Hx.new w4 ki kg)
      clear ht4 hs4 hb4 y0 y1 yl hbc hbl HC
      obtain ⟨w5, hw5⟩ : ∃ w5, w5 = w4.alloc (hbox ki kg) := ⟨_, rfl⟩
      obtain ⟨yb, hyb⟩ : ∃ yb, yb = w4.heap.size := ⟨_, rfl⟩
      rw [← hw5] at HT4 HB4 HR4 HY4
      rw [← hyb] at HY4
      go_upto_region 9 with (fail)
      rw [show w4.alloc (Obj.cells #[Value.int IntKind.i64 ki, Value.int IntKind.i64 kg] 30) = w5 from hw5.symm, ← hyb]
      clear hw5 hyb
      by_cases hke : ke = 0
      · subst hke
        obtain ⟨y0, y1⟩ := HY4.out.c2
        have yl := HY4.out.lt
        have hzb := HB4.out.size
        go_wp2_with (at_builtin; go_loud (refine wpList_append_own _ rfl _ _ 26 rfl w.heap.size 30 i0 (.agg #[.int .i64 0, .int .i64 0]) 2 16 Try.underlying26 hi hz0 hz1 hz2 rfl (by decide) _ m (hcl T) rfl (HR4.out.alloc _) ⟨w5.heap.size, 0, none⟩ 1 1 [.int .i64 ki, .int .i64 kg] rfl rfl ?c1 ?c2 ?c3 ?c4 ?c5 ?_))
        try case c1 =>
          intro jj u hj'
          have hj0 : jj = 0 ∨ jj = 1 := by have := (List.getElem?_eq_some_iff.1 hj').1; simp at this; omega
          rcases hj0 with rfl | rfl
          · simp at hj'
            subst hj'
            simp [go_sem]
          · simp at hj'
            subst hj'
            simp [go_sem]
        case c2 => first | (intro u hu; simp at hu; rcases hu with rfl | rfl <;> rfl) | exact ⟨rfl, rfl⟩
        case c3 => unfold maxLen; omega
        case c4 => omega
        case c5 => first | omega | (simp; omega)
        intro v6 w6 hown6 hgrow6 _
        have HG6 : Hid (Gro w6 w.heap.size t p s2 (k + 1 + 1) v6 (T ++ [(ki, kg)])) := Lib.hid
          ⟨(HT4.out.alloc _).rowGrown hgrow6 (HR4.out.alloc _) (by decide) (by decide) (by decide), HOK.out, HTR.out, HTN.out trivial, by
            rw [hcl_app] at hown6
            rw [List.length_append, ← HM.out]; exact hown6, by simp, by have := HG.out.len; simp; omega⟩
        have HB6 := Lib.hid (Below.grown (HB4.out.alloc hzb (hbox ki kg)) hgrow6 (by simp; omega) (fun kk hk' => (HR4.out.lt kk hk').1))
        clear hown6 hgrow6
        go_wp2_with fail
        go_roundg (40 - (k + 1))
        case measure => have := HGN.out; omega
        case rel => exact ⟨k + 1, s2, v6, _, by go_num, rfl, by omega, by omega, Nat.le_refl _, HG6.out, HB6.out⟩
      · have HKE := Lib.hid hke
        go_wp2_with fail
        go_roundg (40 - (k + 1))
        case measure => have := HGN.out; omega
        case rel => exact ⟨k + 1, s2, _, T, by go_num, rfl, by omega, by omega, Nat.le_refl _, ⟨HT4.out, HOK.out, HTR.out, HTO.out, by rw [← HM.out]; exact HR4.out, HG.out.pos, by have := HG.out.len; omega⟩, HB4.out⟩
    · by_cases hk1 : k < len
      · have hk2 : ¬ k < 40 := fun h => hkn ⟨hk1, h⟩
        clear hkn
        go_wp2
        go_ret2
        exact ⟨t, p, s, _, T, rfl, ⟨HG.out.tree, by have := HG.out.ok; rwa [show k = 40 by omega] at this, HG.out.tr, HG.out.told, by rw [← HM.out]; have := HG.out.row; rwa [← HM.out] at this, HG.out.pos, by have := HG.out.len; omega⟩, HB.out⟩
      · clear hkn
        go_wp2
        go_ret2
        exact ⟨t, p, s, _, T, rfl, ⟨HG.out.tree, HG.out.ok.le (by omega), HG.out.tr, HG.out.told, by rw [← HM.out]; have := HG.out.row; rwa [← HM.out] at this, HG.out.pos, by have := HG.out.len; omega⟩, HB.out⟩
end Go.Proofs.Ytnbljnpfmeidfaa
