/- Contracts of the document's pool, doleref05: Put where a new place is made. Conditions: the rows are as long as one another. -/
import Derived.Test.YtnbljnpfmeidfaaRefQ
namespace Go.Proofs.Ytnbljnpfmeidfaa
open Go Go.RowKit Go.ChangeShapes Go.WideShapes
set_option linter.unusedVariables false

def Rp.grow (r : Rp) (x : Int) : Rp := { r with vals := r.vals ++ [x], used := r.used ++ [true], gens := r.gens ++ [0] }
theorem set_last {α : Type} (l : List α) (a b : α) : (l ++ [a]).set l.length b = l ++ [b] := by rw [List.set_append_right _ _ (Nat.le_refl _)]; simp
set_option maxHeartbeats 4000000 in
set_option maxRecDepth 100000 in
theorem rput_grow (x : Int) (w : World) (r : Rp) (a1 : Option Addr) (c1 : Nat) (a2 : Option Addr) (c2 : Nat) (a3 : Option Addr) (c3 : Nat) (a4 : Option Addr) (c4 : Nat) (h : RefP w r a1 c1 a2 c2 a3 c3 a4 c4) (ho : r.Ok) (hf : r.freed.length = 0) (hr : (r.vals.length : Int) < r.room) (hl : r.vals.length ≤ 4999) :
    Calls Try.prog 42 #[.agg (pcells r a1 c1 a2 c2 a3 c3 a4 c4), .int .i64 x] w fun e w' => ∃ g1 d1 g2 d2 g3 d3 g4 d4, e = .returned (.tuple #[.agg (pcells (r.grow x) (some ⟨g1, 0, none⟩) d1 (some ⟨g2, 0, none⟩) d2 (some ⟨g3, 0, none⟩) d3 (some ⟨g4, 0, none⟩) d4), .agg #[.int .i64 (r.vals.length : Nat), .int .i64 0], .int .i64 0]) ∧ RefP w' (r.grow x) (some ⟨g1, 0, none⟩) d1 (some ⟨g2, 0, none⟩) d2 (some ⟨g3, 0, none⟩) d3 (some ⟨g4, 0, none⟩) d4 ∧ Below w.heap.size w w' := by
  obtain ⟨i0, hi0, hq0, hq1, hq2⟩ := info_parts rinfo_int
  obtain ⟨j0, hj0, hr0, hr1, hr2⟩ := info_parts rinfo_bool
  have HR := Lib.hid h
  have b1 := ho.vals
  have hlu := ho.lu
  have hlg := ho.lg
  have b2 : r.used.length ≤ 4999 := by omega
  have b3 : r.gens.length ≤ 4999 := by omega
  have HLU := Lib.hid hlu
  have HLG := Lib.hid hlg
  have h0 : ((r.freed.length : Int) == 0) = true := beq_iff_eq.2 (by omega)
  have h00 : r.freed.length ≤ 0 := by omega
  have h1 : decide (r.room ≤ (r.vals.length : Int)) = false := decide_eq_false (by omega)
  clear h hf hr hlu hlg
  obtain ⟨W0, hW0⟩ : ∃ W0, W0 = ((w.alloc (.cells (pcells r a1 c1 a2 c2 a3 c3 a4 c4) 54)).alloc (.cells pzero 54)).alloc (.cells #[.int .i64 0, .int .i64 0] 30) := ⟨_, rfl⟩
  have X1 : Hid (Px W0 w.heap.size (pcells r a1 c1 a2 c2 a3 c3 a4 c4)) := Lib.hid (by rw [hW0]; exact ((Px.new w _).alloc _).alloc _)
  have Z1 : Hid (Px W0 (w.heap.size + 1) pzero) := Lib.hid (by rw [hW0]; exact (Px.new1 w _ _).alloc _)
  have Y1 : Hid (Hx W0 (w.heap.size + 2) 0 0) := Lib.hid (by
    rw [hW0]
    have := Hx.new1 (w.alloc (.cells (pcells r a1 c1 a2 c2 a3 c3 a4 c4) 54)) (.cells pzero 54) 0 0
    rw [show (w.alloc (.cells (pcells r a1 c1 a2 c2 a3 c3 a4 c4) 54)).heap.size = w.heap.size + 1 by simp] at this
    exact this)
  have B1 : Hid (Below w.heap.size w W0) := Lib.hid (by rw [hW0]; exact ((below_alloc _ _).alloc (by simp) _).alloc (by simp; omega) _)
  have R1 := Lib.hid (HR.out.behind B1.out)
  go_enter Try.func42, Try.ntmps42
  go_wp2_with fail
  rw [← hW0]
  clear hW0
  refine (copied_any _ _ _ _ _ _ _ _ _ _ R1.out ho.toFit).mono ?_
  rintro e w2 ⟨g1, d1, g2, d2, g3, d3, g4, d4, rfl, hown, hb⟩
  have Y2 := Lib.hid ((Y1.out.behind hb).behind (below_alloc w2 (.cells (pcells r (some ⟨g1, 0, none⟩) d1 (some ⟨g2, 0, none⟩) d2 (some ⟨g3, 0, none⟩) d3 (some ⟨g4, 0, none⟩) d4) 54)))
  have Z2 := Lib.hid ((Z1.out.behind hb).behind (below_alloc w2 (.cells (pcells r (some ⟨g1, 0, none⟩) d1 (some ⟨g2, 0, none⟩) d2 (some ⟨g3, 0, none⟩) d3 (some ⟨g4, 0, none⟩) d4) 54)))
  have B2 := Lib.hid (below_trans B1.out hb B1.out.size)
  have O2 := Lib.hid (hown.behind (below_alloc w2 (.cells (pcells r (some ⟨g1, 0, none⟩) d1 (some ⟨g2, 0, none⟩) d2 (some ⟨g3, 0, none⟩) d3 (some ⟨g4, 0, none⟩) d4) 54)))
  have Q2 := Lib.hid (Px.new w2 (pcells r (some ⟨g1, 0, none⟩) d1 (some ⟨g2, 0, none⟩) d2 (some ⟨g3, 0, none⟩) d3 (some ⟨g4, 0, none⟩) d4))
  have B3 := Lib.hid (B2.out.alloc B2.out.size (.cells (pcells r (some ⟨g1, 0, none⟩) d1 (some ⟨g2, 0, none⟩) d2 (some ⟨g3, 0, none⟩) d3 (some ⟨g4, 0, none⟩) d4) 54))
  have hs12 := hb.size
  have hb1 := B1.out.size
  have hy1 := Y1.out.lt
  clear hb hown
  go_upto_region 5 with (fail)
  obtain ⟨w3, hw3⟩ : ∃ w3, w3 = w2.alloc (.cells (pcells r (some ⟨g1, 0, none⟩) d1 (some ⟨g2, 0, none⟩) d2 (some ⟨g3, 0, none⟩) d3 (some ⟨g4, 0, none⟩) d4) 54) := ⟨_, rfl⟩
  rw [← hw3] at Y2 Z2 O2 Q2 B3 ⊢
  obtain ⟨p3, hp3⟩ : ∃ p3, p3 = w2.heap.size := ⟨_, rfl⟩
  have hp3w : w.heap.size ≤ p3 := by rw [hp3]; exact B2.out.size
  have hzp : w.heap.size + 2 < p3 := by omega
  rw [← hp3] at Q2 ⊢
  clear hw3 hp3
  clear h0 h1
  obtain ⟨q0, q1, q2, q3, q4⟩ := Q2.out.c5
  have f0 := Q2.out.frz
  have l0 := Q2.out.lt
  go_upto_region 9 with (fail)
  clear h00
  have hW03 : W0.heap.size ≤ w3.heap.size := by have := (O2.out.vals.lt g1 rfl).1; have := (O2.out.vals.lt g1 rfl).2; omega
  have hww : w.heap.size ≤ w3.heap.size := B3.out.size
  go_wp2_with (at_builtin; go_loud (refine wpList_append_own_at _ rfl _ _ 38 rfl W0.heap.size 3 i0 (.int .i64 0) 1 8 Try.underlying38 hi0 hq0 hq1 hq2 rfl (by decide) (.slice (some ⟨g1, 0, none⟩) r.vals.length d1) r.vals.length (iv r.vals) rfl (O2.out.vals.alloc _) ⟨w3.heap.size, 0, none⟩ 1 1 [.int .i64 0] rfl rfl ?k00 ?k01 ?k02 ?k03 ?k04 ?_))
  try case k00 =>
    first
    | done
    | (intro jj u hj'
       have hj0 : jj = 0 := by have := (List.getElem?_eq_some_iff.1 hj').1; simp at this; omega
       subst hj0
       simp at hj'
       subst hj'
       simp [go_sem])
  try case k01 => first | rfl | (intro u hu; simp at hu; subst hu; rfl)
  try case k02 => unfold maxLen; omega
  try case k03 => omega
  try case k04 => first | omega | (simp; omega)
  intro v0 u0 hown hgrow hnil hat
  have hnn : v0 ≠ .slice none 0 0 := by rintro rfl; simp at hnil
  obtain ⟨h1, e1, rfl, ho5⟩ := OwnP.pushV (x := 0) O2.out hown hgrow (by simpa [Value.ownBlock] using hat) hnn
  have QQ := Lib.hid (Q2.out.grown O2.out.vals (by decide) hgrow)
  have ZZ := Lib.hid (Z2.out.grown O2.out.vals (by decide) hgrow)
  have YY := Lib.hid (Y2.out.grown O2.out.vals (by decide) hgrow)
  have OO := Lib.hid ho5
  have hgl := (O2.out.vals.lt g1 rfl).1
  have BB := Lib.hid ((B3.out.alloc B3.out.size (.cells #[.int .i64 0] 3)).grown hgrow (by simp; omega) (fun kk hk' => by simp [Value.ownBlock] at hk'; omega))
  have hsz := hgrow.size
  simp only [World.size_alloc] at hsz
  have hsz0 : w3.heap.size ≤ u0.heap.size := by omega
  clear hown hgrow hnil hat hnn ho5 hgl hsz q0 q1 q2 q3 q4 f0 l0
  obtain ⟨q0, q1, q2, q3, q4⟩ := QQ.out.c5
  have f0 := QQ.out.frz
  have l0 := QQ.out.lt
  go_upto_region 10 with (fail)
  obtain ⟨v0w, hV⟩ : ∃ v0w, v0w = u0.setCell ⟨p3, 1, none⟩ (.slice (some ⟨h1, 0, none⟩) (r.vals.length + 1) e1) := ⟨_, rfl⟩
  rw [← hV]
  have Qo0 : Hid (Px v0w p3 #[.int .i64 r.room, .slice (some ⟨h1, 0, none⟩) (r.vals.length + 1) e1, .slice (some ⟨g2, 0, none⟩) r.used.length d2, .slice (some ⟨g3, 0, none⟩) r.gens.length d3, .slice (some ⟨g4, 0, none⟩) r.freed.length d4]) := Lib.hid (by rw [hV]; exact QQ.out.set _)
  have Zo0 : Hid (Px v0w (w.heap.size + 1) pzero) := Lib.hid (by rw [hV]; exact ZZ.out.far (by omega))
  have Yo0 : Hid (Hx v0w (w.heap.size + 2) 0 0) := Lib.hid (by rw [hV]; exact YY.out.far (by omega))
  have Oo0 : Hid (OwnP v0w W0.heap.size { r with vals := r.vals ++ [0] } h1 e1 g2 d2 g3 d3 g4 d4) := Lib.hid (by rw [hV]; exact OO.out.far QQ.out 1 _)
  have Bo0 : Hid (Below w.heap.size w v0w) := Lib.hid (by rw [hV]; exact BB.out.setCell hp3w _)
  have hvs0 : u0.heap.size ≤ v0w.heap.size := by rw [hV]; simp
  clear hV q0 q1 q2 q3 q4 f0 l0 QQ ZZ YY OO BB
  obtain ⟨q0, q1, q2, q3, q4⟩ := Qo0.out.c5
  have f0 := Qo0.out.frz
  have l0 := Qo0.out.lt
  go_wp2_with (at_builtin; go_loud (refine wpList_append_own_at _ rfl _ _ 52 rfl W0.heap.size 4 j0 (.bool false) 1 1 Try.underlying52 hj0 hr0 hr1 hr2 rfl (by decide) (.slice (some ⟨g2, 0, none⟩) r.used.length d2) r.used.length (bv r.used) rfl (Oo0.out.used.alloc _) ⟨v0w.heap.size, 0, none⟩ 1 1 [.bool false] rfl rfl ?k10 ?k11 ?k12 ?k13 ?k14 ?_))
  try case k10 =>
    first
    | done
    | (intro jj u hj'
       have hj0 : jj = 0 := by have := (List.getElem?_eq_some_iff.1 hj').1; simp at this; omega
       subst hj0
       simp at hj'
       subst hj'
       simp [go_sem])
  try case k11 => first | rfl | (intro u hu; simp at hu; subst hu; rfl)
  try case k12 => unfold maxLen; omega
  try case k13 => omega
  try case k14 => first | omega | (simp; omega)
  intro v1 u1 hown hgrow hnil hat
  have hnn : v1 ≠ .slice none 0 0 := by rintro rfl; simp at hnil
  obtain ⟨h2, e2, rfl, ho5⟩ := OwnP.pushU (x := false) Oo0.out hown hgrow (by simpa [Value.ownBlock] using hat) hnn
  have QQ := Lib.hid (Qo0.out.grown Oo0.out.used (by decide) hgrow)
  have ZZ := Lib.hid (Zo0.out.grown Oo0.out.used (by decide) hgrow)
  have YY := Lib.hid (Yo0.out.grown Oo0.out.used (by decide) hgrow)
  have OO := Lib.hid ho5
  have hgl := (Oo0.out.used.lt g2 rfl).1
  have BB := Lib.hid ((Bo0.out.alloc Bo0.out.size (.cells #[.bool false] 4)).grown hgrow (by simp; omega) (fun kk hk' => by simp [Value.ownBlock] at hk'; omega))
  have hsz := hgrow.size
  simp only [World.size_alloc] at hsz
  have hsz1 : v0w.heap.size ≤ u1.heap.size := by omega
  clear hown hgrow hnil hat hnn ho5 hgl hsz q0 q1 q2 q3 q4 f0 l0
  obtain ⟨q0, q1, q2, q3, q4⟩ := QQ.out.c5
  have f0 := QQ.out.frz
  have l0 := QQ.out.lt
  go_upto_region 11 with (fail)
  obtain ⟨v1w, hV⟩ : ∃ v1w, v1w = u1.setCell ⟨p3, 2, none⟩ (.slice (some ⟨h2, 0, none⟩) (r.used.length + 1) e2) := ⟨_, rfl⟩
  rw [← hV]
  have Qo1 : Hid (Px v1w p3 #[.int .i64 r.room, .slice (some ⟨h1, 0, none⟩) (r.vals.length + 1) e1, .slice (some ⟨h2, 0, none⟩) (r.used.length + 1) e2, .slice (some ⟨g3, 0, none⟩) r.gens.length d3, .slice (some ⟨g4, 0, none⟩) r.freed.length d4]) := Lib.hid (by rw [hV]; exact QQ.out.set _)
  have Zo1 : Hid (Px v1w (w.heap.size + 1) pzero) := Lib.hid (by rw [hV]; exact ZZ.out.far (by omega))
  have Yo1 : Hid (Hx v1w (w.heap.size + 2) 0 0) := Lib.hid (by rw [hV]; exact YY.out.far (by omega))
  have Oo1 : Hid (OwnP v1w W0.heap.size { r with vals := r.vals ++ [0], used := r.used ++ [false] } h1 e1 h2 e2 g3 d3 g4 d4) := Lib.hid (by rw [hV]; exact OO.out.far QQ.out 2 _)
  have Bo1 : Hid (Below w.heap.size w v1w) := Lib.hid (by rw [hV]; exact BB.out.setCell hp3w _)
  have hvs1 : u1.heap.size ≤ v1w.heap.size := by rw [hV]; simp
  clear hV q0 q1 q2 q3 q4 f0 l0 QQ ZZ YY OO BB
  obtain ⟨q0, q1, q2, q3, q4⟩ := Qo1.out.c5
  have f0 := Qo1.out.frz
  have l0 := Qo1.out.lt
  go_wp2_with (at_builtin; go_loud (refine wpList_append_own_at _ rfl _ _ 38 rfl W0.heap.size 3 i0 (.int .i64 0) 1 8 Try.underlying38 hi0 hq0 hq1 hq2 rfl (by decide) (.slice (some ⟨g3, 0, none⟩) r.gens.length d3) r.gens.length (iv r.gens) rfl (Oo1.out.gens.alloc _) ⟨v1w.heap.size, 0, none⟩ 1 1 [.int .i64 0] rfl rfl ?k20 ?k21 ?k22 ?k23 ?k24 ?_))
  try case k20 =>
    first
    | done
    | (intro jj u hj'
       have hj0 : jj = 0 := by have := (List.getElem?_eq_some_iff.1 hj').1; simp at this; omega
       subst hj0
       simp at hj'
       subst hj'
       simp [go_sem])
  try case k21 => first | rfl | (intro u hu; simp at hu; subst hu; rfl)
  try case k22 => unfold maxLen; omega
  try case k23 => omega
  try case k24 => first | omega | (simp; omega)
  intro v2 u2 hown hgrow hnil hat
  have hnn : v2 ≠ .slice none 0 0 := by rintro rfl; simp at hnil
  obtain ⟨h3, e3, rfl, ho5⟩ := OwnP.pushG (x := 0) Oo1.out hown hgrow (by simpa [Value.ownBlock] using hat) hnn
  have QQ := Lib.hid (Qo1.out.grown Oo1.out.gens (by decide) hgrow)
  have ZZ := Lib.hid (Zo1.out.grown Oo1.out.gens (by decide) hgrow)
  have YY := Lib.hid (Yo1.out.grown Oo1.out.gens (by decide) hgrow)
  have OO := Lib.hid ho5
  have hgl := (Oo1.out.gens.lt g3 rfl).1
  have BB := Lib.hid ((Bo1.out.alloc Bo1.out.size (.cells #[.int .i64 0] 3)).grown hgrow (by simp; omega) (fun kk hk' => by simp [Value.ownBlock] at hk'; omega))
  have hsz := hgrow.size
  simp only [World.size_alloc] at hsz
  have hsz2 : v1w.heap.size ≤ u2.heap.size := by omega
  clear hown hgrow hnil hat hnn ho5 hgl hsz q0 q1 q2 q3 q4 f0 l0
  obtain ⟨q0, q1, q2, q3, q4⟩ := QQ.out.c5
  have f0 := QQ.out.frz
  have l0 := QQ.out.lt
  go_upto_region 12 with (fail)
  obtain ⟨v2w, hV⟩ : ∃ v2w, v2w = u2.setCell ⟨p3, 3, none⟩ (.slice (some ⟨h3, 0, none⟩) (r.gens.length + 1) e3) := ⟨_, rfl⟩
  rw [← hV]
  have Qo2 : Hid (Px v2w p3 #[.int .i64 r.room, .slice (some ⟨h1, 0, none⟩) (r.vals.length + 1) e1, .slice (some ⟨h2, 0, none⟩) (r.used.length + 1) e2, .slice (some ⟨h3, 0, none⟩) (r.gens.length + 1) e3, .slice (some ⟨g4, 0, none⟩) r.freed.length d4]) := Lib.hid (by rw [hV]; exact QQ.out.set _)
  have Zo2 : Hid (Px v2w (w.heap.size + 1) pzero) := Lib.hid (by rw [hV]; exact ZZ.out.far (by omega))
  have Yo2 : Hid (Hx v2w (w.heap.size + 2) 0 0) := Lib.hid (by rw [hV]; exact YY.out.far (by omega))
  have Oo2 : Hid (OwnP v2w W0.heap.size { r with vals := r.vals ++ [0], used := r.used ++ [false], gens := r.gens ++ [0] } h1 e1 h2 e2 h3 e3 g4 d4) := Lib.hid (by rw [hV]; exact OO.out.far QQ.out 3 _)
  have Bo2 : Hid (Below w.heap.size w v2w) := Lib.hid (by rw [hV]; exact BB.out.setCell hp3w _)
  have hvs2 : u2.heap.size ≤ v2w.heap.size := by rw [hV]; simp
  clear hV q0 q1 q2 q3 q4 f0 l0 QQ ZZ YY OO BB
  obtain ⟨q0, q1, q2, q3, q4⟩ := Qo2.out.c5
  have f0 := Qo2.out.frz
  have l0 := Qo2.out.lt
  clear q0 q1 q2 q3 q4 f0 l0
  obtain ⟨k, hk⟩ : ∃ k, k = r.vals.length := ⟨_, rfl⟩
  obtain ⟨w4, hw4⟩ : ∃ w4, w4 = v2w := ⟨_, rfl⟩
  rw [← hw4] at Oo2 Qo2 Zo2 Yo2 Bo2 ⊢
  rw [← hk] at Qo2 ⊢
  have Q4 := Qo2; have Z4 := Zo2; have Y4 := Yo2; have O4 := Oo2; have B4 := Bo2
  have HV : Hid ((r.vals ++ [0])[k]? = some 0) := Lib.hid (by rw [hk]; simp)
  have HU : Hid ((r.used ++ [false])[k]? = some false) := Lib.hid (by rw [hk, ← HLU.out]; simp)
  have HGN : Hid ((r.grow x).gens[k]? = some 0) := Lib.hid (by unfold Rp.grow; rw [hk, ← HLG.out]; simp)
  have HGR : Hid (r.grow x = { r with vals := (r.vals ++ [0]).set k x, used := (r.used ++ [false]).set k true, gens := r.gens ++ [0] }) := Lib.hid (by unfold Rp.grow; rw [hk, set_last]; rw [← HLU.out, set_last])
  have HE5 : Hid (pcells (r.grow x) (some ⟨h1, 0, none⟩) e1 (some ⟨h2, 0, none⟩) e2 (some ⟨h3, 0, none⟩) e3 (some ⟨g4, 0, none⟩) d4 = #[.int .i64 r.room, .slice (some ⟨h1, 0, none⟩) (k + 1) e1, .slice (some ⟨h2, 0, none⟩) (r.used.length + 1) e2, .slice (some ⟨h3, 0, none⟩) (r.gens.length + 1) e3, .slice (some ⟨g4, 0, none⟩) r.freed.length d4]) := Lib.hid (by unfold pcells Rp.grow; rw [hk]; simp)
  have hkk : k < k + 1 := by omega
  have hku : k < r.used.length + 1 := by have := HLU.out; omega
  have hkg : k < r.gens.length + 1 := by have := HLG.out; omega
  have hkb : k ≤ 4999 := by omega
  have HKK := Lib.hid hk
  clear hw4 hk
  have n12 := row_diff O4.out.vals O4.out.used (by decide)
  have n32 := row_diff O4.out.gens O4.out.used (by decide)
  have hgp1 : h1 ≠ p3 := by have := row_px O4.out.vals Q4.out (by decide); simpa [Value.ownBlock] using this
  have hgp2 : h2 ≠ p3 := by have := row_px O4.out.used Q4.out (by decide); simpa [Value.ownBlock] using this
  have hgz1 : h1 ≠ w.heap.size + 1 := by have := row_px O4.out.vals Z4.out (by decide); simpa [Value.ownBlock] using this
  have hgz2 : h2 ≠ w.heap.size + 1 := by have := row_px O4.out.used Z4.out (by decide); simpa [Value.ownBlock] using this
  have hgy1 : h1 ≠ w.heap.size + 2 := by have := row_hx O4.out.vals Y4.out (by decide); simpa [Value.ownBlock] using this
  have hgy2 : h2 ≠ w.heap.size + 2 := by have := row_hx O4.out.used Y4.out (by decide); simpa [Value.ownBlock] using this
  have hgb1 := (O4.out.vals.lt h1 rfl).1
  have hgb2 := (O4.out.used.lt h2 rfl).1
  have hc1 := icell O4.out.vals rfl k _ HV.out
  have hf1 := O4.out.vals.frozenAt k
  have hl1' := (O4.out.vals.lt h1 rfl).2
  have hc2 := bcellx O4.out.used rfl k _ HU.out
  have hf2 := O4.out.used.frozenAt k
  have hl2' := (O4.out.used.lt h2 rfl).2
  obtain ⟨q0, q1, q2, q3, q4⟩ := Q4.out.c5
  have f0 := Q4.out.frz
  have l0 := Q4.out.lt
  go_upto_region 14 with (fail)
  obtain ⟨w5, hw5⟩ : ∃ w5, w5 = (w4.setCell ⟨h1, k, none⟩ (.int .i64 x)).setCell ⟨h2, k, none⟩ (.bool true) := ⟨_, rfl⟩
  rw [← hw5]
  have Q5 : Hid (Px w5 p3 (#[.int .i64 r.room, .slice (some ⟨h1, 0, none⟩) (k + 1) e1, .slice (some ⟨h2, 0, none⟩) (r.used.length + 1) e2, .slice (some ⟨h3, 0, none⟩) (r.gens.length + 1) e3, .slice (some ⟨g4, 0, none⟩) r.freed.length d4])) := Lib.hid (by rw [hw5]; exact (Q4.out.far (fun e => hgp1 e.symm)).far (fun e => hgp2 e.symm))
  have Z5 : Hid (Px w5 (w.heap.size + 1) pzero) := Lib.hid (by rw [hw5]; exact (Z4.out.far (fun e => hgz1 e.symm)).far (fun e => hgz2 e.symm))
  have Y5 : Hid (Hx w5 (w.heap.size + 2) 0 0) := Lib.hid (by rw [hw5]; exact (Y4.out.far (fun e => hgy1 e.symm)).far (fun e => hgy2 e.symm))
  have O5 : Hid (OwnP w5 W0.heap.size (r.grow x) h1 e1 h2 e2 h3 e3 g4 d4) := Lib.hid (by
    have := (O4.out.setV k x).setU k true
    rw [hw5]; rw [HGR.out]; exact ⟨this.vals, this.used, this.gens, this.freed, this.n13, this.n14, this.n34⟩)
  have B5 : Hid (Below w.heap.size w w5) := Lib.hid (by rw [hw5]; exact (B4.out.setCell (by show w.heap.size ≤ h1; omega) _).setCell (by show w.heap.size ≤ h2; omega) _)
  clear hw5 hc1 hf1 hl1' hc2 hf2 hl2' q0 q1 q2 q3 q4 f0 l0
  obtain ⟨q0, q1, q2, q3, q4⟩ := Q5.out.c5
  have l0 := Q5.out.lt
  have hc3 := icell O5.out.gens rfl k 0 HGN.out
  have hl3 := (O5.out.gens.lt h3 rfl).2
  have hgp3 : h3 ≠ p3 := by have := row_px O5.out.gens Q5.out (by decide); simpa [Value.ownBlock] using this
  have hgz3 : h3 ≠ w.heap.size + 1 := by have := row_px O5.out.gens Z5.out (by decide); simpa [Value.ownBlock] using this
  have hgy3 : h3 ≠ w.heap.size + 2 := by have := row_hx O5.out.gens Y5.out (by decide); simpa [Value.ownBlock] using this
  obtain ⟨z0, z1, z2, z3, z4⟩ := Z5.out.c5
  obtain ⟨y0, y1⟩ := Y5.out.c2
  have f1 := Z5.out.frz
  have f2 := Y5.out.frz
  have l1 := Z5.out.lt
  have l2 := Y5.out.lt
  go_region
  obtain ⟨w8, hw8⟩ : ∃ w8, w8 = (((((((w5.setCell ⟨w.heap.size + 1, 0, none⟩ (.int .i64 r.room)).setCell ⟨w.heap.size + 1, 1, none⟩ (.slice (some ⟨h1, 0, none⟩) (k + 1) e1)).setCell ⟨w.heap.size + 1, 2, none⟩ (.slice (some ⟨h2, 0, none⟩) (r.used.length + 1) e2)).setCell ⟨w.heap.size + 1, 3, none⟩ (.slice (some ⟨h3, 0, none⟩) (r.gens.length + 1) e3)).setCell ⟨w.heap.size + 1, 4, none⟩ (.slice (some ⟨g4, 0, none⟩) r.freed.length d4)).setCell ⟨w.heap.size + 1 + 1, 0, none⟩ (.int .i64 k)).setCell ⟨w.heap.size + 1 + 1, 1, none⟩ (.int .i64 0)).drew := ⟨_, rfl⟩
  rw [← hw8]
  have ya := ((((Y5.out.far (c := w.heap.size + 1) (o := 0) (u := (.int .i64 r.room)) (by omega)).far (c := w.heap.size + 1) (o := 1) (u := (.slice (some ⟨h1, 0, none⟩) (k + 1) e1)) (by omega)).far (c := w.heap.size + 1) (o := 2) (u := (.slice (some ⟨h2, 0, none⟩) (r.used.length + 1) e2)) (by omega)).far (c := w.heap.size + 1) (o := 3) (u := (.slice (some ⟨h3, 0, none⟩) (r.gens.length + 1) e3)) (by omega)).far (c := w.heap.size + 1) (o := 4) (u := (.slice (some ⟨g4, 0, none⟩) r.freed.length d4)) (by omega)
  have R8 : Hid (RefP w8 (r.grow x) (some ⟨h1, 0, none⟩) e1 (some ⟨h2, 0, none⟩) e2 (some ⟨h3, 0, none⟩) e3 (some ⟨g4, 0, none⟩) d4) := Lib.hid (by
    have r1 := (((((O5.out.ref.far Z5.out 0 (.int .i64 r.room)).far (Z5.out.set _) 1 (.slice (some ⟨h1, 0, none⟩) (k + 1) e1)).far ((Z5.out.set _).set _) 2 (.slice (some ⟨h2, 0, none⟩) (r.used.length + 1) e2)).far (((Z5.out.set _).set _).set _) 3 (.slice (some ⟨h3, 0, none⟩) (r.gens.length + 1) e3)).far ((((Z5.out.set _).set _).set _).set _) 4 (.slice (some ⟨g4, 0, none⟩) r.freed.length d4))
    rw [hw8]; exact ((r1.farH ya 0 (.int .i64 k)).farH (ya.set0 k) 1 (.int .i64 0)).drew)
  have Z8 : Hid (Px w8 (w.heap.size + 1) #[.int .i64 r.room, .slice (some ⟨h1, 0, none⟩) (k + 1) e1, .slice (some ⟨h2, 0, none⟩) (r.used.length + 1) e2, .slice (some ⟨h3, 0, none⟩) (r.gens.length + 1) e3, .slice (some ⟨g4, 0, none⟩) r.freed.length d4]) := Lib.hid (by rw [hw8]; exact (((((((Z5.out.set _).set _).set _).set _).set _).far (by omega)).far (by omega)).drew)
  have Y8 : Hid (Hx w8 (w.heap.size + 2) k 0) := Lib.hid (by rw [hw8]; exact ((ya.set0 k).set1 0).drew)
  have B8 : Hid (Below w.heap.size w w8) := Lib.hid (by rw [hw8]; exact below_drew (((((((B5.out.setCell (by simp) _).setCell (by simp) _).setCell (by simp) _).setCell (by simp) _).setCell (by simp) _).setCell (by simp <;> omega) _).setCell (by simp <;> omega) _))
  clear hw8 ya z0 z1 z2 z3 z4 y0 y1 f1 f2 l0 l1 l2 q0 q1 q2 q3 q4 hc3 hl3
  obtain ⟨z0, z1, z2, z3, z4⟩ := Z8.out.c5
  obtain ⟨y0, y1⟩ := Y8.out.c2
  go_wp2
  refine bodyPost_ret (v := .tuple #[.agg #[.int .i64 r.room, .slice (some ⟨h1, 0, none⟩) (k + 1) e1, .slice (some ⟨h2, 0, none⟩) (r.used.length + 1) e2, .slice (some ⟨h3, 0, none⟩) (r.gens.length + 1) e3, .slice (some ⟨g4, 0, none⟩) r.freed.length d4], .agg #[.int .i64 k, .int .i64 0], .int .i64 0]) (by simp [results, Try.results42, go_sem, z0, z1, z2, z3, z4, y0, y1]) rfl ⟨h1, e1, h2, e2, h3, e3, g4, d4, ?_, ?_, ?_⟩
  · rw [HE5.out, ← HKK.out]
  · exact R8.out
  · exact B8.out
end Go.Proofs.Ytnbljnpfmeidfaa
