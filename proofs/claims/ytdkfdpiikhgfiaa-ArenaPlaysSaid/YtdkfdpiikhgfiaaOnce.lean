/- A pool beside the list of all handles that it told, and of what became of them: no two are the same, and what was freed is named by none. No conditions beyond those in each statement. -/
import Derived.Test.YtdkfdpiikhgfiaaLast
namespace Go.Proofs.Ytdkfdpiikhgfiaa
open Go Go.RowKit Go.ChangeShapes Go.WideShapes
set_option linter.unusedVariables false

/-- the freed places, the last one first -/
def Chain2 (l : List Pl) : Int → List Nat → Prop
  | f, [] => f = -1
  | f, i :: r => f = i ∧ ∃ q, l[i]? = some q ∧ q.used = false ∧ Chain2 l q.next r
theorem chain2_set (l : List Pl) (k : Nat) (q : Pl) : ∀ (st : List Nat) (f : Int), k ∉ st → Chain2 l f st → Chain2 (l.set k q) f st
  | [], _, _, h => h
  | i :: r, f, hk, h => by
    obtain ⟨rfl, q', h1, h2, h4⟩ := h
    have hne : k ≠ i := fun e => hk (by rw [e]; exact List.mem_cons_self ..)
    exact ⟨rfl, q', by rw [List.getElem?_set_ne hne]; exact h1, h2, chain2_set l k q r _ (fun hm => hk (List.mem_cons_of_mem _ hm)) h4⟩
theorem chain2_app (l : List Pl) (q : Pl) : ∀ (st : List Nat) (f : Int), Chain2 l f st → Chain2 (l ++ [q]) f st
  | [], _, h => h
  | i :: r, f, h => by
    obtain ⟨rfl, q', h1, h2, h4⟩ := h
    exact ⟨rfl, q', by rw [List.getElem?_append_left (List.getElem?_eq_some_iff.1 h1).1]; exact h1, h2, chain2_app l q r _ h4⟩
theorem chain2_mem (l : List Pl) : ∀ (st : List Nat) (f : Int), Chain2 l f st → ∀ k ∈ st, ∃ q, l[k]? = some q ∧ q.used = false
  | [], _, _, k, hk => by simp at hk
  | i :: r, _, h, k, hk => by
    obtain ⟨rfl, q', h1, h2, h4⟩ := h
    rcases List.mem_cons.1 hk with rfl | hk
    · exact ⟨q', h1, h2⟩
    · exact chain2_mem l r _ h4 k hk
/-- the places, the chain of the freed ones, the handles told, and whether each still names something; b: no more than b steps were made -/
structure Once (l : List Pl) (free : Int) (st : List Nat) (T : List (Nat × Int)) (L : List Bool) (b : Nat) : Prop where
  chain : Chain2 l free st
  nodup : st.Nodup
  len : l.length ≤ b
  gens : ∀ (k : Nat) (q : Pl), l[k]? = some q → 0 ≤ q.gen ∧ q.gen ≤ b
  same : T.length = L.length
  once : T.Nodup
  told : ∀ (n i : Nat) (g : Int) (v : Bool), T[n]? = some (i, g) → L[n]? = some v → ∃ q : Pl, l[i]? = some q ∧ (v = true → q.used = true ∧ q.gen = g) ∧ (v = false → g < q.gen)
theorem Once.nil (b : Nat) : Once [] (-1) [] [] [] b :=
  ⟨rfl, List.nodup_nil, by simp, fun k q h => by simp at h, rfl, List.nodup_nil, fun n i g v h => by simp at h⟩
theorem Once.more {l : List Pl} {free : Int} {st : List Nat} {T : List (Nat × Int)} {L : List Bool} {b : Nat} (h : Once l free st T L b) : Once l free st T L (b + 1) :=
  ⟨h.chain, h.nodup, by have := h.len; omega, fun k q hq => by have := h.gens k q hq; omega, h.same, h.once, h.told⟩
/-- a place of its own -/
theorem Once.grow {l : List Pl} {free : Int} {st : List Nat} {T : List (Nat × Int)} {L : List Bool} {b : Nat} (h : Once l free st T L b) (x : Int) :
    (l.length, (0 : Int)) ∉ T ∧ Once (l ++ [⟨x, 0, true, -1⟩]) free st (T ++ [(l.length, 0)]) (L ++ [true]) (b + 1) := by
  have hn : (l.length, (0 : Int)) ∉ T := by
    intro hm
    obtain ⟨n, hn⟩ := List.getElem?_of_mem hm
    have hlt : n < L.length := by rw [← h.same]; exact (List.getElem?_eq_some_iff.1 hn).1
    obtain ⟨q, hq, _⟩ := h.told n _ _ L[n] hn (List.getElem?_eq_getElem hlt)
    have := (List.getElem?_eq_some_iff.1 hq).1
    omega
  refine ⟨hn, chain2_app l _ st free h.chain, h.nodup, by have := h.len; simp; omega, ?_, by simp [h.same], ?_, ?_⟩
  · intro k q hq
    by_cases hk : k < l.length
    · rw [List.getElem?_append_left hk] at hq
      have := h.gens k q hq; omega
    · rw [List.getElem?_append_right (by omega)] at hq
      have hk0 : k - l.length = 0 := by have := (List.getElem?_eq_some_iff.1 hq).1; simpa using this
      rw [hk0] at hq
      simp at hq
      subst hq
      simp
      omega
  · rw [List.nodup_append]
    refine ⟨h.once, by simp, ?_⟩
    intro a ha c hc e
    simp at hc
    subst hc
    exact hn (e ▸ ha)
  · intro n i g v hT hL
    by_cases hk : n < T.length
    · rw [List.getElem?_append_left hk] at hT
      rw [List.getElem?_append_left (by rw [← h.same]; exact hk)] at hL
      obtain ⟨q, hq, h1, h2⟩ := h.told n i g v hT hL
      exact ⟨q, by rw [List.getElem?_append_left (List.getElem?_eq_some_iff.1 hq).1]; exact hq, h1, h2⟩
    · have hn' : n = T.length := by have := (List.getElem?_eq_some_iff.1 hT).1; simp at this; omega
      subst hn'
      rw [List.getElem?_append_right (Nat.le_refl _)] at hT
      rw [List.getElem?_append_right (by rw [h.same]; exact Nat.le_refl _)] at hL
      simp [h.same] at hT hL
      obtain ⟨rfl, rfl⟩ := hT
      subst hL
      exact ⟨⟨x, 0, true, -1⟩, by rw [List.getElem?_append_right (Nat.le_refl _)]; simp, fun _ => ⟨rfl, rfl⟩, fun e => by cases e⟩
/-- a freed place again -/
theorem Once.again {l : List Pl} {k : Nat} {st : List Nat} {T : List (Nat × Int)} {L : List Bool} {b : Nat} {free : Int} (h : Once l free (k :: st) T L b) (x : Int) :
    ∃ q, free = k ∧ l[k]? = some q ∧ (k, q.gen) ∉ T ∧ Once (l.set k ⟨x, q.gen, true, -1⟩) q.next st (T ++ [(k, q.gen)]) (L ++ [true]) (b + 1) := by
  obtain ⟨rfl, q, hq, hu, hc⟩ := h.chain
  have hkl := (List.getElem?_eq_some_iff.1 hq).1
  have hn : (k, q.gen) ∉ T := by
    intro hm
    obtain ⟨n, hn⟩ := List.getElem?_of_mem hm
    have hlt : n < L.length := by rw [← h.same]; exact (List.getElem?_eq_some_iff.1 hn).1
    obtain ⟨q', hq', h1, h2⟩ := h.told n _ _ L[n] hn (List.getElem?_eq_getElem hlt)
    rw [hq] at hq'
    cases hq'
    cases hv : L[n] with
    | true => have := (h1 hv).1; rw [hu] at this; cases this
    | false => have := h2 hv; omega
  have hnd := List.nodup_cons.1 h.nodup
  refine ⟨q, rfl, hq, hn, chain2_set l k _ st _ hnd.1 hc, hnd.2, by have := h.len; simp; omega, ?_, by simp [h.same], ?_, ?_⟩
  · intro j q' hq'
    by_cases hj : k = j
    · subst hj
      rw [List.getElem?_set_self hkl] at hq'
      cases hq'
      have := h.gens k q hq
      simp
      omega
    · rw [List.getElem?_set_ne hj] at hq'
      have := h.gens j q' hq'; omega
  · rw [List.nodup_append]
    refine ⟨h.once, by simp, ?_⟩
    intro a ha c hc e
    simp at hc
    subst hc
    exact hn (e ▸ ha)
  · intro n i g v hT hL
    by_cases hkn : n < T.length
    · rw [List.getElem?_append_left hkn] at hT
      rw [List.getElem?_append_left (by rw [← h.same]; exact hkn)] at hL
      obtain ⟨q', hq', h1, h2⟩ := h.told n i g v hT hL
      by_cases hi : k = i
      · subst hi
        rw [hq] at hq'
        cases hq'
        refine ⟨⟨x, q.gen, true, -1⟩, List.getElem?_set_self hkl, fun hv => ?_, fun hv => h2 hv⟩
        have := (h1 hv).1; rw [hu] at this; cases this
      · exact ⟨q', by rw [List.getElem?_set_ne hi]; exact hq', h1, h2⟩
    · have hn' : n = T.length := by have := (List.getElem?_eq_some_iff.1 hT).1; simp at this; omega
      subst hn'
      rw [List.getElem?_append_right (Nat.le_refl _)] at hT
      rw [List.getElem?_append_right (by rw [h.same]; exact Nat.le_refl _)] at hL
      simp [h.same] at hT hL
      obtain ⟨rfl, rfl⟩ := hT
      subst hL
      exact ⟨⟨x, q.gen, true, -1⟩, List.getElem?_set_self hkl, fun _ => ⟨rfl, rfl⟩, fun e => by cases e⟩
/-- Free of a handle that names something -/
theorem Once.free {l : List Pl} {free : Int} {st : List Nat} {T : List (Nat × Int)} {L : List Bool} {b n i : Nat} {g : Int} (h : Once l free st T L b) (hT : T[n]? = some (i, g)) (hL : L[n]? = some true) :
    ∃ q, Names l i g i q ∧ 0 ≤ q.gen ∧ q.gen ≤ b ∧ Once (l.set i ⟨0, q.gen + 1, false, free⟩) i (i :: st) T (L.set n false) (b + 1) := by
  obtain ⟨q, hq, h1, _⟩ := h.told n i g true hT hL
  obtain ⟨hu, rfl⟩ := h1 rfl
  have hil := (List.getElem?_eq_some_iff.1 hq).1
  have hni : i ∉ st := by
    intro hm
    obtain ⟨q', hq', hu'⟩ := chain2_mem l st free h.chain i hm
    rw [hq] at hq'
    cases hq'
    rw [hu] at hu'
    cases hu'
  refine ⟨q, ⟨rfl, hq, hu, rfl⟩, (h.gens i q hq).1, (h.gens i q hq).2, ⟨rfl, ⟨0, q.gen + 1, false, free⟩, List.getElem?_set_self hil, rfl, chain2_set l i _ st free hni h.chain⟩, List.nodup_cons.2 ⟨hni, h.nodup⟩, by have := h.len; simp; omega, ?_, by simp [h.same], h.once, ?_⟩
  · intro j q' hq'
    by_cases hj : i = j
    · subst hj
      rw [List.getElem?_set_self hil] at hq'
      cases hq'
      have := h.gens i q hq
      simp
      omega
    · rw [List.getElem?_set_ne hj] at hq'
      have := h.gens j q' hq'; omega
  · intro m j g' v hT' hL'
    by_cases hm : n = m
    · subst hm
      rw [hT] at hT'
      cases hT'
      rw [List.getElem?_set_self (List.getElem?_eq_some_iff.1 hL).1] at hL'
      cases hL'
      exact ⟨_, List.getElem?_set_self hil, (fun e => by cases e), (fun _ => by simp; omega)⟩
    · rw [List.getElem?_set_ne hm] at hL'
      obtain ⟨q', hq', h1', h2'⟩ := h.told m j g' v hT' hL'
      by_cases hi : i = j
      · subst hi
        rw [hq] at hq'
        cases hq'
        refine ⟨_, List.getElem?_set_self hil, fun hv => ?_, fun hv => by have := h2' hv; simp; omega⟩
        exfalso
        obtain ⟨_, e⟩ := h1' hv
        rw [e] at hT
        have a1 := (List.getElem?_eq_some_iff.1 hT)
        have a2 := (List.getElem?_eq_some_iff.1 hT')
        exact hm ((List.getElem_inj h.once).1 (a1.2.trans a2.2.symm))
      · exact ⟨q', by rw [List.getElem?_set_ne hi]; exact hq', h1', h2'⟩
theorem Once.none {l : List Pl} {free : Int} {st : List Nat} {T : List (Nat × Int)} {L : List Bool} {b n i : Nat} {g : Int} (h : Once l free st T L b) (hT : T[n]? = some (i, g)) (hL : L[n]? = some false) : NamesNone l i g := by
  rintro k q ⟨h1, h2, h3, h4⟩
  obtain ⟨q', hq', _, hlt⟩ := h.told n i g false hT hL
  have hk : k = i := by omega
  subst hk
  rw [h2] at hq'
  cases hq'
  have := hlt rfl
  omega

/-- a pool in memory beside what was told -/
def OnceAt (w : World) (base p : Nat) (room : Int) (T : List (Nat × Int)) (L : List Bool) (b : Nat) : Prop :=
  ∃ v many free l st, HasPool w base p v room many free l ∧ Once l free st T L b ∧ -(b : Int) ≤ many ∧ many ≤ b ∧ many ≤ room
theorem OnceAt.behind {w w' : World} {base p : Nat} {room : Int} {T : List (Nat × Int)} {L : List Bool} {b : Nat} (h : OnceAt w base p room T L b) (hb : Below w.heap.size w w') : OnceAt w' base p room T L b := by
  obtain ⟨v, many, free, l, st, h1, h2⟩ := h
  exact ⟨v, many, free, l, st, h1.behind hb, h2⟩
theorem OnceAt.more {w : World} {base p : Nat} {room : Int} {T : List (Nat × Int)} {L : List Bool} {b : Nat} (h : OnceAt w base p room T L b) : OnceAt w base p room T L (b + 1) := by
  obtain ⟨v, many, free, l, st, h1, h2, h3, h4⟩ := h
  exact ⟨v, many, free, l, st, h1, h2.more, by omega, by omega, h4.2⟩
theorem OnceAt.notRow {w : World} {base p : Nat} {room : Int} {T : List (Nat × Int)} {L : List Bool} {b : Nat} (h : OnceAt w base p room T L b) (e : TypeId) (he : e ≠ 64) : ∀ cs fr, w.heap[p]? ≠ some (.cells cs e fr) := by
  obtain ⟨v, many, free, l, st, h1, h2⟩ := h
  exact h1.notRow e he
theorem OnceAt.rowGrown {w w' : World} {base p : Nat} {room : Int} {T : List (Nat × Int)} {L : List Bool} {b : Nat} (h : OnceAt w base p room T L b) {vr : Value} (hg : w.grownBy w' vr.ownBlock) {base2 : Nat} {e : TypeId} {size n : Nat} {xs : List Value} (hr : w.ownsRow base2 e size vr n xs)
    (he : e ≠ 64) (he2 : e ≠ 66) : OnceAt w' base p room T L b := by
  obtain ⟨v, many, free, l, st, h1, h2⟩ := h
  exact ⟨v, many, free, l, st, h1.rowGrown hg hr he he2, h2⟩
theorem put_once (x : Int) (w : World) (base p : Nat) (room : Int) (T : List (Nat × Int)) (L : List Bool) (b : Nat) (h : OnceAt w base p room T L b) (hb : b ≤ 1000) (hbase : base ≤ w.heap.size) :
    Calls Try.prog 11 #[.pointer (some ⟨p, 0, none⟩), .int .i64 x] w fun e w' => PoolStep base p w w' ∧
      ((e = .returned (.tuple #[.agg #[.int .i64 0, .int .i64 0], .int .i64 3]) ∧ OnceAt w' base p room T L (b + 1)) ∨
       (∃ (k : Nat) (g : Int), e = .returned (.tuple #[.agg #[.int .i64 k, .int .i64 g], .int .i64 0]) ∧ (k, g) ∉ T ∧ OnceAt w' base p room (T ++ [(k, g)]) (L ++ [true]) (b + 1))) := by
  obtain ⟨v, many, free, l, st, h1, h2, h3, h4, h5⟩ := h
  have hlen := h2.len
  by_cases hm : many = room
  · exact (put_full x w base p v room many free l h1 hm).mono fun e w' ⟨he, hb'⟩ => ⟨PoolStep.of_below hb' hbase, .inl ⟨he, ⟨v, many, free, l, st, h1.behind hb', h2.more, by omega, by omega, by omega⟩⟩⟩
  · cases st with
    | nil =>
      obtain rfl : free = -1 := h2.chain
      obtain ⟨g1, g2⟩ := h2.grow x
      refine (put_grow x w base p v room many l h1 (by omega) (by omega) (by omega) hbase).mono ?_
      rintro e w' ⟨he, g, cap, hp, hs⟩
      exact ⟨hs, .inr ⟨l.length, 0, he, g1, ⟨_, _, _, _, _, hp, g2, by omega, by omega, by omega⟩⟩⟩
    | cons k st =>
      obtain ⟨q, rfl, hq, g1, g2⟩ := h2.again x
      obtain ⟨g, cap, rfl⟩ : ∃ g cap, v = .slice (some ⟨g, 0, none⟩) l.length cap := by
        rcases h1.row with ⟨_, hn⟩ | ⟨g, cap, hv, _⟩
        · rw [hn] at hq; simp at hq
        · exact ⟨g, cap, hv⟩
      refine (put_again x k q w base p g cap _ room many l h1 (by omega) hq (by omega) (by omega) hbase).mono ?_
      rintro e w' ⟨he, hp, hs⟩
      exact ⟨hs, .inr ⟨k, q.gen, he, g1, ⟨_, _, _, _, _, hp, g2, by omega, by omega, by omega⟩⟩⟩
theorem free_once (n i : Nat) (g : Int) (w : World) (base p : Nat) (room : Int) (T : List (Nat × Int)) (L : List Bool) (b : Nat) (h : OnceAt w base p room T L b) (hT : T[n]? = some (i, g)) (hL : L[n]? = some true) (hb : b ≤ 1000) (hbase : base ≤ w.heap.size) :
    Calls Try.prog 12 #[.pointer (some ⟨p, 0, none⟩), .agg #[.int .i64 i, .int .i64 g]] w fun e w' => (∃ y : Int, e = .returned (.tuple #[.int .i64 y, .int .i64 0])) ∧ PoolStep base p w w' ∧ OnceAt w' base p room T (L.set n false) (b + 1) := by
  obtain ⟨v, many, free, l, st, h1, h2, h3, h4, h5⟩ := h
  have hlen := h2.len
  obtain ⟨q, hn, hg0, hg1, g2⟩ := h2.free hT hL
  obtain ⟨gb, cap, rfl⟩ : ∃ g cap, v = .slice (some ⟨g, 0, none⟩) l.length cap := by
    rcases h1.row with ⟨_, hnn⟩ | ⟨g, cap, hv, _⟩
    · have := hn.2.1; rw [hnn] at this; simp at this
    · exact ⟨g, cap, hv⟩
  refine (free_step i g i q w base p gb cap _ room many free l h1 (by omega) hn ⟨hg0, by omega⟩ (by omega) hbase).mono ?_
  rintro e w' ⟨he, hp, hs⟩
  exact ⟨⟨_, he⟩, hs, ⟨_, _, _, _, _, hp, g2, by omega, by omega, by omega⟩⟩
theorem free_none (n i : Nat) (g : Int) (w : World) (base p : Nat) (room : Int) (T : List (Nat × Int)) (L : List Bool) (b : Nat) (h : OnceAt w base p room T L b) (hT : T[n]? = some (i, g)) (hL : L[n]? = some false) (hb : b ≤ 1000) :
    Calls Try.prog 12 #[.pointer (some ⟨p, 0, none⟩), .agg #[.int .i64 i, .int .i64 g]] w fun e w' => e = .returned (.tuple #[.int .i64 0, .int .i64 2]) ∧ Below w.heap.size w w' ∧ OnceAt w' base p room T L b := by
  have h' := h
  obtain ⟨v, many, free, l, st, h1, h2, h3, h4, h5⟩ := h
  have hlen := h2.len
  exact (free_miss i g w base p v room many free l h1 (by omega) (h2.none hT hL)).mono fun e w' ⟨he, hb'⟩ => ⟨he, hb', h'.behind hb'⟩
theorem get_none (n i : Nat) (g : Int) (w : World) (base p : Nat) (room : Int) (T : List (Nat × Int)) (L : List Bool) (b : Nat) (h : OnceAt w base p room T L b) (hT : T[n]? = some (i, g)) (hL : L[n]? = some false) (hb : b ≤ 1000) :
    Calls Try.prog 13 #[.pointer (some ⟨p, 0, none⟩), .agg #[.int .i64 i, .int .i64 g]] w fun e w' => e = .returned (.tuple #[.int .i64 0, .int .i64 2]) ∧ Below w.heap.size w w' ∧ OnceAt w' base p room T L b := by
  have h' := h
  obtain ⟨v, many, free, l, st, h1, h2, h3, h4, h5⟩ := h
  have hlen := h2.len
  exact (get_miss i g w base p v room many free l h1 (by omega) (h2.none hT hL)).mono fun e w' ⟨he, hb'⟩ => ⟨he, hb', h'.behind hb'⟩
end Go.Proofs.Ytdkfdpiikhgfiaa
