/- Plain facts on the chain of freed places, and rows of other elements beside a pool. No conditions beyond those in each statement. -/
import Derived.Test.YtdkfdpiikhgfiaaWArenaFull
import Derived.Test.YtdkfdpiikhgfiaaFlat
namespace Go.Proofs.Ytdkfdpiikhgfiaa
open Go Go.RowKit Go.ChangeShapes Go.WideShapes
set_option linter.unusedVariables false

/-- the freed places, the last one first, as the places' own words lead from one to the next -/
def Chain (l : List Pl) : Int → List Nat → Prop
  | f, [] => f = -1
  | f, i :: r => f = i ∧ ∃ q, l[i]? = some q ∧ q.used = false ∧ q.gen = 1 ∧ Chain l q.next r
theorem chain_set (l : List Pl) (k : Nat) (q : Pl) : ∀ (st : List Nat) (f : Int), k ∉ st → Chain l f st → Chain (l.set k q) f st
  | [], _, _, h => h
  | i :: r, f, hk, h => by
    obtain ⟨rfl, q', h1, h2, h3, h4⟩ := h
    have hne : k ≠ i := fun e => hk (by rw [e]; exact List.mem_cons_self ..)
    exact ⟨rfl, q', by rw [List.getElem?_set_ne hne]; exact h1, h2, h3, chain_set l k q r _ (fun hm => hk (List.mem_cons_of_mem _ hm)) h4⟩
theorem chain_mem (l : List Pl) : ∀ (st : List Nat) (f : Int), Chain l f st → ∀ k ∈ st, ∃ q, l[k]? = some q ∧ q.used = false ∧ q.gen = 1
  | [], _, _, k, hk => by simp at hk
  | i :: r, _, h, k, hk => by
    obtain ⟨rfl, q', h1, h2, h3, h4⟩ := h
    rcases List.mem_cons.1 hk with rfl | hk
    · exact ⟨q', h1, h2, h3⟩
    · exact chain_mem l r _ h4 k hk
/-- what 256 places are, of which some were freed -/
structure LastIs (l : List Pl) (free : Int) (st : List Nat) : Prop where
  len : l.length = 256
  chain : Chain l free st
  nodup : st.Nodup
  lt : ∀ k ∈ st, k < 256
  old : ∀ k, k < 256 → k ∉ st → l[k]? = some ⟨k, 0, true, -1⟩
theorem LastIs.free {l : List Pl} {free : Int} {st : List Nat} (h : LastIs l free st) (k : Nat) (hk : k < 256) (hn : k ∉ st) : LastIs (l.set k ⟨0, 1, false, free⟩) k (k :: st) :=
  ⟨by rw [List.length_set]; exact h.len,
   ⟨rfl, ⟨0, 1, false, free⟩, by rw [List.getElem?_set_self (by rw [h.len]; exact hk)], rfl, rfl, chain_set l k _ st free hn h.chain⟩,
   List.nodup_cons.2 ⟨hn, h.nodup⟩,
   fun j hj => by rcases List.mem_cons.1 hj with rfl | hj; exact hk; exact h.lt j hj,
   fun j hj hm => by
    rw [List.getElem?_set_ne (fun e => hm (by rw [e]; exact List.mem_cons_self ..))]
    exact h.old j hj (fun h' => hm (List.mem_cons_of_mem _ h'))⟩
theorem LastIs.none {l : List Pl} {free : Int} {st : List Nat} (h : LastIs l free st) (k : Nat) (hm : k ∈ st) : NamesNone l k 0 := by
  rintro j q ⟨h1, h2, h3, h4⟩
  have hj : j = k := by omega
  subst hj
  obtain ⟨q', g1, g2, g3⟩ := chain_mem l st free h.chain j hm
  rw [h2] at g1
  cases g1
  rw [h4] at g3
  omega
theorem LastIs.some {l : List Pl} {free : Int} {st : List Nat} (h : LastIs l free st) (k : Nat) (hk : k < 256) (hm : k ∉ st) : Names l k 0 k ⟨k, 0, true, -1⟩ := ⟨rfl, h.old k hk hm, rfl, rfl⟩
/-- what they are while they come back -/
structure BackIs (l : List Pl) (free : Int) (st : List Nat) : Prop where
  len : l.length = 256
  chain : Chain l free st
  nodup : st.Nodup
theorem BackIs.put {l : List Pl} {free : Int} {i : Nat} {st : List Nat} (h : BackIs l free (i :: st)) (x : Int) : ∃ q, free = i ∧ l[i]? = some q ∧ q.gen = 1 ∧ BackIs (l.set i ⟨x, 1, true, -1⟩) q.next st := by
  obtain ⟨rfl, q, h1, h2, h3, h4⟩ := h.chain
  exact ⟨q, rfl, h1, h3, by rw [List.length_set]; exact h.len, chain_set l i _ st _ (List.nodup_cons.1 h.nodup).1 h4, (List.nodup_cons.1 h.nodup).2⟩

/-- a row of other elements is as it was behind a step of a pool -/
theorem ownsRow_step {w w' : World} {base base2 p : Nat} {e : TypeId} {size : Nat} {v : Value} {n : Nat} {xs : List Value} (h : w.ownsRow base e size v n xs) (hs : PoolStep base2 p w w') (he : e ≠ 66)
    (hp : ∀ cs fr, w.heap[p]? ≠ some (.cells cs e fr)) : w'.ownsRow base e size v n xs := by
  refine ⟨h.1, ?_⟩
  rcases h.2 with hn | ⟨g, cap, cur, hv, hb, hh, hr⟩
  · exact .inl hn
  · exact .inr ⟨g, cap, cur, hv, hb, hs.same hh (by rintro rfl; exact hp _ _ hh) he, hr⟩
theorem ownsRow_below {w w' : World} {base : Nat} {e : TypeId} {size : Nat} {v : Value} {n : Nat} {xs : List Value} (h : w.ownsRow base e size v n xs) (hb : Below w.heap.size w w') : w'.ownsRow base e size v n xs := by
  refine ⟨h.1, ?_⟩
  rcases h.2 with hn | ⟨g, cap, cur, hv, hb', hh, hr⟩
  · exact .inl hn
  · exact .inr ⟨g, cap, cur, hv, hb', by rw [hb.block g (Array.getElem?_eq_some_iff.1 hh).1]; exact hh, hr⟩
theorem HasPool.notRow {w : World} {base p : Nat} {v : Value} {room many free : Int} {l : List Pl} (h : HasPool w base p v room many free l) (e : TypeId) (he : e ≠ 64) : ∀ cs fr, w.heap[p]? ≠ some (.cells cs e fr) := by
  intro cs fr hh
  rw [h.blk] at hh
  simp only [Option.some.injEq, Obj.cells.injEq] at hh
  exact he hh.2.1.symm
/-- a pool is as it was where a row of other elements has grown -/
theorem HasPool.rowGrown {w w' : World} {base p : Nat} {v : Value} {room many free : Int} {l : List Pl} (h : HasPool w base p v room many free l) {vr : Value} (hg : w.grownBy w' vr.ownBlock) {base2 : Nat} {e : TypeId} {size n : Nat} {xs : List Value} (hr : w.ownsRow base2 e size vr n xs)
    (he : e ≠ 64) (he2 : e ≠ 66) : HasPool w' base p v room many free l := by
  have hno : ∀ (k : Nat) (cs : Array Value) (t : TypeId) (fr : Nat × Nat), w.heap[k]? = some (.cells cs t fr) → t ≠ e → w'.heap[k]? = w.heap[k]? := by
    intro k cs t fr hk ht
    refine hg.block k (Array.getElem?_eq_some_iff.1 hk).1 (fun e' => ?_)
    rcases hr.2 with ⟨rfl, _⟩ | ⟨g, cap, cur, rfl, _, hh, _⟩
    · simp [Value.ownBlock] at e'
    · simp [Value.ownBlock] at e'
      subst e'
      rw [hk] at hh
      simp only [Option.some.injEq, Obj.cells.injEq] at hh
      exact ht hh.2.1
  refine h.kept (hno p _ _ _ h.blk (fun e' => he e'.symm)) (fun g hgv => ?_)
  rcases h.own.2 with ⟨rfl, _⟩ | ⟨g', cap, cur, rfl, _, hh, _⟩
  · simp [Value.ownBlock] at hgv
  · simp [Value.ownBlock] at hgv
    subst hgv
    exact hno _ _ _ _ hh (fun e' => he2 e'.symm)
end Go.Proofs.Ytdkfdpiikhgfiaa
