/- What is known of an argument whose type is made of integers and bools alone, structs and arrays of such among them: its cells, kind by kind; and of a slice of such. No conditions beyond those in each statement. -/
import Derived.Handy
import Derived.Lib.Hide
import Derived.Deep.Slices
import Derived.SizedLaws
namespace Go.Proofs.Ytnbljnpfmeidfaa
open Go Go.RowKit Go.ChangeShapes Go.WideShapes Go.Deep

/-- a cell of a kind: a number that fits, or a bool -/
def CellIs : Option IntKind → Value → Prop
  | some k, v => ∃ n : Int, v = .int k n ∧ (Lit.int k n).wf = true
  | .none, v => ∃ b : Bool, v = .bool b
/-- cells of kinds, one by one -/
def Flat : List (Option IntKind) → List Value → Prop
  | [], [] => True
  | k :: ks, v :: vs => CellIs k v ∧ Flat ks vs
  | _, _ => False

theorem flat_length : ∀ {sh : List (Option IntKind)} {cs : List Value}, Flat sh cs → cs.length = sh.length
  | [], [], _ => rfl
  | [], _ :: _, h => by simp [Flat] at h
  | _ :: _, [], h => by simp [Flat] at h
  | _ :: ks, _ :: vs, h => by simp only [Flat] at h; simp [flat_length h.2]
theorem flat_append : ∀ {s1 s2 : List (Option IntKind)} {c1 c2 : List Value}, Flat s1 c1 → Flat s2 c2 → Flat (s1 ++ s2) (c1 ++ c2)
  | [], _, [], _, _, h => by simpa using h
  | [], _, _ :: _, _, h, _ => by simp [Flat] at h
  | _ :: _, _, [], _, h, _ => by simp [Flat] at h
  | _ :: _, _, _ :: _, _, h, h2 => by
    simp only [Flat] at h
    simp only [List.cons_append, Flat]
    exact ⟨h.1, flat_append h.2 h2⟩

/-- a struct's fields, one behind the other -/
def fieldsShape (P : Program) (g : TypeId → Option (List (Option IntKind))) : List Field → Nat → Option (List (Option IntKind))
  | [], _ => some []
  | f :: r, off =>
    if f.offset = off then
      match g f.type with
      | some s => if P.cellsOf f.type = s.length then (fieldsShape P g r (off + s.length)).map (s ++ ·) else .none
      | .none => .none
    else .none
/-- an array's elements, one behind the other -/
def arrayShape (s : List (Option IntKind)) : Nat → List (Option IntKind)
  | 0 => []
  | n + 1 => arrayShape s n ++ s
/-- the kinds of a type's cells, where it is made of integers and bools alone -/
def shapeOf (P : Program) : Nat → TypeId → Option (List (Option IntKind))
  | 0, _ => .none
  | f + 1, t =>
    match P.underlying t with
    | some .bool => some [.none]
    | some (.int k) => some [some k]
    | some (.struct fs) => fieldsShape P (shapeOf P f) fs.toList 0
    | some (.array n e) =>
      match shapeOf P f e with
      | some s => if P.cellsOf e = s.length then some (arrayShape s n) else .none
      | .none => .none
    | _ => .none

section
variable {H : Type} {enc : TypeId × Value → H} {P : Program} {w : World} {base : Nat} {spare : Nat → Bool} {held : Bool}

theorem fields_flat (g : TypeId → Option (List (Option IntKind))) (m : Nat) (hg : ∀ t s cs x, g t = some s → DataW.trod enc P w base spare held m t cs = some x → Flat s cs) (cs : List Value) :
    ∀ (l : List Field) (off : Nat) (sh : List (Option IntKind)), fieldsShape P g l off = some sh → (∀ f ∈ l, ∃ y, DataW.trod enc P w base spare held m f.type ((cs.drop f.offset).take (P.cellsOf f.type)) = some y) →
      Flat sh ((cs.drop off).take sh.length)
  | [], _, sh, h, _ => by
    simp only [fieldsShape, Option.some.injEq] at h
    subst h
    simp [Flat]
  | f :: r, off, sh, h, hf => by
    unfold fieldsShape at h
    split at h
    · rename_i ho
      split at h
      · rename_i s hs
        split at h
        · rename_i hc
          obtain ⟨s2, h2, rfl⟩ := Option.map_eq_some_iff.1 h
          obtain ⟨y, hy⟩ := hf f (List.mem_cons_self ..)
          rw [hc, ho] at hy
          have f1 := hg _ _ _ _ hs hy
          have f2 := fields_flat g m hg cs r (off + s.length) s2 h2 (fun f' h' => hf f' (List.mem_cons_of_mem _ h'))
          have e : (cs.drop off).take (s ++ s2).length = (cs.drop off).take s.length ++ (cs.drop (off + s.length)).take s2.length := by
            rw [List.length_append, List.take_add, List.drop_drop]
          rw [e]
          exact flat_append f1 f2
        · cases h
      · cases h
    · cases h

theorem array_flat (s : List (Option IntKind)) (cs : List Value) (n : Nat) (h : ∀ i, i < n → Flat s ((cs.drop (i * s.length)).take s.length)) : Flat (arrayShape s n) (cs.take (n * s.length)) := by
  induction n with
  | zero => simp [arrayShape, Flat]
  | succ n ih =>
    have e : cs.take ((n + 1) * s.length) = cs.take (n * s.length) ++ (cs.drop (n * s.length)).take s.length := by
      rw [Nat.succ_mul, List.take_add]
    rw [e]
    exact flat_append (ih fun i hi => h i (by omega)) (h n (by omega))
theorem arrayShape_length (s : List (Option IntKind)) (n : Nat) : (arrayShape s n).length = n * s.length := by
  induction n with
  | zero => simp [arrayShape]
  | succ n ih => simp [arrayShape, ih, Nat.succ_mul]

/-- what reads as data of such a type is, cell by cell, of its kinds -/
theorem flat_of_trod : ∀ (f : Nat) (m : Nat) (t : TypeId) (sh : List (Option IntKind)) (cs : List Value) (x : DataW H × List MemPlace), shapeOf P f t = some sh → sh.length = P.cellsOf t → DataW.trod enc P w base spare held m t cs = some x → Flat sh cs
  | 0, _, _, _, _, _, h, _, _ => by simp [shapeOf] at h
  | f + 1, m, t, sh, cs, x, h, hl, ht => by
    unfold shapeOf at h
    split at h
    · rename_i hu
      cases h
      obtain ⟨b, hb, _⟩ := DataW.trod_bool hu ht
      subst hb
      exact ⟨⟨b, rfl⟩, trivial⟩
    · rename_i k hu
      cases h
      obtain ⟨n, hn, _, hw⟩ := DataW.trod_int hu ht
      subst hn
      exact ⟨⟨n, rfl, hw⟩, trivial⟩
    · rename_i fs hu
      obtain ⟨xs, n, _, _, hlen, hxl, hf⟩ := DataW.trod_struct hu ht
      have hg : ∀ t s cs x, (fun t => (shapeOf P f t).bind fun s => if s.length = P.cellsOf t then some s else .none) t = some s → DataW.trod enc P w base spare held n t cs = some x → Flat s cs := by
        intro t s cs x hs hx
        simp only at hs
        cases he : shapeOf P f t with
        | none => simp [he] at hs
        | some s' =>
          simp only [he, Option.bind_some] at hs
          split at hs
          · rename_i hsl
            cases hs
            exact flat_of_trod f n t s cs x he hsl hx
          · cases hs
      have hsame : ∀ (l : List Field) (off : Nat) (sh : List (Option IntKind)), fieldsShape P (shapeOf P f) l off = some sh → fieldsShape P (fun t => (shapeOf P f t).bind fun s => if s.length = P.cellsOf t then some s else .none) l off = some sh := by
        intro l
        induction l with
        | nil => intro off sh h; simpa [fieldsShape] using h
        | cons fd r ih =>
          intro off sh h
          unfold fieldsShape at h ⊢
          split at h
          · rename_i ho
            rw [if_pos ho]
            split at h
            · rename_i s hs
              split at h
              · rename_i hc
                simp only [hs, Option.bind_some, if_pos hc.symm]
                rw [if_pos hc]
                obtain ⟨s2, h2, rfl⟩ := Option.map_eq_some_iff.1 h
                rw [ih _ _ h2]; rfl
              · cases h
            · cases h
          · cases h
      have hall : ∀ fd ∈ fs.toList, ∃ y, DataW.trod enc P w base spare held n fd.type ((cs.drop fd.offset).take (P.cellsOf fd.type)) = some y := by
        intro fd hfd
        obtain ⟨i, hi, rfl⟩ := List.mem_iff_getElem.1 hfd
        have hi' : i < fs.size := by simpa using hi
        have hgt := hf i fs[i] (Array.getElem?_eq_getElem hi')
        refine ⟨xs[i]'(by omega), ?_⟩
        rw [List.getElem?_eq_getElem (by omega)] at hgt
        simpa using hgt
      have hfl := fields_flat _ n hg cs fs.toList 0 sh (hsame _ _ _ h) hall
      rw [List.drop_zero, hl, ← hlen, List.take_length] at hfl
      exact hfl
    · rename_i n e hu
      split at h
      · rename_i s hs
        split at h
        · rename_i hc
          cases h
          obtain ⟨xs, m', _, _, hlen, hxl, hf⟩ := DataW.trod_array hu ht
          have hfl := array_flat s cs n (fun i hi => by
            have h1 := hf i hi
            rw [List.getElem?_eq_getElem (by omega), hc] at h1
            exact flat_of_trod f m' e s _ _ hs hc.symm h1)
          rw [← arrayShape_length, hl, ← hlen, List.take_length] at hfl
          exact hfl
        · cases h
      · cases h
    · cases h

/-- an argument by value -/
theorem open_flat {r : Reach} {b0 : Nat} {t : TypeId} {v : Value} {d : DataW H} {ps : List MemPlace} {f : Nat} {sh : List (Option IntKind)} (hs : shapeOf P f t = some sh) (hl : sh.length = P.cellsOf t)
    (ha : (match P.underlying t with | some (.struct _) | some (.array _ _) => true | _ => false) = true)
    (hval : Value.okWide P w r b0 t v) (hd : DataW.Trod enc P w base spare held t v d ps) : ∃ cs, v = .agg ⟨cs⟩ ∧ Flat sh cs := by
  have hv : ∃ cs : Array Value, v = .agg cs := by
    unfold Value.okWide at hval
    split at ha
    · rename_i hu; rw [hu] at hval; exact ⟨_, hval.choose_spec.1⟩
    · rename_i hu; rw [hu] at hval; exact ⟨_, hval.choose_spec.1⟩
    · cases ha
  obtain ⟨cs, rfl⟩ := hv
  obtain ⟨m, hm⟩ := hd
  exact ⟨cs.toList, rfl, flat_of_trod f m t sh _ _ hs hl (by simpa [Value.cells] using hm)⟩

end

theorem lt_of_cell {w : World} {a : Addr} {v : Value} (h : w.cell? a = some v) : a.block < w.heap.size := by
  unfold World.cell? at h
  split at h
  · rename_i hb; exact (Array.getElem?_eq_some_iff.1 hb).1
  · cases h

/-- what the walk knows of a slice that came in, whose elements are of such a type -/
def FlatSlice (sh : List (Option IntKind)) (w : World) (a : Option Addr) (len : Nat) : Prop :=
  len ≤ 9223372036854775807 ∧ ∀ i, i < len → ∃ (b off : Nat) (cs : List Value), a = some ⟨b, off, .none⟩ ∧ b < w.heap.size ∧ Flat sh cs ∧ ∀ j, j < sh.length → w.cell? ⟨b, off + (i * sh.length + j), .none⟩ = cs[j]?

section
variable {H : Type} {enc : TypeId × Value → H} {P : Program} {w : World} {base : Nat} {spare : Nat → Bool} {held : Bool}
theorem open_flat_slice {t e : TypeId} {d : DataW H} {ps : List MemPlace} {f : Nat} {sh : List (Option IntKind)} {a : Option Addr} {len cap : Nat} (ht : P.underlying t = some (.slice e)) (hs : shapeOf P f e = some sh) (hl : sh.length = P.cellsOf e) (hp : 0 < sh.length)
    (hd : DataW.Trod enc P w base spare held t (.slice a len cap) d ps) : FlatSlice sh w a len := by
  obtain ⟨m, hm⟩ := hd
  rcases open_slice ht hm with ⟨hcs, _⟩ | ⟨a', len', cap', m', n, D, Pl, hcs, _, hlc, hmx, hmm, _, hi⟩
  · simp [Value.cells] at hcs
    obtain ⟨rfl, rfl, rfl⟩ := hcs
    exact ⟨by omega, fun i h => by omega⟩
  · simp [Value.cells] at hcs
    obtain ⟨rfl, rfl, rfl⟩ := hcs
    refine ⟨by unfold maxLen at hmx; omega, fun i hlt => ?_⟩
    obtain ⟨cs', hc, htr⟩ := hi i (by rw [hmm]; split <;> omega)
    have hfl := flat_of_trod f n e sh cs' _ hs hl htr
    obtain ⟨_, hcl, hat⟩ := World.cells?_some hc
    have hlen := flat_length hfl
    obtain ⟨b, off, spot⟩ := a'
    have hspot : spot = .none := by
      obtain ⟨cs0, hc0, htr0⟩ := hi 0 (by rw [hmm]; split <;> omega)
      have hf0 := flat_length (flat_of_trod f n e sh cs0 _ hs hl htr0)
      have h0 := (World.cells?_some hc0).2.2 0 (by omega)
      rw [List.getElem?_eq_getElem (by omega)] at h0
      simpa [Addr.add] using World.cell?_spot h0
    have h0 := hat 0 (by omega)
    rw [List.getElem?_eq_getElem (by omega)] at h0
    subst hspot
    refine ⟨b, off, cs', rfl, by simpa [add_plain] using lt_of_cell h0, hfl, fun j hj => ?_⟩
    have hj' := hat j (by omega)
    rw [add_plain, add_plain, ← hl, Nat.add_assoc] at hj'
    exact hj'
end

/-- an element that is one number -/
theorem flatSlice_int {k : IntKind} {w : World} {a : Option Addr} {len : Nat} (h : FlatSlice [some k] w a len) (j : Nat) (hj : j < len) : ∃ b off v, a = some ⟨b, off, .none⟩ ∧ b < w.heap.size ∧ (Lit.int k v).wf = true ∧ w.cell? ⟨b, off + j, .none⟩ = some (.int k v) := by
  obtain ⟨b, off, cs, ha, hb, hf, hc⟩ := h.2 j hj
  match cs, hf with
  | [c], hf =>
    obtain ⟨⟨v, rfl, hv⟩, _⟩ := hf
    have := hc 0 (by simp)
    exact ⟨b, off, v, ha, hb, hv, by simpa using this⟩
theorem flat_int2 {k0 k1 : IntKind} {cs : List Value} (h : Flat [some k0, some k1] cs) : ∃ a b : Int, cs = [.int k0 a, .int k1 b] ∧ (Lit.int k0 a).wf = true ∧ (Lit.int k1 b).wf = true := by
  match cs, h with
  | [_, _], h =>
    obtain ⟨⟨a, rfl, ha⟩, ⟨b, rfl, hb⟩, _⟩ := h
    exact ⟨a, b, rfl, ha, hb⟩
theorem flat_int3 {k0 k1 k2 : IntKind} {cs : List Value} (h : Flat [some k0, some k1, some k2] cs) : ∃ a b c : Int, cs = [.int k0 a, .int k1 b, .int k2 c] ∧ (Lit.int k0 a).wf = true ∧ (Lit.int k1 b).wf = true ∧ (Lit.int k2 c).wf = true := by
  match cs, h with
  | [_, _, _], h =>
    obtain ⟨⟨a, rfl, ha⟩, ⟨b, rfl, hb⟩, ⟨c, rfl, hc⟩, _⟩ := h
    exact ⟨a, b, c, rfl, ha, hb, hc⟩
theorem flat_int4 {k0 k1 k2 k3 : IntKind} {cs : List Value} (h : Flat [some k0, some k1, some k2, some k3] cs) : ∃ a b c d : Int, cs = [.int k0 a, .int k1 b, .int k2 c, .int k3 d] ∧ (Lit.int k0 a).wf = true ∧ (Lit.int k1 b).wf = true ∧ (Lit.int k2 c).wf = true ∧ (Lit.int k3 d).wf = true := by
  match cs, h with
  | [_, _, _, _], h =>
    obtain ⟨⟨a, rfl, ha⟩, ⟨b, rfl, hb⟩, ⟨c, rfl, hc⟩, ⟨d, rfl, hd⟩, _⟩ := h
    exact ⟨a, b, c, d, rfl, ha, hb, hc, hd⟩
theorem flat_int5 {k0 k1 k2 k3 k4 : IntKind} {cs : List Value} (h : Flat [some k0, some k1, some k2, some k3, some k4] cs) : ∃ a b c d e : Int, cs = [.int k0 a, .int k1 b, .int k2 c, .int k3 d, .int k4 e] ∧ (Lit.int k0 a).wf = true ∧ (Lit.int k1 b).wf = true ∧ (Lit.int k2 c).wf = true ∧ (Lit.int k3 d).wf = true ∧ (Lit.int k4 e).wf = true := by
  match cs, h with
  | [_, _, _, _, _], h =>
    obtain ⟨⟨a, rfl, ha⟩, ⟨b, rfl, hb⟩, ⟨c, rfl, hc⟩, ⟨d, rfl, hd⟩, ⟨e, rfl, he⟩, _⟩ := h
    exact ⟨a, b, c, d, e, rfl, ha, hb, hc, hd, he⟩

/-- the form's own reach, of a slice among the arguments -/
theorem open_flat_reach {H : Type} {enc : TypeId × Value → H} {P : Program} {w : World} {base : Nat} {spare : Nat → Bool} {held : Bool} {t e : TypeId} {d : DataW H} {ps : List MemPlace} {a : Option Addr} {len cap : Nat} (ht : P.underlying t = some (.slice e))
    (hd : DataW.Trod enc P w base spare held t (.slice a len cap) d ps) {ts : List TypeId} {ds : List (DataW H)} {j : Nat} (hz : (DataW.weightsEach P ts ds).all (· ≤ reachBytes) = true) (hj : ts[j]? = some t) (hk : ds[j]? = some d) :
    (a = .none → len = 0 ∧ cap = 0) ∧ len * P.bytesOf e ≤ 140737488351232 := by
  obtain ⟨m, hm⟩ := hd
  rcases open_slice ht hm with ⟨hcs, _⟩ | ⟨a', len', cap', m', n, D, Pl, hcs, _, hlc, hmx, hmm, hx, hi⟩
  · simp [Value.cells] at hcs
    obtain ⟨rfl, rfl, rfl⟩ := hcs
    exact ⟨fun _ => ⟨rfl, rfl⟩, by simp⟩
  · simp [Value.cells] at hcs
    obtain ⟨rfl, rfl, rfl⟩ := hcs
    simp only [Prod.mk.injEq] at hx
    rw [hx.1] at hk
    have h := sized_slice hz hj hk ht
    refine ⟨fun h => (by cases h), ?_⟩
    rw [List.length_map, List.length_range] at h
    exact Nat.le_trans (Nat.mul_le_mul_right _ (Nat.le_add_right _ _)) h
end Go.Proofs.Ytnbljnpfmeidfaa
