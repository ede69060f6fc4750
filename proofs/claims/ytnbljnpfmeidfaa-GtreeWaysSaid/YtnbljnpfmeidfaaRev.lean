/- Contract of slices.Reverse over ints, on a row of the walk's own. Condition: the row lies in a block. -/
import Derived.Test.YtnbljnpfmeidfaaRefN
import Derived.Deep.LoopGhost
namespace Go.Proofs.Ytnbljnpfmeidfaa
open Go Go.RowKit Go.ChangeShapes Go.WideShapes
set_option linter.unusedVariables false

/-- turned round from both ends, i steps in -/
def Rv (l : List Int) (i : Nat) (d : List Int) : Prop := d.length = l.length ∧ ∀ m, m < l.length → d[m]? = if m < i ∨ l.length - 1 - i < m then l[l.length - 1 - m]? else l[m]?
theorem Rv.start (l : List Int) : Rv l 0 l := ⟨rfl, fun m hm => by rw [if_neg (by omega)]⟩
theorem Rv.done {l d : List Int} {i : Nat} (h : Rv l i d) (hi : l.length - 1 ≤ i + i) : d = l.reverse := by
  apply List.ext_getElem?
  intro m
  by_cases hm : m < l.length
  · rw [h.2 m hm, List.getElem?_reverse hm]
    by_cases hc : m < i ∨ l.length - 1 - i < m
    · rw [if_pos hc]
    · rw [if_neg hc]
      have : m = l.length - 1 - m := by omega
      rw [← this]
  · rw [List.getElem?_eq_none (by rw [h.1]; omega), List.getElem?_eq_none (by rw [List.length_reverse]; omega)]
theorem Rv.step {l d : List Int} {i : Nat} (h : Rv l i d) (hi : i < l.length - 1 - i) (a b : Int) (ha : d[i]? = some a) (hb : d[l.length - 1 - i]? = some b) : Rv l (i + 1) ((d.set i b).set (l.length - 1 - i) a) := by
  refine ⟨by simp [h.1], fun m hm => ?_⟩
  have ha' := h.2 i (by omega)
  have hb' := h.2 (l.length - 1 - i) (by omega)
  rw [if_neg (by omega), ha] at ha'
  rw [if_neg (by omega), hb] at hb'
  by_cases h1 : m = l.length - 1 - i
  · subst h1
    rw [List.getElem?_set_self (by simp [h.1]; omega), if_pos (by omega), ha']
    congr 1; omega
  · rw [List.getElem?_set_ne (by omega)]
    by_cases h2 : m = i
    · subst h2
      rw [List.getElem?_set_self (by rw [h.1]; omega), if_pos (by omega), hb']
    · rw [List.getElem?_set_ne (by omega), h.2 m hm]
      by_cases hc : m < i ∨ l.length - 1 - i < m
      · rw [if_pos hc, if_pos (by omega)]
      · rw [if_neg hc, if_neg (by omega)]
theorem iv_sets (l : List Int) (k : Nat) (x : Int) : (iv l).set k (.int .i64 x) = iv (l.set k x) := by rw [iv, iv, List.map_set]
theorem set_swap {l : List Int} {i j : Nat} {a b : Int} (h : i ≠ j) : (l.set j a).set i b = (l.set i b).set j a := List.set_comm _ _ (fun e => h e.symm)
set_option maxHeartbeats 1600000 in
theorem reverse_any (base g n cap : Nat) (l : List Int) (w : World) (h : w.ownsRow base 3 1 (.slice (some ⟨g, 0, none⟩) n cap) n (iv l)) (hn : n = l.length) (hb : n ≤ 1000) :
    Calls Try.prog 36 #[.slice (some ⟨g, 0, none⟩) n cap] w fun e w' => e = .returned (.tuple #[]) ∧ w'.ownsRow base 3 1 (.slice (some ⟨g, 0, none⟩) n cap) n (iv l.reverse) ∧ Tch (· = g) w w' := by
  have H := Lib.hid h
  have HN := Lib.hid hn
  clear h hn
  go_enter Try.func36, Try.ntmps36
  go_wp2_with fail
  go_loopg [2, 3] n (fun k s2 s3 wr => ∃ (i : Nat) (d : List Int), s2 = .int .i64 i ∧ s3 = .int .i64 ((n : Int) - 1 - i) ∧ i ≤ n ∧ n - i ≤ k ∧ Rv l i d ∧ wr.ownsRow base 3 1 (.slice (some ⟨g, 0, none⟩) n cap) n (iv d) ∧ Tch (· = g) w wr)
  case atStart => exact ⟨0, l, rfl, by simp, by omega, by omega, Rv.start l, H.out, Tch.refl _ _⟩
  case round =>
    obtain ⟨i, d, rfl, rfl, hin, hk, hrv, hown, htch⟩ := hrel
    have HV := Lib.hid hrv; have HO := Lib.hid hown; have HT := Lib.hid htch
    clear hrv hown htch
    by_cases hij : i < n - 1 - i
    · obtain ⟨j, hj⟩ : ∃ j, j = n - 1 - i := ⟨_, rfl⟩
      have hjz : (n : Int) - 1 - i = (j : Int) := by omega
      rw [hjz]
      have hdl : d.length = n := by rw [HV.out.1, HN.out]
      obtain ⟨a, ha⟩ : ∃ a, d[i]? = some a := ⟨_, List.getElem?_eq_getElem (by omega)⟩
      obtain ⟨b, hbb⟩ : ∃ b, d[j]? = some b := ⟨_, List.getElem?_eq_getElem (by omega)⟩
      have ci := icell HO.out hdl.symm i a ha
      have cj := icell HO.out hdl.symm j b hbb
      have fi := HO.out.frozenAt i
      have fj := HO.out.frozenAt j
      have hgl := (HO.out.lt g rfl).2
      have hji : i < j := by omega
      have hjn : j < n := by omega
      have HA := Lib.hid (And.intro ha hbb); have HJ := Lib.hid hj; have HDL := Lib.hid hdl; have HJZ := Lib.hid hjz
      clear hdl ha hbb hj hjz hij
      go_wp2_with fail
      go_region
      go_wp2
      go_roundg (n - (i + 1))
      case measure => omega
      case rel =>
        have hz : (n : Int) - 1 - ((i + 1 : Nat) : Int) = (j : Int) - 1 := by have := HJ.out; omega
        have hr : Rv l (i + 1) ((d.set i b).set j a) := by
          have := HV.out.step (by have := HN.out; have := HJ.out; omega) a b HA.out.1 (by have := HA.out.2; rw [HJ.out, HN.out] at this; exact this)
          rw [HJ.out, HN.out]; exact this
        have ho : (((wr.setCell ⟨g, i, none⟩ (.int .i64 b)).setCell ⟨g, j, none⟩ (.int .i64 a))).ownsRow base 3 1 (.slice (some ⟨g, 0, none⟩) n cap) n (iv ((d.set i b).set j a)) := by
          have h1 := (HO.out.stored i (.int .i64 b)).1
          rw [iv_sets] at h1
          have h2 := (h1.stored j (.int .i64 a)).1
          rwa [iv_sets] at h2
        exact ⟨i + 1, _, by go_num, by rw [hz], by omega, Nat.le_refl _, hr, ⟨ho.1, ho.2⟩, ((HT.out.setCell (.inl rfl) _).setCell (.inl rfl) _).drew⟩
    · go_wp2
      go_end0
      have hd : d = l.reverse := HV.out.done (by have := HN.out; omega)
      rw [← hd]
      exact ⟨rfl, HO.out, HT.out⟩
theorem reverse_nil (a : Option Addr) (cap : Nat) (w : World) :
    Calls Try.prog 36 #[.slice a 0 cap] w fun e w' => e = .returned (.tuple #[]) ∧ w = w' := by
  go_enter Try.func36, Try.ntmps36
  go_wp2_with fail
  go_loopg [2, 3] 0 (fun _ s2 s3 wr => s2 = .int .i64 0 ∧ s3 = .int .i64 (-1) ∧ w = wr)
  case atStart => exact ⟨rfl, rfl, rfl⟩
  case round =>
    obtain ⟨rfl, rfl, rfl⟩ := hrel
    go_wp2
    go_end0
    exact ⟨rfl, rfl⟩
end Go.Proofs.Ytnbljnpfmeidfaa
