/- What the law GtreeDeep does, on the places alone. No program in sight; no conditions. -/
import Derived.Test.YtnbljnpfmeidfaaAw
namespace Go.Proofs.Ytnbljnpfmeidfaa
open Go
set_option linter.unusedVariables false

theorem cre_deep {s : Ps} {i g : Int} {k : Nat} (h1 : s.find i g = some k) (h2 : dep s.l k = 8) : s.cre i g = s := by
  unfold Ps.cre; rw [h1]; exact if_pos h2
theorem cre_full {s : Ps} {i g : Int} {k : Nat} (h1 : s.find i g = some k) (h3 : s.many = 32) : s.cre i g = s := by
  unfold Ps.cre; rw [h1]
  simp only
  split
  · rfl
  · exact if_pos h3
/-- eight groups one within the other, and then others within the root -/
def dH (k : Nat) : Int := if k < 8 then k else 0
def dS : Nat → Ps
  | 0 => ps0
  | k + 1 => (dS k).cre (dH k) 0
theorem dS_step : ∀ k < 31, (dS k).creI (dH k) 0 = k + 1 ∧ (dS k).creG (dH k) 0 = 0 ∧ (dS k).creE (dH k) 0 = 0 := by decide +kernel
theorem dS_ok : ∀ k, (dS k).Ok 32 (k + 1)
  | 0 => ps0_ok
  | k + 1 => (dS_ok k).cre _ _
theorem dS_tr : ∀ k, Tr (dS k).l
  | 0 => ps0_tr
  | k + 1 => (dS_tr k).cre (dS_ok k) _ _
theorem dS_eight : (dS 8).creI 8 0 = 0 ∧ (dS 8).creG 8 0 = 0 ∧ (dS 8).creE 8 0 = 5 := by decide +kernel
theorem dS_eight' : (dS 8).cre 8 0 = dS 8 := cre_deep (k := 8) (by decide +kernel) (by decide +kernel)
theorem dS_full : (dS 31).creI 0 0 = 0 ∧ (dS 31).creG 0 0 = 0 ∧ (dS 31).creE 0 0 = 3 := by decide +kernel
theorem dS_full' : (dS 31).cre 0 0 = dS 31 := cre_full (k := 0) (by decide +kernel) (by decide +kernel)
def dA : Ps := (dS 31).des 31 0
theorem dA_ok : dA.Ok 32 33 := (dS_ok 31).des _ _
theorem dA_tr : Tr dA.l := (dS_tr 31).des _ _
def dB : Ps := dA.cre 0 0
theorem dB_ok : dB.Ok 32 34 := dA_ok.cre _ _
theorem dB_tr : Tr dB.l := dA_tr.cre dA_ok _ _
theorem dA_E : (dS 31).desE 31 0 = 0 := by decide +kernel
theorem dA_odd : dA.creI 8 0 = 0 ∧ dA.creG 8 0 = 0 ∧ dA.creE 8 0 = 5 ∧ dA.desE 31 0 = 2 ∧ dA.desE 0 0 = 1 := by decide +kernel
theorem dA_odd' : dA.cre 8 0 = dA := cre_deep (k := 8) (by decide +kernel) (by decide +kernel)
theorem dA_even : dA.creI 0 0 = 31 ∧ dA.creG 0 0 = 1 ∧ dA.creE 0 0 = 0 ∧ dB.desE 31 0 = 2 ∧ dB.desE 0 0 = 1 := by decide +kernel
theorem des_err {s : Ps} {i g : Int} (h : s.find i g = none) : s.des i g = s := by unfold Ps.des; rw [h]
theorem dA_des : dA.des 31 0 = dA := des_err (by decide +kernel)
theorem dB_des : dB.des 31 0 = dB := des_err (by decide +kernel)
end Go.Proofs.Ytnbljnpfmeidfaa
