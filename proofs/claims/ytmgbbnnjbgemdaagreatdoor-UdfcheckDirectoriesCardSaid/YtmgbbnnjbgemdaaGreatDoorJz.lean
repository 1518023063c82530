/- The functions that a function leads to, reckoned with a mask of bits in place of a list of those seen: the same list as the form's. -/
import Derived.Test.YtmgbbnnjbgemdaaGreatDoorProg
import GoSem.ClaimFn
import Derived.KernelRfl
namespace Go.Proofs.YtmgbbnnjbgemdaaGreatDoor
open Go
/-- What a function leads to. -/
def nbs (P : Program) (f : FuncId) : List FuncId := (P.funcs[f]?).elim [] P.leadsTo
noncomputable def fastStep (P : Program) (ih : List Nat → Nat → List Nat → Option (List Nat)) (todo : List Nat) (m : Nat) (seen : List Nat) : Option (List Nat) :=
  List.rec (motive := fun _ => Option (List Nat)) (some seen.reverse) (fun f t _ => Bool.rec (motive := fun _ => Option (List Nat)) (ih (nbs P f ++ t) (m ||| (1 <<< f)) (f :: seen)) (ih t m seen) (m.testBit f)) todo
noncomputable def fastC (P : Program) (n : Nat) : List Nat → Nat → List Nat → Option (List Nat) :=
  Nat.rec (motive := fun _ => List Nat → Nat → List Nat → Option (List Nat)) (fun _ _ _ => none) (fun _ ih => fastStep P ih) n
theorem fastC_sound (P : Program) : ∀ (n : Nat) (todo : List Nat) (m : Nat) (seen r : List Nat), (∀ g, m.testBit g = seen.contains g) → fastC P n todo m seen = some r → ∀ k, n ≤ k → P.closureVia k todo seen = r
  | 0, _, _, _, _, _, h, _, _ => by cases h
  | n + 1, [], m, seen, r, _, h, k, _ => by
    have e : some seen.reverse = some r := h
    cases k with
    | zero => unfold Program.closureVia; exact Option.some.inj e
    | succ k => unfold Program.closureVia; exact Option.some.inj e
  | n + 1, f :: todo, m, seen, r, hm, h, k, hk => by
    obtain ⟨k, rfl⟩ : ∃ k', k = k' + 1 := ⟨k - 1, by omega⟩
    have h' : (Bool.rec (motive := fun _ => Option (List Nat)) (fastC P n (nbs P f ++ todo) (m ||| (1 <<< f)) (f :: seen)) (fastC P n todo m seen) (m.testBit f)) = some r := h
    rw [hm f] at h'
    unfold Program.closureVia
    by_cases hc : seen.contains f = true
    · rw [if_pos hc]
      rw [hc] at h'
      exact fastC_sound P n todo m seen r hm h' k (by omega)
    · have hc' : seen.contains f = false := by simpa using hc
      rw [if_neg hc]
      rw [hc'] at h'
      refine fastC_sound P n (nbs P f ++ todo) (m ||| (1 <<< f)) (f :: seen) r (fun g => ?_) h' k (by omega)
      rw [Nat.testBit_or, hm g, Nat.one_shiftLeft, Nat.testBit_two_pow, List.contains_cons, Bool.or_comm]
      congr 1
      by_cases hfg : f = g
      · subst hfg; simp
      · have : ¬ g = f := fun e => hfg e.symm
        simp [hfg, this]
noncomputable def closL (n : Nat) : List Nat := (fastC Tryz.prog n [3] 0 []).getD []
noncomputable def someAt (n : Nat) : Bool := (fastC Tryz.prog n [3] 0 []).isSome
noncomputable def fuelAt (n : Nat) : Bool := Nat.ble n (1 + (Tryz.prog.funcs.toList.map fun g => (Tryz.prog.leadsTo g).length + 1).sum)
theorem closure_of (n : Nat) (h1 : someAt n = true) (h2 : fuelAt n = true) : Tryz.prog.closure 3 = closL n := by
  obtain ⟨r, hr⟩ := Option.isSome_iff_exists.1 h1
  unfold Program.closure closL
  rw [hr]
  exact fastC_sound Tryz.prog n [3] 0 [] r (fun g => by simp) hr _ (Nat.le_of_ble_eq_true h2)
end Go.Proofs.YtmgbbnnjbgemdaaGreatDoor
