/- Steps of a plain proof over what functions ask. -/
import Derived.Test.YtamgnhdbeecapaaV15
set_option linter.unusedSimpArgs false
set_option linter.unusedVariables false
namespace Go.Ax.V

theorem condK_t {t : Bool} {a b : Prop} (h : t = true) (ha : a) : condK (.b t) a b := by subst h; exact ha
theorem condK_f {t : Bool} {a b : Prop} (h : t = false) (hb : b) : condK (.b t) a b := by subst h; exact hb
theorem condK_by {t : Bool} {a b : Prop} (ha : t = true → a) (hb : t = false → b) : condK (.b t) a b := by
  cases t with
  | true => exact ha rfl
  | false => exact hb rfl
theorem fin1 {Q : TV → Prop} {v : TV} (h : Q v) : True ∧ tupOk [v] ∧ Q v := ⟨trivial, trivial, h⟩
theorem fin2 {Q : TV → Prop} {a b : TV} (ha : a.isTp = false) (hb : b.isTp = false) (h : Q (.tp [a, b])) : True ∧ tupOk [a, b] ∧ Q (.tp [a, b]) := ⟨trivial, ⟨ha, hb, trivial⟩, h⟩
theorem tup2 {a b : TV} (ha : a.isTp = false) (hb : b.isTp = false) : tupOk [a, b] := ⟨ha, hb, trivial⟩
theorem vs_eq {prog : Map AFunc} {f : Nat} {ts : List TV} {c : TV} {K : TV → Prop} (h : VS prog f ts (fun r => r = c)) (hk : K c) : VS prog f ts (fun r => scOk true r ∧ K r) :=
  h.mono (fun r hr => by subst hr; exact ⟨trivial, hk⟩)
/-- an operation under a guard that holds, or not -/
theorem gV_t {t bb : Bool} {P : TV → Prop} {k : TV → Prop} {v : TV} (ht : t = bb) (hp : P v) (hk : k v) : ∃ v, gV (.b t) bb P v ∧ k v := by
  subst ht
  refine ⟨v, ?_, hk⟩
  unfold gV
  cases t <;> exact hp
theorem gV_f {t bb : Bool} {P : TV → Prop} {k : TV → Prop} (ht : t = !bb) (hk : k noT) : ∃ v, gV (.b t) bb P v ∧ k v := by
  subst ht
  refine ⟨noT, ?_, hk⟩
  unfold gV
  cases bb <;> rfl
theorem gV_n {bb : Bool} {P : TV → Prop} {k : TV → Prop} (hk : k noT) : ∃ v, gV noT bb P v ∧ k v := ⟨noT, rfl, hk⟩
end Go.Ax.V
