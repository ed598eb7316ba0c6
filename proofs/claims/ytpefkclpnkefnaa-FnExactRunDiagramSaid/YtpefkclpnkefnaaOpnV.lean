/- Every argument that Go's data model can read is, cell by cell, a value of one of the kinds that the walks read; no condition but the type's own. -/
import Derived.Deep.Slices
import Derived.ChangeArms
import Derived.Test.YtpefkclpnkefnaaVWords
namespace Go.Proofs.Ytpefkclpnkefnaa.OpnV
open Go.ChangeShapes Go.WideShapes Go.Deep Go.RowKit
open Go.Proofs.YtpefkclpnkefnaaV.PrintWords
set_option linter.unusedVariables false

/-- What reads as type t is of kind d; `ok` is what is known of it. -/
def Opens (P : Program) {α : Type} (d : Kd α) (ok : α → Prop) (t : TypeId) : Prop :=
  ∀ (H : Type) (enc : TypeId × Value → H) (w : World) (base : Nat) (spare : Nat → Bool) (held : Bool) (fuel : Nat) (cs : List Value) (x : DataW H × List MemPlace),
    DataW.trod enc P w base spare held fuel t cs = some x → ∃ a, d.K w a cs ∧ ok a

theorem opens_int {P : Program} {t : TypeId} {k : IntKind} (ht : P.underlying t = some (.int k)) : Opens P (Kd.int k) (fun n => (Lit.int k n).wf = true) t := by
  intro H enc w base spare held fuel cs x h
  obtain ⟨n, rfl, _, hw⟩ := DataW.trod_int ht h
  exact ⟨n, rfl, hw⟩

theorem opens_bool {P : Program} {t : TypeId} (ht : P.underlying t = some .bool) : Opens P Kd.bool (fun _ => True) t := by
  intro H enc w base spare held fuel cs x h
  obtain ⟨n, rfl, _⟩ := DataW.trod_bool ht h
  exact ⟨n, rfl, trivial⟩

theorem opens_slice {P : Program} {α : Type} {d : Kd α} {ok : α → Prop} {t e : TypeId} (ht : P.underlying t = some (.slice e)) (hc : P.cellsOf e = d.sz) (hd : Opens P d ok e) :
    Opens P (Kd.slice e d) (fun l => l.length ≤ maxLen ∧ ∀ x ∈ l, ok x) t := by
  intro H enc w base spare held fuel cs x h
  rcases open_slice ht h with ⟨rfl, _⟩ | ⟨a, len, cap, m, n, D, Pl, rfl, hb, hl, hm, hmm, _, hx⟩
  · exact ⟨[], ⟨none, 0, rfl, Nat.le_refl _, rfl, by simp, fun h => absurd h (Nat.lt_irrefl 0)⟩, by simp [maxLen], fun x hx => by simp at hx⟩
  · have hlm : len ≤ m := by rw [hmm]; split <;> omega
    have key : ∀ k, k ≤ len → ∃ l : List α, l.length = k ∧ (∀ x ∈ l, ok x) ∧ ∀ j p, l[j]? = some p → ∃ c, c.length = d.sz ∧ d.K w p c ∧ ∀ i u, c[i]? = some u → w.cell? (a.add (j * d.sz + i)) = some u := by
      intro k
      induction k with
      | zero => exact fun _ => ⟨[], rfl, fun x hx => by simp at hx, fun j p hj => by simp at hj⟩
      | succ k ih =>
        intro hk
        obtain ⟨l, hll, hlo, hle⟩ := ih (by omega)
        obtain ⟨cs', hcs, htr⟩ := hx k (by omega)
        obtain ⟨p, hp, hpo⟩ := hd H enc w base spare held n cs' _ htr
        obtain ⟨_, hlen, hat⟩ := World.cells?_some hcs
        refine ⟨l ++ [p], by simp [hll], ?_, ?_⟩
        · intro x hx
          rcases List.mem_append.1 hx with hx | hx
          · exact hlo x hx
          · rw [List.mem_singleton.1 hx]; exact hpo
        · intro j q hj
          by_cases hjk : j < l.length
          · rw [List.getElem?_append_left hjk] at hj
            exact hle j q hj
          · rw [List.getElem?_append_right (by omega)] at hj
            have : j = k := by
              have := (List.getElem?_eq_some_iff.1 hj).1
              simp at this
              omega
            subst this
            have : q = p := by simpa [hll] using hj.symm
            subst this
            refine ⟨cs', by rw [hlen, hc], hp, fun i u hu => ?_⟩
            have hil : i < P.cellsOf e := by have := (List.getElem?_eq_some_iff.1 hu).1; omega
            rw [← hc, ← Go.Deep.add_add, hat i hil, hu]
    obtain ⟨l, hll, hlo, hle⟩ := key len (Nat.le_refl _)
    subst hll
    refine ⟨l, ⟨some a, cap, rfl, hl, rfl, ?_, fun _ => ⟨a, rfl, hle⟩⟩, by unfold maxLen at *; omega, hlo⟩
    unfold maxLen at hm
    omega

/-- The fields from offset o on, opened together. -/
def OpensFrom (P : Program) {α : Type} (d : Kd α) (ok : α → Prop) (fs : List Field) (o : Nat) : Prop :=
  ∀ (H : Type) (enc : TypeId × Value → H) (w : World) (base : Nat) (spare : Nat → Bool) (held : Bool) (n : Nat) (cs : List Value),
    (∀ f ∈ fs, ∃ x, DataW.trod enc P w base spare held n f.type ((cs.drop f.offset).take (P.cellsOf f.type)) = some x) → o + d.sz = cs.length → ∃ a, d.K w a (cs.drop o) ∧ ok a

theorem opensFrom_last {P : Program} {α : Type} {d : Kd α} {ok : α → Prop} {f : Field} {o : Nat} (hd : Opens P d ok f.type) (ho : f.offset = o) (hc : P.cellsOf f.type = d.sz) : OpensFrom P d ok [f] o := by
  intro H enc w base spare held n cs hf hl
  obtain ⟨x, hx⟩ := hf f (by simp)
  rw [ho, hc, List.take_of_length_le (by simp; omega)] at hx
  exact hd H enc w base spare held n _ x hx

theorem opensFrom_cons {P : Program} {α β : Type} {d : Kd α} {d' : Kd β} {ok : α → Prop} {ok' : β → Prop} {f : Field} {fs : List Field} {o : Nat} (hd : Opens P d ok f.type) (ho : f.offset = o) (hc : P.cellsOf f.type = d.sz)
    (hr : OpensFrom P d' ok' fs (o + d.sz)) : OpensFrom P (Kd.pair d d') (fun p => ok p.1 ∧ ok' p.2) (f :: fs) o := by
  intro H enc w base spare held n cs hf hl
  have hl' : o + (d.sz + d'.sz) = cs.length := hl
  obtain ⟨x, hx⟩ := hf f (by simp)
  rw [ho, hc] at hx
  obtain ⟨a, ha, hao⟩ := hd H enc w base spare held n _ x hx
  obtain ⟨b, hb, hbo⟩ := hr H enc w base spare held n cs (fun g hg => hf g (by simp [hg])) (by omega)
  refine ⟨(a, b), ⟨(cs.drop o).take d.sz, cs.drop (o + d.sz), ?_, ha, hb⟩, hao, hbo⟩
  rw [← List.drop_drop, List.take_append_drop]

theorem opens_struct {P : Program} {α : Type} {d : Kd α} {ok : α → Prop} {t : TypeId} {fs : Array Field} (ht : P.underlying t = some (.struct fs)) (hc : P.cellsOf t = d.sz) (hf : OpensFrom P d ok fs.toList 0) : Opens P d ok t := by
  intro H enc w base spare held fuel cs x h
  obtain ⟨xs, n, _, _, hlen, hxl, hg⟩ := DataW.trod_struct ht h
  refine (hf H enc w base spare held n cs (fun f hm => ?_) (by omega))
  obtain ⟨i, hi, he⟩ := List.getElem_of_mem hm
  have hi' : i < fs.size := by simpa using hi
  have h1 := hg i f (by rw [Array.getElem?_eq_getElem hi']; simpa using he)
  exact ⟨xs[i]'(by omega), by rw [h1, List.getElem?_eq_getElem (by omega)]⟩

theorem opens_iso {P : Program} {α β : Type} {d : Kd α} {ok : α → Prop} {t : TypeId} (f : β → α) (g : α → β) (hfg : ∀ a, f (g a) = a) (hd : Opens P d ok t) : Opens P (Kd.iso d f) (fun b => ok (f b)) t := by
  intro H enc w base spare held fuel cs x h
  obtain ⟨a, ha, hao⟩ := hd H enc w base spare held fuel cs x h
  exact ⟨g a, by show d.K w (f (g a)) cs; rw [hfg]; exact ha, by show ok (f (g a)); rw [hfg]; exact hao⟩

/-- A slice that is an argument. -/
theorem opens_arg_slice {P : Program} {α : Type} {d : Kd α} {ok : List α → Prop} {t e : TypeId} (hd : Opens P (Kd.slice e d) ok t) {H : Type} {enc : TypeId × Value → H} {w : World} {base : Nat} {spare : Nat → Bool} {held : Bool} {a : Option Addr} {len cap : Nat} {x : DataW H} {p : List MemPlace}
    (h : DataW.Trod enc P w base spare held t (.slice a len cap) x p) : ∃ l : List α, len = l.length ∧ l.length ≤ cap ∧ d.C w a l.length l ∧ ok l := by
  obtain ⟨fuel, hf⟩ := h
  obtain ⟨l, ⟨A, c, he, hl, hc⟩, ho⟩ := hd H enc w base spare held fuel _ _ hf
  simp [Value.cells] at he
  obtain ⟨rfl, rfl, rfl⟩ := he
  exact ⟨l, rfl, hl, hc, ho⟩

end Go.Proofs.Ytpefkclpnkefnaa.OpnV
