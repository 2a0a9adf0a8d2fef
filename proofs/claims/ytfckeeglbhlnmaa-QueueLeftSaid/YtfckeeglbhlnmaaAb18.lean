/- The abstract machine: rows read where they lie; words for rows that are written over. Conditions: none but those that stand in each law. -/
import Derived.Test.YtfckeeglbhlnmaaAb17
namespace Go.Ab
open Go Go.RowKit

/-- 'l[i] = x' -/
def sets {α : Type} (l : List α) (i : Int) (x : α) : Option (List α) := if 0 ≤ i ∧ i < l.length then some (l.set i.toNat x) else none
/-- 'clear(l[n:])' -/
def zeroes {α : Type} (l : List α) (n : Int) (z : α) : Option (List α) := if 0 ≤ n ∧ n ≤ l.length then some (l.take n.toNat ++ List.replicate (l.length - n.toNat) z) else none

theorem sets_ok {α β : Type} {l l' : List α} {i : Int} {x : α} (h : sets l i x = some l') (f : α → β) : 0 ≤ i ∧ i < (l.map f).length ∧ (l.map f).set i.toNat (f x) = l'.map f := by
  unfold sets at h
  split at h
  · rename_i c
    cases h
    exact ⟨c.1, by rw [List.length_map]; exact c.2, by rw [List.map_set]⟩
  · cases h

theorem zeroes_ok {α : Type} {l l' : List α} {n : Int} {z : α} (h : zeroes l n z = some l') (f : α → List DV) : 0 ≤ n ∧ n ≤ (l.map f).length ∧ spliceR (l.map f) n.toNat (List.replicate ((l.map f).length - n.toNat) (f z)) = l'.map f := by
  unfold zeroes at h
  split at h
  · rename_i c
    cases h
    refine ⟨c.1, by rw [List.length_map]; exact c.2, ?_⟩
    have : n.toNat ≤ l.length := by omega
    simp only [spliceR, List.length_map, List.map_append, List.map_take, List.map_replicate, List.length_replicate]
    rw [List.drop_of_length_le (by simp; omega)]
    simp
  · cases h

theorem cloneNil {α β : Type} {n : Nat} {s r : List α} {f : α → β} (hs : s.map f = []) (hF : ((app n [] s).bind fun l => some l) = some r) : (some [] : Option (List α)) = some r := by
  have : s = [] := by simpa using hs
  subst this
  simpa [app] using hF

section
variable {P : Program} {nt : Nat} {C : Cx P nt} {dst : Nat} {ty : TypeId} {pos : String} {af : Array Edge} {gd : Option (Nat × Bool)}

/-- a row that is only appended to, seen as the slice that it is now -/
theorem op_moveView {t k' T size : Nat} {es : List (List DV)} (hd : Nat.blt dst nt = true) : OpL C (Oo dst (.move (.tmp t)) ty pos af gd) [(t, .one (.own k' es))] [(k', some (.row T size es false))] [(dst, .one (.g (.d (.sl size es))))] [] :=
  opl_pure hd rfl fun sl hp β a w hs hh r => ⟨a.eval (.tmp t), by simp [execOp], own_data r hh.1 (r.sl t _ hs.1) (fun _ _ h => h) (fun b o hb ho hm => by
    rcases hm with hM | ⟨k1, e1, h1, h2, h3⟩
    · obtain ⟨h4, h5⟩ := r.low b o hM
      rcases (r.own k' _ b hh.1 hb).1 with h6 | h6
      · omega
      · exact h5 h6
    · obtain rfl := r.inj k1 k' e1 _ b h1 hh.1 h2 hb
      rw [hh.1] at h1; cases h1
      simp only [HE.mutAt, Bool.false_eq_true, false_or] at h3
      omega)⟩

variable {Q0 : Exit → Act → World → Prop} {k : List KI}
/-- a row that was written over, as long as it was: its slots name what it is now -/
theorem G.renew {sl : SL} {hp : HL} {t kk T size : Nat} {es0 es : List (List DV)} {ex : Bool} (hs : sget sl t = some (.one (.own kk es0))) (hh : hget hp kk = some (.row T size es ex)) (hl : es0.length = es.length)
    (h : G C Q0 k ⟨(t, .one (.own kk es)) :: sl, hp⟩) : G C Q0 k ⟨sl, hp⟩ :=
  ⟨fun a w ⟨β, r⟩ => h.go a w ⟨β, r.slot (sv := .one (.own kk es)) (by
    obtain ⟨T', size', es', ex', h1, h2, h3⟩ := (r.sl t _ hs : BR C hp β w (.own kk es0) _)
    have h4 : HE.row T' size' es' ex' = HE.row T size es ex := Option.some.inj (h1.symm.trans hh)
    cases h4
    exact ⟨T, size, es, ex, h1, Nat.le_refl _, fun _ => h3 hl⟩)⟩⟩

theorem G.arr {sl sl' : SL} {hp hp' : HL} (h : G C Q0 k ⟨sl', hp'⟩) (hs : HasS sl sl') (hh : HasH hp hp') (hsc : wellId sl' hp' = true) : G C Q0 k ⟨sl, hp⟩ := G.keep hs hh hsc h

theorem G.retNil {fn : Func} {sl : SL} {hp : HL} {t T E size bytes : Nat} {zz : Value} (hres : fn.results = #[.tmp t]) (hI : Info P E zz size bytes) (hz : Nat.blt 0 size = true) (hs : HasS sl [(t, .one (.x (.slice none 0 0)))]) :
    G C (bodyPost P fn (PostR C.M C.K C.w0 (.new T size []))) (.c .ret :: k) ⟨sl, hp⟩ := .mk <| fun a w ⟨β, r⟩ => by
  have hu : a.tmps.getD t undef = .slice none 0 0 := r.sl t _ hs.1
  refine wp_ret (Qof_ret ⟨r.df, a.tmps.getD t undef, ?_, a.tmps.getD t undef, rfl, r.keep, by simpa using hz, by simp, .inl ⟨rfl, none, hu⟩⟩)
  rw [results_eq, hres]
  simp [resF]
end

theorem sets_len {α β : Type} {l l' : List α} {i : Int} {x : α} (h : sets l i x = some l') (f : α → β) : (l.map f).length = (l'.map f).length := by
  unfold sets at h
  split at h
  · cases h; simp
  · cases h
theorem zeroes_len {α β : Type} {l l' : List α} {n : Int} {z : α} (h : zeroes l n z = some l') (f : α → β) : (l.map f).length = (l'.map f).length := by
  unfold zeroes at h
  split at h
  · cases h; simp; omega
  · cases h
end Go.Ab
