/- Plain laws: the last one of a chain; what cleaning keeps. Conditions: none but those that stand in each law. -/
import Derived.Test.YtjmleebbmomcgaaPlaw12
namespace Go.Ark
open Go Go.Ab Go.RowKit

theorem nil_or_snoc {α : Type} (l : List α) : l = [] ∨ ∃ l' v, l = l' ++ [v] := by
  rcases List.eq_nil_or_concat l with h | ⟨l', v, h⟩
  · exact .inl h
  · exact .inr ⟨l', v, by rw [h, List.concat_eq_append]⟩
theorem lastP_concat (l : List Api_Version) (v : Api_Version) : lastP (l ++ [v]) = (v, true) := by simp [lastP]
theorem lastP_nil : lastP [] = (zeroV, false) := rfl
theorem lastP_none {l : List Api_Version} (h : (lastP l).2 = false) : l = [] := by
  rcases nil_or_snoc l with rfl | ⟨l', v, rfl⟩
  · rfl
  · rw [lastP_concat] at h; cases h
theorem lastP_some {l : List Api_Version} {v : Api_Version} (h : lastP l = (v, true)) : ∃ l', l = l' ++ [v] := by
  rcases nil_or_snoc l with rfl | ⟨l', u, rfl⟩
  · rw [lastP_nil] at h; cases h
  · rw [lastP_concat] at h
    have : u = v := congrArg Prod.fst h
    subst this
    exact ⟨l', rfl⟩
theorem lastP_mem {l : List Api_Version} {v : Api_Version} (h : lastP l = (v, true)) : v ∈ l := by
  obtain ⟨l', rfl⟩ := lastP_some h
  simp
theorem lastP_pair {l : List Api_Version} (h : (lastP l).2 = true) : lastP l = ((lastP l).1, true) := by rw [← h]
theorem lastP_le {l : List Api_Version} (hs : sortedV l) {v : Api_Version} (h : lastP l = (v, true)) {x : Api_Version} (hx : x ∈ l) : leS x.Stamp v.Stamp := by
  obtain ⟨l', rfl⟩ := lastP_some h
  rcases List.mem_append.1 hx with hx | hx
  · exact leS_of_less ((List.pairwise_append.1 hs).2.2 x hx v (by simp))
  · simp at hx; subst hx; exact leS_refl _

theorem lastP_filter {l : List Api_Version} {p : Api_Version → Bool} (h : ∀ v, lastP l = (v, true) → p v = true) : lastP (l.filter p) = lastP l := by
  rcases nil_or_snoc l with rfl | ⟨l', v, rfl⟩
  · rfl
  · have := h v (lastP_concat _ _)
    rw [List.filter_append, List.filter_cons, if_pos this, List.filter_nil, lastP_concat, lastP_concat]

theorem sortedV_filter {l : List Api_Version} (hs : sortedV l) (p : Api_Version → Bool) : sortedV (l.filter p) := hs.filter p

theorem filter_comm {l : List Api_Version} (p q : Api_Version → Bool) : (l.filter p).filter q = (l.filter q).filter p := by
  rw [List.filter_filter, List.filter_filter]
  congr 1
  funext x
  exact Bool.and_comm _ _

theorem keepsP_head {l : List Api_Version} {stable : Api_Stamp} {pins : List Api_Stamp} {v : Api_Version} (h : lastP l = (v, true)) : keepsP l stable pins v = true := by
  simp [keepsP, h]
theorem keepsP_below {l : List Api_Version} {stable : Api_Stamp} {pins : List Api_Stamp} {v : Api_Version} (h : belowP l stable = (v, true)) : keepsP l stable pins v = true := by
  simp [keepsP, h]
theorem keepsP_late {l : List Api_Version} {stable : Api_Stamp} {pins : List Api_Stamp} {v : Api_Version} (h : lessP v.Stamp stable = false) : keepsP l stable pins v = true := by
  simp [keepsP, h]
theorem keepsP_pin {l : List Api_Version} {stable : Api_Stamp} {pins : List Api_Stamp} {v : Api_Version} (h : v.Stamp ∈ pins) : keepsP l stable pins v = true := by
  simp [keepsP, h]

theorem clean_head (l : List Api_Version) (stable : Api_Stamp) (pins : List Api_Stamp) : lastP (cleanP l stable pins) = lastP l := lastP_filter fun _ h => keepsP_head h

/-- at a stamp from stable on the same is told behind cleaning -/
theorem clean_below {l : List Api_Version} {stable at_ : Api_Stamp} (pins : List Api_Stamp) (h : lessP at_ stable = false) : belowP (cleanP l stable pins) at_ = belowP l at_ := by
  unfold belowP cleanP
  rw [filter_comm]
  refine lastP_filter fun v hv => ?_
  cases hl : lessP v.Stamp stable with
  | false => exact keepsP_late hl
  | true =>
    refine keepsP_below ?_
    unfold belowP
    have e : (l.filter fun v => !lessP stable v.Stamp) = (l.filter fun v => !lessP at_ v.Stamp).filter fun v => !lessP stable v.Stamp := by
      rw [List.filter_filter]
      refine List.filter_congr fun x _ => ?_
      cases hx : lessP stable x.Stamp with
      | true => rfl
      | false =>
        have h1 : leS x.Stamp stable := hx
        have h2 : leS stable at_ := h
        have h3 : lessP at_ x.Stamp = false := leS_trans h1 h2
        rw [h3]; rfl
    rw [e, lastP_filter, hv]
    intro u hu
    rw [hv] at hu
    have : v = u := congrArg Prod.fst hu
    subst this
    rw [lessP_asymm hl]; rfl

theorem clean_at {l : List Api_Version} (stable : Api_Stamp) {pins : List Api_Stamp} {s : Api_Stamp} (h : s ∈ pins) : atP (cleanP l stable pins) s = atP l s := by
  unfold atP cleanP
  rw [filter_comm]
  refine lastP_filter fun v hv => ?_
  have := (List.mem_filter.1 (lastP_mem hv)).2
  exact keepsP_pin (by rw [of_decide_eq_true this]; exact h)

theorem clean_again (l : List Api_Version) (stable : Api_Stamp) (pins : List Api_Stamp) : cleanP (cleanP l stable pins) stable pins = cleanP l stable pins := by
  have h1 := clean_head l stable pins
  have h2 := clean_below (l := l) (stable := stable) (at_ := stable) pins (lessP_irrefl _)
  refine List.filter_eq_self.2 fun v hv => ?_
  have := (List.mem_filter.1 hv).2
  unfold keepsP at this ⊢
  rw [h1, h2]
  exact this

theorem CI_clean {l : List Api_Version} (h : CI l) (stable : Api_Stamp) (pins : List Api_Stamp) : CI (cleanP l stable pins) :=
  ⟨sortedV_filter h.1 _, fun v hv => h.2 v (List.mem_filter.1 hv).1⟩
theorem clean_length (l : List Api_Version) (stable : Api_Stamp) (pins : List Api_Stamp) : (cleanP l stable pins).length ≤ l.length := List.length_filter_le _ _
theorem CI_check {l : List Api_Version} (h : CI l) : checkV l = true := checkV_true (fun v hv => ⟨(h.2 v hv).2.2, (h.2 v hv).1⟩) h.1
theorem CI_past {l : List Api_Version} (h : CI l) : ∀ v, v ∈ l → v.Past = [] := fun v hv => (h.2 v hv).2.1
theorem CI_pastlen {l : List Api_Version} (h : CI l) : ∀ v, v ∈ l → v.Past.length ≤ 140737488355328 := fun v hv => by rw [CI_past h v hv]; simp
theorem lastP_pastlen {l : List Api_Version} (h : ∀ v, v ∈ l → v.Past = []) : (lastP l).1.Past.length ≤ 140737488355328 := by rw [lastP_small h]; simp
end Go.Ark
