/- Plain laws: what chapter 20's laws make of acts. Conditions: none but those that stand in each law. -/
import Derived.Test.YtdngcojjipaajaaPhist2
import Derived.Test.YtdngcojjipaajaaPmade
import Derived.Test.YtdngcojjipaajaaPpast3
import Derived.Test.YtdngcojjipaajaaFlaw20
namespace Go.Ark
open Go Go.Ab Go.RowKit

theorem law20_awake_eq : law20_awake = some true := by decide +kernel

/-- the four keys -/
def keys4 : List ByteArray := [ByteArray.mk #[97], ByteArray.mk #[98], ByteArray.mk #[99], ByteArray.mk #[100]]
theorem keys4_sorted : keys4.Pairwise fun a b => slt a b = true := by decide +kernel
theorem keys_few : ∀ {K : List ByteArray} {p : List Api_Dep}, sortedP p → K.Pairwise (fun a b => slt a b = true) → (∀ d, d ∈ p → d.Key ∈ K) → p.length ≤ K.length
  | [], [], _, _, _ => by simp
  | [], d :: p, _, _, h => absurd (h d (by simp)) (by simp)
  | k :: K, [], _, _, _ => by simp
  | k :: K, d :: p, hs, hK, h => by
    obtain ⟨s1, s2⟩ := List.pairwise_cons.1 hs
    obtain ⟨k1, k2⟩ := List.pairwise_cons.1 hK
    have : p.length ≤ K.length := keys_few s2 k2 fun x hx => by
      rcases List.mem_cons.1 (h x (by simp [hx])) with e | e
      · exfalso
        have h1 := s1 x hx
        rw [e] at h1
        rcases List.mem_cons.1 (h d (by simp)) with e2 | e2
        · rw [e2, slt_irrefl] at h1; cases h1
        · have := slt_trans h1 (k1 _ e2)
          rw [slt_irrefl] at this; cases this
      · exact e
    simp; omega
/-! ### rows of which each event is right -/
/-- all that was seen was written -/
def srcOK (pre : List Api_Event) (e : Api_Event) : Prop := ∀ d : Api_Dep, (d ∈ e.Seen ∨ (d = ⟨e.Key, e.Stamp⟩ ∧ okDep d = true)) → ∃ w, w ∈ pre ++ [e] ∧ w.Kind = 1 ∧ w.Key = d.Key ∧ w.Stamp = d.Stamp
def GoodE (pre : List Api_Event) (e : Api_Event) : Prop := rightP pre e = true ∧ srcOK pre e
def AllG (l : List Api_Event) : Prop := ∀ i (h : i < l.length), GoodE (l.take i) l[i]
theorem AllG.take {l : List Api_Event} (h : AllG l) (n : Nat) : AllG (l.take n) := by
  intro i hi
  have h1 : i < l.length := by simp at hi; omega
  have h2 : i < n := by simp at hi; omega
  rw [List.getElem_take, List.take_take, Nat.min_eq_left (by omega)]
  exact h i h1
theorem AllG.nil : AllG [] := fun i h => by simp at h
theorem firstBad_app : ∀ (r pre s : List Api_Event), (∀ i (h : i < r.length), rightP (pre ++ r.take i) r[i] = true) → firstBad pre (r ++ s) = firstBad (pre ++ r) s
  | [], pre, s, _ => by simp
  | e :: r, pre, s, h => by
    have h0 := h 0 (by simp)
    simp only [List.take_zero, List.append_nil, List.getElem_cons_zero] at h0
    rw [List.cons_append, firstBad_cons, if_pos h0, firstBad_app r (pre ++ [e]) s fun i hi => by
      have := h (i + 1) (by simp; omega)
      simpa using this]
    simp
theorem AllG.app {l : List Api_Event} (h : AllG l) (s : List Api_Event) : firstBad [] (l ++ s) = firstBad l s := firstBad_app l [] s fun i hi => by rw [List.nil_append]; exact (h i hi).1
theorem AllG.mem {l : List Api_Event} (h : AllG l) {e : Api_Event} (he : e ∈ l) : ∃ i, ∃ hi : i < l.length, l[i] = e ∧ rightP (l.take i) e = true ∧ srcOK (l.take i) e := by
  obtain ⟨i, hi, rfl⟩ := List.getElem_of_mem he
  exact ⟨i, hi, rfl, (h i hi).1, (h i hi).2⟩

theorem right_parts {pre : List Api_Event} {e : Api_Event} (h : rightP pre e = true) : okKey e.Key = true ∧ (∀ d, d ∈ e.Seen → okDep d = true) ∧ sortedP e.Seen ∧ coversP e.Seen (lastB pre e.Client) = true := by
  unfold rightP at h
  simp only [Bool.and_eq_true] at h
  obtain ⟨h1, h2, h3, -⟩ := h
  obtain ⟨a, b, -⟩ := chainP_iff.1 h2
  exact ⟨h1, a, b, h3⟩
theorem lastB_cases (out : List Api_Event) (c : Int) : lastB out c = [] ∨ ∃ x, x ∈ out ∧ x.Client = c ∧ lastB out c = behE x := by
  unfold lastB
  split
  · rename_i x h
    have hx := List.mem_filter.1 (List.mem_of_getLast? h)
    exact .inr ⟨x, hx.1, by simpa using hx.2, rfl⟩
  · exact .inl rfl
/-! ### what is known of events that were made -/
structure HI (l : List Law20_Act) (out : List Api_Event) (n : Nat) : Prop where
  len : out.length ≤ n
  good : AllG out
  each : ∀ e, e ∈ out → e.Key ∈ keys4 ∧ (e.Kind = 1 ∨ e.Kind = 2) ∧ (e.Kind = 1 → e.Stamp.Site = e.Client) ∧ e.Stamp.N ≤ 16 * n ∧ (∀ d, d ∈ e.Seen → d.Key ∈ keys4 ∧ d.Stamp.N ≤ 16 * n) ∧ ∃ a, a ∈ l ∧ e.Client = and3 a.Client
  cov : ∀ w, w ∈ out → w.Kind = 1 → leS w.Stamp (getP (lastB out w.Client) w.Key)

variable {l : List Law20_Act} {out : List Api_Event} {n : Nat}
theorem HI.nil : HI l [] 0 := ⟨Nat.le_refl _, AllG.nil, fun e h => by simp at h, fun w h => by simp at h⟩
theorem HI.mono (h : HI l out n) : HI l out (n + 1) := by
  refine ⟨by have := h.len; omega, h.good, fun e he => ?_, h.cov⟩
  obtain ⟨h1, h2, h3, h4, h5, h6⟩ := h.each e he
  exact ⟨h1, h2, h3, by omega, fun d hd => ⟨(h5 d hd).1, by have := (h5 d hd).2; omega⟩, h6⟩
theorem HI.parts (h : HI l out n) {e : Api_Event} (he : e ∈ out) : (∀ d, d ∈ e.Seen → okDep d = true) ∧ sortedP e.Seen ∧ e.Seen.length ≤ 4 := by
  obtain ⟨i, hi, rfl, h1, -⟩ := h.good.mem he
  obtain ⟨-, h2, h3, -⟩ := right_parts h1
  exact ⟨h2, h3, keys_few h3 keys4_sorted fun d hd => ((h.each _ he).2.2.2.2.1 d hd).1⟩
theorem HI.src (h : HI l out n) {e : Api_Event} (he : e ∈ out) {d : Api_Dep} (hd : d ∈ e.Seen ∨ (d = ⟨e.Key, e.Stamp⟩ ∧ okDep d = true)) : ∃ w, w ∈ out ∧ w.Kind = 1 ∧ w.Key = d.Key ∧ w.Stamp = d.Stamp := by
  obtain ⟨i, hi, rfl, -, h2⟩ := h.good.mem he
  obtain ⟨w, h3, h4⟩ := h2 d hd
  refine ⟨w, ?_, h4⟩
  rw [← take_snoc' hi] at h3
  exact List.mem_of_mem_take h3
theorem HI.beh (h : HI l out n) {e : Api_Event} (he : e ∈ out) {d : Api_Dep} (hd : d ∈ behE e) : okDep d = true ∧ d.Key ∈ keys4 ∧ d.Stamp.N ≤ 16 * n ∧ ∃ w, w ∈ out ∧ w.Kind = 1 ∧ w.Key = d.Key ∧ w.Stamp = d.Stamp := by
  have ho := behE_ok e d hd
  have hk := h.each e he
  rcases behE_mem hd with h1 | h1
  · exact ⟨ho, (hk.2.2.2.2.1 d h1).1, (hk.2.2.2.2.1 d h1).2, h.src he (.inl h1)⟩
  · refine ⟨ho, ?_, ?_, h.src he (.inr ⟨h1, ho⟩)⟩
    · rw [h1]; exact hk.1
    · rw [h1]; exact hk.2.2.2.1
theorem HI.last (h : HI l out n) (c : Int) : sortedP (lastB out c) ∧ ∀ d, d ∈ lastB out c → okDep d = true ∧ d.Key ∈ keys4 ∧ d.Stamp.N ≤ 16 * n ∧ ∃ w, w ∈ out ∧ w.Kind = 1 ∧ w.Key = d.Key ∧ w.Stamp = d.Stamp := by
  rcases lastB_cases out c with e | ⟨x, h1, -, e⟩
  · rw [e]; exact ⟨List.Pairwise.nil, fun d hd => by simp at hd⟩
  · rw [e]; exact ⟨behE_sorted x, fun d hd => h.beh h1 hd⟩
/-! ### one step -/
/-- what a read may be of -/
def fromOK (out : List Api_Event) (k : ByteArray) (p : List Api_Dep) (s : Api_Stamp) : Prop := (p = [] ∧ s = ⟨0, 0⟩) ∨ ∃ w, w ∈ out ∧ w.Kind = 1 ∧ w.Key = k ∧ w.Stamp = s ∧ w.Seen = p
theorem HI.from (h : HI l out n) {k : ByteArray} {p : List Api_Dep} {s : Api_Stamp} (hf : fromOK out k p s) : (∀ d, d ∈ p → okDep d = true ∧ d.Key ∈ keys4 ∧ d.Stamp.N ≤ 16 * n ∧ ∃ w, w ∈ out ∧ w.Kind = 1 ∧ w.Key = d.Key ∧ w.Stamp = d.Stamp) ∧ p.length ≤ 4 ∧ s.N ≤ 16 * n := by
  rcases hf with ⟨rfl, rfl⟩ | ⟨w, h1, -, -, rfl, rfl⟩
  · exact ⟨fun d hd => by simp at hd, by simp, by show (0 : Int) ≤ _; omega⟩
  · have hk := h.each w h1
    have hp := h.parts h1
    exact ⟨fun d hd => ⟨hp.1 d hd, (hk.2.2.2.2.1 d hd).1, (hk.2.2.2.2.1 d hd).2, h.src h1 (.inl hd)⟩, hp.2.2, hk.2.2.2.1⟩
/-! ### the whole -/
end Go.Ark
