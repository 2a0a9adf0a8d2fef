/- Plain laws: which versions are sound, what of a past is left, and what is put back. Conditions: none but those that stand in each law. -/
import Derived.Test.YtildciopogbhcaaPnearest
import Derived.Test.YtildciopogbhcaaPmade
namespace Go.Ark
open Go Go.Ab Go.RowKit

/-- a past whose deps may be, each key once, in order -/
def PO (p : List Api_Dep) : Prop := sortedP p ∧ ∀ d, d ∈ p → okDep d = true

theorem covers_iff {p q : List Api_Dep} : coversP p q = true ↔ ∀ d, d ∈ q → leS d.Stamp (getP p d.Key) := by
  unfold coversP leS
  rw [List.all_eq_true]
  constructor
  · intro h d hd; simpa using h d hd
  · intro h d hd; simpa using h d hd
theorem covers_getP {p q : List Api_Dep} (hp : PO p) (h : coversP p q = true) (k : ByteArray) : leS (getP q k) (getP p k) := by
  rcases getP_cases q k with ⟨d, h1, rfl, h3⟩ | ⟨_, h2⟩
  · rw [h3]; exact covers_iff.1 h d h1
  · rw [h2]; exact zero_le_getP hp.2 k
theorem covers_trans {p q r : List Api_Dep} (hp : PO p) (h1 : coversP p q = true) (h2 : coversP q r = true) : coversP p r = true :=
  covers_iff.2 fun d hd => leS_trans (covers_iff.1 h2 d hd) (covers_getP hp h1 d.Key)
theorem covers_self {p : List Api_Dep} (hp : sortedP p) : coversP p p = true := covers_iff.2 fun d hd => by rw [getP_mem hp hd]; exact leS_refl _

def closedP (p : List Api_Dep) (l : List Api_Version) : Bool := p.all fun d => (findV l d).2 && coversP p (findV l d).1.Past
def toldP (p : List Api_Dep) (l : List Api_Version) (d : Api_Dep) : Bool := p.any fun x => decide (x ≠ d) && tellsP l x d
def redP (p : List Api_Dep) (l : List Api_Version) : List Api_Dep := p.filter fun d => !toldP p l d
def expP (p : List Api_Dep) (l : List Api_Version) : List Api_Dep := mergeP (p :: p.map fun d => (findV l d).1.Past)

/-- versions, each above what it saw, whose pasts are closed -/
structure WV (l : List Api_Version) : Prop where
  once : l.Pairwise fun a b => depOf a ≠ depOf b
  ok : ∀ v, v ∈ l → okDep (depOf v) = true
  past : ∀ v, v ∈ l → PO v.Past
  saw : ∀ v, v ∈ l → ∀ d, d ∈ v.Past → lessP d.Stamp v.Stamp = true ∧ ∃ u, u ∈ l ∧ depOf u = d ∧ coversP v.Past u.Past = true

theorem isP_iff {v : Api_Version} {d : Api_Dep} : isP v d = true ↔ depOf v = d := by
  unfold isP depOf
  cases d
  simp
theorem WV.one {l : List Api_Version} (h : WV l) {u v : Api_Version} (hu : u ∈ l) (hv : v ∈ l) (e : depOf u = depOf v) : u = v := by
  obtain ⟨i, hi, rfl⟩ := List.getElem_of_mem hu
  obtain ⟨j, hj, rfl⟩ := List.getElem_of_mem hv
  rcases Nat.lt_trichotomy i j with c | c | c
  · exact absurd e (List.pairwise_iff_getElem.1 h.once i j hi hj c)
  · subst c; rfl
  · exact absurd e.symm (List.pairwise_iff_getElem.1 h.once j i hj hi c)
theorem WV.find {l : List Api_Version} (h : WV l) {u : Api_Version} (hu : u ∈ l) : findV l (depOf u) = (u, true) := by
  cases c : (findV l (depOf u)).2 with
  | false =>
    have := (findV_none c).1 u hu
    rw [isP_iff.2 rfl] at this; cases this
  | true =>
    obtain ⟨h1, h2⟩ := findV_some c
    have := h.one h1 hu (isP_iff.1 h2)
    exact Prod.ext this c
theorem WV.closed {l : List Api_Version} (h : WV l) {p : List Api_Dep} : closedP p l = true ↔ ∀ d, d ∈ p → ∃ u, u ∈ l ∧ depOf u = d ∧ coversP p u.Past = true := by
  unfold closedP
  rw [List.all_eq_true]
  constructor
  · intro hh d hd
    have := hh d hd
    rw [Bool.and_eq_true] at this
    obtain ⟨h1, h2⟩ := findV_some this.1
    exact ⟨_, h1, isP_iff.1 h2, this.2⟩
  · intro hh d hd
    obtain ⟨u, h1, rfl, h3⟩ := hh d hd
    rw [h.find h1, Bool.and_eq_true]
    exact ⟨rfl, h3⟩
theorem WV.tells {l : List Api_Version} (h : WV l) {p : List Api_Dep} (hp : PO p) (hc : closedP p l = true) {x d : Api_Dep} (hx : x ∈ p) (hd : d ∈ p) : tellsP l x d = true ↔ ∃ u, u ∈ l ∧ depOf u = x ∧ d ∈ u.Past := by
  obtain ⟨u, h1, rfl, h3⟩ := h.closed.1 hc x hx
  unfold tellsP
  rw [h.find h1, Bool.true_and]
  constructor
  · intro h4
    refine ⟨u, h1, rfl, (mem_getP (h.past u h1).1 (h.past u h1).2 (hp.2 d hd)).2 ?_⟩
    have h5 := covers_getP hp h3 d.Key
    rw [getP_mem hp.1 hd] at h5
    exact leS_antisymm h5 (by simpa [leS] using h4)
  · rintro ⟨w, h4, h5, h6⟩
    have := h.one h4 h1 h5
    subst this
    rw [getP_mem (h.past w h4).1 h6, lessP_irrefl]; rfl

/-- how far a stamp is from the greatest one -/
def mS (s : Api_Stamp) : Nat := ((1099511627776 - s.N) * 6 + (6 - s.Site)).toNat
theorem mS_lt {a b : Api_Stamp} (ha : okStamp a = true) (hb : okStamp b = true) (h : lessP a b = true) : mS b < mS a := by
  unfold okStamp at ha hb
  simp only [Bool.and_eq_true, decide_eq_true_eq] at ha hb
  rw [lessP_iff] at h
  unfold mS
  omega

/-- what is told of is told of by one that is left -/
theorem WV.top {l : List Api_Version} (h : WV l) {p : List Api_Dep} (hp : PO p) (hc : closedP p l = true) : ∀ n d, d ∈ p → mS d.Stamp < n → ∃ x, x ∈ redP p l ∧ (x = d ∨ ∃ u, u ∈ l ∧ depOf u = x ∧ leS d.Stamp (getP u.Past d.Key))
  | 0, _, _, hn => by omega
  | n + 1, d, hd, hn => by
    cases ht : toldP p l d with
    | false => exact ⟨d, List.mem_filter.2 ⟨hd, by rw [ht]; rfl⟩, .inl rfl⟩
    | true =>
      obtain ⟨y, hy, h1⟩ := List.any_eq_true.1 ht
      rw [Bool.and_eq_true] at h1
      obtain ⟨u, hu, rfl, h3⟩ := (h.tells hp hc hy hd).1 h1.2
      have h4 := (h.saw u hu d h3).1
      have h5 : okStamp d.Stamp = true := okDep_stamp (hp.2 d hd)
      have h6 : okStamp u.Stamp = true := okDep_stamp (h.ok u hu)
      have h7 := mS_lt h5 h6 h4
      obtain ⟨x, hx, h8⟩ := WV.top h hp hc n (depOf u) hy (by show mS u.Stamp < n; omega)
      refine ⟨x, hx, .inr ?_⟩
      rcases h8 with rfl | ⟨w, hw, rfl, h9⟩
      · exact ⟨u, hu, rfl, by rw [getP_mem (h.past u hu).1 h3]; exact leS_refl _⟩
      · refine ⟨w, hw, rfl, ?_⟩
        have hxp : depOf w ∈ p := (List.mem_filter.1 hx).1
        obtain ⟨w', k1, k2, k3⟩ := h.closed.1 hc _ hxp
        have := h.one k1 hw k2
        subst this
        have k4 := covers_getP hp k3 (depOf u).Key
        rw [getP_mem hp.1 hy] at k4
        have k5 : depOf u ∈ w'.Past := (mem_getP (h.past w' hw).1 (h.past w' hw).2 (hp.2 _ hy)).2 (leS_antisymm k4 h9)
        obtain ⟨-, u', j1, j2, j3⟩ := h.saw w' hw _ k5
        have := h.one j1 hu j2
        subst this
        exact covers_iff.1 j3 d h3

theorem gives_iff {p : List Api_Dep} (hp : PO p) {s : Api_Stamp} (h0 : leS ⟨0, 0⟩ s) {k : ByteArray} : gives p k s ↔ lessP s (getP p k) = true := by
  rw [← less_getP h0 hp.1]
  unfold gives
  constructor
  · rintro ⟨d, h1, _, h3, h4⟩; exact ⟨d, h1, h3, h4⟩
  · rintro ⟨d, h1, h3, h4⟩; exact ⟨d, h1, hp.2 d h1, h3, h4⟩
theorem less_mergeFold_iff {s : Api_Stamp} {k : ByteArray} : ∀ (L : List (List Api_Dep)) {acc : List Api_Dep}, sortedP acc → (lessP s (getP (L.foldl foldP acc) k) = true ↔ lessP s (getP acc k) = true ∨ ∃ q, q ∈ L ∧ gives q k s)
  | [], acc, _ => by simp
  | q :: L, acc, hs => by
    rw [List.foldl_cons, less_mergeFold_iff L (foldP_sorted q acc hs), less_fold_iff hs]
    simp [or_assoc]
theorem less_mergeP {s : Api_Stamp} (h0 : leS ⟨0, 0⟩ s) {k : ByteArray} {L : List (List Api_Dep)} : lessP s (getP (mergeP L) k) = true ↔ ∃ q, q ∈ L ∧ gives q k s := by
  unfold mergeP
  rw [less_mergeFold_iff L List.Pairwise.nil]
  simp [getP, not_less_zero h0]
theorem mergeP_PO (L : List (List Api_Dep)) : PO (mergeP L) := ⟨mergeFold_sorted _ _ List.Pairwise.nil, mergeFold_ok L fun d hd => by simp at hd⟩
theorem PO_ext {p q : List Api_Dep} (hp : PO p) (hq : PO q) (h : ∀ k s, leS ⟨0, 0⟩ s → (lessP s (getP p k) = true ↔ lessP s (getP q k) = true)) : p = q := past_ext hp.1 hq.1 hp.2 hq.2 h
theorem redP_sub {p : List Api_Dep} {l : List Api_Version} {d : Api_Dep} (h : d ∈ redP p l) : d ∈ p := (List.mem_filter.1 h).1
theorem redP_PO {p : List Api_Dep} (hp : PO p) (l : List Api_Version) : PO (redP p l) := ⟨List.Pairwise.filter _ hp.1, fun d hd => hp.2 d (redP_sub hd)⟩

/-- WHAT WAS REDUCED AND EXPANDED AGAIN, IS IT -/
theorem WV.back {l : List Api_Version} (h : WV l) {p : List Api_Dep} (hp : PO p) (hc : closedP p l = true) : expP (redP p l) l = p := by
  refine PO_ext (mergeP_PO _) hp fun k s h0 => ?_
  unfold expP
  rw [less_mergeP h0]
  constructor
  · rintro ⟨q, hq, h1⟩
    rcases List.mem_cons.1 hq with rfl | hq
    · obtain ⟨d, h2, h3, h4, h5⟩ := h1
      exact (less_getP h0 hp.1).1 ⟨d, redP_sub h2, h4, h5⟩
    · obtain ⟨x, hx, rfl⟩ := List.mem_map.1 hq
      obtain ⟨u, k1, rfl, k3⟩ := h.closed.1 hc x (redP_sub hx)
      rw [h.find k1] at h1
      exact less_of_leS' ((gives_iff (h.past u k1) h0).1 h1) (covers_getP hp k3 k)
  · intro h1
    obtain ⟨d, h2, rfl, h4⟩ := (less_getP h0 hp.1).2 h1
    obtain ⟨x, hx, h5⟩ := h.top hp hc _ d h2 (Nat.lt_succ_self _)
    rcases h5 with rfl | ⟨u, hu, rfl, h6⟩
    · exact ⟨_, by simp, x, hx, hp.2 _ h2, rfl, h4⟩
    · refine ⟨u.Past, List.mem_cons_of_mem _ (List.mem_map.2 ⟨_, hx, by rw [h.find hu]⟩), (gives_iff (h.past u hu) h0).2 (less_of_leS' h4 h6)⟩
theorem WV.some {l : List Api_Version} (h : WV l) {p : List Api_Dep} (hp : PO p) (hc : closedP p l = true) (hn : p ≠ []) : redP p l ≠ [] := by
  cases p with
  | nil => exact absurd rfl hn
  | cons d p =>
    obtain ⟨x, hx, _⟩ := h.top hp hc _ d (by simp) (Nat.lt_succ_self _)
    intro e
    rw [e] at hx; simp at hx

/-- of a closed past nothing is put to it -/
theorem WV.exp_closed {l : List Api_Version} (h : WV l) {p : List Api_Dep} (hp : PO p) (hc : closedP p l = true) : expP p l = p := by
  refine PO_ext (mergeP_PO _) hp fun k s h0 => ?_
  unfold expP
  rw [less_mergeP h0]
  constructor
  · rintro ⟨q, hq, h1⟩
    rcases List.mem_cons.1 hq with rfl | hq
    · exact (gives_iff hp h0).1 h1
    · obtain ⟨x, hx, rfl⟩ := List.mem_map.1 hq
      obtain ⟨u, k1, rfl, k3⟩ := h.closed.1 hc x hx
      rw [h.find k1] at h1
      exact less_of_leS' ((gives_iff (h.past u k1) h0).1 h1) (covers_getP hp k3 k)
  · intro h1
    exact ⟨p, by simp, (gives_iff hp h0).2 h1⟩
theorem exp_covers {p : List Api_Dep} (hp : PO p) (l : List Api_Version) : coversP (expP p l) p = true := by
  refine covers_iff.2 fun d hd => ?_
  unfold expP mergeP
  rw [List.foldl_cons]
  have h1 : ∀ (L : List (List Api_Dep)) {acc : List Api_Dep}, sortedP acc → leS (getP acc d.Key) (getP (L.foldl foldP acc) d.Key) := by
    intro L
    induction L with
    | nil => intro acc _; exact leS_refl _
    | cons q L ih => intro acc hs; exact leS_trans (getP_foldP_le q hs _) (ih (foldP_sorted q acc hs))
  refine leS_trans ?_ (h1 _ (foldP_sorted p [] List.Pairwise.nil))
  exact getP_foldP_mem p List.Pairwise.nil hd (hp.2 d hd)

/-! the past of some of them -/
theorem pastOf_PO (cs : List Api_Version) : PO (pastOf cs) := by
  rcases List.eq_nil_or_concat cs with rfl | ⟨cs', c, rfl⟩
  · exact ⟨List.Pairwise.nil, fun d h => by simp [pastOf] at h⟩
  · rw [List.concat_eq_append, pastOf_snoc]; exact mergeP_PO _
theorem less_pastOf {s : Api_Stamp} (h0 : leS ⟨0, 0⟩ s) {k : ByteArray} : ∀ {n : Nat} {cs : List Api_Version}, cs.length = n → (lessP s (getP (pastOf cs) k) = true ↔ ∃ c, c ∈ cs ∧ (gives c.Past k s ∨ gives [depOf c] k s))
  | 0, cs, hn => by
    obtain rfl := List.length_eq_zero_iff.1 hn
    simp [pastOf, getP, not_less_zero h0]
  | n + 1, cs, hn => by
    obtain ⟨cs', c, rfl⟩ : ∃ cs' c, cs = cs' ++ [c] := ⟨cs.dropLast, cs.getLast (by intro h; simp [h] at hn), (List.dropLast_concat_getLast _).symm⟩
    rw [pastOf_snoc, less_mergeP h0]
    have ih := less_pastOf h0 (k := k) (n := n) (cs := cs') (by simpa using hn)
    rw [← gives_iff (pastOf_PO cs') h0] at ih
    constructor
    · rintro ⟨q, hq, h1⟩
      simp only [List.mem_cons, List.not_mem_nil, or_false] at hq
      rcases hq with rfl | rfl | rfl
      · obtain ⟨x, hx, h2⟩ := ih.1 h1
        exact ⟨x, by simp [hx], h2⟩
      · exact ⟨c, by simp, .inl h1⟩
      · exact ⟨c, by simp, .inr h1⟩
    · rintro ⟨x, hx, h1⟩
      rcases List.mem_append.1 hx with hx | hx
      · exact ⟨_, by simp, ih.2 ⟨x, hx, h1⟩⟩
      · simp at hx; subst hx
        rcases h1 with h1 | h1
        · exact ⟨_, by simp, h1⟩
        · exact ⟨[depOf x], by simp, h1⟩
theorem pastOf_mem {d : Api_Dep} : ∀ {n : Nat} {cs : List Api_Version}, cs.length = n → d ∈ pastOf cs → ∃ c, c ∈ cs ∧ (d ∈ c.Past ∨ d = depOf c)
  | 0, cs, hn, h => by
    obtain rfl := List.length_eq_zero_iff.1 hn
    simp [pastOf] at h
  | n + 1, cs, hn, h => by
    obtain ⟨cs', c, rfl⟩ : ∃ cs' c, cs = cs' ++ [c] := ⟨cs.dropLast, cs.getLast (by intro h; simp [h] at hn), (List.dropLast_concat_getLast _).symm⟩
    rw [pastOf_snoc] at h
    rcases mergeFold_mem _ _ h with h | ⟨q, hq, h⟩
    · simp at h
    · simp only [List.mem_cons, List.not_mem_nil, or_false] at hq
      rcases hq with rfl | rfl | rfl
      · obtain ⟨x, hx, h2⟩ := pastOf_mem (n := n) (by simpa using hn) h
        exact ⟨x, by simp [hx], h2⟩
      · exact ⟨c, by simp, .inl h⟩
      · simp at h; exact ⟨c, by simp, .inr h⟩
theorem pastOf_covers {cs : List Api_Version} {c : Api_Version} (hc : c ∈ cs) (hp : PO c.Past) : coversP (pastOf cs) c.Past = true := by
  refine covers_iff.2 fun d hd => ?_
  unfold leS
  cases h : lessP (getP (pastOf cs) d.Key) d.Stamp with
  | false => rfl
  | true =>
    have h0 := zero_le_getP (pastOf_PO cs).2 d.Key
    have := (less_pastOf (k := d.Key) h0 rfl).2 ⟨c, hc, .inl ⟨d, hd, hp.2 d hd, rfl, h⟩⟩
    rw [lessP_irrefl] at this; cases this
theorem pastOf_covers' {cs : List Api_Version} {c : Api_Version} (hc : c ∈ cs) (ho : okDep (depOf c) = true) : leS c.Stamp (getP (pastOf cs) c.Key) := by
  unfold leS
  cases h : lessP (getP (pastOf cs) c.Key) c.Stamp with
  | false => rfl
  | true =>
    have h0 := zero_le_getP (pastOf_PO cs).2 c.Key
    have := (less_pastOf (k := c.Key) h0 rfl).2 ⟨c, hc, .inr ⟨depOf c, by simp, ho, rfl, h⟩⟩
    rw [lessP_irrefl] at this; cases this
theorem WV.of {l : List Api_Version} (h : WV l) {cs : List Api_Version} (hc : ∀ c, c ∈ cs → c ∈ l) {d : Api_Dep} (hd : d ∈ pastOf cs) : ∃ u, u ∈ l ∧ depOf u = d ∧ coversP (pastOf cs) u.Past = true := by
  obtain ⟨c, hcc, h1 | rfl⟩ := pastOf_mem rfl hd
  · obtain ⟨-, u, h2, h3, h4⟩ := h.saw c (hc c hcc) d h1
    exact ⟨u, h2, h3, covers_trans (pastOf_PO cs) (pastOf_covers hcc (h.past c (hc c hcc))) h4⟩
  · exact ⟨c, hc c hcc, rfl, pastOf_covers hcc (h.past c (hc c hcc))⟩
theorem WV.all_closed {l : List Api_Version} (h : WV l) : closedP (pastOf l) l = true := h.closed.2 fun _ hd => h.of (fun _ hc => hc) hd
theorem WV.past_closed {l : List Api_Version} (h : WV l) {v : Api_Version} (hv : v ∈ l) : closedP v.Past l = true := h.closed.2 fun d hd => (h.saw v hv d hd).2

/-- one more is put to it -/
theorem WV.snoc {l : List Api_Version} (h : WV l) {key : ByteArray} {site : Int} {cs : List Api_Version} (hc : ∀ c, c ∈ cs → c ∈ l) (ho : okDep (depOf (newV key site cs)) = true) (hn : ∀ u, u ∈ l → depOf u ≠ depOf (newV key site cs)) : WV (l ++ [newV key site cs]) := by
  constructor
  · refine List.pairwise_append.2 ⟨h.once, by simp, fun a ha b hb => ?_⟩
    simp at hb; subst hb; exact hn a ha
  · intro v hv
    rcases List.mem_append.1 hv with hv | hv
    · exact h.ok v hv
    · simp at hv; subst hv; exact ho
  · intro v hv
    rcases List.mem_append.1 hv with hv | hv
    · exact h.past v hv
    · simp at hv; subst hv; exact pastOf_PO cs
  · intro v hv d hd
    rcases List.mem_append.1 hv with hv | hv
    · obtain ⟨h1, u, h2, h3⟩ := h.saw v hv d hd
      exact ⟨h1, u, by simp [h2], h3⟩
    · simp at hv; subst hv
      have hd : d ∈ pastOf cs := hd
      obtain ⟨u, h2, h3⟩ := h.of hc hd
      refine ⟨?_, u, by simp [h2], h3⟩
      have := le_maxN hd
      rw [lessP_iff]
      exact .inl (by show d.Stamp.N < maxN (pastOf cs) + 1; omega)
theorem WV.nil : WV [] := ⟨List.Pairwise.nil, fun v h => by simp at h, fun v h => by simp at h, fun v h => by simp at h⟩

/-! a write's own past, with itself -/
def ownPast (v : Api_Version) : List Api_Dep := mergeP [v.Past, [depOf v]]
theorem ownPast_mem {v : Api_Version} {d : Api_Dep} (h : d ∈ ownPast v) : d ∈ v.Past ∨ d = depOf v := by
  rcases mergeFold_mem _ _ h with h | ⟨q, hq, h⟩
  · simp at h
  · simp only [List.mem_cons, List.not_mem_nil, or_false] at hq
    rcases hq with rfl | rfl
    · exact .inl h
    · simp at h; exact .inr h
theorem ownPast_eq {v : Api_Version} (hp : PO v.Past) : ownPast v = foldP v.Past [depOf v] := by
  show foldP (foldP [] v.Past) _ = _
  rw [foldP_self hp.1 hp.2]
theorem WV.own_covers {l : List Api_Version} (h : WV l) {v : Api_Version} (hv : v ∈ l) : coversP (ownPast v) v.Past = true := covers_iff.2 fun d hd => by
  have hp := h.past v hv
  rw [ownPast_eq hp, ← getP_mem hp.1 hd]
  exact getP_foldP_le _ hp.1 _
theorem WV.own_self {l : List Api_Version} (h : WV l) {v : Api_Version} (hv : v ∈ l) : depOf v ∈ ownPast v := by
  have hp := h.past v hv
  refine (mem_getP (mergeP_PO _).1 (mergeP_PO _).2 (h.ok v hv)).2 ?_
  show getP (ownPast v) _ = _
  rw [ownPast_eq hp]
  show getP (addP v.Past (depOf v)) _ = _
  rw [getP_addP hp.1, if_pos ⟨h.ok v hv, rfl⟩]
  unfold maxS
  rw [if_pos]
  rcases getP_cases v.Past (depOf v).Key with ⟨d, h1, h2, h3⟩ | ⟨_, h2⟩
  · rw [h3]; exact (h.saw v hv d h1).1
  · rw [h2]; exact zero_leS (okDep_stamp (h.ok v hv))
theorem WV.own_closed {l : List Api_Version} (h : WV l) {v : Api_Version} (hv : v ∈ l) : closedP (ownPast v) l = true := h.closed.2 fun d hd => by
  rcases ownPast_mem hd with h1 | rfl
  · obtain ⟨-, u, h2, h3, h4⟩ := h.saw v hv d h1
    exact ⟨u, h2, h3, covers_trans (mergeP_PO _) (h.own_covers hv) h4⟩
  · exact ⟨v, hv, rfl, h.own_covers hv⟩
theorem WV.own_red {l : List Api_Version} (h : WV l) {v : Api_Version} (hv : v ∈ l) : redP (ownPast v) l = [depOf v] := by
  have hp : PO (ownPast v) := mergeP_PO _
  have hc := h.own_closed hv
  have hs := h.own_self hv
  refine past_sorted_ext (redP_PO hp l).1 (List.pairwise_singleton _ _) fun d => ?_
  rw [List.mem_singleton]
  constructor
  · intro hd
    obtain ⟨h1, h2⟩ := List.mem_filter.1 hd
    rcases ownPast_mem h1 with h3 | h3
    · apply Classical.byContradiction
      intro hne
      have : toldP (ownPast v) l d = true := List.any_eq_true.2 ⟨depOf v, hs, by rw [Bool.and_eq_true]; exact ⟨decide_eq_true fun e => hne e.symm, (h.tells hp hc hs h1).2 ⟨v, hv, rfl, h3⟩⟩⟩
      rw [this] at h2; cases h2
    · exact h3
  · rintro rfl
    refine List.mem_filter.2 ⟨hs, ?_⟩
    cases ht : toldP (ownPast v) l (depOf v) with
    | false => rfl
    | true =>
      obtain ⟨y, hy, h1⟩ := List.any_eq_true.1 ht
      rw [Bool.and_eq_true] at h1
      obtain ⟨u, hu, rfl, h3⟩ := (h.tells hp hc hy hs).1 h1.2
      have hne : depOf u ≠ depOf v := of_decide_eq_true h1.1
      rcases ownPast_mem hy with h4 | h4
      · have h5 := (h.saw v hv _ h4).1
        have h6 := (h.saw u hu _ h3).1
        have h7 : lessP v.Stamp u.Stamp = true := h6
        have h8 : lessP v.Stamp u.Stamp = false := lessP_asymm h5
        rw [h8] at h7; cases h7
      · exact absurd h4 hne
end Go.Ark
