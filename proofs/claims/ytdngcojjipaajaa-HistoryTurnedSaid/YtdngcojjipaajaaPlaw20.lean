/- Plain laws: what chapter 20's laws make of acts. Conditions: none but those that stand in each law. -/
import Derived.Test.YtdngcojjipaajaaPhist2
import Derived.Test.YtdngcojjipaajaaPmade
import Derived.Test.YtdngcojjipaajaaPpast3
import Derived.Test.YtdngcojjipaajaaFlaw20
namespace Go.Ark
open Go Go.Ab Go.RowKit

theorem law20_awake_eq : law20_awake = some true := by decide +kernel

/-- the four keys -/
def keys4 : List ByteArray := [ByteArray.mk #[97], ByteArray.mk #[98], ByteArray.mk #[99], ByteArray.mk #[100]]
theorem keys4_sorted : keys4.Pairwise fun a b => slt a b = true := by decide +kernel
theorem keys4_ok : ∀ k, k ∈ keys4 → okKey k = true ∧ k.size = 1 := by decide +kernel
theorem keys_few : ∀ {K : List ByteArray} {p : List Api_Dep}, sortedP p → K.Pairwise (fun a b => slt a b = true) → (∀ d, d ∈ p → d.Key ∈ K) → p.length ≤ K.length
  | [], [], _, _, _ => by simp
  | [], d :: p, _, _, h => absurd (h d (by simp)) (by simp)
  | k :: K, [], _, _, _ => by simp
  | k :: K, d :: p, hs, hK, h => by
    obtain ⟨s1, s2⟩ := List.pairwise_cons.1 hs
    obtain ⟨k1, k2⟩ := List.pairwise_cons.1 hK
    have : p.length ≤ K.length := keys_few s2 k2 fun x hx => by
      rcases List.mem_cons.1 (h x (by simp [hx])) with e | e
      · exfalso
        have h1 := s1 x hx
        rw [e] at h1
        rcases List.mem_cons.1 (h d (by simp)) with e2 | e2
        · rw [e2, slt_irrefl] at h1; cases h1
        · have := slt_trans h1 (k1 _ e2)
          rw [slt_irrefl] at this; cases this
      · exact e
    simp; omega
theorem and3_def (n : Int) : IntKind.wrap .i64 (BitVec.ofInt (IntKind.bits .i64) n &&& BitVec.ofInt (IntKind.bits .i64) 3).toNat = and3 n := rfl
theorem key4_at (n : Int) : ∃ k, aidx 4 ([(ByteArray.mk #[97]), (ByteArray.mk #[98]), (ByteArray.mk #[99]), (ByteArray.mk #[100])]) (and3 n) = some k ∧ k ∈ keys4 := by
  have h := and3_le n
  generalize and3 n = m at h
  have hm : m.toNat < keys4.length := by show m.toNat < 4; omega
  refine ⟨keys4[m.toNat], ?_, List.getElem_mem hm⟩
  show aidx 4 keys4 m = _
  unfold aidx
  rw [if_pos (by omega)]
  exact List.getElem?_eq_getElem hm

/-! ### rows of which each event is right -/
/-- all that was seen was written -/
def srcOK (pre : List Api_Event) (e : Api_Event) : Prop := ∀ d : Api_Dep, (d ∈ e.Seen ∨ (d = ⟨e.Key, e.Stamp⟩ ∧ okDep d = true)) → ∃ w, w ∈ pre ++ [e] ∧ w.Kind = 1 ∧ w.Key = d.Key ∧ w.Stamp = d.Stamp
def GoodE (pre : List Api_Event) (e : Api_Event) : Prop := rightP pre e = true ∧ srcOK pre e
def AllG (l : List Api_Event) : Prop := ∀ i (h : i < l.length), GoodE (l.take i) l[i]
theorem AllG.snoc {l : List Api_Event} {e : Api_Event} (h : AllG l) (he : GoodE l e) : AllG (l ++ [e]) := by
  intro i hi
  by_cases c : i < l.length
  · rw [List.take_append_of_le_length (by omega), List.getElem_append_left c]; exact h i c
  · have : i = l.length := by simp at hi; omega
    subst this
    rw [List.take_left' rfl]
    simpa using he
theorem AllG.take {l : List Api_Event} (h : AllG l) (n : Nat) : AllG (l.take n) := by
  intro i hi
  have h1 : i < l.length := by simp at hi; omega
  have h2 : i < n := by simp at hi; omega
  rw [List.getElem_take, List.take_take, Nat.min_eq_left (by omega)]
  exact h i h1
theorem AllG.nil : AllG [] := fun i h => by simp at h
theorem firstBad_app : ∀ (r pre s : List Api_Event), (∀ i (h : i < r.length), rightP (pre ++ r.take i) r[i] = true) → firstBad pre (r ++ s) = firstBad (pre ++ r) s
  | [], pre, s, _ => by simp
  | e :: r, pre, s, h => by
    have h0 := h 0 (by simp)
    simp only [List.take_zero, List.append_nil, List.getElem_cons_zero] at h0
    rw [List.cons_append, firstBad_cons, if_pos h0, firstBad_app r (pre ++ [e]) s fun i hi => by
      have := h (i + 1) (by simp; omega)
      simpa using this]
    simp
theorem AllG.app {l : List Api_Event} (h : AllG l) (s : List Api_Event) : firstBad [] (l ++ s) = firstBad l s := firstBad_app l [] s fun i hi => by rw [List.nil_append]; exact (h i hi).1
theorem AllG.mem {l : List Api_Event} (h : AllG l) {e : Api_Event} (he : e ∈ l) : ∃ i, ∃ hi : i < l.length, l[i] = e ∧ rightP (l.take i) e = true ∧ srcOK (l.take i) e := by
  obtain ⟨i, hi, rfl⟩ := List.getElem_of_mem he
  exact ⟨i, hi, rfl, (h i hi).1, (h i hi).2⟩

theorem right_parts {pre : List Api_Event} {e : Api_Event} (h : rightP pre e = true) : okKey e.Key = true ∧ (∀ d, d ∈ e.Seen → okDep d = true) ∧ sortedP e.Seen ∧ coversP e.Seen (lastB pre e.Client) = true := by
  unfold rightP at h
  simp only [Bool.and_eq_true] at h
  obtain ⟨h1, h2, h3, -⟩ := h
  obtain ⟨a, b, -⟩ := chainP_iff.1 h2
  exact ⟨h1, a, b, h3⟩
theorem right_stamp {pre : List Api_Event} {e : Api_Event} (h : rightP pre e = true) (k : e.Kind = 1) : okStamp e.Stamp = true := by
  unfold rightP at h
  rw [if_pos k] at h
  simp only [Bool.and_eq_true] at h
  exact h.2.2.2.1
theorem lastB_cases (out : List Api_Event) (c : Int) : lastB out c = [] ∨ ∃ x, x ∈ out ∧ x.Client = c ∧ lastB out c = behE x := by
  unfold lastB
  split
  · rename_i x h
    have hx := List.mem_filter.1 (List.mem_of_getLast? h)
    exact .inr ⟨x, hx.1, by simpa using hx.2, rfl⟩
  · exact .inl rfl
theorem behE_self {e : Api_Event} (hs : sortedP e.Seen) (ho : ∀ d, d ∈ e.Seen → okDep d = true) : behE e = foldP e.Seen [⟨e.Key, e.Stamp⟩] := by
  show List.foldl foldP [] [e.Seen, [⟨e.Key, e.Stamp⟩]] = _
  simp only [List.foldl_cons, List.foldl_nil]
  rw [foldP_self hs ho]
theorem covers_get {p q : List Api_Dep} (h : coversP p q = true) (k : ByteArray) : leS (getP q k) (getP p k) ∨ getP q k = ⟨0, 0⟩ := by
  rcases getP_cases q k with ⟨d, h1, h2, h3⟩ | ⟨-, h3⟩
  · refine .inl ?_
    unfold coversP at h
    have := List.all_eq_true.1 h d h1
    rw [h3]
    unfold leS
    rw [h2] at this
    simpa using this
  · exact .inr h3

/-! ### what is known of events that were made -/
structure HI (l : List Law20_Act) (out : List Api_Event) (n : Nat) : Prop where
  len : out.length ≤ n
  good : AllG out
  each : ∀ e, e ∈ out → e.Key ∈ keys4 ∧ (e.Kind = 1 ∨ e.Kind = 2) ∧ (e.Kind = 1 → e.Stamp.Site = e.Client) ∧ e.Stamp.N ≤ 16 * n ∧ (∀ d, d ∈ e.Seen → d.Key ∈ keys4 ∧ d.Stamp.N ≤ 16 * n) ∧ ∃ a, a ∈ l ∧ e.Client = and3 a.Client
  cov : ∀ w, w ∈ out → w.Kind = 1 → leS w.Stamp (getP (lastB out w.Client) w.Key)

variable {l : List Law20_Act} {out : List Api_Event} {n : Nat}
theorem HI.nil : HI l [] 0 := ⟨Nat.le_refl _, AllG.nil, fun e h => by simp at h, fun w h => by simp at h⟩
theorem HI.mono (h : HI l out n) : HI l out (n + 1) := by
  refine ⟨by have := h.len; omega, h.good, fun e he => ?_, h.cov⟩
  obtain ⟨h1, h2, h3, h4, h5, h6⟩ := h.each e he
  exact ⟨h1, h2, h3, by omega, fun d hd => ⟨(h5 d hd).1, by have := (h5 d hd).2; omega⟩, h6⟩
theorem HI.monos (h : HI l out n) : ∀ {m : Nat}, n ≤ m → HI l out m := by
  intro m hm
  induction m with
  | zero => have : n = 0 := by omega
            subst this; exact h
  | succ m ih =>
    by_cases c : n = m + 1
    · subst c; exact h
    · exact (ih (by omega)).mono
theorem HI.parts (h : HI l out n) {e : Api_Event} (he : e ∈ out) : (∀ d, d ∈ e.Seen → okDep d = true) ∧ sortedP e.Seen ∧ e.Seen.length ≤ 4 := by
  obtain ⟨i, hi, rfl, h1, -⟩ := h.good.mem he
  obtain ⟨-, h2, h3, -⟩ := right_parts h1
  exact ⟨h2, h3, keys_few h3 keys4_sorted fun d hd => ((h.each _ he).2.2.2.2.1 d hd).1⟩
theorem HI.evs (h : HI l out n) : ∀ e, e ∈ out → EvS e := fun e he => by
  obtain ⟨h1, h2, h3⟩ := h.parts he
  have hk := h.each e he
  exact ⟨by have := (keys4_ok _ hk.1).2; omega, by omega, fun d hd => by have := (keys4_ok _ (hk.2.2.2.2.1 d hd).1).2; omega⟩
theorem HI.src (h : HI l out n) {e : Api_Event} (he : e ∈ out) {d : Api_Dep} (hd : d ∈ e.Seen ∨ (d = ⟨e.Key, e.Stamp⟩ ∧ okDep d = true)) : ∃ w, w ∈ out ∧ w.Kind = 1 ∧ w.Key = d.Key ∧ w.Stamp = d.Stamp := by
  obtain ⟨i, hi, rfl, -, h2⟩ := h.good.mem he
  obtain ⟨w, h3, h4⟩ := h2 d hd
  refine ⟨w, ?_, h4⟩
  rw [← take_snoc' hi] at h3
  exact List.mem_of_mem_take h3
theorem HI.beh (h : HI l out n) {e : Api_Event} (he : e ∈ out) {d : Api_Dep} (hd : d ∈ behE e) : okDep d = true ∧ d.Key ∈ keys4 ∧ d.Stamp.N ≤ 16 * n ∧ ∃ w, w ∈ out ∧ w.Kind = 1 ∧ w.Key = d.Key ∧ w.Stamp = d.Stamp := by
  have ho := behE_ok e d hd
  have hk := h.each e he
  rcases behE_mem hd with h1 | h1
  · exact ⟨ho, (hk.2.2.2.2.1 d h1).1, (hk.2.2.2.2.1 d h1).2, h.src he (.inl h1)⟩
  · refine ⟨ho, ?_, ?_, h.src he (.inr ⟨h1, ho⟩)⟩
    · rw [h1]; exact hk.1
    · rw [h1]; exact hk.2.2.2.1
theorem HI.last (h : HI l out n) (c : Int) : sortedP (lastB out c) ∧ ∀ d, d ∈ lastB out c → okDep d = true ∧ d.Key ∈ keys4 ∧ d.Stamp.N ≤ 16 * n ∧ ∃ w, w ∈ out ∧ w.Kind = 1 ∧ w.Key = d.Key ∧ w.Stamp = d.Stamp := by
  rcases lastB_cases out c with e | ⟨x, h1, -, e⟩
  · rw [e]; exact ⟨List.Pairwise.nil, fun d hd => by simp at hd⟩
  · rw [e]; exact ⟨behE_sorted x, fun d hd => h.beh h1 hd⟩
theorem HI.lastlen (h : HI l out n) (c : Int) : (lastB out c).length ≤ 4 := keys_few (h.last c).1 keys4_sorted fun d hd => ((h.last c).2 d hd).2.1

theorem HI.snoc (h : HI l out n) {e : Api_Event} (hg : GoodE out e) (hk : e.Key ∈ keys4) (hd : e.Kind = 1 ∨ e.Kind = 2) (hs : e.Kind = 1 → e.Stamp.Site = e.Client) (hn : e.Stamp.N ≤ 16 * n + 16)
    (hp : ∀ d, d ∈ e.Seen → d.Key ∈ keys4 ∧ d.Stamp.N ≤ 16 * n) (hc : ∃ a, a ∈ l ∧ e.Client = and3 a.Client) : HI l (out ++ [e]) (n + 1) := by
  have hm := h.mono
  obtain ⟨p1, p2, p3, p4⟩ := right_parts hg.1
  have hb := behE_self p3 p2
  refine ⟨by simp; exact h.len, h.good.snoc hg, fun x hx => ?_, fun w hw k1 => ?_⟩
  · rcases List.mem_append.1 hx with hx | hx
    · exact hm.each x hx
    · simp at hx
      subst hx
      exact ⟨hk, hd, hs, by omega, fun d hd => ⟨(hp d hd).1, by have := (hp d hd).2; omega⟩, hc⟩
  · rw [lastB_snoc]
    rcases List.mem_append.1 hw with hw | hw
    · by_cases c : e.Client = w.Client
      · rw [if_pos c, hb]
        have h1 := h.cov w hw k1
        rw [c] at p4
        refine leS_trans ?_ (getP_foldP_le _ p3 _)
        rcases covers_get p4 w.Key with h2 | h2
        · exact leS_trans h1 h2
        · exfalso
          obtain ⟨i, hi, rfl, h3, -⟩ := h.good.mem hw
          have := zero_leS (right_stamp h3 k1)
          rw [h2] at h1
          unfold leS at h1
          rw [this] at h1; cases h1
      · rw [if_neg c]
        exact h.cov w hw k1
    · simp at hw
      subst hw
      rw [if_pos rfl, hb]
      refine getP_foldP_mem _ p3 (d := ⟨w.Key, w.Stamp⟩) (by simp) ?_
      unfold okDep
      simp only [Bool.and_eq_true]
      exact ⟨p1, right_stamp hg.1 k1⟩

/-! ### one step -/
theorem HI.gWrite (h : HI l out n) {c : Int} {k : ByteArray} {s : Api_Stamp} (hk : k ∈ keys4) (hc : s.Site = c) (h0 : 0 ≤ c) (h3 : c ≤ 3) (hN : maxN (lastB out c) < s.N) (hb : s.N ≤ 1099511627776) : GoodE out ⟨1, c, k, s, lastB out c⟩ := by
  obtain ⟨l1, l2⟩ := h.last c
  have ok : okStamp s = true := by
    have := maxN_ge (p := lastB out c)
    unfold okStamp
    simp only [Bool.and_eq_true, decide_eq_true_eq]
    omega
  refine ⟨?_, fun d hd => ?_⟩
  · unfold rightP
    simp only [if_true, Bool.and_eq_true]
    refine ⟨(keys4_ok _ hk).1, chainP_iff.2 ⟨fun d hd => (l2 d hd).1, l1, fun _ e => by cases e⟩, ?_, ok, ?_, ?_⟩
    · unfold coversP
      refine List.all_eq_true.2 fun d hd => ?_
      rw [getP_mem l1 hd, lessP_irrefl]; rfl
    · rw [Bool.not_eq_true']
      unfold thereP
      rw [List.any_eq_false]
      intro w hw hx
      simp only [Bool.and_eq_true, decide_eq_true_eq] at hx
      obtain ⟨k1, k2, -⟩ := hx
      have hsite := (h.each w hw).2.2.1 k1
      have hcl : w.Client = c := by rw [← hsite, k2, hc]
      have hcov := h.cov w hw k1
      rw [hcl, k2] at hcov
      rcases getP_cases (lastB out c) w.Key with ⟨d, h1, -, h2⟩ | ⟨-, h2⟩
      · rw [h2] at hcov
        have := le_maxN h1
        have hl : lessP d.Stamp s = true := lessP_iff.2 (.inl (by omega))
        unfold leS at hcov
        rw [hl] at hcov; cases hcov
      · rw [h2] at hcov
        unfold leS at hcov
        rw [zero_leS ok] at hcov; cases hcov
    · refine List.all_eq_true.2 fun d hd => ?_
      have := le_maxN hd
      exact lessP_iff.2 (.inl (by omega))
  · rcases hd with hd | ⟨rfl, -⟩
    · obtain ⟨-, -, -, w, h1, h2⟩ := l2 d hd
      exact ⟨w, by simp [h1], h2⟩
    · exact ⟨⟨1, c, k, s, lastB out c⟩, by simp, rfl, rfl, rfl⟩

/-- what a read may be of -/
def fromOK (out : List Api_Event) (k : ByteArray) (p : List Api_Dep) (s : Api_Stamp) : Prop := (p = [] ∧ s = ⟨0, 0⟩) ∨ ∃ w, w ∈ out ∧ w.Kind = 1 ∧ w.Key = k ∧ w.Stamp = s ∧ w.Seen = p
theorem HI.from (h : HI l out n) {k : ByteArray} {p : List Api_Dep} {s : Api_Stamp} (hf : fromOK out k p s) : (∀ d, d ∈ p → okDep d = true ∧ d.Key ∈ keys4 ∧ d.Stamp.N ≤ 16 * n ∧ ∃ w, w ∈ out ∧ w.Kind = 1 ∧ w.Key = d.Key ∧ w.Stamp = d.Stamp) ∧ p.length ≤ 4 ∧ s.N ≤ 16 * n := by
  rcases hf with ⟨rfl, rfl⟩ | ⟨w, h1, -, -, rfl, rfl⟩
  · exact ⟨fun d hd => by simp at hd, by simp, by show (0 : Int) ≤ _; omega⟩
  · have hk := h.each w h1
    have hp := h.parts h1
    exact ⟨fun d hd => ⟨hp.1 d hd, (hk.2.2.2.2.1 d hd).1, (hk.2.2.2.2.1 d hd).2, h.src h1 (.inl hd)⟩, hp.2.2, hk.2.2.2.1⟩
theorem HI.seenMem (h : HI l out n) {c : Int} {k : ByteArray} {p : List Api_Dep} {s : Api_Stamp} (hf : fromOK out k p s) {d : Api_Dep} (hd : d ∈ foldP (lastB out c) p) : okDep d = true ∧ d.Key ∈ keys4 ∧ d.Stamp.N ≤ 16 * n ∧ ∃ w, w ∈ out ∧ w.Kind = 1 ∧ w.Key = d.Key ∧ w.Stamp = d.Stamp := by
  rcases foldP_mem _ _ hd with h1 | h1
  · exact (h.last c).2 d h1
  · exact (h.from hf).1 d h1
theorem HI.gRead (h : HI l out n) {c : Int} {k : ByteArray} {p : List Api_Dep} {s : Api_Stamp} (hk : k ∈ keys4) (hf : fromOK out k p s) (hl : lessP s (getP (foldP (lastB out c) p) k) = false) : GoodE out ⟨2, c, k, s, foldP (lastB out c) p⟩ := by
  obtain ⟨l1, l2⟩ := h.last c
  have hs := foldP_sorted p _ l1
  refine ⟨?_, fun d hd => ?_⟩
  · unfold rightP
    simp only [show ¬ ((2 : Int) = 1) by decide, if_false, if_true, Bool.and_eq_true]
    refine ⟨(keys4_ok _ hk).1, chainP_iff.2 ⟨fun d hd => (h.seenMem hf hd).1, hs, fun _ e => by cases e⟩, ?_, by rw [hl]; rfl, ?_⟩
    · unfold coversP
      refine List.all_eq_true.2 fun d hd => ?_
      have := getP_foldP_le p l1 d.Key
      rw [getP_mem l1 hd] at this
      unfold leS at this
      rw [this]; rfl
    · rw [Bool.or_eq_true]
      rcases hf with ⟨-, e⟩ | ⟨w, h1, h2, h3, h4, -⟩
      · exact .inl (decide_eq_true e)
      · refine .inr ?_
        unfold thereP
        refine List.any_eq_true.2 ⟨w, h1, ?_⟩
        simp [h2, h3, h4]
  · rcases hd with hd | ⟨rfl, h5⟩
    · obtain ⟨-, -, -, w, h1, h2⟩ := h.seenMem hf hd
      exact ⟨w, by simp [h1], h2⟩
    · rcases hf with ⟨-, e⟩ | ⟨w, h1, h2, h3, h4, -⟩
      · exact absurd (okDep_stamp h5) (by show ¬ okStamp s = true; rw [e]; decide)
      · exact ⟨w, by simp [h1], h2, h3, h4⟩

/-! ### the whole -/
theorem at4 {α : Type} {s : List α} {f : Int → α} (hs : s.length = 4) (hf : ∀ c : Nat, (h : c < s.length) → s[c] = f c) (m : Int) : aidx 4 s (and3 m) = some (f (and3 m)) := by
  have h := and3_le m
  generalize and3 m = c at h
  obtain ⟨j, rfl⟩ : ∃ j : Nat, c = j := ⟨c.toNat, by omega⟩
  have hj : j < s.length := by omega
  unfold aidx
  rw [if_pos (by omega), Int.toNat_natCast, List.getElem?_eq_getElem hj, hf j hj]
theorem set4 {α : Type} {s : List α} (hs : s.length = 4) (m : Int) (x : α) : asets 4 s (and3 m) x = some (s.set (and3 m).toNat x) := by
  have h := and3_le m
  unfold asets
  rw [if_pos (by omega)]

theorem law20_made_tot {l : List Law20_Act} (_hl : l.length ≤ 9223372036854775807) : ∃ out, law20_made l = some out ∧ HI l out 16 := by
  unfold law20_made
  refine loopF_tot (fun (v : Int × List (List Api_Dep) × List Api_Event) => 0 ≤ v.1 ∧ v.1 ≤ (l.length : Int) ∧ v.1 ≤ 16 ∧ v.2.1.length = 4 ∧ (∀ c : Nat, (h : c < v.2.1.length) → v.2.1[c] = lastB v.2.2 c) ∧ HI l v.2.2 v.1.toNat) (fun v => (16 - v.1).toNat) (fun out => HI l out 16) ?_ FU _
    ⟨Int.le_refl _, by simp, by simp, by simp, fun c h => by simp only [List.getElem_replicate]; rfl, HI.nil⟩ (by have := FU_big; simp only; omega)
  rintro again ⟨v, seen, out⟩ ⟨h1, h2, h3, h4, h5, h6⟩ hag
  simp only at h1 h2 h3 h4 h5 h6
  have hend : ∃ r, law20_made_k1 out = some r ∧ HI l r 16 := ⟨out, rfl, h6.monos (by omega)⟩
  unfold law20_made_l2 law20_made_k3
  simp only
  by_cases c : v < (l.length : Int)
  · rw [if_pos (by simpa using c)]
    by_cases c16 : v < 16
    · rw [if_pos (by simpa using c16)]
      obtain ⟨i, rfl⟩ : ∃ i : Nat, v = i := ⟨v.toNat, by omega⟩
      simp only [Int.toNat_natCast] at h6
      have hi : i < l.length := by omega
      have hlen := h6.len
      have e1 : IntKind.wrap .i64 ((i : Int) + 1) = (i : Int) + 1 := wrap64 (by omega) (by omega)
      have hcl := and3_le l[i].Client
      obtain ⟨key, hkey, hk⟩ := key4_at l[i].Key
      simp only [idx_at hi, Option.bind_some, and3_def]
      rw [hkey]
      simp only [Option.bind_some]
      -- the event is not kept
      have hk4 : ∃ r, law20_made_k4 again ((i : Int), seen, out) (seen, out) = some r ∧ HI l r 16 := by
        unfold law20_made_k4
        rw [e1]
        exact hag _ ⟨by simp only; omega, by simp only; omega, by simp only; omega, h4, h5, by simp only [show ((i : Int) + 1).toNat = i + 1 by omega]; exact h6.mono⟩ (by simp only; omega)
      -- it is kept
      have hk7 : ∀ (from_ : List Api_Dep) (kind N site : Int) (s : List Api_Dep), GoodE out ⟨kind, and3 l[i].Client, key, ⟨N, site⟩, s⟩ → (kind = 1 ∨ kind = 2) → (kind = 1 → site = and3 l[i].Client) → N ≤ 16 * i + 16 → (∀ d, d ∈ s → d.Key ∈ keys4 ∧ d.Stamp.N ≤ 16 * i) →
          ∃ r, law20_made_k7 again ((i : Int), seen, out) l[i] key (from_, kind, N, site) s false = some r ∧ HI l r 16 := by
        intro from_ kind N site s g1 g2 g3 g4 g5
        have hs := h6.snoc g1 hk g2 g3 g4 g5 ⟨l[i], List.getElem_mem hi, rfl⟩
        unfold law20_made_k7 law20_made_k4
        simp only [and3_def, Bool.false_eq_true, if_false]
        rw [app_ok (by simp; omega) (by simp; omega)]
        simp only [Option.bind_some]
        have hlast : ((out ++ [(⟨kind, and3 l[i].Client, key, ⟨N, site⟩, s⟩ : Api_Event)]).length : Int) - 1 = ((out.length : Nat) : Int) := by simp
        rw [hlast, wrap64 (by omega) (by omega), ref20_Behind_eq hs.evs, behP_at (by simp)]
        simp only [Option.bind_some]
        rw [at4 h4 h5, set4 h4]
        simp only [Option.bind_some]
        rw [e1]
        refine hag _ ⟨by simp only; omega, by simp only; omega, by simp only; omega, by simp [h4], fun c hc => ?_, by simp only [show ((i : Int) + 1).toNat = i + 1 by omega]; exact hs⟩ (by simp only; omega)
        simp only at hc ⊢
        rw [List.getElem_set, lastB_snoc]
        simp only [List.getElem_concat_length]
        by_cases cc : (and3 l[i].Client).toNat = c
        · rw [if_pos cc, if_pos (by omega)]
        · rw [if_neg cc, if_neg (by omega)]
          exact h5 c (by simpa using hc)
      have hk6w : ∀ N : Int, maxN (lastB out (and3 l[i].Client)) < N → N ≤ 16 * i + 16 → ∃ r, law20_made_k6 again ((i : Int), seen, out) l[i] key (([] : List Api_Dep), 1, N, and3 l[i].Client) true = some r ∧ HI l r 16 := by
        intro N hN hN2
        unfold law20_made_k6
        simp only [and3_def, if_true]
        rw [at4 h4 h5]
        simp only [Option.bind_some]
        obtain ⟨q1, q2⟩ := h6.last (and3 l[i].Client)
        have ql := h6.lastlen (and3 l[i].Client)
        rw [ref04_Merge_eq (fun p hp d hd => by
          simp at hp
          rcases hp with rfl | rfl
          · have := (keys4_ok _ (q2 d hd).2.1).2; omega
          · simp at hd) (by simp; omega) (by simp)]
        simp only [Option.bind_some]
        rw [if_neg (show ¬ (decide ((1 : Int) = 2) = true) by decide)]
        have e : mergeP [lastB out (and3 l[i].Client), []] = lastB out (and3 l[i].Client) := by
          show foldP (foldP [] _) [] = _
          rw [foldP_self q1 fun d hd => (q2 d hd).1]; rfl
        rw [e]
        exact hk7 _ _ _ _ _ (h6.gWrite hk rfl hcl.1 hcl.2 hN (by simp only; omega)) (.inl rfl) (fun _ => rfl) hN2 fun d hd => ⟨(q2 d hd).2.1, (q2 d hd).2.2.1⟩
      have hk6r : ∀ (p : List Api_Dep) (s : Api_Stamp), fromOK out key p s → ∃ r, law20_made_k6 again ((i : Int), seen, out) l[i] key (p, 2, s.N, s.Site) true = some r ∧ HI l r 16 := by
        intro p s hf
        unfold law20_made_k6
        simp only [and3_def, if_true]
        rw [at4 h4 h5]
        simp only [Option.bind_some]
        obtain ⟨q1, q2⟩ := h6.last (and3 l[i].Client)
        have ql := h6.lastlen (and3 l[i].Client)
        obtain ⟨f1, f2, f3⟩ := h6.from hf
        rw [ref04_Merge_eq (fun p hp d hd => by
          simp at hp
          rcases hp with rfl | rfl
          · have := (keys4_ok _ (q2 d hd).2.1).2; omega
          · have := (keys4_ok _ (f1 d hd).2.1).2; omega) (by simp; omega) (by simp)]
        simp only [Option.bind_some]
        simp only [decide_true, if_true]
        have e : mergeP [lastB out (and3 l[i].Client), p] = foldP (lastB out (and3 l[i].Client)) p := by
          show foldP (foldP [] _) p = _
          rw [foldP_self q1 fun d hd => (q2 d hd).1]
        have hfl := foldP_length p (lastB out (and3 l[i].Client))
        rw [e, ref04_Get_eq (by omega), Option.bind_some, ref03_Less_eq, Option.bind_some]
        cases hles : lessP s (getP (foldP (lastB out (and3 l[i].Client)) p) key) with
        | true =>
          unfold law20_made_k7
          rw [if_pos rfl]
          exact hk4
        | false =>
          exact hk7 _ _ _ _ _ (h6.gRead hk hf hles) (.inr rfl) (fun e => by cases e) (by omega) fun d hd => ⟨(h6.seenMem hf hd).2.1, (h6.seenMem hf hd).2.2.1⟩
      have hk6n : ∀ y : List Api_Dep × Int × Int × Int, ∃ r, law20_made_k6 again ((i : Int), seen, out) l[i] key y false = some r ∧ HI l r 16 := fun y => by
        unfold law20_made_k6
        rw [if_neg (by decide)]
        exact hk4
      cases hw : l[i].Write with
      | true =>
        simp only [if_true]
        refine loopF_tot (fun (v : Int × Int) => 0 ≤ v.1 ∧ v.1 ≤ ((lastB out (and3 l[i].Client)).length : Int) ∧ ((lastB out (and3 l[i].Client)).drop v.1.toNat).foldl (fun n d => if n < d.Stamp.N then d.Stamp.N else n) v.2 = maxN (lastB out (and3 l[i].Client))) (fun v => (((lastB out (and3 l[i].Client)).length : Int) - v.1).toNat) (fun out => HI l out 16) ?_ FU (0, 0)
          ⟨Int.le_refl _, by simp, by simp [maxN]⟩ (by have := FU_big; have := h6.lastlen (and3 l[i].Client); simp only; omega)
        rintro again2 ⟨q, N⟩ ⟨h7, h8, h9⟩ hag2
        simp only at h7 h8 h9
        have ql := h6.lastlen (and3 l[i].Client)
        unfold law20_made_l9
        simp only [and3_def]
        rw [at4 h4 h5]
        simp only [Option.bind_some]
        by_cases c2 : q < ((lastB out (and3 l[i].Client)).length : Int)
        · obtain ⟨j, rfl⟩ : ∃ j : Nat, q = j := ⟨q.toNat, by omega⟩
          have hj : j < (lastB out (and3 l[i].Client)).length := by omega
          simp only [Int.toNat_natCast] at h9
          rw [List.drop_eq_getElem_cons hj, List.foldl_cons] at h9
          rw [if_pos (by simpa using c2), idx_at hj, Option.bind_some, wrap64 (by omega) (by omega)]
          exact hag2 _ ⟨by simp only; omega, by simp only; omega, by simp only [show ((j : Int) + 1).toNat = j + 1 by omega]; exact h9⟩ (by simp only; omega)
        · rw [if_neg (by simpa using c2)]
          rw [List.drop_of_length_le (by omega)] at h9
          have h9 : N = maxN (lastB out (and3 l[i].Client)) := h9
          subst h9
          have hmx : maxN (lastB out (and3 l[i].Client)) ≤ 16 * i := maxN_le (by omega) fun d hd => ((h6.last _).2 d hd).2.2.1
          have hm0 := maxN_ge (p := lastB out (and3 l[i].Client))
          unfold law20_made_k8 law20_made_k5
          simp only [idx_at hi, Option.bind_some, and3_def, hw, if_true]
          rw [wrap64 (n := maxN _ + 1) (by omega) (by omega), wrap64 (by omega) (by omega)]
          exact hk6w _ (by omega) (by omega)
      | false =>
        simp only [Bool.false_eq_true, if_false]
        rw [at4 h4 h5]
        simp only [Option.bind_some]
        have ql := h6.lastlen (and3 l[i].Client)
        rw [ref04_Get_eq (by omega)]
        simp only [Option.bind_some]
        refine loopF_tot (fun (v : List Api_Dep × Int × Int × Int × Int) => 0 ≤ v.2.1 ∧ v.2.1 ≤ v.2.2.1 ∧ v.2.2.1 ≤ (out.length : Int) ∧ fromOK out key v.1 ⟨v.2.2.2.1, v.2.2.2.2⟩) (fun v => ((out.length : Int) - v.2.2.1).toNat) (fun out => HI l out 16) ?_ FU ([], 0, 0, 0, 0)
          ⟨Int.le_refl _, by simp, by simp, .inl ⟨rfl, rfl⟩⟩ (by have := FU_big; simp only; omega)
        rintro again2 ⟨p, m, k, N, site⟩ ⟨h7, h8, h9, h10⟩ hag2
        simp only at h7 h8 h9 h10
        unfold law20_made_l10
        simp only
        by_cases c2 : k < (out.length : Int)
        · rw [if_pos (by simpa using c2)]
          obtain ⟨j, rfl⟩ : ∃ j : Nat, k = j := ⟨k.toNat, by omega⟩
          have hj : j < out.length := by omega
          have ek : IntKind.wrap .i64 ((j : Int) + 1) = (j : Int) + 1 := wrap64 (by omega) (by omega)
          have em : IntKind.wrap .i64 (m + 1) = m + 1 := wrap64 (by omega) (by omega)
          rw [idx_at hj]
          simp only [Option.bind_some]
          have hn : ∃ r, law20_made_k11 l ((i : Int), seen, out) again2 (p, m, (j : Int), N, site) false = some r ∧ HI l r 16 := by
            unfold law20_made_k11
            simp only [Bool.false_eq_true, if_false]
            rw [ek]
            exact hag2 _ ⟨h7, by simp only; omega, by simp only; omega, h10⟩ (by simp only; omega)
          by_cases k1 : out[j].Kind = 1
          · rw [if_pos (by simpa using k1)]
            by_cases k2 : out[j].Key = key
            · rw [if_pos (by rw [seq_eq]; exact decide_eq_true k2), ref03_Less_eq]
              simp only [Option.bind_some]
              have hy : ∀ b, ∃ r, law20_made_k12 ((i : Int), seen, out) again2 (p, m, (j : Int), N, site) b = some r ∧ HI l r 16 := by
                intro b
                unfold law20_made_k12
                simp only [idx_at hj, Option.bind_some, ek, em]
                cases b with
                | true =>
                  rw [if_pos rfl]
                  exact hag2 _ ⟨by simp only; omega, by simp only; omega, by simp only; omega, .inr ⟨out[j], List.getElem_mem hj, k1, k2, rfl, rfl⟩⟩ (by simp only; omega)
                | false =>
                  rw [if_neg (by decide)]
                  exact hag2 _ ⟨by simp only; omega, by simp only; omega, by simp only; omega, h10⟩ (by simp only; omega)
              cases hb : (!lessP out[j].Stamp (getP (lastB out (and3 l[i].Client)) key)) with
              | false => exact hn
              | true =>
                unfold law20_made_k11
                simp only [if_true, idx_at hi, Option.bind_some]
                split
                · exact hy _
                · exact hy _
            · rw [if_neg (by rw [seq_eq]; simpa using k2)]
              exact hn
          · rw [if_neg (by simpa using k1)]
            exact hn
        · rw [if_neg (by simpa using c2)]
          have f2 := (h6.from h10).2.1
          unfold law20_made_k5
          simp only [idx_at hi, Option.bind_some, hw, Bool.false_eq_true, if_false]
          rw [ref04_Get_eq (by omega)]
          simp only [Option.bind_some]
          cases decide ((getP p key).N ≤ N) with
          | true => exact hk6r p ⟨N, site⟩ h10
          | false => exact hk6n _
    · rw [if_neg (by simpa using c16)]
      exact hend
  · rw [if_neg (by simpa using c)]
    simp only [Bool.false_eq_true, if_false]
    exact hend
end Go.Ark
