/- Plain laws: what chapter 05's laws make. Conditions: none but those that stand in each law. -/
import Derived.Test.YtildciopogbhcaaPnear3
import Derived.Test.YtildciopogbhcaaFlaw05
namespace Go.Ark
open Go Go.Ab Go.RowKit

theorem law05_awake_eq : law05_awake = some true := by decide +kernel

/-- the eight keys -/
def keys8 : List ByteArray := [ByteArray.mk #[97], ByteArray.mk #[98], ByteArray.mk #[99], ByteArray.mk #[100], ByteArray.mk #[101], ByteArray.mk #[102], ByteArray.mk #[103], ByteArray.mk #[104]]
theorem keys8_sorted : keys8.Pairwise fun a b => slt a b = true := by decide +kernel
theorem keys8_ok : ∀ k, k ∈ keys8 → okKey k = true ∧ k.size = 1 := by decide +kernel

theorem few_keys : ∀ {K : List ByteArray} {p : List Api_Dep}, sortedP p → K.Pairwise (fun a b => slt a b = true) → (∀ d, d ∈ p → d.Key ∈ K) → p.length ≤ K.length
  | [], [], _, _, _ => by simp
  | [], d :: p, _, _, h => absurd (h d (by simp)) (by simp)
  | k :: K, [], _, _, _ => by simp
  | k :: K, d :: p, hs, hK, h => by
    obtain ⟨s1, s2⟩ := List.pairwise_cons.1 hs
    obtain ⟨k1, k2⟩ := List.pairwise_cons.1 hK
    have : p.length ≤ K.length := few_keys s2 k2 fun x hx => by
      rcases List.mem_cons.1 (h x (by simp [hx])) with e | e
      · exfalso
        have h1 := s1 x hx
        rw [e] at h1
        rcases List.mem_cons.1 (h d (by simp)) with e2 | e2
        · rw [e2, slt_irrefl] at h1; cases h1
        · have := slt_trans h1 (k1 _ e2)
          rw [slt_irrefl] at this; cases this
      · exact e
    simp; omega

/-- what is known of versions that were made -/
structure NI (l : List Api_Version) : Prop where
  w : WV l
  len : l.length ≤ 14
  key : ∀ v, v ∈ l → v.Key ∈ keys8
  n : ∀ v, v ∈ l → v.Stamp.N ≤ l.length

theorem NI.pk {l : List Api_Version} (h : NI l) {cs : List Api_Version} (hc : ∀ c, c ∈ cs → c ∈ l) {d : Api_Dep} (hd : d ∈ pastOf cs) : d.Key ∈ keys8 ∧ d.Stamp.N ≤ l.length := by
  obtain ⟨u, h1, rfl, -⟩ := h.w.of hc hd
  exact ⟨h.key u h1, h.n u h1⟩
theorem NI.vk {l : List Api_Version} (h : NI l) {v : Api_Version} (hv : v ∈ l) {d : Api_Dep} (hd : d ∈ v.Past) : d.Key ∈ keys8 := by
  obtain ⟨-, u, h1, rfl, -⟩ := h.w.saw v hv d hd
  exact h.key u h1
theorem NI.vlen {l : List Api_Version} (h : NI l) {v : Api_Version} (hv : v ∈ l) : v.Past.length ≤ 8 := few_keys (h.w.past v hv).1 keys8_sorted fun _ hd => h.vk hv hd
theorem NI.plen {l : List Api_Version} (h : NI l) {cs : List Api_Version} (hc : ∀ c, c ∈ cs → c ∈ l) : (pastOf cs).length ≤ 8 := few_keys (pastOf_PO cs).1 keys8_sorted fun _ hd => (h.pk hc hd).1
theorem NI.sv {l : List Api_Version} (h : NI l) : SV l := ⟨by have := h.len; omega, fun v hv => ⟨(h.w.past v hv).1, by have := h.vlen hv; omega⟩⟩
theorem k8_size {k : ByteArray} (h : k ∈ keys8) : k.size ≤ 9223372036854775807 := by have := (keys8_ok k h).2; omega

theorem NI.snoc {l : List Api_Version} (h : NI l) (hl : l.length < 14) {key : ByteArray} (hk : key ∈ keys8) {site : Int} (h0 : 0 ≤ site) (h3 : site ≤ 3) {cs : List Api_Version} (hc : ∀ c, c ∈ cs → c ∈ l) (hn : (findV l (depOf (newV key site cs))).2 = false) : NI (l ++ [newV key site cs]) := by
  have hm : maxN (pastOf cs) ≤ l.length := maxN_le (by omega) fun d hd => (h.pk hc hd).2
  have hm0 : 0 ≤ maxN (pastOf cs) := maxN_ge
  refine ⟨h.w.snoc hc ?_ fun u hu e => ?_, by simp; omega, fun v hv => ?_, fun v hv => ?_⟩
  · show (okKey key && okStamp ⟨maxN (pastOf cs) + 1, site⟩) = true
    rw [(keys8_ok key hk).1, Bool.true_and]
    unfold okStamp
    simp only [Bool.and_eq_true, decide_eq_true_eq]
    omega
  · have := (findV_none hn).1 u hu
    rw [isP_iff.2 e] at this; cases this
  · rcases List.mem_append.1 hv with hv | hv
    · exact h.key v hv
    · simp at hv; subst hv; exact hk
  · simp only [List.length_append, List.length_cons, List.length_nil]
    rcases List.mem_append.1 hv with hv | hv
    · have := h.n v hv; omega
    · simp at hv; subst hv
      show maxN (pastOf cs) + 1 ≤ _
      omega
theorem NI.nil : NI [] := ⟨WV.nil, by simp, fun v h => by simp at h, fun v h => by simp at h⟩

theorem and7_le (n : Int) : (BitVec.ofInt (IntKind.bits .i64) n &&& BitVec.ofInt (IntKind.bits .i64) 7).toNat ≤ 7 := by
  rw [BitVec.toNat_and]
  exact Nat.le_trans Nat.and_le_right (by decide)
theorem key8_ok (n : Int) : ∃ k, aidx 8 ([(ByteArray.mk #[97]), (ByteArray.mk #[98]), (ByteArray.mk #[99]), (ByteArray.mk #[100]), (ByteArray.mk #[101]), (ByteArray.mk #[102]), (ByteArray.mk #[103]), (ByteArray.mk #[104])]) (IntKind.wrap .i64 (BitVec.ofInt (IntKind.bits .i64) n &&& BitVec.ofInt (IntKind.bits .i64) 7).toNat) = some k ∧ k ∈ keys8 := by
  have h := and7_le n
  generalize (BitVec.ofInt (IntKind.bits .i64) n &&& BitVec.ofInt (IntKind.bits .i64) 7).toNat = m at h
  rw [wrap64 (by omega) (by omega)]
  show ∃ k, aidx 8 keys8 (m : Int) = some k ∧ k ∈ keys8
  have hm : m < keys8.length := by show m < 8; omega
  refine ⟨keys8[m], ?_, List.getElem_mem hm⟩
  unfold aidx
  rw [if_pos (by omega), Int.toNat_natCast]
  exact List.getElem?_eq_getElem hm

/-- WHAT IS MADE -/
theorem law05_made_tot {l : List Law05_Write} (_hl : l.length ≤ 9223372036854775807) (hsaw : ∀ x, x ∈ l → x.Saw.length ≤ 9223372036854775807) :
    ∃ out, law05_made l = some out ∧ NI out := by
  unfold law05_made
  refine loopF_tot (fun (v : Int × List Api_Version) => 0 ≤ v.1 ∧ v.1 ≤ (l.length : Int) ∧ v.1 ≤ 14 ∧ v.2.length ≤ v.1.toNat ∧ NI v.2) (fun v => (14 - v.1).toNat) NI ?_ FU (0, [])
    ⟨Int.le_refl _, by simp, by simp, by simp, NI.nil⟩ (by have := FU_big; simp only; omega)
  rintro again ⟨v, out⟩ ⟨h1, h2, h3, h4, h6⟩ hag
  simp only at h1 h2 h3 h4 h6
  have hend : ∃ r, law05_made_k1 out = some r ∧ NI r := ⟨out, rfl, h6⟩
  unfold law05_made_l2 law05_made_k3
  simp only
  by_cases c : v < (l.length : Int)
  · rw [if_pos (by simpa using c)]
    by_cases c14 : v < 14
    · rw [if_pos (by simpa using c14)]
      obtain ⟨i, rfl⟩ : ∃ i : Nat, v = i := ⟨v.toNat, by omega⟩
      have hi : i < l.length := by omega
      have h4 : out.length ≤ i := by simpa using h4
      have hi14 : i < 14 := by omega
      have hsl := hsaw _ (List.getElem_mem hi)
      have e : IntKind.wrap .i64 ((i : Int) + 1) = ((i + 1 : Nat) : Int) := by rw [wrap64 (by omega) (by omega)]; omega
      -- behind the loop over what it saw
      have hk5 : ∀ cs : List Api_Version, (∀ c, c ∈ cs → c ∈ out) → ∃ r, law05_made_k5 l again ((i : Int), out) (pastOf cs) = some r ∧ NI r := by
        intro cs hcs
        have hpl := h6.plen hcs
        have hmax : maxN (pastOf cs) ≤ out.length := maxN_le (by omega) fun d hd => (h6.pk hcs hd).2
        have hmax0 : 0 ≤ maxN (pastOf cs) := maxN_ge
        have hsite := and3_le l[i].Site
        have hk6 : ∃ r, law05_made_k6 l again ((i : Int), out) (pastOf cs) (maxN (pastOf cs)) = some r ∧ NI r := by
          unfold law05_made_k6 law05_made_k4
          simp only [idx_at hi, Option.bind_some]
          obtain ⟨k, hk, hk8⟩ := key8_ok l[i].Key
          rw [hk]
          simp only [Option.bind_some]
          have en : IntKind.wrap .i64 (maxN (pastOf cs) + 1) = maxN (pastOf cs) + 1 := wrap64 (by omega) (by omega)
          rw [ref05_Find_eq (by omega), en, e]
          simp only [Option.bind_some]
          have ev : (⟨k, ⟨maxN (pastOf cs) + 1, IntKind.wrap .i64 (BitVec.ofInt (IntKind.bits .i64) l[i].Site &&& BitVec.ofInt (IntKind.bits .i64) 3).toNat⟩⟩ : Api_Dep) = depOf (newV k (and3 l[i].Site) cs) := rfl
          have ew : (⟨k, ByteArray.empty, false, ⟨maxN (pastOf cs) + 1, IntKind.wrap .i64 (BitVec.ofInt (IntKind.bits .i64) l[i].Site &&& BitVec.ofInt (IntKind.bits .i64) 3).toNat⟩, pastOf cs⟩ : Api_Version) = newV k (and3 l[i].Site) cs := rfl
          rw [ev, ew]
          cases hd : (findV out (depOf (newV k (and3 l[i].Site) cs))).2 with
          | true =>
            simp only [Bool.not_true, Bool.false_eq_true, if_false]
            exact hag _ ⟨by simp only; omega, by simp only; omega, by simp only; omega, by simp only [Int.toNat_natCast]; omega, h6⟩ (by simp only; omega)
          | false =>
            simp only [Bool.not_false, if_true]
            rw [app_ok (by simp; omega) (by simp; omega)]
            simp only [Option.bind_some]
            exact hag _ ⟨by simp only; omega, by simp only; omega, by simp only; omega, by simp only [Int.toNat_natCast, List.length_append, List.length_cons, List.length_nil]; omega, h6.snoc (by omega) hk8 hsite.1 hsite.2 hcs hd⟩ (by simp only; omega)
        unfold law05_made_k5
        refine loopF_tot (fun (v : Int × Int) => 0 ≤ v.2 ∧ v.2 ≤ ((pastOf cs).length : Int) ∧ ((pastOf cs).drop v.2.toNat).foldl (fun n d => if n < d.Stamp.N then d.Stamp.N else n) v.1 = maxN (pastOf cs)) (fun v => (((pastOf cs).length : Int) - v.2).toNat) NI ?_ FU (0, 0)
          ⟨Int.le_refl _, by simp, by simp [maxN]⟩ (by have := FU_big; simp only; omega)
        rintro again2 ⟨n, q⟩ ⟨h7, h8, h9⟩ hag2
        simp only at h7 h8 h9
        unfold law05_made_l7
        simp only
        by_cases c2 : q < ((pastOf cs).length : Int)
        · obtain ⟨j, rfl⟩ : ∃ j : Nat, q = j := ⟨q.toNat, by omega⟩
          have hj : j < (pastOf cs).length := by omega
          have e2 : IntKind.wrap .i64 ((j : Int) + 1) = ((j + 1 : Nat) : Int) := by rw [wrap64 (by omega) (by omega)]; omega
          simp only [Int.toNat_natCast] at h9
          rw [List.drop_eq_getElem_cons hj, List.foldl_cons] at h9
          rw [if_pos (by simpa using c2), e2]
          simp only [idx_at hj, Option.bind_some]
          by_cases c3 : n < (pastOf cs)[j].Stamp.N
          · rw [if_pos (by simpa using c3)]
            rw [if_pos c3] at h9
            exact hag2 _ ⟨by simp only; omega, by simp only; omega, by simp only [Int.toNat_natCast]; exact h9⟩ (by simp only; omega)
          · rw [if_neg (by simpa using c3)]
            rw [if_neg c3] at h9
            exact hag2 _ ⟨by simp only; omega, by simp only; omega, by simp only [Int.toNat_natCast]; exact h9⟩ (by simp only; omega)
        · rw [if_neg (by simpa using c2)]
          rw [List.drop_of_length_le (by omega)] at h9
          have h9 : n = maxN (pastOf cs) := h9
          rw [h9]
          exact hk6
      -- what it saw, one by one
      refine loopF_tot (fun (v : List Api_Dep × Int) => 0 ≤ v.2 ∧ v.2 ≤ 4 ∧ v.2 ≤ (l[i].Saw.length : Int) ∧ ∃ cs : List Api_Version, (∀ c, c ∈ cs → c ∈ out) ∧ v.1 = pastOf cs) (fun v => (4 - v.2).toNat) NI ?_ FU ([], 0)
        ⟨Int.le_refl _, by simp, by simp, [], fun c h => by simp at h, rfl⟩ (by have := FU_big; simp only; omega)
      rintro again2 ⟨past, q⟩ ⟨h7, h8, h9, cs, hcs, h10⟩ hag2
      simp only at h7 h8 h9 h10
      subst h10
      unfold law05_made_l8 law05_made_k9
      simp only [idx_at hi, Option.bind_some]
      by_cases c2 : q < (l[i].Saw.length : Int)
      · rw [if_pos (by simpa using c2)]
        by_cases c4 : q < 4
        · rw [if_pos (by simpa using c4)]
          obtain ⟨j, rfl⟩ : ∃ j : Nat, q = j := ⟨q.toNat, by omega⟩
          have hj : j < l[i].Saw.length := by omega
          have e2 : IntKind.wrap .i64 ((j : Int) + 1) = ((j + 1 : Nat) : Int) := by rw [wrap64 (by omega) (by omega)]; omega
          rw [e2]
          by_cases ce : (out.length : Int) = 0
          · rw [if_pos (by simpa using ce)]
            exact hag2 _ ⟨by simp only; omega, by simp only; omega, by simp only; omega, cs, hcs, rfl⟩ (by simp only; omega)
          · rw [if_neg (by simpa using ce)]
            rw [idx_at hj]
            simp only [Option.bind_some, chk]
            have hne : (!decide ((out.length : Int) = 0)) = true := by rw [decide_eq_false ce]; rfl
            have ce : 0 < (out.length : Int) := by omega
            simp only [hne, if_true]
            -- the place
            have hm1 : Int.tmod l[i].Saw[j] (out.length : Int) < out.length := Int.tmod_lt_of_pos _ ce
            have hm2 : -(out.length : Int) < Int.tmod l[i].Saw[j] (out.length : Int) := by
              have := Int.tmod_lt_of_pos (-l[i].Saw[j]) ce
              rw [Int.neg_tmod] at this
              omega
            rw [wrap64 (by omega) (by omega)]
            have hm3 : 0 ≤ Int.tmod (Int.tmod l[i].Saw[j] (out.length : Int) + out.length) (out.length : Int) := Int.tmod_nonneg _ (by omega)
            have hm4 : Int.tmod (Int.tmod l[i].Saw[j] (out.length : Int) + out.length) (out.length : Int) < out.length := Int.tmod_lt_of_pos _ ce
            generalize Int.tmod (Int.tmod l[i].Saw[j] (out.length : Int) + out.length) (out.length : Int) = m at hm3 hm4
            rw [idx_int hm3 hm4]
            simp only [Option.bind_some]
            have hmem : out[m.toNat]'(by omega) ∈ out := List.getElem_mem _
            generalize out[m.toNat]'(by omega) = u at hmem
            have hpl := h6.plen hcs
            have hul := h6.vlen hmem
            rw [ref04_Merge_eq (l := [pastOf cs, u.Past, [Api_Dep.mk u.Key u.Stamp]]) (fun p hp d hd => by
              simp only [List.mem_cons, List.not_mem_nil, or_false] at hp
              rcases hp with rfl | rfl | rfl
              · exact k8_size (h6.pk hcs hd).1
              · exact k8_size (h6.vk hmem hd)
              · simp at hd; subst hd; exact k8_size (h6.key u hmem)) (by simp; omega) (by simp)]
            simp only [Option.bind_some]
            refine hag2 _ ⟨by simp only; omega, by simp only; omega, by simp only; omega, cs ++ [u], fun c hc => ?_, (pastOf_snoc cs u).symm⟩ (by simp only; omega)
            rcases List.mem_append.1 hc with hc | hc
            · exact hcs c hc
            · simp at hc; subst hc; exact hmem
        · rw [if_neg (by simpa using c4)]
          exact hk5 cs hcs
      · rw [if_neg (by simpa using c2)]
        simp only [Bool.false_eq_true, if_false]
        exact hk5 cs hcs
    · rw [if_neg (by simpa using c14)]
      exact hend
  · rw [if_neg (by simpa using c)]
    simp only [Bool.false_eq_true, if_false]
    exact hend

theorem law05_all_eq {l : List Api_Version} (h : NI l) : law05_all l = some (pastOf l) := by
  have hlen := h.len
  unfold law05_all
  refine loopF_inv (fun (v : List Api_Dep × Int) => 0 ≤ v.2 ∧ v.2 ≤ (l.length : Int) ∧ v.1 = pastOf (l.take v.2.toNat)) (fun v => ((l.length : Int) - v.2).toNat) (fun _ => some (pastOf l)) ?_ FU ([], 0) ⟨Int.le_refl _, by simp, by simp [pastOf]⟩ (by have := FU_big; simp only; omega)
  rintro again ⟨p, q⟩ ⟨h1, h2, h3⟩ hag
  simp only at h1 h2 h3
  unfold law05_all_l2
  simp only
  by_cases c : q < (l.length : Int)
  · obtain ⟨i, rfl⟩ : ∃ i : Nat, q = i := ⟨q.toNat, by omega⟩
    have hi : i < l.length := by omega
    have hm := List.getElem_mem hi
    simp only [Int.toNat_natCast] at h3
    have hcs : ∀ c, c ∈ l.take i → c ∈ l := fun c hc => List.mem_of_mem_take hc
    have hpl := h.plen hcs
    have hul := h.vlen hm
    subst h3
    rw [if_pos (by simpa using c), idx_at hi]
    simp only [Option.bind_some]
    rw [ref04_Merge_eq (l := [pastOf (l.take i), l[i].Past, [Api_Dep.mk l[i].Key l[i].Stamp]]) (fun p hp d hd => by
      simp only [List.mem_cons, List.not_mem_nil, or_false] at hp
      rcases hp with rfl | rfl | rfl
      · exact k8_size (h.pk hcs hd).1
      · exact k8_size (h.vk hm hd)
      · simp at hd; subst hd; exact k8_size (h.key _ hm)) (by simp; omega) (by simp), wrap64 (by omega) (by omega)]
    simp only [Option.bind_some]
    refine hag _ ⟨by simp only; omega, by simp only; omega, ?_⟩ (by simp only; omega)
    simp only
    rw [show ((i : Int) + 1).toNat = i + 1 by omega, List.take_add_one, List.getElem?_eq_getElem hi]
    exact (pastOf_snoc _ _).symm
  · rw [if_neg (by simpa using c)]
    rw [h3, show q.toNat = l.length by omega, List.take_length]
    rfl

theorem law05_few_tot (l : List Api_Dep) : ∃ p, law05_few l = some p ∧ PO p ∧ (∀ d, d ∈ p → d.Key.size ≤ 12) ∧ p.length ≤ 6 := by
  unfold law05_few
  refine loopF_tot (fun (v : List Api_Dep × Int) => 0 ≤ v.2 ∧ v.2 ≤ 6 ∧ sortedP v.1 ∧ (∀ d, d ∈ v.1 → okDep d = true) ∧ (∀ d, d ∈ v.1 → d.Key.size ≤ 12) ∧ (v.1.length : Int) ≤ v.2) (fun v => (6 - v.2).toNat) (fun p => PO p ∧ (∀ d, d ∈ p → d.Key.size ≤ 12) ∧ p.length ≤ 6) ?_ FU ([], 0) ⟨Int.le_refl _, by simp, List.Pairwise.nil, fun v h => by simp at h, fun v h => by simp at h, by simp⟩ (by have := FU_big; simp only; omega)
  rintro again ⟨c, i⟩ ⟨h1, h2, h3, h4, h5, h6⟩ hag
  simp only at h1 h2 h3 h4 h5 h6
  unfold law05_few_l2 law05_few_k3 law05_few_k1
  simp only
  have hend : ∃ r, some c = some r ∧ PO r ∧ (∀ d, d ∈ r → d.Key.size ≤ 12) ∧ r.length ≤ 6 := ⟨c, rfl, ⟨h3, h4⟩, h5, by omega⟩
  by_cases c1 : i < (l.length : Int)
  · rw [if_pos (by simpa using c1)]
    by_cases c2 : i < 6
    · rw [if_pos (by simpa using c2), idx_int h1 c1]
      simp only [Option.bind_some]
      generalize l[i.toNat]'(by omega) = d
      have hk4 : ∀ k : ByteArray, k.size ≤ 12 → ∃ r, law05_few_k4 again (c, i) d k = some r ∧ PO r ∧ (∀ d, d ∈ r → d.Key.size ≤ 12) ∧ r.length ≤ 6 := fun k hk => by
        unfold law05_few_k4
        simp only
        rw [ref04_Add_eq (by omega) (by simp only; omega), wrap64 (n := i + 1) (by omega) (by omega)]
        simp only [Option.bind_some]
        have := addP_length c ⟨k, d.Stamp⟩
        exact hag _ ⟨by simp only; omega, by simp only; omega, addP_sorted h3, addP_ok h4 _, fun x hx => (addP_mem hx).elim (fun e => by rw [e]; exact hk) (h5 x), by simp only; omega⟩ (by simp only; omega)
      by_cases c3 : (12 : Int) < (d.Key.size : Int)
      · rw [if_pos (by simpa using c3)]
        have hsub : ssub d.Key 0 12 = some (d.Key.extract 0 12) := by
          simp only [ssub]; rw [if_pos ⟨by omega, by omega, by omega⟩]; rfl
        rw [hsub]
        simp only [Option.bind_some]
        exact hk4 _ (by rw [ByteArray.size_extract]; omega)
      · rw [if_neg (by simpa using c3)]
        exact hk4 _ (by omega)
    · rw [if_neg (by simpa using c2)]; exact hend
  · rw [if_neg (by simpa using c1), if_neg (by simp)]; exact hend
theorem law05_made_is {l : List Law05_Write} (h : l.length ≤ reachBytes ∧ ∀ x, x ∈ l → wfLaw05_Write x) : ∃ out, law05_made l = some out ∧ NI out := by
  have hr : reachBytes = 140737488351232 := rfl
  have h1 := h.1
  exact law05_made_tot (by omega) fun x hx => by have := (h.2 x hx).2.2.1; omega
theorem NI.reduce {l : List Api_Version} (h : NI l) {p : List Api_Dep} (hp : sortedP p) (hl : p.length ≤ 1000000000) : nearest_Reduce p l = some (redP p l) := nearest_Reduce_eq hp hl h.sv
theorem NI.expand {l : List Api_Version} (h : NI l) {p : List Api_Dep} (hl : p.length ≤ 100000) (hk : ∀ d, d ∈ p → d.Key.size ≤ 9223372036854775807) : nearest_Expand p l = some (expP p l) := nearest_Expand_eq hl hk h.sv fun _ hv _ hd => k8_size (h.vk hv hd)
theorem NI.closedE {l : List Api_Version} (h : NI l) {p : List Api_Dep} (hp : sortedP p) (hl : p.length ≤ 1000000000) : nearest_Closed p l = some (closedP p l) := nearest_Closed_eq hp hl h.sv

/-- what was made is sound -/
theorem NI.sound {l : List Api_Version} (h : NI l) : nearest_Sound l = some true := by
  rw [nearest_Sound_eq h.sv fun _ hv _ hd => k8_size (h.vk hv hd)]
  refine congrArg some (decide_eq_true fun i hi => ?_)
  have hm := List.getElem_mem hi
  unfold soundV
  simp only [Bool.and_eq_true]
  refine ⟨⟨⟨⟨?_, ?_⟩, okDep_stamp (h.w.ok _ hm)⟩, List.all_eq_true.2 fun d hd => (h.w.saw _ hm d hd).1⟩, h.w.past_closed hm⟩
  · cases c : (findV (l.take i) (depOf l[i])).2 with
    | false => rfl
    | true =>
      obtain ⟨h1, h2⟩ := findV_some c
      obtain ⟨j, hj, e⟩ := List.getElem_of_mem h1
      rw [List.getElem_take] at e
      have hj' : j < i := by simp at hj; omega
      exact absurd (by rw [e]; exact isP_iff.1 h2) (List.pairwise_iff_getElem.1 h.w.once j i (by omega) hi hj')
  · unfold okPast
    have h1 := h.vlen hm
    rw [Bool.and_eq_true]
    exact ⟨chainP_iff.2 ⟨(h.w.past _ hm).2, (h.w.past _ hm).1, fun _ e => by cases e⟩, decide_eq_true (by omega)⟩
end Go.Ark
