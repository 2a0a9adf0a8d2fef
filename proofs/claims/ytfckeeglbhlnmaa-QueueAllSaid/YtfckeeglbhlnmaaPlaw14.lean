/- Plain laws: what chapter 14's laws make. Conditions: none but those that stand in each law. -/
import Derived.Test.YtfckeeglbhlnmaaPqueue
import Derived.Test.YtfckeeglbhlnmaaFlaw14
namespace Go.Ark
open Go Go.Ab Go.RowKit

def wordP (n : Int) : ByteArray := bytesOf ([IntKind.wrap .u8 (IntKind.wrap .i64 (97 + (IntKind.wrap .i64 (3 * (IntKind.wrap .i64 (BitVec.ofInt (IntKind.bits .i64) n &&& BitVec.ofInt (IntKind.bits .i64) 7).toNat)))))])
theorem law14_word_eq (n : Int) : law14_word n = some (wordP n) := rfl
theorem wordP_size (n : Int) : (wordP n).size = 1 := rfl

def and3 (n : Int) : Int := IntKind.wrap .i64 (BitVec.ofInt (IntKind.bits .i64) n &&& BitVec.ofInt (IntKind.bits .i64) 3).toNat
theorem and3_le (n : Int) : 0 ≤ and3 n ∧ and3 n ≤ 3 := by
  have h : (BitVec.ofInt (IntKind.bits .i64) n &&& BitVec.ofInt (IntKind.bits .i64) 3).toNat ≤ 3 := by
    rw [BitVec.toNat_and]
    exact Nat.le_trans Nat.and_le_right (by decide)
  unfold and3
  rw [wrap64 (by omega) (by omega)]
  omega

def depOf (v : Api_Version) : Api_Dep := ⟨v.Key, v.Stamp⟩
/-- the past of one that saw these -/
def pastOf (cs : List Api_Version) : List Api_Dep := cs.foldl (fun past c => mergeP [past, c.Past, [depOf c]]) []
def maxN (p : List Api_Dep) : Int := p.foldl (fun n d => if n < d.Stamp.N then d.Stamp.N else n) 0
def dupP (v : Api_Version) (u : Api_Version) : Bool := decide (u.Key = v.Key) && (decide (u.Stamp.N = v.Stamp.N) && decide (u.Stamp.Site = v.Stamp.Site))
def newV (key : ByteArray) (site : Int) (cs : List Api_Version) : Api_Version := ⟨key, ByteArray.empty, false, ⟨maxN (pastOf cs) + 1, site⟩, pastOf cs⟩

theorem maxN_go (p : List Api_Dep) : ∀ n, n ≤ p.foldl (fun n d => if n < d.Stamp.N then d.Stamp.N else n) n ∧ (∀ m, n ≤ m → (∀ d, d ∈ p → d.Stamp.N ≤ m) → p.foldl (fun n d => if n < d.Stamp.N then d.Stamp.N else n) n ≤ m) ∧ ∀ d, d ∈ p → d.Stamp.N ≤ p.foldl (fun n d => if n < d.Stamp.N then d.Stamp.N else n) n := by
  induction p with
  | nil => intro n; exact ⟨Int.le_refl _, fun m h _ => h, fun d h => by simp at h⟩
  | cons x p ih =>
    intro n
    simp only [List.foldl_cons]
    by_cases c : n < x.Stamp.N
    · rw [if_pos c]
      obtain ⟨h1, h2, h3⟩ := ih x.Stamp.N
      refine ⟨by omega, fun m hm hd => h2 m (hd x (by simp)) fun d hd' => hd d (by simp [hd']), fun d hd => ?_⟩
      rcases List.mem_cons.1 hd with rfl | hd
      · exact h1
      · exact h3 d hd
    · rw [if_neg c]
      obtain ⟨h1, h2, h3⟩ := ih n
      refine ⟨h1, fun m hm hd => h2 m hm fun d hd' => hd d (by simp [hd']), fun d hd => ?_⟩
      rcases List.mem_cons.1 hd with rfl | hd
      · omega
      · exact h3 d hd
theorem maxN_le {p : List Api_Dep} {m : Int} (h0 : 0 ≤ m) (h : ∀ d, d ∈ p → d.Stamp.N ≤ m) : maxN p ≤ m := (maxN_go p 0).2.1 m h0 h
theorem maxN_ge {p : List Api_Dep} : 0 ≤ maxN p := (maxN_go p 0).1
theorem le_maxN {p : List Api_Dep} {d : Api_Dep} (h : d ∈ p) : d.Stamp.N ≤ maxN p := (maxN_go p 0).2.2 d h

/-- bounds of what was made -/
def BI (out : List Api_Version) : Prop := out.length ≤ 14 ∧ ∀ v, v ∈ out → v.Past.length ≤ 5 ^ out.length ∧ v.Key.size ≤ 1 ∧ v.Stamp.N ≤ out.length ∧ sortedP v.Past ∧ ∀ d, d ∈ v.Past → d.Key.size ≤ 1 ∧ d.Stamp.N ≤ out.length

theorem pastOf_snoc (cs : List Api_Version) (c : Api_Version) : pastOf (cs ++ [c]) = mergeP [pastOf cs, c.Past, [depOf c]] := by simp [pastOf]

theorem pastOf_bound {out : List Api_Version} (hb : BI out) : ∀ {cs : List Api_Version}, (∀ c, c ∈ cs → c ∈ out) →
    (pastOf cs).length ≤ cs.length * (5 ^ out.length + 1) ∧ sortedP (pastOf cs) ∧ ∀ d, d ∈ pastOf cs → d.Key.size ≤ 1 ∧ d.Stamp.N ≤ out.length := by
  intro cs
  induction hn : cs.length generalizing cs with
  | zero => intro _; cases cs <;> simp at hn; exact ⟨by simp [pastOf], List.Pairwise.nil, fun d h => by simp [pastOf] at h⟩
  | succ n ih =>
    intro hc
    obtain ⟨cs', c, rfl⟩ : ∃ cs' c, cs = cs' ++ [c] := ⟨cs.dropLast, cs.getLast (by intro h; simp [h] at hn), (List.dropLast_concat_getLast _).symm⟩
    obtain ⟨h1, h2, h3⟩ := ih (cs := cs') (by simpa using hn) fun x hx => hc x (by simp [hx])
    have hcm := hb.2 c (hc c (by simp))
    rw [pastOf_snoc]
    refine ⟨?_, mergeFold_sorted _ _ List.Pairwise.nil, fun d hd => ?_⟩
    · have := mergeFold_length [pastOf cs', c.Past, [depOf c]] []
      simp only [List.length_nil, List.map_cons, List.map_nil, List.sum_cons, List.sum_nil, List.length_cons, Nat.zero_add, Nat.add_zero] at this
      have h4 := hcm.1
      rw [Nat.add_mul]
      show (List.foldl foldP [] _).length ≤ _
      omega
    · rcases mergeFold_mem _ _ hd with h | ⟨p, hp, h⟩
      · simp at h
      · simp only [List.mem_cons, List.not_mem_nil, or_false] at hp
        rcases hp with rfl | rfl | rfl
        · exact h3 d h
        · exact hcm.2.2.2.2 d h
        · simp at h; subst h; exact ⟨hcm.2.1, hcm.2.2.1⟩

theorem pow5 {n : Nat} (h : n ≤ 14) : 5 ^ n ≤ 6103515625 := Nat.le_trans (Nat.pow_le_pow_right (by decide) h) (by decide)

theorem BI_snoc {out cs : List Api_Version} {key : ByteArray} {site : Int} (hb : BI out) (hlt : out.length < 14) (hk : key.size ≤ 1) (hc : ∀ c, c ∈ cs → c ∈ out) (hcl : cs.length ≤ 4) : BI (out ++ [newV key site cs]) := by
  obtain ⟨h1, h2, h3⟩ := pastOf_bound hb hc
  have hmono : 5 ^ out.length ≤ 5 ^ (out.length + 1) := Nat.pow_le_pow_right (by decide) (by omega)
  refine ⟨by simp; omega, fun v hv => ?_⟩
  simp only [List.length_append, List.length_cons, List.length_nil, Nat.zero_add]
  rcases List.mem_append.1 hv with hv | hv
  · obtain ⟨q1, q2, q3, q4, q5⟩ := hb.2 v hv
    exact ⟨by omega, q2, by omega, q4, fun d hd => ⟨(q5 d hd).1, by have := (q5 d hd).2; omega⟩⟩
  · simp at hv
    subst hv
    refine ⟨?_, hk, ?_, h2, fun d hd => ⟨(h3 d hd).1, by have := (h3 d hd).2; omega⟩⟩
    · show (pastOf cs).length ≤ _
      rcases Nat.eq_zero_or_pos out.length with h0 | h0
      · have : out = [] := List.length_eq_zero_iff.1 h0
        subst this
        have : cs = [] := by
          cases cs with
          | nil => rfl
          | cons c cs => exact absurd (hc c (by simp)) (by simp)
        subst this; simp [pastOf]
      · have h5 : 5 ≤ 5 ^ out.length := by
          have := Nat.pow_le_pow_right (n := 5) (by decide) h0
          simpa using this
        have h6 : cs.length * (5 ^ out.length + 1) ≤ 4 * (5 ^ out.length + 1) := Nat.mul_le_mul_right _ hcl
        rw [Nat.pow_succ]
        omega
    · show maxN (pastOf cs) + 1 ≤ _
      have := maxN_le (p := pastOf cs) (m := out.length) (by omega) fun d hd => (h3 d hd).2
      omega

/-- WHAT IS MADE, by steps: each is put behind those that it saw -/
theorem made_ind (I : List Api_Version → Prop) (h0 : I []) (hs : ∀ (out cs : List Api_Version) (n site : Int), I out → BI out → out.length < 14 → cs.length ≤ 4 → (∀ c, c ∈ cs → c ∈ out) → 0 ≤ site → site ≤ 3 →
      (∀ u, u ∈ out → dupP (newV (wordP n) site cs) u = false) → I (out ++ [newV (wordP n) site cs])) {l : List Law14_Write} (_hl : l.length ≤ 9223372036854775807) (hsaw : ∀ x, x ∈ l → x.Saw.length ≤ 9223372036854775807 ∧ ∀ y, y ∈ x.Saw → -9223372036854775808 ≤ y ∧ y ≤ 9223372036854775807) :
    ∃ out, law14_made l = some out ∧ I out ∧ BI out := by
  unfold law14_made
  refine loopF_tot (fun (v : Int × List Api_Version) => 0 ≤ v.1 ∧ v.1 ≤ (l.length : Int) ∧ v.1 ≤ 14 ∧ v.2.length ≤ v.1.toNat ∧ I v.2 ∧ BI v.2) (fun v => (14 - v.1).toNat) (fun out => I out ∧ BI out) ?_ FU (0, [])
    ⟨Int.le_refl _, by simp, by simp, by simp, h0, by simp, fun v h => by simp at h⟩ (by have := FU_big; simp only; omega)
  rintro again ⟨v, out⟩ ⟨h1, h2, h3, h4, h5, h6⟩ hag
  simp only at h1 h2 h3 h4 h5 h6
  have hend : ∃ r, law14_made_k1 out = some r ∧ I r ∧ BI r := ⟨out, rfl, h5, h6⟩
  unfold law14_made_l2 law14_made_k3
  simp only
  by_cases c : v < (l.length : Int)
  · rw [if_pos (by simpa using c)]
    by_cases c14 : v < 14
    · rw [if_pos (by simpa using c14)]
      obtain ⟨i, rfl⟩ : ∃ i : Nat, v = i := ⟨v.toNat, by omega⟩
      have hi : i < l.length := by omega
      have h4 : out.length ≤ i := by simpa using h4
      have hi14 : i < 14 := by omega
      obtain ⟨hsl, hsy⟩ := hsaw _ (List.getElem_mem hi)
      have e : IntKind.wrap .i64 ((i : Int) + 1) = ((i + 1 : Nat) : Int) := by rw [wrap64 (by omega) (by omega)]; omega
      have hkey : ∀ v, v ∈ out → v.Key.size ≤ 9223372036854775807 := fun v hv => by have := (h6.2 v hv).2.1; omega
      have hp5 := pow5 h6.1
      -- behind the loop over what it saw
      have hk43 : ∀ cs : List Api_Version, (∀ c, c ∈ cs → c ∈ out) → cs.length ≤ 4 → ∃ r, law14_made_k5 l again ((i : Int), out) (pastOf cs) = some r ∧ I r ∧ BI r := by
        intro cs hcs hcl
        obtain ⟨hb1, hb2, hb3⟩ := pastOf_bound h6 hcs
        have hpl : (pastOf cs).length ≤ 1099511627776 := by
          have : cs.length * (5 ^ out.length + 1) ≤ 4 * (5 ^ out.length + 1) := Nat.mul_le_mul_right _ hcl
          omega
        have hmax : maxN (pastOf cs) ≤ 14 := maxN_le (by omega) fun d hd => by have := (hb3 d hd).2; omega
        have hmax0 : 0 ≤ maxN (pastOf cs) := maxN_ge
        have hsite := and3_le l[i].Site
        have hk45 : ∃ r, law14_made_k6 l again ((i : Int), out) (pastOf cs) (maxN (pastOf cs)) = some r ∧ I r ∧ BI r := by
          unfold law14_made_k6
          simp only [idx_at hi, Option.bind_some, law14_word_eq]
          have en : IntKind.wrap .i64 (maxN (pastOf cs) + 1) = maxN (pastOf cs) + 1 := wrap64 (by omega) (by omega)
          have hdup : ∀ u : Api_Version, (decide (u.Key = wordP l[i].Key) && (decide (u.Stamp.N = IntKind.wrap .i64 (maxN (pastOf cs) + 1)) && decide (u.Stamp.Site = and3 l[i].Site))) = dupP (newV (wordP l[i].Key) (and3 l[i].Site) cs) u := fun u => by rw [en]; rfl
          have hk47 : ∃ r, law14_made_k7 again ((i : Int), out) (pastOf cs) (maxN (pastOf cs)) (wordP l[i].Key) l[i] (out.any (dupP (newV (wordP l[i].Key) (and3 l[i].Site) cs))) = some r ∧ I r ∧ BI r := by
            unfold law14_made_k7 law14_made_k4
            simp only
            rw [e]
            cases hd : out.any (dupP (newV (wordP l[i].Key) (and3 l[i].Site) cs)) with
            | true =>
              simp only [Bool.not_true, Bool.false_eq_true, if_false]
              exact hag _ ⟨by simp only; omega, by simp only; omega, by simp only; omega, by simp only [Int.toNat_natCast]; omega, h5, h6⟩ (by simp only; omega)
            | false =>
              simp only [Bool.not_false, if_true]
              rw [app_ok (by simp; omega) (by simp; omega), en]
              simp only [Option.bind_some]
              refine hag _ ⟨by simp only; omega, by simp only; omega, by simp only; omega, by simp only [Int.toNat_natCast, List.length_append, List.length_cons, List.length_nil]; omega, ?_, ?_⟩ (by simp only; omega)
              · exact hs out cs l[i].Key (and3 l[i].Site) h5 h6 (by omega) hcl hcs hsite.1 hsite.2 fun u hu => by
                  have := List.any_eq_false.1 hd u hu
                  simpa using this
              · exact BI_snoc h6 (by omega) (by rw [wordP_size]; omega) hcs hcl
          refine loopF_tot (fun (v : Bool × Int) => 0 ≤ v.2 ∧ v.2 ≤ (out.length : Int) ∧ v.1 = (out.take v.2.toNat).any (dupP (newV (wordP l[i].Key) (and3 l[i].Site) cs))) (fun v => ((out.length : Int) - v.2).toNat) (fun out => I out ∧ BI out) ?_ FU (false, 0)
            ⟨Int.le_refl _, by simp, by simp⟩ (by have := FU_big; simp only; omega)
          rintro again2 ⟨f, q⟩ ⟨h7, h8, h9⟩ hag2
          simp only at h7 h8 h9
          unfold law14_made_l8
          simp only
          by_cases c2 : q < (out.length : Int)
          · obtain ⟨j, rfl⟩ : ∃ j : Nat, q = j := ⟨q.toNat, by omega⟩
            have hj : j < out.length := by omega
            have e2 : IntKind.wrap .i64 ((j : Int) + 1) = ((j + 1 : Nat) : Int) := by rw [wrap64 (by omega) (by omega)]; omega
            simp only [Int.toNat_natCast] at h9
            have htk : (out.take (j + 1)).any (dupP (newV (wordP l[i].Key) (and3 l[i].Site) cs)) = (f || dupP (newV (wordP l[i].Key) (and3 l[i].Site) cs) out[j]) := by
              rw [List.take_add_one, List.getElem?_eq_getElem hj, List.any_append, h9]; simp
            rw [if_pos (by simpa using c2), e2]
            cases f with
            | true =>
              simp only [if_true]
              exact hag2 _ ⟨by simp only; omega, by simp only; omega, by simp only [Int.toNat_natCast]; rw [htk]; rfl⟩ (by simp only; omega)
            | false =>
              simp only [Bool.false_eq_true, if_false, idx_at hj, Option.bind_some, seq_eq]
              have hd := hdup out[j]
              by_cases hkk : out[j].Key = wordP l[i].Key
              · rw [if_pos (by simpa using hkk)]
                refine hag2 _ ⟨by simp only; omega, by simp only; omega, ?_⟩ (by simp only; omega)
                simp only [Int.toNat_natCast]
                rw [htk, ← hd, decide_eq_true hkk]
                rfl
              · rw [if_neg (by simpa using hkk)]
                refine hag2 _ ⟨by simp only; omega, by simp only; omega, ?_⟩ (by simp only; omega)
                simp only [Int.toNat_natCast]
                rw [htk, ← hd, decide_eq_false hkk]
                rfl
          · rw [if_neg (by simpa using c2), h9, show q.toNat = out.length by omega, List.take_length]
            exact hk47
        unfold law14_made_k5
        refine loopF_tot (fun (v : Int × Int) => 0 ≤ v.2 ∧ v.2 ≤ ((pastOf cs).length : Int) ∧ ((pastOf cs).drop v.2.toNat).foldl (fun n d => if n < d.Stamp.N then d.Stamp.N else n) v.1 = maxN (pastOf cs)) (fun v => (((pastOf cs).length : Int) - v.2).toNat) (fun out => I out ∧ BI out) ?_ FU (0, 0)
          ⟨Int.le_refl _, by simp, by simp [maxN]⟩ (by have := FU_big; simp only; omega)
        rintro again2 ⟨n, q⟩ ⟨h7, h8, h9⟩ hag2
        simp only at h7 h8 h9
        unfold law14_made_l9
        simp only
        by_cases c2 : q < ((pastOf cs).length : Int)
        · obtain ⟨j, rfl⟩ : ∃ j : Nat, q = j := ⟨q.toNat, by omega⟩
          have hj : j < (pastOf cs).length := by omega
          have e2 : IntKind.wrap .i64 ((j : Int) + 1) = ((j + 1 : Nat) : Int) := by rw [wrap64 (by omega) (by omega)]; omega
          simp only [Int.toNat_natCast] at h9
          rw [List.drop_eq_getElem_cons hj, List.foldl_cons] at h9
          rw [if_pos (by simpa using c2), e2]
          simp only [idx_at hj, Option.bind_some]
          by_cases c3 : n < (pastOf cs)[j].Stamp.N
          · rw [if_pos (by simpa using c3)]
            rw [if_pos c3] at h9
            exact hag2 _ ⟨by simp only; omega, by simp only; omega, by simp only [Int.toNat_natCast]; exact h9⟩ (by simp only; omega)
          · rw [if_neg (by simpa using c3)]
            rw [if_neg c3] at h9
            exact hag2 _ ⟨by simp only; omega, by simp only; omega, by simp only [Int.toNat_natCast]; exact h9⟩ (by simp only; omega)
        · rw [if_neg (by simpa using c2)]
          rw [List.drop_of_length_le (by omega)] at h9
          have h9 : n = maxN (pastOf cs) := h9
          rw [h9]
          exact hk45
      -- what it saw, one by one
      refine loopF_tot (fun (v : List Api_Dep × Int) => 0 ≤ v.2 ∧ v.2 ≤ 4 ∧ v.2 ≤ (l[i].Saw.length : Int) ∧ ∃ cs : List Api_Version, (∀ c, c ∈ cs → c ∈ out) ∧ cs.length ≤ v.2.toNat ∧ v.1 = pastOf cs) (fun v => (4 - v.2).toNat) (fun out => I out ∧ BI out) ?_ FU ([], 0)
        ⟨Int.le_refl _, by simp, by simp, [], fun c h => by simp at h, by simp, rfl⟩ (by have := FU_big; simp only; omega)
      rintro again2 ⟨past, q⟩ ⟨h7, h8, h9, cs, hcs, hcl, h10⟩ hag2
      simp only at h7 h8 h9 hcl h10
      subst h10
      unfold law14_made_l10 law14_made_k11
      simp only [idx_at hi, Option.bind_some]
      by_cases c2 : q < (l[i].Saw.length : Int)
      · rw [if_pos (by simpa using c2)]
        by_cases c4 : q < 4
        · rw [if_pos (by simpa using c4)]
          obtain ⟨j, rfl⟩ : ∃ j : Nat, q = j := ⟨q.toNat, by omega⟩
          have hj : j < l[i].Saw.length := by omega
          have e2 : IntKind.wrap .i64 ((j : Int) + 1) = ((j + 1 : Nat) : Int) := by rw [wrap64 (by omega) (by omega)]; omega
          simp only [Int.toNat_natCast] at hcl
          rw [e2]
          by_cases ce : 0 < (out.length : Int)
          · rw [if_pos (by simpa using ce)]
            have hy := hsy _ (List.getElem_mem hj)
            rw [idx_at hj]
            simp only [Option.bind_some, chk]
            have hne : (!decide ((out.length : Int) = 0)) = true := by rw [decide_eq_false (by omega)]; rfl
            simp only [hne, if_true]
            -- the place
            have hm1 : Int.tmod l[i].Saw[j] (out.length : Int) < out.length := Int.tmod_lt_of_pos _ ce
            have hm2 : -(out.length : Int) < Int.tmod l[i].Saw[j] (out.length : Int) := by
              have := Int.tmod_lt_of_pos (-l[i].Saw[j]) ce
              rw [Int.neg_tmod] at this
              omega
            rw [wrap64 (by omega) (by omega)]
            have hm3 : 0 ≤ Int.tmod (Int.tmod l[i].Saw[j] (out.length : Int) + out.length) (out.length : Int) := Int.tmod_nonneg _ (by omega)
            have hm4 : Int.tmod (Int.tmod l[i].Saw[j] (out.length : Int) + out.length) (out.length : Int) < out.length := Int.tmod_lt_of_pos _ ce
            generalize Int.tmod (Int.tmod l[i].Saw[j] (out.length : Int) + out.length) (out.length : Int) = m at hm3 hm4
            rw [idx_int hm3 hm4]
            simp only [Option.bind_some]
            have hmem : out[m.toNat]'(by omega) ∈ out := List.getElem_mem _
            generalize out[m.toNat]'(by omega) = u at hmem
            obtain ⟨q1, q2, q3, q4, q5⟩ := h6.2 u hmem
            obtain ⟨hb1, hb2, hb3⟩ := pastOf_bound h6 hcs
            have hpl : cs.length * (5 ^ out.length + 1) ≤ 4 * (5 ^ out.length + 1) := Nat.mul_le_mul_right _ (by omega)
            rw [ref04_Merge_eq (l := [pastOf cs, u.Past, [Api_Dep.mk u.Key u.Stamp]]) (fun p hp d hd => by
              simp only [List.mem_cons, List.not_mem_nil, or_false] at hp
              rcases hp with rfl | rfl | rfl
              · have := (hb3 d hd).1; omega
              · have := (q5 d hd).1; omega
              · simp at hd; subst hd; simp only; omega) (by simp; omega) (by simp)]
            simp only [Option.bind_some]
            refine hag2 _ ⟨by simp only; omega, by simp only; omega, by simp only; omega, cs ++ [u], fun c hc => ?_, by simp; omega, (pastOf_snoc cs u).symm⟩ (by simp only; omega)
            rcases List.mem_append.1 hc with hc | hc
            · exact hcs c hc
            · simp at hc; subst hc; exact hmem
          · rw [if_neg (by simpa using ce)]
            exact hag2 _ ⟨by simp only; omega, by simp only; omega, by simp only; omega, cs, hcs, by simp only [Int.toNat_natCast]; omega, rfl⟩ (by simp only; omega)
        · rw [if_neg (by simpa using c4)]
          exact hk43 cs hcs (by omega)
      · rw [if_neg (by simpa using c2)]
        simp only [Bool.false_eq_true, if_false]
        exact hk43 cs hcs (by omega)
    · rw [if_neg (by simpa using c14)]
      exact hend
  · rw [if_neg (by simpa using c)]
    simp only [Bool.false_eq_true, if_false]
    exact hend

theorem law14_ranges_tot (n : Int) : ∃ l, law14_ranges n = some l ∧ l.length ≤ 2 := by
  unfold law14_ranges
  repeat' split
  all_goals exact ⟨_, rfl, by simp⟩

theorem law14_awake_eq : law14_awake = some true := by decide +kernel
end Go.Ark
