/- Plain laws: versions that are made by steps, each behind those that it saw. Conditions: none but those that stand in each law. -/
import Derived.Test.YtdngcojjipaajaaPpast2
namespace Go.Ark
open Go Go.Ab Go.RowKit

def and3 (n : Int) : Int := IntKind.wrap .i64 (BitVec.ofInt (IntKind.bits .i64) n &&& BitVec.ofInt (IntKind.bits .i64) 3).toNat
theorem and3_le (n : Int) : 0 ≤ and3 n ∧ and3 n ≤ 3 := by
  have h : (BitVec.ofInt (IntKind.bits .i64) n &&& BitVec.ofInt (IntKind.bits .i64) 3).toNat ≤ 3 := by
    rw [BitVec.toNat_and]
    exact Nat.le_trans Nat.and_le_right (by decide)
  unfold and3
  rw [wrap64 (by omega) (by omega)]
  omega

def depOf (v : Api_Version) : Api_Dep := ⟨v.Key, v.Stamp⟩
/-- the past of one that saw these -/
def pastOf (cs : List Api_Version) : List Api_Dep := cs.foldl (fun past c => mergeP [past, c.Past, [depOf c]]) []
def maxN (p : List Api_Dep) : Int := p.foldl (fun n d => if n < d.Stamp.N then d.Stamp.N else n) 0
def dupP (v : Api_Version) (u : Api_Version) : Bool := decide (u.Key = v.Key) && (decide (u.Stamp.N = v.Stamp.N) && decide (u.Stamp.Site = v.Stamp.Site))
def newV (key : ByteArray) (site : Int) (cs : List Api_Version) : Api_Version := ⟨key, ByteArray.empty, false, ⟨maxN (pastOf cs) + 1, site⟩, pastOf cs⟩

theorem maxN_go (p : List Api_Dep) : ∀ n, n ≤ p.foldl (fun n d => if n < d.Stamp.N then d.Stamp.N else n) n ∧ (∀ m, n ≤ m → (∀ d, d ∈ p → d.Stamp.N ≤ m) → p.foldl (fun n d => if n < d.Stamp.N then d.Stamp.N else n) n ≤ m) ∧ ∀ d, d ∈ p → d.Stamp.N ≤ p.foldl (fun n d => if n < d.Stamp.N then d.Stamp.N else n) n := by
  induction p with
  | nil => intro n; exact ⟨Int.le_refl _, fun m h _ => h, fun d h => by simp at h⟩
  | cons x p ih =>
    intro n
    simp only [List.foldl_cons]
    by_cases c : n < x.Stamp.N
    · rw [if_pos c]
      obtain ⟨h1, h2, h3⟩ := ih x.Stamp.N
      refine ⟨by omega, fun m hm hd => h2 m (hd x (by simp)) fun d hd' => hd d (by simp [hd']), fun d hd => ?_⟩
      rcases List.mem_cons.1 hd with rfl | hd
      · exact h1
      · exact h3 d hd
    · rw [if_neg c]
      obtain ⟨h1, h2, h3⟩ := ih n
      refine ⟨h1, fun m hm hd => h2 m hm fun d hd' => hd d (by simp [hd']), fun d hd => ?_⟩
      rcases List.mem_cons.1 hd with rfl | hd
      · omega
      · exact h3 d hd
theorem maxN_le {p : List Api_Dep} {m : Int} (h0 : 0 ≤ m) (h : ∀ d, d ∈ p → d.Stamp.N ≤ m) : maxN p ≤ m := (maxN_go p 0).2.1 m h0 h
theorem maxN_ge {p : List Api_Dep} : 0 ≤ maxN p := (maxN_go p 0).1
theorem le_maxN {p : List Api_Dep} {d : Api_Dep} (h : d ∈ p) : d.Stamp.N ≤ maxN p := (maxN_go p 0).2.2 d h

/-- bounds of what was made -/
def BI (out : List Api_Version) : Prop := out.length ≤ 14 ∧ ∀ v, v ∈ out → v.Past.length ≤ 5 ^ out.length ∧ v.Key.size ≤ 1 ∧ v.Stamp.N ≤ out.length ∧ sortedP v.Past ∧ ∀ d, d ∈ v.Past → d.Key.size ≤ 1 ∧ d.Stamp.N ≤ out.length

theorem pastOf_snoc (cs : List Api_Version) (c : Api_Version) : pastOf (cs ++ [c]) = mergeP [pastOf cs, c.Past, [depOf c]] := by simp [pastOf]

theorem pastOf_bound {out : List Api_Version} (hb : BI out) : ∀ {cs : List Api_Version}, (∀ c, c ∈ cs → c ∈ out) →
    (pastOf cs).length ≤ cs.length * (5 ^ out.length + 1) ∧ sortedP (pastOf cs) ∧ ∀ d, d ∈ pastOf cs → d.Key.size ≤ 1 ∧ d.Stamp.N ≤ out.length := by
  intro cs
  induction hn : cs.length generalizing cs with
  | zero => intro _; cases cs <;> simp at hn; exact ⟨by simp [pastOf], List.Pairwise.nil, fun d h => by simp [pastOf] at h⟩
  | succ n ih =>
    intro hc
    obtain ⟨cs', c, rfl⟩ : ∃ cs' c, cs = cs' ++ [c] := ⟨cs.dropLast, cs.getLast (by intro h; simp [h] at hn), (List.dropLast_concat_getLast _).symm⟩
    obtain ⟨h1, h2, h3⟩ := ih (cs := cs') (by simpa using hn) fun x hx => hc x (by simp [hx])
    have hcm := hb.2 c (hc c (by simp))
    rw [pastOf_snoc]
    refine ⟨?_, mergeFold_sorted _ _ List.Pairwise.nil, fun d hd => ?_⟩
    · have := mergeFold_length [pastOf cs', c.Past, [depOf c]] []
      simp only [List.length_nil, List.map_cons, List.map_nil, List.sum_cons, List.sum_nil, List.length_cons, Nat.zero_add, Nat.add_zero] at this
      have h4 := hcm.1
      rw [Nat.add_mul]
      show (List.foldl foldP [] _).length ≤ _
      omega
    · rcases mergeFold_mem _ _ hd with h | ⟨p, hp, h⟩
      · simp at h
      · simp only [List.mem_cons, List.not_mem_nil, or_false] at hp
        rcases hp with rfl | rfl | rfl
        · exact h3 d h
        · exact hcm.2.2.2.2 d h
        · simp at h; subst h; exact ⟨hcm.2.1, hcm.2.2.1⟩

theorem pow5 {n : Nat} (h : n ≤ 14) : 5 ^ n ≤ 6103515625 := Nat.le_trans (Nat.pow_le_pow_right (by decide) h) (by decide)

theorem BI_snoc {out cs : List Api_Version} {key : ByteArray} {site : Int} (hb : BI out) (hlt : out.length < 14) (hk : key.size ≤ 1) (hc : ∀ c, c ∈ cs → c ∈ out) (hcl : cs.length ≤ 4) : BI (out ++ [newV key site cs]) := by
  obtain ⟨h1, h2, h3⟩ := pastOf_bound hb hc
  have hmono : 5 ^ out.length ≤ 5 ^ (out.length + 1) := Nat.pow_le_pow_right (by decide) (by omega)
  refine ⟨by simp; omega, fun v hv => ?_⟩
  simp only [List.length_append, List.length_cons, List.length_nil, Nat.zero_add]
  rcases List.mem_append.1 hv with hv | hv
  · obtain ⟨q1, q2, q3, q4, q5⟩ := hb.2 v hv
    exact ⟨by omega, q2, by omega, q4, fun d hd => ⟨(q5 d hd).1, by have := (q5 d hd).2; omega⟩⟩
  · simp at hv
    subst hv
    refine ⟨?_, hk, ?_, h2, fun d hd => ⟨(h3 d hd).1, by have := (h3 d hd).2; omega⟩⟩
    · show (pastOf cs).length ≤ _
      rcases Nat.eq_zero_or_pos out.length with h0 | h0
      · have : out = [] := List.length_eq_zero_iff.1 h0
        subst this
        have : cs = [] := by
          cases cs with
          | nil => rfl
          | cons c cs => exact absurd (hc c (by simp)) (by simp)
        subst this; simp [pastOf]
      · have h5 : 5 ≤ 5 ^ out.length := by
          have := Nat.pow_le_pow_right (n := 5) (by decide) h0
          simpa using this
        have h6 : cs.length * (5 ^ out.length + 1) ≤ 4 * (5 ^ out.length + 1) := Nat.mul_le_mul_right _ hcl
        rw [Nat.pow_succ]
        omega
    · show maxN (pastOf cs) + 1 ≤ _
      have := maxN_le (p := pastOf cs) (m := out.length) (by omega) fun d hd => (h3 d hd).2
      omega
end Go.Ark
