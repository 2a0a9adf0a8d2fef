/- Plain laws: which keys and stamps may be; a dep that is put to a past. Conditions: none but those that stand in each law. -/
import Derived.Test.YtfckeeglbhlnmaaQLPl3
namespace Go.Ark
open Go Go.Ab

theorem loopF_tot {T R : Type} {body : (T → Option R) → T → Option R} (I : T → Prop) (μ : T → Nat) (Q : R → Prop)
    (step : ∀ again v, I v → (∀ v', I v' → μ v' < μ v → ∃ r, again v' = some r ∧ Q r) → ∃ r, body again v = some r ∧ Q r) : ∀ n v, I v → μ v < n → ∃ r, loopF body n v = some r ∧ Q r
  | 0, v, _, h => by omega
  | n + 1, v, hI, h => by
    rw [loopF]
    exact step _ _ hI fun v' hI' hlt => loopF_tot I μ Q step n v' hI' (by omega)

theorem sidx_at {s : ByteArray} {i : Nat} (h : i < s.size) : sidx s (i : Int) = some s[i] := by
  simp only [sidx, Int.natCast_nonneg, if_true, Int.toNat_natCast]
  exact getElem?_pos s i h

theorem ref02_long_eq (c : Int) : ∃ n, ref02_long c = some n ∧ 0 ≤ n ∧ n ≤ 4 ∧ (n ≤ 1 → c < 194 ∨ 244 < c) := by
  unfold ref02_long ref02_long_k1 ref02_long_k2
  simp only [decide_eq_true_eq]
  repeat' split
  all_goals first
    | exact ⟨_, rfl, by omega, by omega, fun _ => by omega⟩
    | (simp_all)
  all_goals omega

set_option maxRecDepth 50000 in
theorem ref02_Runes_tot {s : ByteArray} (hl : s.size ≤ 140737488355328) : ∃ r, ref02_Runes s = some r ∧ -1 ≤ r ∧ r ≤ s.size := by
  unfold ref02_Runes
  refine loopF_tot (fun (v : Int × Int) => 0 ≤ v.1 ∧ v.1 ≤ v.2 ∧ v.2 ≤ (s.size : Int)) (fun v => ((s.size : Int) - v.2).toNat) (fun r => -1 ≤ r ∧ r ≤ (s.size : Int)) ?_ FU (0, 0) ⟨Int.le_refl _, Int.le_refl _, by simp⟩ (by have := FU_big; simp only; omega)
  rintro again ⟨n, at_⟩ ⟨h1, h2, h3⟩ hag
  simp only at h1 h2 h3
  unfold ref02_Runes_l8
  simp only
  by_cases c : at_ < (s.size : Int)
  · obtain ⟨i, rfl⟩ : ∃ i : Nat, at_ = i := ⟨at_.toNat, by omega⟩
    have hi : i < s.size := by omega
    rw [if_pos (by simpa using c), sidx_at hi]
    simp only [Option.bind_some]
    obtain ⟨m, hm, hm0, hm4, hm1⟩ := ref02_long_eq (s[i].toNat : Int)
    rw [hm]
    simp only [Option.bind_some]
    have hbad : ∃ r, (some (-1) : Option Int) = some r ∧ -1 ≤ r ∧ r ≤ (s.size : Int) := ⟨-1, rfl, by omega, by omega⟩
    by_cases c0 : m = 0
    · rw [if_pos (by simpa using c0)]; exact hbad
    · rw [if_neg (by simpa using c0), wrap64 (by omega) (by omega)]
      unfold ref02_Runes_k9
      by_cases c1 : (s.size : Int) - i < m
      · rw [if_pos (by simpa using c1)]; exact hbad
      · rw [if_neg (by simpa using c1)]
        have hk12 : ∀ y, ∃ r, ref02_Runes_k12 again (n, (i : Int)) m y = some r ∧ -1 ≤ r ∧ r ≤ (s.size : Int) := by
          intro y
          unfold ref02_Runes_k12
          cases y with
          | true => exact hbad
          | false =>
            simp only [Bool.false_eq_true, if_false]
            rw [wrap64 (by omega) (by omega), wrap64 (by omega) (by omega)]
            exact hag _ ⟨by simp only; omega, by simp only; omega, by simp only; omega⟩ (by simp only; omega)
        have hk11 : ∃ r, ref02_Runes_k11 s again (n, (i : Int)) m () = some r ∧ -1 ≤ r ∧ r ≤ (s.size : Int) := by
          unfold ref02_Runes_k11
          simp only [sidx_at hi, Option.bind_some]
          by_cases c2 : m ≤ 1
          · have h5 := hm1 c2
            have e1 : ¬ ((s[i].toNat : Int) = 224) := by omega
            have e2 : ¬ ((s[i].toNat : Int) = 237) := by omega
            have e3 : ¬ ((s[i].toNat : Int) = 240) := by omega
            have e4 : ¬ ((s[i].toNat : Int) = 244) := by omega
            simp only [e1, e2, e3, e4, decide_false, Bool.false_eq_true, if_false]
            exact hk12 _
          · have hi1 : i + 1 < s.size := by omega
            have e : IntKind.wrap .i64 ((i : Int) + 1) = ((i + 1 : Nat) : Int) := by rw [wrap64 (by omega) (by omega)]; omega
            simp only [e, sidx_at hi1, Option.bind_some]
            repeat' split
            all_goals exact hk12 _
        refine loopF_tot (fun (q : Int) => 1 ≤ q ∧ q ≤ m) (fun q => (m - q).toNat) (fun r => -1 ≤ r ∧ r ≤ (s.size : Int)) ?_ FU 1 ⟨Int.le_refl _, by omega⟩ (by have := FU_big; omega)
        rintro again2 q ⟨h5, h6⟩ hag2
        unfold ref02_Runes_l13
        by_cases c2 : q < m
        · rw [if_pos (by simpa using c2)]
          obtain ⟨j, rfl⟩ : ∃ j : Nat, q = j := ⟨q.toNat, by omega⟩
          have e : IntKind.wrap .i64 ((n, (i : Int)).2 + (j : Int)) = ((i + j : Nat) : Int) := by rw [wrap64 (by simp only; omega) (by simp only; omega)]; simp only; omega
          rw [e, sidx_at (by omega)]
          simp only [Option.bind_some]
          repeat' split
          · exact hbad
          · exact hbad
          · rw [wrap64 (by omega) (by omega)]
            exact hag2 _ ⟨by omega, by omega⟩ (by omega)
        · rw [if_neg (by simpa using c2)]
          exact hk11
  · rw [if_neg (by simpa using c)]
    exact ⟨n, rfl, by omega, by omega⟩

theorem ref02_Check_tot {s : ByteArray} (hl : s.size ≤ 140737488355328) : ∃ b, ref02_Check s = some b := by
  unfold ref02_Check
  obtain ⟨r, hr, _, _⟩ := ref02_Runes_tot hl
  rw [hr]
  simp only [Option.bind_some]
  have := loopF_tot (body := ref02_Check_l3 s r) (fun (v : Int) => 0 ≤ v ∧ v ≤ (s.size : Int)) (fun v => ((s.size : Int) - v).toNat) (fun _ => True) ?_ FU 0 ⟨Int.le_refl _, by omega⟩ (by have := FU_big; omega)
  · obtain ⟨b, hb, _⟩ := this; exact ⟨b, hb⟩
  · rintro again v ⟨h1, h2⟩ hag
    unfold ref02_Check_l3 ref02_Check_k2
    by_cases c : v < (s.size : Int)
    · obtain ⟨i, rfl⟩ : ∃ i : Nat, v = i := ⟨v.toNat, by omega⟩
      rw [if_pos (by simpa using c), sidx_at (by omega)]
      simp only [Option.bind_some]
      split
      · exact ⟨_, rfl, trivial⟩
      · rw [wrap64 (by omega) (by omega)]
        exact hag _ ⟨by omega, by omega⟩ (by omega)
    · rw [if_neg (by simpa using c)]
      split <;> exact ⟨_, rfl, trivial⟩

def okKey (s : ByteArray) : Bool := (ref02_Check s).getD false
theorem ref02_Check_eq {s : ByteArray} (hl : s.size ≤ 140737488355328) : ref02_Check s = some (okKey s) := by
  obtain ⟨b, hb⟩ := ref02_Check_tot hl
  simp [okKey, hb]
def okStamp (s : Api_Stamp) : Bool := decide (1 ≤ s.N) && (decide (s.N ≤ 1099511627776) && (decide (0 ≤ s.Site) && decide (s.Site < 6)))
theorem ref03_Check_eq (s : Api_Stamp) : ref03_Check s = some (okStamp s) := by
  unfold ref03_Check okStamp
  by_cases h1 : 1 ≤ s.N <;> by_cases h2 : s.N ≤ 1099511627776 <;> by_cases h3 : 0 ≤ s.Site <;> simp [h1, h2, h3]

def okDep (d : Api_Dep) : Bool := okKey d.Key && okStamp d.Stamp

def addGo (d : Api_Dep) : Bool → List Api_Dep → List Api_Dep
  | put, [] => if put then [] else [d]
  | put, x :: p => if x.Key = d.Key then (if lessP x.Stamp d.Stamp then d else x) :: addGo d true p
    else if put = false ∧ slt d.Key x.Key = true then d :: x :: addGo d true p else x :: addGo d put p

def insD (d : Api_Dep) : List Api_Dep → List Api_Dep
  | [] => [d]
  | x :: p => if x.Key = d.Key then (if lessP x.Stamp d.Stamp then d else x) :: p else if slt d.Key x.Key = true then d :: x :: p else x :: insD d p

theorem addGo_true {d : Api_Dep} {p : List Api_Dep} (h : ∀ x, x ∈ p → x.Key ≠ d.Key) : addGo d true p = p := by
  induction p with
  | nil => rfl
  | cons x p ih => rw [addGo, if_neg (h x (by simp)), if_neg (by simp), ih fun y hy => h y (by simp [hy])]

theorem addGo_sorted {d : Api_Dep} {p : List Api_Dep} (hs : sortedP p) : addGo d false p = insD d p := by
  induction p with
  | nil => rfl
  | cons x p ih =>
    obtain ⟨h1, h2⟩ := List.pairwise_cons.1 hs
    rw [addGo, insD]
    by_cases c : x.Key = d.Key
    · rw [if_pos c, if_pos c, addGo_true fun y hy e => by have := h1 y hy; rw [c, e, slt_irrefl] at this; cases this]
    · rw [if_neg c, if_neg c]
      by_cases c2 : slt d.Key x.Key = true
      · rw [if_pos ⟨rfl, c2⟩, if_pos c2, addGo_true fun y hy e => by
          have := slt_trans c2 (h1 y hy)
          rw [e, slt_irrefl] at this; cases this]
      · rw [if_neg (fun h => c2 h.2), if_neg c2, ih h2]

theorem insD_keys {d : Api_Dep} {p : List Api_Dep} {x : Api_Dep} (h : x ∈ insD d p) : x.Key = d.Key ∨ ∃ y, y ∈ p ∧ y.Key = x.Key := by
  induction p with
  | nil => simp [insD] at h; exact .inl (by rw [h])
  | cons y p ih =>
    rw [insD] at h
    split at h
    · rename_i c
      rcases List.mem_cons.1 h with h | h
      · split at h
        · exact .inl (by rw [h])
        · exact .inl (by rw [h, c])
      · exact .inr ⟨x, by simp [h], rfl⟩
    · split at h
      · rcases List.mem_cons.1 h with h | h
        · exact .inl (by rw [h])
        · exact .inr ⟨x, h, rfl⟩
      · rcases List.mem_cons.1 h with h | h
        · exact .inr ⟨y, by simp, by rw [h]⟩
        · rcases ih h with h | ⟨z, hz, e⟩
          · exact .inl h
          · exact .inr ⟨z, by simp [hz], e⟩

theorem insD_sorted {d : Api_Dep} {p : List Api_Dep} (hs : sortedP p) : sortedP (insD d p) := by
  induction p with
  | nil => simp [insD, sortedP]
  | cons x p ih =>
    obtain ⟨h1, h2⟩ := List.pairwise_cons.1 hs
    rw [insD]
    split
    · rename_i c
      refine List.pairwise_cons.2 ⟨fun y hy => ?_, h2⟩
      split
      · rw [← c]; exact h1 y hy
      · exact h1 y hy
    · rename_i c
      split
      · rename_i c2
        refine List.pairwise_cons.2 ⟨fun y hy => ?_, hs⟩
        rcases List.mem_cons.1 hy with rfl | hy
        · exact c2
        · exact slt_trans c2 (h1 y hy)
      · rename_i c2
        refine List.pairwise_cons.2 ⟨fun y hy => ?_, ih h2⟩
        rcases insD_keys hy with h | ⟨z, hz, e⟩
        · rw [h]
          cases h3 : slt x.Key d.Key with
          | true => rfl
          | false => exact absurd (slt_tri h3 (by simpa using c2)) c
        · rw [← e]; exact h1 z hz

theorem insD_length {d : Api_Dep} {p : List Api_Dep} : (insD d p).length ≤ p.length + 1 := by
  induction p with
  | nil => simp [insD]
  | cons x p ih =>
    rw [insD]
    repeat' split
    all_goals simp
    all_goals omega

theorem addGo_length {d : Api_Dep} : ∀ (put : Bool) (p : List Api_Dep), (addGo d put p).length ≤ p.length + (if put then 0 else 1)
  | true, [] => by simp [addGo]
  | false, [] => by simp [addGo]
  | put, x :: p => by
    have h1 := addGo_length (d := d) true p
    have h2 := addGo_length (d := d) put p
    rw [addGo]
    repeat' split
    all_goals simp only [List.length_cons] at *
    all_goals (try simp_all)
    all_goals omega

def addP (p : List Api_Dep) (d : Api_Dep) : List Api_Dep := if okDep d then addGo d false p else p

theorem addP_sorted {p : List Api_Dep} {d : Api_Dep} (hs : sortedP p) : sortedP (addP p d) := by
  unfold addP
  split
  · rw [addGo_sorted hs]; exact insD_sorted hs
  · exact hs
theorem addP_length (p : List Api_Dep) (d : Api_Dep) : (addP p d).length ≤ p.length + 1 := by
  unfold addP
  split
  · exact addGo_length false p
  · omega

theorem ref04_Add_eq {p : List Api_Dep} {d : Api_Dep} (hp : p.length < 1099511627776) (hk : d.Key.size ≤ 140737488355328) : ref04_Add p d = some (addP p d) := by
  unfold ref04_Add
  rw [ref02_Check_eq hk, ref03_Check_eq]
  simp only [Option.bind_some]
  unfold addP okDep ref04_Add_k1
  cases h1 : okKey d.Key with
  | false => simp
  | true =>
    cases h2 : okStamp d.Stamp with
    | false => simp
    | true =>
      simp only [Bool.not_true, Bool.false_eq_true, if_false, Bool.and_self, if_true]
      refine loopF_inv (fun (v : Bool × Int × List Api_Dep) => 0 ≤ v.2.1 ∧ v.2.1 ≤ (p.length : Int) ∧ v.2.2.length ≤ v.2.1.toNat + (if v.1 then 1 else 0) ∧ v.2.2 ++ addGo d v.1 (p.drop v.2.1.toNat) = addGo d false p)
        (fun v => ((p.length : Int) - v.2.1).toNat) (fun _ => some (addGo d false p)) ?_ FU (false, 0, []) ⟨Int.le_refl _, by simp, by simp, by simp⟩ (by have := FU_big; simp only; omega)
      rintro again ⟨put, v, out⟩ ⟨h3, h4, h5, h6⟩ hag
      simp only at h3 h4 h5 h6
      unfold ref04_Add_l7
      simp only
      have hput : (if put = true then 1 else 0) ≤ 1 := by cases put <;> simp
      by_cases c : v < (p.length : Int)
      · obtain ⟨i, rfl⟩ : ∃ i : Nat, v = i := ⟨v.toNat, by omega⟩
        have hi : i < p.length := by omega
        simp only [Int.toNat_natCast] at h5 h6
        have e : IntKind.wrap .i64 ((i : Int) + 1) = ((i + 1 : Nat) : Int) := by rw [wrap64 (by omega) (by omega)]; omega
        rw [List.drop_eq_getElem_cons hi, addGo] at h6
        rw [if_pos (by simpa using c), idx_at hi]
        simp only [Option.bind_some, seq_eq, ref03_Less_eq]
        have fin : ∀ (put' : Bool) (x : Api_Dep), (put' = true → out.length + 1 ≤ i + 1 + 1) → out ++ x :: addGo d put' (p.drop (i + 1)) = addGo d false p → (put' = false → put = false) →
            (app 32 out [x]).bind (fun l => again (put', IntKind.wrap .i64 ((i : Int) + 1), l)) = some (addGo d false p) := by
          intro put' x hle heq hpp
          rw [app_ok (by simp; omega) (by simp; omega), e]
          simp only [Option.bind_some]
          refine hag _ ⟨by simp only; omega, by simp only; omega, ?_, by simp only [Int.toNat_natCast]; rw [List.append_assoc]; exact heq⟩ (by simp only; omega)
          simp only [Int.toNat_natCast, List.length_append, List.length_cons, List.length_nil]
          cases put' with
          | true => simp; omega
          | false => rw [hpp rfl] at h5; simp at h5 ⊢; omega
        by_cases hk : p[i].Key = d.Key
        · rw [if_pos (by simpa using hk)]
          rw [if_pos hk] at h6
          unfold ref04_Add_k8 ref04_Add_k9 ref04_Add_k10
          cases hl : lessP p[i].Stamp d.Stamp with
          | true =>
            simp only [if_true, Bool.not_true, Bool.false_eq_true, if_false]
            rw [hl, if_pos rfl] at h6
            exact fin true d (fun _ => by omega) h6 (fun c => by cases c)
          | false =>
            simp only [if_true, Bool.not_true, Bool.false_eq_true, if_false]
            rw [hl, if_neg (by simp)] at h6
            exact fin true p[i] (fun _ => by omega) h6 (fun c => by cases c)
        · rw [if_neg (by simpa using hk)]
          rw [if_neg hk] at h6
          unfold ref04_Add_k8 ref04_Add_k9 ref04_Add_k10
          cases put with
          | true =>
            simp only [Bool.not_true, Bool.false_eq_true, if_false]
            rw [if_neg (by simp)] at h6
            exact fin true p[i] (fun _ => by simp at h5; omega) h6 (fun c => by cases c)
          | false =>
            simp only [Bool.not_false, if_true]
            have hgt : (!(slt p[i].Key d.Key || decide (p[i].Key = d.Key))) = slt d.Key p[i].Key := by
              rw [decide_eq_false hk, Bool.or_false]
              cases h7 : slt p[i].Key d.Key with
              | true => rw [slt_asymm h7]; rfl
              | false =>
                cases h8 : slt d.Key p[i].Key with
                | true => rfl
                | false => exact absurd (slt_tri h7 h8) hk
            rw [seq_eq, hgt]
            cases h7 : slt d.Key p[i].Key with
            | true =>
              simp only [if_true]
              rw [if_pos ⟨rfl, h7⟩] at h6
              simp at h5
              rw [app_ok (by simp; omega) (by simp; omega)]
              simp only [Option.bind_some]
              rw [app_ok (by simp; omega) (by simp; omega), e]
              simp only [Option.bind_some]
              exact hag _ ⟨by simp only; omega, by simp only; omega, by simp; omega, by simp only [Int.toNat_natCast]; rw [← h6]; simp⟩ (by simp only; omega)
            | false =>
              simp only [Bool.false_eq_true, if_false]
              rw [h7, if_neg (by simp)] at h6
              exact fin false p[i] (fun c => by cases c) h6 (fun _ => rfl)
      · rw [if_neg (by simpa using c)]
        unfold ref04_Add_k6
        rw [List.drop_of_length_le (by omega)] at h6
        cases put with
        | true => simp [addGo] at h6 ⊢; exact h6
        | false =>
          simp only [Bool.not_false, if_true]
          simp only [addGo, Bool.false_eq_true, if_false] at h6
          simp at h5
          rw [app_ok (by simp; omega) (by simp; omega), h6]
          rfl

end Go.Ark
