/- Plain laws: the document's reading of versions is the program's. Conditions: none but those that stand in each law. -/
import Derived.Test.YtjidbmelmcmmhaaPturn
import Derived.Test.YtjidbmelmcmmhaaPlaw06
namespace Go.Ark
open Go Go.Ab Go.RowKit

theorem rdT_sound {most : Nat} {l t : List UInt8} {k : Nat} (h : rdT most l = some (t, k)) : l.take k = textL (ofL t) := by
  unfold rdT at h
  cases hn : rdN l 0 0 with
  | none => rw [hn] at h; cases h
  | some y =>
    obtain ⟨n, j⟩ := y
    rw [hn] at h
    have hk := rdN_len hn
    obtain ⟨h1, h2⟩ := rdN_sound hn
    simp only at h
    split at h
    · rename_i c
      cases h
      have hl : ((l.drop j).take n).length = n := by rw [List.length_take, List.length_drop]; omega
      unfold textL
      rw [ofL_size, hl, bl_ofL, ← h1, List.take_add]
    · cases h
theorem rdS_sound {l : List UInt8} {s : Api_Stamp} {k : Nat} (h : rdS l = some (s, k)) : l.take k = stampL s := by
  unfold rdS at h
  cases hn : rdN l 0 0 with
  | none => rw [hn] at h; cases h
  | some y =>
    obtain ⟨n, j⟩ := y
    rw [hn] at h
    obtain ⟨h1, h2⟩ := rdN_sound hn
    simp only at h
    cases hn2 : rdN (l.drop j) 0 0 with
    | none => rw [hn2] at h; cases h
    | some z =>
      obtain ⟨t, j'⟩ := z
      rw [hn2] at h
      obtain ⟨h3, h4⟩ := rdN_sound hn2
      simp only at h
      split at h
      · cases h
        rw [List.take_add, h1, h3]
        rfl
      · cases h
theorem rdD_sound : ∀ {n : Nat} {l : List UInt8} {ds : List Api_Dep} {k : Nat}, rdD n l = some (ds, k) → l.take k = ds.flatMap depL
  | 0, l, ds, k, h => by
    rw [rdD] at h
    cases h
    rfl
  | n + 1, l, ds, k, h => by
    rw [rdD] at h
    cases h1 : rdT 32 l with
    | none => rw [h1] at h; cases h
    | some y =>
      obtain ⟨t, k1⟩ := y
      rw [h1] at h
      simp only at h
      cases h2 : rdS (l.drop k1) with
      | none => rw [h2] at h; cases h
      | some z =>
        obtain ⟨s, k2⟩ := z
        rw [h2] at h
        simp only at h
        cases h3 : rdD n (l.drop (k1 + k2)) with
        | none => rw [h3] at h; cases h
        | some w =>
          obtain ⟨ds', k3⟩ := w
          rw [h3] at h
          cases h
          rw [List.take_add, List.take_add, rdT_sound h1, rdS_sound h2, rdD_sound h3]
          rfl
theorem rdP_sound {l : List UInt8} {p : List Api_Dep} {k : Nat} (h : rdP l = some (p, k)) : l.take k = pastL p := by
  unfold rdP at h
  cases hn : rdN l 0 0 with
  | none => rw [hn] at h; cases h
  | some y =>
    obtain ⟨n, j⟩ := y
    rw [hn] at h
    obtain ⟨h1, h2⟩ := rdN_sound hn
    simp only at h
    split at h
    · cases h3 : rdD n (l.drop j) with
      | none => rw [h3] at h; cases h
      | some w =>
        obtain ⟨ds, j'⟩ := w
        rw [h3] at h
        simp only at h
        split at h
        · cases h
          rw [List.take_add, h1, rdD_sound h3]
          have := (rdD_len h3).2.1
          unfold pastL
          rw [this]
        · cases h
    · cases h

theorem resPG_some (a k : Nat) (p : List Api_Dep) : resPG a (some (p, k)) = ⟨p, ((a + k : Nat) : Int)⟩ := rfl
theorem ref06_Read_eq {s : ByteArray} (hs : s.size ≤ 1000000000000) : ref06_Read s = some (resV s.size (rdV (bl s))) := by
  unfold ref06_Read
  have t0 := ref01_ReadText_eq s 0 32 hs (by omega) (by omega)
  rw [show ((0 : Nat) : Int) = 0 from rfl, show ((32 : Nat) : Int) = 32 from rfl, List.drop_zero] at t0
  rw [t0]
  simp only [Option.bind_some]
  have hno : some ((⟨ByteArray.empty, ByteArray.empty, false, ⟨0, 0⟩, []⟩ : Api_Version), false) = some (noVer, false) := rfl
  rw [hno]
  cases h1 : rdT 32 (bl s) with
  | none =>
    have : rdV (bl s) = none := by unfold rdV seqR; rw [h1]
    rw [this]; rfl
  | some x1 =>
    obtain ⟨k, a⟩ := x1
    obtain ⟨m1, l1, q1⟩ := rdT_len h1
    rw [bl_len] at l1
    rw [resTG_some]
    simp only
    rw [if_neg (fun e => absurd (of_decide_eq_true e) (by omega)), ref01_Read_eq s (0 + a) hs (by omega), Nat.zero_add]
    simp only [Option.bind_some]
    cases h2 : rdN ((bl s).drop a) 0 0 with
    | none =>
      have : rdV (bl s) = none := by unfold rdV seqR rdG; rw [h1]; simp only; rw [h2]
      rw [this]; rfl
    | some x2 =>
      obtain ⟨g, b⟩ := x2
      have l2 := rdN_len h2
      rw [List.length_drop, bl_len] at l2
      rw [resG_some]
      simp only
      have hG : rdG ((bl s).drop a) = if g ≤ 1 then some (g, b) else none := by unfold rdG; rw [h2]
      have t2 := ref01_ReadText_eq s (a + b) 32 hs (by omega) (by omega)
      rw [show ((32 : Nat) : Int) = 32 from rfl] at t2
      rw [if_neg (fun e => absurd (of_decide_eq_true e) (by omega)), t2]
      simp only [Option.bind_some]
      have hnone : (rdT 32 ((bl s).drop (a + b)) = none ∨ 1 < g) → rdV (bl s) = none := fun hc => by
        unfold rdV seqR
        rw [h1]
        simp only
        rw [hG]
        by_cases c : g ≤ 1
        · rw [if_pos c]
          rcases hc with hc | hc
          · simp only; rw [List.drop_drop, hc]
          · omega
        · rw [if_neg c]
      cases h3 : rdT 32 ((bl s).drop (a + b)) with
      | none => rw [hnone (.inl h3)]; rfl
      | some x3 =>
        obtain ⟨t, d⟩ := x3
        obtain ⟨m3, l3, q3⟩ := rdT_len h3
        rw [List.length_drop, bl_len] at l3
        rw [resTG_some]
        simp only
        rw [if_neg (fun e => absurd (of_decide_eq_true e) (by omega)), ref03_Read_eq s (a + b + d) hs (by omega)]
        simp only [Option.bind_some]
        cases h4 : rdS ((bl s).drop (a + b + d)) with
        | none =>
          have : rdV (bl s) = none := by
            by_cases c : g ≤ 1
            · unfold rdV seqR
              rw [h1]; simp only; rw [hG, if_pos c]; simp only
              rw [List.drop_drop, h3]; simp only
              rw [List.drop_drop, h4]
            · exact hnone (.inr (by omega))
          rw [this]; rfl
        | some x4 =>
          obtain ⟨st, e⟩ := x4
          obtain ⟨m4, l4, ok4⟩ := rdS_len h4
          rw [List.length_drop, bl_len] at l4
          rw [resSG_some]
          simp only
          rw [if_neg (fun e => absurd (of_decide_eq_true e) (by omega)), ref04_Read_eq s (a + b + d + e) hs (by omega)]
          simp only [Option.bind_some]
          cases h5 : rdP ((bl s).drop (a + b + d + e)) with
          | none =>
            have : rdV (bl s) = none := by
              by_cases c : g ≤ 1
              · unfold rdV seqR
                rw [h1]; simp only; rw [hG, if_pos c]; simp only
                rw [List.drop_drop, h3]; simp only
                rw [List.drop_drop, h4]; simp only
                rw [List.drop_drop, h5]
              · exact hnone (.inr (by omega))
            rw [this]; rfl
          | some x5 =>
            obtain ⟨p, f⟩ := x5
            obtain ⟨m5, l5, okp⟩ := rdP_len h5
            rw [List.length_drop, bl_len] at l5
            rw [resPG_some]
            simp only
            have eg : decide ((g : Int) = 1) = decide (g = 1) := by
              by_cases c1 : g = 1
              · subst c1; rfl
              · rw [decide_eq_false c1, decide_eq_false (by omega)]
            rw [if_neg (fun h => absurd (of_decide_eq_true h) (by omega)), eg]
            have hk := okPast_iff.1 okp
            generalize hv : (⟨ofL k, ofL t, decide (g = 1), st, p⟩ : Api_Version) = v
            have hsm : smallB v := by
              rw [← hv]
              exact ⟨by show (ofL k).size ≤ _; rw [ofL_size]; omega, by show (ofL t).size ≤ _; rw [ofL_size]; omega, by show p.length ≤ _; omega, fun x hx => by have := okKey_size (okDep_key (hk.1 x hx)); omega⟩
            rw [ref06_Bytes_eq hsm]
            simp only [Option.bind_some, seq_eq]
            unfold ref06_Read_k1
            simp only
            rw [eg, hv, hno]
            by_cases c : verB v = s
            · rw [decide_eq_true c, if_neg (by simp)]
              have hok : okVersion v = true := by
                cases ho : okVersion v with
                | true => rfl
                | false =>
                  unfold verB at c
                  rw [ho] at c
                  rw [← c] at l1
                  simp at l1
                  omega
              have hbl : bl s = verL v := by
                unfold verB at c
                rw [hok, if_pos rfl] at c
                rw [← c, bl_ofL]
              have h6 := rdV_ver hok []
              rw [List.append_nil, ← hbl] at h6
              rw [h6, resV_some, if_pos ⟨by rw [bl_len], hok⟩]
            · rw [decide_eq_false c, if_pos (by simp)]
              by_cases cg : g ≤ 1
              · have hR : rdV (bl s) = some (v, a + (b + (d + (e + (f + 0))))) := by
                  unfold rdV seqR
                  rw [h1]; simp only; rw [hG, if_pos cg]; simp only
                  rw [List.drop_drop, h3]; simp only
                  rw [List.drop_drop, h4]; simp only
                  rw [List.drop_drop, h5]; simp only
                  rw [hv]
                rw [hR, resV_some, if_neg]
                rintro ⟨hK, hok⟩
                refine c ?_
                have s1 := rdT_sound h1
                have s2 := (rdN_sound h2).1
                have s3 := rdT_sound h3
                have s4 := rdS_sound h4
                have s5 := rdP_sound h5
                have hall : bl s = verL v := by
                  have h7 : (bl s).take (a + b + d + e + f) = bl s := List.take_of_length_le (by rw [bl_len]; omega)
                  rw [← h7, List.take_add, List.take_add, List.take_add, List.take_add, s1, s2, s3, s4, s5, ← hv]
                  have hg1 : goneN ⟨ofL k, ofL t, decide (g = 1), st, p⟩ = g := by
                    unfold goneN
                    by_cases c1 : g = 1
                    · simp [c1]
                    · have : g = 0 := by omega
                      simp [this]
                  unfold verL
                  rw [hg1]
                  simp only [List.append_assoc]
                unfold verB
                rw [hok, if_pos rfl, ← hall, ofL_bl]
              · rw [hnone (.inr (by omega))]; rfl
end Go.Ark
