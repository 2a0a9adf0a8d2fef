/- Plain laws: keys and ranges of keys. Conditions: none but those that stand in each law. -/
import Derived.Test.YtfhlilpkgodilaaDoorPlib1
import Derived.Test.YtfhlilpkgodilaaDoorFkeys
import Derived.Test.YtfhlilpkgodilaaDoorFref02
namespace Go.Ark
open Go Go.Ab Go.RowKit

/-! which texts are keys -/
def byt (s : ByteArray) (i : Nat) : Nat := (s.get! i).toNat
def contB (s : ByteArray) (j : Nat) : Bool := decide (j < s.size) && (decide (128 ≤ byt s j) && decide (byt s j ≤ 191))
/-- how many bytes the rune at a place has; 0: none begins there -/
def runeW (s : ByteArray) (i : Nat) : Nat :=
  if byt s i < 128 then 1
  else if 194 ≤ byt s i ∧ byt s i ≤ 223 then (if contB s (i + 1) = true then 2 else 0)
  else if 224 ≤ byt s i ∧ byt s i ≤ 239 then (if contB s (i + 1) = true ∧ contB s (i + 2) = true ∧ ¬ (byt s i = 224 ∧ byt s (i + 1) < 160) ∧ ¬ (byt s i = 237 ∧ 159 < byt s (i + 1)) then 3 else 0)
  else if 240 ≤ byt s i ∧ byt s i ≤ 244 then (if contB s (i + 1) = true ∧ contB s (i + 2) = true ∧ contB s (i + 3) = true ∧ ¬ (byt s i = 240 ∧ byt s (i + 1) < 144) ∧ ¬ (byt s i = 244 ∧ 143 < byt s (i + 1)) then 4 else 0)
  else 0

theorem byt_lt (s : ByteArray) (i : Nat) : byt s i < 256 := (s.get! i).toNat_lt
theorem contB_iff {s : ByteArray} {j : Nat} : contB s j = true ↔ j < s.size ∧ 128 ≤ byt s j ∧ byt s j ≤ 191 := by simp [contB]

theorem runeW_le {s : ByteArray} {i : Nat} (h : i < s.size) : i + runeW s i ≤ s.size := by
  unfold runeW
  simp only [contB_iff]
  repeat' split
  all_goals omega

theorem decode_ok {s : ByteArray} {i : Nat} (hw : runeW s i ≠ 0) :
    ∃ c, Utf8.decode s i = (c, runeW s i) ∧ (c = 65533 → runeW s i = 3 ∧ byt s i = 239 ∧ byt s (i + 1) = 191 ∧ byt s (i + 2) = 189) ∧
      (byt s i < 128 → c = byt s i) ∧ (¬ byt s i < 128 → 128 ≤ c) := by
  have h0 := byt_lt s i
  have h1 := byt_lt s (i + 1)
  have h2 := byt_lt s (i + 2)
  have h3 := byt_lt s (i + 3)
  unfold runeW at hw ⊢
  simp only [contB_iff] at hw ⊢
  unfold Utf8.decode Utf8.valid Utf8.runeError
  simp only [Nat.add_zero]
  have e : ∀ j, (s.get! j).toNat = byt s j := fun _ => rfl
  simp only [e, Bool.and_eq_true, Bool.or_eq_true, decide_eq_true_eq, beq_iff_eq]
  generalize byt s i = b0 at *
  generalize byt s (i + 1) = b1 at *
  generalize byt s (i + 2) = b2 at *
  generalize byt s (i + 3) = b3 at *
  by_cases c1 : b0 < 128
  · rw [if_pos c1, if_pos c1]; exact ⟨b0, rfl, fun h => by omega, fun _ => rfl, fun h => absurd c1 h⟩
  rw [if_neg c1] at hw
  rw [if_neg c1, if_neg c1]
  by_cases c2 : 194 ≤ b0 ∧ b0 ≤ 223
  · rw [if_pos c2] at hw
    rw [if_pos c2]
    split at hw
    · rename_i c3
      rw [if_pos c3, if_pos (by omega), if_pos (by omega)]
      exact ⟨_, rfl, fun h => by omega, fun h => absurd h c1, fun _ => by omega⟩
    · exact absurd rfl hw
  rw [if_neg c2] at hw
  rw [if_neg c2]
  by_cases c3 : 224 ≤ b0 ∧ b0 ≤ 239
  · rw [if_pos c3] at hw
    rw [if_pos c3, if_neg (by omega)]
    split at hw
    · rename_i c4
      rw [if_pos c4, if_pos (by omega), if_pos (by omega)]
      exact ⟨_, rfl, fun h => by omega, fun h => absurd h c1, fun _ => by omega⟩
    · exact absurd rfl hw
  rw [if_neg c3] at hw
  rw [if_neg c3]
  by_cases c5 : 240 ≤ b0 ∧ b0 ≤ 244
  · rw [if_pos c5] at hw
    rw [if_pos c5, if_neg (by omega), if_neg (by omega)]
    split at hw
    · rename_i c4
      rw [if_pos c4, if_pos (by omega), if_pos (by omega)]
      exact ⟨_, rfl, fun h => by omega, fun h => absurd h c1, fun _ => by omega⟩
    · exact absurd rfl hw
  · rw [if_neg c5] at hw; exact absurd rfl hw

theorem decode_bad {s : ByteArray} {i : Nat} (hw : runeW s i = 0) : Utf8.decode s i = (65533, 1) ∧ ¬ (i + 3 ≤ s.size ∧ byt s i = 239 ∧ byt s (i + 1) = 191 ∧ byt s (i + 2) = 189) := by
  have h0 := byt_lt s i
  have h1 := byt_lt s (i + 1)
  have h2 := byt_lt s (i + 2)
  have h3 := byt_lt s (i + 3)
  unfold runeW at hw
  simp only [contB_iff] at hw
  unfold Utf8.decode Utf8.valid Utf8.runeError
  simp only [Nat.add_zero]
  have e : ∀ j, (s.get! j).toNat = byt s j := fun _ => rfl
  simp only [e, Bool.and_eq_true, Bool.or_eq_true, decide_eq_true_eq, beq_iff_eq]
  generalize byt s i = b0 at *
  generalize byt s (i + 1) = b1 at *
  generalize byt s (i + 2) = b2 at *
  generalize byt s (i + 3) = b3 at *
  have hw' : ¬ b0 < 128 := fun c => by rw [if_pos c] at hw; cases hw
  rw [if_neg hw'] at hw ⊢
  refine ⟨?_, fun h => ?_⟩
  · split
    · rw [if_neg]
      intro c
      rw [if_pos (by omega), if_pos (by omega)] at hw
      cases hw
    · split
      · rw [if_neg]
        intro c
        rw [if_neg (by omega), if_pos (by omega), if_pos (by omega)] at hw
        cases hw
      · split
        · rw [if_neg]
          intro c
          rw [if_neg (by omega), if_neg (by omega), if_pos (by omega), if_pos (by omega)] at hw
          cases hw
        · rfl
  · rw [if_neg (by omega), if_pos (by omega), if_pos (by omega)] at hw
    cases hw

/-- how many runes a text has from a place on; below 0: it is none -/
def runesP (s : ByteArray) (n : Int) (i : Nat) : Int :=
  if h : i < s.size ∧ runeW s i ≠ 0 then runesP s (n + 1) (i + runeW s i) else if i < s.size then -1 else n
termination_by s.size - i
decreasing_by omega

theorem runesP_end {s : ByteArray} {n : Int} {i : Nat} (h : ¬ i < s.size) : runesP s n i = n := by
  rw [runesP, dif_neg (fun c => h c.1), if_neg h]
theorem runesP_bad {s : ByteArray} {n : Int} {i : Nat} (h : i < s.size) (hw : runeW s i = 0) : runesP s n i = -1 := by
  rw [runesP, dif_neg (fun c => c.2 hw), if_pos h]
theorem runesP_ok {s : ByteArray} {n : Int} {i : Nat} (h : i < s.size) (hw : runeW s i ≠ 0) : runesP s n i = runesP s (n + 1) (i + runeW s i) := by
  rw [runesP, dif_pos ⟨h, hw⟩]

theorem get_byt {s : ByteArray} {i : Nat} (h : i < s.size) : s.get! i = s[i] := by
  cases s with
  | mk d => exact getElem!_pos d i h

theorem sidx_byt {s : ByteArray} {i : Nat} (h : i < s.size) : ∃ b : UInt8, sidx s (i : Int) = some b ∧ (b.toNat : Int) = (byt s i : Int) :=
  ⟨s[i], sidx_at h, by simp [byt, get_byt h]⟩

theorem ba_ext {s t : ByteArray} (hl : s.size = t.size) (h : ∀ i, i < s.size → byt s i = byt t i) : s = t := by
  refine ByteArray.ext_getElem hl fun i h1 h2 => ?_
  have := h i h1
  simp only [byt, get_byt h1, get_byt h2] at this
  exact UInt8.toNat_inj.1 this

theorem byt_extract {s : ByteArray} {a b j : Nat} (hb : b ≤ s.size) (hj : a + j < b) : byt (s.extract a b) j = byt s (a + j) := by
  have h1 : j < (s.extract a b).size := by rw [ByteArray.size_extract]; omega
  simp only [byt, get_byt h1, get_byt (show a + j < s.size by omega)]
  rw [ByteArray.getElem_extract]

theorem runeW_high {s : ByteArray} {i : Nat} (hw : runeW s i ≠ 0) (hb : ¬ byt s i < 128) {j : Nat} (h1 : i ≤ j) (h2 : j < i + runeW s i) : 128 ≤ byt s j := by
  unfold runeW at hw h2
  simp only [contB_iff] at hw h2
  rw [if_neg hb] at hw h2
  have hj : j = i ∨ j = i + 1 ∨ j = i + 2 ∨ j = i + 3 ∨ i + 4 ≤ j := by omega
  split at hw
  · rename_i c
    rw [if_pos c] at h2
    split at hw
    · rename_i c2
      rw [if_pos c2] at h2
      rcases hj with rfl | rfl | rfl | rfl | hj <;> omega
    · exact absurd rfl hw
  · rename_i c
    rw [if_neg c] at h2
    split at hw
    · rename_i c1
      rw [if_pos c1] at h2
      split at hw
      · rename_i c2
        rw [if_pos c2] at h2
        rcases hj with rfl | rfl | rfl | rfl | hj <;> omega
      · exact absurd rfl hw
    · rename_i c1
      rw [if_neg c1] at h2
      split at hw
      · rename_i c3
        rw [if_pos c3] at h2
        split at hw
        · rename_i c2
          rw [if_pos c2] at h2
          rcases hj with rfl | rfl | rfl | rfl | hj <;> omega
        · exact absurd rfl hw
      · exact absurd rfl hw

theorem keys_Runes_eq {s : ByteArray} (hl : s.size ≤ 9223372036854775807) : keys_Runes s = some (runesP s 0 0) := by
  unfold keys_Runes
  refine loopF_inv (fun (v : Int × Nat) => 0 ≤ v.1 ∧ v.1 ≤ v.2 ∧ v.2 ≤ s.size) (fun v => s.size - v.2) (fun v => some (runesP s v.1 v.2)) ?_ FU (0, 0) ⟨Int.le_refl _, Int.le_refl _, Nat.zero_le _⟩ (by have := FU_big; simp only; omega)
  rintro again ⟨n, i⟩ ⟨h1, h2, h3⟩ hag
  simp only at h1 h2 h3
  unfold keys_Runes_l2
  simp only
  by_cases c : i < s.size
  · rw [if_pos (by simpa using c)]
    obtain ⟨b, hb1, hb2⟩ := sidx_byt c
    obtain ⟨z, hz1, hz2⟩ : ∃ z : UInt8, sidx (ByteArray.mk #[239, 191, 189]) 0 = some z ∧ (z.toNat : Int) = 239 := ⟨239, rfl, rfl⟩
    by_cases hw : runeW s i = 0
    · obtain ⟨e, hbad⟩ := decode_bad hw
      rw [runesP_bad c hw]
      simp only [e, hb1, hz1, Option.bind_some, hb2, hz2]
      rw [if_pos (by decide)]
      unfold keys_Runes_k3
      simp only [e]
      by_cases c1 : byt s i = 239
      · rw [if_neg (by simp [c1]), if_pos (by decide)]
        rw [wrap64 (by omega) (by omega)]
        by_cases c2 : (s.size : Int) - i < 3
        · rw [if_pos (by simpa using c2)]
        · rw [if_neg (by simpa using c2), wrap64 (by omega) (by omega)]
          have hsub : ssub s (i : Int) ((i : Int) + 3) = some (s.extract i (i + 3)) := by
            simp only [ssub]; rw [if_pos ⟨by omega, by omega, by omega⟩]
            congr 2
          rw [hsub]
          simp only [Option.bind_some, seq_eq]
          rw [if_pos]
          simp only [Bool.not_eq_true', decide_eq_false_iff_not]
          intro he
          apply hbad
          have q1 := byt_extract (s := s) (a := i) (b := i + 3) (j := 1) (by omega) (by omega)
          have q2 := byt_extract (s := s) (a := i) (b := i + 3) (j := 2) (by omega) (by omega)
          rw [he] at q1 q2
          exact ⟨by omega, c1, q1.symm, q2.symm⟩
      · rw [if_pos (by simp; omega)]
    · obtain ⟨r, e, hr1, hr2, hr3⟩ := decode_ok hw
      rw [runesP_ok c hw]
      have hle := runeW_le c
      simp only [e]
      have hgo : again (IntKind.wrap .i64 (n + 1), i + runeW s i) = some (runesP s (n + 1) (i + runeW s i)) := by
        rw [wrap64 (by omega) (by omega)]
        exact hag _ ⟨by simp only; omega, by simp only; omega, by simp only; omega⟩ (by simp only; omega)
      by_cases c1 : r = 65533
      · obtain ⟨g1, g2, g3, g4⟩ := hr1 c1
        rw [if_pos (by simp [c1]), hb1, hz1]
        simp only [Option.bind_some, hb2, hz2]
        unfold keys_Runes_k3
        simp only [e]
        rw [if_neg (by simp [g2]), if_pos (by simp [c1]), wrap64 (by omega) (by omega), if_neg (by simp; omega), wrap64 (by omega) (by omega)]
        have hsub : ssub s (i : Int) ((i : Int) + 3) = some (s.extract i (i + 3)) := by
          simp only [ssub]; rw [if_pos ⟨by omega, by omega, by omega⟩]
          congr 2
        have heq : s.extract i (i + 3) = ByteArray.mk #[239, 191, 189] := by
          have hsz : (s.extract i (i + 3)).size = 3 := by rw [ByteArray.size_extract]; omega
          refine ba_ext (by rw [hsz]; rfl) fun j hj => ?_
          rw [hsz] at hj
          rw [byt_extract (by omega) (by omega)]
          have : j = 0 ∨ j = 1 ∨ j = 2 := by omega
          rcases this with rfl | rfl | rfl
          · exact g2
          · exact g3
          · exact g4
        rw [hsub]
        simp only [Option.bind_some, heq, seq_eq]
        rw [if_neg (by simp)]
        exact hgo
      · have c1' : ¬ ((r : Int) = 65533) := by omega
        rw [if_neg (by simpa using c1')]
        unfold keys_Runes_k3
        simp only [e]
        rw [if_neg (by simp), if_neg (by simpa using c1')]
        exact hgo
  · rw [if_neg (by simpa using c), runesP_end c]
    rfl

/-- which texts are keys: 1 to 8 runes, none of its bytes below 33 -/
def okKey (s : ByteArray) : Bool := decide (1 ≤ runesP s 0 0) && decide (runesP s 0 0 ≤ 8) && decide (∀ j, j < s.size → 33 ≤ byt s j)

theorem keys_Check_eq {s : ByteArray} (hl : s.size ≤ 9223372036854775807) : keys_Check s = some (okKey s) := by
  unfold keys_Check
  rw [keys_Runes_eq hl]
  simp only [Option.bind_some]
  have hno : ∀ y, okKey s = false → y = false → keys_Check_k1 s y = some (okKey s) := by
    intro y ho hy
    subst hy
    unfold keys_Check_k1
    have := FU_big
    rw [show FU = FU - 1 + 1 by omega, loopF]
    unfold keys_Check_l3
    simp only
    rw [ho]
    split <;> rfl
  by_cases c1 : 1 ≤ runesP s 0 0
  · rw [if_pos (by simpa using c1)]
    by_cases c2 : runesP s 0 0 ≤ 8
    · rw [decide_eq_true c2]
      have hok : okKey s = decide (∀ j, j < s.size → 33 ≤ byt s j) := by simp [okKey, c1, c2]
      unfold keys_Check_k1
      refine loopF_inv (fun (v : Bool × Nat) => v.2 ≤ s.size ∧ (∃ m, 1 ≤ runesP s m v.2) ∧ v.1 = decide (∀ j, j < v.2 → 33 ≤ byt s j)) (fun v => s.size - v.2) (fun _ => some (okKey s)) ?_ FU (true, 0) ⟨Nat.zero_le _, ⟨0, c1⟩, by simp⟩ (by have := FU_big; simp only; omega)
      rintro again ⟨f, i⟩ ⟨h1, ⟨m, h2⟩, h3⟩ hag
      simp only at h1 h2 h3
      unfold keys_Check_l3
      simp only
      by_cases c : i < s.size
      · rw [if_pos (by simpa using c)]
        cases hf : f with
        | false =>
          rw [hf] at h3
          simp only [Bool.not_false, if_true, keys_Check_k2, hok]
          have h3 := of_decide_eq_false h3.symm
          rw [decide_eq_false fun h => h3 fun j hj => h j (by omega)]
        | true =>
          rw [hf] at h3
          have h3 := of_decide_eq_true h3.symm
          simp only [Bool.not_true, Bool.false_eq_true, if_false]
          have hw : runeW s i ≠ 0 := fun hw => by rw [runesP_bad c hw] at h2; omega
          obtain ⟨r, e, _, hr2, hr3⟩ := decode_ok hw
          rw [runesP_ok c hw] at h2
          simp only [e]
          refine hag _ ⟨runeW_le c, ⟨_, h2⟩, ?_⟩ (by simp only; omega)
          simp only
          refine decide_eq_decide.2 ⟨fun h j hj => ?_, fun h => ?_⟩
          · by_cases hji : j < i
            · exact h3 j hji
            · by_cases hb : byt s i < 128
              · have : runeW s i = 1 := by unfold runeW; rw [if_pos hb]
                have : j = i := by omega
                subst this
                have := hr2 hb
                omega
              · have := runeW_high hw hb (j := j) (by omega) hj
                omega
          · have := h i (by omega)
            by_cases hb : byt s i < 128
            · have := hr2 hb; omega
            · have := hr3 hb; omega
      · rw [if_neg (by simpa using c)]
        have : i = s.size := by omega
        subst this
        simp only [keys_Check_k2, hok, h3]
    · rw [decide_eq_false c2]
      exact hno _ (by simp [okKey, c2]) rfl
  · rw [if_neg (by simpa using c1)]
    exact hno _ (by simp [okKey, c1]) rfl

end Go.Ark
