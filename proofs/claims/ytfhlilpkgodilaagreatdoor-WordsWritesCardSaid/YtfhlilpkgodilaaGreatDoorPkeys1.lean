import Derived.Test.YtfhlilpkgodilaaGreatDoorPlib1
import Derived.Test.YtfhlilpkgodilaaGreatDoorFA
/- Plain laws: keys and ranges of keys. Conditions: none but those that stand in each law. -/
namespace Go.Ark
open Go Go.Ab Go.RowKit

/-! which texts are keys -/
def byt (s : ByteArray) (i : Nat) : Nat := (s.get! i).toNat
def contB (s : ByteArray) (j : Nat) : Bool := decide (j < s.size) && (decide (128 ≤ byt s j) && decide (byt s j ≤ 191))
/-- how many bytes the rune at a place has; 0: none begins there -/
def runeW (s : ByteArray) (i : Nat) : Nat :=
  if byt s i < 128 then 1
  else if 194 ≤ byt s i ∧ byt s i ≤ 223 then (if contB s (i + 1) = true then 2 else 0)
  else if 224 ≤ byt s i ∧ byt s i ≤ 239 then (if contB s (i + 1) = true ∧ contB s (i + 2) = true ∧ ¬ (byt s i = 224 ∧ byt s (i + 1) < 160) ∧ ¬ (byt s i = 237 ∧ 159 < byt s (i + 1)) then 3 else 0)
  else if 240 ≤ byt s i ∧ byt s i ≤ 244 then (if contB s (i + 1) = true ∧ contB s (i + 2) = true ∧ contB s (i + 3) = true ∧ ¬ (byt s i = 240 ∧ byt s (i + 1) < 144) ∧ ¬ (byt s i = 244 ∧ 143 < byt s (i + 1)) then 4 else 0)
  else 0

theorem byt_lt (s : ByteArray) (i : Nat) : byt s i < 256 := (s.get! i).toNat_lt
theorem contB_iff {s : ByteArray} {j : Nat} : contB s j = true ↔ j < s.size ∧ 128 ≤ byt s j ∧ byt s j ≤ 191 := by simp [contB]

theorem runeW_le {s : ByteArray} {i : Nat} (h : i < s.size) : i + runeW s i ≤ s.size := by
  unfold runeW
  simp only [contB_iff]
  repeat' split
  all_goals omega

theorem decode_ok {s : ByteArray} {i : Nat} (hw : runeW s i ≠ 0) :
    ∃ c, Utf8.decode s i = (c, runeW s i) ∧ (c = 65533 → runeW s i = 3 ∧ byt s i = 239 ∧ byt s (i + 1) = 191 ∧ byt s (i + 2) = 189) ∧
      (byt s i < 128 → c = byt s i) ∧ (¬ byt s i < 128 → 128 ≤ c) := by
  have h0 := byt_lt s i
  have h1 := byt_lt s (i + 1)
  have h2 := byt_lt s (i + 2)
  have h3 := byt_lt s (i + 3)
  unfold runeW at hw ⊢
  simp only [contB_iff] at hw ⊢
  unfold Utf8.decode Utf8.valid Utf8.runeError
  simp only [Nat.add_zero]
  have e : ∀ j, (s.get! j).toNat = byt s j := fun _ => rfl
  simp only [e, Bool.and_eq_true, Bool.or_eq_true, decide_eq_true_eq, beq_iff_eq]
  generalize byt s i = b0 at *
  generalize byt s (i + 1) = b1 at *
  generalize byt s (i + 2) = b2 at *
  generalize byt s (i + 3) = b3 at *
  by_cases c1 : b0 < 128
  · rw [if_pos c1, if_pos c1]; exact ⟨b0, rfl, fun h => by omega, fun _ => rfl, fun h => absurd c1 h⟩
  rw [if_neg c1] at hw
  rw [if_neg c1, if_neg c1]
  by_cases c2 : 194 ≤ b0 ∧ b0 ≤ 223
  · rw [if_pos c2] at hw
    rw [if_pos c2]
    split at hw
    · rename_i c3
      rw [if_pos c3, if_pos (by omega), if_pos (by omega)]
      exact ⟨_, rfl, fun h => by omega, fun h => absurd h c1, fun _ => by omega⟩
    · exact absurd rfl hw
  rw [if_neg c2] at hw
  rw [if_neg c2]
  by_cases c3 : 224 ≤ b0 ∧ b0 ≤ 239
  · rw [if_pos c3] at hw
    rw [if_pos c3, if_neg (by omega)]
    split at hw
    · rename_i c4
      rw [if_pos c4, if_pos (by omega), if_pos (by omega)]
      exact ⟨_, rfl, fun h => by omega, fun h => absurd h c1, fun _ => by omega⟩
    · exact absurd rfl hw
  rw [if_neg c3] at hw
  rw [if_neg c3]
  by_cases c5 : 240 ≤ b0 ∧ b0 ≤ 244
  · rw [if_pos c5] at hw
    rw [if_pos c5, if_neg (by omega), if_neg (by omega)]
    split at hw
    · rename_i c4
      rw [if_pos c4, if_pos (by omega), if_pos (by omega)]
      exact ⟨_, rfl, fun h => by omega, fun h => absurd h c1, fun _ => by omega⟩
    · exact absurd rfl hw
  · rw [if_neg c5] at hw; exact absurd rfl hw

theorem decode_bad {s : ByteArray} {i : Nat} (hw : runeW s i = 0) : Utf8.decode s i = (65533, 1) ∧ ¬ (i + 3 ≤ s.size ∧ byt s i = 239 ∧ byt s (i + 1) = 191 ∧ byt s (i + 2) = 189) := by
  have h0 := byt_lt s i
  have h1 := byt_lt s (i + 1)
  have h2 := byt_lt s (i + 2)
  have h3 := byt_lt s (i + 3)
  unfold runeW at hw
  simp only [contB_iff] at hw
  unfold Utf8.decode Utf8.valid Utf8.runeError
  simp only [Nat.add_zero]
  have e : ∀ j, (s.get! j).toNat = byt s j := fun _ => rfl
  simp only [e, Bool.and_eq_true, Bool.or_eq_true, decide_eq_true_eq, beq_iff_eq]
  generalize byt s i = b0 at *
  generalize byt s (i + 1) = b1 at *
  generalize byt s (i + 2) = b2 at *
  generalize byt s (i + 3) = b3 at *
  have hw' : ¬ b0 < 128 := fun c => by rw [if_pos c] at hw; cases hw
  rw [if_neg hw'] at hw ⊢
  refine ⟨?_, fun h => ?_⟩
  · split
    · rw [if_neg]
      intro c
      rw [if_pos (by omega), if_pos (by omega)] at hw
      cases hw
    · split
      · rw [if_neg]
        intro c
        rw [if_neg (by omega), if_pos (by omega), if_pos (by omega)] at hw
        cases hw
      · split
        · rw [if_neg]
          intro c
          rw [if_neg (by omega), if_neg (by omega), if_pos (by omega), if_pos (by omega)] at hw
          cases hw
        · rfl
  · rw [if_neg (by omega), if_pos (by omega), if_pos (by omega)] at hw
    cases hw

/-- how many runes a text has from a place on; below 0: it is none -/
def runesP (s : ByteArray) (n : Int) (i : Nat) : Int :=
  if h : i < s.size ∧ runeW s i ≠ 0 then runesP s (n + 1) (i + runeW s i) else if i < s.size then -1 else n
termination_by s.size - i
decreasing_by omega

theorem runesP_end {s : ByteArray} {n : Int} {i : Nat} (h : ¬ i < s.size) : runesP s n i = n := by
  rw [runesP, dif_neg (fun c => h c.1), if_neg h]
theorem runesP_bad {s : ByteArray} {n : Int} {i : Nat} (h : i < s.size) (hw : runeW s i = 0) : runesP s n i = -1 := by
  rw [runesP, dif_neg (fun c => c.2 hw), if_pos h]
theorem runesP_ok {s : ByteArray} {n : Int} {i : Nat} (h : i < s.size) (hw : runeW s i ≠ 0) : runesP s n i = runesP s (n + 1) (i + runeW s i) := by
  rw [runesP, dif_pos ⟨h, hw⟩]

theorem get_byt {s : ByteArray} {i : Nat} (h : i < s.size) : s.get! i = s[i] := by
  cases s with
  | mk d => exact getElem!_pos d i h

theorem sidx_byt {s : ByteArray} {i : Nat} (h : i < s.size) : ∃ b : UInt8, sidx s (i : Int) = some b ∧ (b.toNat : Int) = (byt s i : Int) :=
  ⟨s[i], sidx_at h, by simp [byt, get_byt h]⟩

theorem ba_ext {s t : ByteArray} (hl : s.size = t.size) (h : ∀ i, i < s.size → byt s i = byt t i) : s = t := by
  refine ByteArray.ext_getElem hl fun i h1 h2 => ?_
  have := h i h1
  simp only [byt, get_byt h1, get_byt h2] at this
  exact UInt8.toNat_inj.1 this

theorem byt_extract {s : ByteArray} {a b j : Nat} (hb : b ≤ s.size) (hj : a + j < b) : byt (s.extract a b) j = byt s (a + j) := by
  have h1 : j < (s.extract a b).size := by rw [ByteArray.size_extract]; omega
  simp only [byt, get_byt h1, get_byt (show a + j < s.size by omega)]
  rw [ByteArray.getElem_extract]

theorem runeW_high {s : ByteArray} {i : Nat} (hw : runeW s i ≠ 0) (hb : ¬ byt s i < 128) {j : Nat} (h1 : i ≤ j) (h2 : j < i + runeW s i) : 128 ≤ byt s j := by
  unfold runeW at hw h2
  simp only [contB_iff] at hw h2
  rw [if_neg hb] at hw h2
  have hj : j = i ∨ j = i + 1 ∨ j = i + 2 ∨ j = i + 3 ∨ i + 4 ≤ j := by omega
  split at hw
  · rename_i c
    rw [if_pos c] at h2
    split at hw
    · rename_i c2
      rw [if_pos c2] at h2
      rcases hj with rfl | rfl | rfl | rfl | hj <;> omega
    · exact absurd rfl hw
  · rename_i c
    rw [if_neg c] at h2
    split at hw
    · rename_i c1
      rw [if_pos c1] at h2
      split at hw
      · rename_i c2
        rw [if_pos c2] at h2
        rcases hj with rfl | rfl | rfl | rfl | hj <;> omega
      · exact absurd rfl hw
    · rename_i c1
      rw [if_neg c1] at h2
      split at hw
      · rename_i c3
        rw [if_pos c3] at h2
        split at hw
        · rename_i c2
          rw [if_pos c2] at h2
          rcases hj with rfl | rfl | rfl | rfl | hj <;> omega
        · exact absurd rfl hw
      · exact absurd rfl hw

theorem keys_Runes_eq {s : ByteArray} (hl : s.size ≤ 9223372036854775807) : keys_Runes s = some (runesP s 0 0) := by
  unfold keys_Runes
  refine loopF_inv (fun (v : Int × Nat) => 0 ≤ v.1 ∧ v.1 ≤ v.2 ∧ v.2 ≤ s.size) (fun v => s.size - v.2) (fun v => some (runesP s v.1 v.2)) ?_ FU (0, 0) ⟨Int.le_refl _, Int.le_refl _, Nat.zero_le _⟩ (by have := FU_big; simp only; omega)
  rintro again ⟨n, i⟩ ⟨h1, h2, h3⟩ hag
  simp only at h1 h2 h3
  unfold keys_Runes_l2
  simp only
  by_cases c : i < s.size
  · rw [if_pos (by simpa using c)]
    obtain ⟨b, hb1, hb2⟩ := sidx_byt c
    obtain ⟨z, hz1, hz2⟩ : ∃ z : UInt8, sidx (ByteArray.mk #[239, 191, 189]) 0 = some z ∧ (z.toNat : Int) = 239 := ⟨239, rfl, rfl⟩
    by_cases hw : runeW s i = 0
    · obtain ⟨e, hbad⟩ := decode_bad hw
      rw [runesP_bad c hw]
      simp only [e, hb1, hz1, Option.bind_some, hb2, hz2]
      rw [if_pos (by decide)]
      unfold keys_Runes_k3
      simp only [e]
      by_cases c1 : byt s i = 239
      · rw [if_neg (by simp [c1]), if_pos (by decide)]
        rw [wrap64 (by omega) (by omega)]
        by_cases c2 : (s.size : Int) - i < 3
        · rw [if_pos (by simpa using c2)]
        · rw [if_neg (by simpa using c2), wrap64 (by omega) (by omega)]
          have hsub : ssub s (i : Int) ((i : Int) + 3) = some (s.extract i (i + 3)) := by
            simp only [ssub]; rw [if_pos ⟨by omega, by omega, by omega⟩]
            congr 2
          rw [hsub]
          simp only [Option.bind_some, seq_eq]
          rw [if_pos]
          simp only [Bool.not_eq_true', decide_eq_false_iff_not]
          intro he
          apply hbad
          have q1 := byt_extract (s := s) (a := i) (b := i + 3) (j := 1) (by omega) (by omega)
          have q2 := byt_extract (s := s) (a := i) (b := i + 3) (j := 2) (by omega) (by omega)
          rw [he] at q1 q2
          exact ⟨by omega, c1, q1.symm, q2.symm⟩
      · rw [if_pos (by simp; omega)]
    · obtain ⟨r, e, hr1, hr2, hr3⟩ := decode_ok hw
      rw [runesP_ok c hw]
      have hle := runeW_le c
      simp only [e]
      have hgo : again (IntKind.wrap .i64 (n + 1), i + runeW s i) = some (runesP s (n + 1) (i + runeW s i)) := by
        rw [wrap64 (by omega) (by omega)]
        exact hag _ ⟨by simp only; omega, by simp only; omega, by simp only; omega⟩ (by simp only; omega)
      by_cases c1 : r = 65533
      · obtain ⟨g1, g2, g3, g4⟩ := hr1 c1
        rw [if_pos (by simp [c1]), hb1, hz1]
        simp only [Option.bind_some, hb2, hz2]
        unfold keys_Runes_k3
        simp only [e]
        rw [if_neg (by simp [g2]), if_pos (by simp [c1]), wrap64 (by omega) (by omega), if_neg (by simp; omega), wrap64 (by omega) (by omega)]
        have hsub : ssub s (i : Int) ((i : Int) + 3) = some (s.extract i (i + 3)) := by
          simp only [ssub]; rw [if_pos ⟨by omega, by omega, by omega⟩]
          congr 2
        have heq : s.extract i (i + 3) = ByteArray.mk #[239, 191, 189] := by
          have hsz : (s.extract i (i + 3)).size = 3 := by rw [ByteArray.size_extract]; omega
          refine ba_ext (by rw [hsz]; rfl) fun j hj => ?_
          rw [hsz] at hj
          rw [byt_extract (by omega) (by omega)]
          have : j = 0 ∨ j = 1 ∨ j = 2 := by omega
          rcases this with rfl | rfl | rfl
          · exact g2
          · exact g3
          · exact g4
        rw [hsub]
        simp only [Option.bind_some, heq, seq_eq]
        rw [if_neg (by simp)]
        exact hgo
      · have c1' : ¬ ((r : Int) = 65533) := by omega
        rw [if_neg (by simpa using c1')]
        unfold keys_Runes_k3
        simp only [e]
        rw [if_neg (by simp), if_neg (by simpa using c1')]
        exact hgo
  · rw [if_neg (by simpa using c), runesP_end c]
    rfl

/-- which texts are keys: 1 to 8 runes, none of its bytes below 33 -/
def okKey (s : ByteArray) : Bool := decide (1 ≤ runesP s 0 0) && decide (runesP s 0 0 ≤ 8) && decide (∀ j, j < s.size → 33 ≤ byt s j)

theorem keys_Check_eq {s : ByteArray} (hl : s.size ≤ 9223372036854775807) : keys_Check s = some (okKey s) := by
  unfold keys_Check
  rw [keys_Runes_eq hl]
  simp only [Option.bind_some]
  have hno : ∀ y, okKey s = false → y = false → keys_Check_k1 s y = some (okKey s) := by
    intro y ho hy
    subst hy
    unfold keys_Check_k1
    have := FU_big
    rw [show FU = FU - 1 + 1 by omega, loopF]
    unfold keys_Check_l3
    simp only
    rw [ho]
    split <;> rfl
  by_cases c1 : 1 ≤ runesP s 0 0
  · rw [if_pos (by simpa using c1)]
    by_cases c2 : runesP s 0 0 ≤ 8
    · rw [decide_eq_true c2]
      have hok : okKey s = decide (∀ j, j < s.size → 33 ≤ byt s j) := by simp [okKey, c1, c2]
      unfold keys_Check_k1
      refine loopF_inv (fun (v : Bool × Nat) => v.2 ≤ s.size ∧ (∃ m, 1 ≤ runesP s m v.2) ∧ v.1 = decide (∀ j, j < v.2 → 33 ≤ byt s j)) (fun v => s.size - v.2) (fun _ => some (okKey s)) ?_ FU (true, 0) ⟨Nat.zero_le _, ⟨0, c1⟩, by simp⟩ (by have := FU_big; simp only; omega)
      rintro again ⟨f, i⟩ ⟨h1, ⟨m, h2⟩, h3⟩ hag
      simp only at h1 h2 h3
      unfold keys_Check_l3
      simp only
      by_cases c : i < s.size
      · rw [if_pos (by simpa using c)]
        cases hf : f with
        | false =>
          rw [hf] at h3
          simp only [Bool.not_false, if_true, keys_Check_k2, hok]
          have h3 := of_decide_eq_false h3.symm
          rw [decide_eq_false fun h => h3 fun j hj => h j (by omega)]
        | true =>
          rw [hf] at h3
          have h3 := of_decide_eq_true h3.symm
          simp only [Bool.not_true, Bool.false_eq_true, if_false]
          have hw : runeW s i ≠ 0 := fun hw => by rw [runesP_bad c hw] at h2; omega
          obtain ⟨r, e, _, hr2, hr3⟩ := decode_ok hw
          rw [runesP_ok c hw] at h2
          simp only [e]
          refine hag _ ⟨runeW_le c, ⟨_, h2⟩, ?_⟩ (by simp only; omega)
          simp only
          refine decide_eq_decide.2 ⟨fun h j hj => ?_, fun h => ?_⟩
          · by_cases hji : j < i
            · exact h3 j hji
            · by_cases hb : byt s i < 128
              · have : runeW s i = 1 := by unfold runeW; rw [if_pos hb]
                have : j = i := by omega
                subst this
                have := hr2 hb
                omega
              · have := runeW_high hw hb (j := j) (by omega) hj
                omega
          · have := h i (by omega)
            by_cases hb : byt s i < 128
            · have := hr2 hb; omega
            · have := hr3 hb; omega
      · rw [if_neg (by simpa using c)]
        have : i = s.size := by omega
        subst this
        simp only [keys_Check_k2, hok, h3]
    · rw [decide_eq_false c2]
      exact hno _ (by simp [okKey, c2]) rfl
  · rw [if_neg (by simpa using c1)]
    exact hno _ (by simp [okKey, c1]) rfl

theorem ref02_long_eq (c : Nat) : ref02_long (c : Int) = some (if c < 128 then 1 else if 194 ≤ c ∧ c ≤ 223 then 2 else if 224 ≤ c ∧ c ≤ 239 then 3 else if 240 ≤ c ∧ c ≤ 244 then 4 else 0) := by
  unfold ref02_long ref02_long_k1 ref02_long_k2
  simp only [decide_eq_true_eq, Bool.false_eq_true, if_false]
  repeat' split
  all_goals first
    | rfl
    | (exfalso; omega)

set_option maxRecDepth 50000 in
theorem ref02_Runes_k4_two {s : ByteArray} {again : Int × Int → Option Int} {v : Int × Int} {m : Int} {b b' : UInt8} (h1 : sidx s v.2 = some b) (h2 : sidx s (IntKind.wrap .i64 (v.2 + 1)) = some b') :
    ref02_Runes_k4 s again v m () = ref02_Runes_k5 again v m (decide ((b.toNat : Int) = 224 ∧ (b'.toNat : Int) < 160 ∨ (b.toNat : Int) = 237 ∧ 159 < (b'.toNat : Int) ∨ (b.toNat : Int) = 240 ∧ (b'.toNat : Int) < 144 ∨ (b.toNat : Int) = 244 ∧ 143 < (b'.toNat : Int))) := by
  unfold ref02_Runes_k4 ref02_Runes_k6 ref02_Runes_k7 ref02_Runes_k8
  simp only [h1, h2, Option.bind_some]
  generalize (b.toNat : Int) = x
  generalize (b'.toNat : Int) = y
  by_cases e1 : x = 224
  · subst e1; by_cases g : y < 160 <;> simp [g]
  by_cases e2 : x = 237
  · subst e2; by_cases g : 159 < y <;> simp [g]
  by_cases e3 : x = 240
  · subst e3; by_cases g : y < 144 <;> simp [g]
  by_cases e4 : x = 244
  · subst e4; simp
  · simp [e1, e2, e3, e4]

set_option maxRecDepth 50000 in
theorem ref02_Runes_eq {s : ByteArray} (hl : s.size ≤ 9223372036854775807) : ref02_Runes s = some (runesP s 0 0) := by
  classical
  unfold ref02_Runes
  refine loopF_inv (fun (v : Int × Int) => 0 ≤ v.1 ∧ v.1 ≤ v.2 ∧ v.2 ≤ (s.size : Int)) (fun v => ((s.size : Int) - v.2).toNat) (fun v => some (runesP s v.1 v.2.toNat)) ?_ FU (0, 0) ⟨Int.le_refl _, Int.le_refl _, by simp⟩ (by have := FU_big; simp only; omega)
  rintro again ⟨n, at_⟩ ⟨h1, h2, h3⟩ hag
  simp only at h1 h2 h3
  obtain ⟨i, rfl⟩ : ∃ i : Nat, at_ = i := ⟨at_.toNat, by omega⟩
  unfold ref02_Runes_l2
  simp only [Int.toNat_natCast]
  by_cases c : i < s.size
  · rw [if_pos (by simpa using c)]
    have hbyt : ∀ j, j < s.size → ∃ b : UInt8, sidx s (j : Int) = some b ∧ (b.toNat : Int) = (byt s j : Int) := fun j hj => sidx_byt hj
    have hlt := byt_lt s i
    have hlt1 := byt_lt s (i + 1)
    obtain ⟨b, hb1, hb2⟩ := hbyt i c
    rw [hb1]
    simp only [Option.bind_some, hb2]
    rw [ref02_long_eq]
    simp only [Option.bind_some]
    generalize hm : (if byt s i < 128 then 1 else if 194 ≤ byt s i ∧ byt s i ≤ 223 then 2 else if 224 ≤ byt s i ∧ byt s i ≤ 239 then 3 else if 240 ≤ byt s i ∧ byt s i ≤ 244 then 4 else 0 : Int) = m
    -- what runeW says
    have hW : (runeW s i : Int) = if m ≠ 0 ∧ (i : Int) + m ≤ s.size ∧ (∀ q : Nat, 1 ≤ q → (q : Int) < m → 128 ≤ byt s (i + q) ∧ byt s (i + q) ≤ 191) ∧
        ¬ (byt s i = 224 ∧ byt s (i + 1) < 160 ∨ byt s i = 237 ∧ 159 < byt s (i + 1) ∨ byt s i = 240 ∧ byt s (i + 1) < 144 ∨ byt s i = 244 ∧ 143 < byt s (i + 1)) then m else 0 := by
      have hq : ∀ (P : Nat → Prop) (k : Nat), (∀ q : Nat, 1 ≤ q → (q : Int) < (k : Int) + 1 → P q) ↔ ∀ q, q < k → P (q + 1) := fun P k =>
        ⟨fun h q hq => h (q + 1) (by omega) (by omega), fun h q h1 h2 => by have := h (q - 1) (by omega); rwa [show q - 1 + 1 = q by omega] at this⟩
      unfold runeW
      simp only [contB_iff]
      split at hm
      · subst hm
        rw [if_pos (by assumption), if_pos ⟨by decide, by omega, fun q _ _ => by omega, by omega⟩]; rfl
      · rw [if_neg (by assumption)]
        split at hm
        · subst hm
          rename_i c2
          rw [if_pos c2]
          by_cases g : i + 1 < s.size ∧ 128 ≤ byt s (i + 1) ∧ byt s (i + 1) ≤ 191
          · rw [if_pos g, if_pos ⟨by decide, by omega, (hq _ 1).2 fun q hq => by rw [show q = 0 by omega]; exact g.2, by omega⟩]; rfl
          · rw [if_neg g, if_neg fun h => g ⟨by omega, h.2.2.1 1 (by omega) (by omega)⟩]; rfl
        · rw [if_neg (by assumption)]
          split at hm
          · subst hm
            rename_i c3
            rw [if_pos c3]
            by_cases g : (i + 1 < s.size ∧ 128 ≤ byt s (i + 1) ∧ byt s (i + 1) ≤ 191) ∧ (i + 2 < s.size ∧ 128 ≤ byt s (i + 2) ∧ byt s (i + 2) ≤ 191) ∧ ¬ (byt s i = 224 ∧ byt s (i + 1) < 160) ∧ ¬ (byt s i = 237 ∧ 159 < byt s (i + 1))
            · rw [if_pos g, if_pos ⟨by decide, by omega, (hq _ 2).2 fun q hq => by
                rcases (show q = 0 ∨ q = 1 by omega) with rfl | rfl
                · exact g.1.2
                · exact g.2.1.2, by omega⟩]; rfl
            · rw [if_neg g, if_neg fun h => g ⟨⟨by omega, h.2.2.1 1 (by omega) (by omega)⟩, ⟨by omega, h.2.2.1 2 (by omega) (by omega)⟩, by omega, by omega⟩]; rfl
          · rw [if_neg (by assumption)]
            split at hm
            · subst hm
              rename_i c3
              rw [if_pos c3]
              by_cases g : (i + 1 < s.size ∧ 128 ≤ byt s (i + 1) ∧ byt s (i + 1) ≤ 191) ∧ (i + 2 < s.size ∧ 128 ≤ byt s (i + 2) ∧ byt s (i + 2) ≤ 191) ∧ (i + 3 < s.size ∧ 128 ≤ byt s (i + 3) ∧ byt s (i + 3) ≤ 191) ∧ ¬ (byt s i = 240 ∧ byt s (i + 1) < 144) ∧ ¬ (byt s i = 244 ∧ 143 < byt s (i + 1))
              · rw [if_pos g, if_pos ⟨by decide, by omega, (hq _ 3).2 fun q hq => by
                  rcases (show q = 0 ∨ q = 1 ∨ q = 2 by omega) with rfl | rfl | rfl
                  · exact g.1.2
                  · exact g.2.1.2
                  · exact g.2.2.1.2, by omega⟩]; rfl
              · rw [if_neg g, if_neg fun h => g ⟨⟨by omega, h.2.2.1 1 (by omega) (by omega)⟩, ⟨by omega, h.2.2.1 2 (by omega) (by omega)⟩, ⟨by omega, h.2.2.1 3 (by omega) (by omega)⟩, by omega, by omega⟩]; rfl
            · subst hm
              rw [if_neg (by assumption), if_neg (fun h => h.1 rfl)]; rfl
    have hm4 : 0 ≤ m ∧ m ≤ 4 := by rw [← hm]; repeat' split <;> omega
    have hm1 : m = 1 → byt s i < 128 := fun e => by rw [← hm] at e; repeat' split at e; all_goals omega
    clear hm
    have hbad : runeW s i = 0 → (some (-1) : Option Int) = some (runesP s n i) := fun hw => by rw [runesP_bad c hw]
    by_cases c0 : m = 0
    · rw [if_pos (by simpa using c0)]
      unfold ref02_Runes_k3
      rw [if_pos rfl]
      exact hbad (by rw [if_neg (fun h => h.1 c0)] at hW; omega)
    · rw [if_neg (by simpa using c0), wrap64 (by omega) (by omega)]
      unfold ref02_Runes_k3
      by_cases c1 : (s.size : Int) - i < m
      · rw [if_pos (by simpa using c1)]
        exact hbad (by rw [if_neg (fun h => by omega)] at hW; omega)
      · rw [if_neg (by simpa using c1)]
        -- behind the inner loop
        have hk5 : ∀ y : Bool, (∀ q : Nat, 1 ≤ q → (q : Int) < m → 128 ≤ byt s (i + q) ∧ byt s (i + q) ≤ 191) → (y = true ↔ (byt s i = 224 ∧ byt s (i + 1) < 160 ∨ byt s i = 237 ∧ 159 < byt s (i + 1) ∨ byt s i = 240 ∧ byt s (i + 1) < 144 ∨ byt s i = 244 ∧ 143 < byt s (i + 1))) →
            ref02_Runes_k5 again (n, (i : Int)) m y = some (runesP s n i) := by
          intro y hq hy
          unfold ref02_Runes_k5
          cases y with
          | true =>
            rw [if_pos rfl]
            exact hbad (by rw [if_neg (fun h => h.2.2.2 (hy.1 rfl))] at hW; omega)
          | false =>
            simp only [Bool.false_eq_true, if_false]
            rw [if_pos ⟨c0, by omega, hq, fun h => by have := hy.2 h; cases this⟩] at hW
            rw [wrap64 (by omega) (by omega), wrap64 (by omega) (by omega), runesP_ok c (by omega)]
            have := hag (n + 1, (i : Int) + m) ⟨by simp only; omega, by simp only; omega, by simp only; omega⟩ (by simp only; omega)
            rw [this]
            simp only
            rw [show ((i : Int) + m).toNat = i + runeW s i by omega]
        have hk4 : (∀ q : Nat, 1 ≤ q → (q : Int) < m → 128 ≤ byt s (i + q) ∧ byt s (i + q) ≤ 191) → ref02_Runes_k4 s again (n, (i : Int)) m () = some (runesP s n i) := by
          intro hq
          have hk5 := fun y hy => hk5 y hq hy
          by_cases g1 : m = 1
          · unfold ref02_Runes_k4 ref02_Runes_k6 ref02_Runes_k7 ref02_Runes_k8
            simp only [hb1, Option.bind_some, hb2]
            have h5 := hm1 g1
            have e1 : ¬ ((byt s i : Int) = 224) := by omega
            have e2 : ¬ ((byt s i : Int) = 237) := by omega
            have e3 : ¬ ((byt s i : Int) = 240) := by omega
            have e4 : ¬ ((byt s i : Int) = 244) := by omega
            simp only [e1, e2, e3, e4, decide_false, Bool.false_eq_true, if_false]
            exact hk5 _ (by simp only [Bool.false_eq_true, false_iff]; omega)
          · obtain ⟨b', hb1', hb2'⟩ := hbyt (i + 1) (by omega)
            have e : IntKind.wrap .i64 ((i : Int) + 1) = ((i + 1 : Nat) : Int) := by rw [wrap64 (by omega) (by omega)]; omega
            rw [ref02_Runes_k4_two (v := (n, (i : Int))) hb1 (by rw [show (n, (i : Int)).2 = (i : Int) from rfl, e]; exact hb1')]
            refine hk5 _ ?_
            rw [hb2, hb2', decide_eq_true_eq]
            constructor <;> intro g <;> omega
        refine loopF_inv (fun (q : Int) => 1 ≤ q ∧ q ≤ m ∧ ∀ p : Nat, 1 ≤ p → (p : Int) < q → 128 ≤ byt s (i + p) ∧ byt s (i + p) ≤ 191) (fun q => (m - q).toNat) (fun _ => some (runesP s n i)) ?_ FU 1 ⟨Int.le_refl _, by omega, fun p _ _ => by omega⟩ (by have := FU_big; omega)
        rintro again2 q ⟨h5, h6, h7⟩ hag2
        unfold ref02_Runes_l9
        by_cases c2 : q < m
        · rw [if_pos (by simpa using c2)]
          obtain ⟨j, rfl⟩ : ∃ j : Nat, q = j := ⟨q.toNat, by omega⟩
          have e : IntKind.wrap .i64 ((n, (i : Int)).2 + (j : Int)) = ((i + j : Nat) : Int) := by rw [wrap64 (by simp only; omega) (by simp only; omega)]; simp only; omega
          obtain ⟨b', hb1', hb2'⟩ := hbyt (i + j) (by omega)
          rw [e, hb1']
          simp only [Option.bind_some, hb2']
          have hno : ¬ (128 ≤ byt s (i + j) ∧ byt s (i + j) ≤ 191) → (some (-1) : Option Int) = some (runesP s n i) := fun hx => hbad (by rw [if_neg (fun h => hx (h.2.2.1 j (by omega) c2))] at hW; omega)
          by_cases g1 : (byt s (i + j) : Int) < 128
          · rw [if_pos (by simpa using g1)]; exact hno (by omega)
          · rw [if_neg (by simpa using g1)]
            by_cases g2 : 191 < (byt s (i + j) : Int)
            · rw [if_pos (by simpa using g2)]; exact hno (by omega)
            · rw [if_neg (by simpa using g2), wrap64 (by omega) (by omega)]
              refine hag2 _ ⟨by omega, by omega, fun p hp1 hp2 => ?_⟩ (by omega)
              by_cases hpj : p = j
              · subst hpj; omega
              · exact h7 p hp1 (by omega)
        · rw [if_neg (by simpa using c2)]
          exact hk4 fun q1 hq1 hq2 => h7 q1 hq1 (by omega)
  · rw [if_neg (by simpa using c), runesP_end c]
    rfl

theorem ref02_Check_eq {s : ByteArray} (hl : s.size ≤ 9223372036854775807) : ref02_Check s = some (okKey s) := by
  unfold ref02_Check
  rw [ref02_Runes_eq hl]
  simp only [Option.bind_some]
  refine loopF_inv (fun (v : Int) => 0 ≤ v ∧ v ≤ (s.size : Int) ∧ ∀ j : Nat, (j : Int) < v → 33 ≤ byt s j) (fun v => ((s.size : Int) - v).toNat) (fun _ => some (okKey s)) ?_ FU 0 ⟨Int.le_refl _, by omega, fun j h => by omega⟩ (by have := FU_big; omega)
  rintro again v ⟨h1, h2, h3⟩ hag
  unfold ref02_Check_l2 ref02_Check_k1
  by_cases c : v < (s.size : Int)
  · obtain ⟨i, rfl⟩ : ∃ i : Nat, v = i := ⟨v.toNat, by omega⟩
    obtain ⟨b, hb1, hb2⟩ := sidx_byt (s := s) (i := i) (by omega)
    rw [if_pos (by simpa using c), hb1]
    simp only [Option.bind_some, hb2]
    by_cases c1 : (byt s i : Int) < 33
    · rw [if_pos (by simpa using c1)]
      unfold okKey
      rw [decide_eq_false (p := ∀ j, j < s.size → 33 ≤ byt s j) fun h => by have := h i (by omega); omega]
      simp
    · rw [if_neg (by simpa using c1), wrap64 (by omega) (by omega)]
      refine hag _ ⟨by omega, by omega, fun j hj => ?_⟩ (by omega)
      by_cases hji : j = i
      · subst hji; omega
      · exact h3 j (by omega)
  · rw [if_neg (by simpa using c)]
    have : okKey s = (decide (1 ≤ runesP s 0 0) && decide (runesP s 0 0 ≤ 8)) := by
      unfold okKey
      rw [decide_eq_true (p := ∀ j, j < s.size → 33 ≤ byt s j) fun j hj => h3 j (by omega)]
      simp
    rw [this]
    by_cases g : 1 ≤ runesP s 0 0 <;> simp [g]
end Go.Ark
