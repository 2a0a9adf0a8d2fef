import Derived.Test.YtfhlilpkgodilaaGreatDoorPwline3
import Derived.Test.YtfhlilpkgodilaaGreatDoorProwb
/- Plain laws: words: a step out of a line's words. Conditions: none but those that stand in each law. -/
namespace Go.Ark
open Go Go.Ab Go.RowKit

def wt (w : Wd) : ByteArray := ofL (wdW w)
def wts (l : List Wd) : List ByteArray := l.map wt

theorem next_eq (w : ByteArray) (ws : List ByteArray) (b : Bool) (hl : ws.length ≤ 1000000) : words_reader_next ⟨w :: ws, b⟩ = some (⟨ws, b⟩, w) := by
  unfold words_reader_next
  rw [if_neg (by simp; omega)]
  have h0 : idx (w :: ws) 0 = some w := rfl
  have h1 : sub (w :: ws) 1 ((w :: ws).length : Int) = some ws := by
    unfold sub
    rw [if_pos ⟨by omega, by simp; omega, by omega⟩]
    simp
  simp only [h0, h1, Option.bind_some]
theorem number_eq {n : Int} (h : okN n) (ws : List ByteArray) (hl : ws.length ≤ 1000000) : words_reader_number ⟨wt (numW n) :: ws, false⟩ = some (⟨ws, false⟩, n) := by
  unfold words_reader_number
  rw [next_eq _ _ _ hl]
  simp only [Option.bind_some]
  rw [show words_decimal (wt (numW n)) = some (n, true) from decimal_eq h]
  rfl
theorem trim_quote (l : List UInt8) (hl : l.length ≤ 1000000) : strings_TrimPrefix (ofL (34 :: l)) (ByteArray.mk #[34]) = some (ofL l) := by
  have hs : (ofL (34 :: l)).size = l.length + 1 := by rw [ofL_size]; rfl
  have hp : ssub (ofL (34 :: l)) 0 1 = some (ByteArray.mk #[34]) := by
    have := ssub_bl (ofL (34 :: l)) 1 (by omega)
    rw [bl_ofL] at this
    exact this
  have hf : ssub (ofL (34 :: l)) 1 ((ofL (34 :: l)).size : Int) = some (ofL l) := by
    have := ssub_from (ofL (34 :: l)) 1 (by omega)
    rw [bl_ofL] at this
    exact this
  have h1 : ((ByteArray.mk #[34]).size : Int) = 1 := rfl
  have hh : internal_stringslite_HasPrefix (ofL (34 :: l)) (ByteArray.mk #[34]) = some true := by
    unfold internal_stringslite_HasPrefix
    rw [h1, if_pos (decide_eq_true (by rw [hs]; omega)), hp]
    simp only [Option.bind_some, seq_eq, decide_true]
  unfold strings_TrimPrefix internal_stringslite_TrimPrefix
  rw [hh, h1, hf]
  rfl
theorem text_eq {s : ByteArray} (h : s.size ≤ 32) (ws : List ByteArray) (hl : ws.length ≤ 1000000) : words_reader_text ⟨wt (txtW s) :: ws, false⟩ = some (⟨ws, false⟩, s) := by
  unfold words_reader_text
  rw [next_eq _ _ _ hl]
  simp only [Option.bind_some]
  rw [show wt (txtW s) = ofL (34 :: bl s) from rfl, trim_quote _ (by rw [bl_len]; omega), ofL_bl]
  simp only [Option.bind_some]
  rw [if_neg (by simp), decide_eq_false (by omega : ¬ (32 : Int) < (s.size : Int))]
theorem more_eq (ws : List ByteArray) : words_reader_more ⟨ws, false⟩ = some (⟨ws, false⟩, decide (0 < ws.length)) := by
  unfold words_reader_more
  cases ws with
  | nil => rfl
  | cons w ws => rw [if_pos (by simp)]; simp

theorem app8 {acc ys : List Int} (h : acc.length + ys.length ≤ 1000000) : app 8 acc ys = some (acc ++ ys) := by
  unfold app
  rw [if_pos]
  simp only [List.length_append]
  omega
theorem app32 {acc ys : List Api_Range} (h : acc.length + ys.length ≤ 1000000) : app 32 acc ys = some (acc ++ ys) := by
  unfold app
  rw [if_pos]
  simp only [List.length_append]
  omega

/-! rows -/
theorem pars_read {y1 : List ByteArray × Bool × List Api_Range × List Int} : ∀ (r ps : List Int) (n : Nat), (∀ p, p ∈ r → parOK p = true) → r.length < n → ps.length + r.length ≤ 1000 → r.length ≤ 1000 →
    loopF (words_reader_row_l3 y1) n (wts (r.map parW), false, ps) = words_reader_row_k2 y1 ([], false, ps ++ r)
  | _, _, 0, _, h, _, _ => by omega
  | [], ps, n + 1, _, _, _, _ => by
    rw [loopF, words_reader_row_l3]
    simp only [wts, List.map_nil, more_eq, Option.bind_some]
    simp
  | p :: r, ps, n + 1, hp, h, hl, hr => by
    have hm := hp p (by simp)
    simp only [parOK, Bool.and_eq_true, decide_eq_true_eq] at hm
    simp only [List.length_cons] at h hl hr
    have ih := pars_read (y1 := y1) r (ps ++ [p]) n (fun q hq => hp q (by simp [hq])) (by omega) (by simp; omega) (by omega)
    have hws : (wts (r.map parW)).length ≤ 1000000 := by simp [wts]; omega
    rw [loopF, words_reader_row_l3]
    rw [show wts ((p :: r).map parW) = wt (parW p) :: wts (r.map parW) from rfl]
    simp only [more_eq, Option.bind_some]
    rw [if_pos (by simp), show idx (wt (parW p) :: wts (r.map parW)) 0 = some (wt (parW p)) from rfl]
    simp only [Option.bind_some]
    by_cases hn : p < 0
    · have e : p = -1 := by omega
      have hx : wt (parW p) = ByteArray.mk #[45] := by rw [show parW p = ⟨false, [45]⟩ from if_pos hn]; rfl
      rw [hx, seq_eq, if_pos (by simp), next_eq _ _ _ hws]
      simp only [Option.bind_some]
      rw [app8 (by simp; omega)]
      simp only [Option.bind_some]
      rw [e] at ih ⊢
      rw [ih]
      simp
    · have hok : okN p := ⟨by omega, by omega⟩
      have e : parW p = numW p := if_neg hn
      have hne : ¬ wt (numW p) = ByteArray.mk #[45] := fun c => by
        have := congrArg bl c
        rw [wt, bl_ofL] at this
        exact (small_all p.toNat (by omega)).2.2.2.1 this
      rw [e, seq_eq, if_neg (by simpa using hne), number_eq hok _ hws]
      simp only [Option.bind_some]
      rw [app8 (by simp; omega)]
      simp only [Option.bind_some]
      rw [ih]
      simp
end Go.Ark
