import Derived.Test.YtfhlilpkgodilaaGreatDoorPwline
/- Plain laws: words: the line of a step. Conditions: none but those that stand in each law. -/
namespace Go.Ark
open Go Go.Ab Go.RowKit

def spW (ws : List Wd) : List UInt8 := ws.flatMap fun w => 32 :: wdL w
def szW (w : Wd) : Prop := (wdL w).length ≤ 1000
theorem numW_len {n : Int} (_h : okN n) : 1 ≤ (wdL (numW n)).length ∧ (wdL (numW n)).length ≤ 2 := by
  show 1 ≤ (smallL n.toNat).length ∧ (smallL n.toNat).length ≤ 2
  unfold smallL; split <;> simp
theorem numW_sz {n : Int} (h : okN n) : szW (numW n) := by have := numW_len h; unfold szW; omega
theorem txtW_len (s : ByteArray) : (wdL (txtW s)).length ≤ 3 * s.size + 2 := by have := quoteL_len (bl s); rw [bl_len] at this; exact this
theorem txtW_sz {s : ByteArray} (h : s.size ≤ 40) : szW (txtW s) := by have := txtW_len s; unfold szW; omega

theorem putW {p : List UInt8} {ws : List Wd} {bs : List ByteArray} (hb : bs = ws.map fun w => ofL (wdL w)) (h1 : 1 ≤ ws.length) (hl : ws.length ≤ 50) (hp : p.length ≤ 900000) (hs : ∀ w, w ∈ ws → szW w) : words_put (ofL p) bs = some (ofL (p ++ spW ws)) := by
  subst hb
  rw [words_put_eq (by simpa using h1) (by simpa using hl) (by rw [ofL_size]; omega) (fun x hx => by
    obtain ⟨w, hw, rfl⟩ := List.mem_map.1 hx
    have := hs w hw
    unfold szW at this
    rw [ofL_size]; omega)]
  rw [bl_ofL]
  congr 3
  unfold spL spW
  rw [List.flatMap_map]
  simp only [bl_ofL]

theorem putW1 {p : List UInt8} {a : Wd} (hp : p.length ≤ 900000) (ha : szW a) : words_put (ofL p) [ofL (wdL a)] = some (ofL (p ++ spW [a])) :=
  putW (ws := [a]) rfl (by simp) (by simp) hp (by simpa using ha)
theorem putW2 {p : List UInt8} {a b : Wd} (hp : p.length ≤ 900000) (ha : szW a) (hb : szW b) : words_put (ofL p) [ofL (wdL a), ofL (wdL b)] = some (ofL (p ++ spW [a, b])) :=
  putW (ws := [a, b]) rfl (by simp) (by simp) hp (by simp [ha, hb])
theorem putW3 {p : List UInt8} {a b c : Wd} (hp : p.length ≤ 900000) (ha : szW a) (hb : szW b) (hc : szW c) : words_put (ofL p) [ofL (wdL a), ofL (wdL b), ofL (wdL c)] = some (ofL (p ++ spW [a, b, c])) :=
  putW (ws := [a, b, c]) rfl (by simp) (by simp) hp (by simp [ha, hb, hc])
theorem putW4 {p : List UInt8} {a b c d : Wd} (hp : p.length ≤ 900000) (ha : szW a) (hb : szW b) (hc : szW c) (hd : szW d) : words_put (ofL p) [ofL (wdL a), ofL (wdL b), ofL (wdL c), ofL (wdL d)] = some (ofL (p ++ spW [a, b, c, d])) :=
  putW (ws := [a, b, c, d]) rfl (by simp) (by simp) hp (by simp [ha, hb, hc, hd])

def nameL (k : Nat) : List UInt8 := match k with
  | 1 => [112, 117, 116] | 2 => [100, 101, 108] | 3 => [103, 101, 116] | 4 => [108, 101, 97, 118, 101] | 5 => [101, 110, 116, 101, 114] | 6 => [98, 101, 103, 105, 110] | 7 => [101, 110, 100]
  | 8 => [112, 105, 99, 107] | 9 => [97, 103, 97, 105, 110] | 10 => [115, 116, 101, 112] | 11 => [99, 108, 101, 97, 110] | 12 => [114, 111, 119] | _ => []
theorem name_all : ∀ k : Nat, k < 13 → words_name (k : Int) = some (ofL (nameL k)) ∧ (1 ≤ k → words_kind (ofL (nameL k)) = some (k : Int) ∧ (nameL k ≠ [] ∧ (∀ b, b ∈ nameL k → grB b = true)) ∧ (nameL k).length ≤ 5 ∧ (nameL k).head? ≠ some 35) := by decide +kernel

def parW (p : Int) : Wd := if p < 0 then ⟨false, [45]⟩ else numW p
def ownWds : List (Int × Api_Range) → List Wd
  | [] => []
  | [(o, _)] => [numW o]
  | (o, r) :: x :: l => numW o :: txtW r.To :: ownWds (x :: l)
def slash : Wd := ⟨false, [47]⟩
def rowWds (c : Api_Row) : List Wd := ownWds (c.Owners.zip c.Ranges) ++ slash :: c.Parents.map parW
def argW (o : Api_Op) : List Wd :=
  if o.Kind = 1 then [numW o.Client, txtW o.Key, txtW o.Value] else if o.Kind = 2 ∨ o.Kind = 3 then [numW o.Client, txtW o.Key] else if o.Kind = 4 ∨ o.Kind = 7 then [numW o.Client]
  else if o.Kind = 5 then [numW o.Client, numW o.Site] else if o.Kind = 6 then numW o.Client :: o.Keys.map txtW else if o.Kind = 8 then [numW o.Site, numW o.To, numW o.At, numW o.How]
  else if o.Kind = 9 then [numW o.Site, numW o.To] else if o.Kind = 10 then [numW o.Site] else if o.Kind = 12 then rowWds o.Row else []
structure okOp (o : Api_Op) : Prop where
  k : 1 ≤ o.Kind ∧ o.Kind ≤ 12
  cl : okN o.Client
  si : okN o.Site
  to : okN o.To
  at' : okN o.At
  how : okN o.How
  ks : o.Keys.length ≤ 8 ∧ ∀ s, s ∈ o.Keys → s.size ≤ 32
  key : o.Key.size ≤ 32
  val : o.Value.size ≤ 32
  row : o.Kind = 12 → okRow o.Row = true
  no : o.Kind ≠ 12 → o.Row = ⟨[], [], []⟩

theorem spW_len {ws : List Wd} (hs : ∀ w, w ∈ ws → szW w) : (spW ws).length ≤ 1001 * ws.length := by
  induction ws with
  | nil => simp [spW]
  | cons w ws ih =>
    have h1 := ih fun x hx => hs x (by simp [hx])
    have h2 := hs w (by simp)
    unfold szW at h2
    simp only [spW, List.flatMap_cons, List.length_append, List.length_cons] at h1 ⊢
    omega

/-! a row's line -/
theorem par_loop {c : Api_Row} (hp : ∀ p, p ∈ c.Parents → parOK p = true) (hl : c.Parents.length ≤ 6) (p0 : List UInt8) (h0 : p0.length ≤ 100000) : loopF (words_rowLine_l3 c) FU (ofL p0, 0) = some (ofL (p0 ++ spW (c.Parents.map parW))) := by
  refine (loopL (body := words_rowLine_l3 c) c.Parents (fun (s : List UInt8) i => (ofL s, i)) (fun rest s => some (ofL (s ++ spW (rest.map parW)))) (fun i s => s.length ≤ 100000 + 1001 * i) ?_ ?_ (s0 := p0) (by omega) (by omega))
  · intro again s _
    unfold words_rowLine_l3 words_rowLine_k2
    simp [spW]
  · intro again i s hi hI hag
    have hm := hp _ (List.getElem_mem hi)
    simp only [parOK, Bool.and_eq_true, decide_eq_true_eq] at hm
    unfold words_rowLine_l3
    rw [if_pos (decide_eq_true (by omega)), idx_at hi]
    simp only [Option.bind_some]
    by_cases hn : c.Parents[i] < 0
    · rw [if_pos (decide_eq_true hn), show ByteArray.mk #[45] = ofL (wdL ⟨false, [45]⟩) from rfl, putW1 (by omega) (by simp [szW, wdL]), wrap64 (by omega) (by omega)]
      simp only [Option.bind_some]
      rw [hag _ (by simp [spW, wdL]; omega)]
      simp only [spW, List.map_cons, List.flatMap_cons, List.flatMap_nil, parW, List.append_assoc, List.append_nil, List.cons_append, if_pos hn]
    · have hok : okN c.Parents[i] := ⟨by omega, by omega⟩
      rw [if_neg (by simpa using hn), words_small_eq hok]
      simp only [Option.bind_some]
      have hz := numW_len hok
      rw [putW1 (by omega) (numW_sz hok), wrap64 (by omega) (by omega)]
      simp only [Option.bind_some]
      rw [hag _ (by simp only [spW, List.flatMap_cons, List.flatMap_nil, List.length_append, List.length_cons, List.append_nil]; omega)]
      simp only [spW, List.map_cons, List.flatMap_cons, List.flatMap_nil, parW, List.append_assoc, List.append_nil, List.cons_append, if_neg hn]

theorem own_loop {c : Api_Row} (ho : ∀ o, o ∈ c.Owners → okN o) (hr : ∀ r, r ∈ c.Ranges → r.To.size ≤ 32) (hl : c.Owners.length = c.Ranges.length) (hn : c.Ranges.length ≤ 8) (hp : ∀ p, p ∈ c.Parents → parOK p = true) (hpl : c.Parents.length ≤ 6) (p0 : List UInt8) (h0 : p0.length ≤ 1000) :
    words_rowLine (ofL p0) c = some (ofL (p0 ++ spW (rowWds c))) := by
  unfold words_rowLine
  have hzl : (c.Owners.zip c.Ranges).length = c.Owners.length := by rw [List.length_zip]; omega
  refine (loopL (body := words_rowLine_l4 c) (c.Owners.zip c.Ranges) (fun (s : List UInt8) i => (ofL s, i)) (fun rest s => some (ofL (s ++ spW (ownWds rest ++ slash :: c.Parents.map parW)))) (fun i s => s.length ≤ 1000 + 1001 * (2 * i)) ?_ ?_ (s0 := p0) (by omega) (by omega))
  · intro again s hs
    unfold words_rowLine_l4
    rw [if_neg (by rw [hzl]; simp)]
    unfold words_rowLine_k1
    rw [show ByteArray.mk #[47] = ofL (wdL slash) from rfl, putW1 (by omega) (by simp [szW, wdL, slash])]
    simp only [Option.bind_some]
    rw [par_loop hp hpl _ (by simp [spW, wdL, slash]; omega)]
    simp [spW, ownWds]
  · intro again i s hi hI hag
    have hi1 : i < c.Owners.length := by omega
    have hi2 : i < c.Ranges.length := by omega
    have hok := ho _ (List.getElem_mem hi1)
    have hz := numW_len hok
    have hrt := hr _ (List.getElem_mem hi2)
    unfold words_rowLine_l4
    rw [if_pos (decide_eq_true (by omega)), idx_at hi1]
    simp only [Option.bind_some]
    rw [words_small_eq hok]
    simp only [Option.bind_some]
    rw [putW1 (by omega) (numW_sz hok), wrap64 (by omega) (by omega)]
    simp only [Option.bind_some]
    by_cases hlast : i + 1 < c.Ranges.length
    · have hx := txtW_len c.Ranges[i].To
      rw [if_pos (decide_eq_true (by omega)), idx_at hi2]
      simp only [Option.bind_some]
      rw [words_Quote_w (by omega)]
      simp only [Option.bind_some]
      rw [putW1 (by simp only [spW, List.flatMap_cons, List.flatMap_nil, List.length_append, List.length_cons, List.append_nil]; omega) (txtW_sz (show c.Ranges[i].To.size ≤ 40 by omega))]
      simp only [Option.bind_some]
      rw [hag _ (by simp only [spW, List.flatMap_cons, List.flatMap_nil, List.length_append, List.length_cons, List.append_nil]; omega)]
      have hd : (c.Owners.zip c.Ranges).drop (i + 1) = (c.Owners.zip c.Ranges)[i + 1]'(by omega) :: (c.Owners.zip c.Ranges).drop (i + 2) := List.drop_eq_getElem_cons (by omega)
      rw [hd]
      simp [spW, ownWds]
    · rw [if_neg (by simp; omega)]
      rw [hag _ (by simp only [spW, List.flatMap_cons, List.flatMap_nil, List.length_append, List.length_cons, List.append_nil]; omega)]
      have hd : (c.Owners.zip c.Ranges).drop (i + 1) = [] := List.drop_eq_nil_of_le (by omega)
      rw [hd]
      simp [spW, ownWds]
end Go.Ark
