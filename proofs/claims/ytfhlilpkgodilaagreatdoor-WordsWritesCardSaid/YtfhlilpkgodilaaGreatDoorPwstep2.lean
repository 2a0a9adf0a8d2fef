import Derived.Test.YtfhlilpkgodilaaGreatDoorPwstep
/- Plain laws: words: a step out of a line's words, rows and all. Conditions: none but those that stand in each law. -/
namespace Go.Ark
open Go Go.Ab Go.RowKit

theorem owns_read {ps : List Int} (hps : ps.length ≤ 1000) : ∀ (n : Nat) (z : List (Int × Api_Range)) (b : Bool) (a : ByteArray) (R : List Api_Range) (O : List Int), z ≠ [] → wholeG b a (z.map (·.2)) = true → (∀ x, x ∈ z → okN x.1 ∧ x.2.To.size ≤ 32) →
    z.length < n → R.length + z.length ≤ 1000 → O.length + z.length ≤ 1000 → z.length ≤ 1000 →
    loopF words_reader_row_l4 n (a, wts (ownWds z ++ slash :: ps.map parW), false, R, O) = words_reader_row_k1 (wts (ps.map parW), false, R ++ z.map (·.2), O ++ z.map (·.1)) := by
  intro n
  induction n with
  | zero => intro z _ _ _ _ _ _ _ h; omega
  | succ n IH =>
  intro z b a R O hne0 hw hx h hR hO hz
  match z, hne0, hw, hx, h, hR, hO, hz with
  | [], hne0, _, _, _, _, _, _ => exact absurd rfl hne0
  | [(o, r)], _, hw, hx, _, hR, hO, _ =>
    obtain ⟨ho, _⟩ := hx (o, r) (by simp)
    have ho : okN o := ho
    simp only [List.map_cons, List.map_nil, wholeG_cons, wholeG_nil, Bool.and_eq_true, decide_eq_true_eq] at hw
    obtain ⟨_, hf, _, _, ht⟩ := hw
    simp only [List.length_cons, List.length_nil] at hR hO
    have hr : Api_Range.mk a ByteArray.empty = r := by cases r; simp_all
    have hws : (wts (slash :: ps.map parW)).length ≤ 1000000 := by simp [wts]; omega
    have hws2 : (wts (ps.map parW)).length ≤ 1000000 := by simp [wts]; omega
    rw [loopF, words_reader_row_l4]
    dsimp only
    rw [if_pos (show (!false) = true from rfl), show wts (ownWds [(o, r)] ++ slash :: ps.map parW) = wt (numW o) :: wts (slash :: ps.map parW) from rfl, number_eq ho _ hws]
    simp only [Option.bind_some]
    rw [app8 (by simp; omega)]
    simp only [Option.bind_some]
    rw [if_neg (by simp), more_eq]
    simp only [Option.bind_some]
    unfold words_reader_row_k5
    rw [if_neg (by simp [wts]), show idx (wts (slash :: ps.map parW)) 0 = some (ByteArray.mk #[47]) from rfl]
    simp only [Option.bind_some]
    rw [seq_eq, if_pos (by simp), show wts (slash :: ps.map parW) = ByteArray.mk #[47] :: wts (ps.map parW) from rfl, next_eq _ _ _ hws2]
    simp only [Option.bind_some]
    rw [app32 (by simp; omega), hr]
    simp only [Option.bind_some, List.map_cons, List.map_nil]
  | (o, r) :: x :: z, _, hw, hx, h, hR, hO, hz =>
    obtain ⟨ho, ht⟩ := hx (o, r) (by simp)
    have ho : okN o := ho
    rw [List.map_cons, wholeG_cons] at hw
    simp only [Bool.and_eq_true, decide_eq_true_eq] at hw
    obtain ⟨_, hf, _, hw⟩ := hw
    simp only [List.length_cons] at h hR hO hz
    have ht : r.To.size ≤ 32 := ht
    have hr : Api_Range.mk a r.To = r := by cases r; simp_all
    have hol := ownWds_len (x :: z)
    simp only [List.length_cons] at hol
    have hws : (wts (txtW r.To :: (ownWds (x :: z) ++ slash :: ps.map parW))).length ≤ 1000000 := by simp [wts]; omega
    have hws2 : (wts (ownWds (x :: z) ++ slash :: ps.map parW)).length ≤ 1000000 := by simp [wts]; omega
    have ih := IH (x :: z) true r.To (R ++ [r]) (O ++ [o]) (by simp) hw (fun y hy => hx y (List.mem_cons_of_mem _ hy)) (by simp only [List.length_cons]; omega) (by simp only [List.length_append, List.length_cons, List.length_nil]; omega) (by simp only [List.length_append, List.length_cons, List.length_nil]; omega) (by simp only [List.length_cons]; omega)
    rw [loopF, words_reader_row_l4]
    dsimp only
    rw [if_pos (show (!false) = true from rfl), show wts (ownWds ((o, r) :: x :: z) ++ slash :: ps.map parW) = wt (numW o) :: wts (txtW r.To :: (ownWds (x :: z) ++ slash :: ps.map parW)) from rfl, number_eq ho _ hws]
    simp only [Option.bind_some]
    rw [app8 (by simp; omega)]
    simp only [Option.bind_some]
    rw [if_neg (by simp), more_eq]
    simp only [Option.bind_some]
    unfold words_reader_row_k5
    rw [if_neg (by simp [wts]), show idx (wts (txtW r.To :: (ownWds (x :: z) ++ slash :: ps.map parW))) 0 = some (wt (txtW r.To)) from rfl]
    simp only [Option.bind_some]
    have hne : ¬ wt (txtW r.To) = ByteArray.mk #[47] := fun c => by
      have := congrArg bl c
      rw [wt, bl_ofL] at this
      exact absurd (List.cons.inj this).1 (by decide)
    rw [seq_eq, if_neg (by simpa using hne), show wts (txtW r.To :: (ownWds (x :: z) ++ slash :: ps.map parW)) = wt (txtW r.To) :: wts (ownWds (x :: z) ++ slash :: ps.map parW) from rfl, text_eq ht _ hws2]
    simp only [Option.bind_some]
    rw [app32 (by simp; omega), hr]
    simp only [Option.bind_some]
    rw [ih]
    simp only [List.map_cons, List.append_assoc, List.cons_append, List.nil_append]

theorem zip_fst {c : Api_Row} (h : c.Owners.length = c.Ranges.length) : (c.Owners.zip c.Ranges).map (·.1) = c.Owners := by
  rw [List.map_fst_zip (by omega)]
theorem zip_snd {c : Api_Row} (h : c.Owners.length = c.Ranges.length) : (c.Owners.zip c.Ranges).map (·.2) = c.Ranges := by
  rw [List.map_snd_zip (by omega)]

theorem row_read {c : Api_Row} (h : okRow c = true) : words_reader_row ⟨wts (rowWds c), false⟩ = some (⟨[], false⟩, c) := by
  obtain ⟨⟨h1, h2, h3, h4⟩, h5, _, _⟩ := okRow_iff.1 h
  have hn := okRow_ne h
  have hzl : (c.Owners.zip c.Ranges).length = c.Ranges.length := by rw [List.length_zip]; omega
  have hz0 : c.Owners.zip c.Ranges ≠ [] := fun e => by rw [e] at hzl; simp at hzl; omega
  unfold words_reader_row
  have e1 := owns_read (ps := c.Parents) (by omega) FU (c.Owners.zip c.Ranges) false ByteArray.empty [] [] hz0 (by rw [zip_snd h4]; exact h5) (zip_ok h) (by unfold FU; omega) (by simp; omega) (by simp; omega) (by omega)
  rw [zip_fst h4, zip_snd h4] at e1
  refine Eq.trans e1 ?_
  unfold words_reader_row_k1
  have e2 := pars_read (y1 := (wts (c.Parents.map parW), false, [] ++ c.Ranges, [] ++ c.Owners)) c.Parents [] FU (parOK_of h) (by unfold FU; omega) (by simp; omega) (by omega)
  refine Eq.trans e2 ?_
  unfold words_reader_row_k2
  rw [if_neg (by simp)]
  have hc : Api_Row.mk ([] ++ c.Ranges) ([] ++ c.Owners) ([] ++ c.Parents) = c := by cases c; rfl
  have hl := rowL_len h
  have hb : wire_RowBytes c = some (ofL (rowL c)) := by rw [wire_RowBytes_eq (okRow_S h), rowB, if_pos h]
  have hne : ¬ ofL (rowL c) = ByteArray.empty := fun e => by
    have := congrArg ByteArray.size e
    rw [ofL_size] at this
    have h0 : ByteArray.empty.size = 0 := rfl
    omega
  simp only [hc, hb, Option.bind_some, seq_eq, decide_eq_false hne]

/-! the step -/
def canon (o : Api_Op) : Api_Op :=
  if o.Kind = 1 then ⟨o.Kind, o.Client, 0, 0, 0, 0, o.Key, o.Value, [], ⟨[], [], []⟩⟩ else if o.Kind = 2 ∨ o.Kind = 3 then ⟨o.Kind, o.Client, 0, 0, 0, 0, o.Key, ByteArray.empty, [], ⟨[], [], []⟩⟩
  else if o.Kind = 4 ∨ o.Kind = 7 then ⟨o.Kind, o.Client, 0, 0, 0, 0, ByteArray.empty, ByteArray.empty, [], ⟨[], [], []⟩⟩ else if o.Kind = 5 then ⟨o.Kind, o.Client, o.Site, 0, 0, 0, ByteArray.empty, ByteArray.empty, [], ⟨[], [], []⟩⟩
  else if o.Kind = 6 then ⟨o.Kind, o.Client, 0, 0, 0, 0, ByteArray.empty, ByteArray.empty, o.Keys, ⟨[], [], []⟩⟩ else if o.Kind = 8 then ⟨o.Kind, 0, o.Site, o.To, o.At, o.How, ByteArray.empty, ByteArray.empty, [], ⟨[], [], []⟩⟩
  else if o.Kind = 9 then ⟨o.Kind, 0, o.Site, o.To, 0, 0, ByteArray.empty, ByteArray.empty, [], ⟨[], [], []⟩⟩ else if o.Kind = 10 then ⟨o.Kind, 0, o.Site, 0, 0, 0, ByteArray.empty, ByteArray.empty, [], ⟨[], [], []⟩⟩
  else if o.Kind = 12 then ⟨o.Kind, 0, 0, 0, 0, 0, ByteArray.empty, ByteArray.empty, [], o.Row⟩ else ⟨o.Kind, 0, 0, 0, 0, 0, ByteArray.empty, ByteArray.empty, [], ⟨[], [], []⟩⟩

theorem begin_read {r3 : Int} {y5 : Int × Int × List ByteArray × Bool} : ∀ (r acc : List ByteArray) (n : Nat), (∀ s, s ∈ r → s.size ≤ 32) → r.length < n → acc.length + r.length ≤ 1000 → r.length ≤ 1000 →
    loopF (words_step_l7 r3 y5) n (wts (r.map txtW), false, acc) = words_step_k6 r3 y5 ([], false, acc ++ r)
  | _, _, 0, _, h, _, _ => by omega
  | [], acc, n + 1, _, _, _, _ => by
    rw [loopF, words_step_l7]
    simp only [wts, List.map_nil, more_eq, Option.bind_some]
    simp
  | s :: r, acc, n + 1, hs, h, hl, hr => by
    simp only [List.length_cons] at h hl hr
    have ih := begin_read (r3 := r3) (y5 := y5) r (acc ++ [s]) n (fun q hq => hs q (by simp [hq])) (by omega) (by simp; omega) (by omega)
    have hws : (wts (r.map txtW)).length ≤ 1000000 := by simp [wts]; omega
    rw [loopF, words_step_l7]
    rw [show wts ((s :: r).map txtW) = wt (txtW s) :: wts (r.map txtW) from rfl]
    simp only [more_eq, Option.bind_some]
    rw [if_pos (by simp), text_eq (hs s (by simp)) _ hws]
    simp only [Option.bind_some]
    rw [app16 (by simp; omega)]
    simp only [Option.bind_some]
    rw [ih]
    simp

theorem begin_eq {r3 : Int} {y5 : Int × Int × List ByteArray × Bool} {l : List ByteArray} (h : l.length ≤ 8 ∧ ∀ s, s ∈ l → s.size ≤ 32) : loopF (words_step_l7 r3 y5) FU (wts (l.map txtW), false, ([] : List ByteArray)) = words_step_k6 r3 y5 ([], false, l) := by
  have h1 := h.1
  have := begin_read (r3 := r3) (y5 := y5) l [] FU h.2 (by unfold FU; omega) (by simp only [List.length_nil]; omega) (by omega)
  rw [this, List.nil_append]

theorem words_step_eq {o : Api_Op} (h : okOp o) : words_step (ofL (nameL o.Kind.toNat) :: wts (argW o)) = some (canon o, true) := by
  obtain ⟨k, hk⟩ : ∃ k : Nat, o.Kind = k := ⟨o.Kind.toNat, by have := h.k; omega⟩
  have hk1 : 1 ≤ k := by have := h.k; omega
  have hk2 : k < 13 := by have := h.k; omega
  have hn := ((name_all k hk2).2 hk1).1
  have hal : (wts (argW o)).length ≤ 100 := by
    have h1 := h.ks.1
    unfold argW wts
    rw [List.length_map]
    repeat' split
    all_goals first
      | (simp; done)
      | (simp; omega)
      | (rename_i c; have := (rowWds_sz (h.row (by assumption))).2; omega)
  have hsub : sub (ofL (nameL k) :: wts (argW o)) 1 ((ofL (nameL k) :: wts (argW o)).length : Int) = some (wts (argW o)) := by
    unfold sub
    rw [if_pos ⟨by omega, by simp; omega, by omega⟩]
    simp
  unfold words_step
  rw [hk, Int.toNat_natCast, hsub, show idx (ofL (nameL k) :: wts (argW o)) 0 = some (ofL (nameL k)) from rfl]
  simp only [Option.bind_some]
  rw [hn]
  simp only [Option.bind_some]
  have n1 := fun ws hl => number_eq h.cl ws hl; have n2 := fun ws hl => number_eq h.si ws hl; have n3 := fun ws hl => number_eq h.to ws hl; have n4 := fun ws hl => number_eq h.at' ws hl; have n5 := fun ws hl => number_eq h.how ws hl
  have t1 := fun ws hl => text_eq h.key ws hl; have t2 := fun ws hl => text_eq h.val ws hl
  match k, hk1, hk2 with
  | 1, _, _ =>
    have ea : wts (argW o) = [wt (numW o.Client), wt (txtW o.Key), wt (txtW o.Value)] := by simp [argW, hk, wts]
    rw [ea]
    simp [words_step_k1, words_step_k2, words_step_k3, words_step_k4, n1, t1, t2, canon, hk]
  | 2, _, _ =>
    have ea : wts (argW o) = [wt (numW o.Client), wt (txtW o.Key)] := by simp [argW, hk, wts]
    rw [ea]
    simp [words_step_k1, words_step_k2, words_step_k5, words_step_k3, words_step_k4, n1, t1, canon, hk]
  | 3, _, _ =>
    have ea : wts (argW o) = [wt (numW o.Client), wt (txtW o.Key)] := by simp [argW, hk, wts]
    rw [ea]
    simp [words_step_k1, words_step_k2, words_step_k5, words_step_k3, words_step_k4, n1, t1, canon, hk]
  | 4, _, _ =>
    have ea : wts (argW o) = [wt (numW o.Client)] := by simp [argW, hk, wts]
    rw [ea]
    simp [words_step_k1, words_step_k2, words_step_k5, words_step_k3, words_step_k4, n1, canon, hk]
  | 5, _, _ =>
    have ea : wts (argW o) = [wt (numW o.Client), wt (numW o.Site)] := by simp [argW, hk, wts]
    rw [ea]
    simp [words_step_k1, words_step_k2, words_step_k5, words_step_k3, words_step_k4, n1, n2, canon, hk]
  | 6, _, _ =>
    have ea : wts (argW o) = wt (numW o.Client) :: wts (o.Keys.map txtW) := by simp [argW, hk, wts]
    have hb := begin_eq (r3 := ((6 : Nat) : Int)) (y5 := (o.Client, 0, wts (o.Keys.map txtW), false)) h.ks
    have hkl : ¬ (8 : Int) < (o.Keys.length : Int) := by have := h.ks.1; omega
    have hwl : (wts (o.Keys.map txtW)).length ≤ 1000000 := by have := h.ks.1; simp [wts]; omega
    rw [ea]
    rw [if_neg (by decide), if_neg (by decide), if_neg (by decide), if_neg (by decide), if_neg (by decide), if_pos (by decide)]
    unfold words_step_k1
    rw [if_pos (by decide), n1 _ hwl, Option.bind_some]
    dsimp only
    unfold words_step_k2
    rw [if_neg (by decide), if_neg (by decide)]
    unfold words_step_k5
    rw [if_neg (by decide), if_neg (by decide), if_pos (by decide)]
    dsimp only
    rw [hb]
    unfold words_step_k6
    rw [if_neg (by simp)]
    rw [decide_eq_false hkl]
    simp [words_step_k3, words_step_k4, canon, hk]
  | 7, _, _ =>
    have ea : wts (argW o) = [wt (numW o.Client)] := by simp [argW, hk, wts]
    rw [ea]
    simp [words_step_k1, words_step_k2, words_step_k5, words_step_k3, words_step_k4, n1, canon, hk]
  | 8, _, _ =>
    have ea : wts (argW o) = [wt (numW o.Site), wt (numW o.To), wt (numW o.At), wt (numW o.How)] := by simp [argW, hk, wts]
    rw [ea]
    simp [words_step_k1, words_step_k8, words_step_k2, words_step_k5, words_step_k3, words_step_k4, n2, n3, n4, n5, canon, hk]
  | 9, _, _ =>
    have ea : wts (argW o) = [wt (numW o.Site), wt (numW o.To)] := by simp [argW, hk, wts]
    rw [ea]
    simp [words_step_k1, words_step_k8, words_step_k2, words_step_k5, words_step_k3, words_step_k4, n2, n3, canon, hk]
  | 10, _, _ =>
    have ea : wts (argW o) = [wt (numW o.Site)] := by simp [argW, hk, wts]
    rw [ea]
    simp [words_step_k1, words_step_k8, words_step_k2, words_step_k5, words_step_k3, words_step_k4, n2, canon, hk]
  | 11, _, _ =>
    have ea : wts (argW o) = [] := by simp [argW, hk, wts]
    rw [ea]
    simp [words_step_k1, words_step_k8, words_step_k2, words_step_k5, words_step_k3, words_step_k4, canon, hk]
  | 12, _, _ =>
    have hr := row_read (h.row (by rw [hk]; rfl))
    have ea : wts (argW o) = wts (rowWds o.Row) := by simp [argW, hk]
    rw [ea]
    simp [words_step_k1, words_step_k8, words_step_k2, words_step_k5, words_step_k3, words_step_k4, hr, canon, hk]
end Go.Ark
