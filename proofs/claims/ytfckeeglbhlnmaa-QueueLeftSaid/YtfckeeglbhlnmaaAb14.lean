/- The abstract machine: joins and loops for walks that a program writes; the words in which functions are told (options, loops by rounds). Conditions: none but those that stand in each law. -/
import Derived.Test.YtfckeeglbhlnmaaAb13
namespace Go.Ab
open Go Go.RowKit

/-- as many rounds as there are -/
def loopF {T R : Type} (body : (T → Option R) → T → Option R) : Nat → T → Option R
  | 0, _ => none
  | n + 1, v => body (loopF body n) v

/-- more rounds than any walk takes -/
def FU : Nat := 2 ^ 70

def idx {α : Type} (xs : List α) (i : Int) : Option α := if 0 ≤ i then xs[i.toNat]? else none
def app {α : Type} (bytes : Nat) (xs ys : List α) : Option (List α) := if (xs ++ ys).length ≤ 1099511627776 ∧ (xs ++ ys).length * bytes ≤ 140737488355328 then some (xs ++ ys) else none
def sub {α : Type} (xs : List α) (lo hi : Int) : Option (List α) := if 0 ≤ lo ∧ lo ≤ hi ∧ hi ≤ xs.length then some ((xs.take hi.toNat).drop lo.toNat) else none
def ssub (s : ByteArray) (lo hi : Int) : Option ByteArray := if 0 ≤ lo ∧ lo ≤ hi ∧ hi ≤ s.size then some (s.extract lo.toNat hi.toNat) else none
def sidx (s : ByteArray) (i : Int) : Option UInt8 := if 0 ≤ i then s[i.toNat]? else none
def scat (s t : ByteArray) : Option ByteArray := if s.size + t.size ≤ 9223372036854775807 then some (s ++ t) else none
def chk {R : Type} (b : Bool) (x : Option R) : Option R := if b = true then x else none

theorem bindS {α β : Type} {x : Option α} {f : α → Option β} {r : β} (h : x.bind f = some r) : ∃ v, x = some v ∧ f v = some r := Option.bind_eq_some_iff.1 h
theorem ifS {α : Type} {b : Bool} {X Y : Option α} {r : α} {p : Prop} (hF : (if b = true then X else Y) = some r) (h1 : b = true → X = some r → p) (h2 : b = false → Y = some r → p) : p := by
  cases b
  · exact h2 rfl (by simpa using hF)
  · exact h1 rfl (by simpa using hF)
theorem chkS {α : Type} {b : Bool} {X : Option α} {r : α} (hF : chk b X = some r) : b = true ∧ X = some r := by
  unfold chk at hF
  cases b
  · simp at hF
  · exact ⟨rfl, by simpa using hF⟩

theorem idx_ok {α : Type} {xs : List α} {i : Int} {x : α} (h : idx xs i = some x) : 0 ≤ i ∧ xs[i.toNat]? = some x := by
  unfold idx at h
  split at h
  · exact ⟨by assumption, h⟩
  · cases h
theorem idx_get {α β : Type} {xs : List α} {i : Int} {x : α} (h : idx xs i = some x) (f : α → β) : (xs.map f)[i.toNat]? = some (f x) := by rw [List.getElem?_map, (idx_ok h).2]; rfl
theorem app_eq {α : Type} {n : Nat} {xs ys zs : List α} (h : app n xs ys = some zs) : zs = xs ++ ys ∧ zs.length ≤ 1099511627776 ∧ zs.length * n ≤ 140737488355328 := by
  unfold app at h
  split at h
  · rename_i c; cases h; exact ⟨rfl, c⟩
  · cases h
theorem app_map {α β : Type} {n : Nat} {xs ys zs : List α} (h : app n xs ys = some zs) (f : α → β) : xs.map f ++ ys.map f = zs.map f := by rw [(app_eq h).1, List.map_append]
theorem app_b1 {α β : Type} {n : Nat} {xs ys zs : List α} (h : app n xs ys = some zs) (f : α → β) : (zs.map f).length ≤ 1099511627776 := by rw [List.length_map]; exact (app_eq h).2.1
theorem app_b2 {α β : Type} {n : Nat} {xs ys zs : List α} (h : app n xs ys = some zs) (f : α → β) : (zs.map f).length * n ≤ 140737488355328 := by rw [List.length_map]; exact (app_eq h).2.2
theorem sub_ok {α β : Type} {xs zs : List α} {lo hi : Int} (h : sub xs lo hi = some zs) (f : α → β) : 0 ≤ lo ∧ lo ≤ hi ∧ hi ≤ (xs.map f).length ∧ ((xs.map f).take hi.toNat).drop lo.toNat = zs.map f := by
  unfold sub at h
  split at h
  · rename_i c
    cases h
    exact ⟨c.1, c.2.1, by rw [List.length_map]; exact c.2.2, by rw [List.map_drop, List.map_take]⟩
  · cases h
theorem sub_ok0 {α β : Type} {xs zs : List α} {hi : Int} (h : sub xs 0 hi = some zs) (f : α → β) : 0 ≤ hi ∧ hi ≤ (xs.map f).length ∧ (xs.map f).take hi.toNat = zs.map f := by
  obtain ⟨_, h2, h3, h4⟩ := sub_ok h f
  exact ⟨h2, h3, by simpa using h4⟩
theorem sub_okE {α β : Type} {xs zs : List α} {lo : Int} (h : sub xs lo xs.length = some zs) (f : α → β) : 0 ≤ lo ∧ lo ≤ (xs.map f).length ∧ ((xs.map f).take ((xs.map f).length : Int).toNat).drop lo.toNat = zs.map f := by
  obtain ⟨h1, h2, h3, h4⟩ := sub_ok h f
  refine ⟨h1, by rw [List.length_map]; exact h2, ?_⟩
  rw [List.length_map]; exact h4
theorem ssub_ok {s t : ByteArray} {lo hi : Int} (h : ssub s lo hi = some t) : 0 ≤ lo ∧ lo ≤ hi ∧ hi ≤ s.size ∧ s.extract lo.toNat hi.toNat = t := by
  unfold ssub at h
  split at h
  · rename_i c
    cases h
    exact ⟨c.1, c.2.1, c.2.2, rfl⟩
  · cases h
theorem sidx_ok {s : ByteArray} {i : Int} {b : UInt8} (h : sidx s i = some b) : 0 ≤ i ∧ s[i.toNat]? = some b := by
  unfold sidx at h
  split at h
  · exact ⟨by assumption, h⟩
  · cases h
theorem scat_ok {s t u : ByteArray} (h : scat s t = some u) : s.size + t.size ≤ 9223372036854775807 ∧ s ++ t = u := by
  unfold scat at h
  split at h
  · cases h; exact ⟨by assumption, rfl⟩
  · cases h

section
variable {P : Program} {nt : Nat} {C : Cx P nt} {Q0 : Exit → Act → World → Prop} {k : List KI} {it : KI}

/-- the ways through 'it' meet again behind it -/
theorem G.joinC {T : Type} {st : St} (S : T → St) (hyp : T → Prop) (h1 : ∀ x, hyp x → G C Q0 k (S x)) (h2 : (∀ x, hyp x → G C Q0 k (S x)) → G C Q0 (it :: k) st) : G C Q0 (it :: k) st := h2 h1

theorem G.loopF {T R : Type} {st : St} {x : Code} {body : (T → Option R) → T → Option R} {n : Nat} {v : T} {r : R} (S : T → St) (hF : loopF body n v = some r) (hst : S v = st)
    (round : ∀ (K : Act → World → Prop) (again : T → Option R) (v : T), (∀ v', again v' = some r → G C Q0 (.q K :: k) (S v')) → body again v = some r → G C Q0 (.c x :: .q K :: k) (S v)) : G C Q0 (.c (.loop x) :: k) st := by
  subst hst
  refine G.loop (fun n st => ∃ v, st = S v ∧ Go.Ab.loopF body n v = some r) n ⟨v, rfl, hF⟩ ?_
  rintro n st ⟨v, rfl, hF⟩
  cases n with
  | zero => cases hF
  | succ n => exact round _ (Go.Ab.loopF body n) v (fun v' h => G.again (Nat.lt_succ_self n) ⟨v', rfl, h⟩) hF

/-- a truth value that is known -/
theorem G.known {sl : SL} {hp : HL} {t : Nat} {b c : Bool} (hb : b = c) (hs : sget sl t = some (.one (bB b))) (h : G C Q0 k ⟨(t, .one (bB c)) :: sl, hp⟩) : G C Q0 k ⟨sl, hp⟩ :=
  ⟨fun a w ⟨β, r⟩ => h.go a w ⟨β, r.slot (sv := .one (bB c)) (hb ▸ r.sl t _ hs)⟩⟩

theorem OpL.cast {o : Oper} {dst : Nat} {Rs : List (Nat × SV)} {Rh : List (Nat × Option HE)} {c c' : BV} (h : OpL C o Rs Rh [(dst, .one c)] []) (e : c = c') : OpL C o Rs Rh [(dst, .one c')] [] := e ▸ h

theorem G.op1 {ops : Array Oper} {rest : List Oper} {o : Oper} {sl : SL} {hp : HL} {dst : Nat} {sv : SV} {Rs : List (Nat × SV)} {Rh : List (Nat × Option HE)}
    (h : OpL C o Rs Rh [(dst, sv)] []) (hg : o.guard = none) (hs : HasS sl Rs) (hh : HasH hp Rh) (hk : G C Q0 (.l ops rest :: k) ⟨(dst, sv) :: sl, hp⟩) : G C Q0 (.l ops (o :: rest) :: k) ⟨sl, hp⟩ := G.op h hg hs hh rfl rfl hk
theorem G.op2 {ops : Array Oper} {rest : List Oper} {o : Oper} {sl : SL} {hp : HL} {dst kk : Nat} {sv : SV} {e : Option HE} {Rs : List (Nat × SV)} {Rh : List (Nat × Option HE)}
    (h : OpL C o Rs Rh [(dst, sv)] [(kk, e)]) (hg : o.guard = none) (hs : HasS sl Rs) (hh : HasH hp Rh) (hk : G C Q0 (.l ops rest :: k) ⟨(dst, sv) :: sl, (kk, e) :: hp⟩) : G C Q0 (.l ops (o :: rest) :: k) ⟨sl, hp⟩ := G.op h hg hs hh rfl rfl hk
theorem G.op3 {ops : Array Oper} {rest : List Oper} {o : Oper} {sl : SL} {hp : HL} {kk : Nat} {e : Option HE} {Rs : List (Nat × SV)} {Rh : List (Nat × Option HE)}
    (h : OpL C o Rs Rh [] [(kk, e)]) (hg : o.guard = none) (hs : HasS sl Rs) (hh : HasH hp Rh) (hk : G C Q0 (.l ops rest :: k) ⟨sl, (kk, e) :: hp⟩) : G C Q0 (.l ops (o :: rest) :: k) ⟨sl, hp⟩ := G.op h hg hs hh rfl rfl hk
theorem G.opG1 {ops : Array Oper} {rest : List Oper} {o : Oper} {sl : SL} {hp : HL} {dst : Nat} {sv : SV} {Rs : List (Nat × SV)} {Rh : List (Nat × Option HE)} {j t : Nat} {b : Bool}
    (h : OpL C o Rs Rh [(dst, sv)] []) (hg : o.guard = some (j, b)) (hj : (ops[j]?).bind (·.dst) = some t) (ht : sget sl t = some (.one (bB b))) (hs : HasS sl Rs) (hh : HasH hp Rh) (hk : G C Q0 (.l ops rest :: k) ⟨(dst, sv) :: sl, hp⟩) : G C Q0 (.l ops (o :: rest) :: k) ⟨sl, hp⟩ := G.opG h hg hj ht hs hh rfl rfl hk
theorem G.opN1 {ops : Array Oper} {rest : List Oper} {o : Oper} {sl : SL} {hp : HL} {dst j t : Nat} {b c : Bool}
    (hd : o.dst = some dst) (hg : o.guard = some (j, c)) (hbc : (b == c) = false) (hj : (ops[j]?).bind (·.dst) = some t) (ht : sget sl t = some (.one (bB b)))
    (hk : G C Q0 (.l ops rest :: k) ⟨(dst, .one (.x Go.undef)) :: sl, hp⟩) : G C Q0 (.l ops (o :: rest) :: k) ⟨sl, hp⟩ := G.opN hd hg hbc hj ht rfl hk
end

/-- functions handed in: as data -/
def sem1 {X Y : Type} (enc : X → AG) (val : Y → Value) (p : X → Option Y) : List AG → Value → Prop := fun args v => ∃ x y, args = [enc x] ∧ p x = some y ∧ v = val y
def sem2 {X X' Y : Type} (enc : X → AG) (enc' : X' → AG) (val : Y → Value) (p : X → X' → Option Y) : List AG → Value → Prop := fun args v => ∃ x x' y, args = [enc x, enc' x'] ∧ p x x' = some y ∧ v = val y

end Go.Ab
