/- The abstract machine, its operations that make a value and leave memory alone: one law each. Conditions: none but those that stand in each law. -/
import Derived.Test.YtfckeeglbhlnmaaAb1
namespace Go.Ab
open Go Go.RowKit

def HasS (sl : SL) : List (Nat × SV) → Prop
  | [] => True
  | (t, s) :: r => sget sl t = some s ∧ HasS sl r

def HasH (hp : HL) : List (Nat × Option HE) → Prop
  | [] => True
  | (t, s) :: r => hget hp t = s ∧ HasH hp r

theorem HasS.app {sl : SL} {l r : List (Nat × SV)} (h : HasS sl (l ++ r)) : HasS sl l ∧ HasS sl r := by
  induction l with
  | nil => exact ⟨trivial, h⟩
  | cons x l ih =>
    obtain ⟨t, s⟩ := x
    obtain ⟨h1, h2⟩ := h
    obtain ⟨h3, h4⟩ := ih h2
    exact ⟨⟨h1, h3⟩, h4⟩

/-- an operand's content, and what must be known of the slots -/
inductive Ev : Operand → BV → List (Nat × SV) → Prop
  | t (t : Nat) (c : BV) : Ev (.tmp t) c [(t, .one c)]
  | c (v : Value) (h : v.oneCell' = true) : Ev (.const v) (.g (.d (.v v))) []
  | n (size : Nat) : Ev (.const (.slice none 0 0)) (.g (.d (.sl size []))) []
  | x (v : Value) : Ev (.const v) (.x v) []
  | f (f : Nat) : Ev (.func f) (.clo f []) []

theorem RD.nil {M : Nat → Nat → Prop} {w : World} (a : Option Addr) (cap size : Nat) (h : cap ≤ maxLen) : RD M w (.slice a 0 cap) (.sl size []) :=
  RD.sl a cap size [] (fun _ _ => undef) 0 0 (Nat.zero_le _) h (fun c => absurd rfl c) (fun _ h => by cases h) (fun i cs j d h => by simp at h) (fun i cs j d h => by simp at h)

theorem Ev.ok {P : Program} {nt : Nat} {C : Cx P nt} {sl : SL} {hp : HL} {β : Nat → Option Nat} {a : Act} {w : World} {x : Operand} {c : BV} {R : List (Nat × SV)}
    (hx : Ev x c R) (hs : HasS sl R) (r : RelB C ⟨sl, hp⟩ β a w) : BR C hp β w c (a.eval x) := by
  cases hx with
  | t t => exact r.sl t _ hs.1
  | c v h => exact RD.v v h
  | n size => exact RD.nil none 0 size (Nat.zero_le _)
  | x v => rfl
  | f f => exact ⟨[], rfl, rfl, fun i k h => by simp at h⟩

theorem Ev.tup {P : Program} {nt : Nat} {C : Cx P nt} {sl : SL} {hp : HL} {β : Nat → Option Nat} {a : Act} {w : World} {t : Nat} {c : SV}
    (hs : sget sl t = some c) (r : RelB C ⟨sl, hp⟩ β a w) : SR C hp β w c (a.eval (.tmp t)) := r.sl t _ hs

def Step {P : Program} {nt : Nat} (C : Cx P nt) (o : Oper) (st st' : St) : Prop :=
  ∀ a w K Q, Rel C st a w → (∀ a w, Rel C st' a w → K a w) → o.wp P a w K Q

structure OpL {P : Program} {nt : Nat} (C : Cx P nt) (o : Oper) (Rs : List (Nat × SV)) (Rh : List (Nat × Option HE)) (Ws : List (Nat × SV)) (Wh : List (Nat × Option HE)) : Prop where
  go : ∀ sl hp, HasS sl Rs → HasH hp Rh → Step C o ⟨sl, hp⟩ ⟨Ws ++ sl, Wh ++ hp⟩

theorem opl_pure {P : Program} {nt : Nat} {C : Cx P nt} {o : Oper} {dst : Nat} {Rs : List (Nat × SV)} {Rh : List (Nat × Option HE)} {sv : SV} (hd : Nat.blt dst nt = true) (hdst : o.dst = some dst)
    (h : ∀ sl hp β a w, HasS sl Rs → HasH hp Rh → RelB C ⟨sl, hp⟩ β a w → ∃ v, (execOp a.eval o).run P w = .ok (.value v) w ∧ SR C hp β w sv v) :
    OpL C o Rs Rh [(dst, sv)] [] := by
  refine ⟨fun sl hp hs hh a w K Q ⟨β, r⟩ hK => ?_⟩
  obtain ⟨v, hv, hr⟩ := h sl hp β a w hs hh r
  unfold Oper.wp
  rw [hv]
  refine hK _ _ ⟨β, ?_⟩
  rw [hdst]
  exact r.put (Below.refl _ _) (by simpa using hd) hr

abbrev Oo (dst : Nat) (op : Op) (ty : TypeId) (pos : String) (af : Array Edge) (gd : Option (Nat × Bool)) : Oper := ⟨some dst, op, ty, pos, af, gd⟩

abbrev dv (v : Value) : BV := .g (.d (.v v))
abbrev bI (k : IntKind) (n : Int) : BV := .g (.d (.v (.int k n)))
abbrev bB (b : Bool) : BV := .g (.d (.v (.bool b)))
abbrev bS (s : ByteArray) : BV := .g (.d (.v (.string s)))

section
variable {P : Program} {nt : Nat} {C : Cx P nt} {dst : Nat} {ty : TypeId} {pos : String} {af : Array Edge} {gd : Option (Nat × Bool)} {x y z : Operand} {R R1 R2 R3 : List (Nat × SV)}

theorem op_move {c : BV} (hx : Ev x c R) (hd : Nat.blt dst nt = true) : OpL C (Oo dst (.move x) ty pos af gd) R [] [(dst, .one c)] [] :=
  opl_pure hd rfl fun sl hp β a w hs _ r => ⟨a.eval x, by simp [execOp], hx.ok hs r⟩

theorem op_assign {c : BV} (hx : Ev x c R) (hd : Nat.blt dst nt = true) : OpL C (Oo dst (.assign x) ty pos af gd) R [] [(dst, .one c)] [] :=
  opl_pure hd rfl fun sl hp β a w hs _ r => ⟨a.eval x, by simp [execOp], hx.ok hs r⟩

theorem BR.v_inv {hp : HL} {β : Nat → Option Nat} {w : World} {u v : Value} (h : BR C hp β w (dv v) u) : u = v := RD.v_inv h

theorem run_eqGuard_plain {P : Program} {op : BinOp} {t : TypeId} {x y : Operand} {u v : Value} {w : World} (hu : u.oneCell' = true) (hn : u ≠ .nilIface) : (eqGuard op t x y u v).run P w = .ok () w := by
  unfold eqGuard
  cases op <;> cases u <;> simp_all [Value.oneCell']

/-- a binary operator on two single cells -/
theorem op_bin {op : BinOp} {T T' : TypeId} {u v r : Value} (hx : Ev x (dv u) R1) (hy : Ev y (dv v) R2) (hd : Nat.blt dst nt = true) (hr : r.oneCell' = true) (hn : u ≠ .nilIface)
    (h : ∀ w, (binOp op T u v).run P w = .ok r w) : OpL C (Oo dst (.binOp op T x y T') ty pos af gd) (R1 ++ R2) [] [(dst, .one (dv r))] [] :=
  opl_pure hd rfl fun sl hp β a w hs _ rr => by
    have h1 := hx.ok hs.app.1 rr
    have e1 := BR.v_inv h1
    have e2 := BR.v_inv (hy.ok hs.app.2 rr)
    have hg := run_eqGuard_plain (P := P) (op := op) (t := T) (x := x) (y := y) (v := v) (w := w) (e1 ▸ RD.one h1) hn
    refine ⟨r, ?_, RD.v r hr⟩
    have := h w
    simp only [execOp, e1, e2, Sem.run_bind, hg, Result.andThen, this, Sem.run_pure]

theorem run_equal_bool {P : Program} {T : TypeId} {a b : Bool} {w : World} (hT : P.underlying T = some .bool) : (Op.equal T (.bool a) (.bool b)).run P w = .ok (a == b) w := by
  have : Op.equal T (.bool a) (.bool b) = Op.equalIn (9999 + 1) T (.bool a) (.bool b) := rfl
  rw [this, Op.equalIn]
  simp [Sem.run_bind, run_underlying hT]

section ints
variable {T T' : TypeId} {k : IntKind} {m n : Int}
theorem op_add (hx : Ev x (bI k m) R1) (hy : Ev y (bI k n) R2) (hd : Nat.blt dst nt = true) : OpL C (Oo dst (.binOp .add T x y T') ty pos af gd) (R1 ++ R2) [] [(dst, .one (bI k (k.wrap (m + n))))] [] :=
  op_bin hx hy hd rfl (fun h => nomatch h) fun w => by simp [binOp, Op.intArith]
theorem op_sub (hx : Ev x (bI k m) R1) (hy : Ev y (bI k n) R2) (hd : Nat.blt dst nt = true) : OpL C (Oo dst (.binOp .sub T x y T') ty pos af gd) (R1 ++ R2) [] [(dst, .one (bI k (k.wrap (m - n))))] [] :=
  op_bin hx hy hd rfl (fun h => nomatch h) fun w => by simp [binOp, Op.intArith]
theorem op_mul (hx : Ev x (bI k m) R1) (hy : Ev y (bI k n) R2) (hd : Nat.blt dst nt = true) : OpL C (Oo dst (.binOp .mul T x y T') ty pos af gd) (R1 ++ R2) [] [(dst, .one (bI k (k.wrap (m * n))))] [] :=
  op_bin hx hy hd rfl (fun h => nomatch h) fun w => by simp [binOp, Op.intArith]
theorem op_quo (hn : n ≠ 0) (hx : Ev x (bI k m) R1) (hy : Ev y (bI k n) R2) (hd : Nat.blt dst nt = true) : OpL C (Oo dst (.binOp .quo T x y T') ty pos af gd) (R1 ++ R2) [] [(dst, .one (bI k (k.wrap (m.tdiv n))))] [] :=
  op_bin hx hy hd rfl (fun h => nomatch h) fun w => by simp [binOp, Op.intDiv, hn]
theorem op_rem (hn : n ≠ 0) (hx : Ev x (bI k m) R1) (hy : Ev y (bI k n) R2) (hd : Nat.blt dst nt = true) : OpL C (Oo dst (.binOp .rem T x y T') ty pos af gd) (R1 ++ R2) [] [(dst, .one (bI k (m.tmod n)))] [] :=
  op_bin hx hy hd rfl (fun h => nomatch h) fun w => by simp [binOp, Op.intDiv, hn]
theorem op_and (hx : Ev x (bI k m) R1) (hy : Ev y (bI k n) R2) (hd : Nat.blt dst nt = true) : OpL C (Oo dst (.binOp .and T x y T') ty pos af gd) (R1 ++ R2) [] [(dst, .one (bI k (k.wrap (BitVec.ofInt k.bits m &&& BitVec.ofInt k.bits n).toNat)))] [] :=
  op_bin hx hy hd rfl (fun h => nomatch h) fun w => by simp [binOp, Op.intBits]
theorem op_or (hx : Ev x (bI k m) R1) (hy : Ev y (bI k n) R2) (hd : Nat.blt dst nt = true) : OpL C (Oo dst (.binOp .or T x y T') ty pos af gd) (R1 ++ R2) [] [(dst, .one (bI k (k.wrap (BitVec.ofInt k.bits m ||| BitVec.ofInt k.bits n).toNat)))] [] :=
  op_bin hx hy hd rfl (fun h => nomatch h) fun w => by simp [binOp, Op.intBits]
theorem op_shl {k' : IntKind} (hn : 0 ≤ n) (hx : Ev x (bI k m) R1) (hy : Ev y (bI k' n) R2) (hd : Nat.blt dst nt = true) : OpL C (Oo dst (.binOp .shl T x y T') ty pos af gd) (R1 ++ R2) [] [(dst, .one (bI k (k.wrap (m * 2 ^ min n.toNat k.bits))))] [] :=
  op_bin hx hy hd rfl (fun h => nomatch h) fun w => by simp [binOp, Op.shift, show ¬ n < 0 by omega]
theorem op_shr {k' : IntKind} (hn : 0 ≤ n) (hx : Ev x (bI k m) R1) (hy : Ev y (bI k' n) R2) (hd : Nat.blt dst nt = true) : OpL C (Oo dst (.binOp .shr T x y T') ty pos af gd) (R1 ++ R2) [] [(dst, .one (bI k (m.fdiv (2 ^ min n.toNat k.bits))))] [] :=
  op_bin hx hy hd rfl (fun h => nomatch h) fun w => by simp [binOp, Op.shift, show ¬ n < 0 by omega]
theorem op_lss (hx : Ev x (bI k m) R1) (hy : Ev y (bI k n) R2) (hd : Nat.blt dst nt = true) : OpL C (Oo dst (.binOp .lss T x y T') ty pos af gd) (R1 ++ R2) [] [(dst, .one (bB (decide (m < n))))] [] :=
  op_bin hx hy hd rfl (fun h => nomatch h) fun w => by simp [binOp, Op.intCmp]
theorem op_leq (hx : Ev x (bI k m) R1) (hy : Ev y (bI k n) R2) (hd : Nat.blt dst nt = true) : OpL C (Oo dst (.binOp .leq T x y T') ty pos af gd) (R1 ++ R2) [] [(dst, .one (bB (decide (m ≤ n))))] [] :=
  op_bin hx hy hd rfl (fun h => nomatch h) fun w => by simp [binOp, Op.intCmp]
theorem op_gtr (hx : Ev x (bI k m) R1) (hy : Ev y (bI k n) R2) (hd : Nat.blt dst nt = true) : OpL C (Oo dst (.binOp .gtr T x y T') ty pos af gd) (R1 ++ R2) [] [(dst, .one (bB (decide (n < m))))] [] :=
  op_bin hx hy hd rfl (fun h => nomatch h) fun w => by simp [binOp, Op.intCmp]
theorem op_geq (hx : Ev x (bI k m) R1) (hy : Ev y (bI k n) R2) (hd : Nat.blt dst nt = true) : OpL C (Oo dst (.binOp .geq T x y T') ty pos af gd) (R1 ++ R2) [] [(dst, .one (bB (decide (n ≤ m))))] [] :=
  op_bin hx hy hd rfl (fun h => nomatch h) fun w => by simp [binOp, Op.intCmp]
theorem op_eqI (hx : Ev x (bI k m) R1) (hy : Ev y (bI k n) R2) (hd : Nat.blt dst nt = true) : OpL C (Oo dst (.binOp .eql T x y T') ty pos af gd) (R1 ++ R2) [] [(dst, .one (bB (decide (m = n))))] [] :=
  op_bin hx hy hd rfl (fun h => nomatch h) fun w => by simp [binOp, Op.intCmp]; try rfl
theorem op_neI (hx : Ev x (bI k m) R1) (hy : Ev y (bI k n) R2) (hd : Nat.blt dst nt = true) : OpL C (Oo dst (.binOp .neq T x y T') ty pos af gd) (R1 ++ R2) [] [(dst, .one (bB (!decide (m = n))))] [] :=
  op_bin hx hy hd rfl (fun h => nomatch h) fun w => by simp [binOp, Op.intCmp]; try rfl
end ints

/-- two texts are the same; one is less -/
def seq (s t : ByteArray) : Bool := s.toList == t.toList
def slt (s t : ByteArray) : Bool := Op.bytesLess s.toList t.toList

section strings
variable {T T' : TypeId} {s t : ByteArray}
theorem op_eqS (hx : Ev x (bS s) R1) (hy : Ev y (bS t) R2) (hd : Nat.blt dst nt = true) : OpL C (Oo dst (.binOp .eql T x y T') ty pos af gd) (R1 ++ R2) [] [(dst, .one (bB (seq s t)))] [] :=
  op_bin hx hy hd rfl (fun h => nomatch h) fun w => by simp [binOp, Op.stringOp, seq]
theorem op_neS (hx : Ev x (bS s) R1) (hy : Ev y (bS t) R2) (hd : Nat.blt dst nt = true) : OpL C (Oo dst (.binOp .neq T x y T') ty pos af gd) (R1 ++ R2) [] [(dst, .one (bB (!seq s t)))] [] :=
  op_bin hx hy hd rfl (fun h => nomatch h) fun w => by simp [binOp, Op.stringOp, seq]
theorem op_ltS (hx : Ev x (bS s) R1) (hy : Ev y (bS t) R2) (hd : Nat.blt dst nt = true) : OpL C (Oo dst (.binOp .lss T x y T') ty pos af gd) (R1 ++ R2) [] [(dst, .one (bB (slt s t)))] [] :=
  op_bin hx hy hd rfl (fun h => nomatch h) fun w => by simp [binOp, Op.stringOp, slt]
theorem op_leS (hx : Ev x (bS s) R1) (hy : Ev y (bS t) R2) (hd : Nat.blt dst nt = true) : OpL C (Oo dst (.binOp .leq T x y T') ty pos af gd) (R1 ++ R2) [] [(dst, .one (bB (slt s t || seq s t)))] [] :=
  op_bin hx hy hd rfl (fun h => nomatch h) fun w => by simp [binOp, Op.stringOp, slt, seq]
theorem op_gtS (hx : Ev x (bS s) R1) (hy : Ev y (bS t) R2) (hd : Nat.blt dst nt = true) : OpL C (Oo dst (.binOp .gtr T x y T') ty pos af gd) (R1 ++ R2) [] [(dst, .one (bB (!(slt s t || seq s t))))] [] :=
  op_bin hx hy hd rfl (fun h => nomatch h) fun w => by simp [binOp, Op.stringOp, slt, seq]
theorem op_geS (hx : Ev x (bS s) R1) (hy : Ev y (bS t) R2) (hd : Nat.blt dst nt = true) : OpL C (Oo dst (.binOp .geq T x y T') ty pos af gd) (R1 ++ R2) [] [(dst, .one (bB (!slt s t)))] [] :=
  op_bin hx hy hd rfl (fun h => nomatch h) fun w => by simp [binOp, Op.stringOp, slt]
theorem op_cat (h : s.size + t.size ≤ 9223372036854775807) (hx : Ev x (bS s) R1) (hy : Ev y (bS t) R2) (hd : Nat.blt dst nt = true) : OpL C (Oo dst (.binOp .add T x y T') ty pos af gd) (R1 ++ R2) [] [(dst, .one (bS (s ++ t)))] [] :=
  op_bin hx hy hd rfl (fun h => nomatch h) fun w => by
    have : ¬ ((9223372036854775807 : Int) < (s.size : Int) + (t.size : Int)) := by omega
    simp [binOp, Op.stringOp, this]
end strings

section bools
variable {T T' : TypeId} {b c : Bool}
theorem op_eqB (hT : P.underlying T = some .bool) (hx : Ev x (bB b) R1) (hy : Ev y (bB c) R2) (hd : Nat.blt dst nt = true) : OpL C (Oo dst (.binOp .eql T x y T') ty pos af gd) (R1 ++ R2) [] [(dst, .one (bB (b == c)))] [] :=
  op_bin hx hy hd rfl (fun h => nomatch h) fun w => by simp only [binOp, Sem.run_bind, run_equal_bool hT, Result.andThen, Sem.run_pure]
theorem op_neB (hT : P.underlying T = some .bool) (hx : Ev x (bB b) R1) (hy : Ev y (bB c) R2) (hd : Nat.blt dst nt = true) : OpL C (Oo dst (.binOp .neq T x y T') ty pos af gd) (R1 ++ R2) [] [(dst, .one (bB (!(b == c))))] [] :=
  op_bin hx hy hd rfl (fun h => nomatch h) fun w => by simp only [binOp, Sem.run_bind, run_equal_bool hT, Result.andThen, Sem.run_pure]
theorem op_not (hx : Ev x (bB b) R) (hd : Nat.blt dst nt = true) : OpL C (Oo dst (.unOp .not T x) ty pos af gd) R [] [(dst, .one (bB (!b)))] [] :=
  opl_pure hd rfl fun sl hp β a w hs _ r => ⟨.bool !b, by simp [execOp, BR.v_inv (hx.ok hs r), Op.unary], RD.v _ rfl⟩
theorem op_neg {k : IntKind} {m : Int} (hx : Ev x (bI k m) R) (hd : Nat.blt dst nt = true) : OpL C (Oo dst (.unOp .neg T x) ty pos af gd) R [] [(dst, .one (bI k (k.wrap (0 - m))))] [] :=
  opl_pure hd rfl fun sl hp β a w hs _ r => ⟨.int k (k.wrap (0 - m)), by simp [execOp, BR.v_inv (hx.ok hs r), Op.unary  , Op.intArith], RD.v _ rfl⟩
theorem op_pickT {c : BV} (hx : Ev x (bB true) R1) (hy : Ev y c R2) (hd : Nat.blt dst nt = true) : OpL C (Oo dst (.pick x y z) ty pos af gd) (R1 ++ R2) [] [(dst, .one c)] [] :=
  opl_pure hd rfl fun sl hp β a w hs _ r => ⟨a.eval y, by simp [execOp, BR.v_inv (hx.ok hs.app.1 r), asBool], hy.ok hs.app.2 r⟩
theorem op_pickF {c : BV} (hx : Ev x (bB false) R1) (hz : Ev z c R2) (hd : Nat.blt dst nt = true) : OpL C (Oo dst (.pick x y z) ty pos af gd) (R1 ++ R2) [] [(dst, .one c)] [] :=
  opl_pure hd rfl fun sl hp β a w hs _ r => ⟨a.eval z, by simp [execOp, BR.v_inv (hx.ok hs.app.1 r), asBool], hz.ok hs.app.2 r⟩
theorem op_convI {S : TypeId} {k k' : IntKind} {m : Int} (hS : P.underlying S = some (.int k')) (hT : P.underlying T = some (.int k)) (hx : Ev x (bI k' m) R) (hd : Nat.blt dst nt = true) :
    OpL C (Oo dst (.convert S T x) ty pos af gd) R [] [(dst, .one (bI k (k.wrap m)))] [] :=
  opl_pure hd rfl fun sl hp β a w hs _ r => ⟨.int k (k.wrap m), by simp [execOp, BR.v_inv (hx.ok hs r), convert, run_underlying hS, run_underlying hT  , Conv.intToInt], RD.v _ rfl⟩
theorem op_convS {S : TypeId} {s : ByteArray} (hS : P.underlying S = some .string) (hT : P.underlying T = some .string) (hx : Ev x (bS s) R) (hd : Nat.blt dst nt = true) :
    OpL C (Oo dst (.convert S T x) ty pos af gd) R [] [(dst, .one (bS s))] [] :=
  opl_pure hd rfl fun sl hp β a w hs _ r => ⟨.string s, by simp [execOp, BR.v_inv (hx.ok hs r), convert, run_underlying hS, run_underlying hT], RD.v _ rfl⟩
end bools

end
end Go.Ab
