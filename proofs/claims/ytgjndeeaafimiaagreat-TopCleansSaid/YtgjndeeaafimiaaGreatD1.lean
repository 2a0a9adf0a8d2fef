/- Machine, typed functions, plain laws and walks, part 1, for TopCleans. Conditions: none but those that stand in each law. -/
import Derived.Carry
import Derived.ChangeArms
import Derived.ChangeSame
import Derived.Handed
import Derived.JoinedCond
import Derived.Laws.Externs
import Derived.Laws.IdiomCopy
import Derived.Laws.MakeOwn
import Derived.Laws.StructEq
import Derived.Lib.AppendStr
import Derived.Lib.Builder
import Derived.Lib.ConvBytes
import Derived.Lib.MakeNoZero
import Derived.Lib.RowBridge
import Derived.Lib.SlicesCompact
import Derived.Lib.UnsafeStr
import Derived.MapKept
import Derived.OpenShut
import Derived.Orders
import Derived.ProofKit
import Derived.Scope
import Derived.Shelf.Spec.SlicesInsertGrow
import Derived.Shelf.Unicode.DecodeSlow
import Derived.Sort.OwnSorted
import Derived.WalkKit
set_option linter.all false
namespace Go
theorem U.{u} {α : Sort u} {a : α} : a=a:=rfl
theorem ayS : True:=trivial
def avi:=@Option.bind_some
def avj:=@if_neg
def avk:=@if_pos
def avl:=@List.getElem?_eq_some_iff
def avm:=@Go.run_underlying
def avo:=@Array.getElem?_eq_some_iff
def avn:=@Bool.false_eq_true
def avq:=@Nat.le_refl
def avp:=@Int.toNat_natCast
def avr:=@Nat.mul_le_mul_right
def avt:=@Go.Result.andThen_ok
def avs:=@List.getElem?_eq_getElem
def avw:=@Go.Sem.run_bind
def avv:=@List.length_cons
def avu:=@List.getElem_mem
def avx:=@Array.getD_eq_getD_getElem?
def avz:=@List.length_append
def avy:=@List.getElem?_append_left
def avA:=@Bool.and_eq_true
def avF:=@Go.Sem.run_pure
def avC:=@List.length_take
def avD:=@Nat.le_succ
def avE:=@Nat.lt_of_lt_of_le
def avG:=@List.getElem?_append_right
def avH:=@List.mem_of_getElem?
def avI:=@List.all_eq_true
def avL:=@List.getElem?_map
def avN:=@List.length_map
def avO:=@List.getElem_of_mem
def avB:=@if_false
def avJ:=@Bool.not_true
def avM:=@if_true
def avQ:=@Option.bind_eq_some_iff
def avP:=@decide_eq_true
def avR:=@List.getElem?_take_of_lt
def avK:=@Int.le_refl
def avS:=@Nat.zero_add
def avU:=@Go.RowKit.Below.refl
def avT:=@List.mem_map
def avW:=@List.size_toArray
def avV:=@List.map_cons
def avX:=@List.nil_append
def av6:=@List.append_assoc
def avZ:=@List.length_drop
def av1:=@List.mem_append
def av2:=@Array.getElem?_eq_getElem
def av3:=@Nat.eq_of_beq_eq_true
def av0:=@List.mem_cons
def av4:=@List.cons_append
def avY:=@decide_eq_false
def av5:=@Nat.zero_le
def av7:=@Option.getD_some
def awa:=@Nat.le_trans
def awb:=@Array.getElem?_toList
def awf:=@of_decide_eq_true
def awc:=@List.mem_filter
def av9:=@List.length_nil
def awd:=@Option.map_eq_some_iff
def awg:=@List.mem_range
def awh:=@Go.World.cell?_of_block
def awi:=@List.getD_eq_getElem?_getD
def awe:=@decide_eq_true_eq
def awn:=@Nat.add_mul
def awj:=@Array.length_toList
def awl:=@List.append_toArray
def awm:=@List.getElem?_drop
def awp:=@congrArg
def awq:=@Option.map_some
def awr:=@Go.Addr.add_lit
def aws:=@Array.replicate_succ
def awt:=@Array.replicate_zero
def awu:=@List.pairwise_iff_getElem
def av8:=@List.drop_eq_getElem_cons
def awv:=@List.getElem?_take
def aww:=@Option.some.inj
def awx:=@List.pairwise_cons
def awy:=@Nat.succ_mul
def awz:=@List.getElem?_set
def awJ:=@List.flatMap_cons
def awA:=@List.push_toArray
def awK:=@List.map_congr_left
def awB:=@Go.heap_alloc_new
def awD:=@List.eq_nil_of_length_eq_zero
def awE:=@Nat.add_zero
def awC:=@List.filter_cons
def awo:=@List.drop_of_length_le
def awF:=@Array.getElem?_setIfInBounds
def awH:=@Classical.byContradiction
def awI:=@List.getElem?_toArray
def awO:=@List.any_eq_true
def awL:=@List.filter_eq_self
def awM:=@Go.cell_of_row
def awN:=@List.map_toArray
def awP:=@Option.some.injEq
def awR:=@Nat.mul_comm
def awG:=@Bool.not_false
def awT:=@List.length_set
def awU:=@Go.Lib.cell_of_heap
def awV:=@List.drop_drop
def awQ:=@List.take_add_one
def awW:=@Array.getElem?_modify
def awX:=@Bool.or_eq_true
def awY:=@List.append_nil
def aw8:=@List.any_eq_false
def aw0:=@List.mem_of_mem_drop
def aw1:=@List.filter_append
def aw2:=@Option.map_none
def aw3:=@List.getElem?_eq_none
def aw4:=@ByteArray.size_append
def aw5:=@List.length_filter_le
def aw6:=@Bool.false_or
def awZ:=@List.sum_cons
def aw7:=@Go.callsIn_of_wp
def aw9:=@Go.grownCap_le_maxLen
def axa:=@Nat.mod_eq_of_lt
def axb:=@Nat.lt_or_ge
def axc:=@List.take_length
def axe:=@Bool.true_and
def axg:=@List.mem_flatMap
def axh:=@List.filter_eq_nil_iff
def axj:=@Bool.not_eq_true'
def axk:=@List.getElem_take
def axl:=@Go.wpList_plain
def awS:=@List.foldl_cons
def axn:=@List.mem_singleton
def axd:=@List.length_eq_zero_iff
def axo:=@decide_eq_false_iff_not
def axf:=@List.mem_of_mem_take
def axp:=@Nat.add_assoc
def axq:=@Go.growslice_fits
def axi:=@List.getElem_cons_zero
def axS:=@List.length_range
def axm:=@List.map_append
def axt:=@List.take_append_of_le_length
def axu:=@Option.isSome_iff_exists
def axv:=@Array.getElem?_replicate
def axw:=@Nat.succ_lt_succ
def axx:=@Go.heap_alloc_old
def axy:=@List.mem_cons_of_mem
def axz:=@Bool.or_eq_false_iff
def axA:=@List.getElem?_replicate
def axB:=@Array.size_append
def axC:=@Nat.lt_trichotomy
def axD:=@List.length_pos_iff
def axE:=@Iff.rfl
def axF:=@List.findIdx?_eq_some_iff_getElem
def axr:=@List.take_of_length_le
def axG:=@Go.callsIn_wide
def axH:=@List.countP_cons
def axI:=@Option.getD_none
def axJ:=@Go.IntKind.wrap_i64
def axK:=@List.mem_cons_self
def axL:=@List.drop_zero
def axM:=@List.take_append_drop
def axN:=@Int.tmod_lt_of_pos
def axO:=@Go.grownCap_ge
def axP:=@Nat.mul_one
def axQ:=@List.nodup_cons
def axR:=@Nat.pow_le_pow_right
def axT:=@List.pairwise_map
def axU:=@Go.setRow_heap
def axV:=@Go.info_parts
def axW:=@Go.setRow_other
def axX:=@Int.fdiv_eq_ediv_of_nonneg
def axY:=@Go.Value.slice.injEq
def axZ:=@List.ext_getElem?
def ax0:=@Nat.div_lt_of_lt_mul
def ax1:=@List.pairwise_append
def ax2:=@Nat.le_of_not_lt
def ax3:=@List.map_map
def ax4:=@List.set_eq_of_length_le
def ax5:=@List.countP_eq_zero
def ax6:=@Nat.div_add_mod
def ax7:=@Go.run_append_grow
def ax8:=@Nat.min_eq_left
def ax9:=@Nat.add_sub_cancel
def aya:=@Go.RowKit.Below.heap_setCell
def ayb:=@Nat.sub_mul
def ayv:=@decide_true
def ayd:=@Go.run_storeCells_at
def aye:=@Go.World.ownsRow_nil
def ayf:=@Go.size_zeroCells
def ayg:=@Array.getElem?_append
def ayh:=@List.take_left
def ayj:=@Go.Lib.wpList_append_run
def ayk:=@List.drop_left
def ayl:=@List.getElem?_append
def aym:=@Go.run_newObj
def ayn:=@Array.mem_toList_iff
def ayo:=@decide_eq_decide
def ayp:=@Nat.le_add_right
def ayq:=@Nat.lt_irrefl
def ayr:=@List.map_drop
def ays:=@List.map_take
def ayt:=@Prod.mk.injEq
def ayu:=@Nat.one_mul
def ayw:=@Go.Lib.strCells_length
def ayx:=@List.drop_succ_cons
def ayy:=@List.drop_set_of_lt
def ayz:=@Go.Oper.semAt_some
def ayA:=@List.mem_of_find?_eq_some
def ayB:=@and_self
def ayC:=@Nat.zero_mul
def ayi:=@decide_false
def ayD:=@Go.Lib.frozen_of_heap
def ayE:=@List.countP_append
def ayF:=@Nat.blt_eq
def ayG:=@Nat.mod_lt
def ayH:=@Go.run_append_nil
def ayI:=@Go.RowKit.Below.drew
def ayJ:=@List.getElem?_cons_succ
def ayK:=@Array.all_eq_true
def ayL:=@List.filter_congr
def ayM:=@Go.wpList_step
def ayN:=@Go.World.frozen?_setCells
def ayc:=@List.getElem_cons_succ
def ayO:=@List.all_cons
def ayP:=@Int.lt_irrefl
def ayQ:=@Go.World.size_alloc
def ayR:=@List.singleton_append
def ay9:=@Nat.sub_zero
def azk:=@Nat.sub_self
def azo:=@Int.tmod_nonneg
theorem ayT{p:Prop}(h:p:=by omega):p:=h
theorem ayU{p:Prop}(h:p:=by simp only;omega):p:=h
theorem ayV{p:Prop}(h:p:=by simp;omega):p:=h
theorem ayW{p:Prop}(h:p:=by simp):p:=h
theorem ayX{p:Prop}(h:p:=by kernel_rfl):p:=h
theorem ayZ{p:Prop}(h:p:=by decide):p:=h
theorem ayY{p:Prop}(h:p:=by simpa using c):p:=h
theorem ay1{p:Prop}(h:p:=by simpa using hd):p:=h
theorem ay0{p:Prop}(h:p:=by have:=bF;simp only;omega):p:=h
theorem ay2{p:Prop}(h:p:=by with_reducible assumption):p:=h
theorem ay4{p:Prop}(h:p:=by simp at h):p:=h
theorem azm{p:Prop}(h:p:=by cases h):p:=h
theorem ay3{p:Prop}(h:p:=by simpa using c1):p:=h
theorem ay7{p:Prop}(h:p:=by simpa using h1):p:=h
theorem ay5{p:Prop}(h:p:=by simpa using c2):p:=h
theorem ay8{p:Prop}(h:p:=by simpa using hi):p:=h
theorem ay6{p:Prop}(h:p:=by assumption):p:=h
theorem azp{p:Prop}(h:p:=by rw[aG,avk U]):p:=h
theorem aza{p:Prop}(h:p:=by unfold cr;split<;>rfl):p:=h
theorem azb{p:Prop}(h:p:=by unfold fR;rw[e];exact j5 _):p:=h
theorem azg{p:Prop}(h:p:=by simpa using hj):p:=h
theorem azd{p:Prop}(h:p:=by simpa using hl):p:=h
theorem azc{p:Prop}(h:p:=by unfold maxLen at pn;omega):p:=h
theorem aze{p:Prop}(h:p:=by unfold bA;split<;>rfl):p:=h
theorem azh{p:Prop}(h:p:=by rw[<-hw1];rfl):p:=h
theorem azi{p:Prop}(h:p:=by simpa using h):p:=h
theorem azj{p:Prop}(h:p:=by show ¬decide (((List.range z.n).length:Int)<((List.range z.n).length:Int))=true;simp):p:=h
theorem azq{p:Prop}(h:p:=by rw[awh (w:=w) (a:=⟨b,o,none⟩) (ld.block b<|cz hx)];exact hx):p:=h
theorem azs{p:Prop}(h:p:=by simpa using e):p:=h
theorem azl{p:Prop}(h:p:=by have:=bF;omega):p:=h
theorem azn{p:Prop}(h:p:=by show decide ((i:Int)<((List.range z.n).length:Int))=true;simpa using hi'):p:=h
theorem azt{p:Prop}(h:p:=by rw[hb.block b' (avo.1 p2).1];exact p2):p:=h
theorem azB{p:Prop}(h:p:=by rw[hw.block b (avo.1 q2).1];exact q2):p:=h
theorem azE{p:Prop}(h:p:=by rw[hb.block b (avo.1 h2).1];exact h2):p:=h
theorem azr{p:Prop}(h:p:=by simp[dQ]):p:=h
theorem azH{p:Prop}(h:p:=by simp only[m9];rw[avk ⟨ayT,ayT⟩];simp):p:=h
theorem azv{p:Prop}(h:p:=by simp[dQ,hb]):p:=h
theorem azw{p:Prop}(h:p:=by simp[h]):p:=h
theorem azx{p:Prop}(h:p:=by simpa using h3):p:=h
theorem aBN{p:Prop}(h:p:=by simp only[Nat.min_def];split<;>omega):p:=h
theorem azy{p:Prop}(h:p:=by simpa using hv):p:=h
theorem azf{p:Prop}(h:p:=by simpa using hk):p:=h
theorem azz{p:Prop}(h:p:=by simpa using hg):p:=h
theorem azA{p:Prop}(h:p:=by simpa using h0):p:=h
theorem azN{p:Prop}(h:p:=by rw[axA]at hj;split at hj<;>simp at hj):p:=h
theorem aBP{p:Prop}(h:p:=by cases hk):p:=h
theorem azL{p:Prop}(h:p:=by simpa using hl2):p:=h
theorem azC{p:Prop}(h:p:=by simp at hlen;unfold maxLen;omega):p:=h
theorem azD{p:Prop}(h:p:=by have:=ho.a0;simp;omega):p:=h
theorem azZ{p:Prop}(h:p:=by simp only[avp];rw[ud,hp,h5];simp):p:=h
theorem azF{p:Prop}(h:p:=by have:=abR (j+1) e' ayT azg hw;rw[show i+1+j=i+(j+1) by omega];exact this):p:=h
theorem azG{p:Prop}(h:p:=by simpa using h2):p:=h
theorem azI{p:Prop}(h:p:=by have:=gy.sh.rl;omega):p:=h
theorem azJ{p:Prop}(h:p:=by first | assumption | decide):p:=h
theorem azK{p:Prop}(h:p:=by rw[hb];exact h.M8 c hc):p:=h
theorem az1{p:Prop}(h:p:=by rw[axn.1 hu];exact gv):p:=h
theorem azO{p:Prop}(h:p:=by have:=h (j+1) e' azg hw;rw[show i+1+j=i+(j+1) by omega];exact this):p:=h
theorem azP{p:Prop}(h:p:=by simp[execOp,Instr.makeFunc]):p:=h
theorem azQ{p:Prop}(h:p:=by rw[htl];omega):p:=h
theorem aAS{p:Prop}(h:p:=by rw[axS];omega):p:=h
theorem azR{p:Prop}(h:p:=by cases c;exact hKb):p:=h
theorem azS{p:Prop}(h:p:=by simp[Act.eval,Act.put]):p:=h
theorem azT{p:Prop}(h:p:=by simp[hj]):p:=h
theorem azU{p:Prop}(h:p:=by simp[hc]):p:=h
theorem azV{p:Prop}(h:p:=by simp[RowKit.intOf];omega):p:=h
theorem azW{p:Prop}(h:p:=by rw[hv];omega):p:=h
theorem azX{p:Prop}(h:p:=by have:=h.hl;show z.bg.length<=_;omega):p:=h
theorem azY{p:Prop}(h:p:=by cases hb;exact⟨U,ayW⟩):p:=h
theorem az2{p:Prop}(h:p:=by rw[B6];exact(h.JD c hc).mono<|avD t):p:=h
theorem az0{p:Prop}(h:p:=by simp[HE.calm,HE.isObj,dat,List.all_map,Function.comp_def,BV.calm]):p:=h
theorem az6{p:Prop}(h:p:=by simp only[awT];exact h4):p:=h
theorem aAa{p:Prop}(h:p:=by simp only[avp];exact qC):p:=h
theorem az3{p:Prop}(h:p:=by simp[hlt]):p:=h
theorem az4{p:Prop}(h:p:=by simpa using hs):p:=h
theorem azu{p:Prop}(h:p:=by simpa using c0):p:=h
theorem az5{p:Prop}(h:p:=by simpa using he):p:=h
theorem aAb{p:Prop}(h:p:=by simp[execOp,resolve,invoke,builtin,Builtin.len_,avm hT,hu,goInt]):p:=h
theorem az7{p:Prop}(h:p:=by simp[execOp,hu,Instr.loadAt,Instr.sureAddr,loadVar,rj hU,hA,hcl]):p:=h
theorem aBY{p:Prop}(h:p:=by cases hv):p:=h
theorem az8{p:Prop}(h:p:=by simp[binOp,Op.intCmp]):p:=h
theorem az9{p:Prop}(h:p:=by first | trivial | rfl):p:=h
theorem aBT{p:Prop}(h:p:=by cases c):p:=h
theorem aAQ{p:Prop}(h:p:=by simp[hd]):p:=h
theorem aAd{p:Prop}(h:p:=by rw[awy];omega):p:=h
theorem aAf{p:Prop}(h:p:=by rw[awh (w:=w) (a:=⟨b',o,none⟩) (Ag.block b' (cz hx) hne)];exact hx):p:=h
theorem aAe{p:Prop}(h:p:=by simp at hj):p:=h
theorem aAz{p:Prop}(h:p:=by rw[<-hw1];exact axW w b q _ hq):p:=h
theorem aAg{p:Prop}(h:p:=by rw[hsz];omega):p:=h
theorem aBI{p:Prop}(h:p:=by simp only[binOp,avw,run_equal_bool hT,Result.andThen,avF]):p:=h
theorem aAh{p:Prop}(h:p:=by rw[r.size];exact HI):p:=h
theorem aAi{p:Prop}(h:p:=by simpa using hz):p:=h
theorem aAj{p:Prop}(h:p:=by simpa using hb.2):p:=h
theorem aAk{p:Prop}(h:p:=by simpa using hb.1):p:=h
theorem aBJ{p:Prop}(h:p:=by show z.bg.length<=_;omega):p:=h
theorem aAm{p:Prop}(h:p:=by rw[htl];exact g1):p:=h
theorem aAn{p:Prop}(h:p:=by simp[dQ,p1]):p:=h
theorem aAo{p:Prop}(h:p:=by simp[hu]):p:=h
theorem aAp{p:Prop}(h:p:=by simp[RowKit.intOf]):p:=h
theorem aAq{p:Prop}(h:p:=by have:=hB.size;simp;omega):p:=h
theorem aAr{p:Prop}(h:p:=by simp[DX]):p:=h
theorem aAt{p:Prop}(h:p:=by rw[<-hw1]):p:=h
theorem aAv{p:Prop}(h:p:=by simpa using Km):p:=h
theorem aAw{p:Prop}(h:p:=by simp[h1]):p:=h
theorem aAX{p:Prop}(h:p:=by cases hb):p:=h
theorem aAx{p:Prop}(h:p:=by rw[hsize];exact A.lt b' 0<|A.own b' (p1 b' hb') 0):p:=h
theorem aAA{p:Prop}(h:p:=by simpa using h4):p:=h
theorem aAB{p:Prop}(h:p:=by simp[hu,Value.cells,h1]):p:=h
theorem aAC{p:Prop}(h:p:=by simp[binOp,Op.intArith]):p:=h
theorem aAD{p:Prop}(h:p:=by simp[World.frozen?,hh]):p:=h
theorem aAE{p:Prop}(h:p:=by rw[<-ho];exact h2 _ (by rw[ho];simpa using d1)):p:=h
theorem aAF{p:Prop}(h:p:=by rw[<-hlen];exact hb2):p:=h
theorem aAV{p:Prop}(h:p:=by rw[avL,xB size es hes i cs j d hi hj];rfl):p:=h
theorem aAH{p:Prop}(h:p:=by unfold maxLen;omega):p:=h
theorem aAI{p:Prop}(h:p:=by simp[execOp,BR.aX (hx.ok hs.app.1 r),asBool]):p:=h
theorem aAJ{p:Prop}(h:p:=by simp[binOp,Op.intBits]):p:=h
theorem aAK{p:Prop}(h:p:=by simp[Op.bytesLess]at h):p:=h
theorem aAL{p:Prop}(h:p:=by simp[BV.ids]):p:=h
theorem aAM{p:Prop}(h:p:=by simp only[rU,fM];omega):p:=h
theorem aAN{p:Prop}(h:p:=by simp at hlen ⊢;omega):p:=h
theorem aAO{p:Prop}(h:p:=by rcases hc with rfl | ⟨_,rfl⟩<;>simp[BV.ids]):p:=h
theorem aAc{p:Prop}(h:p:=by simp[hq]):p:=h
theorem aAP{p:Prop}(h:p:=by simp[hno x hx]):p:=h
theorem aAR{p:Prop}(h:p:=by rw[hdl]at hj;omega):p:=h
theorem aAY{p:Prop}(h:p:=by rw[hby];exact axq ayT<|by omega):p:=h
theorem aAT{p:Prop}(h:p:=by cases c;rfl):p:=h
theorem aAU{p:Prop}(h:p:=by rw[hp];exact hseq):p:=h
theorem aAZ{p:Prop}(h:p:=by rw[<-hw1];rw[awF,avj (λc:b=i=>hi c.symm)]):p:=h
theorem aAW{p:Prop}(h:p:=by have:=fN.1 c;simp only at this;omega):p:=h
theorem aA0{p:Prop}(h:p:=by simp only[dQ,avj (Ne.symm Hj)];exact f1):p:=h
end Go
namespace Go.Ab
open Go Go.RowKit
inductive DV where
 | v (x:Value)
 | sl (size:Nat) (es:List (List DV))
inductive AG where
 | d (d:DV)
 | agg (cs:List DV)
inductive BV where
 | x (v:Value)
 | g (a:AG)
 | ptr (k off:Nat)
 | ep (cs:List DV)
 | own (k:Nat) (es:List (List DV))
 | cp (size:Nat) (es:List (List DV))
 | yh (f:Nat) (caps:List Nat)
 | sem (Φ:List AG->Value->Prop)
 | rp (k:Nat) (es:List (List DV)) (off:Nat)
 | pv (k:Nat) (Ψ:Nat->Value->Prop)
 | any (n:Nat)
 | ro (Φ:(Nat->Nat->Prop)->World->Value->Prop)
 | yg (a:AG)
inductive SV where
 | one (b:BV)
 | eV (l:List BV)
 | dead
inductive HE where
 | blk (T:Nat) (cs:List BV)
 | row (T size:Nat) (es:List (List DV)) (ex:Bool)
 | it (s:ByteArray) (pos:Nat)
 | ZV (T E kk:Nat) (s:ByteArray)
 | hid (row:Bool) (own:Nat)
 | pr (Φ:Obj->Prop)
 | map (es:List (Value×AG))
 | obj (Φ:(Nat->Nat->Prop)->World->(Nat->Prop)->Prop)
def HE.isRow:HE->Bool
 | .row _ _ _ _=>true
 | .hid r _=>r
 | _=>false
abbrev SL:=List (Nat×SV)
abbrev HL:=List (Nat×Option HE)
def bG:SL->Nat->Option SV
 | [],_=>none
 | (k,c)::s,n=>bif Nat.beq k n then some c else bG s n
def aE:HL->Nat->Option HE
 | [],_=>none
 | (k,c)::s,n=>bif Nat.beq k n then c else aE s n
theorem eX(k:Nat)(c:SV)(s:SL)(n:Nat):bG ((k,c)::s) n=if k=n then some c else bG s n:=by
 simp only[bG];by_cases h:k=n
 ·subst h;simp
 ·have:Nat.beq k n=false:=by
   cases hb:Nat.beq k n with
   | false=>rfl
   | true=>exact absurd (av3 hb) h
  simp[this,h]
theorem aG(k:Nat)(c:Option HE)(s:HL)(n:Nat):aE ((k,c)::s) n=if k=n then c else aE s n:=by
 simp only[aE];by_cases h:k=n
 ·subst h;simp
 ·have:Nat.beq k n=false:=by
   cases hb:Nat.beq k n with
   | false=>rfl
   | true=>exact absurd (av3 hb) h
  simp[this,h]
variable{w:World}{base size:Nat}{v:Value}{n:Nat}
theorem wm{e:TypeId}{xs:List Value}(h:w.ownsRow base e size v n xs){g:Nat}(hg:v.ownBlock=some g):g<w.heap.size:=by
 rcases h.2 with⟨rfl,_⟩ | ⟨g',cap,cur,rfl,_,h2,_⟩
 ·cases hg
 ·simp only[Value.ownBlock,awP]at hg
  subst hg;exact(avo.1 h2).1
variable{w':World}
theorem dz{e:TypeId}{xs:List Value}(h:w.ownsRow base e size v n xs)(hb:∀g,v.ownBlock=some g->w'.heap[g]? =w.heap[g]?):w'.ownsRow base e size v n xs:=by
 refine⟨h.1,h.2.imp id ?_⟩;rintro⟨g,cap,cur,h1,h2,h3,h4⟩;exact⟨g,cap,cur,h1,h2,by rw[hb g (by rw[h1];rfl)];exact h3,h4⟩
inductive RD(M:Nat->Nat->Prop)(w:World):Value->DV->Prop
 | v (x:Value) (h:x.oneCell'=true):RD M w x (.v x)
 | sl (a:Option Addr) (cap size:Nat) (es:List (List DV)) (vals:Nat->Nat->Value) (b o:Nat)
   (hc:es.length<=cap) (hm:cap<=maxLen) (ha:es≠[]->a=some ⟨b,o,none⟩)
   (hs:∀cs,cs∈es->cs.length=size)
   (hv:∀i cs j d,es[i]? =some cs->cs[j]? =some d->w.cell? ⟨b,o+(i*size+j),none⟩=some (vals i j)/\¬M b (o+(i*size+j)))
   (hr:∀i cs j d,es[i]? =some cs->cs[j]? =some d->RD M w (vals i j) d):
   RD M w (.slice a es.length cap) (.sl size es)
variable{M:Nat->Nat->Prop}{u:Value}
theorem RD.one{d:DV}(h:RD M w u d):u.oneCell'=true:=by
 cases h with
 | v _ h=>exact h
 | sl=>rfl
variable{M':Nat->Nat->Prop}
theorem RD.mono
  (h:∀b o x,¬M b o->w.cell? ⟨b,o,none⟩=some x->w'.cell? ⟨b,o,none⟩=some x/\¬M' b o)
  {u:Value} {d:DV} (r:RD M w u d):RD M' w' u d:=by
 induction r with
 | v x hx=>exact .v x hx
 | sl a cap size es vals b o hc hm ha hs hv hr ih=>
  exact .sl a cap size es vals b o hc hm ha hs (λi cs j d h1 h2=>h _ _ _ (hv i cs j d h1 h2).2 (hv i cs j d h1 h2).1) ih
theorem RD.aX{x:Value}(h:RD M w u (.v x)):u=x:=by
 cases h;rfl
structure Cx(P:Program)(nt:Nat)where
 w0:World
 M:Nat->Nat->Prop
 K:Nat->Prop
 F:Option Nat:=none
def HE.xK(o:Nat):HE->Prop
 | .blk _ _=>True
 | .row _ size es ex=>ex=true\/es.length*size<=o
 | .it _ _=>True
 | .ZV _ _ _ _=>True
 | .hid _ _=>True
 | .obj _=>True
 | .pr _=>True
 | .map _=>True
def Mu{P:Program}{nt:Nat}(C:Cx P nt)(hp:HL)(β:Nat->Option Nat)(b o:Nat):Prop:=
 C.M b o\/∃k e,aE hp k=some e/\β k=some b/\e.xK o
structure cU(K:Nat->Prop)(w0 w:World):Prop where
 os:w.os=w0.os
 tape:w.tape=w0.tape
 output:w.output=w0.output
 size:w0.heap.size<=w.heap.size
 block:∀k,k<w0.heap.size->¬K k->w.heap[k]? =w0.heap[k]?
abbrev Tk{P:Program}{nt:Nat}(C:Cx P nt)(w:World):Prop:=cU C.K C.w0 w
def GR(M:Nat->Nat->Prop)(w:World)(u:Value):AG->Prop
 | .d d=>RD M w u d
 | .agg cs=>∃us:Array Value,u= .agg us/\us.size=cs.length/\∀(j:Nat)(d:DV),cs[j]? =some d->∃x,us[j]? =some x/\RD M w x d
def cG(P:Program)(f:Nat):Prop:=∀(args:Array Value)(w:World),(callFunc f args).run P w= .ok (.enter f args) w
def Ej(P:Program)(w:World)(K:Nat->Prop)(u:Value)(Φ:List AG->Value->Prop):Prop:=
 ∃f caps,u= .func (.func f) #[] caps/\cG P f/\∀w',cU K w w'->∀(M:Nat->Nat->Prop)(vs:List Value)(args:List AG)(r:Value),
  vs.length=args.length->
  (∀(i:Nat)(v:Value)(g:AG),vs[i]? =some v->args[i]? =some g->GR M w' v g)->
  Φ args r->Calls P f (vs.toArray++caps) w' λe w''=>e= .returned r/\Below w'.heap.size w' w''
theorem GR.mono{M M':Nat->Nat->Prop}{w w':World}
  (h:∀b o x,¬M b o->w.cell? ⟨b,o,none⟩=some x->w'.cell? ⟨b,o,none⟩=some x/\¬M' b o)
  {u:Value} {g:AG} (r:GR M w u g):GR M' w' u g:=by
 cases g with
 | d d=>exact RD.mono h r
 | agg cs=>
  obtain⟨us,h1,h2,h3⟩:=r;exact⟨us,h1,h2,λj d hd=>let⟨x,hx,hr⟩:=h3 j d hd;⟨x,hx,hr.mono h⟩⟩
def BR{P:Program}{nt:Nat}(C:Cx P nt)(hp:HL)(β:Nat->Option Nat)(w:World):BV->Value->Prop
 | .x v,u=>u=v
 | .g a,u=>GR (Mu C hp β) w u a
 | .ptr k off,u=>(∃e,aE hp k=some e/\e.isRow=false)/\∃b,β k=some b/\u= .pointer (some ⟨b,off,none⟩)
 | .ep cs,u=>∃b o,u= .pointer (some ⟨b,o,none⟩)/\∀(j:Nat)(d:DV),cs[j]? =some d->∃x,w.cell? ⟨b,o+j,none⟩=some x/\¬Mu C hp β b (o+j)/\RD (Mu C hp β) w x d
 | .own k B5,u=>∃T size es ex,aE hp k=some (.row T size es ex)/\B5.length<=es.length/\(B5.length=es.length->
   ((β k=none/\es= []/\∃a,u= .slice a 0 0)\/
   (∃b cap cur,β k=some b/\u= .slice (some ⟨b,0,none⟩) es.length cap/\es.length<=cap/\cap<=maxLen/\w.heap[b]? =some (.cells cur T (0,0))/\cur.size=cap*size)))
 | .cp size es,u=>RD (Mu C hp β) w u (.sl size es)/\∃a n,u= .slice a n n
 | .yh f caps,u=>∃us:List Value,u= .func (.func f) #[] us.toArray/\us.length=caps.length/\
   ∀(i k:Nat),caps[i]? =some k->(∃e,aE hp k=some e/\e.isRow=false)/\∃b,β k=some b/\us[i]? =some (.pointer<|some ⟨b,0,none⟩)
 | .sem Φ,u=>Ej P C.w0 C.K u Φ
 | .rp k B5 off,u=>∃s:Value,(∃T size es ex,aE hp k=some (.row T size es ex)/\B5.length<=es.length/\(B5.length=es.length->
   ((β k=none/\es= []/\∃a,s= .slice a 0 0)\/
   (∃b cap cur,β k=some b/\s= .slice (some ⟨b,0,none⟩) es.length cap/\es.length<=cap/\cap<=maxLen/\w.heap[b]? =some (.cells cur T (0,0))/\cur.size=cap*size))))/\
   ∃b l c,s= .slice (some ⟨b,0,none⟩) l c/\u= .pointer (some ⟨b,off,none⟩)
 | .pv k Ψ,u=>(∃e,aE hp k=some e/\e.isRow=false)/\∃b,β k=some b/\Ψ b u/\u.oneCell'=true
 | .any n,u=>n=0\/∃us:Array Value,u= .agg us/\us.size=n/\∀(j:Nat)(x:Value),us[j]? =some x->x.oneCell'=true
 | .ro Φ,u=>Φ (λb o=>C.M b o\/C.K b) C.w0 u
 | .yg a,u=>GR (λb o=>Mu C hp β b o\/b<C.w0.heap.size) w u a
def SR{P:Program}{nt:Nat}(C:Cx P nt)(hp:HL)(β:Nat->Option Nat)(w:World):SV->Value->Prop
 | .one b,u=>BR C hp β w b u
 | .eV l,u=>∃us:Array Value,u= .tuple us/\us.size=l.length/\∀(i:Nat)(b:BV),l[i]? =some b->∃x,us[i]? =some x/\BR C hp β w b x
 | .dead,_=>True
def HR{P:Program}{nt:Nat}(C:Cx P nt)(hp:HL)(β:Nat->Option Nat)(w:World)(k:Nat):HE->Prop
 | .blk T cs=>∃b arr,β k=some b/\w.heap[b]? =some (.cells arr T (0,0))/\arr.size=cs.length/\
   ∀(j:Nat)(c:BV),cs[j]? =some c->∃u,arr[j]? =some u/\u.oneCell'=true/\BR C hp β w c u
 | .row T size es _=>0<size/\(∀cs,cs∈es->cs.length=size)/\((β k=none/\es= [])\/∃b cur,β k=some b/\w.heap[b]? =some (.cells cur T (0,0))/\es.length*size<=cur.size/\
   ∀(i:Nat)(cs:List DV)(j:Nat)(d:DV),es[i]? =some cs->cs[j]? =some d->∃u,cur[i*size+j]? =some u/\RD (Mu C hp β) w u d)
 | .it s pos=>∃b,β k=some b/\w.heap[b]? =some (.stringIter s pos)
 | .ZV T E kk s=>aE hp kk=some (.hid true k)/\∃b p v,β k=some b/\(p= .pointer none\/p= .pointer (some ⟨b,0,none⟩))/\w.heap[b]? =some (.cells #[p,v] T (0,0))/\w.ownsRow 0 E 1 v s.size (Lib.strCells s)/\v.ownBlock=β kk
 | .hid _ _=>True
 | .obj _=>β k=none
 | .pr Φ=>∃b o,β k=some b/\w.heap[b]? =some o/\Φ o
 | .map es=>∃b cm,β k=some b/\w.heap[b]? =some (.map cm cm.size)/\cm.size=es.length/\∀(i:Nat)(e:Value×AG),es[i]? =some e->∃x,cm[i]? =some x/\x.key=e.1/\x.born=i/\GR (Mu C hp β) w x.val e.2
structure St where
 sl:SL
 hp:HL
structure dD{P:Program}{nt:Nat}(C:Cx P nt)(st:St)(β:Nat->Option Nat)(a:Act)(w:World):Prop where
 keep:Tk C w
 low:∀b o,C.M b o->b<C.w0.heap.size/\¬C.K b
 inj:∀k k' e e' b,aE st.hp k=some e->aE st.hp k'=some e'->β k=some b->β k'=some b->k=k'
 own:∀k e b,aE st.hp k=some e->β k=some b->(C.w0.heap.size<=b\/C.K b)/\b<w.heap.size
 hp:∀k e,aE st.hp k=some e->HR C st.hp β w k e
 sl:∀t sv,bG st.sl t=some sv->SR C st.hp β w sv (a.tmps.getD t undef)
 size:a.tmps.size=nt
 df:a.defers= []
 fx:∀b,C.F=some b->β 0=some b/\∀e,aE st.hp 0=some e->e.isRow=false
def Rel{P:Program}{nt:Nat}(C:Cx P nt)(st:St)(a:Act)(w:World):Prop:=∃β,dD C st β a w
variable{P:Program}{nt:Nat}{st:St}{β:Nat->Option Nat}{a:Act}{C:Cx P nt}
theorem dD.yC(r:dD C st β a w){b o:Nat}(h:Mu C st.hp β b o):b<w.heap.size:=by
 rcases h with h | ⟨k,e,he,hb,_⟩
 ·exact avE (r.low b o h).1 r.keep.size
 ·exact(r.own k e b he hb).2
theorem Tk.below(h:Tk C w)(hb:Below w.heap.size w w'):Tk C w':=
 ⟨hb.os.trans h.os,hb.tape.trans h.tape,hb.output.trans h.output,awa h.size hb.size,
 λk hk hK=>(hb.block k (avE hk h.size)).trans (h.block k hk hK)⟩
theorem cz{b o:Nat}{x:Value}(h:w.cell? ⟨b,o,none⟩=some x):b<w.heap.size:=World.block_lt_of_cell? w ⟨b,o,none⟩ h
theorem qK(hb:Below w.heap.size w w'):
  ∀b o x,¬M b o->w.cell? ⟨b,o,none⟩=some x->w'.cell? ⟨b,o,none⟩=some x/\¬M b o:=
 λb o x hn hx=>⟨by rw[hb.cell (p:=⟨b,o,none⟩) (cz hx)];exact hx,hn⟩
variable{hp dg:HL}
theorem BR.kept{β':Nat->Option Nat}
  (h:∀b o x,¬Mu C hp β b o->w.cell? ⟨b,o,none⟩=some x->w'.cell? ⟨b,o,none⟩=some x/\¬Mu C dg β' b o)
  {c:BV} {u:Value}
  (hk:∀k,(match c with | .ptr k' _=>k'=k | .pv k' _=>k'=k | .yh _ l=>k∈l | _=>False)->∀e,aE hp k=some e->e.isRow=false->(∃e',aE dg k=some e'/\e'.isRow=false)/\β' k=β k)
  (ho:∀k es u,(c= .own k es\/∃off,c= .rp k es off)->BR C hp β w (.own k es) u->BR C dg β' w' (.own k es) u)
  (r:BR C hp β w c u):BR C dg β' w' c u:=by
 cases c with
 | x v=>exact r
 | g a=>exact GR.mono h r
 | ptr k off=>
  obtain⟨⟨e,he,hr⟩,b,hb,hu⟩:=r;obtain⟨h1,h2⟩:=hk k U e he hr;exact⟨h1,b,h2.trans hb,hu⟩
 | ep cs=>
  obtain⟨b,o,hu,hc⟩:=r;exact⟨b,o,hu,λj d hd=>let⟨x,hx,hm,hr⟩:=hc j d hd;⟨x,(h _ _ _ hm hx).1,(h _ _ _ hm hx).2,hr.mono h⟩⟩
 | own k es=>exact ho k es u (.inl U) r
 | cp size es=>exact⟨r.1.mono h,r.2⟩
 | yh f caps=>
  obtain⟨us,hu,hl,hc⟩:=r;refine⟨us,hu,hl,λi k hik=>?_⟩;obtain⟨⟨e,he,hr⟩,b,hb,hx⟩:=hc i k hik;obtain⟨h1,h2⟩:=hk k (avH hik) e he hr;exact⟨h1,b,h2.trans hb,hx⟩
 | sem Φ=>exact r
 | rp k es off=>
  obtain⟨s,h1,h2⟩:=r;exact⟨s,ho k es s (.inr ⟨off,U⟩) h1,h2⟩
 | pv k Ψ=>
  obtain⟨⟨e,he,hr⟩,b,hb,hu⟩:=r;obtain⟨h1,h2⟩:=hk k U e he hr;exact⟨h1,b,h2.trans hb,hu⟩
 | any n=>exact r
 | ro Φ=>exact r
 | yg a=>
  refine GR.mono (λb o x hn hx=>?_) r;obtain⟨h1,h2⟩:=h b o x (λc=>hn<|.inl c) hx;exact⟨h1,λc=>c.elim h2 λc=>hn<|.inr c⟩
theorem BR.below(hb:Below w.heap.size w w'){c:BV}(r:BR C hp β w c u):BR C hp β w' c u:=by
 refine BR.kept (qK hb) (λk _ e he hr=>⟨⟨e,he,hr⟩,U⟩) (λk B5 u _ r=>?_) r;obtain⟨T,size,es,ex,hh,hl,hr⟩:=r;refine⟨T,size,es,ex,hh,hl,λhq=>(hr hq).imp id ?_⟩;rintro⟨b,cap,cur,h1,h2,h3,h4,h5,h6⟩;exact⟨b,cap,cur,h1,h2,h3,h4,by rw[hb.block b (avo.1 h5).1];exact h5,h6⟩
theorem SR.below{P:Program}{nt:Nat}{C:Cx P nt}{hp:HL}{β:Nat->Option Nat}{w w':World}(hb:Below w.heap.size w w'){c:SV}{u:Value}(r:SR C hp β w c u):SR C hp β w' c u:=by
 cases c with
 | one b=>exact BR.below hb r
 | eV l=>
  obtain⟨us,h1,h2,h3⟩:=r;exact⟨us,h1,h2,λi b hi=>let⟨x,hx,hr⟩:=h3 i b hi;⟨x,hx,BR.below hb hr⟩⟩
 | dead=>trivial
theorem HR.below{P:Program}{nt:Nat}{C:Cx P nt}{hp:HL}{β:Nat->Option Nat}{w w':World}(hb:Below w.heap.size w w'){k:Nat}{e:HE}(r:HR C hp β w k e):HR C hp β w' k e:=by
 cases e with
 | blk T cs=>
  obtain⟨b,arr,h1,h2,h3,h4⟩:=r;exact⟨b,arr,h1,azE,h3,λj c hc=>let⟨u,hu,ho,hr⟩:=h4 j c hc;⟨u,hu,ho,BR.below hb hr⟩⟩
 | row T size es ex=>
  obtain⟨hz,hs,hr⟩:=r;refine⟨hz,hs,hr.imp id ?_⟩;rintro⟨b,cur,h1,h2,h3,h4⟩;exact⟨b,cur,h1,azE,h3,λi cs j d hi hj=>let⟨u,hu,hr⟩:=h4 i cs j d hi hj;⟨u,hu,hr.mono<|qK hb⟩⟩
 | it s pos=>
  obtain⟨b,h1,h2⟩:=r;exact⟨b,h1,azE⟩
 | pr Φ=>
  obtain⟨b,o,h1,h2,h3⟩:=r;exact⟨b,o,h1,azE,h3⟩
 | map es=>
  obtain⟨b,cm,h1,h2,h3,h4⟩:=r;exact⟨b,cm,h1,azE,h3,λi e he=>let⟨x,q1,q2,q3,q4⟩:=h4 i e he;⟨x,q1,q2,q3,q4.mono<|qK hb⟩⟩
 | ZV T E kk s=>
  obtain⟨hk,b,p,v,h1,h2,h3,h4,h5⟩:=r;exact⟨hk,b,p,v,h1,h2,by rw[hb.block b (avo.1 h3).1];exact h3,dz h4 λg hg=>hb.block g<|wm h4 hg,h5⟩
 | hid _ _=>trivial
 | obj _=>exact r
theorem zD(a:Act)(dst t:Nat)(v:Value):(a.put (some dst) v).tmps.getD t undef=if dst=t/\dst<a.tmps.size then v else a.tmps.getD t undef:=by
 simp only[Act.put,avx,awF];by_cases h:dst=t
 ·subst h
  by_cases h2:dst<a.tmps.size
  ·simp[h2]
  ·simp[h2]
 ·simp[h]
theorem dD.put{P:Program}{nt:Nat}{C:Cx P nt}{sl:SL}{hp:HL}{β:Nat->Option Nat}{a:Act}{w w':World}(r:dD C ⟨sl,hp⟩ β a w)(hb:Below w.heap.size w w'){dst:Nat}(hd:dst<nt)
  {sv:SV} {v:Value} (hv:SR C hp β w' sv v):dD C ⟨(dst,sv)::sl,hp⟩ β (a.put (some dst) v) w' where
 keep:=r.keep.below hb
 low:=r.low
 inj:=r.inj
 own:=λk e b he hk=>⟨(r.own k e b he hk).1,avE (r.own k e b he hk).2 hb.size⟩
 hp:=λk e he=>(r.hp k e he).below hb
 sl:=by
  intro t sv' hs;rw[zD];simp only[eX]at hs;by_cases h:dst=t
  ·subst h
   rw[avk rfl]at hs;cases hs;rw[avk ⟨rfl,by rw[r.size];exact hd⟩];exact hv
  ·rw[avj h]at hs
   rw[avj (λc=>h c.1)];exact(r.sl t sv' hs).below hb
 size:=by simp[Act.put,r.size]
 df:=r.df
 fx:=r.fx
theorem dD.Lb(r:dD C st β a w)(hb:Below w.heap.size w w'):dD C st β a w' where
 keep:=r.keep.below hb
 low:=r.low
 inj:=r.inj
 own:=λk e b he hk=>⟨(r.own k e b he hk).1,avE (r.own k e b he hk).2 hb.size⟩
 hp:=λk e he=>(r.hp k e he).below hb
 sl:=λt sv hs=>(r.sl t sv hs).below hb
 size:=r.size
 df:=r.df
 fx:=r.fx
def bK(sl:SL):List (Nat×SV)->Prop
 | []=>True
 | (t,s)::r=>bG sl t=some s/\bK sl r
def dn(hp:HL):List (Nat×Option HE)->Prop
 | []=>True
 | (t,s)::r=>aE hp t=s/\dn hp r
variable{sl:SL}
theorem bK.app{l r:List (Nat×SV)}(h:bK sl (l++r)):bK sl l/\bK sl r:=by
 induction l with
 | nil=>exact⟨ayS,h⟩
 | cons x l ih=>
  obtain⟨t,s⟩:=x;obtain⟨h1,h2⟩:=h;obtain⟨h3,h4⟩:=ih h2;exact⟨⟨h1,h3⟩,h4⟩
inductive Ev:Operand->BV->List (Nat×SV)->Prop
 | t (t:Nat) (c:BV):Ev (.tmp t) c [(t,.one c)]
 | c (v:Value) (h:v.oneCell'=true):Ev (.const v) (.g<|.d<|.v v) []
 | n (size:Nat):Ev (.const<|.slice none 0 0) (.g<|.d<|.sl size []) []
 | x (v:Value):Ev (.const v) (.x v) []
 | f (f:Nat):Ev (.func f) (.yh f []) []
theorem RD.nil(a:Option Addr)(cap size:Nat)(h:cap<=maxLen):RD M w (.slice a 0 cap) (.sl size []):=
 RD.sl a cap size [] (λ_ _=>undef) 0 0 (av5 _) h (λc=>absurd U c) (λ_ h=>azm) (λi cs j d h=>ay4) (λi cs j d h=>ay4)
variable{x:Operand}{R:List (Nat×SV)}
theorem Ev.ok{c:BV}
  (hx:Ev x c R) (hs:bK sl R) (r:dD C ⟨sl,hp⟩ β a w):BR C hp β w c (a.eval x):=by
 cases hx with
 | t t=>exact r.sl t _ hs.1
 | c v h=>exact RD.v v h
 | n size=>exact RD.nil none 0 size (av5 _)
 | x v=>rfl
 | f f=>exact⟨[],U,U,λi k h=>ay4⟩
variable{t:Nat}
theorem Ev.eV{c:SV}
  (hs:bG sl t=some c) (r:dD C ⟨sl,hp⟩ β a w):SR C hp β w c (a.eval<|.tmp t):=r.sl t _ hs
def Step{P:Program}{nt:Nat}(C:Cx P nt)(o:Oper)(st st':St):Prop:=
 ∀a w K Q,Rel C st a w->(∀a w,Rel C st' a w->K a w)->o.wp P a w K Q
structure dJ{P:Program}{nt:Nat}(C:Cx P nt)(o:Oper)(Rs:List (Nat×SV))(Rh:List (Nat×Option HE))(Ws:List (Nat×SV))(Wh:List (Nat×Option HE)):Prop where
 go:∀sl hp,bK sl Rs->dn hp Rh->Step C o ⟨sl,hp⟩ ⟨Ws++sl,Wh++hp⟩
variable{o:Oper}{dst:Nat}{Rs:List (Nat×SV)}{Rh:List (Nat×Option HE)}
theorem bu{sv:SV}(hd:Nat.blt dst nt=true)(ahL:o.dst=some dst)
  (h:∀sl hp β a w,bK sl Rs->dn hp Rh->dD C ⟨sl,hp⟩ β a w->∃v,(execOp a.eval o).run P w= .ok (.value v) w/\SR C hp β w sv v):
  dJ C o Rs Rh [(dst,sv)] []:=by
 refine⟨λsl hp hs hh a w K Q⟨β,r⟩ hK=>?_⟩;obtain⟨v,hv,hr⟩:=h sl hp β a w hs hh r;unfold Oper.wp;rw[hv];refine hK _ _ ⟨β,?_⟩;rw[ahL];exact r.put (avU _ _) ay1 hr
abbrev Oo(dst:Nat)(op:Op)(ty:TypeId)(pos:String)(af:Array Edge)(gd:Option (Nat×Bool)):Oper:=⟨some dst,op,ty,pos,af,gd⟩
abbrev dv(v:Value):BV:=.g (.d (.v v))
abbrev bI(k:IntKind)(n:Int):BV:=.g (.d (.v (.int k n)))
abbrev bB(b:Bool):BV:=.g (.d (.v (.bool b)))
abbrev bS(s:ByteArray):BV:=.g (.d (.v (.string s)))
variable{b:Bool}{ty:TypeId}{pos:String}{af:Array Edge}{gd:Option (Nat×Bool)}{y z:Operand}{R1 R2 R3:List (Nat×SV)}{T':TypeId}{k':IntKind}{s:ByteArray}{S:TypeId}
section
theorem kQ{c:BV}(hx:Ev x c R)(hd:Nat.blt dst nt=true):dJ C (Oo dst (.move x) ty pos af gd) R [] [(dst,.one c)] []:=
 bu hd U λsl hp β a w hs _ r=>⟨a.eval x,by simp[execOp],hx.ok hs r⟩
theorem iG{c:BV}(hx:Ev x c R)(hd:Nat.blt dst nt=true):dJ C (Oo dst (.assign x) ty pos af gd) R [] [(dst,.one c)] []:=
 bu hd U λsl hp β a w hs _ r=>⟨a.eval x,by simp[execOp],hx.ok hs r⟩
theorem BR.aX{hp:HL}{β:Nat->Option Nat}{w:World}{u v:Value}(h:BR C hp β w (dv v) u):u=v:=RD.aX h
theorem ef{op:BinOp}{t:TypeId}(hu:u.oneCell'=true)(hn:u≠.nilIface):(eqGuard op t x y u v).run P w= .ok () w:=by
 unfold eqGuard;cases op<;>cases u<;>simp_all [Value.oneCell']
theorem gX{op:BinOp}{T:TypeId}{r:Value}(hx:Ev x (dv u) R1)(hy:Ev y (dv v) R2)(hd:Nat.blt dst nt=true)(hr:r.oneCell'=true)(hn:u≠.nilIface)
  (h:∀w,(binOp op T u v).run P w= .ok r w):dJ C (Oo dst (.binOp op T x y T') ty pos af gd) (R1++R2) [] [(dst,.one (dv r))] []:=
 bu hd U λsl hp β a w hs _ rr=>by
  have h1:=hx.ok hs.app.1 rr;have e1:=BR.aX h1;have e2:=BR.aX (hy.ok hs.app.2 rr);have hg:=ef (P:=P) (op:=op) (t:=T) (x:=x) (y:=y) (v:=v) (w:=w) (e1 ▸ RD.one h1) hn;refine⟨r,?_,RD.v r hr⟩;have:=h w;simp only[execOp,e1,e2,avw,hg,Result.andThen,this,avF]
theorem run_equal_bool{T:TypeId}{a:Bool}(hT:P.underlying T=some .bool):(Op.equal T (.bool a) (.bool b)).run P w= .ok (a==b) w:=by
 have:Op.equal T (.bool a) (.bool b)=Op.equalIn (9999+1) T (.bool a) (.bool b):=rfl;rw[this,Op.equalIn];simp[avw,avm hT]
section ints
variable{T:TypeId}{k:IntKind}{m n:Int}
theorem qZ(hx:Ev x (bI k m) R1)(hy:Ev y (bI k n) R2)(hd:Nat.blt dst nt=true):dJ C (Oo dst (.binOp .add T x y T') ty pos af gd) (R1++R2) [] [(dst,.one (bI k (k.wrap (m+n))))] []:=
 gX hx hy hd U (λh=>azm) λw=>aAC
theorem aiw(hx:Ev x (bI k m) R1)(hy:Ev y (bI k n) R2)(hd:Nat.blt dst nt=true):dJ C (Oo dst (.binOp .sub T x y T') ty pos af gd) (R1++R2) [] [(dst,.one (bI k (k.wrap (m-n))))] []:=
 gX hx hy hd U (λh=>azm) λw=>aAC
theorem air(hx:Ev x (bI k m) R1)(hy:Ev y (bI k n) R2)(hd:Nat.blt dst nt=true):dJ C (Oo dst (.binOp .mul T x y T') ty pos af gd) (R1++R2) [] [(dst,.one (bI k (k.wrap (m*n))))] []:=
 gX hx hy hd U (λh=>azm) λw=>aAC
theorem aiu(hn:n≠0)(hx:Ev x (bI k m) R1)(hy:Ev y (bI k n) R2)(hd:Nat.blt dst nt=true):dJ C (Oo dst (.binOp .quo T x y T') ty pos af gd) (R1++R2) [] [(dst,.one (bI k (k.wrap (m.tdiv n))))] []:=
 gX hx hy hd U (λh=>azm) λw=>by simp[binOp,Op.intDiv,hn]
theorem CV(hn:n≠0)(hx:Ev x (bI k m) R1)(hy:Ev y (bI k n) R2)(hd:Nat.blt dst nt=true):dJ C (Oo dst (.binOp .rem T x y T') ty pos af gd) (R1++R2) [] [(dst,.one (bI k (m.tmod n)))] []:=
 gX hx hy hd U (λh=>azm) λw=>by simp[binOp,Op.intDiv,hn]
theorem aih(hx:Ev x (bI k m) R1)(hy:Ev y (bI k n) R2)(hd:Nat.blt dst nt=true):dJ C (Oo dst (.binOp .and T x y T') ty pos af gd) (R1++R2) [] [(dst,.one (bI k (k.wrap (BitVec.ofInt k.bits m&&& BitVec.ofInt k.bits n).toNat)))] []:=
 gX hx hy hd U (λh=>azm) λw=>aAJ
theorem alr(hx:Ev x (bI k m) R1)(hy:Ev y (bI k n) R2)(hd:Nat.blt dst nt=true):dJ C (Oo dst (.binOp .or T x y T') ty pos af gd) (R1++R2) [] [(dst,.one (bI k (k.wrap (BitVec.ofInt k.bits m||| BitVec.ofInt k.bits n).toNat)))] []:=
 gX hx hy hd U (λh=>azm) λw=>aAJ
theorem aiv(hn:0<=n)(hx:Ev x (bI k m) R1)(hy:Ev y (bI k' n) R2)(hd:Nat.blt dst nt=true):dJ C (Oo dst (.binOp .shl T x y T') ty pos af gd) (R1++R2) [] [(dst,.one (bI k (k.wrap (m*2 ^ min n.toNat k.bits))))] []:=
 gX hx hy hd U (λh=>azm) λw=>by simp[binOp,Op.shift,show ¬n<0 by omega]
theorem acw(hn:0<=n)(hx:Ev x (bI k m) R1)(hy:Ev y (bI k' n) R2)(hd:Nat.blt dst nt=true):dJ C (Oo dst (.binOp .shr T x y T') ty pos af gd) (R1++R2) [] [(dst,.one (bI k (m.fdiv (2 ^ min n.toNat k.bits))))] []:=
 gX hx hy hd U (λh=>azm) λw=>by simp[binOp,Op.shift,show ¬n<0 by omega]
theorem CU(hx:Ev x (bI k m) R1)(hy:Ev y (bI k n) R2)(hd:Nat.blt dst nt=true):dJ C (Oo dst (.binOp .lss T x y T') ty pos af gd) (R1++R2) [] [(dst,.one (bB (decide (m<n))))] []:=
 gX hx hy hd U (λh=>azm) λw=>az8
theorem aio(hx:Ev x (bI k m) R1)(hy:Ev y (bI k n) R2)(hd:Nat.blt dst nt=true):dJ C (Oo dst (.binOp .leq T x y T') ty pos af gd) (R1++R2) [] [(dst,.one (bB (decide (m<=n))))] []:=
 gX hx hy hd U (λh=>azm) λw=>az8
theorem ain(hx:Ev x (bI k m) R1)(hy:Ev y (bI k n) R2)(hd:Nat.blt dst nt=true):dJ C (Oo dst (.binOp .gtr T x y T') ty pos af gd) (R1++R2) [] [(dst,.one (bB (decide (n<m))))] []:=
 gX hx hy hd U (λh=>azm) λw=>az8
theorem Vt(hx:Ev x (bI k m) R1)(hy:Ev y (bI k n) R2)(hd:Nat.blt dst nt=true):dJ C (Oo dst (.binOp .geq T x y T') ty pos af gd) (R1++R2) [] [(dst,.one (bB (decide (n<=m))))] []:=
 gX hx hy hd U (λh=>azm) λw=>az8
theorem PI(hx:Ev x (bI k m) R1)(hy:Ev y (bI k n) R2)(hd:Nat.blt dst nt=true):dJ C (Oo dst (.binOp .eql T x y T') ty pos af gd) (R1++R2) [] [(dst,.one (bB (decide (m=n))))] []:=
 gX hx hy hd U (λh=>azm) λw=>by simp[binOp,Op.intCmp];try rfl
theorem ais(hx:Ev x (bI k m) R1)(hy:Ev y (bI k n) R2)(hd:Nat.blt dst nt=true):dJ C (Oo dst (.binOp .neq T x y T') ty pos af gd) (R1++R2) [] [(dst,.one (bB (!decide (m=n))))] []:=
 gX hx hy hd U (λh=>azm) λw=>by simp[binOp,Op.intCmp];try rfl
end ints
def seq(s t:ByteArray):Bool:=s.toList==t.toList
def slt(s t:ByteArray):Bool:=Op.bytesLess s.toList t.toList
section strings
variable{T:TypeId}{t:ByteArray}
theorem aik(hx:Ev x (bS s) R1)(hy:Ev y (bS t) R2)(hd:Nat.blt dst nt=true):dJ C (Oo dst (.binOp .eql T x y T') ty pos af gd) (R1++R2) [] [(dst,.one (bB (seq s t)))] []:=
 gX hx hy hd U (λh=>azm) λw=>by simp[binOp,Op.stringOp,seq]
theorem ait(hx:Ev x (bS s) R1)(hy:Ev y (bS t) R2)(hd:Nat.blt dst nt=true):dJ C (Oo dst (.binOp .neq T x y T') ty pos af gd) (R1++R2) [] [(dst,.one (bB (!seq s t)))] []:=
 gX hx hy hd U (λh=>azm) λw=>by simp[binOp,Op.stringOp,seq]
theorem aip(hx:Ev x (bS s) R1)(hy:Ev y (bS t) R2)(hd:Nat.blt dst nt=true):dJ C (Oo dst (.binOp .lss T x y T') ty pos af gd) (R1++R2) [] [(dst,.one (bB (slt s t)))] []:=
 gX hx hy hd U (λh=>azm) λw=>by simp[binOp,Op.stringOp,slt]
theorem aim(hx:Ev x (bS s) R1)(hy:Ev y (bS t) R2)(hd:Nat.blt dst nt=true):dJ C (Oo dst (.binOp .gtr T x y T') ty pos af gd) (R1++R2) [] [(dst,.one (bB (!(slt s t||seq s t))))] []:=
 gX hx hy hd U (λh=>azm) λw=>by simp[binOp,Op.stringOp,slt,seq]
theorem ail(hx:Ev x (bS s) R1)(hy:Ev y (bS t) R2)(hd:Nat.blt dst nt=true):dJ C (Oo dst (.binOp .geq T x y T') ty pos af gd) (R1++R2) [] [(dst,.one (bB (!slt s t)))] []:=
 gX hx hy hd U (λh=>azm) λw=>by simp[binOp,Op.stringOp,slt]
theorem aii(h:s.size+t.size<=9223372036854775807)(hx:Ev x (bS s) R1)(hy:Ev y (bS t) R2)(hd:Nat.blt dst nt=true):dJ C (Oo dst (.binOp .add T x y T') ty pos af gd) (R1++R2) [] [(dst,.one (bS (s++t)))] []:=
 gX hx hy hd U (λh=>azm) λw=>by
  have:¬((9223372036854775807:Int)<(s.size:Int)+(t.size:Int)):=by omega
  simp[binOp,Op.stringOp,this]
end strings
section ajZ
variable{T:TypeId}{c:Bool}
theorem aij(hT:P.underlying T=some .bool)(hx:Ev x (bB b) R1)(hy:Ev y (bB c) R2)(hd:Nat.blt dst nt=true):dJ C (Oo dst (.binOp .eql T x y T') ty pos af gd) (R1++R2) [] [(dst,.one (bB (b==c)))] []:=
 gX hx hy hd U (λh=>azm) λw=>aBI
theorem ao5(hT:P.underlying T=some .bool)(hx:Ev x (bB b) R1)(hy:Ev y (bB c) R2)(hd:Nat.blt dst nt=true):dJ C (Oo dst (.binOp .neq T x y T') ty pos af gd) (R1++R2) [] [(dst,.one (bB (!(b==c))))] []:=
 gX hx hy hd U (λh=>azm) λw=>aBI
theorem KY(hx:Ev x (bB b) R)(hd:Nat.blt dst nt=true):dJ C (Oo dst (.unOp .not T x) ty pos af gd) R [] [(dst,.one (bB (!b)))] []:=
 bu hd U λsl hp β a w hs _ r=>⟨.bool !b,by simp[execOp,BR.aX (hx.ok hs r),Op.unary],RD.v _ U⟩
theorem Si{c:BV}(hx:Ev x (bB true) R1)(hy:Ev y c R2)(hd:Nat.blt dst nt=true):dJ C (Oo dst (.pick x y z) ty pos af gd) (R1++R2) [] [(dst,.one c)] []:=
 bu hd U λsl hp β a w hs _ r=>⟨a.eval y,aAI,hy.ok hs.app.2 r⟩
theorem Sh{c:BV}(hx:Ev x (bB false) R1)(hz:Ev z c R2)(hd:Nat.blt dst nt=true):dJ C (Oo dst (.pick x y z) ty pos af gd) (R1++R2) [] [(dst,.one c)] []:=
 bu hd U λsl hp β a w hs _ r=>⟨a.eval z,aAI,hz.ok hs.app.2 r⟩
theorem KW{k:IntKind}{m:Int}(hS:P.underlying S=some (.int k'))(hT:P.underlying T=some (.int k))(hx:Ev x (bI k' m) R)(hd:Nat.blt dst nt=true):
  dJ C (Oo dst (.convert S T x) ty pos af gd) R [] [(dst,.one (bI k<|k.wrap m))] []:=
 bu hd U λsl hp β a w hs _ r=>⟨.int k<|k.wrap m,by simp[execOp,BR.aX (hx.ok hs r),convert,avm hS,avm hT,Conv.intToInt],RD.v _ U⟩
end ajZ
end
def Info(P:Program)(t:Nat)(z:Value)(size bytes:Nat):Prop:=∃i,P.info? t=some i/\i.zero=some z/\i.size=size/\i.bytes=bytes
variable{bytes:Nat}
theorem Info.of{z:Value}(h:(P.info? t).map (λi=>(i.zero,i.size,i.bytes))=some (some z,size,bytes)):Info P t z size bytes:=by
 cases hi:P.info? t with
 | none=>rw[hi]at h;cases h
 | some i=>rw[hi]at h;simp at h;exact⟨i,hi,h.1,h.2.1,h.2.2⟩
def qJ:TypeDesc->Bool
 | .struct _ | .array _ _=>true
 | _=>false
variable{d:TypeDesc}
section
variable{z:Value}
theorem Info.sizeOf(h:Info P t z size bytes):(sizeOf t).run P w= .ok size w:=by
 obtain⟨i,h1,_,h3,_⟩:=h;simp[Go.sizeOf,typeInfo,h1,h3]
theorem Info.zero(h:Info P t z size bytes):(zeroValue t).run P w= .ok z w:=by
 obtain⟨i,h1,h2,_,_⟩:=h;simp[zeroValue,typeInfo,h1,h2]
theorem rj(h:P.underlying t=some d):(isAgg t).run P w= .ok (qJ d) w:=by
 cases d<;>simp[isAgg,avm h,qJ]
end
variable{T k:Nat}{fs:Array Field}{f:Nat}{Ex:Field}{zz:Value}{off off':Nat}{cs cs' ds:List DV}{es:List (List DV)}{i:Int}
section
theorem s9{b o:Nat}(hS:P.underlying S=some (.struct fs))(hf:fs[f]? =some Ex)
  (hI:Info P Ex.type zz size bytes) (hz:size≠0):(Instr.fieldAt S (.pointer<|some ⟨b,o,none⟩) f).run P w= .ok (.pointer<|some ⟨b,o+Ex.offset,none⟩) w:=by
 simp[Instr.fieldAt,avm hS,hf,Instr.sureAddr,fieldPlace,hI.sizeOf,hz,awr]
theorem gK(hS:P.underlying S=some (.struct fs))(hf:fs[f]? =some Ex)
  (hI:Info P Ex.type zz size bytes) (hz:size≠0) (he:off+Ex.offset=off') (hx:Ev x (.ptr k off) R) (hd:Nat.blt dst nt=true):
  dJ C (Oo dst (.fieldAddr S x f) ty pos af gd) R [] [(dst,.one (.ptr k off'))] []:=
 bu hd U λsl hp β a w hs _ r=>by
  obtain⟨he',b,hb,hu⟩:=hx.ok hs r;refine⟨.pointer<|some ⟨b,off',none⟩,?_,he',b,hb,U⟩;simp[execOp,hu,s9 hS hf hI hz,he]
theorem YM(hS:P.underlying S=some (.struct fs))(hf:fs[f]? =some Ex)
  (hI:Info P Ex.type zz size bytes) (hz:size≠0) (he:cs.drop Ex.offset=cs') (hx:Ev x (.ep cs) R) (hd:Nat.blt dst nt=true):
  dJ C (Oo dst (.fieldAddr S x f) ty pos af gd) R [] [(dst,.one (.ep cs'))] []:=
 bu hd U λsl hp β a w hs _ r=>by
  obtain⟨b,o,hu,hc⟩:=hx.ok hs r;refine⟨.pointer<|some ⟨b,o+Ex.offset,none⟩,?_,b,o+Ex.offset,U,λj d hj=>?_⟩
  ·simp[execOp,hu,s9 hS hf hI hz]
  ·subst he
   rw[awm]at hj;simpa[axp]using hc _ d hj
theorem jx{t:TypeId}{cs:List BV}{c:BV}(hU:P.underlying t=some d)(hA:qJ d=false)(hc:cs[off]? =some c)
  (hx:Ev x (.ptr k off) R) (hd:Nat.blt dst nt=true):dJ C (Oo dst (.load t x) ty pos af gd) R [(k,some (.blk T cs))] [(dst,.one c)] []:=
 bu hd U λsl hp β a w hs hh r=>by
  obtain⟨_,b,hb,hu⟩:=hx.ok hs r;obtain⟨b',arr,hb',hheap,hsz,hcell⟩:=r.hp k _ hh.1;rw[hb]at hb';cases hb';obtain⟨u,za,_,hr⟩:=hcell off c hc;have hcl:w.cell? ⟨b,off,none⟩=some u:=by rw[awM w b off arr T _ hheap];exact za
  exact⟨u,az7,hr⟩
theorem NQ{t:TypeId}{c:DV}(hU:P.underlying t=some d)(hA:qJ d=false)(hc:cs[0]? =some c)
  (hx:Ev x (.ep cs) R) (hd:Nat.blt dst nt=true):dJ C (Oo dst (.load t x) ty pos af gd) R [] [(dst,.one (.g<|.d c))] []:=
 bu hd U λsl hp β a w hs hh r=>by
  obtain⟨b,o,hu,hcell⟩:=hx.ok hs r;obtain⟨u,za,_,hr⟩:=hcell 0 c hc;exact⟨u,by simp[execOp,hu,Instr.loadAt,Instr.sureAddr,loadVar,rj hU,hA,show w.cell? ⟨b,o,none⟩=some u from za],hr⟩
abbrev dat(ds:List DV):List BV:=ds.map λd=>BV.g (.d d)
theorem mg{t:TypeId}{b o:Nat}(hU:P.underlying t=some d)(hA:qJ d=true)(hI:Info P t zz n bytes)
  (f:Nat->Value) (h:∀j,j<n->w.cell? ⟨b,o+j,none⟩=some (f j)):(Instr.loadAt t<|.pointer<|some ⟨b,o,none⟩).run P w= .ok (.agg ((List.range n).map f).toArray) w:=by
 simp[Instr.loadAt,Instr.sureAddr,loadVar,rj hU,hA,hI.sizeOf,run_loadCells (P:=P) w ⟨b,o,none⟩ n f (λj hj=>by rw[awr];exact h j hj)]
theorem oR{t:TypeId}{cs:List BV}(hU:P.underlying t=some d)(hA:qJ d=true)(hI:Info P t zz ds.length bytes)
  (hc:(cs.drop off).take ds.length=dat ds) (hx:Ev x (.ptr k off) R) (hd:Nat.blt dst nt=true):dJ C (Oo dst (.load t x) ty pos af gd) R [(k,some (.blk T cs))] [(dst,.one (.g<|.agg ds))] []:=
 bu hd U λsl hp β a w hs hh r=>by
  obtain⟨_,b,hb,hu⟩:=hx.ok hs r;obtain⟨b',arr,hb',hheap,hsz,hcell⟩:=r.hp k _ hh.1;rw[hb]at hb';cases hb';have key:∀j dd,ds[j]? =some dd->∃u,arr[off+j]? =some u/\RD (Mu C hp β) w u dd:=by
   intro j dd hj;have hl:j<ds.length:=(avl.1 hj).1
   have:cs[off+j]? =some (.g<|.d dd):=by
    have e:((cs.drop off).take ds.length)[j]? =(dat ds)[j]? :=by rw[hc]
    rw[awv,avk hl,awm]at e;rw[e];simp[dat,hj]
   obtain⟨u,h1,_,h3⟩:=hcell _ _ this;exact⟨u,h1,h3⟩
  have KA:∀j,j<ds.length->w.cell? ⟨b,off+j,none⟩=some ((λj=>arr.getD (off+j) undef) j):=by
   intro j hj;obtain⟨u,h1,_⟩:=key j ds[j] azT;rw[awM w b _ arr T _ hheap];simp[h1]
  refine⟨.agg ((List.range ds.length).map λj=>arr.getD (off+j) undef).toArray,?_,_,U,ayW,λj dd hj=>?_⟩
  ·simp only[execOp,hu,avw]
   rw[mg hU hA hI _ KA];rfl
  ·obtain⟨u,h1,h2⟩:=key j dd hj
   have hl:j<ds.length:=(avl.1 hj).1
   exact⟨u,by simp[hl,h1],h2⟩
theorem DM{t:TypeId}(hU:P.underlying t=some d)(hA:qJ d=true)(hI:Info P t zz ds.length bytes)
  (hc:cs.take ds.length=ds) (hx:Ev x (.ep cs) R) (hd:Nat.blt dst nt=true):dJ C (Oo dst (.load t x) ty pos af gd) R [] [(dst,.one (.g<|.agg ds))] []:=
 bu hd U λsl hp β a w hs hh r=>by
  obtain⟨b,o,hu,hcell⟩:=hx.ok hs r;have key:∀j dd,ds[j]? =some dd->∃u,w.cell? ⟨b,o+j,none⟩=some u/\RD (Mu C hp β) w u dd:=by
   intro j dd hj;have hl:j<ds.length:=(avl.1 hj).1
   have:cs[j]? =some dd:=by
    have e:(cs.take ds.length)[j]? =ds[j]? :=by rw[hc]
    rw[awv,avk hl]at e;rw[e,hj]
   obtain⟨u,h1,_,h3⟩:=hcell _ _ this;exact⟨u,h1,h3⟩
  have KA:∀j,j<ds.length->w.cell? ⟨b,o+j,none⟩=some ((λj=>(w.cell? ⟨b,o+j,none⟩).getD undef) j):=by
   intro j hj;obtain⟨u,h1,_⟩:=key j ds[j] azT;simp[h1]
  refine⟨.agg ((List.range ds.length).map λj=>(w.cell? ⟨b,o+j,none⟩).getD undef).toArray,?_,_,U,ayW,λj dd hj=>?_⟩
  ·simp only[execOp,hu,avw]
   rw[mg hU hA hI _ KA];rfl
  ·obtain⟨u,h1,h2⟩:=key j dd hj
   have hl:j<ds.length:=(avl.1 hj).1
   exact⟨u,by simp[hl,h1],h2⟩
theorem acr{T E:TypeId}{k:IntKind}(hT:P.underlying T=some (.slice E))(hI:Info P E zz size bytes)
  (h0:0<=i) (hi:es[i.toNat]? =some cs) (hx:Ev x (.g<|.d<|.sl size es) R1) (hy:Ev y (bI k i) R2) (hd:Nat.blt dst nt=true):
  dJ C (Oo dst (.indexAddr T x y) ty pos af gd) (R1++R2) [] [(dst,.one (.ep cs))] []:=
 bu hd U λsl hp β a w hs hh r=>by
  have h1:=hx.ok hs.app.1 r;have h2:=BR.aX (hy.ok hs.app.2 r);have hlt:i.toNat<es.length:=(avl.1 hi).1
  generalize hxx:a.eval x=u at h1;cases h1 with
  | sl ad cap sz es vals b o hc hm ha hsz hv hr=>
   have hne:es≠[]:=λc=>by simp[c]at hlt
   obtain rfl:=ha hne;refine⟨.pointer<|some ⟨b,o+i.toNat*size,none⟩,?_,b,o+i.toNat*size,U,λj d hj=>?_⟩
   ·have hb:0<=i/\i<(es.length:Int):=⟨h0,ayT⟩
    simp only[execOp,h2,hxx,Instr.indexAt,asIntOf,avw,avF,avt,avm hT,Bool.and_false,hb,ayB,avM,hI.sizeOf,awr,avn,avB]
   ·rw[axp]
    exact⟨_,(hv _ _ j d hi hj).1,(hv _ _ j d hi hj).2,hr _ _ j d hi hj⟩
end
def dQ(β:Nat->Option Nat)(k:Nat)(b:Option Nat):Nat->Option Nat:=λk'=>if k'=k then b else β k'
def BV.sg:BV->Prop
 | .x v=>v.oneCell'=true
 | .g (.agg _)=>False
 | .own _ _=>False
 | .any _=>False
 | .ro _=>False
 | .yg _=>False
 | _=>True
theorem BR.one{P:Program}{nt:Nat}{C:Cx P nt}{hp:HL}{β:Nat->Option Nat}{w:World}{c:BV}{u:Value}(h:BR C hp β w c u)(hc:c.sg):u.oneCell'=true:=by
 cases c with
 | x v=>cases h;exact hc
 | g a=>cases a with
  | d d=>exact RD.one h
  | agg cs=>exact hc.elim
 | ptr k off=>obtain⟨_,b,_,rfl⟩:=h;rfl
 | ep cs=>obtain⟨b,o,rfl,_⟩:=h;rfl
 | own k es=>exact hc.elim
 | cp size es=>exact RD.one h.1
 | yh f caps=>obtain⟨us,rfl,_⟩:=h;rfl
 | sem Φ=>obtain⟨f,caps,rfl,_⟩:=h;rfl
 | rp k es off=>obtain⟨s,_,b,l,c,_,rfl⟩:=h;rfl
 | pv k Ψ=>obtain⟨_,b,_,_,h⟩:=h;exact h
 | any n=>exact hc.elim
 | ro Φ=>exact hc.elim
 | yg a=>exact hc.elim
variable{w1:World}{bo:Option Nat}
theorem dD.new(r:dD C ⟨sl,hp⟩ β a w){e:HE}
  (hk:aE hp k=none) (Hj:Nat.blt 0 k=true) (hw:Below w.heap.size w w1) (Fb:∀b,bo=some b->b=w.heap.size/\b<w1.heap.size)
  (hH:(∀c u,BR C hp β w c u->BR C ((k,some e)::hp) (dQ β k bo) w1 c u)->
   (∀u d,RD (Mu C hp β) w u d->RD (Mu C ((k,some e)::hp) (dQ β k bo)) w1 u d)->HR C ((k,some e)::hp) (dQ β k bo) w1 k e):
  dD C ⟨sl,(k,some e)::hp⟩ (dQ β k bo) a w1/\(∀c u,BR C hp β w c u->BR C ((k,some e)::hp) (dQ β k bo) w1 c u):=by
 have hne:∀k' e',aE hp k'=some e'->k'≠k:=λk' e' h c=>by rw[c,hk]at h;cases h
 have fD:∀k' e',aE hp k'=some e'->aE ((k,some e)::hp) k'=some e'/\dQ β k bo k'=β k':=λk' e' h=>by
  have:=hne k' e' h;exact⟨by rw[aG,avj (λc=>this c.symm)];exact h,by simp[dQ,this]⟩
 have hst:∀b o x,¬Mu C hp β b o->w.cell? ⟨b,o,none⟩=some x->w1.cell? ⟨b,o,none⟩=some x/\¬Mu C ((k,some e)::hp) (dQ β k bo) b o:=by
  intro b o x hn hx;have hlt:=cz hx;refine⟨by rw[hw.cell (p:=⟨b,o,none⟩) hlt];exact hx,?_⟩;rintro(hM | ⟨k',e',he',hb',hm'⟩)
  ·exact hn (.inl hM)
  ·rw[aG]at he'
   by_cases hkk:k=k'
   ·subst hkk
    simp only[dQ,avM]at hb';have:=(Fb b hb').1
    omega
   ·rw[avj hkk]at he'
    simp only[dQ,avj (λc=>hkk<|Eq.symm c)]at hb';exact hn (.inr ⟨k',e',he',hb',hm'⟩)
 have Hi:∀c u,BR C hp β w c u->BR C ((k,some e)::hp) (dQ β k bo) w1 c u:=by
  intro c u h;refine BR.kept hst (λk' _ e' he' hr=>⟨⟨e',(fD k' e' he').1,hr⟩,(fD k' e' he').2⟩) (λk' B5 u _ h=>?_) h;obtain⟨T,size,es,ex,hh,hl,hr⟩:=h;refine⟨T,size,es,ex,(fD k' _ hh).1,hl,λhq=>(hr hq).imp (λ⟨h1,h2⟩=>⟨(fD k' _ hh).2.trans h1,h2⟩) ?_⟩;rintro⟨b,cap,cur,h1,h2,h3,h4,h5,h6⟩;exact⟨b,cap,cur,(fD k' _ hh).2.trans h1,h2,h3,h4,by rw[hw.block b (avo.1 h5).1];exact h5,h6⟩
 have FN:∀u d,RD (Mu C hp β) w u d->RD (Mu C ((k,some e)::hp)<|dQ β k bo) w1 u d:=λu d h=>h.mono hst;refine⟨⟨r.keep.below hw,r.low,?_,?_,?_,?_,r.size,r.df,λb hb=>?_⟩,Hi⟩
 ·intro k1 k2 e1 e2 b h1 h2 hb1 hb2
  simp only[aG]at h1 h2;by_cases c1:k=k1<;>by_cases c2:k=k2
  ·omega
  ·subst c1
   rw[avj c2]at h2;simp only[dQ,avM]at hb1;simp only[dQ,avj (λc=>c2<|Eq.symm c)]at hb2;have h3:=(Fb b hb1).1
   have h4:=(r.own k2 e2 b h2 hb2).2
   omega
  ·subst c2
   rw[avj c1]at h1;simp only[dQ,avM]at hb2;simp only[dQ,avj (λc=>c1<|Eq.symm c)]at hb1;have h3:=(Fb b hb2).1
   have h4:=(r.own k1 e1 b h1 hb1).2
   omega
  ·rw[avj c1]at h1
   rw[avj c2]at h2;simp only[dQ,avj (λc=>c1<|Eq.symm c)]at hb1;simp only[dQ,avj (λc=>c2<|Eq.symm c)]at hb2;exact r.inj k1 k2 e1 e2 b h1 h2 hb1 hb2
 ·intro k1 e1 b h1 hb1
  simp only[aG]at h1;by_cases c1:k=k1
  ·subst c1
   simp only[dQ,avM]at hb1;obtain⟨h3,h4⟩:=Fb b hb1;exact⟨.inl<|h3 ▸ r.keep.size,h4⟩
  ·rw[avj c1]at h1
   simp only[dQ,avj (λc=>c1<|Eq.symm c)]at hb1;exact⟨(r.own k1 e1 b h1 hb1).1,avE (r.own k1 e1 b h1 hb1).2 hw.size⟩
 ·intro k1 e1 h1
  simp only[aG]at h1;by_cases c1:k=k1
  ·subst c1
   rw[avk rfl]at h1;cases h1;exact hH Hi FN
  ·rw[avj c1]at h1
   have h2:=fD k1 e1 h1;have h3:=r.hp k1 e1 h1;cases e1 with
   | blk T cs=>
    obtain⟨b,arr,q1,q2,q3,q4⟩:=h3;exact⟨b,arr,h2.2.trans q1,azB,q3,λj c hc=>let⟨u,hu,ho,hr⟩:=q4 j c hc;⟨u,hu,ho,Hi c u hr⟩⟩
   | row T size es ex=>
    obtain⟨hz,hs,hr⟩:=h3;refine⟨hz,hs,hr.imp (λ⟨q1,q2⟩=>⟨h2.2.trans q1,q2⟩) ?_⟩;rintro⟨b,cur,q1,q2,q3,q4⟩;exact⟨b,cur,h2.2.trans q1,azB,q3,λi cs j d hi hj=>let⟨u,hu,hr⟩:=q4 i cs j d hi hj;⟨u,hu,hr.mono hst⟩⟩
   | it s pos=>
    obtain⟨b,q1,q2⟩:=h3;exact⟨b,h2.2.trans q1,azB⟩
   | pr Φ=>
    obtain⟨b,o,q1,q2,q3⟩:=h3;exact⟨b,o,h2.2.trans q1,azB,q3⟩
   | map es=>
    obtain⟨b,cm,q1,q2,q3,q4⟩:=h3;exact⟨b,cm,h2.2.trans q1,azB,q3,λi e he=>let⟨x,p1,p2,p3,p4⟩:=q4 i e he;⟨x,p1,p2,p3,p4.mono hst⟩⟩
   | ZV T E kk s=>
    obtain⟨q0,b,p,v,q1,q2,q3,q4,q5⟩:=h3;have q0':=fD kk _ q0;exact⟨q0'.1,b,p,v,h2.2.trans q1,q2,by rw[hw.block b (avo.1 q3).1];exact q3,dz q4 λg hg=>hw.block g<|wm q4 hg,q5.trans q0'.2.symm⟩
   | hid _ _=>trivial
   | obj _=>exact h2.2.trans h3
 ·intro t sv hs
  have h1:=r.sl t sv hs;cases sv with
  | one b=>exact Hi _ _ h1
  | eV l=>
   obtain⟨us,q1,q2,q3⟩:=h1;exact⟨us,q1,q2,λi b hi=>let⟨x,hx,hr⟩:=q3 i b hi;⟨x,hx,Hi _ _ hr⟩⟩
  | dead=>trivial
 ·obtain⟨f1,f2⟩:=r.fx b hb
  have Hj:k≠0:=λc=>by subst c;simp at Hj
  exact⟨aA0,λe1 he=>by rw[aG,avj Hj]at he;exact f2 e1 he⟩
theorem dD.chg(r:dD C ⟨sl,hp⟩ β a w){e0 e:HE}
  (hk:aE hp k=some e0)
  (hos:w1.os=w.os) (RJ:w1.tape=w.tape) (hout:w1.output=w.output) (hsize:w.heap.size<=w1.heap.size) (AD:∀i,i<w.heap.size->some i≠β k->w1.heap[i]? =w.heap[i]?)
  (hcell:∀b o x,β k=some b->w.cell? ⟨b,o,none⟩=some x->¬e0.xK o->w1.cell? ⟨b,o,none⟩=some x)
  (Fb:(bo=β k/\∀o,e.xK o->e0.xK o)\/(∃nb,bo=some nb/\w.heap.size<=nb/\nb<w1.heap.size))
  (hrow:e.isRow=e0.isRow/\(e0.isRow=false->bo=β k))
  (hown:∀B5 u,BR C hp β w (.own k B5) u->BR C ((k,some e)::hp) (dQ β k bo) w1 (.own k B5) u)
  (hH:(∀c u,BR C hp β w c u->BR C ((k,some e)::hp) (dQ β k bo) w1 c u)->
   (∀u d,RD (Mu C hp β) w u d->RD (Mu C ((k,some e)::hp) (dQ β k bo)) w1 u d)->HR C ((k,some e)::hp) (dQ β k bo) w1 k e) (anV:∀j,e0≠.hid true j:=by intro j c;cases c):
  dD C ⟨sl,(k,some e)::hp⟩ (dQ β k bo) a w1/\
   (∀c u,BR C hp β w c u->BR C ((k,some e)::hp) (dQ β k bo) w1 c u)/\
   (∀u d,RD (Mu C hp β) w u d->RD (Mu C ((k,some e)::hp)<|dQ β k bo) w1 u d):=by
 have fD:∀k' e',k'≠k->aE hp k'=some e'->aE ((k,some e)::hp) k'=some e'/\dQ β k bo k'=β k':=λk' e' hn h=>
  ⟨by rw[aG,avj (λc=>hn c.symm)];exact h,by simp[dQ,hn]⟩
 have hid:∀k' j,aE hp k'=some (.hid true j)->k'≠k:=λk' j h c=>by subst c;rw[hk]at h;cases h;exact anV j U
 have kJ:∀k' e' b o,k'≠k->aE hp k'=some e'->β k'=some b->w.heap[b]? =some o->w1.heap[b]? =some o:=λk' e' b o hn h hb ho=>by
  rw[AD b (avo.1 ho).1 (λc=>hn<|r.inj k' k e' e0 b h hk hb c.symm)];exact ho
 have hst:∀b o x,¬Mu C hp β b o->w.cell? ⟨b,o,none⟩=some x->w1.cell? ⟨b,o,none⟩=some x/\¬Mu C ((k,some e)::hp) (dQ β k bo) b o:=by
  intro b o x hn hx;have hlt:=cz hx;constructor
  ·by_cases hb:some b=β k
   ·exact hcell b o x hb.symm hx (λc=>hn<|.inr ⟨k,e0,hk,hb.symm,c⟩)
   ·rw[awh (w:=w) (a:=⟨b,o,none⟩) (AD b hlt hb)];exact hx
  ·rintro(hM | ⟨k',e',he',hb',hm'⟩)
   ·exact hn (.inl hM)
   ·rw[aG]at he'
    by_cases hkk:k=k'
    ·subst hkk
     rw[avk rfl]at he';cases he';simp only[dQ,avM]at hb';rcases Fb with⟨h1,h2⟩ | ⟨nb,h1,h2,_⟩
     ·exact hn (.inr ⟨k,e0,hk,h1 ▸ hb',h2 o hm'⟩)
     ·rw[h1]at hb'
      cases hb';omega
    ·rw[avj hkk]at he'
     simp only[dQ,avj (λc=>hkk<|Eq.symm c)]at hb';exact hn (.inr ⟨k',e',he',hb',hm'⟩)
 have FN:∀u d,RD (Mu C hp β) w u d->RD (Mu C ((k,some e)::hp)<|dQ β k bo) w1 u d:=λu d h=>h.mono hst;have Hi:∀c u,BR C hp β w c u->BR C ((k,some e)::hp) (dQ β k bo) w1 c u:=by
  intro c u h;refine BR.kept hst (λk' _ e' he' hr=>?_) (λk' B5 u _ h=>?_) h
  ·by_cases c:k'=k
   ·subst c
    rw[hk]at he';cases he';exact⟨⟨e,azp,hrow.1.trans hr⟩,by simp[dQ,hrow.2 hr]⟩
   ·exact⟨⟨e',(fD k' e' c he').1,hr⟩,(fD k' e' c he').2⟩
  ·by_cases c:k'=k
   ·subst c
    exact hown B5 u h
   ·obtain⟨T,size,es,ex,hh,hl,hr⟩:=h
    have h2:=fD k' _ c hh;refine⟨T,size,es,ex,h2.1,hl,λhq=>(hr hq).imp (λ⟨h1,h3⟩=>⟨h2.2.trans h1,h3⟩) ?_⟩;rintro⟨b,cap,cur,q1,q2,q3,q4,q5,q6⟩;exact⟨b,cap,cur,h2.2.trans q1,q2,q3,q4,kJ k' _ b _ c hh q1 q5,q6⟩
 refine⟨⟨?_,r.low,?_,?_,?_,?_,r.size,r.df,λb hb=>?_⟩,Hi,FN⟩
 ·refine⟨hos.trans r.keep.os,RJ.trans r.keep.tape,hout.trans r.keep.output,awa r.keep.size hsize,λi hi hK=>?_⟩
  rw[AD i (avE hi r.keep.size) (λc=>?_)]
  ·exact r.keep.block i hi hK
  ·rcases(r.own k e0 i hk c.symm).1 with h1 | h1
   ·omega
   ·exact hK h1
 ·intro k1 k2 e1 e2 b h1 h2 hb1 hb2
  simp only[aG]at h1 h2;by_cases c1:k=k1<;>by_cases c2:k=k2
  ·omega
  ·subst c1
   rw[avj c2]at h2;simp only[dQ,avM]at hb1;simp only[dQ,avj (λc=>c2<|Eq.symm c)]at hb2;rcases Fb with⟨h3,_⟩ | ⟨nb,h3,h3',_⟩
   ·exact r.inj k k2 e0 e2 b hk h2 (h3 ▸ hb1) hb2
   ·rw[h3]at hb1
    cases hb1;have h4:=(r.own k2 e2 _ h2 hb2).2
    omega
  ·subst c2
   rw[avj c1]at h1;simp only[dQ,avM]at hb2;simp only[dQ,avj (λc=>c1<|Eq.symm c)]at hb1;rcases Fb with⟨h3,_⟩ | ⟨nb,h3,h3',_⟩
   ·exact r.inj k1 k e1 e0 b h1 hk hb1 (h3 ▸ hb2)
   ·rw[h3]at hb2
    cases hb2;have h4:=(r.own k1 e1 _ h1 hb1).2
    omega
  ·rw[avj c1]at h1
   rw[avj c2]at h2;simp only[dQ,avj (λc=>c1<|Eq.symm c)]at hb1;simp only[dQ,avj (λc=>c2<|Eq.symm c)]at hb2;exact r.inj k1 k2 e1 e2 b h1 h2 hb1 hb2
 ·intro k1 e1 b h1 hb1
  simp only[aG]at h1;by_cases c1:k=k1
  ·subst c1
   simp only[dQ,avM]at hb1;rcases Fb with⟨h3,_⟩ | ⟨nb,h3,h3',h4⟩
   ·have:=r.own k e0 b hk (h3 ▸ hb1)
    exact⟨this.1,avE this.2 hsize⟩
   ·rw[h3]at hb1
    cases hb1;exact⟨.inl<|awa r.keep.size h3',h4⟩
  ·rw[avj c1]at h1
   simp only[dQ,avj (λc=>c1<|Eq.symm c)]at hb1;exact⟨(r.own k1 e1 b h1 hb1).1,avE (r.own k1 e1 b h1 hb1).2 hsize⟩
 ·intro k1 e1 h1
  simp only[aG]at h1;by_cases c1:k=k1
  ·subst c1
   rw[avk rfl]at h1;cases h1;exact hH Hi FN
  ·rw[avj c1]at h1
   have Ow:k1≠k:=λc=>c1 c.symm;have h2:=fD k1 e1 Ow h1;have h3:=r.hp k1 e1 h1;cases e1 with
   | blk T cs=>
    obtain⟨b,arr,q1,q2,q3,q4⟩:=h3;exact⟨b,arr,h2.2.trans q1,kJ k1 _ b _ Ow h1 q1 q2,q3,λj c hc=>let⟨u,hu,ho,hr⟩:=q4 j c hc;⟨u,hu,ho,Hi c u hr⟩⟩
   | row T size es ex=>
    obtain⟨hz,hs,hr⟩:=h3;refine⟨hz,hs,hr.imp (λ⟨q1,q2⟩=>⟨h2.2.trans q1,q2⟩) ?_⟩;rintro⟨b,cur,q1,q2,q3,q4⟩;exact⟨b,cur,h2.2.trans q1,kJ k1 _ b _ Ow h1 q1 q2,q3,λi cs j d hi hj=>let⟨u,hu,hr⟩:=q4 i cs j d hi hj;⟨u,hu,hr.mono hst⟩⟩
   | it s pos=>
    obtain⟨b,q1,q2⟩:=h3;exact⟨b,h2.2.trans q1,kJ k1 _ b _ Ow h1 q1 q2⟩
   | pr Φ=>
    obtain⟨b,o,q1,q2,q3⟩:=h3;exact⟨b,o,h2.2.trans q1,kJ k1 _ b _ Ow h1 q1 q2,q3⟩
   | map es=>
    obtain⟨b,cm,q1,q2,q3,q4⟩:=h3;exact⟨b,cm,h2.2.trans q1,kJ k1 _ b _ Ow h1 q1 q2,q3,λi e he=>let⟨x,p1,p2,p3,p4⟩:=q4 i e he;⟨x,p1,p2,p3,p4.mono hst⟩⟩
   | ZV T E kk s=>
    obtain⟨q0,b,p,v,q1,q2,q3,q4,q5⟩:=h3;have ckk:kk≠k:=hid kk _ q0;have q0':=fD kk _ ckk q0;exact⟨q0'.1,b,p,v,h2.2.trans q1,q2,kJ k1 _ b _ Ow h1 q1 q3,dz q4 (λg hg=>by
     obtain⟨o,ho⟩:∃o,w.heap[g]? =some o:=⟨_,av2<|wm q4 hg⟩;rw[ho];exact kJ kk _ g o ckk q0 (q5.symm.trans hg) ho),q5.trans q0'.2.symm⟩
   | hid _ _=>trivial
   | obj _=>exact h2.2.trans h3
 ·intro t sv hs
  have h1:=r.sl t sv hs;cases sv with
  | one b=>exact Hi _ _ h1
  | eV l=>
   obtain⟨us,q1,q2,q3⟩:=h1;exact⟨us,q1,q2,λi b hi=>let⟨x,hx,hr⟩:=q3 i b hi;⟨x,hx,Hi _ _ hr⟩⟩
  | dead=>trivial
 ·obtain⟨f1,f2⟩:=r.fx b hb
  by_cases c:k=0
  ·subst c
   have h1:=f2 e0 hk;exact⟨by simp only[dQ,avM];rw[hrow.2 h1];exact f1,λe1 he=>by rw[aG,avk U]at he;cases he;exact hrow.1.trans h1⟩
  ·exact⟨by simp only[dQ,avj (Ne.symm c)];exact f1,λe1 he=>by rw[aG,avj c]at he;exact f2 e1 he⟩
inductive ZC:Value->BV->Prop
 | v (x:Value) (h:x.oneCell'=true):ZC x (dv x)
 | n (size:Nat):ZC (.slice none 0 0) (.g<|.d<|.sl size [])
 | x (v:Value) (h:v.oneCell'=true):ZC v (.x v)
def ZL:List Value->List BV->Prop
 | [],[]=>True
 | v::vs,c::cs=>ZC v c/\ZL vs cs
 | _,_=>False
theorem ZC.br{c:BV}(h:ZC v c):BR C hp β w c v/\v.oneCell'=true:=by
 cases h with
 | v x h=>exact⟨RD.v v h,h⟩
 | n size=>exact⟨RD.nil none 0 size<|av5 _,U⟩
 | x v h=>exact⟨U,h⟩
theorem ZL.br{P:Program}{nt:Nat}{C:Cx P nt}{hp:HL}{β:Nat->Option Nat}{w:World}:∀{vs:List Value}{cs:List BV},ZL vs cs->vs.length=cs.length/\∀(j:Nat)(c:BV),cs[j]? =some c->∃u,vs[j]? =some u/\u.oneCell'=true/\BR C hp β w c u
 | [],[],_=>⟨U,λj c h=>ay4⟩
 | v::vs,c::cs,⟨h1,h2⟩=>by
  obtain⟨h3,h4⟩:=ZL.br (C:=C) (hp:=hp) (β:=β) (w:=w) h2;refine⟨by simp[h3],λj c' hj=>?_⟩;cases j with
  | zero=>simp at hj;subst hj;exact⟨v,U,(h1.br (C:=C) (hp:=hp) (β:=β) (w:=w)).2,h1.br.1⟩
  | succ j=>simpa using h4 j c' azg
theorem dM(w:World)(o:Obj):Below w.heap.size w (w.alloc o):=⟨U,U,U,ayW,λk hk=>axx w o hk⟩
variable{E:Nat}{α:Type}{ex:Bool}{k1:Nat}
section
theorem dD.Vk(r:dD C ⟨sl,hp⟩ β a w)(hk:aE hp k=none)(Hj:Nat.blt 0 k=true){arr:Array Value}{cs:List BV}
  (hl:arr.size=cs.length) (hc:∀(j:Nat)(c:BV),cs[j]? =some c->∃u,arr[j]? =some u/\u.oneCell'=true/\BR C hp β w c u) (hd:dst<nt):
  Rel C ⟨(dst,.one (.ptr k 0))::sl,(k,some (.blk T cs))::hp⟩ (a.put (some dst)<|.pointer<|some ⟨w.heap.size,0,none⟩) (w.alloc<|.cells arr T):=by
 have h:=(r.new (e:=.blk T cs) (bo:=some w.heap.size) hk Hj (dM w<|.cells arr T) (λb hb=>azY) λHi _=>
  ⟨w.heap.size,arr,azr,awB w _,hl,λj c hj=>let⟨u,h1,h2,h3⟩:=hc j c hj;⟨u,h1,h2,Hi c u h3⟩⟩).1
 refine⟨_,h.put (avU _ _) hd ⟨⟨.blk T cs,azp,U⟩,w.heap.size,azr,U⟩⟩
theorem Gq{T:TypeId}{zv:Value}{cs:List BV}(hI:Info P T zv n bytes)(hz:ZL zv.cells.toList cs)(hd:Nat.blt dst nt=true)(Hj:Nat.blt 0 k=true:=by rfl):
  dJ C (Oo dst (.alloc T) ty pos af gd) [] [(k,none)] [(dst,.one (.ptr k 0))] [(k,some (.blk T cs))]:=by
 refine⟨λsl hp hs hh a w K Q⟨β,r⟩ hK=>?_⟩;have hb:=ZL.br (C:=C) (hp:=hp) (β:=β) (w:=w) hz;unfold Oper.wp;have:(execOp a.eval<|Oo dst (.alloc T) ty pos af gd).run P w= .ok (.value<|.pointer<|some ⟨w.heap.size,0,none⟩) (w.alloc<|.cells zv.cells T):=by
  simp[execOp,Instr.alloc,hI.zero,newVar,newRow]
 rw[this];exact hK _ _ (r.Vk hh.1 Hj aAk aAj<|by simpa using hd)
theorem aff{T:TypeId}{c:BV}(hc:c.sg)(hx:Ev x c R)(hd:Nat.blt dst nt=true)(Hj:Nat.blt 0 k=true:=by rfl):
  dJ C (Oo dst (.box T x) ty pos af gd) R [(k,none)] [(dst,.one (.ptr k 0))] [(k,some (.blk T [c]))]:=by
 refine⟨λsl hp hs hh a w K Q⟨β,r⟩ hK=>?_⟩;have hb:=hx.ok hs r;have h1:=BR.one hb hc;unfold Oper.wp;have:(execOp a.eval<|Oo dst (.box T x) ty pos af gd).run P w= .ok (.value<|.pointer<|some ⟨w.heap.size,0,none⟩) (w.alloc<|.cells #[a.eval x] T):=by
  have:(a.eval x).cells= #[a.eval x]:=by generalize a.eval x=u at h1;cases u<;>simp_all [Value.cells,Value.oneCell']
  simp[execOp,Instr.box,newVar,newRow,this]
 rw[this];refine hK _ _ (r.Vk hh.1 Hj ayW (λj c' hj=>?_)<|by simpa using hd);cases j with
 | zero=>simp at hj;subst hj;exact⟨_,U,h1,hb⟩
 | succ j=>simp at hj
theorem PF{T:TypeId}(hx:Ev x (.g (.agg ds)) R)(hd:Nat.blt dst nt=true)(Hj:Nat.blt 0 k=true:=by rfl):
  dJ C (Oo dst (.box T x) ty pos af gd) R [(k,none)] [(dst,.one (.ptr k 0))] [(k,some (.blk T<|dat ds))]:=by
 refine⟨λsl hp hs hh a w K Q⟨β,r⟩ hK=>?_⟩;obtain⟨us,hu,hl,hc⟩:=hx.ok hs r;unfold Oper.wp;have:(execOp a.eval<|Oo dst (.box T x) ty pos af gd).run P w= .ok (.value<|.pointer<|some ⟨w.heap.size,0,none⟩) (w.alloc<|.cells us T):=by
  simp[execOp,Instr.box,newVar,newRow,hu,Value.cells]
 rw[this];refine hK _ _ (r.Vk hh.1 Hj (by simp[hl,dat]) (λj c' hj=>?_)<|by simpa using hd);simp only[dat,avL,awd]at hj;obtain⟨d,hd,rfl⟩:=hj;obtain⟨u,h1,h2⟩:=hc j d hd;exact⟨u,h1,h2.one,h2⟩
def splice(cs:List BV)(off:Nat)(l:List BV):List BV:=cs.take off++l++cs.drop (off+l.length)
theorem jX(cs:List α)(off:Nat)(l:List α)(h:off+l.length<=cs.length)(j:Nat):
  (cs.take off++l++cs.drop (off+l.length))[j]? =if off<=j/\j<off+l.length then l[j-off]? else cs[j]? :=by
 rw[av6,ayl];have h1:(cs.take off).length=off:=by rw[avC];omega
 rw[h1];split
 ·rw[awv,avk ay6,avj ayT]
 ·rw[ayl]
  split
  ·rw[avk ayT]
  ·rw[awm,avj ayT]
   congr 1;omega
theorem NT{cs l:List BV}{vs:Act->List Value}{ahl:Option Nat}
  (hoff:off+l.length<=cs.length)
  (hx:Ev x (.ptr k off) R1)
  (hrun:∀(sl:SL)(hp:HL) β a w,bK sl (R1++R2)->dD C ⟨sl,hp⟩ β a w->(vs a).length=l.length/\
   (∀ad:Addr,(Instr.storeAt S (.pointer<|some ad)<|a.eval y).run P w=(storeCells ad<|vs a).run P w)/\
   ∀(j:Nat)(c:BV),l[j]? =some c->∃u,(vs a)[j]? =some u/\u.oneCell'=true/\BR C hp β w c u)
  (hd0:ahl=none):
  dJ C ⟨ahl,.store S x y,ty,pos,af,gd⟩ (R1++R2) [(k,some (.blk T cs))] [] [(k,some (.blk T<|splice cs off l))]:=by
 refine⟨λsl hp hs hh a w K Q⟨β,r⟩ hK=>?_⟩;obtain⟨_,b,hb,hu⟩:=hx.ok hs.app.1 r;obtain⟨hvl,hst,hvc⟩:=hrun sl hp β a w hs r;obtain⟨b',arr,hb',hheap,hsz,hcell⟩:=r.hp k _ hh.1;rw[hb]at hb';cases hb';have hone:∀v,v∈vs a->v.oneCell'=true:=by
  intro v hv;obtain⟨j,hj,rfl⟩:=avO hv;obtain⟨u,h1,h2,_⟩:=hvc j l[j] ayW;simp[avs hj]at h1;rw[h1];exact h2
 have hsc:=ayd P b off T (vs a) 0 arr w hheap ayT hone;simp only[awE]at hsc;generalize hw1:w.setRow b (List.take off arr.toList++vs a++List.drop (off+(vs a).length) arr.toList).toArray=w1 at hsc
 have hnew:w1.heap[b]? =some (.cells (List.take off arr.toList++vs a++List.drop (off+(vs a).length) arr.toList).toArray T):=by
  rw[<-hw1];exact axU w b arr _ T _ hheap
 have kJ:∀i,i≠b->w1.heap[i]? =w.heap[i]? :=λi hi=>by rw[<-hw1];exact axW w b i _ hi
 have hsize:w1.heap.size=w.heap.size:=by rw[<-hw1];simp[World.setRow]
 unfold Oper.wp;have:(execOp a.eval ⟨ahl,.store S x y,ty,pos,af,gd⟩).run P w= .ok .skip w1:=by
  simp only[execOp,hu,avw,hst,hsc,avt,avF]
 rw[this];subst hd0;refine hK _ _ ⟨dQ β k<|β k,?_⟩;have hlen:(splice cs off l).length=cs.length:=by
  simp only[splice,avz,avC,avZ];omega
 refine(r.chg (e:=.blk T<|splice cs off l) (bo:=β k) hh.1 azh azh azh ayT (λi _ hi=>kJ i λc=>hi<|by rw[c,hb]) (λ_ _ _ _ _ c=>absurd ayS c)
  (.inl ⟨U,λ_ h=>h⟩) ⟨U,λ_=>rfl⟩ (λB5 u h=>?_) (λHi _=>?_)).1
 ·obtain⟨_,_,_,_,h1,_⟩:=h
  rw[hh.1]at h1;cases h1
 ·refine⟨b,_,azv,hnew,?_,λj c hj=>?_⟩
  ·rw[hlen];simp only[avW,avz,avC,avZ,awj];omega
  ·rw[splice,jX cs off l hoff]at hj
   have Ry:(List.take off arr.toList++vs a++List.drop (off+(vs a).length) arr.toList).toArray[j]? =if off<=j/\j<off+l.length then(vs a)[j-off]? else arr[j]? :=by
    rw[awI,jX arr.toList off (vs a) ayV,hvl];simp
   rw[Ry];split at hj
   ·rename_i hin
    rw[avk hin];obtain⟨u,h1,h2,h3⟩:=hvc _ _ hj;exact⟨u,h1,h2,Hi c u h3⟩
   ·rename_i hin
    rw[avj hin];obtain⟨u,h1,h2,h3⟩:=hcell _ _ hj;exact⟨u,h1,h2,Hi c u h3⟩
theorem YV{cs cs':List BV}{c:BV}(hc:c.sg)
  (hI:Info P S zz 1 bytes) (hoff:Nat.blt off cs.length=true) (he:splice cs off [c] =cs') (hx:Ev x (.ptr k off) R1) (hy:Ev y c R2):
  dJ C ⟨none,.store S x y,ty,pos,af,gd⟩ (R1++R2) [(k,some (.blk T cs))] [] [(k,some (.blk T cs'))]:=by
 subst he;refine NT (vs:=λa=>[a.eval y]) (by simp at hoff ⊢;omega) hx (λsl hp β a w hs r=>?_) U;have h1:=hy.ok hs.app.2 r;have h2:=BR.one h1 hc;have h3:(a.eval y).cells= #[a.eval y]:=by generalize a.eval y=u at h2;cases u<;>simp_all [Value.cells,Value.oneCell']
 refine⟨U,λad=>?_,λj c' hj=>?_⟩
 ·simp[Instr.storeAt,Instr.sureAddr,storeVar,h3,hI.sizeOf]
 ·cases j with
  | zero=>simp at hj;subst hj;exact⟨_,U,h2,h1⟩
  | succ j=>simp at hj
theorem YW{cs cs':List BV}
  (hI:Info P S zz ds.length bytes) (hoff:Nat.ble (off+ds.length) cs.length=true) (he:splice cs off (dat ds)=cs') (hx:Ev x (.ptr k off) R1) (hy:Ev y (.g<|.agg ds) R2):
  dJ C ⟨none,.store S x y,ty,pos,af,gd⟩ (R1++R2) [(k,some (.blk T cs))] [] [(k,some (.blk T cs'))]:=by
 subst he;refine NT (vs:=λa=>(a.eval y).cells.toList) (by simp[dat]at hoff ⊢;omega) hx (λsl hp β a w hs r=>?_) U;obtain⟨us,hu,hl,hc⟩:=hy.ok hs.app.2 r;refine⟨by simp[hu,Value.cells,hl,dat],λad=>?_,λj c' hj=>?_⟩
 ·simp[Instr.storeAt,Instr.sureAddr,storeVar,hu,Value.cells,hl,hI.sizeOf]
 ·simp only[dat,avL,awd]at hj
  obtain⟨d,hd,rfl⟩:=hj;obtain⟨u,h1,h2⟩:=hc j d hd;exact⟨u,aAB,h2.one,h2⟩
abbrev TB(arg:Operand)(T:TypeId):Op:=.call { callee:=.builtin .len,args:=#[arg],argTypes:=#[T] }
theorem afh(hT:P.underlying T=some (.slice E))(hx:Ev x (.g (.d (.sl size es))) R)(hd:Nat.blt dst nt=true):
  dJ C (Oo dst (TB x T) ty pos af gd) R [] [(dst,.one (bI .i64 (es.length:Int)))] []:=
 bu hd U λsl hp β a w hs _ r=>by
  have h1:=hx.ok hs r;generalize hxx:a.eval x=u at h1;cases h1;exact⟨.int .i64 es.length,by simp[execOp,resolve,invoke,builtin,Builtin.len_,avm hT,hxx,goInt],RD.v _ U⟩
theorem afj(hT:P.underlying T=some .string)(hx:Ev x (bS s) R)(hd:Nat.blt dst nt=true):
  dJ C (Oo dst (TB x T) ty pos af gd) R [] [(dst,.one (bI .i64 (s.size:Int)))] []:=
 bu hd U λsl hp β a w hs _ r=>by
  have h1:=BR.aX (hx.ok hs r);exact⟨.int .i64 s.size,by simp[execOp,resolve,invoke,builtin,Builtin.len_,avm hT,h1,goInt],RD.v _ U⟩
theorem afi{T':Nat}(hT:P.underlying T=some (.slice E))(hx:Ev x (.own k es) R)(hd:Nat.blt dst nt=true):
  dJ C (Oo dst (TB x T) ty pos af gd) R [(k,some (.row T' size es ex))] [(dst,.one (bI .i64 (es.length:Int)))] []:=
 bu hd U λsl hp β a w hs hh r=>by
  obtain⟨_,_,Td,_,he,_,h1⟩:=hx.ok hs r;rw[hh.1]at he;cases he;rcases h1 rfl with⟨_,rfl,ad,hu⟩ | ⟨b,cap,cur,_,hu,_⟩
  ·exact⟨.int .i64 0,aAb,RD.v _ U⟩
  ·exact⟨.int .i64 es.length,aAb,RD.v _ U⟩
theorem Fm{i:Nat}{l:List BV}{c:BV}(hi:l[i]? =some c)(hd:Nat.blt dst nt=true):
  dJ C (Oo dst (.extract (.tmp t) i) ty pos af gd) [(t,.eV l)] [] [(dst,.one c)] []:=
 bu hd U λsl hp β a w hs _ r=>by
  obtain⟨us,hu,_,h3⟩:=Ev.eV hs.1 r;obtain⟨u,h4,h5⟩:=h3 i c hi;exact⟨u,by simp[execOp,Instr.extract,hu,h4],h5⟩
theorem PJ(hx:Ev x (.ptr k1 0) R)(hd:Nat.blt dst nt=true):dJ C (Oo dst (.makeFunc (.func f) #[] #[x]) ty pos af gd) R [] [(dst,.one (.yh f [k1]))] []:=
 bu hd U λsl hp β a w hs _ r=>by
  obtain⟨h1,b,hb,hu⟩:=hx.ok hs r;refine⟨.func (.func f) #[] #[a.eval x],azP,[a.eval x],U,U,λi k h=>?_⟩;cases i with
  | zero=>simp at h;subst h;exact⟨h1,b,hb,aAo⟩
  | succ i=>simp at h
theorem PK{k2:Nat}(hx:Ev x (.ptr k1 0) R1)(hy:Ev y (.ptr k2 0) R2)(hd:Nat.blt dst nt=true):dJ C (Oo dst (.makeFunc (.func f) #[] #[x,y]) ty pos af gd) (R1++R2) [] [(dst,.one (.yh f [k1,k2]))] []:=
 bu hd U λsl hp β a w hs _ r=>by
  obtain⟨h1,b,hb,hu⟩:=hx.ok hs.app.1 r;obtain⟨ZX,b',hb',za⟩:=hy.ok hs.app.2 r;refine⟨.func (.func f) #[] #[a.eval x,a.eval y],azP,[a.eval x,a.eval y],U,U,λi k h=>?_⟩
  match i with
  | 0=>simp at h;subst h;exact⟨h1,b,hb,aAo⟩
  | 1=>simp at h;subst h;exact⟨ZX,b',hb',by simp[za]⟩
  | i+2=>simp at h
theorem PL{k2 k3:Nat}(hx:Ev x (.ptr k1 0) R1)(hy:Ev y (.ptr k2 0) R2)(hz:Ev z (.ptr k3 0) R3)(hd:Nat.blt dst nt=true):
  dJ C (Oo dst (.makeFunc (.func f) #[] #[x,y,z]) ty pos af gd) (R1++(R2++R3)) [] [(dst,.one (.yh f [k1,k2,k3]))] []:=
 bu hd U λsl hp β a w hs _ r=>by
  obtain⟨h1,b,hb,hu⟩:=hx.ok hs.app.1 r;obtain⟨ZX,b',hb',za⟩:=hy.ok hs.app.2.app.1 r;obtain⟨ahx,b'',ahE,ah2⟩:=hz.ok hs.app.2.app.2 r;refine⟨.func (.func f) #[] #[a.eval x,a.eval y,a.eval z],azP,[a.eval x,a.eval y,a.eval z],U,U,λi k h=>?_⟩
  match i with
  | 0=>simp at h;subst h;exact⟨h1,b,hb,aAo⟩
  | 1=>simp at h;subst h;exact⟨ZX,b',hb',by simp[za]⟩
  | 2=>simp at h;subst h;exact⟨ahx,b'',ahE,by simp[ah2]⟩
  | i+3=>simp at h
end
def AG.cells:AG->List DV
 | .d x=>[x]
 | .agg cs=>cs
def VR(M:Nat->Nat->Prop)(w:World)(vals:Array Value)(ds:List (Option DV)):Prop:=
 vals.size=ds.length/\∀(j:Nat)(d:DV),ds[j]? =some (some d)->∃u,vals[j]? =some u/\RD M w u d
def lu(place:Nat->Option (Nat×Nat))(cells:List (Option DV)):List (Nat×AG)->Option (List (Option DV))
 | []=>some cells
 | (i,v)::rest=>match place i with
  | none=>none
  | some (off,size)=>bif !(Nat.beq v.cells.length size)||Nat.blt cells.length (off+size)then none
   else lu place (cells.take off++v.cells.map some++cells.drop (off+size)) rest
theorem Nt(off:Nat):∀(l:List Value)(s:Nat)(cells:Array Value),
  ((l.zipIdx s).foldl (λcs(p:Value×Nat)=>cs.setIfInBounds (off+p.2) p.1) cells).size=cells.size/\
  ∀j,j<cells.size->((l.zipIdx s).foldl (λcs(p:Value×Nat)=>cs.setIfInBounds (off+p.2) p.1) cells)[j]? =if off+s<=j/\j<off+s+l.length then l[j-(off+s)]? else cells[j]?
 | [],s,cells=>⟨U,λj _=>by rw[avj (λc=>by simp at c;omega)];rfl⟩
 | v::l,s,cells=>by
  obtain⟨h1,h2⟩:=Nt off l (s+1) (cells.setIfInBounds (off+s) v);simp only[List.zipIdx_cons,awS];refine⟨by rw[h1];simp,λj hj=>?_⟩;rw[h2 j azg];by_cases c:j=off+s
  ·subst c
   rw[avj ayT,avk ayW];simp[hj]
  ·by_cases c2:off+(s+1)<=j/\j<off+(s+1)+l.length
   ·rw[avk c2,avk ayV]
    rw[show j-(off+s)=(j-(off+(s+1)))+1 by omega];simp
   ·rw[avj c2,avj ayV,awF,avj (λe=>c e.symm)]
theorem Aq{M:Nat->Nat->Prop}{w:World}{place:Nat->Option (Nat×Nat)}:∀{parts:List (Nat×AG)}{rS:List (Nat×Value)}{cells:List (Option DV)}{vals:Array Value}{ds:List (Option DV)},
  VR M w vals cells->rS.length=parts.length->(∀(i:Nat)(p:Nat×AG),parts[i]? =some p->∃u,rS[i]? =some (p.1,u)/\GR M w u p.2)->
  lu place cells parts=some ds->∃vals',Instr.fill place vals rS=some vals'/\VR M w vals' ds
 | [],rS,cells,vals,ds,hv,hl,_,h=>by
  simp at hl;subst hl;simp only[lu,awP]at h;subst h;exact⟨vals,U,hv⟩
 | (i,g)::parts,rS,cells,vals,ds,hv,hl,hp,h=>by
  obtain⟨u,hu,hg⟩:=hp 0 (i,g) U;cases rS with
  | nil=>simp at hl
  | cons q rS=>
   simp at hu;subst hu;simp only[lu]at h;cases hpl:place i with
   | none=>rw[hpl]at h;simp at h
   | some os=>
    obtain⟨off,size⟩:=os;rw[hpl]at h;simp only[cond_eq_ite]at h;split at h
    ·cases h
    ·rename_i hc
     simp only[awX,axj,ayF,not_or,Bool.not_eq_false,Nat.not_lt]at hc;obtain⟨hc1,Yg⟩:=hc;have hc1:=av3 hc1;have gq:u.cells.size=size/\∀(j:Nat)(d:DV),g.cells[j]? =some d->∃x,u.cells[j]? =some x/\RD M w x d:=by
      cases g with
      | d d=>
       have ho:=RD.one hg;have:u.cells= #[u]:=by cases u<;>simp_all [Value.cells,Value.oneCell']
       rw[this];refine⟨by simpa[AG.cells]using hc1,λj d' hj=>?_⟩;cases j with
       | zero=>simp[AG.cells]at hj;subst hj;exact⟨u,U,hg⟩
       | succ j=>simp[AG.cells]at hj
      | agg cs=>
       obtain⟨us,rfl,h1,h2⟩:=hg;exact⟨by simp only[Value.cells];rw[h1];exact hc1,h2⟩
     have hfs:=Nt off u.cells.toList 0 vals;have hvs:=hv.1;have hnext:VR M w (u.cells.zipIdx.foldl (λcs(p:Value×Nat)=>cs.setIfInBounds (off+p.2) p.1) vals) (cells.take off++g.cells.map some++cells.drop (off+size)):=by
      have e:u.cells.zipIdx.foldl (λcs(p:Value×Nat)=>cs.setIfInBounds (off+p.2) p.1) vals=(u.cells.toList.zipIdx 0).foldl (λcs(p:Value×Nat)=>cs.setIfInBounds (off+p.2) p.1) vals:=by
       rw[<-Array.foldl_toList,Array.toList_zipIdx]
      have hlen:(g.cells.map some).length=size:=by simpa using hc1
      have hgc:g.cells.length=size:=hc1;rw[e];refine⟨?_,λj d hj=>?_⟩
      ·rw[hfs.1,hvs]
       simp only[avz,avC,avZ,avN];omega
      ·rw[<-hlen,jX cells off (g.cells.map some) ayT]at hj
       have hjl:j<vals.size:=by
        rw[hvs];by_cases c:off<=j/\j<off+(g.cells.map some).length
        ·omega
        ·rw[avj c]at hj
         exact(avl.1 hj).1
       rw[hfs.2 j hjl];simp only[awE,awj,gq.1];rw[hlen]at hj;split at hj
       ·rename_i c
        rw[avk c];simp only[avL,awd,awP]at hj;obtain⟨d',hd',rfl⟩:=hj;simpa using gq.2 _ _ hd'
       ·rename_i c
        rw[avj c];exact hv.2 j d hj
     obtain⟨vals',hf,hv'⟩:=Aq hnext azd (λi' p dg=>hp (i'+1) p<|by simpa using dg) h;refine⟨vals',?_,hv'⟩;have hb:¬(u.cells.size≠size\/off+u.cells.size>vals.size):=by rw[gq.1,hvs];omega
     simp only[Instr.fill,hpl];rw[avj (by simpa using hb)];exact hf
inductive Xq:List (Nat×Operand)->List (Nat×AG)->List (Nat×SV)->Prop
 | nil:Xq [] [] []
 | cons {i:Nat} {x:Operand} {g:AG} {R Rs:List (Nat×SV)} {xs:List (Nat×Operand)} {gs:List (Nat×AG)} (h:Ev x (.g g) R) (t:Xq xs gs Rs):Xq ((i,x)::xs) ((i,g)::gs) (R++Rs)
theorem Xq.ok{P:Program}{nt:Nat}{C:Cx P nt}{sl:SL}{hp:HL}{β:Nat->Option Nat}{a:Act}{w:World}{xs:List (Nat×Operand)}{gs:List (Nat×AG)}{R:List (Nat×SV)}
  (hx:Xq xs gs R) (hs:bK sl R) (r:dD C ⟨sl,hp⟩ β a w):xs.length=gs.length/\∀(i:Nat)(p:Nat×AG),gs[i]? =some p->∃u,(xs.map λq=>(q.1,a.eval q.2))[i]? =some (p.1,u)/\GR (Mu C hp β) w u p.2:=by
 induction hx with
 | nil=>exact⟨U,λi p h=>ay4⟩
 | cons h t ih=>
  obtain⟨h1,h2⟩:=hs.app;obtain⟨h3,h4⟩:=ih h2;refine⟨by simp[h3],λi p hi=>?_⟩;cases i with
  | zero=>simp at hi;subst hi;exact⟨_,U,h.ok h1 r⟩
  | succ i=>simpa using h4 i p ay8
def ZD:List Value->List DV->Prop
 | [],[]=>True
 | v::vs,d::ds=>ZC v (.g<|.d d)/\ZD vs ds
 | _,_=>False
theorem ZD.vr{M:Nat->Nat->Prop}{w:World}:∀{vs:List Value}{ds:List DV},ZD vs ds->VR M w vs.toArray (ds.map some)
 | [],[],_=>⟨U,λj d h=>ay4⟩
 | v::vs,d::ds,⟨h1,h2⟩=>by
  obtain⟨h3,h4⟩:=ZD.vr (M:=M) (w:=w) h2;refine⟨azx,λj d' hj=>?_⟩;cases j with
  | zero=>
   simp at hj;subst hj;refine⟨v,ayW,?_⟩;generalize hc:BV.g (.d d)=c at h1;cases h1 with
   | v x h=>cases hc;exact RD.v v h
   | n size=>cases hc;exact RD.nil none 0 size (av5 _)
   | x v h=>cases hc
  | succ j=>simpa using h4 j d' azg
def fG(P:Program)(fs:Array Field)(pl:Array (Nat×Nat)):Prop:=∀w,(fs.mapM λf=>do pure (f.offset,<-sizeOf f.type):Sem (Array (Nat×Nat))).run P w= .ok pl w
variable{gs:List (Nat×AG)}{len:Nat}
section
theorem Sc{T:TypeId}{pl:Array (Nat×Nat)}{zs:List DV}{xs:List (Nat×Operand)}
  (hT:P.underlying T=some (.struct fs)) (hI:Info P T zz size bytes) (hpl:fG P fs pl) (hz:ZD zz.cells.toList zs)
  (hx:Xq xs gs R) (he:lu (pl[·]?) (zs.map some) gs=some (ds.map some)) (hd:Nat.blt dst nt=true):
  dJ C (Oo dst (.build T xs.toArray) ty pos af gd) R [] [(dst,.one (.g<|.agg ds))] []:=
 bu hd U λsl hp β a w hs _ r=>by
  obtain⟨h1,h2⟩:=hx.ok hs r;obtain⟨vals,hf,hv⟩:=Aq (rS:=xs.map λq=>(q.1,a.eval q.2)) (ZD.vr (M:=Mu C hp β) (w:=w) hz) ay7 h2 he;refine⟨.agg vals,?_,vals,U,by simpa using hv.1,λj d hj=>hv.2 j d<|by simp[hj]⟩;have aoa:=hpl w;have hf':Instr.fill (λx=>pl[x]?) zz.cells (List.map (λx=>(x.fst,a.eval x.snd)) xs)=some vals:=by simpa using hf
  simp only[execOp,Instr.build,avw,hI.zero,avt,avm hT,aoa,awN,hf',avF]
theorem HW{sv:SV}(hd:Nat.blt dst nt=true)(ahL:o.dst=some dst)
  (h:∀sl hp β a w,bK sl Rs->dn hp Rh->dD C ⟨sl,hp⟩ β a w->∃v w',(execOp a.eval o).run P w= .ok (.value v) w'/\Below w.heap.size w w'/\SR C hp β w' sv v):
  dJ C o Rs Rh [(dst,sv)] []:=by
 refine⟨λsl hp hs hh a w K Q⟨β,r⟩ hK=>?_⟩;obtain⟨v,w',hv,hb,hr⟩:=h sl hp β a w hs hh r;unfold Oper.wp;rw[hv];refine hK _ _ ⟨β,?_⟩;rw[ahL];exact r.put hb ay1 hr
theorem xB{α:Type}(size:Nat):∀(es:List (List α)),(∀cs,cs∈es->cs.length=size)->∀i cs j d,es[i]? =some cs->cs[j]? =some d->es.flatten[i*size+j]? =some d
 | [],_,i,cs,j,d,h,_=>ay4
 | e::es,hs,i,cs,j,d,hi,hj=>by
  have he:e.length=size:=hs e ayW;cases i with
  | zero=>
   simp at hi;subst hi;have:j<e.length:=(avl.1 hj).1
   simp only[ayC,avS,List.flatten_cons,avy this];exact hj
  | succ i=>
   have:=xB size es (λc hc=>hs c<|by simp[hc]) i cs j d ay8 hj;rw[List.flatten_cons,avG (by rw[he,awy];omega),he,awy];rw[show i*size+size+j-size=i*size+j by omega];exact this
theorem M9(hM:∀o,¬M w.heap.size o){vals:Array Value}(hl:es.length=len)
  (hcap:len<=maxLen) (hs:∀cs,cs∈es->cs.length=size) (hv:VR M w vals (es.flatten.map some)):RD M (w.alloc<|.cells vals E) (.slice (some ⟨w.heap.size,0,none⟩) len len) (.sl size es):=by
 subst hl;have key:∀i cs j d,es[i]? =some cs->cs[j]? =some d->∃u,vals[i*size+j]? =some u/\RD M w u d:=λi cs j d hi hj=>by
  refine hv.2 _ d ?_;rw[avL,xB size es hs i cs j d hi hj];rfl
 refine RD.sl _ _ size es (λi j=>vals.getD (i*size+j) undef) w.heap.size 0 (avq _) hcap (λ_=>rfl) hs (λi cs j d hi hj=>?_) (λi cs j d hi hj=>?_)
 ·obtain⟨u,h1,_⟩:=key i cs j d hi hj
  refine⟨?_,hM _⟩;rw[awM _ _ _ vals E (0,0) (awB w _)];simp[h1]
 ·obtain⟨u,h1,h2⟩:=key i cs j d hi hj
  have e:vals.getD (i*size+j) undef=u:=by simp[h1]
  show RD M (w.alloc<|.cells vals E) (vals.getD (i*size+j) undef) d;rw[e];exact h2.mono (qK<|dM w _)
theorem yD{T E:TypeId}{xs:List (Nat×Operand)}
  (hT:P.underlying T=some (.slice E)) (hI:Info P E zz size bytes) (hbig:Nat.ble (len*size) 16777216=true) (hlen:Nat.ble len 16777216=true)
  (hx:Xq xs gs R) (he:lu (λi=>some (i*size,size)) (List.replicate (len*size) none) gs=some (es.flatten.map some)) (hel:Nat.beq es.length len=true) (hes:∀cs,cs∈es->cs.length=size) (hd:Nat.blt dst nt=true):
  dJ C (Oo dst (.buildSlice T len xs.toArray) ty pos af gd) R [] [(dst,.one (.g<|.d<|.sl size es))] []:=
 HW hd U λsl hp β a w hs _ r=>by
  have hel:=av3 hel;have Km:¬(16777216<len*size):=by simp at hbig;omega
  obtain⟨h1,h2⟩:=hx.ok hs r;generalize hz0:(if len*size=0 then(#[]:Array Value)else zz.cells)=z0;have U4:VR (Mu C hp β) w ((Array.range<|len*size).map (z0[·% z0.size]!)) (List.replicate (len*size) none):=⟨ayW,λj d hj=>azN⟩;obtain⟨vals,hf,hv⟩:=Aq (rS:=xs.map λq=>(q.1,a.eval q.2)) U4 ay7 h2 he;refine⟨.slice (some ⟨w.heap.size,0,none⟩) len len,w.alloc<|.cells vals E,?_,dM w _,?_⟩
  ·simp only[execOp,Instr.buildSlice,avw,avm hT,avt,hI.sizeOf]
   rw[avj aAv];by_cases h0:len*size=0
   ·rw[avk h0]at hz0
    subst hz0;rw[avk h0];simp only[avw,avF,avt,awN,hf,newRow,aym];rfl
   ·rw[avj h0]at hz0
    subst hz0;rw[avj h0];simp only[avw,avF,avt,hI.zero,awN,hf,newRow,aym];rfl
  ·refine M9 (λo c=>?_) hel azC hes hv
   exact ayq _ (r.yC c)
end
theorem BR.ext(h:∀k,aE dg k=aE hp k){c:BV}(r:BR C hp β w c u):BR C dg β w c u:=by
 have Hl:∀b o,Mu C dg β b o->Mu C hp β b o:=by
  rintro b o (hM | ⟨k,e,he,hb,hm⟩)
  ·exact .inl hM
  ·exact .inr ⟨k,e,(h k).symm.trans he,hb,hm⟩
 refine BR.kept (λb o x hn hx=>⟨hx,λc=>hn<|Hl b o c⟩) (λk _ e he hr=>⟨⟨e,(h k).trans he,hr⟩,U⟩) (λk B5 u _ r=>?_) r;obtain⟨T,size,es,ex,hh,hl,hr⟩:=r;exact⟨T,size,es,ex,(h k).trans hh,hl,hr⟩
theorem dD.ext{P:Program}{nt:Nat}{C:Cx P nt}{st st':St}{β:Nat->Option Nat}{a:Act}{w:World}(r:dD C st β a w)(hs:∀t sv,bG st'.sl t=some sv->bG st.sl t=some sv)(h:∀k,aE st'.hp k=aE st.hp k):dD C st' β a w:=by
 have Hl:∀b o,Mu C st'.hp β b o->Mu C st.hp β b o:=by
  rintro b o (hM | ⟨k,e,he,hb,hm⟩)
  ·exact .inl hM
  ·exact .inr ⟨k,e,(h k).symm.trans he,hb,hm⟩
 have hst:∀b o x,¬Mu C st.hp β b o->w.cell? ⟨b,o,none⟩=some x->w.cell? ⟨b,o,none⟩=some x/\¬Mu C st'.hp β b o:=λb o x hn hx=>⟨hx,λc=>hn<|Hl b o c⟩;refine⟨r.keep,r.low,λk k' e e' b h1 h2=>r.inj k k' e e' b ((h k).symm.trans h1)<|(h k').symm.trans h2,λk e b h1=>r.own k e b<|(h k).symm.trans h1,λk e h1=>?_,λt sv ht=>?_,r.size,r.df,λb hb=>⟨(r.fx b hb).1,λe he=>(r.fx b hb).2 e<|(h 0).symm.trans he⟩⟩
 ·have h2:=r.hp k e ((h k).symm.trans h1)
  cases e with
  | blk T cs=>
   obtain⟨b,arr,q1,q2,q3,q4⟩:=h2;exact⟨b,arr,q1,q2,q3,λj c hc=>let⟨u,hu,ho,hr⟩:=q4 j c hc;⟨u,hu,ho,hr.ext h⟩⟩
  | row T size es ex=>
   obtain⟨hz,hs,hr⟩:=h2;exact⟨hz,hs,hr.imp id λ⟨b,cur,q1,q2,q3,q4⟩=>⟨b,cur,q1,q2,q3,λi cs j d hi hj=>let⟨u,hu,hr⟩:=q4 i cs j d hi hj;⟨u,hu,hr.mono hst⟩⟩⟩
  | it s pos=>exact h2
  | pr Φ=>exact h2
  | map es=>
   obtain⟨b,cm,q1,q2,q3,q4⟩:=h2;exact⟨b,cm,q1,q2,q3,λi e he=>let⟨x,p1,p2,p3,p4⟩:=q4 i e he;⟨x,p1,p2,p3,p4.mono hst⟩⟩
  | ZV T E kk s=>exact⟨(h kk).trans h2.1,h2.2⟩
  | hid _ _=>trivial
  | obj _=>exact h2
 ·have h1:=r.sl t sv (hs t sv ht)
  cases sv with
  | one b=>exact BR.ext h h1
  | eV l=>
   obtain⟨us,q1,q2,q3⟩:=h1;exact⟨us,q1,q2,λi b hi=>let⟨x,hx,hr⟩:=q3 i b hi;⟨x,hx,hr.ext h⟩⟩
  | dead=>trivial
variable{cap:Nat}{news es':List (List DV)}
section
theorem Gr(hz:Nat.blt 0 size=true)(hd:Nat.blt dst nt=true)(Hj:Nat.blt 0 k=true:=by rfl):
  dJ C (Oo dst (.assign<|.const<|.slice none 0 0) ty pos af gd) [] [(k,none)] [(dst,.one (.own k []))] [(k,some (.row E size [] ex))]:=by
 refine⟨λsl hp hs hh a w K Q⟨β,r⟩ hK=>?_⟩;unfold Oper.wp;have:(execOp a.eval<|Oo dst (.assign<|.const<|.slice none 0 0) ty pos af gd).run P w= .ok (.value<|.slice none 0 0) w:=by simp[execOp,Act.eval]
 rw[this];have h:=(r.new (e:=.row E size [] ex) (bo:=none) hh.1 Hj (avU _ w) (λb hb=>aAX) λ_ _=>⟨aAi,λcs h=>ay4,.inl ⟨azr,U⟩⟩).1
 exact hK _ _ ⟨_,h.put (avU _ _) ay1 ⟨E,size,[],ex,azp,avq _,λ_=>.inl ⟨azr,U,none,U⟩⟩⟩
abbrev D7(s x:Operand)(T:TypeId):Op:=.call { callee:=.builtin .append,args:=#[s,x],argTypes:=#[T,T] }
theorem A6{ρ:Operand->Value}{s:Operand}{ty:Nat}
  (h:(Builtin.append_ #[T,T] ty #[ρ s,ρ x]).run P w= .ok v w'):(execOp ρ<|Oo dst (D7 s x T) ty pos af gd).run P w= .ok (.value v) w':=by
 simp[execOp,resolve,invoke,builtin,h]
theorem nP{ty c:Nat}{base a':Option Addr}(hT:P.underlying T=some (.slice E))(hI:Info P E zz size bytes)(hn:n<=cap):
  (Builtin.append_ #[T,T] ty #[.slice base n cap,.slice a' 0 c]).run P w= .ok (.slice base n cap) w:=by
 have hf:(Builtin.firstCells size 0<|.slice a' 0 c).run P w= .ok #[] w:=by
  cases a'<;>simp[Builtin.firstCells,loadCells,loadCellsFrom]
 cases base<;>simp[Builtin.append_,avm hT,hI.sizeOf,Builtin.lenOf,hn,hf,storeCells]
theorem RD.flat(hz:0<size)(h:RD M w u (.sl size es)):
  ∃(a:Option Addr)(cap:Nat)(nv:List Value),u= .slice a es.length cap/\es.length<=cap/\cap<=maxLen/\(∀cs,cs∈es->cs.length=size)/\nv.length=es.length*size/\(∀v,v∈nv->v.oneCell'=true)/\
   (∀i cs j d,es[i]? =some cs->cs[j]? =some d->∃v,nv[i*size+j]? =some v/\RD M w v d)/\
   (es≠[]->∃ad:Addr,a=some ad/\∀j v,nv[j]? =some v->w.cell? (ad.add j)=some v):=by
 cases h with
 | sl a cap size es vals b o hc hm ha hs hv hr=>
  have hin:∀q,q<es.length*size->∃cs d,es[q / size]? =some cs/\cs[q % size]? =some d:=by
   intro q hq;have h1:q / size<es.length:=ax0 (by rw[awR];exact hq);have h2:q % size<size:=ayG _ hz;have h3:es[q / size].length=size:=hs _ (avu h1)
   refine⟨es[q / size],(es[q / size])[q % size]' ayT,aAw,by simp[h3,h2]⟩
  have hq:∀i cs j d,es[i]? =some cs->cs[j]? =some d->i*size+j<es.length*size/\(i*size+j) / size=i/\(i*size+j) % size=j:=by
   intro i cs j d hi hj;have h1:i<es.length:=(avl.1 hi).1
   have h2:j<cs.length:=(avl.1 hj).1
   have h3:cs.length=size:=hs cs (avH hi);have h4:(i+1)*size<=es.length*size:=avr _ h1;rw[awn]at h4;refine⟨ayT,?_,?_⟩
   ·rw[awR,Nat.mul_add_div hz,Nat.div_eq_of_lt ayT];rfl
   ·rw[awR,Nat.mul_add_mod,axa ayT]
  refine⟨a,cap,(List.range<|es.length*size).map λq=>vals (q / size)<|q % size,U,hc,hm,hs,ayW,λv hv'=>?_,λi cs j d hi hj=>?_,λhne=>⟨⟨b,o,none⟩,ha hne,λj v hj=>?_⟩⟩
  ·simp only[avT,awg]at hv'
   obtain⟨q,hq,rfl⟩:=hv';obtain⟨cs,d,h1,h2⟩:=hin q hq;exact(hr _ _ _ _ h1 h2).one
  ·obtain⟨h1,h2,h3⟩:=hq i cs j d hi hj
   exact⟨vals i j,by simp[h1,h2,h3],hr i cs j d hi hj⟩
  ·simp only[avL,awd]at hj
   obtain⟨q,hq,rfl⟩:=hj;obtain⟨hlt,hqq⟩:=avl.1 hq;simp only[axS]at hlt;simp only[List.getElem_range]at hqq;subst hqq;obtain⟨cs,d,h1,h2⟩:=hin j hlt;rw[awr];have:=(hv _ _ _ _ h1 h2).1
   rw[show j / size*size+j % size=j by rw[awR];exact ax6 j size]at this;exact this
theorem DP{olds nv rest:List Value}(he:es++news=es')
  (Ks:olds.length=es.length*size)
  (h1:∀i cs j d,es[i]? =some cs->cs[j]? =some d->∃v,olds[i*size+j]? =some v/\RD M w v d)
  (h2:∀i cs j d,news[i]? =some cs->cs[j]? =some d->∃v,nv[i*size+j]? =some v/\RD M w v d):
  ∀i cs j d,es'[i]? =some cs->cs[j]? =some d->∃v,(olds++nv++rest)[i*size+j]? =some v/\RD M w v d:=by
 intro i cs j d hi hj;subst he;by_cases c:i<es.length
 ·rw[avy c]at hi
  obtain⟨v,h3,h4⟩:=h1 i cs j d hi hj;exact⟨v,by rw[av6,avy (avl.1 h3).1];exact h3,h4⟩
 ·rw[avG ayT]at hi
  obtain⟨v,h3,h4⟩:=h2 _ cs j d hi hj;refine⟨v,?_,h4⟩;have hle:es.length*size<=i*size:=avr _ ayT;rw[av6,avG ayT,Ks,show i*size+j-es.length*size=(i-es.length)*size+j by rw[ayb];omega,
   avy (avl.1 h3).1]
  exact h3
theorem KV{T E:TypeId}(hT:P.underlying T=some (.slice E))(hI:Info P E zz size bytes)(hzs:Nat.beq zz.cells.size size=true)
  (he:es++news=es') (hb1:es'.length<=1099511627776) (hb2:es'.length*bytes<=140737488355328)
  (hx:Ev x (.own k es) R1) (hy:Ev y (.g<|.d<|.sl size news) R2) (hd:Nat.blt dst nt=true):
  dJ C (Oo dst (D7 x y T) ty pos af gd) (R1++R2) [(k,some (.row E size es ex))] [(dst,.one (.own k es'))] [(k,some (.row E size es' ex))]:=by
 refine⟨λsl hp hs hh a w K Q⟨β,r⟩ hK=>?_⟩;have hzs:=av3 hzs;obtain⟨hz,hsz,hrow⟩:=r.hp k _ hh.1;obtain⟨_,_,_,_,heq,_,hu⟩:=hx.ok hs.app.1 r;rw[hh.1]at heq;cases heq;have hu:=hu U;have hlen:es'.length=es.length+news.length:=by rw[<-he];simp
 obtain⟨a',c',nv,WB,hcc,pR,abX,hnl,UZ,hnr,hna⟩:=RD.flat hz (hy.ok hs.app.2 r);have hsz':∀cs,cs∈es'->cs.length=size:=by
  intro cs hcs;rw[<-he]at hcs;rcases List.mem_append.1 hcs with h | h
  ·exact hsz cs h
  ·exact abX cs h
 unfold Oper.wp;by_cases hm0:news= []
 ·
  subst hm0;have hee:es'=es:=by rw[<-he];simp
  subst hee;have hrun:∃base n cap,a.eval x= .slice base n cap/\n<=cap:=by
   rcases hu with⟨_,_,ad,hu⟩ | ⟨b,cap,cur,_,hu,hle,_⟩
   ·exact⟨ad,0,0,hu,avq _⟩
   ·exact⟨_,_,cap,hu,hle⟩
  obtain⟨base,n,cap,hbv,hle⟩:=hrun;rw[A6 (v:=a.eval x) (w':=w) (by rw[hbv,WB];exact nP hT hI hle)];have hg:∀k',aE ((k,some (HE.row E size es' ex))::hp) k'=aE hp k':=λk'=>by
   rw[aG];split
   ·rename_i c;rw[<-c,hh.1]
   ·rfl
  refine hK _ _ ⟨β,?_⟩;exact(r.put (sv:=.one<|.own k es') (avU _ _) ay1<|hx.ok hs.app.1 r).ext (λt sv h=>h) hg
 ·
  obtain⟨ad,rfl,gq⟩:=hna hm0;have RI:0<news.length:=axD.2 hm0;obtain⟨i,hi1,hi2,hi3,hi4⟩:=hI;subst hi3;subst hi4;have fin:∀(w1:World)(bb XC:Nat)(olds rest:List Value),
    (Builtin.append_ #[T,T] ty #[a.eval x,a.eval y]).run P w= .ok (.slice (some ⟨bb,0,none⟩) es'.length XC) w1->
    w1.os=w.os->w1.tape=w.tape->w1.output=w.output->w.heap.size<=w1.heap.size->(∀i,i<w.heap.size->some i≠β k->w1.heap[i]? =w.heap[i]?)->
    (∀b o x,β k=some b->w.cell? ⟨b,o,none⟩=some x->¬(HE.row E i.size es ex).xK o->w1.cell? ⟨b,o,none⟩=some x)->
    (some bb=β k\/(bb=w.heap.size/\w.heap.size<w1.heap.size))->
    w1.heap[bb]? =some (.cells (olds++nv++rest).toArray E)->olds.length=es.length*i.size->(olds++nv++rest).length=XC*i.size->es'.length<=XC->XC<=maxLen->
    (∀i' cs j d,es[i']? =some cs->cs[j]? =some d->∃v,olds[i'*i.size+j]? =some v/\RD (Mu C hp β) w v d)->
    Oper.upon P (Oo dst (D7 x y T) ty pos af gd) a K Q ((execOp a.eval<|Oo dst (D7 x y T) ty pos af gd).run P w):=by
   intro w1 bb XC olds rest hrun hos RJ hout hsize AD hcell Fb hheap Ks akX hle abI hold;rw[A6 hrun];have CH:=DP (rest:=rest) he Ks hold hnr;have hch:=r.chg (e:=.row E i.size es' ex) (bo:=some bb) hh.1 hos RJ hout hsize AD hcell
    (by
     rcases Fb with h | ⟨h,h'⟩
     ·refine .inl ⟨h,λo ho=>ho.imp id λh3=>?_⟩
      have:es.length*i.size<=es'.length*i.size:=avr _ ayT;omega
     ·exact .inr ⟨bb,U,ayT,ayT⟩)
    ⟨U,λh=>azm⟩
    (λB5 u h=>by
     obtain⟨_,_,_,_,h1,h2,_⟩:=h;rw[hh.1]at h1;cases h1;exact⟨E,i.size,es',ex,azp,ayT,λhq=>ayT⟩)
    (λ_ FN=>⟨hz,hsz',.inr ⟨bb,_,azr,hheap,by
      rw[avW,akX];exact avr _ hle,λi' cs j d hi' hj=>by
      obtain⟨v,h1,h2⟩:=CH i' cs j d hi' hj;exact⟨v,by rw[awI];exact h1,FN _ _ h2⟩⟩⟩)
   refine hK _ _ ⟨_,hch.1.put (avU _ _) ay1 ?_⟩;exact⟨E,i.size,es',ex,azp,avq _,λ_=>.inr ⟨bb,XC,_,azr,U,hle,abI,hheap,by rw[avW];exact akX⟩⟩
  have pn:es'.length<=maxLen:=by unfold maxLen;omega
  have hzc:(i.zero.getD undef).cells.size=i.size:=by rw[hi2];exact hzs
  have grow:∀(olds:List Value)(old:Nat),olds.length=es.length*i.size->
    (Builtin.append_ #[T,T] ty #[a.eval x,a.eval y]).run P w= .ok (.slice (some ⟨w.heap.size,0,none⟩) es'.length<|grownCap w es'.length old E)
     (w.drew.alloc<|.cells (olds.toArray++nv.toArray++Builtin.zeroCells zz.cells (grownCap w es'.length old E-es'.length)) E)->
    (∀i' cs j d,es[i']? =some cs->cs[j]? =some d->∃v,olds[i'*i.size+j]? =some v/\RD (Mu C hp β) w v d)->
    Oper.upon P (Oo dst (D7 x y T) ty pos af gd) a K Q ((execOp a.eval<|Oo dst (D7 x y T) ty pos af gd).run P w):=by
   intro olds old Ks hrun hold;have hge:=axO w es'.length old E;have abI:grownCap w es'.length old E<=maxLen:=aw9 w es'.length old E pn;have ld:∀i',i'<w.heap.size->(w.drew.alloc<|.cells (olds.toArray++nv.toArray++Builtin.zeroCells zz.cells (grownCap w es'.length old E-es'.length)) E).heap[i']? =w.heap[i']? :=
    λi' hi'=>axx w.drew _ hi'
   refine fin _ w.heap.size _ olds (Builtin.zeroCells zz.cells<|grownCap w es'.length old E-es'.length).toList hrun U U U ayW (λi' hi' _=>ld i' hi') (λb o x hb hx _=>?_) (.inr ⟨U,ayW⟩) ?_ Ks ?_ hge abI hold
   ·rw[awh (w:=w) (a:=⟨b,o,none⟩) (ld b<|cz hx)];exact hx
   ·have:=awB w.drew (.cells (olds.toArray++nv.toArray++Builtin.zeroCells zz.cells (grownCap w es'.length old E-es'.length)) E)
    rw[show w.drew.heap.size=w.heap.size from rfl]at this;rw[this];congr 2;simp
   ·simp only[avz,awj,ayf,hzs,Ks,hnl]
    rw[<-awn,<-awn];congr 1;omega
  rcases hu with⟨hbn,hes,ado,hu⟩ | ⟨b,cap,cur,hb,hu,hle,anL,hheap,hcs⟩
  ·subst hes
   simp only[avX]at he;subst he;have hbytes:Builtin.nextslicecap news.length 0*i.bytes<=281474976710656:=axq ayT hb2;cases ado with
   | none=>
    have hr:=ayH (P:=P) w T ty E i zz hT hi1 hi2 ad news.length c' nv hnl gq RI azc ayT;refine grow [] 0 ayW ?_ (λi' cs j d h=>ay4);rw[hu,WB,hr];simp
   | some Xx=>
    have hr:=ax7 (P:=P) w T ty E i zz hT hi1 hi2 Xx 0 0 [] ayW (λj v h=>ay4) ad news.length c' nv hnl gq ayT azc (by simpa using hbytes);refine grow [] 0 ayW ?_ (λi' cs j d h=>ay4);rw[hu,WB,hr];simp
  ·have aeK:∃cur',w.heap[b]? =some (.cells cur' E)/\es.length*i.size<=cur'.size/\∀(i':Nat)(cs:List DV)(j:Nat)(d:DV),es[i']? =some cs->cs[j]? =some d->∃u,cur'[i'*i.size+j]? =some u/\RD (Mu C hp β) w u d:=by
    rcases hrow with⟨h1,_⟩ | ⟨b',cur',h1,h2,h3,h4⟩
    ·rw[hb]at h1;cases h1
    ·rw[hb]at h1;cases h1
     exact⟨cur',h2,h3,h4⟩
   obtain⟨cur',abO,akz,hcell⟩:=aeK;rw[hheap]at abO;cases abO;have Ks:(cur.toList.take<|es.length*i.size).length=es.length*i.size:=by
    have hL:cur.toList.length=cur.size:=awj;rw[avC,hL];omega
   have hold:∀i' cs j d,es[i']? =some cs->cs[j]? =some d->∃v,(cur.toList.take<|es.length*i.size)[i'*i.size+j]? =some v/\RD (Mu C hp β) w v d:=by
    intro i' cs j d hi' hj;obtain⟨v,h1,h2⟩:=hcell i' cs j d hi' hj;refine⟨v,?_,h2⟩;have anX:i'<es.length:=(avl.1 hi').1
    have asA:j<cs.length:=(avl.1 hj).1
    have:cs.length=i.size:=hsz cs (avH hi');have h4:(i'+1)*i.size<=es.length*i.size:=avr _ anX;rw[awn]at h4;rw[awv,avk ayT];simpa using h1
   by_cases hroom:es.length+news.length<=cap
   ·have hfit:es.length*i.size+nv.length<=cur.size:=by rw[hnl,hcs,<-awn];exact avr _ hroom
    have hr:=run_append_room (P:=P) w T ty E i hT hi1 b es.length cap cur hheap ad news.length c' nv hnl gq UZ hroom hfit;refine fin (w.setRow b (cur.toList.take (es.length*i.size)++nv++cur.toList.drop (es.length*i.size+nv.length)).toArray) b cap (cur.toList.take<|es.length*i.size) (cur.toList.drop<|es.length*i.size+nv.length) (by rw[hu,WB,hr,hlen]) U U U (by simp[World.setRow])
     (λi' hi' hne=>axW w b i' _ λc=>hne<|by rw[c,hb]) (λb' o x hb' hx hnm=>?_) (.inl hb.symm) (axU w b cur _ E _ hheap) Ks ?_ ayT anL hold
    ·rw[hb]at hb'
     cases hb';simp only[HE.xK,not_or,Nat.not_le]at hnm;rw[awM _ _ _ _ E _ (axU w b cur _ E _ hheap)];rw[awM _ _ _ _ E _ hheap]at hx;rw[awI,av6,avy ayT,awv,avk hnm.2];simpa using hx
    ·have hL:cur.toList.length=cur.size:=awj
     simp only[avz,avC,avZ,hL];omega
   ·have holds:∀j v,(cur.toList.take<|es.length*i.size)[j]? =some v->w.cell? ((⟨b,0,none⟩:Addr).add j)=some v:=by
     intro j v hj;rw[awr,avS,awM _ _ _ _ E _ hheap];rw[awv]at hj;split at hj
     ·simpa using hj
     ·cases hj
    have hr:=ax7 (P:=P) w T ty E i zz hT hi1 hi2 ⟨b,0,none⟩ es.length cap _ Ks holds ad news.length c' nv hnl gq ayT azc (axq ayT aAF);exact grow _ cap Ks (by rw[hu,WB,hr,<-hlen]) hold
end
inductive HS where
 | dat (T:Nat) (ds:List DV)
 | ZV (T E:Nat) (s:ByteArray)
 | gone
inductive RG where
 | pt (h:HS)
 | g (a:AG)
 | ep (cs:List DV)
 | sem (Φ:List AG->Value->Prop)
 | row (T size:Nat) (es:List (List DV))
 | ro (Φ:(Nat->Nat->Prop)->World->Value->Prop)
inductive RS where
 | one (g:AG)
 | eV (l:List AG)
 | new (T size:Nat) (es:List (List DV))
def agR(M:Nat->Nat->Prop)(B:Nat->Prop)(w:World)(T size:Nat)(es:List (List DV))(u:Value):Prop:=
 0<size/\(∀cs,cs∈es->cs.length=size)/\((es= []/\∃a,u= .slice a 0 0)\/
  ∃b cap cur,B b/\b<w.heap.size/\u= .slice (some ⟨b,0,none⟩) es.length cap/\es.length<=cap/\cap<=maxLen/\w.heap[b]? =some (.cells cur T (0,0))/\cur.size=cap*size/\
   ∀(i:Nat)(cs:List DV)(j:Nat)(d:DV),es[i]? =some cs->cs[j]? =some d->∃v,cur[i*size+j]? =some v/\RD (λb' o=>M b' o\/b'=b) w v d)
def Ai(P:Program)(M:Nat->Nat->Prop)(K:Nat->Prop)(w:World):RG->Value->Prop
 | .pt _,_=>False
 | .g a,u=>GR (λb o=>M b o\/K b) w u a
 | .ep cs,u=>∃b o,u= .pointer (some ⟨b,o,none⟩)/\∀(j:Nat)(d:DV),cs[j]? =some d->∃x,w.cell? ⟨b,o+j,none⟩=some x/\¬(M b (o+j)\/K b)/\RD (λb o=>M b o\/K b) w x d
 | .sem Φ,u=>Ej P w K u Φ
 | .row T size es,u=>agR M K w T size es u
 | .ro Φ,u=>Φ (λb o=>M b o\/K b) w u
def QJ(M:Nat->Nat->Prop)(K:Nat->Prop)(w w':World):RS->Value->Prop
 | .one g,v=>GR M w' v g
 | .eV l,v=>∃us:Array Value,v= .tuple us/\us.size=l.length/\∀(i:Nat)(g:AG),l[i]? =some g->∃x,us[i]? =some x/\GR M w' x g
 | .new T size es,v=>agR M (λb=>w.heap.size<=b\/K b) w' T size es v
structure Ct(P:Program)(f:Nat)(args:List RG)(res:RS):Prop where
 go:∀(M:Nat->Nat->Prop)(K:Nat->Prop)(w:World)(vs:List Value),(∀b o,M b o->b<w.heap.size/\¬K b)->
  (∀b,K b->∃(i T size:Nat)(es:List (List DV))(cap:Nat),args[i]? =some (.row T size es)/\vs[i]? =some (.slice (some ⟨b,0,none⟩) es.length cap))->
  vs.length=args.length->(∀(i:Nat)(g:RG)(v:Value),args[i]? =some g->vs[i]? =some v->Ai P M K w g v)->
  Calls P f vs.toArray w λe w'=>∃v,e= .returned v/\cU K w w'/\QJ M K w w' res v
theorem cU.toBelow(h:cU (λ_=>False) w w'):Below w.heap.size w w':=
 ⟨h.os,h.tape,h.output,h.size,λk hk=>h.block k hk id⟩
theorem RD.less{d:DV}(h:∀b o,M' b o->M b o)(r:RD M w u d):RD M' w u d:=r.mono λb o _ hn hx=>⟨hx,λc=>hn (h b o c)⟩
variable{g:AG}
theorem GR.less(h:∀b o,M' b o->M b o)(r:GR M w u g):GR M' w u g:=r.mono λb o _ hn hx=>⟨hx,λc=>hn (h b o c)⟩
inductive L1:List Operand->List RG->List (Nat×SV)->Prop
 | nil:L1 [] [] []
 | cons {x:Operand} {g:AG} {R Rs:List (Nat×SV)} {xs:List Operand} {gs:List RG} (h:Ev x (.g g) R) (t:L1 xs gs Rs):L1 (x::xs) (.g g::gs) (R++Rs)
theorem L1.ok{P:Program}{nt:Nat}{C:Cx P nt}{sl:SL}{hp:HL}{β:Nat->Option Nat}{a:Act}{w:World}{xs:List Operand}{gs:List RG}{R:List (Nat×SV)}
  (hx:L1 xs gs R) (hs:bK sl R) (r:dD C ⟨sl,hp⟩ β a w):(xs.map a.eval).length=gs.length/\∀(i:Nat)(g:RG)(v:Value),gs[i]? =some g->(xs.map a.eval)[i]? =some v->Ai P (Mu C hp β) (λ_=>False) w g v:=by
 induction hx with
 | nil=>exact⟨U,λi g v h=>ay4⟩
 | cons h t ih=>
  obtain⟨h1,h2⟩:=hs.app;obtain⟨h3,h4⟩:=ih h2;refine⟨azx,λi g v hg hv=>?_⟩;cases i with
  | zero=>
   simp at hg hv;subst hg hv;exact GR.less (λb o c=>c.resolve_right id) (h.ok h1 r)
  | succ i=>exact h4 i g v azz azy
abbrev gO(f:Nat)(xs:List Operand)(tys:Array TypeId):Op:=.call { callee:=.value (.func f),args:=xs.toArray,argTypes:=tys }
abbrev vB(t:Nat)(xs:List Operand)(tys:Array TypeId):Op:=.call { callee:=.value (.tmp t),args:=xs.toArray,argTypes:=tys }
variable{xs:List Operand}{tys:Array TypeId}
theorem qh{dst:Option Nat}(hc:cG P f):
  (execOp a.eval ⟨dst,gO f xs tys,ty,pos,af,gd⟩).run P w= .ok (.enter f (xs.map a.eval).toArray) w:=by
 have:=hc (xs.map a.eval).toArray w
 simp only[execOp,resolve,Act.eval,Deferred.ofValue,invoke,avw,avF,avt,awN];simpa using this
theorem N0{caps:Array Value}{dst:Option Nat}(hc:cG P f)
  (ht:a.eval (.tmp t)= .func (.func f) #[] caps):
  (execOp a.eval ⟨dst,vB t xs tys,ty,pos,af,gd⟩).run P w= .ok (.enter f<|(xs.map a.eval).toArray++caps) w:=by
 have:=hc ((xs.map a.eval).toArray++caps) w;simp only[execOp,resolve,ht,Deferred.ofValue,invoke,avw,avF,avt,awN];simpa using this
def RS.sv:RS->SV
 | .one g=>.one (.g g)
 | .eV l=>.eV (l.map .g)
 | .new _ _ _=>.dead
variable{K:Nat->Prop}{res:RS}
theorem RS.acU(h:QJ (Mu C hp β) K w w' res v):SR C hp β w' res.sv v:=by
 cases res with
 | one g=>exact h
 | eV l=>
  obtain⟨us,h1,h2,h3⟩:=h;refine⟨us,h1,azG,λi b hb=>?_⟩;simp only[avL,awd]at hb;obtain⟨g,hg,rfl⟩:=hb;exact h3 i g hg
 | new T size es=>trivial
variable{args:List RG}
section
theorem WT{sv:SV}(hc:cG P f)(Me:Ct P f args res)(Tg:res.sv=sv)(hx:L1 xs args R)(hd:Nat.blt dst nt=true):
  dJ C (Oo dst (gO f xs tys) ty pos af gd) R [] [(dst,sv)] []:=by
 refine⟨λsl hp hs hh a w K Q⟨β,r⟩ hK=>?_⟩;obtain⟨h1,h2⟩:=hx.ok hs r;have oH:=Me.go (Mu C hp β) (λ_=>False) w (xs.map a.eval) (λb o h=>⟨r.yC h,id⟩) (λb h=>h.elim) h1 h2;unfold Oper.wp;rw[qh hc];refine oH.mono ?_;rintro e w' ⟨v,rfl,hk,hr⟩;refine hK _ _ ⟨β,r.put hk.toBelow ay1 ?_⟩;rw[<-Tg];exact RS.acU hr
theorem Fl(hc:cG P f)(Me:Ct P f args (.new T size es))(hx:L1 xs args R)(hd:Nat.blt dst nt=true)(Hj:Nat.blt 0 k=true:=by rfl):
  dJ C (Oo dst (gO f xs tys) ty pos af gd) R [(k,none)] [(dst,.one (.own k es))] [(k,some (.row T size es true))]:=by
 refine⟨λsl hp hs hh a w K Q⟨β,r⟩ hK=>?_⟩;obtain⟨h1,h2⟩:=hx.ok hs r;have oH:=Me.go (Mu C hp β) (λ_=>False) w (xs.map a.eval) (λb o h=>⟨r.yC h,id⟩) (λb h=>h.elim) h1 h2;unfold Oper.wp;rw[qh hc];refine oH.mono ?_;rintro e w' ⟨v,rfl,hk,hz,hs',hr⟩;have hb:=hk.toBelow;have r':=r.Lb hb;refine hK _ _ ?_;rcases hr with⟨rfl,ad,hv⟩ | ⟨b,cap,cur,hB,hlt,hv,hle,pR,hheap,hcs,hel⟩
 ·have h:=(r'.new (e:=.row T size [] true) (bo:=none) hh.1 Hj (avU _ w') (λb hb=>aAX) λ_ _=>⟨hz,hs',.inl ⟨azr,U⟩⟩).1
  exact⟨_,h.put (avU _ _) ay1 ⟨T,size,[],true,azp,avq _,λ_=>.inl ⟨azr,U,ad,hv⟩⟩⟩
 ·have hB':w.heap.size<=b:=hB.resolve_right id
  have asG:∀b' o,Mu C hp β b' o->b'<w.heap.size:=λb' o h=>r.yC h;refine⟨dQ β k<|some b,?_⟩;have hne:∀k' e',aE hp k'=some e'->k'≠k:=λk' e' h c=>by rw[c,hh.1]at h;cases h
  have fD:∀k' e',aE hp k'=some e'->aE ((k,some (HE.row T size es true))::hp) k'=some e'/\dQ β k (some b) k'=β k':=λk' e' h=>by
   have:=hne k' e' h;exact⟨by rw[aG,avj (λc=>this c.symm)];exact h,by simp[dQ,this]⟩
  have Yj:∀b' o,Mu C ((k,some (HE.row T size es true))::hp) (dQ β k<|some b) b' o->Mu C hp β b' o\/b'=b:=by
   rintro b' o (hM | ⟨k',e',he',hb',hm'⟩)
   ·exact .inl (.inl hM)
   ·rw[aG]at he'
    by_cases hkk:k=k'
    ·subst hkk;simp only[dQ,avM,awP]at hb';exact .inr hb'.symm
    ·rw[avj hkk]at he'
     simp only[dQ,avj (λc=>hkk<|Eq.symm c)]at hb';exact .inl (.inr ⟨k',e',he',hb',hm'⟩)
  have hst:∀b' o x,¬Mu C hp β b' o->w.cell? ⟨b',o,none⟩=some x->w'.cell? ⟨b',o,none⟩=some x/\¬Mu C ((k,some (HE.row T size es true))::hp) (dQ β k<|some b) b' o:=by
   intro b' o x hn hx;have hlt':=cz hx;refine⟨by rw[hb.cell (p:=⟨b',o,none⟩) hlt'];exact hx,λc=>?_⟩;rcases Yj b' o c with c | c
   ·exact hn c
   ·omega
  have Hi:∀c u,BR C hp β w c u->BR C ((k,some (HE.row T size es true))::hp) (dQ β k<|some b) w' c u:=by
   intro c u h;refine BR.kept hst (λk' _ e' he' hr=>⟨⟨e',(fD k' e' he').1,hr⟩,(fD k' e' he').2⟩) (λk' B5 u _ h=>?_) h;obtain⟨T',size',es',ex',hh',hl',hr'⟩:=h;refine⟨T',size',es',ex',(fD k' _ hh').1,hl',λhq=>(hr' hq).imp (λ⟨h1,h2⟩=>⟨(fD k' _ hh').2.trans h1,h2⟩) ?_⟩;rintro⟨b',cap',cur',q1,q2,q3,q4,q5,q6⟩;exact⟨b',cap',cur',(fD k' _ hh').2.trans q1,q2,q3,q4,by rw[hb.block b' (avo.1 q5).1];exact q5,q6⟩
  have hbase:dD C ⟨sl,(k,some (HE.row T size es true))::hp⟩ (dQ β k<|some b) a w':=by
   refine⟨r.keep.below hb,r.low,?_,?_,?_,?_,r.size,r.df,λb hb=>?_⟩
   ·intro k1 k2 e1 e2 b' q1 q2 q3 q4
    simp only[aG]at q1 q2;by_cases c1:k=k1<;>by_cases c2:k=k2
    ·omega
    ·subst c1
     rw[avj c2]at q2;simp only[dQ,avM,awP]at q3;simp only[dQ,avj (λc=>c2<|Eq.symm c)]at q4;have:=(r.own k2 e2 b' q2 q4).2
     omega
    ·subst c2
     rw[avj c1]at q1;simp only[dQ,avM,awP]at q4;simp only[dQ,avj (λc=>c1<|Eq.symm c)]at q3;have:=(r.own k1 e1 b' q1 q3).2
     omega
    ·rw[avj c1]at q1
     rw[avj c2]at q2;simp only[dQ,avj (λc=>c1<|Eq.symm c)]at q3;simp only[dQ,avj (λc=>c2<|Eq.symm c)]at q4;exact r.inj k1 k2 e1 e2 b' q1 q2 q3 q4
   ·intro k1 e1 b' q1 q3
    simp only[aG]at q1;by_cases c1:k=k1
    ·subst c1
     simp only[dQ,avM,awP]at q3;subst q3;exact⟨.inl<|awa r.keep.size hB',hlt⟩
    ·rw[avj c1]at q1
     simp only[dQ,avj (λc=>c1<|Eq.symm c)]at q3;exact⟨(r.own k1 e1 b' q1 q3).1,avE (r.own k1 e1 b' q1 q3).2 hb.size⟩
   ·intro k1 e1 q1
    simp only[aG]at q1;by_cases c1:k=k1
    ·subst c1
     rw[avk rfl]at q1;cases q1;refine⟨hz,hs',.inr ⟨b,cur,azr,hheap,by rw[hcs];exact avr _ hle,λi cs j d hi hj=>?_⟩⟩;obtain⟨u,q2,q3⟩:=hel i cs j d hi hj;refine⟨u,q2,q3.less λb' o c=>?_⟩;exact Yj b' o c
    ·rw[avj c1]at q1
     have q2:=fD k1 e1 q1;have q3:=r.hp k1 e1 q1;cases e1 with
     | blk T cs=>
      obtain⟨b',arr,p1,p2,p3,p4⟩:=q3;exact⟨b',arr,q2.2.trans p1,azt,p3,λj c hc=>let⟨u,hu,ho,hr⟩:=p4 j c hc;⟨u,hu,ho,Hi c u hr⟩⟩
     | row T' size' es' ex'=>
      obtain⟨hz',aof,hr'⟩:=q3;refine⟨hz',aof,hr'.imp (λ⟨p1,p2⟩=>⟨q2.2.trans p1,p2⟩) ?_⟩;rintro⟨b',cur',p1,p2,p3,p4⟩;exact⟨b',cur',q2.2.trans p1,azt,p3,λi cs j d hi hj=>let⟨u,hu,hr⟩:=p4 i cs j d hi hj;⟨u,hu,hr.mono hst⟩⟩
     | it s pos=>
      obtain⟨b',p1,p2⟩:=q3;exact⟨b',q2.2.trans p1,azt⟩
     | pr Φ=>
      obtain⟨b',o,p1,p2,p3⟩:=q3;exact⟨b',o,q2.2.trans p1,azt,p3⟩
     | map es=>
      obtain⟨b',cm,p1,p2,p3,p4⟩:=q3;exact⟨b',cm,q2.2.trans p1,azt,p3,λi e he=>let⟨x,z1,z2,z3,z4⟩:=p4 i e he;⟨x,z1,z2,z3,z4.mono hst⟩⟩
     | ZV T' E' kk s=>
      obtain⟨p0,b',p,u,p1,p2,p3,p4,p5⟩:=q3;have p0':=fD kk _ p0;exact⟨p0'.1,b',p,u,q2.2.trans p1,p2,by rw[hb.block b' (avo.1 p3).1];exact p3,dz p4 λg hg=>hb.block g<|wm p4 hg,p5.trans p0'.2.symm⟩
     | hid _ _=>trivial
     | obj _=>exact q2.2.trans q3
   ·intro t sv ht
    have h1:=r.sl t sv ht;cases sv with
    | one b=>exact Hi _ _ h1
    | eV l=>
     obtain⟨us,q1,q2,q3⟩:=h1;exact⟨us,q1,q2,λi b hi=>let⟨x,hx,hr⟩:=q3 i b hi;⟨x,hx,Hi _ _ hr⟩⟩
    | dead=>trivial
   ·obtain⟨f1,f2⟩:=r.fx b hb
    have Hj:k≠0:=λc=>by subst c;simp at Hj
    exact⟨aA0,λe1 he=>by rw[aG,avj Hj]at he;exact f2 e1 he⟩
  exact hbase.put (avU _ _) ay1 ⟨T,size,es,true,azp,avq _,λ_=>.inr ⟨b,cap,cur,azr,hv,hle,pR,hheap,hcs⟩⟩
end
inductive tZ:List Nat->List RG->List (Nat×Option HE)->Prop
 | nil:tZ [] [] []
 | cons {k T:Nat} {cs:List BV} {ds:List DV} {ks:List Nat} {gs:List RG} {Rh:List (Nat×Option HE)} (he:cs=dat ds) (t:tZ ks gs Rh):tZ (k::ks) (.ep ds::gs) ((k,some (.blk T cs))::Rh)
theorem dn.app{l r:List (Nat×Option HE)}(h:dn hp (l++r)):dn hp l/\dn hp r:=by
 induction l with
 | nil=>exact⟨ayS,h⟩
 | cons x l ih=>
  obtain⟨t,s⟩:=x;obtain⟨h1,h2⟩:=h;obtain⟨h3,h4⟩:=ih h2;exact⟨⟨h1,h3⟩,h4⟩
variable{ks:List Nat}
theorem tZ.get{gs:List RG}(h:tZ ks gs Rh)(hh:dn hp Rh):
  gs.length=ks.length/\∀(i k:Nat),ks[i]? =some k->∃T ds,gs[i]? =some (.ep ds)/\aE hp k=some (.blk T<|dat ds):=by
 induction h with
 | nil=>exact⟨U,λi k h=>ay4⟩
 | cons he t ih=>
  obtain⟨h1,h2⟩:=hh;obtain⟨h3,h4⟩:=ih h2;refine⟨by simp[h3],λi k hi=>?_⟩;cases i with
  | zero=>simp at hi;subst hi;subst he;exact⟨_,_,U,h1⟩
  | succ i=>exact h4 i k ay8
theorem Tx(r:dD C ⟨sl,hp⟩ β a w){b:Nat}{cs:List BV}(hk:aE hp k=some (.blk T cs))(hb:β k=some b)(he:cs.drop off=dat ds)
  {K:Nat->Prop} (hw:cU K w w') (hK:∀b,K b->∃k T size es ex,aE hp k=some (.row T size es ex)/\β k=some b) (hK2:∀b,K b->∀o,Mu C hp β b o):
  Ai P (λ_ _=>False) (λ_=>False) w' (.ep ds) (.pointer<|some ⟨b,off,none⟩):=by
 have hnb:¬K b:=λc=>by
  obtain⟨k',T',size,es,ex,h1,h2⟩:=hK b c;have:=r.inj k' k _ _ b h1 hk h2 hb;subst this;rw[hk]at h1;cases h1
 obtain⟨b',arr,h1,h2,h3,h4⟩:=r.hp k _ hk;rw[hb]at h1;cases h1;refine⟨b,off,U,λj d hj=>?_⟩;have hcj:cs[off+j]? =some (.g<|.d d):=by rw[<-awm,he];simp[dat,hj]
 obtain⟨u,h5,h6,h7⟩:=h4 _ _ hcj;have hlt:b<w.heap.size:=(avo.1 h2).1
 refine⟨u,?_,λc=>c.elim id id,RD.mono (M:=Mu C hp β) (w:=w) (λb' o x hn hx=>⟨?_,λc=>c.elim id id⟩) h7⟩
 ·rw[awM w' b (off+j) arr T (0,0) (by rw[hw.block b hlt hnb];exact h2)]
  exact h5
 ·rw[awh (w:=w) (a:=⟨b',o,none⟩) (hw.block b' (cz hx) λc=>hn<|hK2 b' c o)]
  exact hx
variable{Φ:List AG->Value->Prop}
theorem V9(r:dD C ⟨sl,hp⟩ β a w){gs:List RG}
  (hu:BR C hp β w (.yh f ks) u) (hc:tZ ks gs Rh) (hh:dn hp Rh) {K:Nat->Prop} (hK:∀b,K b->∃k T size es ex,aE hp k=some (.row T size es ex)/\β k=some b) (hK2:∀b,K b->∀o,Mu C hp β b o)
  (Yh:cG P f) (LW:∀args v,Φ args v->Ct P f (args.map .g++gs) (.one<|.d<|.v v)):Ej P w K u Φ:=by
 obtain⟨us,hu,hl,hcap⟩:=hu;obtain⟨Yi,aE⟩:=hc.get hh;refine⟨f,us.toArray,hu,Yh,λw' hw' M vs args v hvl hvs hp=>?_⟩;have h:=(LW args v hp).go (λ_ _=>False) (λ_=>False) w' (vs++us) (λ_ _ h=>h.elim) (λ_ h=>h.elim) (by simp[hvl,hl,Yi]) (λi g x hg hx=>?_)
 ·rw[awl]
  refine h.mono ?_;rintro e w'' ⟨x,rfl,hk,hr⟩;exact⟨awp _<|RD.aX hr,hk.toBelow⟩
 ·by_cases c:i<vs.length
  ·rw[avy c]at hx
   rw[avy ayV]at hg;simp only[avL,awd]at hg;obtain⟨g',hg',rfl⟩:=hg;exact GR.less (λ_ _ c=>c.elim False.elim False.elim) (hvs i x g' hx hg')
  ·rw[avG ayT]at hx
   rw[avG ayV]at hg;simp only[avN,<-hvl]at hg;have hlt:i-vs.length<ks.length:=by rw[<-hl];exact(avl.1 hx).1
   obtain⟨T,ds,h1,h2⟩:=aE (i-vs.length) ks[i-vs.length] az3;obtain⟨_,b,hb,hx'⟩:=hcap (i-vs.length) ks[i-vs.length] az3;rw[hg]at h1;cases h1;rw[hx]at hx';cases hx';exact Tx r h2 hb ayW hw' hK hK2
inductive QC(P:Program):Operand->RG->List (Nat×SV)->List (Nat×Option HE)->Prop
 | g {x:Operand} {g:AG} {R:List (Nat×SV)} (h:Ev x (.g g) R):QC P x (.g g) R []
 | ep {x:Operand} {cs:List DV} {R:List (Nat×SV)} (h:Ev x (.ep cs) R):QC P x (.ep cs) R []
 | ptr {x:Operand} {k off T:Nat} {cs:List BV} {ds:List DV} {R:List (Nat×SV)} (h:Ev x (.ptr k off) R) (he:cs.drop off=dat ds):QC P x (.ep ds) R [(k,some (.blk T cs))]
 | own {x:Operand} {k T size:Nat} {es:List (List DV)} {ex:Bool} {R:List (Nat×SV)} (h:Ev x (.own k es) R):QC P x (.g<|.d<|.sl size es) R [(k,some (.row T size es ex))]
 | cp {x:Operand} {size:Nat} {es:List (List DV)} {R:List (Nat×SV)} (h:Ev x (.cp size es) R):QC P x (.g<|.d<|.sl size es) R []
 | sem {x:Operand} {Φ:List AG->Value->Prop} {R:List (Nat×SV)} (h:Ev x (.sem Φ) R):QC P x (.sem Φ) R []
 | yh {x:Operand} {f:Nat} {ks:List Nat} {gs:List RG} {Φ:List AG->Value->Prop} {R:List (Nat×SV)} {Rh:List (Nat×Option HE)} (h:Ev x (.yh f ks) R) (hc:tZ ks gs Rh) (Yh:cG P f)
   (LW:∀args v,Φ args v->Ct P f (args.map .g++gs) (.one<|.d<|.v v)):QC P x (.sem Φ) R Rh
theorem Ej.later(h:Ej P w K u Φ)(hw:cU K w w'):Ej P w' (λ_=>False) u Φ:=by
 obtain⟨f,caps,hu,Yh,hf⟩:=h;exact⟨f,caps,hu,Yh,λw'' hb'=>hf w'' ⟨hb'.os.trans hw.os,hb'.tape.trans hw.tape,hb'.output.trans hw.output,awa hw.size hb'.size,λk hk hK=>(hb'.block k (avE hk hw.size) id).trans<|hw.block k hk hK⟩⟩
theorem K2(r:dD C ⟨sl,hp⟩ β a w)(hk:aE hp k=some (.row T size es ex))(hu:BR C hp β w (.own k es) u)
  {M:Nat->Nat->Prop} (hM:∀b o,M b o->Mu C hp β b o) (hM2:∀b o,β k=some b->o<es.length*size->¬M b o):RD M w u (.sl size es):=by
 obtain⟨_,_,_,_,h1,_,h2⟩:=hu;rw[hk]at h1;cases h1;rcases h2 rfl with⟨_,rfl,ad,rfl⟩ | ⟨b,cap,cur,hb,rfl,hle,pR,hheap,hcs⟩
 ·exact RD.nil ad 0 size (av5 _)
 ·obtain⟨hz,hs,hr⟩:=r.hp k _ hk
  rcases hr with⟨h1,_⟩ | ⟨b',cur',h1,h3,h4,h5⟩
  ·rw[hb]at h1;cases h1
  ·rw[hb]at h1;cases h1
   rw[hheap]at h3;cases h3;refine RD.sl _ cap size es (λi j=>cur.getD (i*size+j) undef) b 0 hle pR (λ_=>rfl) hs (λi cs j d hi hj=>?_) (λi cs j d hi hj=>?_)
   ·obtain⟨v,h6,_⟩:=h5 i cs j d hi hj
    have hi':i<es.length:=(avl.1 hi).1
    have hj':j<cs.length:=(avl.1 hj).1
    have hl:cs.length=size:=hs cs (avH hi);have h7:(i+1)*size<=es.length*size:=avr _ hi';rw[awn]at h7;refine⟨?_,hM2 b _ hb<|by omega⟩;rw[awM _ _ _ _ T _ hheap,avS];simp[h6]
   ·obtain⟨v,h6,h7⟩:=h5 i cs j d hi hj
    have e:cur.getD (i*size+j) undef=v:=by simp[h6]
    show RD M w (cur.getD (i*size+j) undef) d;rw[e];exact h7.less hM
theorem QC.ok{P:Program}{nt:Nat}{C:Cx P nt}{sl:SL}{hp:HL}{β:Nat->Option Nat}{a:Act}{w:World}{x:Operand}{g:RG}{R:List (Nat×SV)}{Rh:List (Nat×Option HE)}
  (hx:QC P x g R Rh) (hs:bK sl R) (hh:dn hp Rh) (r:dD C ⟨sl,hp⟩ β a w):Ai P (λ_ _=>False) (λ_=>False) w g (a.eval x):=by
 have hrefl:cU (λ_=>False) w w:=⟨U,U,U,avq _,λ_ _ _=>rfl⟩;cases hx with
 | g h=>exact GR.less (λ_ _ c=>c.elim False.elim False.elim) (h.ok hs r)
 | ep h=>
  obtain⟨b,o,hu,hc⟩:=h.ok hs r;exact⟨b,o,hu,λj d hj=>let⟨x,h1,_,h3⟩:=hc j d hj;⟨x,h1,λc=>c.elim id id,h3.less λ_ _ c=>c.elim False.elim False.elim⟩⟩
 | ptr h he=>
  obtain⟨_,b,hb,hu⟩:=h.ok hs r;rw[hu];exact Tx r hh.1 hb he hrefl (λ_ c=>c.elim) (λ_ c=>c.elim)
 | own h=>exact K2 r hh.1 (h.ok hs r) (λ_ _ c=>c.elim False.elim False.elim) (λ_ _ _ _ c=>c.elim id id)
 | cp h=>exact(h.ok hs r).1.less (λ_ _ c=>c.elim False.elim False.elim)
 | sem h=>exact(show Ej P C.w0 C.K _ _ from h.ok hs r).later r.keep
 | yh h hc Yh LW=>exact V9 r (h.ok hs r) hc hh (λ_ c=>c.elim) (λ_ c=>c.elim) Yh LW
inductive xT(P:Program):List Operand->List RG->List (Nat×SV)->List (Nat×Option HE)->Prop
 | nil:xT P [] [] [] []
 | cons {x:Operand} {g:RG} {R Rs:List (Nat×SV)} {Rh jM:List (Nat×Option HE)} {xs:List Operand} {gs:List RG} (h:QC P x g R Rh) (t:xT P xs gs Rs jM):xT P (x::xs) (g::gs) (R++Rs) (Rh++jM)
theorem xT.ok{P:Program}{nt:Nat}{C:Cx P nt}{sl:SL}{hp:HL}{β:Nat->Option Nat}{a:Act}{w:World}{xs:List Operand}{gs:List RG}{R:List (Nat×SV)}{Rh:List (Nat×Option HE)}
  (hx:xT P xs gs R Rh) (hs:bK sl R) (hh:dn hp Rh) (r:dD C ⟨sl,hp⟩ β a w):
  (xs.map a.eval).length=gs.length/\∀(i:Nat)(g:RG)(v:Value),gs[i]? =some g->(xs.map a.eval)[i]? =some v->Ai P (λ_ _=>False) (λ_=>False) w g v:=by
 induction hx with
 | nil=>exact⟨U,λi g v h=>ay4⟩
 | cons h t ih=>
  obtain⟨h1,h2⟩:=hs.app;obtain⟨ZX,h2'⟩:=hh.app;obtain⟨h3,h4⟩:=ih h2 h2';refine⟨azx,λi g v hg hv=>?_⟩;cases i with
  | zero=>
   simp at hg hv;subst hg hv;exact h.ok h1 ZX r
  | succ i=>exact h4 i g v azz azy
def DV.sc:DV->Bool
 | .v _=>true
 | .sl _ _=>false
def AG.sc:AG->Bool
 | .d x=>x.sc
 | .agg cs=>cs.all DV.sc
def RS.sc:RS->Bool
 | .one g=>g.sc
 | .eV l=>l.all AG.sc
 | .new _ _ _=>false
theorem DV.IV{d:DV}(h:d.sc=true)(r:RD M w u d):RD M' w u d:=by
 cases r with
 | v _ hx=>exact RD.v _ hx
 | sl=>cases h
theorem AG.IV{M M':Nat->Nat->Prop}{w:World}{u:Value}{g:AG}(h:g.sc=true)(r:GR M w u g):GR M' w u g:=by
 cases g with
 | d d=>exact DV.IV h r
 | agg cs=>
  obtain⟨us,h1,h2,h3⟩:=r;refine⟨us,h1,h2,λj d hd=>let⟨x,hx,hr⟩:=h3 j d hd;⟨x,hx,DV.IV ?_ hr⟩⟩;exact avI.1 h d (avH hd)
theorem RS.IV{M M':Nat->Nat->Prop}{K:Nat->Prop}{w w':World}{v:Value}{res:RS}(h:res.sc=true)(r:QJ M K w w' res v):QJ M' K w w' res v:=by
 cases res with
 | one g=>exact AG.IV h r
 | eV l=>
  obtain⟨us,h1,h2,h3⟩:=r;exact⟨us,h1,h2,λi g hg=>let⟨x,hx,hr⟩:=h3 i g hg;⟨x,hx,AG.IV (avI.1 h g<|avH hg) hr⟩⟩
 | new T size es=>cases h
section
theorem nC{sv:SV}(hc:cG P f)(Me:Ct P f args res)(hsc:res.sc=true)(Tg:res.sv=sv)(hx:xT P xs args R Rh)(hd:Nat.blt dst nt=true):
  dJ C (Oo dst (gO f xs tys) ty pos af gd) R Rh [(dst,sv)] []:=by
 refine⟨λsl hp hs hh a w K Q⟨β,r⟩ hK=>?_⟩;obtain⟨h1,h2⟩:=hx.ok hs hh r;have oH:=Me.go (λ_ _=>False) (λ_=>False) w (xs.map a.eval) (λb o h=>h.elim) (λb h=>h.elim) h1 h2;unfold Oper.wp;rw[qh hc];refine oH.mono ?_;rintro e w' ⟨v,rfl,hk,hr⟩;refine hK _ _ ⟨β,r.put hk.toBelow ay1 ?_⟩;rw[<-Tg];exact RS.acU (RS.IV hsc hr)
theorem q8{args:List AG}(LW:Φ args v)(hv:v.oneCell'=true)(hx:L1 xs (args.map .g) R)(hd:Nat.blt dst nt=true):
  dJ C (Oo dst (vB t xs tys) ty pos af gd) ((t,.one (.sem Φ))::R) [] [(dst,.one (dv v))] []:=by
 refine⟨λsl hp hs hh a w K Q⟨β,r⟩ hK=>?_⟩;obtain⟨h1,h2⟩:=hx.ok hs.2 r;obtain⟨f,caps,hu,Yh,hf⟩:=(show Ej P C.w0 C.K _ _ from(Ev.t t _).ok (R:=[(t,.one (.sem Φ))]) ⟨hs.1,ayS⟩ r);have oH:=hf w r.keep (Mu C hp β) (xs.map a.eval) args v ay7 (λi u g hu hg=>GR.less (λb o c=>.inl c)<|h2 i (.g g) u (by simp[hg]) hu) LW;unfold Oper.wp;rw[N0 Yh hu];refine oH.mono ?_;rintro e w' ⟨rfl,hb⟩;exact hK _ _ ⟨β,r.put (sv:=.one<|dv v) hb ay1<|RD.v v hv⟩
theorem Vq{gs:List RG}{sv:SV}{Rh':List (Nat×Option HE)}(hc:cG P f)(Me:Ct P f (args++gs) res)(hsc:res.sc=true)(Tg:res.sv=sv)
  (hcl:tZ ks gs Rh') (hx:xT P xs args R Rh) (hd:Nat.blt dst nt=true):
  dJ C (Oo dst (vB t xs tys) ty pos af gd) ((t,.one (.yh f ks))::R) (Rh'++Rh) [(dst,sv)] []:=by
 refine⟨λsl hp hs hh a w K Q⟨β,r⟩ hK=>?_⟩;obtain⟨h1,h2⟩:=hx.ok hs.2 hh.app.2 r;obtain⟨us,hu,hl,hcap⟩:=(Ev.t t _).ok (R:=[(t,.one (.yh f ks))]) ⟨hs.1,ayS⟩ r
 obtain⟨Yi,aE⟩:=hcl.get hh.app.1;have oH:=Me.go (λ_ _=>False) (λ_=>False) w (xs.map a.eval++us) (λb o h=>h.elim) (λb h=>h.elim) (by simp only[avz,h1,hl,Yi]) (λi g v hg hv=>?_)
 ·unfold Oper.wp
  rw[N0 hc hu,awl];refine oH.mono ?_;rintro e w' ⟨v,rfl,hk,hr⟩;refine hK _ _ ⟨β,r.put hk.toBelow ay1 ?_⟩;rw[<-Tg];exact RS.acU (RS.IV hsc hr)
 ·by_cases c:i<args.length
  ·rw[avy c]at hg
   rw[avy (by rw[h1];exact c)]at hv;exact h2 i g v hg hv
  ·rw[avG ayT]at hg
   rw[avG (by rw[h1];omega),h1]at hv;have hlt:i-args.length<ks.length:=by rw[<-Yi];exact(avl.1 hg).1
   obtain⟨T,ds,h5,h6⟩:=aE (i-args.length) ks[i-args.length] az3;obtain⟨_,b,hb,hx'⟩:=hcap (i-args.length) ks[i-args.length] az3;rw[hg]at h5;cases h5;rw[hv]at hx';cases hx';exact Tx r h6 hb ayW ⟨U,U,U,avq _,λ_ _ _=>rfl⟩ (K:=λ_=>False) (λ_ c=>c.elim) (λ_ c=>c.elim)
end
inductive KI where
 | s
 | c (x:Code)
 | b (id:Nat)
 | l (ops:Array Oper) (rest:List Oper)
 | q (K:Act->World->Prop)
def runK(P:Program)(it:KI)(Q:Exit->Act->World->Prop)(a:Act)(w:World):Prop:=
 match it with
 | .s=>Q .normal a w
 | .c x=>x.wp P Q a w
 | .b _=>Q .normal a w
 | .l ops rest=>wpList P ops Q rest a w
 | .q K=>K a w
def Hq(P:Program)(Q0:Exit->Act->World->Prop):List KI->Exit->Act->World->Prop
 | []=>Q0
 | .b id::k=>Exit.inBlock id (Hq P Q0 k)
 | .s::k=>Exit.noGoto (Hq P Q0 k)
 | it::k=>Exit.then (runK P it<|Hq P Q0 k) (Hq P Q0 k)
structure G{P:Program}{nt:Nat}(C:Cx P nt)(Q0:Exit->Act->World->Prop)(k:List KI)(st:St):Prop where
 go:∀a w,Rel C st a w->Hq P Q0 k .normal a w
structure GX{P:Program}{nt:Nat}(C:Cx P nt)(Q0:Exit->Act->World->Prop)(id:Nat)(k:List KI)(st:St):Prop where
 go:∀a w,Rel C st a w->Hq P Q0 k (.exit id) a w
theorem mE{P:Program}{Q0:Exit->Act->World->Prop}{a:Act}{w:World}:∀{k:List KI},Q0 .ret a w->Hq P Q0 k .ret a w
 | [],h=>h
 | .b _::k,h=>mE (k:=k) h
 | .s::k,h=>mE (k:=k) h
 | .c _::k,h=>mE (k:=k) h
 | .l _ _::k,h=>mE (k:=k) h
 | .q _::k,h=>mE (k:=k) h
variable{e:Option HE}{rest:List Oper}{Q0 Q:Exit->Act->World->Prop}{ops:Array Oper}{sl':SL}{Ws:List (Nat×SV)}{Wh:List (Nat×Option HE)}{j:Nat}
section
variable{k:List KI}{st':St}
theorem G.seq{x y:Code}(h:G C Q0 (.c x:: .c y::k) st):G C Q0 (.c (.seq x y)::k) st:=⟨λa w r=>wp_seq (h.go a w r)⟩
theorem G.block{id:Nat}{x:Code}(h:G C Q0 (.c x:: .b id::k) st):G C Q0 (.c (.block id x)::k) st:=⟨λa w r=>wp_block (h.go a w r)⟩
theorem G.endBlock{id:Nat}(h:G C Q0 k st):G C Q0 (.b id::k) st:=⟨λa w r=>h.go a w r⟩
theorem G.scope{x:Code}(h:G C Q0 (.c x:: .s::k) st):G C Q0 (.c (.scope x)::k) st:=⟨λa w r=>wp_scope_straight (h.go a w r)⟩
theorem G.skip(h:G C Q0 k st):G C Q0 (.c .skip::k) st:=⟨λa w r=>wp_skip (h.go a w r)⟩
theorem G.label{l:Nat}(h:G C Q0 k st):G C Q0 (.c (.label l)::k) st:=⟨λa w r=>wp_label (h.go a w r)⟩
theorem G.exit{id:Nat}(h:GX C Q0 id k st):G C Q0 (.c (.exit id)::k) st:=⟨λa w r=>wp_exit (h.go a w r)⟩
theorem GX.c{id:Nat}{x:Code}(h:GX C Q0 id k st):GX C Q0 id (.c x::k) st:=⟨λa w r=>h.go a w r⟩
theorem GX.q{id:Nat}{K:Act->World->Prop}(h:GX C Q0 id k st):GX C Q0 id (.q K::k) st:=⟨λa w r=>h.go a w r⟩
theorem GX.aha{id:Nat}(h:G C Q0 k st):GX C Q0 id (.b id::k) st:=⟨λa w r=>by
 show Exit.inBlock id (Hq P Q0 k) (.exit id) a w;simp only[Exit.inBlock,avM];exact h.go a w r⟩
theorem G.cond{t:Nat}{b:Bool}{x y:Code}(hs:bG st.sl t=some (.one (bB b)))(h1:b=true->G C Q0 (.c x::k) st)(h2:b=false->G C Q0 (.c y::k) st):G C Q0 (.c (.cond (.tmp t) x y)::k) st:=⟨λa w r=>by
 obtain⟨β,r⟩:=r;have hv:a.eval (.tmp t)= .bool b:=RD.aX (r.sl t _ hs)
 exact wp_cond_split hv (λh=>(h1 h).go a w ⟨β,r⟩) (λh=>(h2 h).go a w ⟨β,r⟩)⟩
theorem G.Wb{x y:Code}(hs:bG st.sl t=some (.one (bB true)))(h1:G C Q0 (.c x::k) st):G C Q0 (.c (.cond (.tmp t) x y)::k) st:=G.cond hs (λ_=>h1) (λh=>azm)
theorem G.Wa{x y:Code}(hs:bG st.sl t=some (.one (bB false)))(h1:G C Q0 (.c y::k) st):G C Q0 (.c (.cond (.tmp t) x y)::k) st:=G.cond hs (λh=>azm) (λ_=>h1)
theorem BI{c:Code}(I:Nat->Act->World->Prop)(n:Nat)(h0:I n a w)
  (round:∀n a w,I n a w->c.wp P (Exit.then (λa' w'=>∃m,m<n/\I m a' w') Q) a w):(Code.loop c).wp P Q a w:=by
 intro b k cs;have key:∀n a w,I n a w->∃e a' w',Q e a' w'/\Arrives P (lone (b.at a<|.code c:: .inLoop c::k) cs w) b k cs e a' w':=by
  intro n
  induction n using Nat.strongRecOn with
  | _ n ih=>
   intro a w hI;have hr:=round n a w hI b (.inLoop c::k) cs;obtain⟨e,a₁,w₁,hq,Ry⟩:=hr;have out:∀e',e=e'->e'≠.normal->∃e a' w',Q e a' w'/\Arrives P (lone (b.at a<|.code c:: .inLoop c::k) cs w) b k cs e a' w':=by
    intro e' he hn;subst he;refine⟨e,a₁,w₁,?_,Arrives.pass (x:=.inLoop c) U (λ_ _=>.inl hn) Ry⟩;cases e<;>first | exact hq | exact absurd U hn
   cases e with
   | normal=>
    obtain⟨m,hm,hIm⟩:=hq;obtain⟨e₂,a₂,w₂,akT,aeF⟩:=ih m hm a₁ w₁ hIm;exact⟨e₂,a₂,w₂,akT,.of_steps (Steps.trans Ry<|.one step_inLoop) aeF⟩
   | _=>exact out _ U ayW
 obtain⟨e,a',w',hq,Ry⟩:=key n a w h0;exact⟨e,a',w',hq,.of_steps (.one step_loop) Ry⟩
theorem G.loop{x:Code}(I:Nat->St->Prop)(n:Nat)(h0:I n st)
  (round:∀n st,I n st->G C Q0 (.c x:: .q (λa w=>∃m,m<n/\∃st',I m st'/\Rel C st' a w)::k) st):G C Q0 (.c (.loop x)::k) st:=⟨λ_a _w r=>
 BI (λn a w=>∃st',I n st'/\Rel C st' a w) n ⟨st,h0,r⟩ λn a w⟨st',hI,r'⟩=>(round n st' hI).go a w r'⟩
theorem G.again{I:Nat->St->Prop}{m:Nat}(hm:m<n)(hI:I m st):G C Q0 (.q (λa w=>∃m,m<n/\∃st',I m st'/\Rel C st' a w)::k) st:=⟨λ_ _ r=>⟨m,hm,st,hI,r⟩⟩
theorem G.region{id:Nat}{l:List Oper}(h:G C Q0 (.l l.toArray l::k) st):G C Q0 (.c (.region id l.toArray false)::k) st:=⟨λa w r=>wp_region_lit (h.go a w r)⟩
theorem G.Ka(h:G C Q0 k st):G C Q0 (.l ops [] ::k) st:=⟨λa w r=>wpList_nil (P:=P) (ops:=ops) (Q:=Hq P Q0 k) (h.go a w r)⟩
theorem G.op
  (h:dJ C o Rs Rh Ws Wh) (hg:o.guard=none) (hs:bK sl Rs) (hh:dn hp Rh) (e1:Ws++sl=sl') (e2:Wh++hp=dg)
  (hk:G C Q0 (.l ops rest::k) ⟨sl',dg⟩):G C Q0 (.l ops (o::rest)::k) ⟨sl,hp⟩:=⟨λa w r=>by
 subst e1 e2;exact axl hg λK hK=>h.go sl hp hs hh a w K _ r λa w r=>hK a w (hk.go a w r)⟩
theorem dD.ac2(r:dD C ⟨sl,hp⟩ β a w)(dst:Nat):dD C ⟨(dst,.one (.x Go.undef))::sl,hp⟩ β (a.put (some dst) Go.undef) w:=by
 refine⟨r.keep,r.low,r.inj,r.own,r.hp,λt sv hs=>?_,by simp[Act.put,r.size],r.df,r.fx⟩;simp only[eX]at hs;rw[zD];by_cases h:dst=t
 ·rw[avk h]at hs
  cases hs;subst h;show _=Go.undef;split
  ·rfl
  ·rename_i c
   have:a.tmps.size<=dst:=by simp only[true_and,Nat.not_lt]at c;exact c
   simp[this]
 ·rw[avj h]at hs
  rw[avj (λc=>h c.1)];exact r.sl t sv hs
theorem FM(r:dD C ⟨sl,hp⟩ β a w)(hj:(ops[j]?).bind (·.dst)=some t)(hs:bG sl t=some (.one (bB b))):
  yielded ops a.tmps j=some b:=by
 have h1:a.tmps.getD t Go.undef= .bool b:=RD.aX (r.sl t _ hs)
 have h2:a.tmps[t]? =some (.bool b):=by
  rw[avx]at h1;cases h3:a.tmps[t]? with
  | none=>rw[h3]at h1;simp[undef]at h1
  | some v=>rw[h3]at h1;simp at h1;rw[h1]
 simp[yielded,hj,h2]
theorem G.opG
  (h:dJ C o Rs Rh Ws Wh) (hg:o.guard=some (j,b)) (hj:(ops[j]?).bind (·.dst)=some t) (ht:bG sl t=some (.one<|bB b)) (hs:bK sl Rs) (hh:dn hp Rh) (e1:Ws++sl=sl') (e2:Wh++hp=dg)
  (hk:G C Q0 (.l ops rest::k) ⟨sl',dg⟩):G C Q0 (.l ops (o::rest)::k) ⟨sl,hp⟩:=⟨λa w⟨β,r⟩=>by
 subst e1 e2;have hy:=FM r hj ht;exact ayM λK hK=>by
  simp only[Region.wanted,hg,hy,beq_self_eq_true,avM];exact h.go sl hp hs hh a w K _ ⟨β,r⟩ λa w r=>hK a w (hk.go a w r)⟩
theorem M5(r:dD C ⟨sl,hp⟩ β a w)(hj:(ops[j]?).bind (·.dst)=some t)(hs:bG sl t=some (.one (.x Go.undef))):
  yielded ops a.tmps j=none:=by
 have h1:a.tmps.getD t Go.undef=Go.undef:=r.sl t _ hs;rw[avx]at h1;cases h3:a.tmps[t]? with
 | none=>simp[yielded,hj,h3]
 | some v=>rw[h3]at h1;simp at h1;subst h1;simp[yielded,hj,h3,Go.undef]
theorem G.opN{c:Bool}
  (hd:o.dst=some dst) (hg:o.guard=some (j,c)) (hbc:(b==c)=false) (hj:(ops[j]?).bind (·.dst)=some t) (ht:bG sl t=some (.one<|bB b)) (e1:(dst,.one (.x Go.undef))::sl=sl')
  (hk:G C Q0 (.l ops rest::k) ⟨sl',hp⟩):G C Q0 (.l ops (o::rest)::k) ⟨sl,hp⟩:=⟨λa w⟨β,r⟩=>by
 subst e1;have hy:=FM r hj ht;exact ayM λK hK=>by
  have:(some b==some c)=false:=by simpa using hbc
  simp only[Region.wanted,hg,hy,this,avn,avB,hd];exact hK _ _ (hk.go _ _ ⟨β,r.ac2 dst⟩)⟩
def BV.ids:BV->List Nat
 | .ptr k _=>[k]
 | .pv k _=>[k]
 | .own k _=>[k]
 | .rp k _ _=>[k]
 | .yh _ l=>l
 | _=>[]
def SV.ids:SV->List Nat
 | .one b=>b.ids
 | .eV l=>l.flatMap BV.ids
 | .dead=>[]
def HE.ids:HE->List Nat
 | .blk _ cs=>cs.flatMap BV.ids
 | .ZV _ _ kk _=>[kk]
 | _=>[]
def Rz(hp:HL)(k:Nat):Bool:=(aE hp k).isSome
def tY(sl:SL)(hp:HL):Bool:=sl.all (λp=>p.2.ids.all (Rz hp))&&hp.all (λp=>match p.2 with | some e=>e.ids.all (Rz hp) | none=>true)
theorem wP{sv:SV}(h:bG sl t=some sv):(t,sv)∈sl:=by
 induction sl with
 | nil=>cases h
 | cons p sl ih=>
  obtain⟨k,c⟩:=p;rw[eX]at h;by_cases hk:k=t
  ·subst hk;rw[avk U]at h;cases h;exact axK
  ·rw[avj hk]at h;exact axy _ (ih h)
theorem lJ{e:HE}(h:aE hp t=some e):(t,some e)∈hp:=by
 induction hp with
 | nil=>cases h
 | cons p sl ih=>
  obtain⟨k,c⟩:=p;rw[aG]at h;by_cases hk:k=t
  ·subst hk;rw[avk U]at h;subst h;exact axK
  ·rw[avj hk]at h;exact axy _ (ih h)
theorem bK.mem{l:SL}(h:bK sl l){sv:SV}(hm:(t,sv)∈l):bG sl t=some sv:=by
 induction l with
 | nil=>cases hm
 | cons p l ih=>
  obtain⟨k,c⟩:=p;rcases List.mem_cons.1 hm with h1 | h1
  ·cases h1;exact h.1
  ·exact ih h.2 h1
theorem dn.mem{l:HL}(h:dn hp l)(hm:(t,e)∈l):aE hp t=e:=by
 induction l with
 | nil=>cases hm
 | cons p l ih=>
  obtain⟨k,c⟩:=p;rcases List.mem_cons.1 hm with h1 | h1
  ·cases h1;exact h.1
  ·exact ih h.2 h1
theorem dD.cv(r:dD C ⟨sl,hp⟩ β a w)(hs:bK sl sl')(hh:dn hp dg)(hsc:tY sl' dg=true):dD C ⟨sl',dg⟩ β a w:=by
 have fD:∀k e,aE dg k=some e->aE hp k=some e:=λk e h=>hh.mem (lJ h);have Hl:∀b o,Mu C dg β b o->Mu C hp β b o:=by
  rintro b o (hM | ⟨k,e,he,hb,hm⟩)
  ·exact .inl hM
  ·exact .inr ⟨k,e,fD k e he,hb,hm⟩
 have hst:∀b o x,¬Mu C hp β b o->w.cell? ⟨b,o,none⟩=some x->w.cell? ⟨b,o,none⟩=some x/\¬Mu C dg β b o:=λb o x hn hx=>⟨hx,λc=>hn<|Hl b o c⟩;simp only[tY,avA,avI]at hsc;have Hi:∀c u,(∀k,k∈c.ids->Rz dg k=true)->BR C hp β w c u->BR C dg β w c u:=by
  intro c u hi h;have hup:∀k e,k∈c.ids->aE hp k=some e->aE dg k=some e:=λk e hk he=>by
   have:=hi k hk;simp only[Rz,axu]at this;obtain⟨e',he'⟩:=this;rw[fD k e' he']at he;cases he;exact he'
  refine BR.kept hst (λk hk e he hr=>⟨⟨e,hup k e ?_ he,hr⟩,U⟩) (λk B5 u hc h=>?_) h
  ·cases c<;>simp_all [BV.ids]
  ·obtain⟨T,size,es,ex,h1,h2⟩:=h
   exact⟨T,size,es,ex,hup k _ aAO h1,h2⟩
 refine⟨r.keep,r.low,λk k' e e' b h1 h2=>r.inj k k' e e' b (fD _ _ h1)<|fD _ _ h2,λk e b h1=>r.own k e b<|fD _ _ h1,λk e h1=>?_,λt sv ht=>?_,r.size,r.df,λb hb=>⟨(r.fx b hb).1,λe he=>(r.fx b hb).2 e<|fD 0 e he⟩⟩
 ·have h2:=r.hp k e (fD _ _ h1)
  cases e with
  | blk T cs=>
   obtain⟨b,arr,q1,q2,q3,q4⟩:=h2;refine⟨b,arr,q1,q2,q3,λj c hc=>let⟨u,hu,ho,hr⟩:=q4 j c hc;⟨u,hu,ho,Hi c u (λk' hk'=>?_) hr⟩⟩;have:=hsc.2 _ (lJ h1);simp only[HE.ids,avI]at this;exact this k' (axg.2 ⟨c,avH hc,hk'⟩)
  | row T size es ex=>
   obtain⟨hz,hs,hr⟩:=h2;exact⟨hz,hs,hr.imp id λ⟨b,cur,q1,q2,q3,q4⟩=>⟨b,cur,q1,q2,q3,λi cs j d hi hj=>let⟨u,hu,hr⟩:=q4 i cs j d hi hj;⟨u,hu,hr.mono hst⟩⟩⟩
  | it s pos=>exact h2
  | pr Φ=>exact h2
  | map es=>
   obtain⟨b,cm,q1,q2,q3,q4⟩:=h2;exact⟨b,cm,q1,q2,q3,λi e he=>let⟨x,p1,p2,p3,p4⟩:=q4 i e he;⟨x,p1,p2,p3,p4.mono hst⟩⟩
  | ZV T E kk s=>
   obtain⟨q0,q1⟩:=h2;have:=hsc.2 _ (lJ h1);simp only[HE.ids,ayO,List.all_nil,Bool.and_true,Rz,axu]at this;obtain⟨e',he'⟩:=this;have h3:=fD kk e' he';rw[q0]at h3;cases h3;exact⟨he',q1⟩
  | hid _ _=>trivial
  | obj _=>exact h2
 ·have h1:=r.sl t sv (hs.mem<|wP ht)
  have h2:=hsc.1 _ (wP ht);cases sv with
  | one b=>exact Hi b _ (λk hk=>h2 k hk) h1
  | eV l=>
   obtain⟨us,q1,q2,q3⟩:=h1;refine⟨us,q1,q2,λi b hi=>let⟨x,hx,hr⟩:=q3 i b hi;⟨x,hx,Hi b x (λk hk=>?_) hr⟩⟩;exact h2 k (axg.2 ⟨b,avH hi,hk⟩)
  | dead=>trivial
theorem G.keep(hs:bK sl sl')(hh:dn hp dg)(hsc:tY sl' dg=true)(h:G C Q0 k ⟨sl',dg⟩):G C Q0 k ⟨sl,hp⟩:=⟨λa w⟨β,r⟩=>h.go a w ⟨β,r.cv hs hh hsc⟩⟩
theorem Rel.cv{sl sl':SL}{hp dg:HL}{a:Act}{w:World}(r:Rel C ⟨sl,hp⟩ a w)(hs:bK sl sl')(hh:dn hp dg)(hsc:tY sl' dg=true):Rel C ⟨sl',dg⟩ a w:=let⟨β,r⟩:=r;⟨β,r.cv hs hh hsc⟩
theorem dD.slot(r:dD C ⟨sl,hp⟩ β a w){sv:SV}(h:SR C hp β w sv (a.tmps.getD t undef)):dD C ⟨(t,sv)::sl,hp⟩ β a w:=by
 refine⟨r.keep,r.low,r.inj,r.own,r.hp,λt' sv' hs=>?_,r.size,r.df,r.fx⟩;simp only[eX]at hs;by_cases c:t=t'
 ·subst c;rw[avk U]at hs;cases hs;exact h
 ·rw[avj c]at hs;exact r.sl t' sv' hs
theorem G.view{k':Nat}(hs:bG sl t=some (.one (.own k' es)))(hh:aE hp k'=some (.row T size es false))(h:G C Q0 k ⟨(t,.one (.g (.d (.sl size es))))::sl,hp⟩):G C Q0 k ⟨sl,hp⟩:=
 ⟨λa w⟨β,r⟩=>h.go a w ⟨β,r.slot (K2 r hh (r.sl t _ hs) (λ_ _ h=>h) (λb o hb ho hm=>by
  rcases hm with hM | ⟨k1,e1,h1,h2,h3⟩
  ·obtain⟨h4,h5⟩:=r.low b o hM
   rcases(r.own k' _ b hh hb).1 with h6 | h6
   ·omega
   ·exact h5 h6
  ·obtain rfl:=r.inj k1 k' e1 _ b h1 hh h2 hb
   rw[hh]at h1;cases h1;simp only[HE.xK,avn,false_or]at h3;omega))⟩⟩
theorem G.share{k':Nat}(hh:aE hp k'=some (.row T size es ex))(h:G C Q0 k ⟨sl,(k',some (.row T size es false))::hp⟩):G C Q0 k ⟨sl,hp⟩:=⟨λa w⟨β,r⟩=>by
 refine h.go a w ⟨dQ β k'<|β k',(r.chg (e:=.row T size es false) (bo:=β k') hh U U U (avq _) (λ_ _ _=>rfl) (λ_ _ _ _ h _=>h) (.inl ⟨U,λo ho=>.inr<|by simpa[HE.xK]using ho⟩) ⟨U,λ_=>rfl⟩ (λB5 u hu=>?_) λ_ FN=>?_).1⟩
 ·obtain⟨T',size',es',ex',h1,h2,h3⟩:=hu
  rw[hh]at h1;cases h1;exact⟨T,size,es,false,azp,h2,λhq=>by simpa[dQ]using h3 hq⟩
 ·obtain⟨hz,hs,hr⟩:=r.hp k' _ hh
  exact⟨hz,hs,hr.imp (λ⟨q1,q2⟩=>⟨by simp[dQ,q1],q2⟩) λ⟨b,cur,q1,q2,q3,q4⟩=>⟨b,cur,by simp[dQ,q1],q2,q3,λi cs j d hi hj=>let⟨u,hu,hr⟩:=q4 i cs j d hi hj;⟨u,hu,FN _ _ hr⟩⟩⟩⟩
end
def RG.sv:RG->SV
 | .g a=>.one (.g a)
 | .ep cs=>.one (.ep cs)
 | .sem Φ=>.one (.sem Φ)
 | .ro Φ=>.one (.ro Φ)
 | .row _ _ _=>.dead
 | .pt _=>.dead
def RG.isRow:RG->Bool
 | .row _ _ _=>true
 | .pt _=>true
 | _=>false
def m7:Nat->List RG->SL
 | _,[]=>[]
 | i,g::r=>(i,g.sv)::m7 (i+1) r
theorem oq:∀{l:List RG}{i t:Nat}{sv:SV},bG (m7 i l) t=some sv->i<=t/\∃g,l[t-i]? =some g/\sv=g.sv
 | [],i,t,sv,h=>azm
 | g::l,i,t,sv,h=>by
  simp only[m7,eX]at h;by_cases c:i=t
  ·subst c
   rw[avk rfl]at h;cases h;exact⟨avq _,g,ayW,U⟩
  ·rw[avj c]at h
   obtain⟨h1,g',h2,h3⟩:=oq h;refine⟨ayT,g',?_,h3⟩;rw[show t-i=(t-(i+1))+1 by omega];simpa using h2
def BL(M:Nat->Nat->Prop)(K:Nat->Prop)(w:World)(res:RS):Ending->World->Prop:=λe w'=>∃v,e= .returned v/\cU K w w'/\QJ M K w w' res v
variable{fn:Func}
theorem Ct.intro{code:Code}(hf:P.funcs[f]? =some fn)(hb:fn.body=some code)(hn:fn.ntmps=n)(hle:Nat.ble args.length n=true)
  (hrow:args.all (λg=>!g.isRow)=true)
  (h:∀M w,G (⟨w,M,λ_=>False,none⟩:Cx P n) (bodyPost P fn<|BL M (λ_=>False) w res) [.c code] ⟨m7 0 args,[]⟩):Ct P f args res:=by
 refine⟨λM K w vs hM hK hl hargs=>?_⟩;have hK0:K=λ_=>False:=by
  funext b;refine propext ⟨λc=>?_,λc=>c.elim⟩;obtain⟨i,T,size,es,cap,h1,_⟩:=hK b c;have:=avI.1 hrow _ (avH h1);simp[RG.isRow]at this
 subst hK0;have hle':vs.length<=n:=by rw[hl];simpa using hle
 refine calls_of_wp hf hb ?_;refine(h M w).go _ w ⟨λ_=>none,⟨⟨U,U,U,avq _,λ_ _ _=>rfl⟩,hM,(λ_ _ _ _ _ h=>azm),(λ_ _ _ h=>azm),(λ_ _ h=>azm),λt sv hs=>?_,?_,U,λ_ hb=>aAX⟩⟩
 ·obtain⟨_,g,h1,rfl⟩:=oq hs
  rw[ay9]at h1;have hlt:t<vs.length:=by rw[hl];exact(avl.1 h1).1
  have hv:(vs.toArray++Array.replicate (fn.ntmps-vs.toArray.size) undef).getD t undef=vs[t]:=by
   simp[ayg,hlt]
  show SR _ _ _ _ _ ((vs.toArray++Array.replicate (fn.ntmps-vs.toArray.size) undef).getD t undef);rw[hv];have ha:=hargs t g vs[t] h1 az3;have Hl:∀b o,Mu (⟨w,M,λ_=>False,none⟩:Cx P n) [] (λ_=>none) b o->M b o\/False:=by
   rintro b o (c | ⟨_,_,c,_⟩)
   ·exact .inl c
   ·cases c
  cases g with
  | g a=>exact GR.less Hl ha
  | ep cs=>
   obtain⟨b,o,hu,hc⟩:=ha;exact⟨b,o,hu,λj d hj=>let⟨x,q1,q2,q3⟩:=hc j d hj;⟨x,q1,λc=>q2<|Hl _ _ c,q3.less Hl⟩⟩
  | sem Φ=>exact ha
  | ro Φ=>exact ha
  | row T size es=>trivial
  | pt h=>trivial
 ·simp[hn];omega
inductive sD(P:Program):ResultVar->AG->List (Nat×SV)->List (Nat×Option HE)->Prop
 | tmp (t:Nat) (g:AG):sD P (.tmp t) g [(t,.one (.g g))] []
 | fH {t T T' k:Nat} {d:TypeDesc} {cs:List BV} {x:DV} (hU:P.underlying T=some d) (hA:qJ d=false) (hc:cs[0]? =some (.g<|.d x)):sD P (.cell t T) (.d x) [(t,.one (.ptr k 0))] [(k,some (.blk T' cs))]
 | e6 {t T T' k bytes:Nat} {d:TypeDesc} {zz:Value} {cs:List BV} {ds:List DV} (hU:P.underlying T=some d) (hA:qJ d=true) (hI:Info P T zz ds.length bytes) (hc:cs.take ds.length=dat ds):
   sD P (.cell t T) (.agg ds) [(t,.one (.ptr k 0))] [(k,some (.blk T' cs))]
def Fv(tmps:Array Value):ResultVar->Sem Value
 | .tmp t=>pure (tmps.getD t undef)
 | .cell a t=>do loadVar t (<-asAddr (tmps.getD a undef))
theorem ri(fn:Func)(tmps:Array Value):results fn tmps=(fn.results.mapM (Fv tmps) >>=λvs=>pure (if h:vs.size=1 then vs[0]else .tuple vs)):=rfl
section
variable{k:List KI}
theorem sD.ok{sl:SL}{hp:HL}{β:Nat->Option Nat}{a:Act}{w:World}{rv:ResultVar}{g:AG}{R:List (Nat×SV)}{Rh:List (Nat×Option HE)}(hx:sD P rv g R Rh)(hs:bK sl R)(hh:dn hp Rh)(r:dD C ⟨sl,hp⟩ β a w):
  ∃v,(Fv a.tmps rv).run P w= .ok v w/\GR (Mu C hp β) w v g:=by
 cases hx with
 | tmp t g=>exact⟨_,U,r.sl t _ hs.1⟩
 | @fH t T T' k d cs x hU hA hc=>
  obtain⟨_,b,hb,hu⟩:=(r.sl t _ hs.1:BR C hp β w (.ptr k 0) _);obtain⟨b',arr,hb',hheap,hsz,hcell⟩:=r.hp k _ hh.1;rw[hb]at hb';cases hb';obtain⟨u,za,_,hr⟩:=hcell 0 _ hc;have hcl:w.cell? ⟨b,0,none⟩=some u:=by rw[awM w b 0 arr T' _ hheap];exact za
  have hu2:a.tmps.getD t undef= .pointer (some ⟨b,0,none⟩):=hu
  exact⟨u,by simp only[Fv,hu2,asAddr,avw,avF,avt,loadVar,rj hU,hA,avn,avB];simp[hcl],hr⟩
 | @e6 t T T' k bytes d zz cs ds hU hA hI hc=>
  obtain⟨_,b,hb,hu⟩:=(r.sl t _ hs.1:BR C hp β w (.ptr k 0) _);obtain⟨b',arr,hb',hheap,hsz,hcell⟩:=r.hp k _ hh.1;rw[hb]at hb';cases hb';have key:∀(j:Nat)(dd:DV),ds[j]? =some dd->∃u,arr[j]? =some u/\RD (Mu C hp β) w u dd:=by
   intro j dd hj;have hl:j<ds.length:=(avl.1 hj).1
   have:cs[j]? =some (.g<|.d dd):=by
    have e:(cs.take ds.length)[j]? =(dat ds)[j]? :=by rw[hc]
    rw[awv,avk hl]at e;rw[e];simp[dat,hj]
   obtain⟨u,h1,_,h3⟩:=hcell _ _ this;exact⟨u,h1,h3⟩
  have hu2:a.tmps.getD t undef= .pointer (some ⟨b,0,none⟩):=hu
  have hl:=mg (P:=P) (b:=b) (o:=0) (w:=w) hU hA hI (λj=>arr.getD j undef) (λj hj=>by
   obtain⟨u,h1,_⟩:=key j ds[j] azT;rw[avS,awM w b _ arr T' _ hheap];simp[h1])
  refine⟨.agg ((List.range ds.length).map λj=>arr.getD j undef).toArray,?_,_,U,ayW,λj dd hj=>?_⟩
  ·simp only[Fv,hu2,asAddr,avw,avF,avt]
   simp only[Instr.loadAt,Instr.sureAddr,avw,avF,avt]at hl;exact hl
  ·obtain⟨u,h1,h2⟩:=key j dd hj
   have hl:j<ds.length:=(avl.1 hj).1
   exact⟨u,by simp[hl,h1],h2⟩
theorem toM(h:GR (Mu C hp β) w v g):GR C.M w v g:=h.less λ_ _ c=>.inl c
theorem G.MA{rv:ResultVar}(hres:fn.results= #[rv])(hr:sD P rv g R Rh)(hs:bK sl R)(hh:dn hp Rh):
  G C (bodyPost P fn<|BL C.M C.K C.w0<|.one g) (.c .ret::k) ⟨sl,hp⟩:=.mk<|λa w⟨β,r⟩=>by
 obtain⟨v,h1,h2⟩:=hr.ok hs hh r;refine wp_ret (mE ⟨r.df,v,?_,v,U,r.keep,toM h2⟩);rw[ri,hres];simp[h1]
theorem G.alK{rv rv':ResultVar}{g':AG}{R':List (Nat×SV)}{Rh':List (Nat×Option HE)}(hres:fn.results= #[rv,rv'])(hr:sD P rv g R Rh)(hr':sD P rv' g' R' Rh')
  (hs:bK sl (R++R')) (hh:dn hp (Rh++Rh')):G C (bodyPost P fn<|BL C.M C.K C.w0<|.eV [g,g']) (.c .ret::k) ⟨sl,hp⟩:=.mk<|λa w⟨β,r⟩=>by
 obtain⟨v,h1,h2⟩:=hr.ok hs.app.1 hh.app.1 r;obtain⟨v',ZX,h2'⟩:=hr'.ok hs.app.2 hh.app.2 r;refine wp_ret (mE ⟨r.df,.tuple #[v,v'],?_,.tuple #[v,v'],U,r.keep,#[v,v'],U,U,λi g'' hi=>?_⟩)
 ·rw[ri,hres]
  simp[h1,ZX]
 ·match i with
  | 0=>simp at hi;subst hi;exact⟨v,U,toM h2⟩
  | 1=>simp at hi;subst hi;exact⟨v',U,toM h2'⟩
  | i+2=>simp at hi
theorem G.A4{k':Nat}(hres:fn.results= #[.tmp t])(hs:bG sl t=some (.one (.own k' es)))(hh:aE hp k'=some (.row T size es true)):
  G C (bodyPost P fn<|BL C.M C.K C.w0<|.new T size es) (.c .ret::k) ⟨sl,hp⟩:=.mk<|λa w⟨β,r⟩=>by
 have hu:=(r.sl t _ hs:BR C hp β w (.own k' es) _);refine wp_ret (mE ⟨r.df,a.tmps.getD t undef,?_,a.tmps.getD t undef,U,r.keep,?_⟩)
 ·rw[ri,hres]
  simp[Fv]
 ·obtain⟨_,_,_,_,h1,_,h2⟩:=hu
  rw[hh]at h1;cases h1;obtain⟨hz,hsz,hr⟩:=r.hp k' _ hh;refine⟨hz,hsz,?_⟩;rcases h2 rfl with⟨_,h3,h4⟩ | ⟨b,cap,cur,hb,za,hle,pR,hheap,hcs⟩
  ·exact .inl ⟨h3,h4⟩
  ·rcases hr with⟨q1,_⟩ | ⟨b',cur',q1,q2,q3,q4⟩
   ·rw[hb]at q1;cases q1
   ·rw[hb]at q1;cases q1
    rw[hheap]at q2;cases q2;refine .inr ⟨b,cap,cur,(r.own k' _ b hh hb).1,(r.own k' _ b hh hb).2,za,hle,pR,hheap,hcs,λi cs j d hi hj=>let⟨v,p1,p2⟩:=q4 i cs j d hi hj;⟨v,p1,p2.less λb'' o c=>?_⟩⟩
    rcases c with c | c
    ·exact .inl c
    ·subst c;exact .inr ⟨k',_,hh,hb,.inl U⟩
end
structure iD where
 Rs:List (Nat×SV)
 Rh:List (Nat×Option HE)
 Ws:List (Nat×SV)
 Wh:List (Nat×Option HE)
structure OpW{P:Program}{nt:Nat}(C:Cx P nt)(ops:Array Oper)(i:Nat)(e:iD):Prop where
 go:∀sl hp,bK sl e.Rs->dn hp e.Rh->∀a w K Q,Rel C ⟨sl,hp⟩ a w->(∀a w,Rel C ⟨e.Ws++sl,e.Wh++hp⟩ a w->K a w)->wpOp P ops Q i K a w
section
variable{i:Nat}
theorem OpW.plain(h:dJ C o Rs Rh Ws Wh)(ho:ops[i]? =some o)(hg:o.guard=none):OpW C ops i ⟨Rs,Rh,Ws,Wh⟩:=
 ⟨λsl hp hs hh a w K Q r hK=>by
  unfold wpOp;rw[ho];simp only[Region.wanted,hg,avM];exact .inl (h.go sl hp hs hh a w K Q r hK)⟩
end
def wS(aY:List iD)(t:Nat):Option Nat:=aY.findIdx? λe=>e.Ws.any λp=>Nat.beq p.1 t
def Xl(t:Nat)(e:iD):Bool:=e.Wh.any λp=>Nat.beq p.1 t
def lM:List iD->Nat->(Nat->Bool)->Nat->Option (Option HE)
 | [],_,_,_=>none
 | e::r,i,D,t=>match lM r (i+1) D t with
  | some x=>some x
  | none=>if D i&&Xl t e then some (aE e.Wh t)else none
theorem lN{D D':Nat->Bool}{t:Nat}:∀{l:List iD}{i:Nat},(∀j e,l[j]? =some e->Xl t e=true->D (i+j)=D' (i+j))->lM l i D t=lM l i D' t
 | [],i,h=>rfl
 | e::r,i,h=>by
  have ih:=lN (D:=D) (D':=D') (t:=t) (l:=r) (i:=i+1) (λj e' hj hw=>azO);simp only[lM,ih];cases lM r (i+1) D' t with
  | some x=>rfl
  | none=>
   cases hw:Xl t e with
   | false=>simp
   | true=>have:=h 0 e U hw;rw[awE]at this;simp[this]
theorem we{D:Nat->Bool}{t:Nat}:∀{l:List iD}{i:Nat},(∀j e,l[j]? =some e->Xl t e=true->D (i+j)=false)->lM l i D t=none
 | [],i,h=>rfl
 | e::r,i,h=>by
  have ih:=we (D:=D) (t:=t) (l:=r) (i:=i+1) (λj e' hj hw=>azO);simp only[lM,ih];cases hw:Xl t e with
  | false=>simp
  | true=>have:=h 0 e U hw;rw[awE]at this;simp[this]
theorem HN{D:Nat->Bool}{t:Nat}{e:iD}:∀{l:List iD}{i k:Nat},l[k]? =some e->Xl t e=true->D (i+k)=true->(∀j e',k<j->l[j]? =some e'->Xl t e'=true->D (i+j)=false)->lM l i D t=some (aE e.Wh t)
 | [],i,k,h,_,_,_=>ay4
 | x::r,i,k,h,hw,hD,abR=>by
  cases k with
  | zero=>
   simp at h;subst h;have:=we (D:=D) (t:=t) (l:=r) (i:=i+1) (λj e' hj hw=>azF);rw[awE]at hD;simp only[lM,this,hD,hw,Bool.and_self,avM]
  | succ k=>
   have:=HN (D:=D) (t:=t) (e:=e) (l:=r) (i:=i+1) (k:=k) azi hw (by rw[show i+1+k=i+(k+1) by omega];exact hD) (λj e' hkj hj hw=>azF);simp only[lM,this]
def mem(l:List Nat)(i:Nat):Bool:=l.any (Nat.beq i)
theorem mem_iff{l:List Nat}{i:Nat}:mem l i=true↔i∈l:=by
 simp only[mem,awO];constructor
 ·rintro⟨x,hx,h⟩;rw[av3 h];exact hx
 ·intro h;exact⟨i,h,Nat.beq_refl i⟩
def qQ(ops:Array Oper)(deps:List (List Nat)):Bool:=
 Nat.beq deps.length ops.size&&(List.range ops.size).all λi=>
  match ops[i]? with
  | none=>false
  | some o=>
   (o.after.toList.all λe=>!Region.binds .any e||Nat.blt e.on i)&&
   (deps.getD i []).all λj=>o.after.toList.any λe=>Region.binds .any e&&(Nat.beq e.on j||mem (deps.getD e.on []) j)
def Gy(aY:List iD)(deps:List (List Nat))(sl:SL)(i:Nat):List (Nat×SV)->Prop
 | []=>True
 | (t,sv)::r=>(match wS aY t with
  | none=>bG sl t=some sv
  | some j=>if mem (deps.getD i []) j then bG (aY.getD j ⟨[],[],[],[]⟩).Ws t=some sv else mem (deps.getD j []) i=true/\bG sl t=some sv)/\Gy aY deps sl i r
def okH(aY:List iD)(deps:List (List Nat))(i t:Nat):Bool:=(List.range aY.length).all λj=>!(Xl t (aY.getD j ⟨[],[],[],[]⟩))||(mem (deps.getD i []) j||(Nat.beq j i||mem (deps.getD j []) i))
def Gx(aY:List iD)(deps:List (List Nat))(hp:HL)(i:Nat):List (Nat×Option HE)->Prop
 | []=>True
 | (t,sv)::r=>(okH aY deps i t=true/\(lM aY 0 (mem<|deps.getD i []) t).getD (aE hp t)=sv)/\Gx aY deps hp i r
def FQ(aY:List iD)(deps:List (List Nat))(sl:SL)(hp:HL):Nat->List iD->Prop
 | _,[]=>True
 | i,e::r=>Gy aY deps sl i e.Rs/\Gx aY deps hp i e.Rh/\FQ aY deps sl hp (i+1) r
def JP{P:Program}{nt:Nat}(C:Cx P nt)(ops:Array Oper):Nat->List iD->Prop
 | _,[]=>True
 | i,e::r=>OpW C ops i e/\JP C ops (i+1) r
theorem JQ{P:Program}{nt:Nat}{C:Cx P nt}{ops:Array Oper}:∀{l:List iD}{k i:Nat}{e:iD},JP C ops k l->l[i]? =some e->OpW C ops (k+i) e
 | [],k,i,e,_,h=>ay4
 | x::l,k,i,e,h,hi=>by
  cases i with
  | zero=>simp at hi;subst hi;exact h.1
  | succ i=>rw[show k+(i+1)=k+1+i by omega];exact JQ h.2 ay8
theorem Il{aY:List iD}{deps:List (List Nat)}{sl:SL}{hp:HL}:∀{l:List iD}{k i:Nat}{e:iD},FQ aY deps sl hp k l->l[i]? =some e->Gy aY deps sl (k+i) e.Rs/\Gx aY deps hp (k+i) e.Rh
 | [],k,i,e,_,h=>ay4
 | x::l,k,i,e,h,hi=>by
  cases i with
  | zero=>simp at hi;subst hi;exact⟨h.1,h.2.1⟩
  | succ i=>rw[show k+(i+1)=k+1+i by omega];exact Il h.2.2 ay8
def single(aY:List iD)(deps:List (List Nat)):Bool:=
 (List.range aY.length).all λi=>((aY.getD i ⟨[],[],[],[]⟩).Ws.all λp=>wS aY p.1==some i)&&
  ((aY.getD i ⟨[],[],[],[]⟩).Wh.all λp=>(List.range i).all λj=>!(Xl p.1<|aY.getD j ⟨[],[],[],[]⟩)||mem (deps.getD i []) j)
def sL(aY:List iD)(sl:SL)(D:Nat->Bool)(t:Nat):Option SV:=match wS aY t with
 | some j=>if D j then bG (aY.getD j ⟨[],[],[],[]⟩).Ws t else bG sl t
 | none=>bG sl t
def tP(aY:List iD)(hp:HL)(D:Nat->Bool)(t:Nat):Option HE:=(lM aY 0 D t).getD (aE hp t)
theorem tq(l sl:SL)(t:Nat):bG (l++sl) t=if l.any (λp=>Nat.beq p.1 t)then bG l t else bG sl t:=by
 induction l with
 | nil=>rfl
 | cons p l ih=>
  obtain⟨k,c⟩:=p;rw[av4,eX,eX,List.any_cons];by_cases h:k=t
  ·subst h;simp
  ·have:Nat.beq k t=false:=by
    cases hb:Nat.beq k t with
    | false=>rfl
    | true=>exact absurd (av3 hb) h
   simp only[this,aw6,avj h,ih]
theorem Kr(l hp:HL)(t:Nat):aE (l++hp) t=if l.any (λp=>Nat.beq p.1 t)then aE l t else aE hp t:=by
 induction l with
 | nil=>rfl
 | cons p l ih=>
  obtain⟨k,c⟩:=p;rw[av4,aG,aG,List.any_cons];by_cases h:k=t
  ·subst h;simp
  ·have:Nat.beq k t=false:=by
    cases hb:Nat.beq k t with
    | false=>rfl
    | true=>exact absurd (av3 hb) h
   simp only[this,aw6,avj h,ih]
variable{aY:List iD}{deps:List (List Nat)}
theorem Qs(h1:single aY deps=true){i:Nat}{e:iD}(hi:aY[i]? =some e)(ht:e.Ws.any (λp=>Nat.beq p.1 t)=true):wS aY t=some i:=by
 simp only[single,avI,avA]at h1;have hlt:i<aY.length:=(avl.1 hi).1
 have:=(h1 i<|awg.2 hlt).1
 rw[awi,hi]at this;obtain⟨p,hp,hpt⟩:=awO.1 ht;have hq:=this p hp;rw[av3 hpt]at hq;simpa using hq
theorem S8(h1:single aY deps=true){i:Nat}{e e':iD}(hi:aY[i]? =some e)(ht:Xl t e=true)(hji:j<i)(hj:aY[j]? =some e')(ht':Xl t e'=true):mem (deps.getD i []) j=true:=by
 simp only[single,avI,avA]at h1;have hlt:i<aY.length:=(avl.1 hi).1
 have:=(h1 i<|awg.2 hlt).2
 rw[awi,hi]at this;obtain⟨p,hp,hpt⟩:=awO.1 ht;have hq:=this p hp j (awg.2 hji);rw[av3 hpt,awi,hj]at hq;simpa[ht']using hq
theorem Dm(h:wS aY t=some j):∃e,aY[j]? =some e/\e.Ws.any (λp=>Nat.beq p.1 t)=true:=by
 obtain⟨hlt,h2,_⟩:=axF.1 h;exact⟨aY[j],ayW,h2⟩
section
variable{k:List KI}
theorem XP
  (hd:qQ ops deps=true) (hl:aY.length=ops.size) (h1:single aY deps=true) (hr:FQ aY deps sl hp 0 aY) (ho:JP C ops 0 aY)
  (hQ:∀a w sl' dg,Rel C ⟨sl',dg⟩ a w->(∀t,bG sl' t=sL aY sl (λ_=>true) t)->(∀t,aE dg t=tP aY hp (λ_=>true) t)->Q .normal a w):
  ∀(fuel:Nat)(listed:Array Bool)(a:Act)(w:World)(sl':SL)(dg:HL),listed.size=ops.size->(List.range ops.size).countP (λi=>!listed.getD i true)=fuel->
   (∀i o,ops[i]? =some o->listed.getD i true=true->∀e∈o.after,Region.binds .any e=true->listed.getD e.on false=true)->
   Rel C ⟨sl',dg⟩ a w->(∀t,bG sl' t=sL aY sl (λi=>listed.getD i false) t)->(∀t,aE dg t=tP aY hp (λi=>listed.getD i false) t)->wpAny P .any ops Q fuel listed a w:=by
 simp only[qQ,avA,avI,awg]at hd;obtain⟨hdl,hd⟩:=hd;have closed:∀(listed:Array Bool),(∀i o,ops[i]? =some o->listed.getD i true=true->∀e∈o.after,Region.binds .any e=true->listed.getD e.on false=true)->
   ∀n i,i<n->i<ops.size->(∀o,ops[i]? =some o->∀e∈o.after,Region.binds .any e=true->listed.getD e.on false=true)->∀j,mem (deps.getD i []) j=true->listed.getD j false=true:=by
  intro listed hcl n
  induction n with
  | zero=>intro i h;omega
  | succ n ih=>
   intro i hin hi Ko j hj;have O9:=hd i hi;have hoi:ops[i]? =some ops[i]:=by simp[hi]
   rw[hoi]at O9;simp only[avA,avI]at O9;obtain⟨hlt,UU⟩:=O9;have:=UU j (mem_iff.1 hj);obtain⟨e,he,hb⟩:=awO.1 this;simp only[avA,awX]at hb;have hem:e∈ops[i].after:=ayn.1 he
   have G4:=Ko _ hoi e hem hb.1;rcases hb.2 with h2 | h2
   ·rw[av3 h2]at G4;exact G4
   ·have hlt':=hlt e he
    simp only[hb.1,avJ,aw6,ayF]at hlt';refine ih e.on ayT ayT (λo ho' e' he' hb'=>hcl e.on o ho' ?_ e' he' hb') j h2;have:e.on<listed.size:=by
     cases hc:listed[e.on]? with
     | none=>simp[hc]at G4
     | some b=>exact(avo.1 hc).1
    simp only[avx,av2 this,av7]at G4 ⊢;exact G4
 intro fuel
 induction fuel with
 | zero=>
  intro listed a w sl' dg hsz Fc hcl hrel hs hh;have hall:∀i,i<ops.size->listed.getD i true=true:=by
   intro i hi;have:=ax5.1 Fc i (awg.2 hi);simpa using this
  refine⟨?_,hQ a w sl' dg hrel (λt=>?_) λt=>?_⟩
  ·rw[Region.ready,axh]
   intro i hi;simp[hall i (awg.1 hi)]
  ·rw[hs t]
   simp only[sL];cases hw:wS aY t with
   | none=>rfl
   | some j=>
    obtain⟨e,he,_⟩:=Dm hw;have hj:j<ops.size:=by rw[<-hl];exact(avl.1 he).1
    have:=hall j hj;have h2:listed.getD j false=true:=by
     simp only[avx,av2 (show j<listed.size by omega),av7]at this ⊢;exact this
    simp only[h2]
  ·rw[hh t]
   simp only[tP];rw[lN (D':=λ_=>true) (λj e he _=>?_)];have hj:j<ops.size:=by rw[<-hl];exact(avl.1 he).1
   have:=hall j hj;rw[avS];simp only[avx,av2 (show j<listed.size by omega),av7]at this ⊢;exact this
 | succ fuel ih=>
  intro listed a w sl' dg hsz Fc hcl hrel hs hh;refine⟨λKq=>?_,λi hi=>?_⟩
  ·
   exfalso;have hex:∃i,i<ops.size/\listed.getD i true=false:=by
    have:0<(List.range ops.size).countP (λi=>!listed.getD i true):=by omega
    obtain⟨i,hi,h⟩:=List.countP_pos_iff.1 this;exact⟨i,awg.1 hi,azi⟩
   have hmin:∀n,∀i,i<n->i<ops.size->listed.getD i true=false->False:=by
    intro n
    induction n with
    | zero=>intro i h;omega
    | succ n ihn=>
     intro i hin hi hli;have hoi:ops[i]? =some ops[i]:=by simp[hi]
     have hnr:¬i∈Region.ready .any ops listed:=by rw[Kq];simp
     have O9:=hd i hi;rw[hoi]at O9;simp only[avA,avI]at O9;have BZ:∃e∈ops[i].after,Region.binds .any e=true/\listed.getD e.on false=false:=by
      refine awH λhno=>hnr ?_;rw[Region.ready,awc];refine⟨awg.2 hi,?_⟩;rw[hoi];simp only[hli,awG,awq,av7,axe,ayK];intro q hq;have hmem:ops[i].after[q]∈ops[i].after:=Array.getElem_mem hq
      cases hb:Region.binds .any ops[i].after[q]with
      | false=>simp
      | true=>
       cases hx:listed.getD ops[i].after[q].on false with
       | true=>simp
       | false=>exact absurd ⟨_,hmem,hb,hx⟩ hno
     obtain⟨e,he,hb,hx⟩:=BZ;have hlt':=O9.1 e (ayn.2 he);simp only[hb,avJ,aw6,ayF]at hlt';refine ihn e.on ayT ayT ?_;have:e.on<listed.size:=by omega
     simp only[avx,av2 this,av7]at hx ⊢;exact hx
   obtain⟨i,h2,h3⟩:=hex;exact hmin (i+1) i ayT h2 h3
  ·
   rw[Region.ready,awc]at hi;obtain⟨hir,hi2⟩:=hi;have hilt:i<ops.size:=awg.1 hir;have hoi:ops[i]? =some ops[i]:=by simp[hilt]
   rw[hoi]at hi2;simp only[awq,av7,avA,axj,ayK]at hi2;obtain⟨hni,Pb⟩:=hi2;have Ko:∀o,ops[i]? =some o->∀e∈o.after,Region.binds .any e=true->listed.getD e.on false=true:=by
    intro o ho' e he hb;rw[hoi]at ho';cases ho';obtain⟨q,hq,rfl⟩:=Array.mem_iff_getElem.1 he;have:=Pb q hq;simpa[hb]using this
   have Gf:i<listed.size:=by omega
   have U1:listed.getD i false=false:=by
    simp only[avx,av2 Gf,av7]at hni ⊢;exact hni
   have hdone:∀j,mem (deps.getD i []) j=true->listed.getD j false=true:=closed listed hcl (i+1) i ayT hilt Ko;have hnot:∀j,j<ops.size->mem (deps.getD j []) i=true->listed.getD j false=false:=by
    intro j hj hm;cases hc:listed.getD j false with
    | false=>rfl
    | true=>
     have hjt:listed.getD j true=true:=by
      have:j<listed.size:=by omega
      simp only[avx,av2 this,av7]at hc ⊢;exact hc
     have:=closed listed hcl (j+1) j ayT hj (λo ho' e he hb=>hcl j o ho' hjt e he hb) i hm;rw[U1]at this;cases this
   obtain⟨e,he⟩:∃e,aY[i]? =some e:=⟨aY[i],by simp[hl,hilt]⟩;have hop:=JQ ho he;have hrd:=Il hr he;rw[avS]at hop hrd;have hHS:∀l,Gy aY deps sl i l->bK sl' l:=by
    intro l
    induction l with
    | nil=>intro _;trivial
    | cons p l ihl=>
     obtain⟨t,sv⟩:=p;rintro⟨q1,q2⟩;refine⟨?_,ihl q2⟩;rw[hs t];simp only[sL];cases hw:wS aY t with
     | none=>rw[hw]at q1;exact q1
     | some j=>
      rw[hw]at q1;simp only at q1 ⊢;split at q1
      ·rename_i c;rw[avk (hdone j c)];exact q1
      ·obtain⟨e',he',_⟩:=Dm hw
       have hj:j<ops.size:=by rw[<-hl];exact(avl.1 he').1
       rw[avj (by rw[hnot j hj q1.1];simp)];exact q1.2
   have hHH:∀l,Gx aY deps hp i l->dn dg l:=by
    intro l
    induction l with
    | nil=>intro _;trivial
    | cons p l ihl=>
     obtain⟨t,sv⟩:=p;rintro⟨q1,q2⟩;refine⟨?_,ihl q2⟩;rw[hh t,<-q1.2];simp only[tP];rw[lN (D':=mem<|deps.getD i []) (λj e' he' hw=>?_)];have hj:j<aY.length:=(avl.1 he').1
     have hok:=avI.1 q1.1 j (awg.2 hj);rw[awi,he']at hok;simp only[av7,hw,avJ,aw6,awX]at hok;rw[avS];cases hm:mem (deps.getD i []) j with
     | true=>exact hdone j hm
     | false=>
      rcases hok with hq | hq | hq
      ·rw[hm]at hq;cases hq
      ·rw[av3 hq];exact U1
      ·exact hnot j (by rw[<-hl];exact hj) hq
   have kP:∀j,(listed.setIfInBounds i true).getD j false=if j=i then true else listed.getD j false:=by
    intro j;simp only[avx,awF];by_cases c:i=j
    ·subst c;simp[Gf]
    ·rw[avj c,avj (λc'=>c c'.symm)]
   have vW:∀j,(listed.setIfInBounds i true).getD j true=if j=i then true else listed.getD j true:=by
    intro j;simp only[avx,awF];by_cases c:i=j
    ·subst c;simp[Gf]
    ·rw[avj c,avj (λc'=>c c'.symm)]
   refine hop.go sl' dg (hHS _ hrd.1) (hHH _ hrd.2) a w _ _ hrel λa' w' Gg=>?_;refine ih (listed.setIfInBounds i true) a' w' _ _ (by simpa using hsz) ?_ ?_ Gg (λt=>?_) (λt=>?_)
   ·
    have e1:∀(l:List Nat),l.Nodup->i∈l->l.countP (λj=>!listed.getD j true)=l.countP (λj=>!(listed.setIfInBounds i true).getD j true)+1:=by
     intro l
     induction l with
     | nil=>intro _ h;cases h
     | cons x l ihl=>
      intro hnd hm;rw[axH,axH,vW];rw[axQ]at hnd;by_cases c:x=i
      ·subst c
       have:∀j∈l,(!listed.getD j true)=(!(listed.setIfInBounds x true).getD j true):=by
        intro j hj;rw[vW,avj (λc:j=x=>hnd.1<|c ▸ hj)]
       rw[List.countP_congr (λj hj=>by rw[this j hj])];simp[hni]
      ·have hm':i∈l:=(av0.1 hm).resolve_left (λc'=>c c'.symm)
       rw[ihl hnd.2 hm',avj c];omega
    have:=e1 (List.range ops.size) List.nodup_range hir;omega
   ·intro j o ho' hj e' he' hb
    rw[kP];split
    ·rfl
    ·rw[vW]at hj
     by_cases c:j=i
     ·subst c;exact Ko o ho' e' he' hb
     ·rw[avj c]at hj;exact hcl j o ho' hj e' he' hb
   ·rw[tq]
    simp only[sL];by_cases c:e.Ws.any (λp=>Nat.beq p.1 t)=true
    ·rw[avk c,Qs h1 he c]
     simp only[kP,avM];rw[awi,he];rfl
    ·rw[avj c,hs t]
     simp only[sL];cases hw:wS aY t with
     | none=>rfl
     | some j=>
      have hji:j≠i:=λc'=>by
       subst c';obtain⟨e',he',h3⟩:=Dm hw;rw[he]at he';cases he';exact c h3
      simp only[kP,avj hji]
   ·rw[Kr]
    simp only[tP];by_cases c:e.Wh.any (λp=>Nat.beq p.1 t)=true
    ·rw[avk c,HN he c (by rw[avS,kP];simp) (λj e' hij hj hw=>?_)]
     ·rfl
     ·rw[avS,kP,avj ayT]
      have hjl:j<ops.size:=by rw[<-hl];exact(avl.1 hj).1
      exact hnot j hjl (S8 h1 hj hw hij he c)
    ·rw[avj c,hh t]
     simp only[tP];rw[lN (λj e' hj hw=>?_)];rw[avS,kP];by_cases hji:j=i
     ·subst hji;rw[he]at hj;cases hj;exact absurd hw c
     ·rw[avj hji]
def XQ(aY:List iD)(sl:SL):SL->Prop
 | []=>True
 | (t,sv)::r=>sL aY sl (λ_=>true) t=some sv/\XQ aY sl r
def aeh(aY:List iD)(hp:HL):HL->Prop
 | []=>True
 | (t,sv)::r=>tP aY hp (λ_=>true) t=sv/\aeh aY hp r
theorem G.drawn{id:Nat}{l:List Oper}{aY:List iD}{deps:List (List Nat)}{sl sl':SL}{hp dg:HL}(hm:P.follows .mixedOrders=true)
  (hd:qQ l.toArray deps=true) (hl:aY.length=l.length) (h1:single aY deps=true) (hr:FQ aY deps sl hp 0 aY) (ho:JP C l.toArray 0 aY)
  (hs:XQ aY sl sl') (hh:aeh aY hp dg) (hw:tY sl' dg=true) (hk:G C Q0 k ⟨sl',dg⟩):G C Q0 (.c (.region id l.toArray true)::k) ⟨sl,hp⟩:=⟨λa w⟨β,r⟩=>by
 refine wp_region_any hm ?_;have hrel:Rel C ⟨sl,hp⟩ a { w with drawn:=w.drawn+1 }:=⟨β,r.Lb ⟨U,U,U,avq _,λ_ _=>rfl⟩⟩;have aeV:∀i,(Array.replicate l.toArray.size false).getD i false=false:=λi=>by
  simp only[avx,axv];split<;>rfl
 refine XP hd azd h1 hr ho (λa w sl1 hp1 r1 e1 e2=>?_) _ _ a _ sl hp ayW ?_ ?_ hrel (λt=>?_) (λt=>?_)
 ·have hS:∀l,XQ aY sl l->bK sl1 l:=by
   intro l
   induction l with
   | nil=>intro _;trivial
   | cons p l ih=>obtain⟨t,sv⟩:=p;rintro⟨q1,q2⟩;exact⟨(e1 t).trans q1,ih q2⟩
  have hH:∀l,aeh aY hp l->dn hp1 l:=by
   intro l
   induction l with
   | nil=>intro _;trivial
   | cons p l ih=>obtain⟨t,sv⟩:=p;rintro⟨q1,q2⟩;exact⟨(e2 t).trans q1,ih q2⟩
  exact hk.go a w (r1.cv (hS _ hs) (hH _ hh) hw)
 ·have:∀(l':List Nat),(∀i∈l',i<l.toArray.size)->l'.countP (λi=>!(Array.replicate l.toArray.size false).getD i true)=l'.length:=by
   intro l' hl';rw[List.countP_eq_length];intro i hi;have:=hl' i hi;simp only[avx,axv,avk this];rfl
  rw[this _ (λi hi=>awg.1 hi)];simp
 ·intro i o hio hli
  have hi:i<l.toArray.size:=(avo.1 hio).1
  simp only[avx,axv,avk hi]at hli;cases hli
 ·simp only[sL]
  cases wS aY t with
  | none=>rfl
  | some j=>simp only[aeV,avn,avB]
 ·simp only[tP]
  rw[we (λj e hj hw=>aeV _)];rfl⟩
end
inductive EvO:Option Operand->Option Int->List (Nat×SV)->Prop
 | none:EvO none none []
 | some {x:Operand} {i:Int} {R:List (Nat×SV)} (h:Ev x (bI .i64 i) R):EvO (some x) (some i) R
theorem EvO.ok{P:Program}{nt:Nat}{C:Cx P nt}{sl:SL}{hp:HL}{β:Nat->Option Nat}{a:Act}{w:World}{x:Option Operand}{i:Option Int}{R:List (Nat×SV)}
  (hx:EvO x i R) (hs:bK sl R) (r:dD C ⟨sl,hp⟩ β a w):x.map a.eval=i.map (Value.int .i64):=by
 cases hx with
 | none=>rfl
 | some h=>simp[BR.aX (h.ok hs r)]
theorem wM{lo hi:Option Int}(h0:0<=lo.getD 0)(h1:lo.getD 0<=hi.getD len)(h2:hi.getD len<=len)(h3:len<=cap):
  (Instr.sliceBounds b len cap (lo.map<|Value.int .i64) (hi.map<|Value.int .i64) none).run P w= .ok ((lo.getD 0).toNat,(hi.getD len).toNat,cap) w:=by
 cases lo<;>cases hi<;>simp only[av7,axI]at h0 h1 h2<;>simp only[Instr.sliceBounds,aw2,awq,Instr.sliceBound,asIntOf,avw,avF,avt,av7,axI]
 ·simp
 ·rename_i v
  have:0<=v/\v<=(cap:Int):=⟨h1,ayT⟩;simp[this]
 ·rename_i v
  have:0<=v/\v<=(len:Int):=⟨h0,h1⟩;simp[this]
 ·rename_i v v'
  have a1:0<=v'/\v'<=(cap:Int):=⟨ayT,ayT⟩;have a2:0<=v/\v<=((v'.toNat:Nat):Int):=⟨h0,ayT⟩;simp only[a1,a2,ayB,avM,avF,avt,Option.isSome_none,avn,avB]
variable{vs:List Value}
section
theorem ES(es:List α)(l h:Nat)(i:Nat)(c:α)(hi:((es.take h).drop l)[i]? =some c):es[l+i]? =some c/\l+i<h:=by
 rw[awm,awv]at hi;split at hi
 ·exact⟨hi,ay6⟩
 ·cases hi
theorem RD.sub{a:Option Addr}(h:RD M w (.slice a es.length cap) (.sl size es)){l hh cap':Nat}(h1:l<=hh)(h2:hh<=es.length)(hc':hh<=cap')(hcap:cap'<=cap):
  RD M w (.slice (if cap'=l then a else a.map (·.add (l*size))) (hh-l)<|cap'-l) (.sl size<|(es.take hh).drop l):=by
 generalize hu:Value.slice a es.length cap=u at h;cases h with
 | sl a' arx _ _ vals b o hc hm ha hs hv hr=>
  simp only[axY]at hu;obtain⟨rfl,_,rfl⟩:=hu;have hlen:((es.take hh).drop l).length=hh-l:=by rw[avZ,avC,ax8 h2]
  rw[<-hlen];refine RD.sl _ (cap'-l) size _ (λi j=>vals (l+i) j) b (o+l*size) (by rw[hlen];omega) ayT (λhne=>?_) (λcs hcs=>hs cs<|axf<|aw0 hcs) (λi cs j d hi hj=>?_) (λi cs j d hi hj=>?_)
  ·have hpos:0<((es.take hh).drop l).length:=axD.2 hne
   rw[hlen]at hpos;rw[avj ayT,ha (λc=>by simp[c]at h2;omega)];simp[awr]
  ·obtain⟨h3,_⟩:=ES es l hh i cs hi
   have:=hv (l+i) cs j d h3 hj;rw[show o+((l+i)*size+j)=o+l*size+(i*size+j) by rw[awn];omega]at this;exact this
  ·obtain⟨h3,_⟩:=ES es l hh i cs hi
   exact hr (l+i) cs j d h3 hj
theorem NS{ox oy:Option Operand}{lo hi:Option Int}(hT:P.underlying T=some (.slice E))(hI:Info P E zz size bytes)
  (h0:0<=lo.getD 0) (h1:lo.getD 0<=hi.getD es.length) (h2:hi.getD es.length<=es.length) (he:(es.take (hi.getD es.length).toNat).drop (lo.getD 0).toNat=es')
  (hx:Ev x (.g<|.d<|.sl size es) R1) (hlo:EvO ox lo R2) (hhi:EvO oy hi R3) (hd:Nat.blt dst nt=true):
  dJ C (Oo dst (.slice T x ox oy none) ty pos af gd) (R1++(R2++R3)) [] [(dst,.one (.g<|.d<|.sl size es'))] []:=
 bu hd U λsl hp β a w hs _ r=>by
  have h3:RD (Mu C hp β) w _ _:=hx.ok hs.app.1 r;have e1:=hlo.ok hs.app.2.app.1 r;have e2:=hhi.ok hs.app.2.app.2 r;obtain⟨ad,cap,hu,hle⟩:∃ad cap,a.eval x= .slice ad es.length cap/\es.length<=cap:=by
   generalize hxx:a.eval x=u at h3;cases h3;exact⟨_,_,U,ay6⟩
  rw[hu]at h3;have hsub:=h3.sub (l:=(lo.getD 0).toNat) (hh:=(hi.getD es.length).toNat) (cap':=cap) ayT ayT ayT (avq _);rw[he]at hsub;refine⟨_,?_,hsub⟩;simp only[execOp,hu,e1,e2,aw2,Instr.sliceAt,avw,avm hT,avt,Instr.slice,wM h0 h1 h2 hle,hI.sizeOf,avF]
theorem YT{oy oz:Operand}{n:Int}(hT:P.underlying T=some (.slice E))(hI:Info P E zz size bytes)
  (h1:0<=n) (h2:n<=es.length) (he:es.take n.toNat=es')
  (hx:Ev x (.g<|.d<|.sl size es) R1) (hhi:Ev oy (bI .i64 n) R2) (hmx:Ev oz (bI .i64 n) R3) (hd:Nat.blt dst nt=true):
  dJ C (Oo dst (.slice T x none (some oy)<|some oz) ty pos af gd) (R1++(R2++R3)) [] [(dst,.one (.cp size es'))] []:=
 bu hd U λsl hp β a w hs _ r=>by
  have h3:RD (Mu C hp β) w _ _:=hx.ok hs.app.1 r;have e1:=BR.aX (hhi.ok hs.app.2.app.1 r);have e2:=BR.aX (hmx.ok hs.app.2.app.2 r);obtain⟨ad,cap,hu,hle⟩:∃ad cap,a.eval x= .slice ad es.length cap/\es.length<=cap:=by
   generalize hxx:a.eval x=u at h3;cases h3;exact⟨_,_,U,ay6⟩
  rw[hu]at h3;have hsub:=h3.sub (l:=0) (hh:=n.toNat) (cap':=n.toNat) ayT ayT (avq _) ayT;rw[axL,he]at hsub;refine⟨_,?_,hsub,_,n.toNat,U⟩;have a1:0<=n/\n<=(cap:Int):=⟨h1,ayT⟩;have a2:0<=n/\n<=((n.toNat:Nat):Int):=⟨h1,ayT⟩;simp only[execOp,hu,e1,e2,aw2,awq,Instr.sliceAt,avw,avm hT,avt,Instr.slice,Instr.sliceBounds,Instr.sliceBound,asIntOf,a1,a2,ayB,avM,hI.sizeOf,avF,ay9]
theorem YO{k:IntKind}{b:UInt8}(hT:P.underlying T=some .string)(h0:0<=i)(hi:s[i.toNat]? =some b)(hx:Ev x (bS s) R1)(hy:Ev y (bI k i) R2)(hd:Nat.blt dst nt=true):
  dJ C (Oo dst (.index T x y) ty pos af gd) (R1++R2) [] [(dst,.one (bI .u8 (b.toNat:Int)))] []:=
 bu hd U λsl hp β a w hs _ r=>by
  have hu:=BR.aX (hx.ok hs.app.1 r);have hv:=BR.aX (hy.ok hs.app.2 r);exact⟨.int .u8 b.toNat,by simp[execOp,hu,hv,Instr.index,asIntOf,avm hT,h0,hi],RD.v _ U⟩
theorem Vp{T E:TypeId}(hT:P.underlying T=some (.slice E))(hI:Info P E zz size bytes)(hzs:Nat.beq zz.cells.size size=true)(Pg:Nat.blt 0 size=true)
  (he:es++news=es') (hb1:es'.length<=1099511627776) (hb2:es'.length*bytes<=140737488355328)
  (hx:Ev x (.cp size es) R1) (hy:Ev y (.g<|.d<|.sl size news) R2) (hd:Nat.blt dst nt=true):
  dJ C (Oo dst (D7 x y T) ty pos af gd) (R1++R2) [] [(dst,.one (.g<|.d<|.sl size es'))] []:=
 HW hd U λsl hp β a w hs _ r=>by
  have hzs:=av3 hzs;have hz:0<size:=by simpa using Pg
  obtain⟨hxr,ado,n0,hu0⟩:=hx.ok hs.app.1 r;have hlen:es'.length=es.length+news.length:=by rw[<-he];simp
  obtain⟨a0,c0,ov,WB,_,_,an9,Ks,_,hor,hoa⟩:=RD.flat hz hxr;obtain⟨a',c',nv,hyv,hcc,pR,abX,hnl,UZ,hnr,hna⟩:=RD.flat hz (hy.ok hs.app.2 r);rw[hu0]at WB;simp only[axY]at WB;obtain⟨rfl,rfl,rfl⟩:=WB;by_cases hm0:news= []
  ·subst hm0
   have hee:es'=es:=by rw[<-he];simp
   subst hee;exact⟨_,w,A6 (by rw[hu0,hyv];exact nP hT hI<|avq _),avU _ _,by rw[<-hu0];exact hxr⟩
  ·obtain⟨ad,rfl,gq⟩:=hna hm0
   have RI:0<news.length:=axD.2 hm0;obtain⟨i,hi1,hi2,hi3,hi4⟩:=hI;subst hi3;subst hi4;have pn:es'.length<=maxLen:=by unfold maxLen;omega
   have hsz':∀cs,cs∈es'->cs.length=i.size:=by
    intro cs hcs;rw[<-he]at hcs;rcases List.mem_append.1 hcs with h | h
    ·exact an9 cs h
    ·exact abX cs h
   have fin:(Builtin.append_ #[T,T] ty #[a.eval x,a.eval y]).run P w= .ok (.slice (some ⟨w.heap.size,0,none⟩) es'.length<|grownCap w es'.length es.length E)
     (w.drew.alloc<|.cells (ov.toArray++nv.toArray++Builtin.zeroCells zz.cells (grownCap w es'.length es.length E-es'.length)) E)->
     ∃v w',(execOp a.eval<|Oo dst (D7 x y T) ty pos af gd).run P w= .ok (.value v) w'/\Below w.heap.size w w'/\SR C hp β w' (.one<|.g<|.d<|.sl i.size es') v:=by
    intro hrun;have ld:Below w.heap.size w (w.drew.alloc<|.cells (ov.toArray++nv.toArray++Builtin.zeroCells zz.cells (grownCap w es'.length es.length E-es'.length)) E):=⟨U,U,U,ayW,λk hk=>axx w.drew _ hk⟩;have hnew:(w.drew.alloc<|.cells (ov.toArray++nv.toArray++Builtin.zeroCells zz.cells (grownCap w es'.length es.length E-es'.length)) E).heap[w.heap.size]? =some (.cells (ov.toArray++nv.toArray++Builtin.zeroCells zz.cells (grownCap w es'.length es.length E-es'.length)) E (0,0)):=awB w.drew _
    have CH:=DP (rest:=(Builtin.zeroCells zz.cells<|grownCap w es'.length es.length E-es'.length).toList) he Ks hor hnr;refine⟨_,_,A6 hrun,ld,?_⟩;refine RD.sl _ _ i.size es' (λi' j=>(ov++nv++(Builtin.zeroCells zz.cells<|grownCap w es'.length es.length E-es'.length).toList).getD (i'*i.size+j) undef) w.heap.size 0 (axO w _ _ E) (aw9 w _ _ E pn) (λ_=>rfl) hsz' (λi' cs j d hi' hj=>?_) (λi' cs j d hi' hj=>?_)
    ·obtain⟨v,h1,_⟩:=CH i' cs j d hi' hj
     refine⟨?_,λc=>ayq _<|r.yC c⟩;rw[awM _ _ _ _ E _ hnew,avS];have e:(ov.toArray++nv.toArray++Builtin.zeroCells zz.cells (grownCap w es'.length es.length E-es'.length))=(ov++nv++(Builtin.zeroCells zz.cells<|grownCap w es'.length es.length E-es'.length).toList).toArray:=by simp
     rw[e,awI,h1,awi,h1];rfl
    ·obtain⟨v,h1,h2⟩:=CH i' cs j d hi' hj
     rw[awi,h1];exact h2.mono (qK ld)
   cases ado with
   | none=>
    have hes:es= []:=by
     refine awH λc=>?_;obtain⟨ad',h,_⟩:=hoa c;cases h
    subst hes;simp only[avX]at he;subst he;have hov:ov= []:=awD (by simpa using Ks);subst hov;have hbytes:Builtin.nextslicecap news.length 0*i.bytes<=281474976710656:=axq ayT hb2;have hr:=ayH (P:=P) w T ty E i zz hT hi1 hi2 ad news.length c' nv hnl gq RI azc ayT;refine fin ?_;rw[hu0,hyv];simpa using hr
   | some Xx=>
    have holds:∀j v,ov[j]? =some v->w.cell? (Xx.add j)=some v:=by
     intro j v hj;have hne:es≠[]:=λc=>by subst c;have:ov= []:=awD (by simpa using Ks);subst this;simp at hj
     obtain⟨ad',h,h2⟩:=hoa hne;cases h;exact h2 j v hj
    have hr:=ax7 (P:=P) w T ty E i zz hT hi1 hi2 Xx es.length es.length ov Ks holds ad news.length c' nv hnl gq ayT azc (axq ayT aAF);exact fin (by rw[hu0,hyv,hr,<-hlen])
theorem Vr{op:BinOp}{T:TypeId}{us:List Value}{es:List DV}(hds:us.map DV.v=ds)(hes:vs.map DV.v=es)(hg:P.eqGuardType P.depth T=false)
  (h:∀w,(binOp op T (.agg us.toArray)<|.agg vs.toArray).run P w= .ok (.bool b) w) (hx:Ev x (.g<|.agg ds) R1) (hy:Ev y (.g<|.agg es) R2) (hd:Nat.blt dst nt=true):
  dJ C (Oo dst (.binOp op T x y T') ty pos af gd) (R1++R2) [] [(dst,.one (bB b))] []:=
 bu hd U λsl hp β a w hs _ r=>by
  have key:∀(u:Value)(us:List Value),BR C hp β w (.g<|.agg<|us.map DV.v) u->u= .agg us.toArray:=by
   rintro u us ⟨arr,rfl,h1,h2⟩;congr 1;refine Array.ext' ?_;refine axZ λj=>?_;by_cases c:j<us.length
   ·obtain⟨x,h3,h4⟩:=h2 j (.v us[j]) (by simp[c])
    rw[RD.aX h4]at h3;simp[h3,c]
   ·have:arr.size<=j:=by rw[h1];simp;omega
    simp[this,ax2 c]
  subst hds hes;have e1:=key _ _ (hx.ok hs.app.1 r);have e2:=key _ _ (hy.ok hs.app.2 r);refine⟨.bool b,?_,RD.v _ U⟩;simp only[execOp,e1,e2,avw,run_eqGuard_agg w op T x y _ _ hg,avt,h w,avF]
def bytesOf(ns:List Int):ByteArray:=⟨(ns.map λn=>UInt8.ofNat n.toNat).toArray⟩
theorem YX{E T:TypeId}{ns:List Int}(hS:P.underlying S=some (.slice E))(hE:P.underlying E=some (.int .u8))(hT:P.underlying T=some .string)(he:es=ns.map λn=>[.v (.int .u8 n)])(hx:Ev x (.g (.d (.sl 1 es))) R)(hd:Nat.blt dst nt=true):
  dJ C (Oo dst (.convert S T x) ty pos af gd) R [] [(dst,.one (bS<|bytesOf ns))] []:=
 bu hd U λsl hp β a w hs _ r=>by
  obtain⟨ad,cap,nv,hu,_,_,_,hnl,_,hr,hc⟩:=RD.flat ayT (hx.ok hs r);have hnv:nv=ns.map (Value.int .u8):=by
   refine axZ λj=>?_;by_cases c:j<ns.length
   ·obtain⟨v,h1,h2⟩:=hr j [.v (.int .u8 ns[j])] 0 (.v<|.int .u8 ns[j]) (by simp[he,c]) U
    rw[RD.aX h2]at h1;simpa[c]using h1
   ·have:nv.length<=j:=by rw[hnl,he];simp;omega
    simp[this,ax2 c]
  have hel:es.length=ns.length:=by rw[he];simp
  refine⟨.string<|bytesOf ns,?_,RD.v _ U⟩;have loop:∀(f:Value->ByteArray->Sem (ForInStep ByteArray))(_:∀n s,f (.int .u8 n) s=pure (.yield<|s.push<|UInt8.ofNat n.toNat)) (l:List Int) (acc:ByteArray),
    (forIn (l.map<|Value.int .u8).toArray acc f).run P w= .ok ⟨acc.data++(l.map λn=>UInt8.ofNat n.toNat).toArray⟩ w:=by
   intro f hf l
   induction l with
   | nil=>intro acc;simp
   | cons n l ih=>
    intro acc;have:=ih (acc.push<|UInt8.ofNat n.toNat);simp only[avV,List.forIn_toArray,List.forIn_cons,avw,avF,avt,hf]at this ⊢;rw[this];simp[ByteArray.push]
  have hl:ad.isSome=true\/es= []:=by
   by_cases c:es= []
   ·exact .inr c
   ·obtain⟨ad',h,_⟩:=hc c;exact .inl azw
  cases had:ad with
  | none=>
   rw[had]at hl;have h0:es= []:=by simpa using hl
   have hn0:ns= []:=awD (by rw[<-hel,h0];rfl);subst hn0;simp[execOp,hu,had,convert,avm hS,avm hT,avm hE,Conv.bytesToString,bytesOf];rfl
  | some ad1=>
   have akL:(loadCells ad1 es.length).run P w= .ok (ns.map<|Value.int .u8).toArray w:=by
    by_cases c:es= []
    ·have hn0:ns= []:=awD (by rw[<-hel,c];rfl)
     subst hn0;simp[c,loadCells,loadCellsFrom]
    ·obtain⟨ad',h,h2⟩:=hc c
     rw[had]at h;cases h;have:=run_loadCells (P:=P) w ad1 es.length (λj=>nv.getD j undef) (λj hj=>h2 j _<|by simp[awi,hnl,hj]);rw[this];congr 2;refine axZ λj=>?_;by_cases cj:j<ns.length
     ·simp[hnv,hel,cj]
     ·simp[hnv,hel,ax2 cj]
   simp only[execOp,hu,had,convert,avm hS,avm hT,avm hE,Conv.bytesToString,avw,avt,akL];rw[loop _ (λ_ _=>rfl) ns ByteArray.empty];simp only[avt,avF];have:(ByteArray.empty.data++(ns.map λn=>UInt8.ofNat n.toNat).toArray)=(ns.map λn=>UInt8.ofNat n.toNat).toArray:=by
    show(#[]:Array UInt8)++_=_;simp
   rw[this];rfl
end
def aR{T R:Type}(body:(T->Option R)->T->Option R):Nat->T->Option R
 | 0,_=>none
 | n+1,v=>body (aR body n) v
def FU:Nat:=2 ^ 70
def idx{α:Type}(xs:List α)(i:Int):Option α:=if 0<=i then xs[i.toNat]? else none
def app{α:Type}(bytes:Nat)(xs ys:List α):Option (List α):=if(xs++ys).length<=1099511627776/\(xs++ys).length*bytes<=140737488355328 then some (xs++ys)else none
def sub{α:Type}(xs:List α)(lo hi:Int):Option (List α):=if 0<=lo/\lo<=hi/\hi<=xs.length then some ((xs.take hi.toNat).drop lo.toNat)else none
def Ib(s:ByteArray)(lo hi:Int):Option ByteArray:=if 0<=lo/\lo<=hi/\hi<=s.size then some (s.extract lo.toNat hi.toNat)else none
def tu(s:ByteArray)(i:Int):Option UInt8:=if 0<=i then s[i.toNat]? else none
def P9(s t:ByteArray):Option ByteArray:=if s.size+t.size<=9223372036854775807 then some (s++t)else none
def nL{R:Type}(b:Bool)(x:Option R):Option R:=if b=true then x else none
theorem ajY{β:Type}{x:Option α}{f:α->Option β}{r:β}(h:x.bind f=some r):∃v,x=some v/\f v=some r:=avQ.1 h
theorem U6{X Y:Option α}{r:α}{p:Prop}(hF:(if b=true then X else Y)=some r)(h1:b=true->X=some r->p)(h2:b=false->Y=some r->p):p:=by
 cases b
 ·exact h2 U (by simpa using hF)
 ·exact h1 U (by simpa using hF)
theorem ad9{X:Option α}{r:α}(hF:nL b X=some r):b=true/\X=some r:=by
 unfold nL at hF;cases b
 ·simp at hF
 ·exact⟨U,by simpa using hF⟩
theorem Ff{xs:List α}{x:α}(h:idx xs i=some x):0<=i/\xs[i.toNat]? =some x:=by
 unfold idx at h;split at h
 ·exact⟨ay6,h⟩
 ·cases h
theorem rX{β:Type}{xs:List α}{x:α}(h:idx xs i=some x)(f:α->β):(xs.map f)[i.toNat]? =some (f x):=by rw[avL,(Ff h).2];rfl
variable{zs ys:List α}
theorem Tp{xs:List α}(h:app n xs ys=some zs):zs=xs++ys/\zs.length<=1099511627776/\zs.length*n<=140737488355328:=by
 unfold app at h;split at h
 ·rename_i c;cases h;exact⟨U,c⟩
 ·cases h
theorem adX{β:Type}{xs:List α}(h:app n xs ys=some zs)(f:α->β):xs.map f++ys.map f=zs.map f:=by rw[(Tp h).1,axm]
theorem agY{β:Type}{xs:List α}(h:app n xs ys=some zs)(f:α->β):(zs.map f).length<=1099511627776:=by rw[avN];exact(Tp h).2.1
theorem agZ{β:Type}{xs:List α}(h:app n xs ys=some zs)(f:α->β):(zs.map f).length*n<=140737488355328:=by rw[avN];exact(Tp h).2.2
theorem acT{β:Type}{xs:List α}{lo hi:Int}(h:sub xs lo hi=some zs)(f:α->β):0<=lo/\lo<=hi/\hi<=(xs.map f).length/\((xs.map f).take hi.toNat).drop lo.toNat=zs.map f:=by
 unfold sub at h;split at h
 ·rename_i c
  cases h;exact⟨c.1,c.2.1,by rw[avN];exact c.2.2,by rw[ayr,ays]⟩
 ·cases h
theorem uJ{β:Type}{xs:List α}{hi:Int}(h:sub xs 0 hi=some zs)(f:α->β):0<=hi/\hi<=(xs.map f).length/\(xs.map f).take hi.toNat=zs.map f:=by
 obtain⟨_,h2,h3,h4⟩:=acT h f;exact⟨h2,h3,aAA⟩
theorem Qk{β:Type}{xs:List α}{lo:Int}(h:sub xs lo xs.length=some zs)(f:α->β):0<=lo/\lo<=(xs.map f).length/\((xs.map f).take ((xs.map f).length:Int).toNat).drop lo.toNat=zs.map f:=by
 obtain⟨h1,h2,h3,h4⟩:=acT h f;refine⟨h1,by rw[avN];exact h2,?_⟩;rw[avN];exact h4
theorem afB{t:ByteArray}{lo hi:Int}(h:Ib s lo hi=some t):0<=lo/\lo<=hi/\hi<=s.size/\s.extract lo.toNat hi.toNat=t:=by
 unfold Ib at h;split at h
 ·rename_i c
  cases h;exact⟨c.1,c.2.1,c.2.2,U⟩
 ·cases h
theorem Xc{b:UInt8}(h:tu s i=some b):0<=i/\s[i.toNat]? =some b:=by
 unfold tu at h;split at h
 ·exact⟨ay6,h⟩
 ·cases h
theorem W8{t u:ByteArray}(h:P9 s t=some u):s.size+t.size<=9223372036854775807/\s++t=u:=by
 unfold P9 at h;split at h
 ·cases h;exact⟨ay6,U⟩
 ·cases h
variable{kk:Nat}
section
variable{k:List KI}{it:KI}
theorem G.RQ{T:Type}(S:T->St)(hyp:T->Prop)(h1:∀x,hyp x->G C Q0 k (S x))(h2:(∀x,hyp x->G C Q0 k (S x))->G C Q0 (it::k) st):G C Q0 (it::k) st:=h2 h1
theorem G.aR{T R:Type}{st:St}{x:Code}{body:(T->Option R)->T->Option R}{n:Nat}{v:T}{r:R}(S:T->St)(hF:aR body n v=some r)(hst:S v=st)
  (round:∀(K:Act->World->Prop)(again:T->Option R)(v:T),(∀v',again v'=some r->G C Q0 (.q K::k) (S v'))->body again v=some r->G C Q0 (.c x:: .q K::k) (S v)):G C Q0 (.c (.loop x)::k) st:=by
 subst hst;refine G.loop (λn st=>∃v,st=S v/\Go.Ab.aR body n v=some r) n ⟨v,U,hF⟩ ?_;rintro n st ⟨v,rfl,hF⟩;cases n with
 | zero=>cases hF
 | succ n=>exact round _ (Go.Ab.aR body n) v (λv' h=>G.again (Nat.lt_succ_self n) ⟨v',U,h⟩) hF
theorem G.known{c:Bool}(hb:b=c)(hs:bG sl t=some (.one (bB b)))(h:G C Q0 k ⟨(t,.one (bB c))::sl,hp⟩):G C Q0 k ⟨sl,hp⟩:=
 ⟨λa w⟨β,r⟩=>h.go a w ⟨β,r.slot (sv:=.one<|bB c)<|hb ▸ r.sl t _ hs⟩⟩
theorem dJ.cast{c c':BV}(h:dJ C o Rs Rh [(dst,.one c)] [])(e:c=c'):dJ C o Rs Rh [(dst,.one c')] []:=e ▸ h
theorem G.op1{sv:SV}
  (h:dJ C o Rs Rh [(dst,sv)] []) (hg:o.guard=none) (hs:bK sl Rs) (hh:dn hp Rh) (hk:G C Q0 (.l ops rest::k) ⟨(dst,sv)::sl,hp⟩):G C Q0 (.l ops (o::rest)::k) ⟨sl,hp⟩:=G.op h hg hs hh U U hk
theorem G.op2{sv:SV}
  (h:dJ C o Rs Rh [(dst,sv)] [(kk,e)]) (hg:o.guard=none) (hs:bK sl Rs) (hh:dn hp Rh) (hk:G C Q0 (.l ops rest::k) ⟨(dst,sv)::sl,(kk,e)::hp⟩):G C Q0 (.l ops (o::rest)::k) ⟨sl,hp⟩:=G.op h hg hs hh U U hk
theorem G.op3
  (h:dJ C o Rs Rh [] [(kk,e)]) (hg:o.guard=none) (hs:bK sl Rs) (hh:dn hp Rh) (hk:G C Q0 (.l ops rest::k) ⟨sl,(kk,e)::hp⟩):G C Q0 (.l ops (o::rest)::k) ⟨sl,hp⟩:=G.op h hg hs hh U U hk
theorem G.aif{sv:SV}
  (h:dJ C o Rs Rh [(dst,sv)] []) (hg:o.guard=some (j,b)) (hj:(ops[j]?).bind (·.dst)=some t) (ht:bG sl t=some (.one<|bB b)) (hs:bK sl Rs) (hh:dn hp Rh) (hk:G C Q0 (.l ops rest::k) ⟨(dst,sv)::sl,hp⟩):G C Q0 (.l ops (o::rest)::k) ⟨sl,hp⟩:=G.opG h hg hj ht hs hh U U hk
theorem G.ao2{c:Bool}
  (hd:o.dst=some dst) (hg:o.guard=some (j,c)) (hbc:(b==c)=false) (hj:(ops[j]?).bind (·.dst)=some t) (ht:bG sl t=some (.one<|bB b))
  (hk:G C Q0 (.l ops rest::k) ⟨(dst,.one (.x Go.undef))::sl,hp⟩):G C Q0 (.l ops (o::rest)::k) ⟨sl,hp⟩:=G.opN hd hg hbc hj ht U hk
end
def rq{X Y:Type}(enc:X->AG)(val:Y->Value)(p:X->Option Y):List AG->Value->Prop:=λargs v=>∃x y,args= [enc x]/\p x=some y/\v=val y
def Qa{X X' Y:Type}(enc:X->AG)(enc':X'->AG)(val:Y->Value)(p:X->X'->Option Y):List AG->Value->Prop:=λargs v=>∃x x' y,args= [enc x,enc' x']/\p x x'=some y/\v=val y
variable{kd:IntKind}{d1:Nat}{td:TypeDesc}{ty1 ty2:TypeId}{pos1 pos2:String}{af1 af2:Array Edge}
section
variable{k:List KI}
theorem Sg{sv:SV}(hd:Nat.blt dst nt=true):dJ C (Oo dst (.move (.tmp t)) ty pos af gd) [(t,sv)] [] [(dst,sv)] []:=
 bu hd U λsl hp β a w hs _ r=>⟨a.eval<|.tmp t,by simp[execOp],r.sl t _ hs.1⟩
theorem G.alp{T':Nat}(hT:P.underlying T=some (.slice E))(hx:Ev x (.g (.d (.sl size es))) R)(hd:Nat.blt dst nt=true)(hs:bK sl R)
  (hk:∀b:Bool,(b=true->es= [])->G C Q0 (.l ops rest::k) ⟨(dst,.one (bB b))::sl,hp⟩):G C Q0 (.l ops (Oo dst (.binOp .eql T x (.const<|.slice none 0 0) T') ty pos af none::rest)::k) ⟨sl,hp⟩:=⟨λa w⟨β,r⟩=>by
 change wpList P ops (Hq P Q0 k) _ a w;refine axl U λK hK=>?_;have h1:=hx.ok hs r;have hu:∃(b:Bool),(b=true->es= [])/\(binOp .eql T (a.eval x)<|.slice none 0 0).run P w= .ok (.bool b) w:=by
  generalize hxx:a.eval x=u at h1;cases h1 with
  | sl ad cap _ _ vals b o hc hm ha hs' hv hr=>
   refine⟨ad.isNone,λh=>?_,?_⟩
   ·refine awH λc=>?_
    rw[ha c]at h;cases h
   ·have e:Op.equal T (.slice ad es.length cap) (.slice none 0 0)=Op.equalIn (9999+1) T (.slice ad es.length cap) (.slice none 0 0):=rfl
    cases ad<;>(simp only[binOp];rw[e,Op.equalIn];simp[avw,avm hT])
 obtain⟨b,hb,hrun⟩:=hu;have hg:=ef (P:=P) (op:=.eql) (t:=T) (x:=x) (y:=.const<|.slice none 0 0) (v:=.slice none 0 0) (w:=w) (u:=a.eval x) (RD.one h1) (λc=>by rw[c]at h1;cases h1);unfold Oper.wp;have:(execOp a.eval<|Oo dst (.binOp .eql T x (.const<|.slice none 0 0) T') ty pos af none).run P w= .ok (.value<|.bool b) w:=by
  simp only[execOp,avw,Act.eval]at hg hrun ⊢;rw[hg];simp only[avt,hrun,avF]
 rw[this];exact hK _ _ ((hk b hb).go _ _ ⟨β,r.put (sv:=.one (bB b)) (avU _ _) ay1 (RD.v _ U)⟩)⟩
theorem Sd(hT:P.underlying T=some (.slice E))(hI:Info P E zz size bytes)(hz:Nat.blt 0 size=true)(hd:Nat.blt dst nt=true)(Hj:Nat.blt 0 kk=true:=by rfl):
  dJ C (Oo dst (.buildSlice T 0 #[]) ty pos af gd) [] [(kk,none)] [(dst,.one (.own kk []))] [(kk,some (.row E size [] true))]:=by
 refine⟨λsl hp hs hh a w K Q⟨β,r⟩ hK=>?_⟩;unfold Oper.wp;have:(execOp a.eval<|Oo dst (.buildSlice T 0 #[]) ty pos af gd).run P w= .ok (.value<|.slice (some ⟨w.heap.size,0,none⟩) 0 0) (w.alloc<|.cells #[] E):=by
  simp[execOp,Instr.buildSlice,avm hT,hI.sizeOf,Instr.fill,newRow,show(Array.range 0)= #[]from rfl]
 rw[this];have h:=(r.new (e:=.row E size [] true) (bo:=some w.heap.size) hh.1 Hj (dM w<|.cells #[] E) (λb hb=>azY) λ_ _=>
  ⟨aAi,λcs h=>ay4,.inr ⟨w.heap.size,#[],azr,awB w _,ayW,λi cs j d h=>ay4⟩⟩).1
 exact hK _ _ ⟨_,h.put (avU _ _) ay1 ⟨E,size,[],true,azp,avq _,λ_=>.inr ⟨w.heap.size,0,#[],azr,U,avq _,av5 _,awB w _,ayW⟩⟩⟩
theorem Gs(r:dD C ⟨sl,hp⟩ β a w)(hk:aE hp kk=some (.row T size es ex))(hu:BR C hp β w (.own kk es) u)(hne:es≠[]):
  0<size/\(∀cs,cs∈es->cs.length=size)/\∃b cap cur,β kk=some b/\u= .slice (some ⟨b,0,none⟩) es.length cap/\es.length<=cap/\cap<=maxLen/\w.heap[b]? =some (.cells cur T (0,0))/\cur.size=cap*size/\es.length*size<=cur.size/\
   ∀(i:Nat)(cs:List DV)(j:Nat)(d:DV),es[i]? =some cs->cs[j]? =some d->∃v,cur[i*size+j]? =some v/\RD (Mu C hp β) w v d:=by
 obtain⟨_,_,_,_,h1,_,h2⟩:=hu;rw[hk]at h1;cases h1;obtain⟨hz,hs,hr⟩:=r.hp kk _ hk;rcases h2 rfl with⟨_,h3,_⟩ | ⟨b,cap,cur,hb,za,hle,pR,hheap,hcs⟩
 ·exact absurd h3 hne
 ·rcases hr with⟨q1,q2⟩ | ⟨b',cur',q1,q2,q3,q4⟩
  ·exact absurd q2 hne
  ·rw[hb]at q1;cases q1
   rw[hheap]at q2;cases q2;exact⟨hz,hs,b,cap,cur,hb,za,hle,pR,hheap,hcs,q3,q4⟩
theorem A7{T E zz size bytes:_}{b:Nat}(hT:P.underlying T=some (.slice E))(hI:Info P E zz size bytes)(h0:0<=i)(hi:i<(len:Int)):
  (Instr.indexAt T (.slice (some ⟨b,0,none⟩) len cap)<|.int kd i).run P w= .ok (.pointer<|some ⟨b,i.toNat*size,none⟩) w:=by
 have hb:0<=i/\i<(len:Int):=⟨h0,hi⟩;simp only[Instr.indexAt,asIntOf,avw,avF,avt,avm hT,Bool.and_false,hb,ayB,avM,hI.sizeOf,awr,avn,avB,avS]
theorem G.ae4{d2 T':Nat}
  (hT:P.underlying T=some (.slice E)) (hU:P.underlying E=some td) (hA:qJ td=true) (hI:Info P E zz size bytes) (h0:0<=i) (hi:es[i.toNat]? =some cs)
  (hx:Ev x (.own kk es) R1) (hy:Ev y (bI kd i) R2) (hd1:Nat.blt d1 nt=true) (hd2:Nat.blt d2 nt=true) (hs:bK sl (R1++R2)) (hh:aE hp kk=some (.row T' size es ex))
  (hk:G C Q0 (.l ops rest::k) ⟨(d2,.one (.g<|.agg cs))::(d1,.dead)::sl,hp⟩):
  G C Q0 (.l ops (Oo d1 (.indexAddr T x y) ty1 pos1 af1 none::Oo d2 (.load E<|.tmp d1) ty2 pos2 af2 none::rest)::k) ⟨sl,hp⟩:=⟨λa w⟨β,r⟩=>by
 have hlt:i.toNat<es.length:=(avl.1 hi).1
 have hne:es≠[]:=λc=>by simp[c]at hlt
 obtain⟨hz,hsz,b,cap,cur,hb,hu,hle,pR,hheap,hcs,hcl,hel⟩:=Gs r hh (hx.ok hs.app.1 r) hne;have h2:=BR.aX (hy.ok hs.app.2 r);have HI:d1<nt:=by simpa using hd1
 have aeL:cs.length=size:=hsz cs (avH hi);change wpList P ops (Hq P Q0 k) _ a w;refine axl U λK1 hK1=>?_;unfold Oper.wp;have e1:(execOp a.eval<|Oo d1 (.indexAddr T x y) ty1 pos1 af1 none).run P w= .ok (.value<|.pointer<|some ⟨b,i.toNat*size,none⟩) w:=by
  simp only[execOp,hu,h2,avw,A7 hT hI h0 (show i<(es.length:Int) by omega),avt,avF]
 rw[e1];refine hK1 _ _ ?_;refine axl U λK hK=>?_;unfold Oper.wp;have r1:dD C ⟨(d1,.dead)::sl,hp⟩ β (a.put (some d1)<|.pointer<|some ⟨b,i.toNat*size,none⟩) w:=r.put (sv:=.dead) (avU _ _) HI ayS;have e3:(a.put (some d1)<|.pointer<|some ⟨b,i.toNat*size,none⟩).eval (.tmp d1)= .pointer (some ⟨b,i.toNat*size,none⟩):=by
  simp only[Act.eval];rw[zD,avk ⟨rfl,aAh⟩]
 have KA:∀j,j<size->w.cell? ⟨b,i.toNat*size+j,none⟩=some ((λj=>cur.getD (i.toNat*size+j) undef) j):=by
  intro j hj;obtain⟨u,h3,_⟩:=hel i.toNat cs j (cs[j]' ayT) hi (by simp[aeL,hj]);rw[awM w b _ cur T' _ hheap];simp[h3]
 have e2:=mg (P:=P) (b:=b) (o:=i.toNat*size) (w:=w) hU hA hI _ KA;have e4:(execOp (a.put (some d1)<|.pointer<|some ⟨b,i.toNat*size,none⟩).eval<|Oo d2 (.load E<|.tmp d1) ty2 pos2 af2 none).run P w= .ok (.value<|.agg ((List.range size).map λj=>cur.getD (i.toNat*size+j) undef).toArray) w:=by
  simp only[execOp,e3,avw,e2,avt,avF]
 rw[e4];refine hK _ _ (hk.go _ _ ⟨β,r1.put (sv:=.one<|.g<|.agg cs) (avU _ _) (by simpa using hd2) ⟨_,U,by simp[aeL],λj d hj=>?_⟩⟩);obtain⟨u,h3,h4⟩:=hel i.toNat cs j d hi hj;have hl:j<size:=by rw[<-aeL];exact(avl.1 hj).1
 exact⟨u,by simp[hl,h3],h4⟩⟩
theorem getElem?_set'(l:List α)(i j:Nat)(x:α)(h:i<l.length):(l.set i x)[j]? =if i=j then some x else l[j]? :=by
 rw[awz];by_cases c:i=j
 ·subst c;simp[h]
 ·simp[c]
theorem G.acR
  (hT:P.underlying T=some (.slice E)) (hI:Info P E zz size bytes) (hds:ds.length=size) (h0:0<=i) (hi:i<(es.length:Int)) (he:es.set i.toNat ds=es')
  (hx:Ev x (.own kk es) R1) (hy:Ev y (bI kd i) R2) (hz:Ev z (.g<|.agg ds) R3) (hzd:z≠.tmp d1) (hd1:Nat.blt d1 nt=true) (hs:bK sl (R1++(R2++R3))) (hh:aE hp kk=some (.row E size es true))
  (hk:G C Q0 (.l ops rest::k) ⟨(d1,.dead)::sl,(kk,some (.row E size es' true))::hp⟩):
  G C Q0 (.l ops (Oo d1 (.indexAddr T x y) ty1 pos1 af1 none::⟨none,.store E (.tmp d1) z,ty2,pos2,af2,none⟩::rest)::k) ⟨sl,hp⟩:=⟨λa w⟨β,r⟩=>by
 subst he;have hne:es≠[]:=λc=>by rw[c]at hi;simp at hi;omega
 obtain⟨Pg,hsz,b,cap,cur,hb,hu,hle,pR,hheap,hcs,hcl,hel⟩:=Gs r hh (hx.ok hs.app.1 r) hne;have h2:=BR.aX (hy.ok hs.app.2.app.1 r);obtain⟨us,hus,ah3,huc⟩:=hz.ok hs.app.2.app.2 r;have HI:d1<nt:=by simpa using hd1
 have hit:i.toNat<es.length:=by omega
 have hfit:i.toNat*size+us.size<=cur.size:=by
  have:(i.toNat+1)*size<=es.length*size:=avr _ hit;rw[awn]at this;omega
 change wpList P ops (Hq P Q0 k) _ a w;refine axl U λK1 hK1=>?_;unfold Oper.wp;have e1:(execOp a.eval<|Oo d1 (.indexAddr T x y) ty1 pos1 af1 none).run P w= .ok (.value<|.pointer<|some ⟨b,i.toNat*size,none⟩) w:=by
  simp only[execOp,hu,h2,avw,A7 hT hI h0 hi,avt,avF]
 rw[e1];refine hK1 _ _ ?_;refine axl U λK hK=>?_;unfold Oper.wp;have r1:dD C ⟨(d1,.dead)::sl,hp⟩ β (a.put (some d1)<|.pointer<|some ⟨b,i.toNat*size,none⟩) w:=r.put (sv:=.dead) (avU _ _) HI ayS;have e3:(a.put (some d1)<|.pointer<|some ⟨b,i.toNat*size,none⟩).eval (.tmp d1)= .pointer (some ⟨b,i.toNat*size,none⟩):=by
  simp only[Act.eval];rw[zD,avk ⟨rfl,aAh⟩]
 have e5:(a.put (some d1)<|.pointer<|some ⟨b,i.toNat*size,none⟩).eval z= .agg us:=by
  rw[Act.eval_put (λd hd=>by cases hd;exact hzd)];exact hus
 have hone:∀v,v∈us.toList->v.oneCell'=true:=by
  intro v hv;obtain⟨j,hj,rfl⟩:=avO hv;have hj':j<ds.length:=by rw[<-ah3];simpa using hj
  obtain⟨x',h3,h4⟩:=huc j ds[j] (by simp[hj']);have:us.toList[j] =x':=by
   have:us[j]? =some us.toList[j]:=by simp
   rw[h3]at this;exact(aww this).symm
  rw[this];exact h4.one
 have hst:=ayd P b (i.toNat*size) E us.toList 0 cur w hheap (by simpa using hfit) hone;simp only[awE]at hst;generalize hw1:w.setRow b (List.take (i.toNat*size) cur.toList++us.toList++List.drop (i.toNat*size+us.toList.length) cur.toList).toArray=w1 at hst
 have hnew:w1.heap[b]? =some (.cells (List.take (i.toNat*size) cur.toList++us.toList++List.drop (i.toNat*size+us.toList.length) cur.toList).toArray E):=by rw[<-hw1];exact axU w b cur _ E _ hheap
 have kJ:∀q,q≠b->w1.heap[q]? =w.heap[q]? :=λq hq=>aAz;have hsize:w1.heap.size=w.heap.size:=by rw[<-hw1];simp[World.setRow]
 have RB:cur.toList.length=cur.size:=awj;have akY:us.toList.length=us.size:=awj;have abJ:∀q:Nat,(List.take (i.toNat*size) cur.toList++us.toList++List.drop (i.toNat*size+us.toList.length) cur.toList).toArray[q]? =if i.toNat*size<=q/\q<i.toNat*size+size then us[q-i.toNat*size]? else cur[q]? :=by
  intro q;rw[awI,jX cur.toList (i.toNat*size) us.toList ayT,akY,ah3,hds];simp
 have IA:(List.take (i.toNat*size) cur.toList++us.toList++List.drop (i.toNat*size+us.toList.length) cur.toList).toArray.size=cur.size:=by
  simp only[avW,avz,avC,avZ,RB,akY];omega
 have e4:(execOp (a.put (some d1)<|.pointer<|some ⟨b,i.toNat*size,none⟩).eval ⟨none,.store E (.tmp d1) z,ty2,pos2,af2,none⟩).run P w= .ok .skip w1:=by
  simp only[execOp,e3,e5,Instr.storeAt,Instr.sureAddr,storeVar,Value.cells,avw,avF,avt,hI.sizeOf];rw[avj (by rw[ah3,hds];simp)];simp only[hst,avt]
 rw[e4];refine hK _ _ (hk.go _ _ ⟨dQ β kk<|β kk,?_⟩);refine(r1.chg (e:=.row E size (es.set i.toNat ds) true) (bo:=β kk) hh azh azh azh ayT (λq _ hq=>kJ q λc=>hq<|by rw[c,hb]) (λ_ o x _ _ hnm=>absurd (.inl U) hnm)
  (.inl ⟨U,λo ho=>.inl U⟩) ⟨U,λ_=>rfl⟩ (λB5 u h=>?_) (λ_ FN=>?_)).1
 ·obtain⟨_,_,_,_,h5,h6,h7⟩:=h
  rw[hh]at h5;cases h5;refine⟨E,size,es.set i.toNat ds,true,azp,by simpa using h6,λhq=>?_⟩;rw[awT]at hq;rcases h7 hq with⟨_,h8,_⟩ | ⟨b',cap',cur',h8,h9,h10,h11,h12,h13⟩
  ·exact absurd h8 hne
  ·rw[hb]at h8;cases h8
   rw[hheap]at h12;cases h12;exact .inr ⟨b,cap',_,azv,by rw[awT];exact h9,by rw[awT];exact h10,h11,hnew,by rw[IA];exact h13⟩
 ·refine⟨Pg,λcs HH=>?_,.inr ⟨b,_,azv,hnew,by rw[awT,IA];exact hcl,λi' cs j d hi' hj=>?_⟩⟩
  ·rcases List.mem_or_eq_of_mem_set HH with h5 | h5
   ·exact hsz cs h5
   ·rw[h5];exact hds
  ·rw[getElem?_set' es i.toNat i' ds hit]at hi'
   rw[abJ];by_cases c:i.toNat=i'
   ·rw[avk c]at hi'
    cases hi';have hj':j<size:=by rw[<-hds];exact(avl.1 hj).1
    obtain⟨x',h3,h4⟩:=huc j d hj;rw[<-c,avk ayT];exact⟨x',by rw[show i.toNat*size+j-i.toNat*size=j by omega];exact h3,FN _ _ h4⟩
   ·rw[avj c]at hi'
    obtain⟨v,h3,h4⟩:=hel i' cs j d hi' hj;have hj':j<size:=by rw[<-hsz cs (avH hi')];exact(avl.1 hj).1
    have:¬(i.toNat*size<=i'*size+j/\i'*size+j<i.toNat*size+size):=by
     rintro⟨q1,q2⟩;rcases Nat.lt_or_gt_of_ne c with c' | c'
     ·have:(i.toNat+1)*size<=i'*size:=avr _ c'
      rw[awn]at this;omega
     ·have:(i'+1)*size<=i.toNat*size:=avr _ c'
      rw[awn]at this;omega
    rw[avj this];exact⟨v,h3,FN _ _ h4⟩⟩
end
def Vl(k:Nat)(sl:SL)(hp:HL):Bool:=sl.all (λp=>p.2.ids.all (λi=>!Nat.beq i k))&&hp.all (λp=>match p.2 with | some e=>e.ids.all (λi=>!Nat.beq i k) | none=>true)
theorem WR{i:Nat}(h:(!Nat.beq i k)=true):i≠k:=λc=>by subst c;simp at h
section
theorem dD.slots(r:dD C ⟨sl,hp⟩ β a w)(hs:bK sl sl'):dD C ⟨sl',hp⟩ β a w:=
 ⟨r.keep,r.low,r.inj,r.own,r.hp,λt sv h=>r.sl t sv<|hs.mem<|wP h,r.size,r.df,r.fx⟩
theorem dD.swap(r:dD C ⟨sl,hp⟩ β a w){e0 e:HE}
  (hk:aE hp k=some e0) (agj:e0.isRow=true) (hno:Vl k sl hp=true)
  (hos:w1.os=w.os) (RJ:w1.tape=w.tape) (hout:w1.output=w.output) (hsize:w.heap.size<=w1.heap.size) (AD:∀i,i<w.heap.size->some i≠β k->w1.heap[i]? =w.heap[i]?)
  (hcell:∀b o x,β k=some b->w.cell? ⟨b,o,none⟩=some x->¬e0.xK o->w1.cell? ⟨b,o,none⟩=some x)
  (Fb:∀b,bo=some b->(β k=some b/\∀o,e.xK o->e0.xK o)\/(w.heap.size<=b/\b<w1.heap.size))
  (hH:(∀u d,RD (Mu C hp β) w u d->RD (Mu C ((k,some e)::hp)<|dQ β k bo) w1 u d)->HR C ((k,some e)::hp) (dQ β k bo) w1 k e):
  dD C ⟨sl,(k,some e)::hp⟩ (dQ β k bo) a w1:=by
 have fD:∀k' e',k'≠k->aE hp k'=some e'->aE ((k,some e)::hp) k'=some e'/\dQ β k bo k'=β k':=λk' e' hn h=>
  ⟨by rw[aG,avj (λc=>hn c.symm)];exact h,by simp[dQ,hn]⟩
 have kJ:∀k' e' b o,k'≠k->aE hp k'=some e'->β k'=some b->w.heap[b]? =some o->w1.heap[b]? =some o:=λk' e' b o hn h hb ho=>by
  rw[AD b (avo.1 ho).1 (λc=>hn<|r.inj k' k e' e0 b h hk hb c.symm)];exact ho
 have hst:∀b o x,¬Mu C hp β b o->w.cell? ⟨b,o,none⟩=some x->w1.cell? ⟨b,o,none⟩=some x/\¬Mu C ((k,some e)::hp) (dQ β k bo) b o:=by
  intro b o x hn hx;have hlt:=cz hx;constructor
  ·by_cases hb:some b=β k
   ·exact hcell b o x hb.symm hx (λc=>hn<|.inr ⟨k,e0,hk,hb.symm,c⟩)
   ·rw[awh (w:=w) (a:=⟨b,o,none⟩) (AD b hlt hb)];exact hx
  ·rintro(hM | ⟨k',e',he',hb',hm'⟩)
   ·exact hn (.inl hM)
   ·rw[aG]at he'
    by_cases hkk:k=k'
    ·subst hkk
     rw[avk rfl]at he';cases he';simp only[dQ,avM]at hb';rcases Fb b hb' with⟨h1,h2⟩ | ⟨h1,h2⟩
     ·exact hn (.inr ⟨k,e0,hk,h1,h2 o hm'⟩)
     ·omega
    ·rw[avj hkk]at he'
     simp only[dQ,avj (λc=>hkk<|Eq.symm c)]at hb';exact hn (.inr ⟨k',e',he',hb',hm'⟩)
 have FN:∀u d,RD (Mu C hp β) w u d->RD (Mu C ((k,some e)::hp)<|dQ β k bo) w1 u d:=λu d h=>h.mono hst;have Hi:∀c u,(∀i,i∈c.ids->(!Nat.beq i k)=true)->BR C hp β w c u->BR C ((k,some e)::hp) (dQ β k bo) w1 c u:=by
  intro c u hid h;refine BR.kept hst (λk' hk' e' he' hr=>?_) (λk' B5 u hc h=>?_) h
  ·have c:k'≠k:=λc=>by subst c;rw[hk]at he';cases he';rw[agj]at hr;cases hr
   exact⟨⟨e',(fD k' e' c he').1,hr⟩,(fD k' e' c he').2⟩
  ·have c:k'≠k:=WR (hid k' aAO)
   obtain⟨T,size,es,ex,hh,hl,hr⟩:=h;have h2:=fD k' _ c hh;refine⟨T,size,es,ex,h2.1,hl,λhq=>(hr hq).imp (λ⟨h1,h3⟩=>⟨h2.2.trans h1,h3⟩) ?_⟩;rintro⟨b,cap,cur,q1,q2,q3,q4,q5,q6⟩;exact⟨b,cap,cur,h2.2.trans q1,q2,q3,q4,kJ k' _ b _ c hh q1 q5,q6⟩
 simp only[Vl,avA,avI]at hno;refine⟨?_,r.low,?_,?_,?_,?_,r.size,r.df,λb hb=>?_⟩
 ·refine⟨hos.trans r.keep.os,RJ.trans r.keep.tape,hout.trans r.keep.output,awa r.keep.size hsize,λi hi hK=>?_⟩
  rw[AD i (avE hi r.keep.size) (λc=>?_)]
  ·exact r.keep.block i hi hK
  ·rcases(r.own k e0 i hk c.symm).1 with h1 | h1
   ·omega
   ·exact hK h1
 ·intro k1 k2 e1 e2 b h1 h2 hb1 hb2
  simp only[aG]at h1 h2;by_cases c1:k=k1<;>by_cases c2:k=k2
  ·omega
  ·subst c1
   rw[avj c2]at h2;simp only[dQ,avM]at hb1;simp only[dQ,avj (λc=>c2<|Eq.symm c)]at hb2;rcases Fb b hb1 with⟨h3,_⟩ | ⟨h3,_⟩
   ·exact r.inj k k2 e0 e2 b hk h2 h3 hb2
   ·have h4:=(r.own k2 e2 _ h2 hb2).2
    omega
  ·subst c2
   rw[avj c1]at h1;simp only[dQ,avM]at hb2;simp only[dQ,avj (λc=>c1<|Eq.symm c)]at hb1;rcases Fb b hb2 with⟨h3,_⟩ | ⟨h3,_⟩
   ·exact r.inj k1 k e1 e0 b h1 hk hb1 h3
   ·have h4:=(r.own k1 e1 _ h1 hb1).2
    omega
  ·rw[avj c1]at h1
   rw[avj c2]at h2;simp only[dQ,avj (λc=>c1<|Eq.symm c)]at hb1;simp only[dQ,avj (λc=>c2<|Eq.symm c)]at hb2;exact r.inj k1 k2 e1 e2 b h1 h2 hb1 hb2
 ·intro k1 e1 b h1 hb1
  simp only[aG]at h1;by_cases c1:k=k1
  ·subst c1
   simp only[dQ,avM]at hb1;rcases Fb b hb1 with⟨h3,_⟩ | ⟨h3,h4⟩
   ·have:=r.own k e0 b hk h3
    exact⟨this.1,avE this.2 hsize⟩
   ·exact⟨.inl<|awa r.keep.size h3,h4⟩
  ·rw[avj c1]at h1
   simp only[dQ,avj (λc=>c1<|Eq.symm c)]at hb1;exact⟨(r.own k1 e1 b h1 hb1).1,avE (r.own k1 e1 b h1 hb1).2 hsize⟩
 ·intro k1 e1 h1
  simp only[aG]at h1;by_cases c1:k=k1
  ·subst c1
   rw[avk rfl]at h1;cases h1;exact hH FN
  ·rw[avj c1]at h1
   have Ow:k1≠k:=λc=>c1 c.symm;have h2:=fD k1 e1 Ow h1;have h3:=r.hp k1 e1 h1;cases e1 with
   | blk T cs=>
    obtain⟨b,arr,q1,q2,q3,q4⟩:=h3;refine⟨b,arr,h2.2.trans q1,kJ k1 _ b _ Ow h1 q1 q2,q3,λj c hc=>let⟨u,hu,ho,hr⟩:=q4 j c hc;⟨u,hu,ho,Hi c u (λi hi=>?_) hr⟩⟩;have:=hno.2 _ (lJ h1);simp only[HE.ids,avI]at this;exact this i (axg.2 ⟨c,avH hc,hi⟩)
   | row T size es ex=>
    obtain⟨hz,hs,hr⟩:=h3;refine⟨hz,hs,hr.imp (λ⟨q1,q2⟩=>⟨h2.2.trans q1,q2⟩) ?_⟩;rintro⟨b,cur,q1,q2,q3,q4⟩;exact⟨b,cur,h2.2.trans q1,kJ k1 _ b _ Ow h1 q1 q2,q3,λi cs j d hi hj=>let⟨u,hu,hr⟩:=q4 i cs j d hi hj;⟨u,hu,hr.mono hst⟩⟩
   | it s pos=>
    obtain⟨b,q1,q2⟩:=h3;exact⟨b,h2.2.trans q1,kJ k1 _ b _ Ow h1 q1 q2⟩
   | pr Φ=>
    obtain⟨b,o,q1,q2,q3⟩:=h3;exact⟨b,o,h2.2.trans q1,kJ k1 _ b _ Ow h1 q1 q2,q3⟩
   | map es=>
    obtain⟨b,cm,q1,q2,q3,q4⟩:=h3;exact⟨b,cm,h2.2.trans q1,kJ k1 _ b _ Ow h1 q1 q2,q3,λi e he=>let⟨x,p1,p2,p3,p4⟩:=q4 i e he;⟨x,p1,p2,p3,p4.mono hst⟩⟩
   | ZV T E kk s=>
    obtain⟨q0,b,p,v,q1,q2,q3,q4,q5⟩:=h3;have ckk:kk≠k:=by
     have:=hno.2 _ (lJ h1);simp only[HE.ids,avI]at this;exact WR (this kk<|by simp)
    have q0':=fD kk _ ckk q0;exact⟨q0'.1,b,p,v,h2.2.trans q1,q2,kJ k1 _ b _ Ow h1 q1 q3,dz q4 (λg hg=>by
     obtain⟨o,ho⟩:∃o,w.heap[g]? =some o:=⟨_,av2<|wm q4 hg⟩;rw[ho];exact kJ kk _ g o ckk q0 (q5.symm.trans hg) ho),q5.trans q0'.2.symm⟩
   | hid _ _=>trivial
   | obj _=>exact h2.2.trans h3
 ·intro t sv hs
  have h1:=r.sl t sv hs;have h2:=hno.1 _ (wP hs);cases sv with
  | one b=>exact Hi _ _ (λi hi=>h2 i hi) h1
  | eV l=>
   obtain⟨us,q1,q2,q3⟩:=h1;exact⟨us,q1,q2,λi b hi=>let⟨x,hx,hr⟩:=q3 i b hi;⟨x,hx,Hi _ _ (λj hj=>h2 j<|axg.2 ⟨b,avH hi,hj⟩) hr⟩⟩
  | dead=>trivial
 ·obtain⟨f1,f2⟩:=r.fx b hb
  have c:k≠0:=λc=>by
   subst c;have h1:=f2 e0 hk;rw[agj]at h1;cases h1
  exact⟨by simp only[dQ,avj (Ne.symm c)];exact f1,λe1 he=>by rw[aG,avj c]at he;exact f2 e1 he⟩
inductive Oc(P:Program):List Operand->List RG->List (Nat×SV)->List (Nat×Option HE)->Prop
 | nil:Oc P [] [] [] []
 | g {x:Operand} {g:AG} {R Rs:List (Nat×SV)} {jM:List (Nat×Option HE)} {xs:List Operand} {gs:List RG} (h:Ev x (.g g) R) (t:Oc P xs gs Rs jM):Oc P (x::xs) (.g g::gs) (R++Rs) jM
 | sem {x:Operand} {Φ:List AG->Value->Prop} {R Rs:List (Nat×SV)} {jM:List (Nat×Option HE)} {xs:List Operand} {gs:List RG} (h:Ev x (.sem Φ) R) (t:Oc P xs gs Rs jM):Oc P (x::xs) (.sem Φ::gs) (R++Rs) jM
 | yh {x:Operand} {f:Nat} {ks:List Nat} {gs0:List RG} {Φ:List AG->Value->Prop} {R Rs:List (Nat×SV)} {Rh jM:List (Nat×Option HE)} {xs:List Operand} {gs:List RG} (h:Ev x (.yh f ks) R) (hc:tZ ks gs0 Rh) (Yh:cG P f)
   (LW:∀args v,Φ args v->Ct P f (args.map .g++gs0) (.one<|.d<|.v v)) (t:Oc P xs gs Rs jM):Oc P (x::xs) (.sem Φ::gs) (R++Rs) (Rh++jM)
theorem Oc.ok{sl:SL}{hp:HL}{β:Nat->Option Nat}{a:Act}{w:World}{xs:List Operand}{gs:List RG}{R:List (Nat×SV)}{Rh:List (Nat×Option HE)}{kk T size:Nat}{es:List (List DV)}
  (hx:Oc P xs gs R Rh) (hs:bK sl R) (hh:dn hp Rh) (r:dD C ⟨sl,hp⟩ β a w) (hk:aE hp kk=some (.row T size es true)):
  (xs.map a.eval).length=gs.length/\∀(i:Nat)(g:RG)(v:Value),gs[i]? =some g->(xs.map a.eval)[i]? =some v->Ai P (λb o=>Mu C hp β b o/\β kk≠some b) (λb=>β kk=some b) w g v:=by
 have Hl:∀b o,(Mu C hp β b o/\β kk≠some b)\/β kk=some b->Mu C hp β b o:=λb o c=>c.elim (λc=>c.1) λc=>.inr ⟨kk,_,hk,c,.inl U⟩
 induction hx with
 | nil=>exact⟨U,λi g v h=>ay4⟩
 | g h t ih=>
  obtain⟨h3,h4⟩:=ih hs.app.2 hh;refine⟨azx,λi g v hg hv=>?_⟩;cases i with
  | zero=>simp at hg hv;subst hg hv;exact GR.less Hl (h.ok hs.app.1 r)
  | succ i=>exact h4 i g v azz azy
 | sem h t ih=>
  obtain⟨h3,h4⟩:=ih hs.app.2 hh;refine⟨azx,λi g v hg hv=>?_⟩;cases i with
  | zero=>
   simp at hg hv;subst hg hv;obtain⟨f,caps,hu,Yh,hf⟩:=(h.ok hs.app.1 r:Ej P C.w0 C.K _ _);refine⟨f,caps,hu,Yh,λw'' hb'=>hf w'' ⟨hb'.os.trans r.keep.os,hb'.tape.trans r.keep.tape,hb'.output.trans r.keep.output,awa r.keep.size hb'.size,λq hq hK=>?_⟩⟩;rw[hb'.block q (avE hq r.keep.size) (λc=>?_)]
   ·exact r.keep.block q hq hK
   ·rcases(r.own kk _ q hk c).1 with h6 | h6
    ·omega
    ·exact hK h6
  | succ i=>exact h4 i g v azz azy
 | yh h hc Yh LW t ih=>
  obtain⟨h3,h4⟩:=ih hs.app.2 hh.app.2;refine⟨azx,λi g v hg hv=>?_⟩;cases i with
  | zero=>
   simp at hg hv;subst hg hv;exact V9 r (h.ok hs.app.1 r) hc hh.app.1 (λb hb=>⟨kk,T,size,es,true,hk,hb⟩) (λb hb o=>Hl b o<|.inr hb) Yh LW
  | succ i=>exact h4 i g v azz azy
end
section
variable{k:List KI}
theorem G.ad7(hc:cG P f)(Me:Ct P f (.row T size es::args) (.new T size es'))
  (hx:Ev x (.own kk es) R1) (hxs:Oc P xs args R2 Rh) (hd:Nat.blt dst nt=true) (hs:bK sl (R1++R2)) (hh:dn hp ((kk,some (.row T size es true))::Rh)) (U3:bK sl sl') (hno:Vl kk sl' hp=true)
  (hk:G C Q0 (.l ops rest::k) ⟨(dst,.one (.own kk es'))::sl',(kk,some (.row T size es' true))::hp⟩):
  G C Q0 (.l ops (Oo dst (gO f (x::xs) tys) ty pos af none::rest)::k) ⟨sl,hp⟩:=⟨λa w⟨β,r⟩=>by
 have hu:=hx.ok hs.app.1 r;obtain⟨_,_,_,_,h1,_,h2⟩:=id hu;rw[hh.1]at h1;cases h1;have h2:=h2 U;obtain⟨hz,hsz,hr⟩:=r.hp kk _ hh.1;have ahS:∀b,β kk=some b->∀o,Mu C hp β b o:=λb hb o=>.inr ⟨kk,_,hh.1,hb,.inl U⟩
 have Hl:∀b b' o,β kk=some b->((Mu C hp β b' o/\β kk≠some b')\/b'=b)->Mu C hp β b' o:=λb b' o hb c=>c.elim (λc=>c.1) λc=>by subst c;exact ahS _ hb o
 obtain⟨hxl,hxa⟩:=hxs.ok hs.app.2 hh.2 r hh.1;have oH:=Me.go (λb o=>Mu C hp β b o/\β kk≠some b) (λb=>β kk=some b) w (a.eval x::xs.map a.eval) (λb o c=>⟨r.yC c.1,c.2⟩)
  (λb hb=>by
   rcases h2 with⟨h3,_⟩ | ⟨b',cap,cur,h3,h4,_⟩
   ·rw[hb]at h3;cases h3
   ·rw[hb]at h3;cases h3
    exact⟨0,T,size,es,cap,U,by simp[h4]⟩)
  (by simpa using hxl)
  (λi g v hg hv=>by
   cases i with
   | succ i=>exact hxa i g v azz azy
   | zero=>
    simp at hg hv;subst hg hv;refine⟨hz,hsz,?_⟩;rcases h2 with⟨_,h3,h4⟩ | ⟨b,cap,cur,hb,za,hle,pR,hheap,hcs⟩
    ·exact .inl ⟨h3,h4⟩
    ·rcases hr with⟨q1,_⟩ | ⟨b',cur',q1,q2,q3,q4⟩
     ·rw[hb]at q1;cases q1
     ·rw[hb]at q1;cases q1
      rw[hheap]at q2;cases q2;exact .inr ⟨b,cap,cur,hb,(r.own kk _ b hh.1 hb).2,za,hle,pR,hheap,hcs,λi cs j d hi hj=>let⟨v,p1,p2⟩:=q4 i cs j d hi hj;⟨v,p1,p2.less λb' o c=>Hl b b' o hb c⟩⟩)
 change wpList P ops (Hq P Q0 k) _ a w;refine axl U λK hK=>?_;unfold Oper.wp;rw[qh hc];refine oH.mono ?_;rintro e w' ⟨v,rfl,Ag,hz',hs',hres⟩;have fin:∀bo:Option Nat,(∀b,bo=some b->w.heap.size<=b/\b<w'.heap.size\/β kk=some b)->
   ((bo=none/\es'= []/\∃ad,v= .slice ad 0 0)\/∃b cap cur,bo=some b/\v= .slice (some ⟨b,0,none⟩) es'.length cap/\es'.length<=cap/\cap<=maxLen/\w'.heap[b]? =some (.cells cur T (0,0))/\cur.size=cap*size/\
    ∀(i:Nat)(cs:List DV)(j:Nat)(d:DV),es'[i]? =some cs->cs[j]? =some d->∃u,cur[i*size+j]? =some u/\RD (λb' o=>(Mu C hp β b' o/\β kk≠some b')\/b'=b) w' u d)->K (a.put (some dst) v) w':=by
  intro bo Fb hv;refine hK _ _ (hk.go _ _ ⟨dQ β kk bo,?_⟩);have Yj:∀b,bo=some b->∀b' o,Mu C ((kk,some (HE.row T size es' true))::hp) (dQ β kk bo) b' o->(Mu C hp β b' o/\β kk≠some b')\/b'=b:=by
   rintro b hb b' o (hM | ⟨k',e',he',hb',hm'⟩)
   ·refine .inl ⟨.inl hM,λc=>?_⟩
    obtain⟨h4,h5⟩:=r.low b' o hM;rcases(r.own kk _ b' hh.1 c).1 with h6 | h6
    ·omega
    ·exact h5 h6
   ·rw[aG]at he'
    by_cases hkk:kk=k'
    ·subst hkk;simp only[dQ,avM]at hb';rw[hb]at hb';cases hb';exact .inr U
    ·rw[avj hkk]at he'
     simp only[dQ,avj (λc=>hkk<|Eq.symm c)]at hb';exact .inl ⟨.inr ⟨k',e',he',hb',hm'⟩,λc=>hkk<|r.inj kk k' _ e' b' hh.1 he' c hb'⟩
  have hsw:=(r.slots U3).swap (w1:=w') (e:=.row T size es' true) (bo:=bo) hh.1 U hno Ag.os Ag.tape Ag.output Ag.size (λi hi hne=>Ag.block i hi λc=>hne c.symm) (λ_ _ _ _ _ hnm=>absurd (.inl U) hnm)
   (λb hb=>(Fb b hb).elim (λc=>.inr c) λc=>.inl ⟨c,λo _=>.inl U⟩)
   (λ_=>⟨hz',hs',hv.imp (λ⟨p1,p2,_⟩=>⟨aAn,p2⟩) λ⟨b,cap,cur,p1,p2,p3,p4,p5,p6,p7⟩=>⟨b,cur,aAn,p5,by rw[p6];exact avr _ p3,λi cs j d hi hj=>let⟨u,q1,q2⟩:=p7 i cs j d hi hj;⟨u,q1,q2.less<|Yj b p1⟩⟩⟩)
  refine hsw.put (sv:=.one<|.own kk es') (avU _ _) ay1 ⟨T,size,es',true,azp,avq _,λ_=>?_⟩;exact hv.imp (λ⟨p1,p2,p3⟩=>⟨aAn,p2,p3⟩) λ⟨b,cap,cur,p1,p2,p3,p4,p5,p6,p7⟩=>⟨b,cap,cur,aAn,p2,p3,p4,p5,p6⟩
 rcases hres with⟨h3,h4⟩ | ⟨b,cap,cur,hB,hlt,hv,hle,pR,hheap,hcs,hel⟩
 ·exact fin none (λb hb=>aAX) (.inl ⟨U,h3,h4⟩)
 ·exact fin (some b) (λb' hb'=>by cases hb';exact hB.imp (λc=>⟨c,hlt⟩) id) (.inr ⟨b,cap,cur,U,hv,hle,pR,hheap,hcs,hel⟩)⟩
end
def qs(es:List (List DV))(lo:Nat)(news:List (List DV)):List (List DV):=es.take lo++news++es.drop (lo+news.length)
theorem LH{lo:Nat}(h:lo+news.length<=es.length):(qs es lo news).length=es.length:=by
 simp only[qs,avz,avC,avZ];omega
theorem VF{lo:Nat}(h:lo+news.length<=es.length)(i:Nat):(qs es lo news)[i]? =if lo<=i/\i<lo+news.length then news[i-lo]? else es[i]? :=by
 simp only[qs];by_cases c1:i<lo
 ·rw[av6,avy ayV,awv,avk c1,avj ayT]
 ·by_cases c2:i<lo+news.length
  ·rw[av6,avG ayV,avy ayV,avk ⟨ayT,c2⟩]
   congr 1;simp;omega
  ·rw[avG ayV,awm,avj ayT]
   congr 1;simp;omega
variable{cur:Array Value}
section
theorem dD.spliced(r:dD C ⟨sl,hp⟩ β a w){b lo:Nat}
  (hh:aE hp kk=some (.row E size es true)) (hb:β kk=some b) (hheap:w.heap[b]? =some (.cells cur E (0,0))) (hlo:lo+news.length<=es.length) (hvl:vs.length=news.length*size) (hns:∀cs,cs∈news->cs.length=size)
  (hv:∀(i:Nat)(cs:List DV)(j:Nat)(d:DV),news[i]? =some cs->cs[j]? =some d->∃v,vs[i*size+j]? =some v/\RD (Mu C hp β) w v d) (hone:∀v,v∈vs->v.oneCell'=true):
  (storeCells ⟨b,lo*size,none⟩ vs).run P w= .ok () (w.setRow b (List.take (lo*size) cur.toList++vs++List.drop (lo*size+vs.length) cur.toList).toArray)/\
  dD C ⟨sl,(kk,some (.row E size (qs es lo news) true))::hp⟩ (dQ β kk<|β kk) a (w.setRow b (List.take (lo*size) cur.toList++vs++List.drop (lo*size+vs.length) cur.toList).toArray):=by
 obtain⟨Pg,hsz,hr⟩:=r.hp kk _ hh;rcases hr with⟨h1,_⟩ | ⟨b',cur',q1,q2,hcl,hel⟩
 ·rw[hb]at h1;cases h1
 rw[hb]at q1;cases q1;rw[hheap]at q2;cases q2;have hfit:lo*size+vs.length<=cur.size:=by
  have:(lo+news.length)*size<=es.length*size:=avr _ hlo;rw[awn]at this;omega
 have hst:=ayd P b (lo*size) E vs 0 cur w hheap (by simpa using hfit) hone;simp only[awE]at hst;refine⟨hst,?_⟩;generalize hw1:w.setRow b (List.take (lo*size) cur.toList++vs++List.drop (lo*size+vs.length) cur.toList).toArray=w1 at hst
 have hnew:w1.heap[b]? =some (.cells (List.take (lo*size) cur.toList++vs++List.drop (lo*size+vs.length) cur.toList).toArray E):=by rw[<-hw1];exact axU w b cur _ E _ hheap
 have kJ:∀q,q≠b->w1.heap[q]? =w.heap[q]? :=λq hq=>aAz;have hsize:w1.heap.size=w.heap.size:=by rw[<-hw1];simp[World.setRow]
 have RB:cur.toList.length=cur.size:=awj;have abJ:∀q:Nat,(List.take (lo*size) cur.toList++vs++List.drop (lo*size+vs.length) cur.toList).toArray[q]? =if lo*size<=q/\q<lo*size+vs.length then vs[q-lo*size]? else cur[q]? :=by
  intro q;rw[awI,jX cur.toList (lo*size) vs ayT];simp
 have IA:(List.take (lo*size) cur.toList++vs++List.drop (lo*size+vs.length) cur.toList).toArray.size=cur.size:=by
  simp only[avW,avz,avC,avZ,RB];omega
 have hlen:=LH hlo;refine(r.chg (e:=.row E size (qs es lo news) true) (bo:=β kk) hh azh azh azh ayT (λq _ hq=>kJ q λc=>hq<|by rw[c,hb]) (λ_ o x _ _ hnm=>absurd (.inl U) hnm)
  (.inl ⟨U,λo ho=>.inl U⟩) ⟨U,λ_=>rfl⟩ (λB5 u h=>?_) (λ_ FN=>?_)).1
 ·obtain⟨_,_,_,_,h5,h6,h7⟩:=h
  rw[hh]at h5;cases h5;refine⟨E,size,qs es lo news,true,azp,by rw[hlen];exact h6,λhq=>?_⟩;rw[hlen]at hq ⊢;rcases h7 hq with⟨h8,_⟩ | ⟨b',cap',cur',h8,h9,h10,h11,h12,h13⟩
  ·rw[hb]at h8;cases h8
  ·rw[hb]at h8;cases h8
   rw[hheap]at h12;cases h12;exact .inr ⟨b,cap',_,azv,h9,h10,h11,hnew,by rw[IA];exact h13⟩
 ·refine⟨Pg,λcs HH=>?_,.inr ⟨b,_,azv,hnew,by rw[hlen,IA];exact hcl,λi cs j d hi hj=>?_⟩⟩
  ·rcases List.mem_append.1 HH with h5 | h5
   ·rcases List.mem_append.1 h5 with h5 | h5
    ·exact hsz cs (axf h5)
    ·exact hns cs h5
   ·exact hsz cs (aw0 h5)
  ·rw[VF hlo]at hi
   rw[abJ];by_cases c:lo<=i/\i<lo+news.length
   ·rw[avk c]at hi
    obtain⟨v,h3,h4⟩:=hv _ cs j d hi hj;have hj':j<size:=by rw[<-hns cs (avH hi)];exact(avl.1 hj).1
    have e1:(i-lo)*size+j=i*size+j-lo*size:=by
     have:lo*size<=i*size:=avr _ c.1;rw[ayb];omega
    have h5:(i-lo+1)*size<=news.length*size:=avr _ ayT;rw[awn,ayb]at h5;have:lo*size<=i*size:=avr _ c.1;rw[avk ⟨ayT,ayT⟩,<-e1];exact⟨v,h3,FN _ _ h4⟩
   ·rw[avj c]at hi
    obtain⟨v,h3,h4⟩:=hel i cs j d hi hj;have hj':j<size:=by rw[<-hsz cs (avH hi)];exact(avl.1 hj).1
    have:¬(lo*size<=i*size+j/\i*size+j<lo*size+vs.length):=by
     rintro⟨q1,q2⟩;rw[hvl]at q2;rcases Nat.lt_or_ge i lo with c' | c'
     ·have:(i+1)*size<=lo*size:=avr _ c'
      rw[awn]at this;omega
     ·have:(lo+news.length)*size<=i*size:=avr _ ayT
      rw[awn]at this;omega
    rw[avj this];exact⟨v,h3,FN _ _ h4⟩
theorem Xn(z:Array Value)(m size i j:Nat)(hz:z.size=size)(hi:i<m)(hj:j<size):(Builtin.zeroCells z m).toList[i*size+j]? =z[j]? :=by
 have h5:(i+1)*size<=m*size:=avr _ hi;rw[awn]at h5;have hlt:i*size+j<m*size:=by omega
 have e:(i*size+j) % size=j:=by rw[awR,Nat.mul_add_mod];exact axa hj
 simp only[Builtin.zeroCells,hz];simp[hlt,e,hj,hz]
end
section
variable{k:List KI}
theorem WW(_r:dD C ⟨sl,hp⟩ β a w)(hk:aE hp kk=some (.row T size es ex))(hu:BR C hp β w (.own kk es) u):
  (β kk=none/\es= []/\∃ad,u= .slice ad 0 0)\/∃b cap cur,β kk=some b/\u= .slice (some ⟨b,0,none⟩) es.length cap/\es.length<=cap/\cap<=maxLen/\w.heap[b]? =some (.cells cur T (0,0))/\cur.size=cap*size:=by
 obtain⟨_,_,_,_,h1,_,h2⟩:=hu;rw[hk]at h1;cases h1;exact h2 U
theorem G.aaB{T':Nat}{n:Int}(hT:P.underlying T=some (.slice E))(hI:Info P E zz size bytes)
  (h0:0<=n) (h1:n<=es.length) (he:es.take n.toNat=es')
  (hx:Ev x (.own kk es) R1) (hy:Ev y (bI .i64 n) R2) (hd:Nat.blt dst nt=true) (hs:bK sl (R1++R2)) (hh:aE hp kk=some (.row T' size es true)) (U3:bK sl sl') (hno:Vl kk sl' hp=true)
  (hk:G C Q0 (.l ops rest::k) ⟨(dst,.one (.own kk es'))::sl',(kk,some (.row T' size es' true))::hp⟩):
  G C Q0 (.l ops (Oo dst (.slice T x none (some y) none) ty pos af none::rest)::k) ⟨sl,hp⟩:=⟨λa w⟨β,r⟩=>by
 subst he;have hu:=WW r hh (hx.ok hs.app.1 r);have hv:=BR.aX (hy.ok hs.app.2 r);obtain⟨hz,hsz,hr⟩:=r.hp kk _ hh;have hlen:(es.take n.toNat).length=n.toNat:=by simp;omega
 have hsw:=(r.slots U3).swap (w1:=w) (e:=.row T' size (es.take n.toNat) true) (bo:=β kk) hh U hno U U U (avq _) (λ_ _ _=>rfl) (λ_ _ _ _ h _=>h)
  (λb hb=>.inl ⟨hb,λo _=>.inl U⟩)
  (λFN=>⟨hz,λcs hcs=>hsz cs<|axf hcs,hr.imp (λ⟨p1,p2⟩=>⟨aAn,by simp[p2]⟩) λ⟨b,cur,p1,p2,p3,p4⟩=>⟨b,cur,aAn,p2,by
   have:(es.take n.toNat).length*size<=es.length*size:=avr _ (by rw[hlen];omega)
   omega,λi cs j d hi hj=>by
   rw[awv]at hi;split at hi
   ·obtain⟨u,q1,q2⟩:=p4 i cs j d hi hj
    exact⟨u,q1,FN _ _ q2⟩
   ·cases hi⟩⟩)
 change wpList P ops (Hq P Q0 k) _ a w;refine axl U λK hK=>?_;unfold Oper.wp;rcases hu with⟨hb,rfl,ad,hu⟩ | ⟨b,cap,cur,hb,hu,hle,pR,hheap,hcs⟩
 ·have hn0:n=0:=by simp at h1;omega
  subst hn0;have e:(execOp a.eval<|Oo dst (.slice T x none (some y) none) ty pos af none).run P w= .ok (.value<|.slice ad 0 0) w:=by
   have:=wM (P:=P) (w:=w) (b:=true) (len:=0) (cap:=0) (lo:=none) (hi:=some 0) ayW ayW ayW ayW;simp only[aw2,awq,axI,av7]at this;simp only[execOp,hu,hv,aw2,awq,Instr.sliceAt,avw,avm hT,avt,Instr.slice,this,hI.sizeOf,avF];cases ad<;>simp
  rw[e];refine hK _ _ (hk.go _ _ ⟨_,hsw.put (sv:=.one<|.own kk []) (avU _ _) ay1 ⟨T',size,[],true,by rw[aG,avk U];simp,avq _,λ_=>.inl ⟨azv,U,ad,U⟩⟩⟩)
 ·have e:(execOp a.eval<|Oo dst (.slice T x none (some y) none) ty pos af none).run P w= .ok (.value<|.slice (some ⟨b,0,none⟩) n.toNat cap) w:=by
   have:=wM (P:=P) (w:=w) (b:=true) (len:=es.length) (cap:=cap) (lo:=none) (hi:=some n) ayW azA ay7 hle;simp only[aw2,awq,axI,av7]at this;simp only[execOp,hu,hv,aw2,awq,Instr.sliceAt,avw,avm hT,avt,Instr.slice,this,hI.sizeOf,avF];simp[Addr.add]
  rw[e];refine hK _ _ (hk.go _ _ ⟨_,hsw.put (sv:=.one (.own kk (es.take n.toNat))) (avU _ _) ay1 ⟨T',size,_,true,azp,avq _,λ_=>.inr ⟨b,cap,cur,azv,by rw[hlen],by rw[hlen];omega,pR,hheap,hcs⟩⟩⟩)⟩
theorem G.QX{zs:List DV}{n:Int}
  (hT:P.underlying T=some (.slice E)) (hI:Info P E zz size bytes) (hzl:ZL zz.cells.toList (dat zs)) (hzs:zs.length=size)
  (h0:0<=n) (h1:n<=es.length) (he:qs es n.toNat (List.replicate (es.length-n.toNat) zs)=es')
  (hx:Ev x (.own kk es) R1) (hy:Ev y (bI .i64 n) R2) (hd:Nat.blt d1 nt=true) (hs:bK sl (R1++R2)) (hh:aE hp kk=some (.row E size es true))
  (hk:G C Q0 (.l ops rest::k) ⟨(d1,.dead)::sl,(kk,some (.row E size es' true))::hp⟩):
  G C Q0 (.l ops (Oo d1 (.slice T x (some y) none none) ty1 pos1 af1 none::⟨none,.call { callee:=.builtin .clear,args:=#[.tmp d1],argTypes:=#[T] },ty2,pos2,af2,none⟩::rest)::k) ⟨sl,hp⟩:=⟨λa w⟨β,r⟩=>by
 subst he;have hu:=WW r hh (hx.ok hs.app.1 r);have hv:=BR.aX (hy.ok hs.app.2 r);obtain⟨hz,hsz,hr⟩:=r.hp kk _ hh;have HI:d1<nt:=by simpa using hd
 obtain⟨ak6,hzc⟩:=ZL.br (C:=C) (hp:=hp) (β:=β) (w:=w) hzl;change wpList P ops (Hq P Q0 k) _ a w;refine axl U λK1 hK1=>?_;unfold Oper.wp;rcases hu with⟨hb,rfl,ad,hu⟩ | ⟨b,cap,cur,hb,hu,hle,pR,hheap,hcs⟩
 ·have hn0:n=0:=by simp at h1;omega
  subst hn0;have e:(execOp a.eval<|Oo d1 (.slice T x (some y) none none) ty1 pos1 af1 none).run P w= .ok (.value<|.slice ad 0 0) w:=by
   have:=wM (P:=P) (w:=w) (b:=true) (len:=0) (cap:=0) (lo:=some 0) (hi:=none) ayW ayW ayW ayW;simp only[aw2,awq,axI,av7]at this;simp only[execOp,hu,hv,aw2,awq,Instr.sliceAt,avw,avm hT,avt,Instr.slice,this,hI.sizeOf,avF];cases ad<;>simp
  rw[e];refine hK1 _ _ ?_;refine axl U λK hK=>?_;unfold Oper.wp;have e3:(a.put (some d1)<|.slice ad 0 0).eval (.tmp d1)= .slice ad 0 0:=by
   simp only[Act.eval];rw[zD,avk ⟨rfl,aAh⟩]
  have e4:(execOp (a.put (some d1)<|.slice ad 0 0).eval ⟨none,.call { callee:=.builtin .clear,args:=#[.tmp d1],argTypes:=#[T] },ty2,pos2,af2,none⟩).run P w= .ok (.value<|.tuple #[]) w:=by
   cases ad<;>simp[execOp,resolve,e3,invoke,builtin,Builtin.clear_,avm hT]
  rw[e4];refine hK _ _ (hk.go _ _ ⟨β,((r.put (sv:=.dead) (avU _ _) HI ayS).ext (λt sv h=>h) λk'=>?_)⟩);rw[aG];split
  ·rename_i c;rw[<-c,hh];simp[qs]
  ·rfl
 ·have hbd:=wM (P:=P) (w:=w) (b:=true) (len:=es.length) (cap:=cap) (lo:=some n) (hi:=none) azA ay7 ayW hle
  simp only[aw2,awq,axI,av7,avp]at hbd;obtain⟨A,hA,e⟩:∃A:Addr,(n.toNat<es.length->A=⟨b,n.toNat*size,none⟩)/\(execOp a.eval<|Oo d1 (.slice T x (some y) none none) ty1 pos1 af1 none).run P w= .ok (.value<|.slice (some A) (es.length-n.toNat)<|cap-n.toNat) w:=by
   refine⟨if cap=n.toNat then⟨b,0,none⟩else⟨b,n.toNat*size,none⟩,λh=>by rw[avj ayT],?_⟩;simp only[execOp,hu,hv,aw2,awq,Instr.sliceAt,avw,avm hT,avt,Instr.slice,hbd,hI.sizeOf,avF];by_cases c:cap=n.toNat
   ·simp[c]
   ·simp only[avj c,awr,avS]
  rw[e];refine hK1 _ _ ?_;refine axl U λK hK=>?_;unfold Oper.wp;have e3:(a.put (some d1)<|.slice (some A) (es.length-n.toNat)<|cap-n.toNat).eval (.tmp d1)= .slice (some A) (es.length-n.toNat) (cap-n.toNat):=by
   simp only[Act.eval];rw[zD,avk ⟨rfl,aAh⟩]
  have r1:=r.put (dst:=d1) (v:=.slice (some A) (es.length-n.toNat)<|cap-n.toNat) (sv:=.dead) (avU _ _) HI ayS;have aeX:zz.cells.size=size:=by simpa[dat,hzs]using ak6
  obtain⟨hst,r2⟩:=r1.spliced (vs:=(Builtin.zeroCells zz.cells<|es.length-n.toNat).toList) (news:=List.replicate (es.length-n.toNat) zs) (lo:=n.toNat) hh hb hheap ayV
   (by simp[Builtin.zeroCells,aeX]) (λcs hcs=>by rw[List.eq_of_mem_replicate hcs];exact hzs)
   (λi cs j d hi hj=>by
    have hi':i<es.length-n.toNat:=by have:=(avl.1 hi).1;simpa using this
    rw[axA,avk hi']at hi;cases hi;have hj':j<size:=by rw[<-hzs];exact(avl.1 hj).1
    obtain⟨u,q1,_,q3⟩:=hzc j (.g<|.d d) (by simp[dat,hj]);exact⟨u,by rw[Xn _ _ size i j aeX hi' hj'];simpa using q1,q3⟩)
   (λv hv=>by
    obtain⟨q,hq,rfl⟩:=avO hv;have hq':q<(es.length-n.toNat)*size:=by simpa[Builtin.zeroCells,aeX]using hq
    have hj:q % size<size:=ayG _ hz;obtain⟨u,q1,q2,_⟩:=hzc (q % size) (.g<|.d zs[q % size]) (by simp[dat,hzs,hj]);have:(Builtin.zeroCells zz.cells<|es.length-n.toNat).toList[q]? =some u:=by
     have hi:q / size<es.length-n.toNat:=ax0 (by rw[awR];exact hq');have:=Xn zz.cells (es.length-n.toNat) size (q / size) (q % size) aeX hi hj;rw[awR,ax6]at this;rw[this];simpa using q1
    rw[avs hq]at this;rw[aww this];exact q2)
  have e4:(execOp (a.put (some d1)<|.slice (some A) (es.length-n.toNat)<|cap-n.toNat).eval ⟨none,.call { callee:=.builtin .clear,args:=#[.tmp d1],argTypes:=#[T] },ty2,pos2,af2,none⟩).run P w=
    .ok (.value<|.tuple #[]) (w.setRow b (List.take (n.toNat*size) cur.toList++(Builtin.zeroCells zz.cells<|es.length-n.toNat).toList++List.drop (n.toNat*size+(Builtin.zeroCells zz.cells<|es.length-n.toNat).toList.length) cur.toList).toArray):=by
   cases hm:es.length-n.toNat with
   | zero=>
    have hw:w.setRow b (List.take (n.toNat*size) cur.toList++(Builtin.zeroCells zz.cells 0).toList++List.drop (n.toNat*size+(Builtin.zeroCells zz.cells 0).toList.length) cur.toList).toArray=w:=by
     rw[hm]at hst;simpa[Builtin.zeroCells,storeCells]using hst.symm
    rw[hw];rw[hm]at e3;simp[execOp,resolve,e3,invoke,builtin,Builtin.clear_,avm hT]
   | succ m=>
    rw[hA ayT]at e3 ⊢;rw[hm]at e3 hst;simp[execOp,resolve,e3,invoke,builtin,Builtin.clear_,avm hT,hI.zero,hst]
  rw[e4];exact hK _ _ (hk.go _ _ ⟨_,r2⟩)⟩
end
theorem Ct.Gi{code:Code}(hf:P.funcs[f]? =some fn)(hb:fn.body=some code)(hn:fn.ntmps=n)(hle:Nat.ble (args.length+1) n=true)
  (h:∀M K w,G (⟨w,M,K,none⟩:Cx P n) (bodyPost P fn<|BL M K w res) [.c code] ⟨(0,.one (.own 0 es))::m7 1 args,[(0,some (.row T size es true))]⟩):Ct P f (.row T size es::args) res:=by
 refine⟨λM K w vs hM hK hl hargs=>?_⟩;have hle':vs.length<=n:=by rw[hl];simpa using hle
 have hl':vs.length=args.length+1:=by simpa using hl
 obtain⟨hz,hsz,hrow⟩:=hargs 0 _ vs[0] U (by simp[hl']);obtain⟨bo,Fb,hv⟩:∃bo:Option Nat,(∀b,bo=some b->K b/\b<w.heap.size)/\
   ((bo=none/\es= []/\∃ad,vs[0] = .slice ad 0 0)\/∃b cap cur,bo=some b/\vs[0] = .slice (some ⟨b,0,none⟩) es.length cap/\es.length<=cap/\cap<=maxLen/\w.heap[b]? =some (.cells cur T (0,0))/\cur.size=cap*size/\
    ∀(i:Nat)(cs:List DV)(j:Nat)(d:DV),es[i]? =some cs->cs[j]? =some d->∃u,cur[i*size+j]? =some u/\RD (λb' o=>M b' o\/b'=b) w u d):=by
  rcases hrow with⟨h3,h4⟩ | ⟨b,cap,cur,hB,hlt,hv,hle,pR,hheap,hcs,hel⟩
  ·exact⟨none,λb hb=>aAX,.inl ⟨U,h3,h4⟩⟩
  ·exact⟨some b,λb' hb'=>by cases hb';exact⟨hB,hlt⟩,.inr ⟨b,cap,cur,U,hv,hle,pR,hheap,hcs,hel⟩⟩
 have abL:∀k e,aE [(0,some (HE.row T size es true))] k=some e->k=0/\e= .row T size es true:=λk e h=>by
  rw[aG]at h;split at h
  ·rename_i c;cases h;exact⟨c.symm,U⟩
  ·cases h
 have Hl:∀b o,Mu (⟨w,M,K,none⟩:Cx P n) [(0,some (HE.row T size es true))] (λ_=>bo) b o->M b o\/bo=some b:=by
  rintro b o (c | ⟨_,_,_,c,_⟩)
  ·exact .inl c
  ·exact .inr c
 have ahR:∀b o,Mu (⟨w,M,K,none⟩:Cx P n) [(0,some (HE.row T size es true))] (λ_=>bo) b o->M b o\/K b:=λb o c=>(Hl b o c).imp id λc=>(Fb b c).1
 refine calls_of_wp hf hb ?_;refine(h M K w).go _ w ⟨λ_=>bo,⟨⟨U,U,U,avq _,λ_ _ _=>rfl⟩,hM,λk k' e e' b h1 h2 _ _=>?_,λk e b h1 h2=>⟨.inr (Fb b h2).1,(Fb b h2).2⟩,λk e h1=>?_,λt sv hs=>?_,?_,U,λ_ hb=>aAX⟩⟩
 ·exact(abL k e h1).1.trans (abL k' e' h2).1.symm
 ·obtain⟨rfl,rfl⟩:=abL k e h1
  refine⟨hz,hsz,hv.imp (λ⟨p1,p2,_⟩=>⟨p1,p2⟩) λ⟨b,cap,cur,p1,p2,p3,p4,p5,p6,p7⟩=>⟨b,cur,p1,p5,by rw[p6];exact avr _ p3,λi cs j d hi hj=>let⟨u,q1,q2⟩:=p7 i cs j d hi hj;⟨u,q1,q2.less λb' o c=>(Hl b' o c).imp id λc=>by rw[p1]at c;cases c;rfl⟩⟩⟩
 ·rw[eX]at hs
  by_cases c:0=t
  ·subst c
   rw[avk rfl]at hs;cases hs;have hv0:(vs.toArray++Array.replicate (fn.ntmps-vs.toArray.size) undef).getD 0 undef=vs[0]:=by
    simp[ayg,hl']
   show SR _ _ _ _ _ ((vs.toArray++Array.replicate (fn.ntmps-vs.toArray.size) undef).getD 0 undef);rw[hv0];exact⟨T,size,es,true,azp,avq _,λ_=>hv.imp id λ⟨b,cap,cur,p1,p2,p3,p4,p5,p6,p7⟩=>⟨b,cap,cur,p1,p2,p3,p4,p5,p6⟩⟩
  ·rw[avj c]at hs
   obtain⟨ht,g,h1,rfl⟩:=oq hs;obtain⟨t',rfl⟩:∃t',t=t'+1:=⟨t-1,ayT⟩;rw[ax9]at h1;have hlt:t'+1<vs.length:=by rw[hl'];have:=(avl.1 h1).1;omega
   have hv0:(vs.toArray++Array.replicate (fn.ntmps-vs.toArray.size) undef).getD (t'+1) undef=vs[t'+1]:=by
    simp[ayg,hlt]
   show SR _ _ _ _ _ ((vs.toArray++Array.replicate (fn.ntmps-vs.toArray.size) undef).getD (t'+1) undef);rw[hv0];have ha:=hargs (t'+1) g vs[t'+1] ay7 az3;cases g with
   | g a=>exact GR.less ahR ha
   | ep cs=>
    obtain⟨b,o,hu,hc⟩:=ha;exact⟨b,o,hu,λj d hj=>let⟨x,q1,q2,q3⟩:=hc j d hj;⟨x,q1,λc=>q2<|ahR _ _ c,q3.less ahR⟩⟩
   | sem Φ=>exact ha
   | ro Φ=>exact ha
   | row T size es=>trivial
   | pt h=>trivial
 ·simp[hn];omega
def sets{α:Type}(l:List α)(i:Int)(x:α):Option (List α):=if 0<=i/\i<l.length then some (l.set i.toNat x)else none
def m9{α:Type}(l:List α)(n:Int)(z:α):Option (List α):=if 0<=n/\n<=l.length then some (l.take n.toNat++List.replicate (l.length-n.toNat) z)else none
variable{l l':List α}
theorem GQ{β:Type}{x:α}(h:sets l i x=some l')(f:α->β):0<=i/\i<(l.map f).length/\(l.map f).set i.toNat (f x)=l'.map f:=by
 unfold sets at h;split at h
 ·rename_i c
  cases h;exact⟨c.1,by rw[avN];exact c.2,by rw[List.map_set]⟩
 ·cases h
theorem vw{n:Int}{z:α}(h:m9 l n z=some l')(f:α->List DV):0<=n/\n<=(l.map f).length/\qs (l.map f) n.toNat (List.replicate ((l.map f).length-n.toNat) (f z))=l'.map f:=by
 unfold m9 at h;split at h
 ·rename_i c
  cases h;refine⟨c.1,by rw[avN];exact c.2,?_⟩;have:n.toNat<=l.length:=by omega
  simp only[qs,avN,axm,ays,List.map_replicate,List.length_replicate];rw[awo ayV];simp
 ·cases h
variable{r:List α}
theorem aax{β:Type}{s:List α}{f:α->β}(hs:s.map f= [])(hF:((app n [] s).bind λl=>some l)=some r):(some []:Option (List α))=some r:=by
 have:s= []:=by simpa using hs
 subst this;simpa[app]using hF
section
variable{k:List KI}
theorem G.renew{B5:List (List DV)}(hs:bG sl t=some (.one (.own kk B5)))(hh:aE hp kk=some (.row T size es ex))(hl:B5.length=es.length)
  (h:G C Q0 k ⟨(t,.one (.own kk es))::sl,hp⟩):G C Q0 k ⟨sl,hp⟩:=
 ⟨λa w⟨β,r⟩=>h.go a w ⟨β,r.slot (sv:=.one<|.own kk es) (by
  obtain⟨T',size',es',ex',h1,h2,h3⟩:=(r.sl t _ hs:BR C hp β w (.own kk B5) _);have h4:HE.row T' size' es' ex'=HE.row T size es ex:=aww (h1.symm.trans hh);cases h4;exact⟨T,size,es,ex,h1,avq _,λ_=>h3 hl⟩)⟩⟩
theorem G.arr(h:G C Q0 k ⟨sl',dg⟩)(hs:bK sl sl')(hh:dn hp dg)(hsc:tY sl' dg=true):G C Q0 k ⟨sl,hp⟩:=G.keep hs hh hsc h
theorem G.aiE(hres:fn.results= #[.tmp t])(_hI:Info P E zz size bytes)(hz:Nat.blt 0 size=true)(hs:bK sl [(t,.one (.x (.slice none 0 0)))]):
  G C (bodyPost P fn<|BL C.M C.K C.w0<|.new T size []) (.c .ret::k) ⟨sl,hp⟩:=.mk<|λa w⟨β,r⟩=>by
 have hu:a.tmps.getD t undef= .slice none 0 0:=r.sl t _ hs.1
 refine wp_ret (mE ⟨r.df,a.tmps.getD t undef,?_,a.tmps.getD t undef,U,r.keep,aAi,ayW,.inl ⟨U,none,hu⟩⟩);rw[ri,hres];simp[Fv]
end
theorem qi{β:Type}{x:α}(h:sets l i x=some l')(f:α->β):(l.map f).length=(l'.map f).length:=by
 unfold sets at h;split at h
 ·cases h;simp
 ·cases h
theorem BJ{β:Type}{n:Int}{z:α}(h:m9 l n z=some l')(f:α->β):(l.map f).length=(l'.map f).length:=by
 unfold m9 at h;split at h
 ·cases h;simp;omega
 ·cases h
open Go.ChangeShapes Go.WideShapes Go.ChangeAt
inductive F2{α β:Type}(R:α->β->Prop):List α->List β->Prop
 | nil:F2 R [] []
 | cons {a:α} {b:β} {xs:List α} {ys:List β} (h:R a b) (t:F2 R xs ys):F2 R (a::xs) (b::ys)
def gh(P:Program)(t:TypeId)(X:Type)(enc:X->List DV)(wf:X->Prop):Prop:=
 ∀(H:Type)(e:TypeId×Value->H)(w:World)(base:Nat)(sp:Nat->Bool)(held:Bool)(fuel:Nat)(cs:List Value)(x:DataW H×List MemPlace),
  DataW.trod e P w base sp held fuel t cs=some x->(x.1.weights P t).all (·<=reachBytes)=true->∃v:X,wf v/\F2 (RD (λ_ _=>False) w) cs (enc v)
theorem Dn{H:Type}{P:Program}{e:TypeId}:∀{ds:List (DataW H)},(DataW.weightsAll P e ds).all (·<=reachBytes)=true->∀d,d∈ds->(d.weights P e).all (·<=reachBytes)=true
 | [],_,d,hd=>by simp at hd
 | x::ds,h,d,hd=>by
  rw[DataW.weightsAll,List.all_append,avA]at h;rcases List.mem_cons.1 hd with rfl | hd
  ·exact h.1
  ·exact Dn h.2 d hd
theorem nQ{H:Type}{P:Program}:∀{ts:List TypeId}{ds:List (DataW H)},(DataW.weightsEach P ts ds).all (·<=reachBytes)=true->∀(i:Nat)(t:TypeId)(d:DataW H),ts[i]? =some t->ds[i]? =some d->(d.weights P t).all (·<=reachBytes)=true
 | [],_,_,i,t,d,ht,_=>by simp at ht
 | _::_,[],_,i,t,d,_,hd=>by simp at hd
 | t0::ts,d0::ds,h,i,t,d,ht,hd=>by
  rw[DataW.weightsEach,List.all_append,avA]at h;cases i with
  | zero=>simp at ht hd;subst ht hd;exact h.1
  | succ i=>exact nQ h.2 i t d (by simpa using ht) ay1
theorem gh.int{P:Program}{t:TypeId}{k:IntKind}(ht:P.underlying t=some (.int k)):gh P t Int (λx=>[.v (.int k x)]) (λx=>(Lit.int k x).wf=true):=by
 intro H e w base sp held fuel cs x h _;cases fuel with
 | zero=>simp[DataW.trod]at h
 | succ n=>
  unfold DataW.trod at h;rw[ht]at h;split at h<;>simp_all
  obtain⟨⟨rfl,hw⟩,_⟩:=h;exact⟨_,hw,.cons (RD.v _ U) .nil⟩
theorem Q8{X:Type}(n:Nat)(p:Nat->X->Prop)(h:∀i,i<n->∃x,p i x):∃l:List X,l.length=n/\∀i x,l[i]? =some x->p i x:=by
 induction n with
 | zero=>exact⟨[],U,λi x h=>ay4⟩
 | succ n ih=>
  obtain⟨l,h1,h2⟩:=ih λi hi=>h i ayT;obtain⟨x,hx⟩:=h n ayT;refine⟨l++ [x],aAw,λi y hy=>?_⟩;by_cases c:i<l.length
  ·rw[avy c]at hy;exact h2 i y hy
  ·rw[avG ayT]at hy
   have:i-l.length=0:=by
    have:=(avl.1 hy).1
    simp at this;omega
   rw[this]at hy;simp at hy;subst hy;rw[show i=n by omega];exact hx
theorem CB{α β:Type}{R:α->β->Prop}:∀{xs:List α}{ys:List β},F2 R xs ys->xs.length=ys.length/\∀(j:Nat)(y:β),ys[j]? =some y->∃x,xs[j]? =some x/\R x y
 | _,_,.nil=>⟨U,λj y h=>ay4⟩
 | _,_,.cons h t=>by
  obtain⟨h1,h2⟩:=CB t;refine⟨aAw,λj y hj=>?_⟩;cases j with
  | zero=>simp at hj;subst hj;exact⟨_,U,h⟩
  | succ j=>simpa using h2 j y azg
theorem mapM_cells{a:Addr}{cs:List Value}(h:w.cells? base a n=some cs):cs.length=n/\∀j,j<n->w.cell? (a.add j)=cs[j]? :=by
 unfold World.cells? at h;split at h
 ·refine⟨by simpa using mapM_some_length h,λj hj=>?_⟩
  have:=mapM_some_get h j j azT;exact this
 ·cases h
theorem gh.slice{P:Program}{t e:TypeId}{size:Nat}{X:Type}{enc:X->List DV}{wf:X->Prop}(ht:P.underlying t=some (.slice e))(h:gh P e X enc wf)(hc:P.cellsOf e=size)(hs:∀v,(enc v).length=size)(hpos:Nat.blt 0 size=true)(hby:Nat.blt 0 (P.bytesOf e)=true):
  gh P t (List X) (λl=>[.sl size (l.map enc)]) (λl=>l.length<=reachBytes/\∀x,x∈l->wf x):=by
 intro H en w base sp held fuel cs x hx hz;rcases DataW.trod_slice ht hx with⟨rfl,_⟩ | ⟨a,len,cap,elems,rest,n,_,rfl,rfl,hb,hl,hm,hlen,hel,_,_⟩
 ·exact⟨[],⟨av5 _,λx h=>ay4⟩,.cons (RD.nil none 0 size<|av5 _) .nil⟩
 ·have hpos:0<size:=by simpa using hpos
  have hby:0<P.bytesOf e:=by simpa using hby
  simp only[DataW.weights,ht,ayO,List.all_append,avA,awe,avN]at hz;obtain⟨hz1,Ku,_⟩:=hz;have hlr:len<=reachBytes:=by
   refine awa ?_ hz1;have:elems.length+rest.length<=(elems.length+rest.length)*P.bytesOf e:=Nat.le_mul_of_pos_right _ hby;omega
  have key:∀i,i<len->∃v:X,wf v/\∃csi,w.cells? base (a.add<|i*size) size=some csi/\F2 (RD (λ_ _=>False) w) csi (enc v):=by
   intro i hi;have h1:=hel i hi;rw[hc]at h1;have h2:elems[i]? =some elems[i]:=by simp[hlen,hi]
   rw[h2]at h1;obtain⟨csi,h3,h4⟩:=avQ.1 h1;obtain⟨v,h5,h6⟩:=h H en w base sp held n csi _ h4 (Dn Ku _<|List.mem_map_of_mem<|avu _);exact⟨v,h5,csi,h3,h6⟩
  obtain⟨l,Wx,hlp⟩:=Q8 len _ key;refine⟨l,⟨by rw[Wx];exact hlr,λx hx=>?_⟩,.cons ?_ .nil⟩
  ·obtain⟨i,hi,rfl⟩:=avO hx
   exact(hlp i l[i]<|by simp[hi]).1
  ·have hmem:∀i x,l[i]? =some x->∀j d,(enc x)[j]? =some d->∃u,w.cell? ((a.add<|i*size).add j)=some u/\RD (λ_ _=>False) w u d:=by
    intro i x hi j d hj;obtain⟨_,csi,h3,h6⟩:=hlp i x hi;obtain⟨h7,h8⟩:=mapM_cells h3;obtain⟨u,h9,h10⟩:=(CB h6).2 j d hj
    have:j<size:=by rw[<-hs x];exact(avl.1 hj).1
    exact⟨u,by rw[h8 j this];exact h9,h10⟩
   have hspot:l≠[]->a=⟨a.block,a.off,none⟩:=by
    intro hne;obtain⟨x,hx⟩:∃x,l[0]? =some x:=⟨l[0]'(axD.2 hne),by simp[axD.2 hne]⟩;obtain⟨u,h9,_⟩:=hmem 0 x hx 0 ((enc x)[0]'(by rw[hs];exact hpos)) (by simp[hs,hpos]);have e1:(a.add<|0*size).add 0=a:=by simp[Addr.add]
    rw[e1]at h9;obtain⟨b,o,s⟩:=a;cases s with
    | none=>rfl
    | some s=>simp only[World.cell?]at h9;split at h9<;>simp at h9
   have hlm:(l.map enc).length=len:=by simp[Wx]
   rw[<-hlm];refine RD.sl (some a) cap size (l.map enc) (λi j=>(w.cell? ⟨a.block,a.off+(i*size+j),none⟩).getD undef) a.block a.off ayT hm (λhne=>by rw[hspot (by simpa using hne)]) (λcs hcs=>?_) (λi cs j d hi hj=>?_) (λi cs j d hi hj=>?_)
   ·obtain⟨x,_,rfl⟩:=avT.1 hcs;exact hs x
   all_goals
    rw[avL,awd]at hi;obtain⟨x,hx,rfl⟩:=hi;obtain⟨u,h9,h10⟩:=hmem i x hx j d hj;have hne:l≠[]:=λc=>by rw[c]at hx;simp at hx
    have e1:(a.add<|i*size).add j=⟨a.block,a.off+(i*size+j),none⟩:=by
     have:=hspot hne;rw[this,awr,awr];simp[axp]
    rw[e1]at h9
   ·exact⟨by simp[h9],id⟩
   ·simpa[h9]using h10
def nc(P:Program)(fs:List Field)(off:Nat)(X:Type)(enc:X->List DV)(wf:X->Prop):Prop:=
 ∀(H:Type)(e:TypeId×Value->H)(w:World)(base:Nat)(sp:Nat->Bool)(held:Bool)(fuel:Nat)(cs:List Value),
  (∀f,f∈fs->∃x,DataW.trod e P w base sp held fuel f.type ((cs.drop f.offset).take<|P.cellsOf f.type)=some x/\(x.1.weights P f.type).all (·<=reachBytes)=true)->cs.length=off+(fs.map λf=>P.cellsOf f.type).sum->
  ∃v:X,wf v/\F2 (RD (λ_ _=>False) w) (cs.drop off) (enc v)
theorem nc.nil{P:Program}{off:Nat}:nc P [] off Unit (λ_=>[]) (λ_=>True):=by
 intro H e w base sp held fuel cs _ hl;refine⟨(),ayS,?_⟩;rw[awo (by simp at hl;omega)];exact .nil
theorem Kj{β:Type}{R:α->β->Prop}{xs xs':List α}{ys ys':List β}(h:F2 R xs ys)(h':F2 R xs' ys'):F2 R (xs++xs') (ys++ys'):=by
 induction h with
 | nil=>exact h'
 | cons a b ih=>exact .cons a ih
theorem nc.cons{f:Field}{fs:List Field}{A B:Type}{akd:A->List DV}{ake:B->List DV}{wfA:A->Prop}{wfB:B->Prop}
  (ha:gh P f.type A akd wfA) (hb:nc P fs off' B ake wfB) (ho:f.offset=off) (hc:P.cellsOf f.type=size) (ho':off+size=off'):
  nc P (f::fs) off (A×B) (λx=>akd x.1++ake x.2) (λx=>wfA x.1/\wfB x.2):=by
 subst ho hc ho';intro H e w base sp held fuel cs hall hl;obtain⟨x,hx,hxz⟩:=hall f ayW;obtain⟨v,h1,h2⟩:=ha H e w base sp held fuel _ x hx hxz;obtain⟨u,h3,h4⟩:=hb H e w base sp held fuel cs (λg hg=>hall g<|by simp[hg]) (by rw[hl,avV,awZ];omega);refine⟨(v,u),⟨h1,h3⟩,?_⟩;have:cs.drop f.offset=(cs.drop f.offset).take (P.cellsOf f.type)++cs.drop (f.offset+P.cellsOf f.type):=by
  rw[<-awV];exact(axM _ _).symm
 rw[this];exact Kj h2 h4
theorem gh.struct{P:Program}{t:TypeId}{fs:Array Field}{X Y:Type}{akf:X->List DV}{akg:Y->List DV}{wf:X->Prop}(ht:P.underlying t=some (.struct fs))(h:nc P fs.toList 0 X akf wf)
  (hc:P.cellsOf t=(fs.toList.map λf=>P.cellsOf f.type).sum) (g:X->Y) (wfY:Y->Prop) (hg:∀x,akg (g x)=akf x) (hw:∀x,wf x->wfY (g x)):gh P t Y akg wfY:=by
 intro H e w base sp held fuel cs x hx hz;obtain⟨xs,n,rfl,rfl,hlen,hxl,hf⟩:=DataW.trod_struct ht hx;simp only[DataW.weights,ht]at hz;obtain⟨v,h1,h2⟩:=h H e w base sp held n cs (λf hm=>by
  obtain⟨i,hi,rfl⟩:=avO hm;have hi':i<fs.size:=by simpa using hi
  have:=hf i fs[i] (by simp[hi']);refine⟨xs[i]' ayT,?_,?_⟩
  ·rw[Array.getElem_toList,this]
   simp[hxl,hi']
  ·exact nQ hz i _ _ (by simp[hi']) (by simp[hxl,hi'])) (by rw[hlen,hc];omega)
 exact⟨g v,hw v h1,by rw[hg];simpa using h2⟩
theorem F2.aps{β:Type}{R:α->β->Prop}{x:α}{y:β}(h:F2 R [x] [y]):R x y:=by
 cases h;assumption
section
variable{H:Type}{e:TypeId×Value->H}{b0:Nat}{r:Reach}{sp:Nat->Bool}{held:Bool}{d:DataW H}{ps:List MemPlace}{t:TypeId}
theorem gh.aam{el:Nat}{X:Type}{dv:X->DV}{wf:X->Prop}(h:gh P t X (λx=>[dv x]) wf)(ht:P.underlying t=some (.slice el))
  (hv:Value.okWide P w r b0 t v) (hd:DataW.Trod e P w base sp held t v d ps) (hz:(d.weights P t).all (·<=reachBytes)=true):∃x:X,wf x/\Ai P (λ_ _=>False) (λ_=>False) w (.g<|.d<|dv x) v:=by
 obtain⟨_,_,_,rfl⟩:=okWide_slice ht hv;obtain⟨fuel,hf⟩:=hd;obtain⟨x,h1,h2⟩:=h H e w base sp held fuel _ _ hf hz;exact⟨x,h1,RD.less (λ_ _ c=>c.elim id id) (show RD _ _ _ _ from F2.aps h2)⟩
theorem gh.Xz{X:Type}{enc:X->List DV}{wf:X->Prop}(h:gh P t X enc wf)(ht:P.underlying t=some (.struct fs))
  (hv:Value.okWide P w r b0 t v) (hd:DataW.Trod e P w base sp held t v d ps) (hz:(d.weights P t).all (·<=reachBytes)=true):∃x:X,wf x/\Ai P (λ_ _=>False) (λ_=>False) w (.g<|.agg<|enc x) v:=by
 obtain⟨us,rfl,_⟩:=okWide_struct ht hv;obtain⟨fuel,hf⟩:=hd;obtain⟨x,h1,h2⟩:=h H e w base sp held fuel _ _ hf hz;have h3:=CB h2;refine⟨x,h1,us,U,by simpa[Value.cells]using h3.1,λj d hj=>?_⟩;obtain⟨u,h4,h5⟩:=h3.2 j d hj;exact⟨u,by simpa[Value.cells]using h4,h5.less λ_ _ c=>c.elim id id⟩
end
theorem args1{g0:RG}{v0:Value}(h0:Ai P M K w g0 v0):
  ∀(i:Nat)(g:RG)(v:Value),[g0][i]? =some g->[v0][i]? =some v->Ai P M K w g v:=by
 intro i g v hg hv
 match i with
 | 0=>simp at hg hv;subst hg hv;exact h0
 | i+1=>simp at hg
theorem ajX{g0:RG}{v0:Value}{gs:List RG}(h0:Ai P M K w g0 v0)
  (h:∀(i:Nat)(g:RG)(v:Value),gs[i]? =some g->vs[i]? =some v->Ai P M K w g v):
  ∀(i:Nat)(g:RG)(v:Value),(g0::gs)[i]? =some g->(v0::vs)[i]? =some v->Ai P M K w g v:=by
 intro i g v hg hv
 match i with
 | 0=>simp at hg hv;subst hg hv;exact h0
 | i+1=>exact h i g v azz azy
theorem Yx{f:FuncId}{s:ChangeSpec}{c:OpenClaim}
  (k1:(c.wf<|OpenSpec.ofChange s)=true)
  (k2:(laidOutB P)=true)
  (k3:(mapsRowed P)=true)
  (k4:(fn.params.all (P.readableRec ·))=true)
  (k5:(namedTie P c.named s.vars)=true)
  (k6:((c.stops== []))=true)
  (k7:((P.stops== []))=true)
  (k8:((c.knobs== []))=true)
  (k9:((P.stopKnobs== []))=true)
  (k10:((c.inPlace==P.inPlace f))=true)
  (k11:((c.unfollowed==P.unfollowed f))=true)
  (k12:((c.recurses==P.recurses f))=true)
  (k13:((c.named==P.varsNamed f))=true)
  (k14:((c.maps==(fn.params.toList++s.plain.varTypes P).any (P.mapsRec ·)))=true)
  (k15:((c.ifaces==(fn.params.toList++s.plain.varTypes P).any (P.ifacesRec ·)))=true)
  (k16:((c.mapsOut==P.mapsAmong fn.resultTypes.toList))=true)
  (k17:((c.loops==(fn.params.toList++s.plain.varTypes P).any (P.loopsFrom ·)))=true)
  (k18:((c.wideKeys==(fn.params.toList++s.plain.varTypes P++fn.resultTypes.toList).any (P.wideKeysFrom ·)))=true)
  (k19:(s.vars.all (P.varReadable ·))=true)
  (k20:(fn.resultTypes.all λt=>P.readableRec t&&decide (t<P.types.size))=true)
  (k21:((c.ifacesOut==fn.resultTypes.toList.any (P.ifacesRec ·)))=true)
  (k22:((c.loopsOut==fn.resultTypes.toList.any (P.loopsFrom ·)))=true)
  (k23:((c.plainKeys==P.plainKeys))=true)
  (k24:(c.shortTexts.isNone)=true)
  (k25:(P.stopsHeard)=true)
  (k26:(P.mayEnter)=true)
  (k27:((c.lifted==P.liftsFinal))=true)
  (k28:((P.make==some c.make))=true)
  (k29:((c.kinds==(if c.domain.isEmpty then[]else fn.params.toList.map λt=>match P.underlying t with | some (.int k)=>some k | _=>none)))=true)
  (k30:((c.pinned==c.pinnedBy))=true)
  (k31:((c.veiled==(fn.params.toList++s.plain.varTypes P++fn.resultTypes.toList).any (P.veiledRec ·)))=true)
  (k32:(c.veiledFits P fn.params.toList<|fn.params.toList++s.plain.varTypes P++fn.resultTypes.toList)=true):joinedFacts P f fn s c=true:=by
 simp only[joinedFacts,avA];exact⟨⟨⟨⟨⟨⟨⟨⟨⟨⟨⟨⟨⟨⟨⟨⟨⟨⟨⟨⟨⟨⟨⟨⟨⟨⟨⟨⟨⟨⟨⟨k1,k2⟩,k3⟩,k4⟩,k5⟩,k6⟩,k7⟩,k8⟩,k9⟩,k10⟩,k11⟩,k12⟩,k13⟩,k14⟩,k15⟩,k16⟩,k17⟩,k18⟩,k19⟩,k20⟩,k21⟩,k22⟩,k23⟩,k24⟩,k25⟩,k26⟩,k27⟩,k28⟩,k29⟩,k30⟩,k31⟩,k32⟩
section
theorem acv(ht:P.underlying T=some .string)(hx:Ev x (bS s) R)(hd:Nat.blt dst nt=true)(Hj:Nat.blt 0 k=true:=by rfl):
  dJ C (Oo dst (.range T x) ty pos af gd) R [(k,none)] [(dst,.one (.ptr k 0))] [(k,some (.it s 0))]:=by
 refine⟨λsl hp hs hh a w K Q⟨β,r⟩ hK=>?_⟩;have hv:=BR.aX (hx.ok hs r);unfold Oper.wp;have:(execOp a.eval<|Oo dst (.range T x) ty pos af gd).run P w= .ok (.value<|.pointer<|some ⟨w.heap.size,0,none⟩) (w.alloc<|.stringIter s 0):=by
  simp[execOp,hv,Instr.range,avm ht,newObj,Sem.run,Result.andThen]
 rw[this];have h:=(r.new (e:=.it s 0) (bo:=some w.heap.size) hh.1 Hj (dM w<|.stringIter s 0) (λb hb=>azY) λ_ _=>
  ⟨w.heap.size,azr,awB w _⟩).1
 exact hK _ _ ⟨_,h.put (avU _ _) ay1 ⟨⟨.it s 0,azp,U⟩,w.heap.size,azr,U⟩⟩
theorem acs{p:Nat}(Pe:decide (p<s.size)=false)(hx:Ev x (.ptr k 0) R)(hd:Nat.blt dst nt=true):
  dJ C (Oo dst (.next x true) ty pos af gd) R [(k,some (.it s p))] [(dst,.eV [bB false])] []:=
 bu hd U λsl hp β a w hs hh r=>by
  obtain⟨_,b,hb,hu⟩:=hx.ok hs r;obtain⟨b',hb',hheap⟩:=r.hp k _ hh.1;rw[hb]at hb';cases hb';have hn:¬p<s.size:=of_decide_eq_false Pe;refine⟨.tuple #[.bool false],?_,⟨#[.bool false],U,U,λi c hi=>?_⟩⟩
  ·have hg:(getObj b).run P w= .ok (.stringIter s p) w:=by simp[getObj,Sem.run,hheap]
   simp[execOp,hu,Instr.next,hg,hn]
  ·cases i with
   | zero=>simp at hi;subst hi;exact⟨_,U,RD.v _ U⟩
   | succ i=>simp at hi
theorem acu{p:Nat}(Pe:decide (p<s.size)=true)(hx:Ev x (.ptr k 0) R)(hd:Nat.blt dst nt=true):
  dJ C (Oo dst (.next x true) ty pos af gd) R [(k,some (.it s p))] [(dst,.eV [bB true,bI .i64 (p:Int),bI .i32 ((Utf8.decode s p).1:Int)])] [(k,some (.it s<|p+(Utf8.decode s p).2))]:=by
 refine⟨λsl hp hs hh a w K Q⟨β,r⟩ hK=>?_⟩;obtain⟨_,b,hb,hu⟩:=hx.ok hs r;obtain⟨b',hb',hheap⟩:=r.hp k _ hh.1;rw[hb]at hb';cases hb';have hn:p<s.size:=awf Pe;generalize hw1:({ w with heap:=w.heap.setIfInBounds b (.stringIter s<|p+(Utf8.decode s p).2) }:World)=w1;have hbl:b<w.heap.size:=(avo.1 hheap).1
 have hnew:w1.heap[b]? =some (.stringIter s<|p+(Utf8.decode s p).2):=by rw[<-hw1];simp[hbl]
 have kJ:∀i,i≠b->w1.heap[i]? =w.heap[i]? :=λi hi=>aAZ;have hsize:w1.heap.size=w.heap.size:=by rw[<-hw1];simp
 unfold Oper.wp;have:(execOp a.eval<|Oo dst (.next x true) ty pos af gd).run P w= .ok (.value<|.tuple #[.bool true,.int .i64 (p:Int),.int .i32 ((Utf8.decode s p).1:Int)]) w1:=by
  have hg:(getObj b).run P w= .ok (.stringIter s p) w:=by simp[getObj,Sem.run,hheap]
  have hst:(setObj b<|.stringIter s<|p+(Utf8.decode s p).2).run P w= .ok () w1:=by rw[<-hw1];simp only[setObj,Sem.run,hheap]
  simp[execOp,hu,Instr.next,hg,hn,hst,goInt]
 rw[this];have h:=(r.chg (e:=.it s<|p+(Utf8.decode s p).2) (bo:=β k) (w1:=w1) hh.1 aAt aAt aAt ayT (λi _ hi=>kJ i λc=>hi<|by rw[c,hb]) (λ_ _ _ _ _ c=>absurd ayS c)
  (.inl ⟨U,λ_ h=>h⟩) ⟨U,λ_=>rfl⟩ (λB5 u h=>by obtain⟨_,_,_,_,h1,_⟩:=h;rw[hh.1]at h1;cases h1) (λ_ _=>⟨b,azv,hnew⟩)).1
 refine hK _ _ ⟨_,h.put (avU _ _) ay1 ⟨#[.bool true,.int .i64 (p:Int),.int .i32 ((Utf8.decode s p).1:Int)],U,U,λi c hi=>?_⟩⟩
 match i with
 | 0=>simp at hi;subst hi;exact⟨_,U,RD.v _ U⟩
 | 1=>simp at hi;subst hi;exact⟨_,U,RD.v _ U⟩
 | 2=>simp at hi;subst hi;exact⟨_,U,RD.v _ U⟩
 | i+3=>simp at hi
theorem dJ.view(h:dJ C o Rs Rh [(dst,.one (.own k es))] [(k,some (.row T size es false))]):
  dJ C o Rs Rh [(dst,.one (.g<|.d<|.sl size es))] [(k,some (.row T size es false))]:=
 ⟨λsl hp hs hh a w K Q r hK=>h.go sl hp hs hh a w K Q r λa' w'⟨β,q⟩=>hK a' w' ⟨β,q.keep,q.low,q.inj,q.own,q.hp,λt sv Tg=>by
  have hk:aE ((k,some (.row T size es false))::hp) k=some (.row T size es false):=by rw[aG,avk U]
  simp only[av4,avX,eX]at Tg;by_cases c:dst=t
  ·rw[avk c]at Tg
   cases Tg;have h1:SR C _ β w' (.one<|.own k es) (a'.tmps.getD t undef):=q.sl t _ (by simp only[av4,avX,eX];rw[avk c]);exact K2 q hk h1 (λ_ _ h=>h) (λb o hb ho hm=>by
    rcases hm with hM | ⟨k1,e1,h1,h2,h3⟩
    ·obtain⟨h4,h5⟩:=q.low b o hM
     rcases(q.own k _ b hk hb).1 with h6 | h6
     ·omega
     ·exact h5 h6
    ·obtain rfl:=q.inj k1 k e1 _ b h1 hk h2 hb
     have h1:aE ((k1,some (.row T size es false))::hp) k1=some e1:=h1;rw[hk]at h1;cases h1;simp only[HE.xK,avn,false_or]at h3;omega)
  ·rw[avj c]at Tg
   exact q.sl t sv (by simp only[av4,avX,eX];rw[avj c];exact Tg),q.size,q.df,q.fx⟩⟩
variable{k:List KI}
end
def Ol{α:Type}(n:Nat)(l:List α)(i:Int):Option α:=if 0<=i/\i<n then l[i.toNat]? else none
theorem Om{x:α}(h:Ol n l i=some x):0<=i/\i<n/\l[i.toNat]? =some x:=by
 unfold Ol at h;split at h
 ·rename_i c;exact⟨c.1,c.2,h⟩
 ·cases h
theorem Js{β:Type}{f:α->List β}(hs:∀x,(f x).length=size){i:Nat}{x:α}(h:l[i]? =some x):((l.flatMap f).drop (i*size)).take size=f x:=by
 induction l generalizing i with
 | nil=>simp at h
 | cons a l ih=>
  rw[awJ];cases i with
  | zero=>simp at h;subst h;simp[<-hs a]
  | succ i=>
   have h:l[i]? =some x:=by simpa using h
   rw[awy,Nat.add_comm,List.drop_append,hs,awo (by rw[hs];omega),Nat.add_sub_cancel_left];exact ih h
section
theorem NP(hT:P.underlying T=some (.array n E))(hI:Info P E zz size bytes)(h0:0<=i)(hi:i<n)(hx:Ev x (.ptr k 0) R1)(hy:Ev y (bI kd i) R2)(hd:Nat.blt dst nt=true):
  dJ C (Oo dst (.indexAddr T x y) ty pos af gd) (R1++R2) [] [(dst,.one (.ptr k<|i.toNat*size))] []:=
 bu hd U λsl hp β a w hs _ r=>by
  obtain⟨he',b,hb,hu⟩:=hx.ok hs.app.1 r;have h2:=BR.aX (hy.ok hs.app.2 r);refine⟨.pointer<|some ⟨b,i.toNat*size,none⟩,?_,he',b,hb,U⟩;simp[execOp,hu,h2,Instr.indexAt,asIntOf,avm hT,Instr.sureAddr,h0,hi,hI.sizeOf,awr]
end
theorem adY{x:α}{enc:α->List DV}{d:DV}(h:Ol n l i=some x)(hs:∀x,(enc x).length=1)(hd:enc x= [d]):(dat (l.flatMap enc))[i.toNat*1]? =some (.g (.d d)):=by
 have h1:=Js hs (Om h).2.2
 rw[hd]at h1;have h2:(((l.flatMap enc).drop<|i.toNat*1).take 1)[0]? =some d:=by rw[h1];rfl
 rw[awv,avk ayZ,awm,awE]at h2;simp only[dat,avL,h2,awq]
theorem toList_inj{a b:ByteArray}:a.toList=b.toList↔a=b:=by
 constructor
 ·intro h
  have h1:(a.data==b.data)=(a.toList==b.toList):=beq_toListBytes a b;rw[h,beq_self_eq_true]at h1;have h2:=eq_of_beq h1;cases a;cases b;simp_all
 ·intro h;rw[h]
theorem sx(w:World)(dT sT ty elem:TypeId)(b o dLen dCap:Nat)(a:Addr)(sLen sCap z k:Nat)(cs:List Value)
  (hu:P.underlying dT=some (.slice elem)) (hs:(P.info? elem).map (·.size)=some z) (hk:k=Nat.min sLen dLen) (hn:cs.length=k*z)
  (hsrc:∀j v,cs[j]? =some v->w.cell? (a.add j)=some v) (hc:∀j,j<cs.length->(w.cell? ⟨b,o+j,none⟩).isSome=true) (hf:∀j,j<cs.length->w.frozen? ⟨b,o+j,none⟩=false) (h1:∀v∈cs,v.oneCell'=true):
  (Builtin.copy_ #[dT,sT] ty #[.slice (some ⟨b,o,none⟩) dLen dCap,.slice (some a) sLen sCap]).run P w= .ok (goInt k) (w.setCells b o cs):=by
 have hl:=run_loadCells_list (P:=P) w a cs hsrc;have hst:=run_storeCells_cells (P:=P) b o cs 0 w (by simpa using hc) (by simpa using hf) h1;cases hq:P.info? elem with
 | none=>simp[hq]at hs
 | some i=>
  have hi:i.size=z:=by simpa[hq]using hs
  simp[Builtin.copy_,avm hu,Builtin.lenOf,Builtin.firstCells,sizeOf,typeInfo,hq,hi,<-hk,<-hn,hl,hst]
theorem Fz(w:World)(tS tR e:TypeId)(ht:P.underlying tS=some (.slice e))(size:Nat)(hz:∀w,(Go.sizeOf e).run P w= .ok size w)
  (a b:Addr) (la ca lb cb:Nat) (hne:a.block≠b.block) (tA tB:TypeId) (kA kB:Nat)
  (hsa:w.shape? a.block=some (tA,kA)) (hsb:w.shape? b.block=some (tB,kB)) (hkA:kA≠0) (hkB:kB≠0)
  (hfb:w.frozen? b=false) (hfe:w.frozen? { block:=b.block,off:=kB } =false):
  (Extern.SlicesOverlaps.overlaps #[tS,tS] #[tR] #[.slice (some a) la ca,.slice (some b) lb cb]).run P w= .ok (.bool false) w:=by
 have hnb:(a.block !=b.block)=true:=by simpa using hne
 have an4:(a.block==b.block)=false:=by simpa using hne
 change Sem.run P (α:=Value) (do
  let some t:=(#[tS,tS]:Array TypeId)[0]? | stuck "slices.overlaps: no parameter types"
  let .slice elem <-underlying t | stuck "slices.overlaps: slice type expected"
  let size <-sizeOf elem
  match(some a:Option Addr),(some b:Option Addr)with
  | some a,some b=>
   if la=0\/lb=0\/size=0 then pure (Value.bool false)
   else if a.block !=b.block&&(<-frozen a)&&(<-frozen b)then unsupported .addressObserved
   else do
    if a.block !=b.block then do
     noView a;noView b
     if <-mayBeOne a b then return Value.bool ((<-choose (.extern "sameAddr.stringBytes" 2))==1)
    pure (Value.bool<|a.block==b.block&&a.off<b.off+lb*size&&b.off<a.off+la*size)
  | _,_=>pure (Value.bool false)) w=_
 by_cases h0:la=0\/lb=0\/size=0
 ·simp[avm ht,hz,h0]
 ·cases kB with
  | zero=>exact absurd U hkB
  | succ kB=>
  cases kA with
  | zero=>exact absurd U hkA
  | succ kA=>
   cases hfa:w.frozen? a<;>cases anR:w.frozen? { block:=a.block,off:=kA+1 }<;>
    simp[avm ht,hz,h0,hnb,an4,frozen,noView,viewAt,mayBeOne,stringish,shape,Sem.run,hsa,hsb,hfa,anR,hfb,hfe]
theorem gD(b:Nat):∀(vs:List Value)(o:Nat)(w:World),(w.setCells b o vs).os=w.os/\(w.setCells b o vs).tape=w.tape/\(w.setCells b o vs).output=w.output/\(w.setCells b o vs).heap.size=w.heap.size/\∀k,k≠b->(w.setCells b o vs).heap[k]? =w.heap[k]?
 | [],_,_=>⟨U,U,U,U,λ_ _=>rfl⟩
 | v::vs,o,w=>by
  obtain⟨h1,h2,h3,h4,h5⟩:=gD b vs (o+1) (w.setCell ⟨b,o,none⟩ v);refine⟨h1,h2,h3,by rw[World.setCells,h4];simp[World.setCell],λk hk=>?_⟩;rw[World.setCells,h5 k hk];simp only[World.setCell,awW];rw[avj (λc=>hk c.symm)]
theorem iR(b T:Nat)(fz:Nat×Nat):∀(vs:List Value)(o:Nat)(w:World)(cur:Array Value),w.heap[b]? =some (.cells cur T fz)->o+vs.length<=cur.size->
  ∃cur',(w.setCells b o vs).heap[b]? =some (.cells cur' T fz)/\cur'.size=cur.size/\∀j,cur'[j]? =if o<=j/\j<o+vs.length then vs[j-o]? else cur[j]?
 | [],o,w,cur,h,_=>⟨cur,h,U,λj=>by rw[avj ayW]⟩
 | v::vs,o,w,cur,h,hl=>by
  simp only[avv]at hl;have h1:(w.setCell ⟨b,o,none⟩ v).heap[b]? =some (.cells (cur.setIfInBounds o v) T fz):=by
   simp only[World.setCell,awW,avM,h,awq];rfl
  obtain⟨cur',h2,h3,h4⟩:=iR b T fz vs (o+1) (w.setCell ⟨b,o,none⟩ v) (cur.setIfInBounds o v) h1 ayV;refine⟨cur',h2,by rw[h3];simp,λj=>?_⟩;rw[h4];simp only[avv];by_cases c:o+1<=j/\j<o+1+vs.length
  ·rw[avk c,avk ayT,show j-o=(j-(o+1))+1 by omega,ayJ]
  ·rw[avj c]
   by_cases c2:j=o
   ·subst c2
    rw[avk ayT,azk,awF,avk rfl,avk ayT];rfl
   ·rw[avj ayT,awF,avj (λc=>c2 c.symm)]
structure zh(E z:Nat)(own:Option Nat)(m:Nat)(xs:List Value)(w w':World)(v:Value):Prop where
 os:w'.os=w.os
 tape:w'.tape=w.tape
 output:w'.output=w.output
 size:w.heap.size<=w'.heap.size
 block:∀k,k<w.heap.size->own≠some k->w'.heap[k]? =w.heap[k]?
 row:∃(b cap:Nat)(cur:Array Value),v= .slice (some ⟨b,0,none⟩) m cap/\m<=cap/\cap<=maxLen/\(own=some b\/w.heap.size<=b)/\b<w'.heap.size/\w'.heap[b]? =some (.cells cur E (0,0))/\cur.size=cap*z/\∀(j:Nat)(u:Value),xs[j]? =some u->cur[j]? =some u
structure agN(z:Nat)(w:World)(b:Option Nat)(vb vo:Nat)(vs:List Value):Prop where
 len:vs.length=z
 cell:∀(j:Nat)(v:Value),vs[j]? =some v->w.cell? ⟨vb,vo+j,none⟩=some v
 one:∀v∈vs,v.oneCell'=true
 apart:b≠some vb
 shape:∃t k,w.shape? vb=some (t,k)/\k≠0
theorem kj{b:Nat}{fz:Nat×Nat}(h:w.heap[b]? =some (.cells cur T fz))(j:Nat):w.cell? ⟨b,j,none⟩=cur[j]? :=awM w b j cur T fz h
theorem MG{b o:Nat}{x:Value}(h:w.cell? ⟨b,o,none⟩=some x):∃t k,w.shape? b=some (t,k)/\k≠0:=by
 simp only[World.cell?]at h;unfold World.shape?;cases hq:w.heap[b]? with
 | none=>simp[hq]at h
 | some ob=>
  cases ob with
  | cells c t fz=>
   refine⟨t,c.size,U,λh0=>?_⟩;simp[hq]at h;have:=(avo.1 h).1
   omega
  | _=>simp[hq]at h
theorem XJ{z:Nat}{x:List DV}{i:Nat}(hi:i<=es.length)(hx:x.length=z)
  (hnil:es= []->∀(w:World)(a:Option Addr)(vb vo vc:Nat)(vs:List Value),agN z w none vb vo vs->
   Calls P f #[.slice a 0 0,.int .i64 (i:Int),.slice (some ⟨vb,vo,none⟩) 1 vc] w λe w'=>∃v,e= .returned v/\zh E z none 1 vs w w' v)
  (hrow:∀(w:World)(b c:Nat)(cur:Array Value)(vb vo vc:Nat)(vs:List Value),w.heap[b]? =some (.cells cur E (0,0))->cur.size=c*z->es.length<=c->c<=maxLen->(∀(j:Nat)(v:Value),j<es.length*z->cur[j]? =some v->v.oneCell'=true)->agN z w (some b) vb vo vs->
   Calls P f #[.slice (some ⟨b,0,none⟩) es.length c,.int .i64 (i:Int),.slice (some ⟨vb,vo,none⟩) 1 vc] w λe w'=>∃v,e= .returned v/\zh E z (some b) (es.length+1) ((cur.toList.take (es.length*z)).take (i*z)++(vs++(cur.toList.take (es.length*z)).drop (i*z))) w w' v):
  Ct P f [.row E z es,.g (.d<|.v<|.int .i64 (i:Int)),.g (.d<|.sl z [x])] (.new E z<|es.take i++([x] ++es.drop i)):=by
 refine⟨λM K w vs hM hK hl hargs=>?_⟩;obtain⟨u0,u1,u2,rfl⟩:∃a b c,vs= [a,b,c]:=by
  match vs,hl with
  | [a,b,c],_=>exact⟨a,b,c,U⟩
 obtain⟨hz,hsz,hr0⟩:=hargs 0 _ u0 U U;have h1:u1= .int .i64 (i:Int):=RD.aX (hargs 1 _ u1 U U)
 have h2:RD (λb o=>M b o\/K b) w u2 (.sl z [x]):=hargs 2 _ u2 U U;subst h1;generalize anP:([x]:List (List DV))=Td at h2;generalize hdv:DV.sl z Td=dv at h2;cases h2 with
 | v=>cases hdv
 | sl a cap size es2 vals vb vo hc hm ha hs hv hr=>
  cases hdv;subst anP;obtain rfl:=ha ayW;have hvz:∀j,j<z->w.cell? ⟨vb,vo+j,none⟩=some (vals 0 j)/\¬(M vb (vo+j)\/K vb):=λj hj=>by
   have:=hv 0 x j x[j] U (by simp[hx,hj]);simpa using this
  have hrz:∀j d,x[j]? =some d->RD (λb o=>M b o\/K b) w (vals 0 j) d:=λj d hd=>hr 0 x j d U hd;have hKv:¬K vb:=λc=>(hvz 0 hz).2 (.inr c)
  have hV:∀ob:Option Nat,ob≠some vb->agN z w ob vb vo ((List.range z).map<|vals 0):=λob hob=>by
   refine⟨ayW,λj v hj=>?_,λv hv=>?_,hob,MG (hvz 0 hz).1⟩
   ·have hjz:j<z:=by
     have:=(avl.1 hj).1
     simpa using this
    rw[avL,List.getElem?_range hjz]at hj;simp at hj;subst hj;exact(hvz j hjz).1
   ·obtain⟨j,hj,rfl⟩:=avT.1 hv
    have hjz:j<z:=by simpa using hj
    exact(hrz j x[j]<|by simp).one
  have fin:∀(own:Option Nat)(xs:List Value)(w':World)(v:Value)(mm:Nat),mm=es.length+1->(∀b,own=some b->K b)->zh E z own mm xs w w' v->
    (∀(q:Nat)(cs:List DV)(j:Nat)(d:DV),(es.take i++([x] ++es.drop i))[q]? =some cs->cs[j]? =some d->∃u,xs[q*z+j]? =some u/\∃M0:Nat->Nat->Prop,RD M0 w u d/\(∀b o,¬M0 b o->¬M b o/\own≠some b))->
    cU K w w'/\QJ M K w w' (.new E z<|es.take i++([x] ++es.drop i)) v:=by
   intro own xs w' v mm ZY hown hI akW;obtain⟨b,cap',cur',rfl,g1,g2,g3,g4,g5,g6,g7⟩:=hI.row;have hlen:(es.take i++([x] ++es.drop i)).length=mm:=by simp;omega
   refine⟨⟨hI.os,hI.tape,hI.output,hI.size,λk hk hnk=>hI.block k hk λc=>hnk<|hown k c⟩,hz,λcs hcs=>?_,.inr ⟨b,cap',cur',?_,g4,by rw[hlen],by rw[hlen];exact g1,g2,g5,g6,λq cs j d hq hj=>?_⟩⟩
   ·rcases List.mem_append.1 hcs with h | h
    ·exact hsz cs (axf h)
    ·rcases List.mem_append.1 h with h | h
     ·simp at h;subst h;exact hx
     ·exact hsz cs (aw0 h)
   ·rcases g3 with g3 | g3
    ·exact .inr (hown b g3)
    ·exact .inl g3
   ·obtain⟨u,hu,M0,hrd,hM0⟩:=akW q cs j d hq hj
    refine⟨u,g7 _ u hu,hrd.mono λb' o y hn hy=>?_⟩;obtain⟨UZ,hn2⟩:=hM0 b' o hn;have hlt:=cz hy;refine⟨?_,λc=>?_⟩
    ·have:=hI.block b' hlt hn2
     simp only[World.cell?]at hy ⊢;rw[this];exact hy
    ·rcases c with c | c
     ·exact UZ c
     ·subst c
      rcases g3 with g3 | g3
      ·exact hn2 g3
      ·omega
  rcases hr0 with⟨rfl,a0,rfl⟩ | ⟨b,c0,cur,hKb,hlt,rfl,hle,pR,hheap,hcs,hel⟩
  ·have hi0:i=0:=by simpa using hi
   refine(hnil U w a0 vb vo cap _<|hV none λc=>aBT).mono λe w'⟨v,he,hI⟩=>⟨v,he,fin none _ w' v 1 U (λ_ c=>aBT) hI λq cs j d hq hj=>?_⟩
   subst hi0;have hq0:q=0/\cs=x:=by
    cases q with
    | zero=>simpa using hq.symm
    | succ q=>simp at hq
   obtain⟨rfl,rfl⟩:=hq0;have hjz:j<cs.length:=(avl.1 hj).1
   rw[hx]at hjz;exact⟨vals 0 j,by rw[ayC,avS,avL,List.getElem?_range hjz];rfl,_,hrz j d hj,λb o hn=>⟨λc=>hn<|.inl c,λc=>aBT⟩⟩
  ·have hbv:some b≠some vb:=λc=>hKv azR
   have hone:∀j v,j<es.length*z->cur[j]? =some v->v.oneCell'=true:=λj v hj hv=>by
    have hq:j / z<es.length:=(Nat.div_lt_iff_lt_mul hz).2 hj
    have hmod:j % z<z:=ayG _ hz;have hl2:es[j / z].length=z:=hsz _ (avu hq)
    obtain⟨v',g1,g2⟩:=hel (j / z) es[j / z] (j % z) (es[j / z]'hq)[j % z] aAc (by simp[hl2,hmod]);rw[show j / z*z+j % z=j by rw[awR];exact ax6 j z,hv]at g1;cases g1;exact g2.one
   refine(hrow w b c0 cur vb vo cap _ hheap hcs hle pR hone<|hV (some b) hbv).mono λe w'⟨v,he,hI⟩=>⟨v,he,fin (some b) _ w' v (es.length+1) U (λb' c=>azR) hI λq cs j d hq hj=>?_⟩
   have hjl:j<cs.length:=(avl.1 hj).1
   have hbig:es.length*z<=cur.size:=by rw[hcs];exact avr _ hle
   have hiz:i*z<=es.length*z:=avr _ hi;have htl:((cur.toList.take<|es.length*z).take<|i*z).length=i*z:=by simp;omega
   have hvl:((List.range z).map<|vals 0).length=z:=by simp
   by_cases c1:q<i
   ·rw[avy ayV,avR c1]at hq
    have hcl:cs.length=z:=hsz _ (avH hq);obtain⟨u,g1,g2⟩:=hel q cs j d hq hj;have hpos:q*z+j<i*z:=by
     have:(q+1)*z<=i*z:=avr _ c1;rw[awy]at this;omega
    refine⟨u,?_,_,g2,λb' o hn=>⟨λc=>hn<|.inl c,λc=>hn<|.inr aAT⟩⟩;rw[avy (by rw[htl];exact hpos),avR hpos,avR ayT,awb];exact g1
   ·have hq':([x] ++es.drop i)[q-i]? =some cs:=by
     rw[avG ayV]at hq;simpa[ax8 hi]using hq
    by_cases c2:q=i
    ·subst c2
     rw[azk]at hq';have:x=cs:=by simpa using hq'
     subst this;rw[hx]at hjl;refine⟨vals 0 j,?_,_,hrz j d hj,λb' o hn=>⟨λc=>hn<|.inl c,λc=>hn<|.inr azR⟩⟩;rw[avG azQ,htl,show q*z+j-q*z=j by omega,avy (by rw[hvl];exact hjl),avL,List.getElem?_range hjl];rfl
    ·obtain⟨p,rfl⟩:∃p,q=p+1:=⟨q-1,ayT⟩
     rw[show p+1-i=(p-i)+1 by omega]at hq';have hq2:es[p]? =some cs:=by
      simp only[ayR,ayJ,awm]at hq';rwa [show i+(p-i)=p by omega]at hq'
     have hcl:cs.length=z:=hsz _ (avH hq2);obtain⟨u,g1,g2⟩:=hel p cs j d hq2 hj;have hpl:p<es.length:=(avl.1 hq2).1
     have hpz:(p+1)*z<=es.length*z:=avr _ hpl;have hip:i*z<=p*z:=avr _ ayT;rw[awy]at hpz;refine⟨u,?_,_,g2,λb' o hn=>⟨λc=>hn<|.inl c,λc=>hn<|.inr aAT⟩⟩;rw[avG (by rw[htl,awy];omega),htl,avG (by rw[hvl,awy];omega),hvl,awm,avR aAd,awb];rw[show i*z+((p+1)*z+j-i*z-z)=p*z+j by rw[awy];omega];exact g1
theorem zh.shift{z b c i:Nat}(hh:w.heap[b]? =some (.cells cur E (0,0)))(hc:cur.size=c*z)(hi:i<n)(hn:n+1<=c)(hm:c<=maxLen)(hv:vs.length=z):
  zh E z (some b) (n+1) ((cur.toList.take<|n*z).take (i*z)++(vs++(cur.toList.take<|n*z).drop (i*z))) w ((w.drew.setCells b ((i+1)*z)<|(cur.toList.take<|n*z).drop<|i*z).setCells b (i*z) vs) (.slice (some ⟨b,0,none⟩) (n+1) c):=by
 have hnz:(n+1)*z<=cur.size:=by rw[hc];exact avr _ hn
 have hiz:(i+1)*z<=n*z:=avr _ hi;rw[awy]at hnz hiz;have hdl:((cur.toList.take<|n*z).drop<|i*z).length=n*z-i*z:=by simp;omega
 obtain⟨c1,h1,h2,h3⟩:=iR b E (0,0) ((cur.toList.take<|n*z).drop<|i*z) ((i+1)*z) w.drew cur hh (by rw[hdl,awy];omega);obtain⟨c2,h4,h5,h6⟩:=iR b E (0,0) vs (i*z) _ c1 h1 (by rw[h2,hv];omega);obtain⟨a1,a2,a3,a4,a5⟩:=gD b ((cur.toList.take<|n*z).drop<|i*z) ((i+1)*z) w.drew;obtain⟨b1,b2,b3,b4,b5⟩:=gD b vs (i*z) (w.drew.setCells b ((i+1)*z)<|(cur.toList.take<|n*z).drop<|i*z);have hb:b<w.heap.size:=(avo.1 hh).1
 refine⟨b1.trans a1,b2.trans a2,b3.trans a3,by rw[b4,a4];exact avq _,λk _ hk=>?_,b,c,c2,U,hn,hm,.inl U,by rw[b4,a4];exact hb,h4,by rw[h5,h2,hc],λj u hj=>?_⟩
 ·have hkb:k≠b:=λe=>hk (by rw[e])
  rw[b5 k hkb,a5 k hkb];rfl
 ·rw[h6,hv]
  have htl:((cur.toList.take<|n*z).take<|i*z).length=i*z:=by simp;omega
  by_cases g1:j<i*z
  ·rw[avj ayT,h3,avj aAd]
   rw[avy aAm,avR g1,avR ayT,awb]at hj;exact hj
  ·rw[avG azQ,htl]at hj
   by_cases g2:j<i*z+z
   ·rw[avk ⟨ayT,g2⟩]
    rwa [avy azW]at hj
   ·rw[avj ayT,h3]
    rw[avG azW,hv]at hj;have hlt:=(avl.1 hj).1
    rw[hdl]at hlt;rw[avk (by rw[hdl,awy];omega),awy,show j-(i*z+z)=j-i*z-z by omega];exact hj
theorem zh.room{z b c:Nat}(hh:w.heap[b]? =some (.cells cur E (0,0)))(hc:cur.size=c*z)(hn:n+1<=c)(hm:c<=maxLen)(hv:vs.length=z):
  zh E z (some b) (n+1) ((cur.toList.take<|n*z).take (n*z)++(vs++(cur.toList.take<|n*z).drop (n*z))) w (w.setCells b (n*z) vs) (.slice (some ⟨b,0,none⟩) (n+1) c):=by
 have hnz:(n+1)*z<=cur.size:=by rw[hc];exact avr _ hn
 rw[awy]at hnz;obtain⟨c1,h1,h2,h3⟩:=iR b E (0,0) vs (n*z) w cur hh azW;obtain⟨a1,a2,a3,a4,a5⟩:=gD b vs (n*z) w;have hb:b<w.heap.size:=(avo.1 hh).1
 have htl:(cur.toList.take<|n*z).length=n*z:=by simp;omega
 refine⟨a1,a2,a3,by rw[a4];exact avq _,λk _ hk=>a5 k λe=>hk<|by rw[e],b,c,c1,U,hn,hm,.inl U,by rw[a4];exact hb,h1,by rw[h2,hc],λj u hj=>?_⟩;rw[axr (by rw[htl];exact avq _),awo (by rw[htl];exact avq _),awY]at hj;rw[h3,hv];by_cases g1:j<n*z
 ·rw[avj ayT]
  rw[avy aAm,avR g1,awb]at hj;exact hj
 ·rw[avG azQ,htl]at hj
  have hlt:=(avl.1 hj).1
  rw[hv]at hlt;rw[avk ayT];exact hj
theorem qz(zc:Array Value)(k:Nat):(Builtin.zeroCells zc k).size=k*zc.size:=by simp[Builtin.zeroCells]
theorem zh.fresh{z G:Nat}{own:Option Nat}{xs:List Value}{zs:Array Value}(hl:xs.length=(n+1)*z)(hz:zs.size=(G-(n+1))*z)(hg:n+1<=G)(hm:G<=maxLen):
  zh E z own (n+1) xs w (w.drew.alloc<|.cells (xs.toArray++zs) E) (.slice (some ⟨w.heap.size,0,none⟩) (n+1) G):=by
 have ha:∀k,k<w.heap.size->(w.drew.alloc<|.cells (xs.toArray++zs) E).heap[k]? =w.heap[k]? :=λk hk=>axx w.drew _ hk
 refine⟨U,U,U,ayW,λk hk _=>ha k hk,w.heap.size,G,xs.toArray++zs,U,hg,hm,.inr<|avq _,ayW,awB w.drew _,?_,λj u hj=>?_⟩
 ·rw[axB,hz,avW,hl,<-awn]
  congr 1;omega
 ·have hlt:=(avl.1 hj).1
  rw[Array.getElem?_append_left (by simpa using hlt),awI];exact hj
theorem zh.grow{z i G:Nat}{own:Option Nat}{cs:List Value}{zs1 zs2:Array Value}(hcl:cs.length=n*z)(hi:i<n)(hv:vs.length=z)(hz1:zs1.size=(n+1-i)*z)(Ku:zs2.size=(G-(n+1))*z)(hg:n+1<=G)(hm:G<=maxLen):
  zh E z own (n+1) (cs.take (i*z)++(vs++cs.drop (i*z))) w ((((w.alloc<|.cells ((cs.take<|i*z).toArray++zs1++zs2) E).drew.setCells w.heap.size (i*z) vs).drew).setCells w.heap.size ((i+1)*z)<|cs.drop<|i*z) (.slice (some ⟨w.heap.size,0,none⟩) (n+1) G):=by
 have hiz:(i+1)*z<=n*z:=avr _ hi;rw[awy]at hiz;generalize hR:(cs.take<|i*z).toArray++zs1++zs2=R
 have hRs:R.size=G*z:=by
  rw[<-hR,axB,axB,hz1,Ku,avW,avC,hcl,ax8 ayT,<-awn,<-awn];congr 1;omega
 have hGz:(n+1)*z<=R.size:=by rw[hRs];exact avr _ hg
 rw[awy]at hGz;have hR0:∀j,j<i*z->R[j]? =cs[j]? :=λj hj=>by
  rw[<-hR,Array.append_assoc,Array.getElem?_append_left ayV,awI,avR hj]
 have h0:((w.alloc<|.cells R E).drew).heap[w.heap.size]? =some (.cells R E (0,0)):=awB w _
 have hdl:(cs.drop<|i*z).length=n*z-i*z:=by simp[hcl]
 obtain⟨c1,h1,h2,h3⟩:=iR w.heap.size E (0,0) vs (i*z) (w.alloc<|.cells R E).drew R h0 azW
 obtain⟨c2,h4,h5,h6⟩:=iR w.heap.size E (0,0) (cs.drop<|i*z) ((i+1)*z) (((w.alloc<|.cells R E).drew.setCells w.heap.size (i*z) vs).drew) c1 h1 (by rw[h2,hdl,awy];omega);obtain⟨a1,a2,a3,a4,a5⟩:=gD w.heap.size vs (i*z) (w.alloc<|.cells R E).drew
 obtain⟨b1,b2,b3,b4,b5⟩:=gD w.heap.size (cs.drop<|i*z) ((i+1)*z) (((w.alloc<|.cells R E).drew.setCells w.heap.size (i*z) vs).drew);have hsz:((((w.alloc<|.cells R E).drew.setCells w.heap.size (i*z) vs).drew).setCells w.heap.size ((i+1)*z)<|cs.drop<|i*z).heap.size=w.heap.size+1:=by
  rw[b4];have:((w.alloc<|.cells R E).drew.setCells w.heap.size (i*z) vs).heap.size=w.heap.size+1:=by rw[a4];simp
  exact this
 refine⟨b1.trans a1,b2.trans a2,b3.trans a3,aAg,λk hk _=>?_,w.heap.size,G,c2,U,hg,hm,.inr<|avq _,aAg,h4,by rw[h5,h2,hRs],λj u hj=>?_⟩
 ·rw[b5 k ayT]
  have:=a5 k ayT;refine Eq.trans this ?_;exact axx w _ hk
 ·have htl:(cs.take<|i*z).length=i*z:=by rw[avC,hcl];omega
  rw[h6,hdl];by_cases g1:j<i*z
  ·rw[avj aAd,h3,avj ayT,hR0 j g1]
   rwa [avy aAm,avR g1]at hj
  ·rw[avG azQ,htl]at hj
   by_cases g2:j<i*z+z
   ·rw[avj aAd,h3,hv,avk ⟨ayT,g2⟩]
    rwa [avy azW]at hj
   ·rw[avG azW,hv]at hj
    have hlt:=(avl.1 hj).1
    rw[hdl]at hlt;rw[avk aAd,awy,show j-(i*z+z)=j-i*z-z by omega];exact hj
def Ph{α:Type}(bytes:Nat)(s:List α)(i:Int)(v:List α):Option (List α):=
 match v with
 | [x]=>if 0<=i/\i<=s.length/\s.length+1<=1099511627776/\(s.length+1)*bytes<=140737488355328 then some (s.take i.toNat++(x::s.drop i.toNat))else none
 | _=>none
theorem WE{s v:List α}(h:Ph bytes s i v=some r):
  ∃(x:α)(k:Nat),v= [x]/\i=(k:Int)/\k<=s.length/\s.length+1<=1099511627776/\(s.length+1)*bytes<=140737488355328/\r=s.take k++(x::s.drop k):=by
 unfold Ph at h;split at h
 ·split at h
  ·rename_i x c
   cases h;exact⟨x,i.toNat,U,ayT,ayT,c.2.2.1,c.2.2.2,U⟩
  ·cases h
 ·cases h
theorem ab4{β:Type}(f:α->β)(s:List α)(x:α)(k:Nat):(s.take k++(x::s.drop k)).map f=(s.map f).take k++([f x] ++(s.map f).drop k):=by
 rw[axm,avV,ays,ayr];rfl
section
theorem IL(hc:cG P f)(Me:Ct P f (.row T size es::args) (.new T size es'))(hgr:Nat.blt es.length es'.length=true)
  (hx:Ev x (.own kk es) R1) (hxs:Oc P xs args R2 Rh) (hd:Nat.blt dst nt=true):
  dJ C (Oo dst (gO f (x::xs) tys) ty pos af gd) (R1++R2) ((kk,some (.row T size es true))::Rh) [(dst,.one (.own kk es'))] [(kk,some (.row T size es' true))]:=by
 refine⟨λsl hp hs hh a w K Q⟨β,r⟩ hK=>?_⟩;have hgr:es.length<es'.length:=by simpa using hgr
 have hu:=hx.ok hs.app.1 r;obtain⟨_,_,_,_,h1,_,h2⟩:=id hu;rw[hh.1]at h1;cases h1;have h2:=h2 U;obtain⟨hz,hsz,hr⟩:=r.hp kk _ hh.1;have ahS:∀b,β kk=some b->∀o,Mu C hp β b o:=λb hb o=>.inr ⟨kk,_,hh.1,hb,.inl U⟩
 have Hl:∀b b' o,β kk=some b->((Mu C hp β b' o/\β kk≠some b')\/b'=b)->Mu C hp β b' o:=λb b' o hb c=>c.elim (λc=>c.1) λc=>by subst c;exact ahS _ hb o
 obtain⟨hxl,hxa⟩:=hxs.ok hs.app.2 hh.2 r hh.1;have oH:=Me.go (λb o=>Mu C hp β b o/\β kk≠some b) (λb=>β kk=some b) w (a.eval x::xs.map a.eval) (λb o c=>⟨r.yC c.1,c.2⟩)
  (λb hb=>by
   rcases h2 with⟨h3,_⟩ | ⟨b',cap,cur,h3,h4,_⟩
   ·rw[hb]at h3;cases h3
   ·rw[hb]at h3;cases h3
    exact⟨0,T,size,es,cap,U,by simp[h4]⟩)
  (by simpa using hxl)
  (λi g v hg hv=>by
   cases i with
   | succ i=>exact hxa i g v azz azy
   | zero=>
    simp at hg hv;subst hg hv;refine⟨hz,hsz,?_⟩;rcases h2 with⟨_,h3,h4⟩ | ⟨b,cap,cur,hb,za,hle,pR,hheap,hcs⟩
    ·exact .inl ⟨h3,h4⟩
    ·rcases hr with⟨q1,_⟩ | ⟨b',cur',q1,q2,q3,q4⟩
     ·rw[hb]at q1;cases q1
     ·rw[hb]at q1;cases q1
      rw[hheap]at q2;cases q2;exact .inr ⟨b,cap,cur,hb,(r.own kk _ b hh.1 hb).2,za,hle,pR,hheap,hcs,λi cs j d hi hj=>let⟨v,p1,p2⟩:=q4 i cs j d hi hj;⟨v,p1,p2.less λb' o c=>Hl b b' o hb c⟩⟩)
 unfold Oper.wp;rw[qh hc];refine oH.mono ?_;rintro e w' ⟨v,rfl,Ag,hz',hs',hres⟩;rcases hres with⟨h3,_⟩ | ⟨b,cap,cur,hB,hlt,hv,hle,pR,hheap,hcs,hel⟩
 ·subst h3;simp at hgr
 ·have Yj:∀b' o,Mu C ((kk,some (HE.row T size es' true))::hp) (dQ β kk<|some b) b' o->(Mu C hp β b' o/\β kk≠some b')\/b'=b:=by
   rintro b' o (hM | ⟨k',e',he',hb',hm'⟩)
   ·refine .inl ⟨.inl hM,λc=>?_⟩
    obtain⟨h4,h5⟩:=r.low b' o hM;rcases(r.own kk _ b' hh.1 c).1 with h6 | h6
    ·omega
    ·exact h5 h6
   ·rw[aG]at he'
    by_cases hkk:kk=k'
    ·subst hkk;simp only[dQ,avM]at hb';cases hb';exact .inr U
    ·rw[avj hkk]at he'
     simp only[dQ,avj (λc=>hkk<|Eq.symm c)]at hb';exact .inl ⟨.inr ⟨k',e',he',hb',hm'⟩,λc=>hkk<|r.inj kk k' _ e' b' hh.1 he' c hb'⟩
  have hnew:BR C ((kk,some (HE.row T size es' true))::hp) (dQ β kk<|some b) w' (.own kk es') v:=
   ⟨T,size,es',true,azp,avq _,λ_=>.inr ⟨b,cap,cur,azr,hv,hle,pR,hheap,hcs⟩⟩
  have hch:=(r.chg (w1:=w') (e:=.row T size es' true) (bo:=some b) hh.1 Ag.os Ag.tape Ag.output Ag.size (λi hi hne=>Ag.block i hi λc=>hne c.symm) (λ_ _ _ _ _ hnm=>absurd (.inl U) hnm)
   (hB.elim (λc=>.inr ⟨b,U,c,hlt⟩) λc=>.inl ⟨c.symm,λo _=>.inl U⟩)
   ⟨U,λc=>aBT⟩
   (λB5 u h=>by
    obtain⟨T',size',e1,ex',g1,g2,_⟩:=h;rw[hh.1]at g1;cases g1;exact⟨T,size,es',true,azp,ayT,λc=>ayT⟩)
   (λ_ _=>⟨hz',hs',.inr ⟨b,cur,azr,hheap,by rw[hcs];exact avr _ hle,λi cs j d hi hj=>let⟨u,q1,q2⟩:=hel i cs j d hi hj;⟨u,q1,q2.less (Yj)⟩⟩⟩)).1
  exact hK _ _ ⟨_,hch.put (avU _ _) ay1 hnew⟩
end
section
theorem aab(h:∀k,aE dg k=aE hp k):Mu C dg β=Mu C hp β:=by
 funext b o;simp only[Mu,h]
theorem Z6(h:∀k,aE dg k=aE hp k)(c:BV)(u:Value):BR C dg β w c u=BR C hp β w c u:=by
 cases c<;>simp only[BR,aab h,h]
theorem agS(h:∀k,aE dg k=aE hp k)(c:SV)(u:Value):SR C dg β w c u=SR C hp β w c u:=by
 cases c<;>simp only[SR,Z6 h]
theorem agM(h:∀k,aE dg k=aE hp k)(k:Nat)(e:HE):HR C dg β w k e=HR C hp β w k e:=by
 cases e<;>simp only[HR,Z6 h,aab h,h]
theorem dD.akQ(r:dD C ⟨sl,hp⟩ β a w)(h:∀k,aE dg k=aE hp k):dD C ⟨sl,dg⟩ β a w where
 keep:=r.keep
 low:=r.low
 inj:=λk k' e e' b h1 h2=>r.inj k k' e e' b ((h k).symm.trans h1) ((h k').symm.trans h2)
 own:=λk e b h1=>r.own k e b ((h k).symm.trans h1)
 hp:=λk e h1=>by rw[agM h];exact r.hp k e ((h k).symm.trans h1)
 sl:=λt sv hs=>by rw[agS h];exact r.sl t sv hs
 size:=r.size
 df:=r.df
 fx:=λb hb=>⟨(r.fx b hb).1,λe he=>(r.fx b hb).2 e<|(h 0).symm.trans he⟩
end
section
theorem dJ.share(h:dJ C o Rs Rh Ws [(k,some (.row T size es true))]):
  dJ C o Rs Rh Ws [(k,some (.row T size es false))]:=
 ⟨λsl hp hs hh a w K Q r hK=>h.go sl hp hs hh a w K Q r λa' w'⟨β,q⟩=>hK a' w' ⟨dQ β k<|β k,by
  have hk:aE ((k,some (.row T size es true))::hp) k=some (.row T size es true):=by rw[aG,avk U]
  refine dD.akQ (q.chg (e:=.row T size es false) (bo:=β k) hk U U U (avq _) (λ_ _ _=>rfl) (λ_ _ _ _ h _=>h) (.inl ⟨U,λo ho=>.inr<|by simpa[HE.xK]using ho⟩) ⟨U,λ_=>rfl⟩ (λB5 u hu=>?_) λ_ FN=>?_).1 (λk'=>?_)
  ·obtain⟨T',size',es',ex',h1,h2,h3⟩:=hu
   have h1:aE ((k,some (.row T size es true))::hp) k=_:=h1;rw[hk]at h1;cases h1;exact⟨T,size,es,false,azp,h2,λhq=>by simpa[dQ]using h3 hq⟩
  ·obtain⟨hz,hs,hr⟩:=q.hp k _ hk
   exact⟨hz,hs,hr.imp (λ⟨q1,q2⟩=>⟨by simp[dQ,q1],q2⟩) λ⟨b,cur,q1,q2,q3,q4⟩=>⟨b,cur,by simp[dQ,q1],q2,q3,λi cs j d hi hj=>let⟨u,hu,hr⟩:=q4 i cs j d hi hj;⟨u,hu,FN _ _ hr⟩⟩⟩
  ·show aE ((k,some (.row T size es false))::hp) k'=aE ((k,some (.row T size es false))::(k,some (.row T size es true))::hp) k'
   simp only[aG];by_cases c:k=k'
   ·rw[avk c,avk c]
   ·rw[avj c,avj c,avj c]⟩⟩
theorem Ky{β:Type}{f:α->β}{s v:List α}(h:Ph bytes s i v=some r):Nat.blt (s.map f).length (r.map f).length=true:=by
 obtain⟨x,k,_,_,h1,_,_,rfl⟩:=WE h;simp;omega
end
section
theorem BR.acH(h:BR C hp β w (.rp k es off) u):
  ∃s,BR C hp β w (.own k es) s/\∃b l c,s= .slice (some ⟨b,0,none⟩) l c/\u= .pointer (some ⟨b,off,none⟩):=h
theorem CA{size:Nat}:∀{es:List (List DV)},(∀cs,cs∈es->cs.length=size)->es.flatten.length=es.length*size
 | [],_=>ayW
 | c::es,h=>by
  rw[List.flatten_cons,avz,h c ayW,CA (es:=es) λx hx=>h x<|by simp[hx],avv,awy];omega
theorem DL{T E:TypeId}{T':Nat}(hT:P.underlying T=some (.slice E))(hI:Info P E zz size bytes)
  (h0:0<=i) (hi:es[i.toNat]? =some cs) (hx:Ev x (.own k es) R1) (hy:Ev y (bI kd i) R2) (hd:Nat.blt dst nt=true):
  dJ C (Oo dst (.indexAddr T x y) ty pos af gd) (R1++R2) [(k,some (.row T' size es ex))] [(dst,.one (.rp k es<|i.toNat*size))] []:=
 bu hd U λsl hp β a w hs hh r=>by
  have hlt:i.toNat<es.length:=(avl.1 hi).1
  have hne:es≠[]:=λc=>by simp[c]at hlt
  have h1:=hx.ok hs.app.1 r;obtain⟨hz,hsz,b,cap,cur,hb,hu,hle,pR,hheap,hcs,hcl,hel⟩:=Gs r hh.1 h1 hne;have h2:=BR.aX (hy.ok hs.app.2 r);refine⟨.pointer<|some ⟨b,i.toNat*size,none⟩,?_,a.eval x,h1,b,es.length,cap,hu,U⟩;simp only[execOp,hu,h2,avw,A7 hT hI h0 (show i<(es.length:Int) by omega),avt,avF]
theorem NN(hS:P.underlying S=some (.struct fs))(hf:fs[f]? =some Ex)
  (hI:Info P Ex.type zz size bytes) (hz:size≠0) (he:off+Ex.offset=off') (hx:Ev x (.rp k es off) R) (hd:Nat.blt dst nt=true):
  dJ C (Oo dst (.fieldAddr S x f) ty pos af gd) R [] [(dst,.one (.rp k es off'))] []:=
 bu hd U λsl hp β a w hs _ r=>by
  obtain⟨s,h1,b,l,c,h2,hu⟩:=BR.acH (hx.ok hs r);refine⟨.pointer<|some ⟨b,off',none⟩,?_,s,h1,b,l,c,h2,U⟩;simp[execOp,hu,s9 hS hf hI hz,he]
theorem Lr(r:dD C ⟨sl,hp⟩ β a w)(hk:aE hp kk=some (.row T size es ex))(hu:BR C hp β w (.rp kk es off) u)(hne:es≠[]):
  ∃b cur,β kk=some b/\u= .pointer (some ⟨b,off,none⟩)/\w.heap[b]? =some (.cells cur T (0,0))/\(∀cs,cs∈es->cs.length=size)/\0<size/\es.length*size<=cur.size/\
   ∀(i:Nat)(cs:List DV)(j:Nat)(d:DV),es[i]? =some cs->cs[j]? =some d->∃v,cur[i*size+j]? =some v/\RD (Mu C hp β) w v d:=by
 obtain⟨s,h1,b,l,c,h2,hu⟩:=BR.acH hu;obtain⟨hz,hsz,b',cap,cur,hb,za,hle,pR,hheap,hcs,hcl,hel⟩:=Gs r hk h1 hne;rw[h2]at za;cases za;exact⟨b,cur,hb,hu,hheap,hsz,hz,hcl,hel⟩
theorem YQ{t:TypeId}{i:Nat}{d:DV}(hU:P.underlying t=some td)(hA:qJ td=false)(hi:es[i]? =some cs)(hc:cs[f]? =some d)
  (hx:Ev x (.rp k es<|i*size+f) R) (hd:Nat.blt dst nt=true):dJ C (Oo dst (.load t x) ty pos af gd) R [(k,some (.row T size es ex))] [(dst,.one (.g<|.d d))] []:=
 bu hd U λsl hp β a w hs hh r=>by
  have hne:es≠[]:=λc=>by simp[c]at hi
  obtain⟨b,cur,hb,hu,hheap,_,_,_,hel⟩:=Lr r hh.1 (hx.ok hs r) hne;obtain⟨u,h1,h2⟩:=hel i cs f d hi hc;have hcl:w.cell? ⟨b,i*size+f,none⟩=some u:=by rw[awM w b _ cur T _ hheap];exact h1
  exact⟨u,az7,h2⟩
theorem YR{t:TypeId}{i:Nat}(hU:P.underlying t=some td)(hA:qJ td=true)(hI:Info P t zz ds.length bytes)(hi:es[i]? =some cs)(hc:(cs.drop f).take ds.length=ds)
  (hx:Ev x (.rp k es<|i*size+f) R) (hd:Nat.blt dst nt=true):dJ C (Oo dst (.load t x) ty pos af gd) R [(k,some (.row T size es ex))] [(dst,.one (.g<|.agg ds))] []:=
 bu hd U λsl hp β a w hs hh r=>by
  have hne:es≠[]:=λc=>by simp[c]at hi
  obtain⟨b,cur,hb,hu,hheap,_,_,_,hel⟩:=Lr r hh.1 (hx.ok hs r) hne;have key:∀j dd,ds[j]? =some dd->∃u,cur[i*size+f+j]? =some u/\RD (Mu C hp β) w u dd:=by
   intro j dd hj;have hl:j<ds.length:=(avl.1 hj).1
   have:cs[f+j]? =some dd:=by
    have e:((cs.drop f).take ds.length)[j]? =ds[j]? :=by rw[hc]
    rw[awv,avk hl,awm]at e;rw[e,hj]
   obtain⟨u,h1,h2⟩:=hel i cs (f+j) dd hi this;exact⟨u,by rw[axp];exact h1,h2⟩
  have KA:∀j,j<ds.length->w.cell? ⟨b,i*size+f+j,none⟩=some ((λj=>cur.getD (i*size+f+j) undef) j):=by
   intro j hj;obtain⟨u,h3,_⟩:=key j ds[j] azT;rw[awM w b _ cur T _ hheap];simp[h3]
  refine⟨.agg ((List.range ds.length).map λj=>cur.getD (i*size+f+j) undef).toArray,?_,_,U,ayW,λj d hj=>?_⟩
  ·simp only[execOp,hu,avw,mg (P:=P) (b:=b) (o:=i*size+f) (w:=w) hU hA hI _ KA,avt,avF]
  ·obtain⟨u,h3,h4⟩:=key j d hj
   have hl:j<ds.length:=(avl.1 hj).1
   exact⟨u,by simp[hl,h3],h4⟩
theorem KZ{E:TypeId}{i:Nat}{vs:Act->List Value}
  (hi:es[i]? =some cs) (hf:f+ds.length<=cs.length) (he:cs.take f++ds++cs.drop (f+ds.length)=cs') (hes:es.set i cs'=es')
  (hx:Ev x (.rp kk es<|i*size+f) R1)
  (hrun:∀(sl:SL)(hp:HL) β a w,bK sl (R1++R2)->dD C ⟨sl,hp⟩ β a w->(vs a).length=ds.length/\
   (∀ad:Addr,(Instr.storeAt S (.pointer<|some ad)<|a.eval y).run P w=(storeCells ad<|vs a).run P w)/\
   ∀(j:Nat)(d:DV),ds[j]? =some d->∃u,(vs a)[j]? =some u/\RD (Mu C hp β) w u d):
  dJ C ⟨none,.store S x y,ty,pos,af,gd⟩ (R1++R2) [(kk,some (.row E size es true))] [] [(kk,some (.row E size es' true))]:=by
 subst hes he;refine⟨λsl hp hs hh a w K Q⟨β,r⟩ hK=>?_⟩;have hit:i<es.length:=(avl.1 hi).1
 have hne:es≠[]:=λc=>by simp[c]at hi
 obtain⟨b,cur,hb,hu,hheap,hsz,Pg,hcl,hel⟩:=Lr r hh.1 (hx.ok hs.app.1 r) hne;obtain⟨hvl,hst,hvc⟩:=hrun sl hp β a w hs r;have aeL:cs.length=size:=hsz cs (avH hi);have hfit:i*size+f+(vs a).length<=cur.size:=by
  have:(i+1)*size<=es.length*size:=avr _ hit;rw[awn]at this;omega
 have hone:∀v,v∈vs a->v.oneCell'=true:=by
  intro v hv;obtain⟨j,hj,rfl⟩:=avO hv;obtain⟨u,h1,h2⟩:=hvc j (ds[j]' ayT) (by simp[show j<ds.length by omega]);simp[avs hj]at h1;rw[h1];exact h2.one
 have hsc:=ayd P b (i*size+f) E (vs a) 0 cur w hheap ayT hone;simp only[awE]at hsc;generalize hw1:w.setRow b (List.take (i*size+f) cur.toList++vs a++List.drop (i*size+f+(vs a).length) cur.toList).toArray=w1 at hsc
 have hnew:w1.heap[b]? =some (.cells (List.take (i*size+f) cur.toList++vs a++List.drop (i*size+f+(vs a).length) cur.toList).toArray E):=by rw[<-hw1];exact axU w b cur _ E _ hheap
 have kJ:∀q,q≠b->w1.heap[q]? =w.heap[q]? :=λq hq=>aAz;have hsize:w1.heap.size=w.heap.size:=by rw[<-hw1];simp[World.setRow]
 have RB:cur.toList.length=cur.size:=awj;have abJ:∀q:Nat,(List.take (i*size+f) cur.toList++vs a++List.drop (i*size+f+(vs a).length) cur.toList).toArray[q]? =if i*size+f<=q/\q<i*size+f+ds.length then(vs a)[q-(i*size+f)]? else cur[q]? :=by
  intro q;rw[awI,jX cur.toList (i*size+f) (vs a) ayT,hvl];simp
 have IA:(List.take (i*size+f) cur.toList++vs a++List.drop (i*size+f+(vs a).length) cur.toList).toArray.size=cur.size:=by
  simp only[avW,avz,avC,avZ,RB];omega
 unfold Oper.wp;have:(execOp a.eval ⟨none,.store S x y,ty,pos,af,gd⟩).run P w= .ok .skip w1:=by
  simp only[execOp,hu,avw,hst,hsc,avt,avF]
 rw[this];refine hK _ _ ⟨dQ β kk<|β kk,?_⟩;have hlen':(cs.take f++ds++cs.drop (f+ds.length)).length=size:=by
  simp only[avz,avC,avZ];omega
 refine(r.chg (e:=.row E size (es.set i<|cs.take f++ds++cs.drop (f+ds.length)) true) (bo:=β kk) hh.1 azh azh azh ayT (λq _ hq=>kJ q λc=>hq<|by rw[c,hb]) (λ_ o x _ _ hnm=>absurd (.inl U) hnm)
  (.inl ⟨U,λo ho=>.inl U⟩) ⟨U,λ_=>rfl⟩ (λB5 u h=>?_) (λ_ FN=>?_)).1
 ·obtain⟨_,_,_,_,h5,h6,h7⟩:=h
  rw[hh.1]at h5;cases h5;refine⟨E,size,es.set i<|cs.take f++ds++cs.drop (f+ds.length),true,azp,by simpa using h6,λhq=>?_⟩;rw[awT]at hq;rcases h7 hq with⟨_,h8,_⟩ | ⟨b',cap',cur',h8,h9,h10,h11,h12,h13⟩
  ·exact absurd h8 hne
  ·rw[hb]at h8;cases h8
   rw[hheap]at h12;cases h12;exact .inr ⟨b,cap',_,azv,by rw[awT];exact h9,by rw[awT];exact h10,h11,hnew,by rw[IA];exact h13⟩
 ·refine⟨Pg,λcs1 HH=>?_,.inr ⟨b,_,azv,hnew,by rw[awT,IA];exact hcl,λi' cs1 j d hi' hj=>?_⟩⟩
  ·rcases List.mem_or_eq_of_mem_set HH with h5 | h5
   ·exact hsz cs1 h5
   ·rw[h5];exact hlen'
  ·rw[getElem?_set' es i i' _ hit]at hi'
   rw[abJ];by_cases c:i=i'
   ·subst c
    rw[avk rfl]at hi';cases hi';rw[jX cs f ds hf]at hj;split at hj
    ·rename_i hin
     obtain⟨x',h3,h4⟩:=hvc _ d hj;rw[avk ayT];exact⟨x',by rw[show i*size+j-(i*size+f)=j-f by omega];exact h3,FN _ _ h4⟩
    ·rename_i hin
     obtain⟨v,h3,h4⟩:=hel i cs j d hi hj;rw[avj ayT];exact⟨v,h3,FN _ _ h4⟩
   ·rw[avj c]at hi'
    obtain⟨v,h3,h4⟩:=hel i' cs1 j d hi' hj;have hj':j<size:=by rw[<-hsz cs1 (avH hi')];exact(avl.1 hj).1
    have:¬(i*size+f<=i'*size+j/\i'*size+j<i*size+f+ds.length):=by
     rintro⟨q1,q2⟩;rcases Nat.lt_or_gt_of_ne c with c' | c'
     ·have:(i+1)*size<=i'*size:=avr _ c'
      rw[awn]at this;omega
     ·have:(i'+1)*size<=i*size:=avr _ c'
      rw[awn]at this;omega
    rw[avj this];exact⟨v,h3,FN _ _ h4⟩
theorem Vv{E:TypeId}{i:Nat}{d:DV}(hI:Info P S zz 1 bytes)
  (hi:es[i]? =some cs) (hf:Nat.blt f cs.length=true) (he:cs.take f++ [d] ++cs.drop (f+1)=cs') (hes:es.set i cs'=es') (hx:Ev x (.rp kk es<|i*size+f) R1) (hy:Ev y (.g<|.d d) R2):
  dJ C ⟨none,.store S x y,ty,pos,af,gd⟩ (R1++R2) [(kk,some (.row E size es true))] [] [(kk,some (.row E size es' true))]:=by
 refine KZ (vs:=λa=>[a.eval y]) (ds:=[d]) hi (by simp at hf ⊢;omega) he hes hx (λsl hp β a w hs r=>?_);have h1:RD (Mu C hp β) w (a.eval y) d:=hy.ok hs.app.2 r;have h2:=h1.one;have h3:(a.eval y).cells= #[a.eval y]:=by generalize a.eval y=u at h2;cases u<;>simp_all [Value.cells,Value.oneCell']
 refine⟨U,λad=>?_,λj c' hj=>?_⟩
 ·simp[Instr.storeAt,Instr.sureAddr,storeVar,h3,hI.sizeOf]
 ·cases j with
  | zero=>simp at hj;subst hj;exact⟨_,U,h1⟩
  | succ j=>simp at hj
theorem Vw{E:TypeId}{i:Nat}(hI:Info P S zz ds.length bytes)
  (hi:es[i]? =some cs) (hf:Nat.ble (f+ds.length) cs.length=true) (he:cs.take f++ds++cs.drop (f+ds.length)=cs') (hes:es.set i cs'=es') (hx:Ev x (.rp kk es<|i*size+f) R1) (hy:Ev y (.g<|.agg ds) R2):
  dJ C ⟨none,.store S x y,ty,pos,af,gd⟩ (R1++R2) [(kk,some (.row E size es true))] [] [(kk,some (.row E size es' true))]:=by
 refine KZ (vs:=λa=>(a.eval y).cells.toList) (ds:=ds) hi (by simpa using hf) he hes hx (λsl hp β a w hs r=>?_);obtain⟨us,hu,hl,hc⟩:=hy.ok hs.app.2 r;refine⟨by simp[hu,Value.cells,hl],λad=>?_,λj d hj=>?_⟩
 ·simp[Instr.storeAt,Instr.sureAddr,storeVar,hu,Value.cells,hl,hI.sizeOf]
 ·obtain⟨u,h1,h2⟩:=hc j d hj
  exact⟨u,aAB,h2⟩
end
section
variable{k:List KI}
end
section
theorem PG{T E:TypeId}{xs:List (Nat×Operand)}
  (hT:P.underlying T=some (.slice E)) (hI:Info P E zz size bytes) (hz:Nat.blt 0 size=true) (hbig:Nat.ble (len*size) 16777216=true) (hlen:Nat.ble len 16777216=true)
  (hx:Xq xs gs R) (he:lu (λi=>some (i*size,size)) (List.replicate (len*size) none) gs=some (es.flatten.map some)) (hel:Nat.beq es.length len=true) (hes:∀cs,cs∈es->cs.length=size) (hd:Nat.blt dst nt=true) (Hj:Nat.blt 0 kk=true:=by rfl):
  dJ C (Oo dst (.buildSlice T len xs.toArray) ty pos af gd) R [(kk,none)] [(dst,.one (.own kk es))] [(kk,some (.row E size es ex))]:=by
 refine⟨λsl hp hs hh a w K Q⟨β,r⟩ hK=>?_⟩;have hel:=av3 hel;have Km:¬(16777216<len*size):=by simp at hbig;omega
 obtain⟨h1,h2⟩:=hx.ok hs r;generalize hz0:(if len*size=0 then(#[]:Array Value)else zz.cells)=z0;have U4:VR (Mu C hp β) w ((Array.range<|len*size).map (z0[·% z0.size]!)) (List.replicate (len*size) none):=⟨ayW,λj d hj=>azN⟩;obtain⟨vals,hf,hv⟩:=Aq (rS:=xs.map λq=>(q.1,a.eval q.2)) U4 ay7 h2 he;have hrun:(execOp a.eval<|Oo dst (.buildSlice T len xs.toArray) ty pos af gd).run P w= .ok (.value<|.slice (some ⟨w.heap.size,0,none⟩) len len) (w.alloc<|.cells vals E):=by
  simp only[execOp,Instr.buildSlice,avw,avm hT,avt,hI.sizeOf];rw[avj aAv];by_cases h0:len*size=0
  ·rw[avk h0]at hz0
   subst hz0;rw[avk h0];simp only[avw,avF,avt,awN,hf,newRow,aym];rfl
  ·rw[avj h0]at hz0
   subst hz0;rw[avj h0];simp only[avw,avF,avt,hI.zero,awN,hf,newRow,aym];rfl
 unfold Oper.wp;rw[hrun];have hsize:vals.size=len*size:=by
  have h3:=hv.1;rw[avN]at h3;rw[h3,<-hel];exact CA hes
 have h:=(r.new (e:=.row E size es ex) (bo:=some w.heap.size) hh.1 Hj (dM w<|.cells vals E) (λb hb=>azY) λ_ FN=>
  ⟨aAi,hes,.inr ⟨w.heap.size,vals,azr,awB w _,by rw[hsize,hel];exact avq _,λi cs j d hi hj=>by
   obtain⟨u,h3,h4⟩:=hv.2 (i*size+j) d aAV;exact⟨u,h3,FN _ _ h4⟩⟩⟩).1
 exact hK _ _ ⟨_,h.put (avU _ _) ay1 ⟨E,size,es,ex,azp,avq _,λ_=>.inr ⟨w.heap.size,len,vals,azr,by rw[hel],by rw[hel];exact avq _,azC,awB w _,hsize⟩⟩⟩
end
open Go.Proofs
theorem zZ{K:Act->World->Prop}{E:Prop}
  (hg:o.guard=none) (d x:Operand) (dT sT:TypeId) (hop:o.op=Op.call { callee:=Callee.builtin Builtin.append,args:=#[d,x],argTypes:=#[dT,sT] })
  (v u:Value) (hd:a.eval d=v) (hx:a.eval x=u) {v':Value} {w':World} (hr:(Builtin.append_ #[dT,sT] o.type #[v,u]).run P w= .ok v' w') (hK:K (a.put o.dst v') w'):
  if Region.wanted o (yielded ops a.tmps)=true then Oper.wp P o a w K Q else E:=by
 have hw:Region.wanted o (yielded ops a.tmps)=true:=by simp[Region.wanted,hg]
 rw[avk hw];unfold Oper.wp;simp[execOp,hop,resolve,invoke,builtin,hd,hx,hr,Result.andThen];exact hK
theorem ME(w:World)(t e ty:TypeId)(z:Value)(ht:P.underlying t=some (.slice e))(hv:∀w,(zeroValue e).run P w= .ok z w)(h1:∀v∈z.cells.toList,v.oneCell'=true)(b o c:Nat)
  (hc:∀j,j<z.cells.size->(w.cell? ⟨b,o+j,none⟩).isSome=true) (hf:∀j,j<z.cells.size->w.frozen? ⟨b,o+j,none⟩=false):
  (Builtin.clear_ #[t] ty #[.slice (some ⟨b,o,none⟩) 1 c]).run P w= .ok (.tuple #[]) (w.setCells b o z.cells.toList):=by
 have hzc:(Builtin.zeroCells z.cells 1).toList=z.cells.toList:=by
  apply List.ext_getElem
  ·simp[Builtin.zeroCells]
  ·intro i h1 h2
   simp only[Builtin.zeroCells]at h1 ⊢;simp at h2;simp[axa h2,h2]
 have hst:=run_storeCells_cells (P:=P) b o z.cells.toList 0 w (by simpa using hc) (by simpa using hf) h1;simp only[awE]at hst;simp[Builtin.clear_,avm ht,hv,hzc,hst]
def aed{α:Type}(s:List α)(i j:Int):Option (List α):=
 if 0<=i/\i<s.length/\j=i+1/\s.length<=1099511627776 then some (s.take i.toNat++s.drop (i.toNat+1))else none
theorem aee{s:List α}{j:Int}(h:aed s i j=some r):∃k:Nat,i=(k:Int)/\j=(k:Int)+1/\k<s.length/\s.length<=1099511627776/\r=s.take k++s.drop (k+1):=by
 unfold aed at h;split at h
 ·rename_i c
  cases h;exact⟨i.toNat,ayT,ayT,ayT,c.2.2.2,U⟩
 ·cases h
theorem aaF{β:Type}(f:α->β)(s:List α)(k:Nat):(s.take k++s.drop (k+1)).map f=(s.map f).take k++(s.map f).drop (k+1):=by
 rw[axm,ays,ayr]
theorem zh.del{z b c i:Nat}{zs:List Value}(hh:w.heap[b]? =some (.cells cur E (0,0)))(hc:cur.size=c*z)(hi:i<=n)(hn:n+1<=c)(hm:c<=maxLen)(hv:zs.length=z):
  zh E z (some b) n ((cur.toList.take<|(n+1)*z).take (i*z)++(cur.toList.take<|(n+1)*z).drop ((i+1)*z)) w ((w.drew.setCells b (i*z)<|(cur.toList.take<|(n+1)*z).drop<|(i+1)*z).setCells b (n*z) zs) (.slice (some ⟨b,0,none⟩) n c):=by
 have hnz:(n+1)*z<=cur.size:=by rw[hc];exact avr _ hn
 have hiz:i*z<=n*z:=avr _ hi;have e1:(n+1)*z=n*z+z:=awy _ _;have e2:(i+1)*z=i*z+z:=awy _ _;have hl:cur.toList.length=cur.size:=awj;have hdl:((cur.toList.take<|(n+1)*z).drop<|(i+1)*z).length=n*z-i*z:=by rw[avZ,avC,hl];omega
 obtain⟨c1,h1,h2,h3⟩:=iR b E (0,0) ((cur.toList.take<|(n+1)*z).drop<|(i+1)*z) (i*z) w.drew cur hh (by rw[hdl];omega);obtain⟨c2,h4,h5,h6⟩:=iR b E (0,0) zs (n*z) _ c1 h1 (by rw[h2,hv];omega);obtain⟨a1,a2,a3,a4,a5⟩:=gD b ((cur.toList.take<|(n+1)*z).drop<|(i+1)*z) (i*z) w.drew;obtain⟨b1,b2,b3,b4,b5⟩:=gD b zs (n*z) (w.drew.setCells b (i*z)<|(cur.toList.take<|(n+1)*z).drop<|(i+1)*z);have hb:b<w.heap.size:=(avo.1 hh).1
 refine⟨b1.trans a1,b2.trans a2,b3.trans a3,by rw[b4,a4];exact avq _,λk _ hk=>?_,b,c,c2,U,ayT,hm,.inl U,by rw[b4,a4];exact hb,h4,by rw[h5,h2,hc],λj u hj=>?_⟩
 ·have hkb:k≠b:=λe=>hk (by rw[e])
  rw[b5 k hkb,a5 k hkb];rfl
 ·have htl:((cur.toList.take<|(n+1)*z).take<|i*z).length=i*z:=by rw[avC,avC,hl];omega
  rw[h6,hv];by_cases g1:j<i*z
  ·rw[avj ayT,h3,avj ayT]
   rw[avy aAm,avR g1,avR ayT,awb]at hj;exact hj
  ·rw[avG azQ,htl]at hj
   have hlt:=(avl.1 hj).1
   rw[hdl]at hlt;rw[avj ayT,h3,avk (by rw[hdl];omega)];exact hj
theorem XI{z:Nat}{i:Nat}(hi:i<es.length)
  (hrow:∀(w:World)(b c:Nat)(cur:Array Value),w.heap[b]? =some (.cells cur E (0,0))->cur.size=c*z->es.length<=c->c<=maxLen->(∀(j:Nat)(v:Value),j<es.length*z->cur[j]? =some v->v.oneCell'=true)->
   Calls P f #[.slice (some ⟨b,0,none⟩) es.length c,.int .i64 (i:Int),.int .i64 ((i:Int)+1)] w λe w'=>∃v,e= .returned v/\zh E z (some b) (es.length-1) ((cur.toList.take (es.length*z)).take (i*z)++(cur.toList.take (es.length*z)).drop ((i+1)*z)) w w' v):
  Ct P f [.row E z es,.g (.d<|.v<|.int .i64 (i:Int)),.g (.d<|.v<|.int .i64 ((i:Int)+1))] (.new E z<|es.take i++es.drop (i+1)):=by
 refine⟨λM K w vs hM hK hl hargs=>?_⟩;obtain⟨u0,u1,u2,rfl⟩:∃a b c,vs= [a,b,c]:=by
  match vs,hl with
  | [a,b,c],_=>exact⟨a,b,c,U⟩
 obtain⟨hz,hsz,hr0⟩:=hargs 0 _ u0 U U;have h1:u1= .int .i64 (i:Int):=RD.aX (hargs 1 _ u1 U U)
 have h2:u2= .int .i64 ((i:Int)+1):=RD.aX (hargs 2 _ u2 U U)
 subst h1 h2;have hes:es≠[]:=λc=>by simp[c]at hi
 rcases hr0 with⟨hn,_⟩ | ⟨b,c0,cur,hKb,hlt,rfl,hle,pR,hheap,hcs,hel⟩
 ·exact absurd hn hes
 ·have hone:∀j v,j<es.length*z->cur[j]? =some v->v.oneCell'=true:=λj v hj hv=>by
   have hq:j / z<es.length:=(Nat.div_lt_iff_lt_mul hz).2 hj
   have hmod:j % z<z:=ayG _ hz;have hl2:es[j / z].length=z:=hsz _ (avu hq)
   obtain⟨v',g1,g2⟩:=hel (j / z) es[j / z] (j % z) (es[j / z]'hq)[j % z] aAc (by simp[hl2,hmod]);rw[show j / z*z+j % z=j by rw[awR];exact ax6 j z,hv]at g1;cases g1;exact g2.one
  refine(hrow w b c0 cur hheap hcs hle pR hone).mono λe w'⟨v,he,hI⟩=>⟨v,he,?_⟩
  obtain⟨b',cap',cur',rfl,g1,g2,g3,g4,g5,g6,g7⟩:=hI.row;have hbb:b'=b\/w.heap.size<=b':=g3.elim (λh=>.inl (by cases h;rfl)) .inr
  have hlen:(es.take i++es.drop (i+1)).length=es.length-1:=by simp;omega
  have hbig:es.length*z<=cur.size:=by rw[hcs];exact avr _ hle
  have hiz:(i+1)*z<=es.length*z:=avr _ hi;have e2:(i+1)*z=i*z+z:=awy _ _;have Wx:cur.toList.length=cur.size:=awj;have htl:((cur.toList.take<|es.length*z).take<|i*z).length=i*z:=by rw[avC,avC,Wx];omega
  refine⟨⟨hI.os,hI.tape,hI.output,hI.size,λk hk hnk=>hI.block k hk λc=>hnk azR⟩,hz,λcs HH=>?_,.inr ⟨b',cap',cur',?_,g4,by rw[hlen],by rw[hlen];exact g1,g2,g5,g6,λq cs j d hq hj=>?_⟩⟩
  ·rcases List.mem_append.1 HH with h | h
   ·exact hsz cs (axf h)
   ·exact hsz cs (aw0 h)
  ·rcases hbb with rfl | h
   ·exact .inr hKb
   ·exact .inl h
  ·have hjl:j<cs.length:=(avl.1 hj).1
   have fin:∀(u:Value)(M0:Nat->Nat->Prop),((cur.toList.take<|es.length*z).take (i*z)++(cur.toList.take<|es.length*z).drop ((i+1)*z))[q*z+j]? =some u->RD M0 w u d->(∀b1 o,¬M0 b1 o->¬M b1 o/\some b≠some b1)->
     ∃u,cur'[q*z+j]? =some u/\RD (λb1 o=>M b1 o\/b1=b') w' u d:=λu M0 hu hrd hM0=>by
    refine⟨u,g7 _ u hu,hrd.mono λb1 o y hn hy=>?_⟩;obtain⟨UZ,hn2⟩:=hM0 b1 o hn;have UY:=cz hy;refine⟨?_,λc=>?_⟩
    ·have:=hI.block b1 UY hn2
     simp only[World.cell?]at hy ⊢;rw[this];exact hy
    ·rcases c with c | c
     ·exact UZ c
     ·subst c
      rcases hbb with h | h
      ·exact hn2 (by rw[h])
      ·omega
   by_cases c1:q<i
   ·rw[avy ayV,avR c1]at hq
    have hcl:cs.length=z:=hsz _ (avH hq);obtain⟨u,k1,k2⟩:=hel q cs j d hq hj;have hpos:q*z+j<i*z:=by
     have:(q+1)*z<=i*z:=avr _ c1;rw[awy]at this;omega
    refine fin u _ ?_ k2 λb1 o hn=>⟨λc=>hn<|.inl c,λc=>hn<|.inr aAT⟩;rw[avy (by rw[htl];exact hpos),avR hpos,avR ayT,awb];exact k1
   ·have hq2:es[q+1]? =some cs:=by
     rw[avG ayV]at hq;simp only[avC,awm]at hq;rw[ax8 ayT]at hq;rwa [show i+1+(q-i)=q+1 by omega]at hq
    have hcl:cs.length=z:=hsz _ (avH hq2);obtain⟨u,k1,k2⟩:=hel (q+1) cs j d hq2 hj;have hpl:q+1<es.length:=(avl.1 hq2).1
    have hpz:(q+1+1)*z<=es.length*z:=avr _ hpl;have hip:i*z<=q*z:=avr _ ayT;have e3:(q+1)*z=q*z+z:=awy _ _;rw[awy]at hpz;refine fin u _ ?_ k2 λb1 o hn=>⟨λc=>hn<|.inl c,λc=>hn<|.inr aAT⟩;rw[avG azQ,htl,awm,avR ayT,awb];rw[show(i+1)*z+(q*z+j-i*z)=(q+1)*z+j by omega];exact k1
section
end
section
theorem YJ{T E:TypeId}{zzE:Value}{Dd Tz:Nat}{zs:List DV}{xs:List (Nat×Operand)}
  (hT:P.underlying T=some (.array n E)) (hI:Info P T zz size bytes) (hIE:Info P E zzE Dd Tz) (hz:ZD zz.cells.toList zs)
  (hx:Xq xs gs R) (he:lu (λi=>some (i*Dd,Dd)) (zs.map some) gs=some (ds.map some)) (hd:Nat.blt dst nt=true):
  dJ C (Oo dst (.build T xs.toArray) ty pos af gd) R [] [(dst,.one (.g<|.agg ds))] []:=
 bu hd U λsl hp β a w hs _ r=>by
  obtain⟨h1,h2⟩:=hx.ok hs r;obtain⟨vals,hf,hv⟩:=Aq (rS:=xs.map λq=>(q.1,a.eval q.2)) (ZD.vr (M:=Mu C hp β) (w:=w) hz) ay7 h2 he;refine⟨.agg vals,?_,vals,U,by simpa using hv.1,λj d hj=>hv.2 j d<|by simp[hj]⟩;have hf':Instr.fill (λi=>some (i*Dd,Dd)) zz.cells (List.map (λx=>(x.fst,a.eval x.snd)) xs)=some vals:=by simpa using hf
  simp only[execOp,Instr.build,avw,hI.zero,avt,avm hT,hIE.sizeOf,awN,hf',avF]
end
section
end
section
end
section
end
section
variable{w0:World}{b:Nat}{go:Option Nat}{k:List KI}
end
end Go.Ab
