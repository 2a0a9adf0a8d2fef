/- Machine, typed functions, plain laws and walks, part 5, for TopCleans. Conditions: none but those that stand in each law. -/
import Derived.Test.YtgjndeeaafimiaaGreatD4
import Derived.Test.YtgjndeeaafimiaaGreatD3
set_option linter.all false
open Go.Proofs.Tryz
namespace Go.Ark
open Go Go.Ab Go.RowKit Go.Proofs
variable{nt:Nat}{R:Type}{m:Ab.Mode}{k:List KI}{ops:Array Oper}{rest:List Oper}{sl:SL}{hp:HL}{dst:Nat}{ty:TypeId}{pos:String}{af:Array Edge}{gd:Option (Nat×Bool)}{x y:Operand}{Q:R->Exit->Act->World->Prop}{r:R}{F:Option R}
section
variable{P:Program}{C0:Cx P nt}{st:St}{op:Op}{z:Operand}
theorem f2'{c d:BV}{sv:SV}(hg:bD ops sl gd=true)(H:∀(C:Cx P nt) Rs Rs',Ev x c Rs->Ev z d Rs'->dJ C (Oo dst (.pick x y z) ty pos af gd) (Rs++Rs') [] [(dst,sv)] [])(hx:aN sl x=some c)(hz:aN sl z=some d)(hc:sv.calm=true)(hk:GO C0 Q r F (m.add (X2 ops gd x c z d dst sv)) ops rest k ⟨(dst,sv)::sl,hp⟩):GO C0 Q r F m ops (Oo dst (.pick x y z) ty pos af gd::rest) k ⟨sl,hp⟩:=
 f2 (x:=x) (y:=z) hg H hx hz hc hk
theorem XU{t i:Nat}{l:List BV}{c:BV}(hg:bD ops sl gd=true)(hs:bG sl t=some (.eV l))(hi:l[i]? =some c)(hc:c.calm=true)(hd:Nat.blt dst nt=true)(hk:GO C0 Q r F (m.add ⟨gH ops gd++ [(t,.eV l)],[],[(dst,.one c)],[]⟩) ops rest k ⟨(dst,.one c)::sl,hp⟩):GO C0 Q r F m ops (Oo dst (.extract (.tmp t) i) ty pos af gd::rest) k ⟨sl,hp⟩:=
 GO.one (λ_=>Fm hi hd) hg ⟨hs,ayS⟩ ayS (by simp[SV.calm,hc]) U hk
end
theorem am9(a0:Int)(a1:Int)(b0:Int)(b1:Int)(w:World):(binOp .eql 53 (.agg #[.int .i64 a0,.int .i64 a1]) (.agg #[.int .i64 b0,.int .i64 b1])).run prog w= .ok (.bool (decide (a0=b0)&&decide (a1=b1))) w:=by
 have u3:=underlying3;have z3:=sizeOf3;have g3:=isAgg3;have hS:prog.underlying 53=some (.struct<|prog.fieldsOf 53):=by kernel_rfl
 rw[run_eql_struct,show(10000:Nat)=9999+1 from rfl,run_equalIn_agg w 9999 53 _ _ hS stoodInHeld53];simp only[Program.fieldsOf,underlying53]
 go_simp
 by_cases e0:a0=b0<;>by_cases e1:a1=b1<;>simp[*]
theorem aoW(a0:Int)(a1:Int)(b0:Int)(b1:Int)(w:World):(binOp .neq 53 (.agg #[.int .i64 a0,.int .i64 a1]) (.agg #[.int .i64 b0,.int .i64 b1])).run prog w= .ok (.bool (!(decide (a0=b0)&&decide (a1=b1)))) w:=by
 have u3:=underlying3;have z3:=sizeOf3;have g3:=isAgg3;have hS:prog.underlying 53=some (.struct<|prog.fieldsOf 53):=by kernel_rfl
 rw[run_neq_struct,show(10000:Nat)=9999+1 from rfl,run_equalIn_agg w 9999 53 _ _ hS stoodInHeld53];simp only[Program.fieldsOf,underlying53]
 go_simp
 by_cases e0:a0=b0<;>by_cases e1:a1=b1<;>simp[*]
section
variable{C0:Cx prog nt}{T':TypeId}{a0 a1 b0 b1:Int}
theorem ahu(hg:bD ops sl gd=true)(hx:aN sl x=some (.g (.agg [.v (.int .i64 a0),.v (.int .i64 a1)])))(hy:aN sl y=some (.g (.agg [.v (.int .i64 b0),.v (.int .i64 b1)])))(hd:Nat.blt dst nt=true)
  (hk:GO C0 Q r F (m.add<|X2 ops gd x (.g<|.agg [.v (.int .i64 a0),.v (.int .i64 a1)]) y (.g<|.agg [.v (.int .i64 b0),.v (.int .i64 b1)]) dst<|.one<|bB<|!(decide (a0=b0)&&decide (a1=b1))) ops rest k ⟨(dst,.one (bB<|!(decide (a0=b0)&&decide (a1=b1))))::sl,hp⟩):GO C0 Q r F m ops (Oo dst (.binOp .neq 53 x y T') ty pos af gd::rest) k ⟨sl,hp⟩:=
 f2 hg (λ_ _ _ e e'=>Vr (us:=[.int .i64 a0,.int .i64 a1]) (vs:=[.int .i64 b0,.int .i64 b1]) U U eqGuardType53 (λw=>aoW a0 a1 b0 b1 w) e e' hd) hx hy U hk
theorem ahs(hg:bD ops sl gd=true)(hx:aN sl x=some (.g (.agg [.v (.int .i64 a0),.v (.int .i64 a1)])))(hy:aN sl y=some (.g (.agg [.v (.int .i64 b0),.v (.int .i64 b1)])))(hd:Nat.blt dst nt=true)
  (hk:GO C0 Q r F (m.add<|X2 ops gd x (.g<|.agg [.v (.int .i64 a0),.v (.int .i64 a1)]) y (.g<|.agg [.v (.int .i64 b0),.v (.int .i64 b1)]) dst<|.one<|bB<|(decide (a0=b0)&&decide (a1=b1))) ops rest k ⟨(dst,.one (bB<|(decide (a0=b0)&&decide (a1=b1))))::sl,hp⟩):GO C0 Q r F m ops (Oo dst (.binOp .eql 53 x y T') ty pos af gd::rest) k ⟨sl,hp⟩:=
 f2 hg (λ_ _ _ e e'=>Vr (us:=[.int .i64 a0,.int .i64 a1]) (vs:=[.int .i64 b0,.int .i64 b1]) U U eqGuardType53 (λw=>am9 a0 a1 b0 b1 w) e e' hd) hx hy U hk
end
theorem follows:prog.follows .mixedOrders=true:=by kernel_rfl
variable{p q:Prop}
theorem qG(h:q)(k:q->p:=by
 first
  | (show _->GF _ _ _ _ _ _;first
   | exact GF.frz frI (λ_ _ q=>q.cv (by((repeat(refine⟨U,?_⟩));first | exact ayS | fail)) (by((repeat(refine⟨U,?_⟩));first | exact ayS | fail)) U)
   | exact GF.frz frI (λ_ _ q=>q.ab5 1000 U U oM (by((repeat(refine⟨U,?_⟩));first | exact ayS | fail)) (by((repeat(refine⟨U,?_⟩));first | exact ayS | fail)) U)
   | exact GF.frz frI (λ_ _ q=>q.Vd 1000 U U (λ_=>oM) oM (by((repeat(refine⟨U,?_⟩));first | exact ayS | fail)) (by((repeat(refine⟨U,?_⟩));first | exact ayS | fail)) U)
   | exact GF.anb 1000 U teI (λ_=>oM))):p:=k h
theorem rJ(h:q)(k:q->p:=by
 first
  | (show _->GF _ _ _ _ _ _;first
   | exact GF.nL)
  | (show _->GO _ _ _ _ _ _ _ _ _;first
   | exact GO.nL)):p:=k h
theorem qF(h:q)(k:q->p:=by
 first
  | (show _->QE _ _ _ _ _ _ _;first | exact QE.aha | exact QE.c | exact QE.q | exact QE.s | exact QE.bNo U)
  | (show _->GF _ _ _ _ _ _;first
   | exact GF.seq
   | exact GF.reg
   | exact GF.drw follows
   | exact GF.skip
   | exact GF.block
   | exact GF.endBlock
   | exact GF.scope
   | exact GF.akh
   | exact GF.label
   | exact GF.exit
   | exact GF.Wb U
   | exact GF.Wa U
   | exact aj2 U (show _=true by assumption)
   | exact aj2 U (show _=false by assumption)
   | exact GF.acd loI (λ_ _ q=>q.cv (by((repeat(refine⟨U,?_⟩));first | exact ayS | fail)) (by((repeat(refine⟨U,?_⟩));first | exact ayS | fail)) U)
   | exact GF.acd loI (λ_ _ q=>q.ab5 1000 U U oM (by((repeat(refine⟨U,?_⟩));first | exact ayS | fail)) (by((repeat(refine⟨U,?_⟩));first | exact ayS | fail)) U))
  | (show _->GO _ _ _ _ _ _ _ _ _;first
   | exact GO.XQ
   | exact GO.am8 ayX
   | (show _->SG (.move _);first
    | exact f1 U (λ_ _ e=>kQ e U) U U
    | exact aeq U U U U)
   | (show _->SG (.assign _);first
    | exact eo U U
    | exact jI U uU iI U
    | exact f1 U (λ_ _ e=>iG e U) U U)
   | (show _->SG (.nilCheck _);first
    | exact Rn U U U
    | exact f1 U (λ_ _ e=>afm e U) U U
    | exact f1 U (λ_ _ e=>afl e U) U U)
   | (show _->SG (.fieldAddr _ _ _);first
    | exact aba U fI U U
    | exact aen U fI U U
    | exact aa9 U fI U U
    | exact abb 1000 U fI U U rI U ay6 U)
   | (show _->SG (.load _ _);first
    | exact F8 1000 U uU U U U Jo U U
    | exact Re 1000 U uU iI U U U Jo U U U
    | exact OU U uU U U U U U U
    | exact aep U uU iI U U U U U U
    | exact abh U uU U U U U
    | exact abi U uU iI U U U U U
    | exact abk 1000 U uU U U ay6 U rI U U U
    | exact abl 1000 U uU iI U U ay6 U rI U U U)
   | (show _->SG (.store _ _ _);first
    | exact HA 1000 U iI U U U Jo U
    | exact XV 1000 U iI U U U U Jo U
    | exact abr U iI U U U U U U
    | exact Rp U iI U U ayS U U U)
   | (show _->SG (.alloc _);first
    | exact aej U zI U U)
   | (show _->SG (.box _ _);first
    | exact Kf U U U U
    | exact ahm U U U U)
   | (show _->SG (.build _ _);first
    | exact jr U zI lI U U U
    | exact aaU U zI uU iI U U U)
   | (show _->SG (.buildSlice _ _ _);first
    | exact Ma U uU iI U
    | exact OT U uU iI U U U U U U U U U)
   | (show _->SG (.binOp .eql _ _ _ _);first
    | exact ahs U U U U
    | exact aa4 U uU U U U
    | exact aa8 1000 U uU U U rI U
    | exact aa7 U uU U U
    | exact aa5 U uU U U
    | exact akj U uU U U
    | exact aa6 U uU U U
    | exact f2 U (λ_ _ _ e e'=>PI e e' U) U U U
    | exact f2 U (λ_ _ _ e e'=>aik e e' U) U U U)
   | (show _->SG (.binOp .neq _ _ _ _);first
    | exact ahu U U U U
    | exact abm U uU U U
    | exact f2 U (λ_ _ _ e e'=>ais e e' U) U U U
    | exact f2 U (λ_ _ _ e e'=>ait e e' U) U U U)
   | (show _->SG (.binOp _ _ _ _ _);first
    | exact f2 U (λ_ _ _ e e'=>qZ e e' U) U U U
    | exact f2 U (λ_ _ _ e e'=>aiw e e' U) U U U
    | exact f2 U (λ_ _ _ e e'=>CU e e' U) U U U
    | exact f2 U (λ_ _ _ e e'=>aio e e' U) U U U
    | exact f2 U (λ_ _ _ e e'=>ain e e' U) U U U
    | exact f2 U (λ_ _ _ e e'=>Vt e e' U) U U U
    | exact f2 U (λ_ _ _ e e'=>aih e e' U) U U U
    | exact f2 U (λ_ _ _ e e'=>alr e e' U) U U U)
   | (show _->SG (.pick _ _ _);first
    | exact f2 U (λ_ _ _ e e'=>Si e e' U) U U U
    | exact f2' U (λ_ _ _ e e'=>Sh e e' U) U U U)
   | (show _->SG (.unOp _ _ _);first
    | exact f1 U (λ_ _ e=>KY e U) U U)
   | (show _->SG (.extract _ _);first
    | exact XU U U U U U)
   | (show _->SG (.call ⟨.builtin _,_,_⟩);first
    | exact aht 1000 U uU U U rI U U
    | exact f1 U (λ_ _ e=>Jy uU e U) U U
    | exact ang U uU U U U U
    | exact XR U uU iI U U U U U U
    | exact TV 1000 U uU iI U U U rI U U
    | exact XT 1000 U uU iI U U rI U U U U ayX
    | exact XS 1000 U uU iI U U U rI U ay2 ay2 U U ayX
    | exact akl U U U U
    | exact akk U U U U
    | exact ahr 1000 U U U mI U kI U kbI
    | exact anf 1000 U U U mI U kI U kbI U)
   | (show _->SG (.slice _ _ _ _ _);first
    | exact abp U uU iI U U U U
    | exact akm U uU iI U U U U U
    | exact aho 1000 U uU iI U U U U rI U U
    | exact ahp 1000 U uU iI U U U rI U U
    | exact ahq 1000 U uU iI U U U U U rI U U)
   | (show _->SG (.lookup _ _ _ _);first
    | exact Dv 1000 [] U U U mI U kI iI (λ_ _=>RD.nil _ _ _<|av5 _) U kbI U
    | exact Dv 1000 none U U U mI U kI iI (λ_ _=>RD.v _ U) U kbI U)
   | (show _->SG (.mapUpdate _ _ _ _);first
    | exact abu 1000 U U U mI U kI U kbI U
    | exact abu (v:=some _) 1000 U U U mI U kI U kbI U)
   | (show _->SG (.makeMap _ _);first
    | exact TX 1000 U U U ayX)
   | (show _->SG (.makeFunc _ _ _);first
    | exact Rk U U U U
    | exact Rf U U U
    | exact Rg U U U U)
   | (show _->SG (.indexAddr _ _ _);first
    | exact abf U uU iI U U U U
    | exact aeo U uU iI U U U
    | exact abg 1000 U uU iI U U U rI U U)
   | (show _->SG (.call ⟨.value<|.tmp _,_,_⟩);first
    | exact aa2 1000 U U U coI U U
    | exact Rb 1000 U Y0 cI U U U U hI U U
    | exact F7 1000 U D2 cI U U U U hI U ayX)
   | (show _->SG (.call _);first
    | exact aaY 1000 U Y0 cI U U U U
    | exact lC 1000 U D2 cI U U U U ayX
    | exact lC (ix:=()) 1000 U D2 cI U U U U ayX
    | exact amp (ix:=()) 1000 U D2 cI U U U oM U ayX
    | exact Wg 1000 U Y0 cI U U hI U U
    | exact Wg (ix:=()) 1000 U Y0 cI U U hI U U
    | exact aaV 1000 U D2 cI U U hI U
    | exact Wf 1000 U D2 cI U U hI U ayX
    | exact ahn U tI cI U U
    | exact aaZ 1000 U rvI cI U U U U
    | exact aek 1000 U D2 cI U U U (λ_ _=>oM) U ayX
    | exact Ra 1000 U Y0 cI U U U (λ_=>oM) U ayX
    | exact Ra (ix:=()) 1000 U Y0 cI U U U (λ_=>oM) U ayX
    | exact aa1 1000 U soI cI U U U coI oM U
    | exact F6 U csI cI U U ccI cI tZ.nil ayS U
    | exact F6 U csI cI U U ccI cI (tZ.cons U tZ.nil) ⟨U,ayS⟩ U
    | exact F6 U csI cI U U ccI cI (tZ.cons U (tZ.cons U tZ.nil)) ⟨U,U,ayS⟩ U)
   | exact GO.no U U U
   | exact GO.un U U
   | exact akn U U (show _=true by assumption)
   | exact akn U U (show _=false by assumption)
   | exact ao6 U (show _=true by assumption)
   | exact ao6 U (show _=false by assumption))):p:=k h
theorem rG{q2:Prop}(h:q)(h2:q2)(k:q->q2->p:=by
 first
  | (show _->_->GF _ _ _ _ _ _;first
   | exact am2 U)
  | (show _->_->GO _ _ _ _ _ _ _ _ _;first
   | exact anj U U)):p:=k h h2
theorem pq(k:p:=by
 first
  | (show GF _ _ _ _ _ _;first
   | (apply_assumption;exact(λ_ _ q=>q.cv (by((repeat(refine⟨U,?_⟩));first | exact ayS | fail)) (by((repeat(refine⟨U,?_⟩));first | exact ayS | fail)) U))
   | (apply_assumption;exact(λ_ _ q=>q.ab5 1000 U U oM (by((repeat(refine⟨U,?_⟩));first | exact ayS | fail)) (by((repeat(refine⟨U,?_⟩));first | exact ayS | fail)) U))
   | (apply_assumption;exact(λ_ _ q=>q.Vd 1000 U U (λ_=>oM) oM (by((repeat(refine⟨U,?_⟩));first | exact ayS | fail)) (by((repeat(refine⟨U,?_⟩));first | exact ayS | fail)) U))
   | exact Sv 1000 U U (VS.same λ_ _ _ h=>⟨(),h⟩) (λ_=>by((repeat(first | refine cH.tmp U ?_ | refine cH.own U U ?_ | refine cH.fH uU U U U U ?_ | refine cH.e6 uU iI U U U U U ?_));first | exact cH.nil | fail)) (λ_=>rfl)
   | exact Sv 1000 U U (VS.same λ_ _ _ h=>⟨(),_,h⟩) (λ_=>by((repeat(first | refine cH.tmp U ?_ | refine cH.own U U ?_ | refine cH.fH uU U U U U ?_ | refine cH.e6 uU iI U U U U U ?_));first | exact cH.nil | fail)) (λ_=>rfl)
   | exact Sv 1000 U U vsI (λ_=>by((repeat(first | refine cH.tmp U ?_ | refine cH.own U U ?_ | refine cH.fH uU U U U U ?_ | refine cH.e6 uU iI U U U U U ?_));first | exact cH.nil | fail)) (λ_=>rfl)
   | exact Sv 1000 U U (vsA<|by apply_assumption (transparency:=.default)) (λ_=>by((repeat(first | refine cH.tmp U ?_ | refine cH.own U U ?_ | refine cH.fH uU U U U U ?_ | refine cH.e6 uU iI U U U U U ?_));first | exact cH.nil | fail)) (λ_=>rfl)
   | exact Sv 1000 U U (VS.same λ_ _ _ h=>⟨_,h⟩) (λ_=>by((repeat(first | refine cH.tmp U ?_ | refine cH.own U U ?_ | refine cH.fH uU U U U U ?_ | refine cH.e6 uU iI U U U U U ?_));first | exact cH.nil | fail)) (λ_=>rfl)
   | exact Sv 1000 U U (VS.am7 (λ_=>oM) ay6 ay6 U) (λ_=>by((repeat(first | refine cH.tmp U ?_ | refine cH.own U U ?_ | refine cH.fH uU U U U U ?_ | refine cH.e6 uU iI U U U U U ?_));first | exact cH.nil | fail)) (λ_=>rfl)
   | exact alL 1000 U U (VS.same λ_ _ _ h=>⟨(),h⟩) (λ_=>rfl)
   | exact alL 1000 U U (VS.same λ_ _ _ h=>⟨(),_,h⟩) (λ_=>rfl)
   | exact apo U (by((repeat(first | refine cH.tmp U ?_ | refine cH.own U U ?_ | refine cH.fH uU U U U U ?_ | refine cH.e6 uU iI U U U U U ?_));first | exact cH.nil | fail)) U
   | exact GF.never)
  | (show GO _ _ _ _ _ _ _ _ _;first
   | exact GO.never)):p:=k
theorem wk(h:p:=by
 repeat' (first
  | refine qG ?_
  | refine qF ?_
  | refine rJ ?_
  | refine rG ?_ ?_
  | exact pq
  | intro _)):p:=h
theorem wkr(h:p:=by
 repeat' (first
  | (show SG (.assign _);first | refine eo U U ?_ | refine gC U uU iI U U U ?_)
  | refine qG ?_
  | refine qF ?_
  | refine rJ ?_
  | refine rG ?_ ?_
  | exact pq
  | intro _)):p:=h
theorem wkn(h:p:=by
 repeat' (first
  | (show SG (.alloc _);first | refine iK 1000 U zR U U ayX λ_=>?_)
  | (show SG (.box _ _);first | refine tQ 1000 U U U U ayX (λ_=>?_) | refine xA 1000 U U U U ayX λ_=>?_)
  | (show SG (.build _ _);first | refine jr U zR lI U U U ?_)
  | refine qG ?_
  | refine qF ?_
  | refine rJ ?_
  | refine rG ?_ ?_
  | exact pq
  | intro _
  | (show GF _ _ _ _ _ _;first | exact s8 1000 _ U U VS.new1 (by((repeat(first | refine cH.tmp U ?_ | refine cH.own U U ?_ | refine cH.fH uU U U U U ?_ | refine cH.e6 uU iI U U U U U ?_));first | exact cH.nil | fail)) U | exact s8 1000 (_,_) U U VS.new2 (by((repeat(first | refine cH.tmp U ?_ | refine cH.own U U ?_ | refine cH.fH uU U U U U ?_ | refine cH.e6 uU iI U U U U U ?_));first | exact cH.nil | fail)) U | exact s8 1000 (_,_) U U VS.YG (by((repeat(first | refine cH.tmp U ?_ | refine cH.own U U ?_ | refine cH.fH uU U U U U ?_ | refine cH.e6 uU iI U U U U U ?_));first | exact cH.nil | fail)) U | exact s8 1000 _ U U (VS.newR ayZ U) (by((repeat(first | refine cH.tmp U ?_ | refine cH.own U U ?_ | refine cH.fH uU U U U U ?_ | refine cH.e6 uU iI U U U U U ?_));first | exact cH.nil | fail)) U))):p:=h
section
variable{P:Program}{C0:Cx P nt}{st:St}{op:Op}{z:Operand}
theorem neZ{n:Int}(h:(!decide (n=0))=true):n≠0:=by simpa using h
theorem abe{f:UInt8->Option R}{T:Nat}{s:ByteArray}{kd:IntKind}{i:Int}(hg:bD ops sl gd=true)(hT:P.underlying T=some .string)(hx:aN sl x=some (bS s))(hy:aN sl y=some (bI kd i))(hd:Nat.blt dst nt=true)
  (hk:∀b,tu s i=some b->GO C0 Q r (f b) (m.add<|X2 ops gd x (bS s) y (bI kd i) dst<|.one<|bI .u8 (b.toNat:Int)) ops rest k ⟨(dst,.one (bI .u8 (b.toNat:Int)))::sl,hp⟩):GO C0 Q r ((tu s i).bind f) m ops (Oo dst (.index T x y) ty pos af gd::rest) k ⟨sl,hp⟩:=
 GO.bind λb hb=>f2 hg (λ_ _ _ e e'=>YO hT (Xc hb).1 (Xc hb).2 e e' hd) hx hy U (hk b hb)
theorem aki{f:ByteArray->Option R}{T T':Nat}{s t:ByteArray}(hg:bD ops sl gd=true)(hx:aN sl x=some (bS s))(hy:aN sl y=some (bS t))(hd:Nat.blt dst nt=true)
  (hk:∀u,P9 s t=some u->GO C0 Q r (f u) (m.add<|X2 ops gd x (bS s) y (bS t) dst<|.one<|bS u) ops rest k ⟨(dst,.one (bS u))::sl,hp⟩):GO C0 Q r ((P9 s t).bind f) m ops (Oo dst (.binOp .add T x y T') ty pos af gd::rest) k ⟨sl,hp⟩:=
 GO.bind λu hu=>f2 hg (λ_ _ _ e e'=>afg hu e e' hd) hx hy U (hk u hu)
theorem abt{S E T:TypeId}{n:Int}(hg:bD ops sl gd=true)(hS:P.underlying S=some (.slice E))(hE:P.underlying E=some (.int .u8))(hT:P.underlying T=some .string)(hx:aN sl x=some (.g (.d (.sl 1 [[.v (.int .u8 n)]]))))(hd:Nat.blt dst nt=true)
  (hk:GO C0 Q r F (m.add<|X1 ops gd x (.g<|.d<|.sl 1 [[.v (.int .u8 n)]]) dst<|.one<|bS<|bytesOf [n]) ops rest k ⟨(dst,.one (bS<|bytesOf [n]))::sl,hp⟩):GO C0 Q r F m ops (Oo dst (.convert S T x) ty pos af gd::rest) k ⟨sl,hp⟩:=
 f1 hg (λ_ _ e=>YX (ns:=[n]) hS hE hT U e hd) hx U hk
theorem Ri{f k1 k2 k3:Nat}(hg:bD ops sl gd=true)(hx:aN sl x=some (.ptr k1 0))(hy:aN sl y=some (.ptr k2 0))(hz:aN sl z=some (.ptr k3 0))(hd:Nat.blt dst nt=true)
  (hk:GO C0 Q r F (m.add ⟨gH ops gd++(ey x (.ptr k1 0)++(ey y (.ptr k2 0)++ey z (.ptr k3 0))),[],[(dst,.one (.yh f [k1,k2,k3]))],[]⟩) ops rest k ⟨(dst,.one (.yh f [k1,k2,k3]))::sl,hp⟩):GO C0 Q r F m ops (Oo dst (.makeFunc (.func f) #[] #[x,y,z]) ty pos af gd::rest) k ⟨sl,hp⟩:=
 let⟨e1,h1⟩:=aJ hx;let⟨e2,h2⟩:=aJ hy;let⟨e3,h3⟩:=aJ hz
 GO.one (λ_=>PL e1 e2 e3 hd) hg (h1.both<|h2.both h3) ayS (by simp[SV.calm,BV.calm]) U hk
theorem aei:∀{xs:List Operand}{gs:List RG}{Rs:List (Nat×SV)},L1 xs gs Rs->xT P xs gs Rs []:=λe=>by
 induction e with
 | nil=>exact .nil
 | cons h _ ih=>simpa using xT.cons (QC.g h) ih
theorem Hz{α:Type}{X:Option α}{f:α->Option R}{g t:Nat}{ks:List Nat}{bs gs args:List RG}{Rh:List (Nat×Option HE)}{xs:List Operand}{tys:Array TypeId}{res:α->RS}(hg:bD ops sl gd=true)(i:Z7 P X g args res)(c:cG P g)(ht:aN sl (.tmp t)=some (.yh g ks))(ha:pM sl xs=some bs)(hc:tZ ks gs Rh)(he:args=bs++gs)(hs:∀r,(res r).sc=true)(hh:dn hp Rh)(hd:Nat.blt dst nt=true)
  (hk:∀u,X=some u->GO C0 Q r (f u) (m.add ⟨gH ops gd++((t,.one (.yh g ks))::vM xs bs),Rh,[(dst,(res u).sv)],[]⟩) ops rest k ⟨(dst,(res u).sv)::sl,hp⟩):GO C0 Q r (X.bind f) m ops (Oo dst (vB t xs tys) ty pos af gd::rest) k ⟨sl,hp⟩:=
 GO.bind λu hu=>by
  subst he;obtain⟨e,q⟩:=fJ ha;obtain⟨_,q1⟩:=aJ ht;have hq:bK sl ((t,.one (.yh g ks))::vM xs bs):=⟨q1.1,q⟩;exact GO.one (Rh:=Rh) (λC=>by
   have:=Vq (C:=C) (ty:=ty) (pos:=pos) (af:=af) (gd:=gd) (tys:=tys) (t:=t) (R:=vM xs bs) (Rh:=[]) c (i u hu) (hs u) U hc (aei e) hd;simpa using this) hg hq hh aAr U (hk u hu)
end
theorem alk(a0:ByteArray)(a1:Int)(a2:Int)(b0:ByteArray)(b1:Int)(b2:Int)(w:World):(binOp .neq 101 (.agg #[.string a0,.int .i64 a1,.int .i64 a2]) (.agg #[.string b0,.int .i64 b1,.int .i64 b2])).run prog w= .ok (.bool (!(decide (a0=b0)&&decide (a1=b1)&&decide (a2=b2)))) w:=by
 have u3:=underlying3;have z3:=sizeOf3;have g3:=isAgg3;have u9:=underlying9;have z9:=sizeOf9;have g9:=isAgg9;have u53:=underlying53;have z53:=sizeOf53;have g53:=isAgg53;have p53:=stoodInHeld53;have hS:prog.underlying 101=some (.struct<|prog.fieldsOf 101):=by kernel_rfl
 rw[run_neq_struct,show(10000:Nat)=9999+1 from rfl,run_equalIn_agg w 9999 101 _ _ hS stoodInHeld101];simp only[Program.fieldsOf,underlying101]
 go_simp
 by_cases e0:a0=b0<;>by_cases e1:a1=b1<;>by_cases e2:a2=b2<;>simp[*,toList_inj]
section
variable{C0:Cx prog nt}{T':TypeId}{a0 b0:ByteArray}{a1 a2 b1 b2:Int}
theorem aer(hg:bD ops sl gd=true)(hx:aN sl x=some (.g (.agg [.v (.string a0),.v (.int .i64 a1),.v (.int .i64 a2)])))(hy:aN sl y=some (.g (.agg [.v (.string b0),.v (.int .i64 b1),.v (.int .i64 b2)])))(hd:Nat.blt dst nt=true)
  (hk:GO C0 Q r F (m.add<|X2 ops gd x (.g<|.agg [.v (.string a0),.v (.int .i64 a1),.v (.int .i64 a2)]) y (.g<|.agg [.v (.string b0),.v (.int .i64 b1),.v (.int .i64 b2)]) dst<|.one<|bB<|!(decide (a0=b0)&&decide (a1=b1)&&decide (a2=b2))) ops rest k ⟨(dst,.one (bB<|!(decide (a0=b0)&&decide (a1=b1)&&decide (a2=b2))))::sl,hp⟩):GO C0 Q r F m ops (Oo dst (.binOp .neq 101 x y T') ty pos af gd::rest) k ⟨sl,hp⟩:=
 f2 hg (λ_ _ _ e e'=>Vr (us:=[.string a0,.int .i64 a1,.int .i64 a2]) (vs:=[.string b0,.int .i64 b1,.int .i64 b2]) U U eqGuardType101 (λw=>alk a0 a1 a2 b0 b1 b2 w) e e' hd) hx hy U hk
end
theorem VI(h:q)(k:q->p:=by
 first
  | (show _->SG (.binOp _ _ _ _ _);first
    | exact f2 U (λ_ _ _ e e'=>aip e e' U) U U U
    | exact f2 U (λ_ _ _ e e'=>ao4 e e' U) U U U
    | exact f2 U (λ_ _ _ e e'=>aim e e' U) U U U
    | exact f2 U (λ_ _ _ e e'=>ail e e' U) U U U
    | exact f2 U (λ_ _ _ e e'=>air e e' U) U U U
    | exact f2 U (λ_ _ _ e e'=>acw (awf azJ) e e' U) U U U
    | exact f2 U (λ_ _ _ e e'=>aiv (awf azJ) e e' U) U U U
    | exact f2 U (λ_ _ _ e e'=>CV (neZ azJ) e e' U) U U U
    | exact f2 U (λ_ _ _ e e'=>aiu (neZ azJ) e e' U) U U U
    | exact f2 U (λ_ _ _ e e'=>aij uU e e' U) U U U
    | exact f2 U (λ_ _ _ e e'=>ao5 uU e e' U) U U U
    | exact amq U U U U
    | exact aer U U U U
    | exact aki U U U U)
  | (show _->SG (.convert _ _ _);first
    | exact f1 U (λ_ _ e=>KW uU uU e U) U U
    | exact abt U uU uU uU U U)
  | (show _->SG (.index _ _ _);exact abe U uU U U U)
  | (show _->SG (.makeFunc _ _ _);exact Ri U U U U U)
  | (show _->SG (.call ⟨.builtin _,_,_⟩);exact f1 U (λ_ _ e=>afj uU e U) U U)
  | (show _->SG (.call ⟨.value<|.tmp _,_,_⟩);first
    | exact Hz U tI cI U U tZ.nil U (λ_=>rfl) ayS U
    | exact Hz U tI cI U U (tZ.cons U tZ.nil) U (λ_=>rfl) ⟨U,ayS⟩ U
    | exact Hz U tI cI U U (tZ.cons U (tZ.cons U (tZ.cons U tZ.nil))) U (λ_=>rfl) ⟨U,U,U,ayS⟩ U)
  | (show _->SG (.call _);first
    | exact F6 U csI cI U U ccI cI (tZ.cons U<|tZ.cons U<|tZ.cons U tZ.nil) ⟨U,U,U,ayS⟩ U
    | exact F6 U csI cI U U ccI cI (tZ.cons U (tZ.cons U (tZ.cons U (tZ.cons U tZ.nil)))) ⟨U,U,U,U,ayS⟩ U)):p:=k h
theorem jm(h:p:=by
 repeat' (first
  | refine qG ?_
  | refine qF ?_
  | refine VI ?_
  | refine rJ ?_
  | refine rG ?_ ?_
  | exact pq
  | intro _)):p:=h
theorem wkq(h:p:=by
 repeat' (first
  | (show SG (.assign _);first | refine eo U U ?_ | refine gC U uU iI U U U ?_)
  | refine qG ?_
  | refine qF ?_
  | refine VI ?_
  | refine rJ ?_
  | refine rG ?_ ?_
  | exact pq
  | intro _)):p:=h
end Go.Ark
namespace Go.Ab
open Go Go.RowKit
class CtN(P:Program){α:Type}(X:Option α)(f:outParam Nat)(args:outParam (List RG))(T size:outParam Nat)(es:outParam (α->List (List DV))):Prop where
 h:∀r,X=some r->Ct P f args (.new T size<|es r)
variable{P:Program}{α:Type}{args:List RG}{T size:Nat}{X:Option α}{es:α->List (List DV)}
theorem cnI{f:Nat}[i:CtN P X f args T size es]:CtN P X f args T size es:=i
class CtI(P:Program){α:Type}(X:Option α)(f:outParam Nat)(T size:outParam Nat)(l:outParam (List (List DV)))(args:outParam (List RG))(es:outParam (α->List (List DV))):Prop where
 h:∀r,X=some r->Ct P f (.row T size l::args) (.new T size<|es r)/\Nat.blt l.length (es r).length=true
variable{l:List (List DV)}
theorem ciI{f:Nat}[i:CtI P X f T size l args es]:CtI P X f T size l args es:=i
class CtK(P:Program){α:Type}(X:Option α)(f:outParam Nat)(T size:outParam Nat)(l:outParam (List (List DV)))(args:outParam (List RG))(es:outParam (α->List (List DV))):Prop where
 h:∀r,X=some r->Ct P f (.row T size l::args) (.new T size<|es r)
theorem ckI{f:Nat}[i:CtK P X f T size l args es]:CtK P X f T size l args es:=i
class CtD(P:Program){α:Type}(F:Option α){X Y:outParam Type}(g:outParam Nat)(T size:outParam Nat)(l:outParam (List (List DV)))(enc:outParam (X->AG))(val:outParam (Y->Value))(p:outParam (X->Option Y))(es:outParam (α->List (List DV))):Prop where
 h:∀r,F=some r->Ct P g [.row T size l,.sem (rq enc val p)] (.new T size<|es r)
variable{g:Nat}
theorem cdI{X Y:Type}{F:Option α}{enc:X->AG}{val:Y->Value}{p:X->Option Y}[i:CtD P F g T size l enc val p es]:CtD P F g T size l enc val p es:=i
variable{R:Type}{n:Nat}{F:Option R}
theorem fV{f:Nat}{fn:Func}{code:Code}{res:R->RS}(hf:P.funcs[f]? =some fn)(hb:fn.body=some code)(hn:fn.ntmps=n)(hle:Nat.ble args.length n=true)(hrow:args.all (λg=>match g with | .g _=>true | _=>false)=true)
  (h:∀(r:R)(C0:Cx P n),GF C0 (λr=>bodyPost P fn<|BL C0.M C0.K C0.w0<|res r) r F [.c code] ⟨m7 0 args,[]⟩):dW P F f args res:=⟨λr hF=>Ct.iB hf hb hn hle hrow hF<|h r⟩
theorem E3{f:Nat}{fn:Func}{code:Code}{res:R->RS}(hf:P.funcs[f]? =some fn)(hb:fn.body=some code)(hn:fn.ntmps=n)(hle:Nat.ble args.length n=true)(hrow:args.all (λg=>match g with | .g _=>true | .ep _=>true | _=>false)=true)
  (h:∀(r:R)(C0:Cx P n),GF C0 (λr=>bodyPost P fn<|BL C0.M C0.K C0.w0<|res r) r F [.c code] ⟨m7 0 args,[]⟩):dW P F f args res:=⟨λr hF=>Ct.aoY hf hb hn hle hrow hF<|h r⟩
def OL(k:Nat):List Nat->SL->SL
 | _,[]=>[]
 | d,p::l=>if d.any (Nat.beq p.1)then OL k d l else if p.2.ids.all λi=>!Nat.beq i k then p::OL k (p.1::d) l else OL k (p.1::d) l
def Ap(k:Nat)(sl:SL):SL:=OL k [] sl
variable{xs:List Operand}{tys:Array TypeId}{kk:Nat}{f:α->Option R}
section
variable{nt:Nat}{C0:Cx P nt}{Q:R->Exit->Act->World->Prop}{r:R}{m:Mode}{k:List KI}{ops:Array Oper}{rest:List Oper}{sl:SL}{hp:HL}{st:St}{dst:Nat}{ty:TypeId}{pos:String}{af:Array Edge}{gd:Option (Nat×Bool)}{x y z:Operand}
theorem aaT:∀{xs:List Operand}{gs:List RG}{Rs:List (Nat×SV)},L1 xs gs Rs->Oc P xs gs Rs []:=λe=>by
 induction e with
 | nil=>exact .nil
 | cons h _ ih=>exact Oc.g h ih
theorem aaW(hg:bD ops sl gd=true)(i:CtN P X g args T size es)(c:cG P g)(ha:pM sl xs=some args)(hn:aE hp (dst+100)=none)(hd:Nat.blt dst nt=true)
  (hk:∀u,X=some u->GO C0 Q r (f u) (m.add ⟨gH ops gd++vM xs args,[(dst+100,none)],[(dst,.one (.own (dst+100)<|es u))],[(dst+100,some (.row T size (es u) true))]⟩) ops rest k ⟨(dst,.one (.own (dst+100)<|es u))::sl,(dst+100,some (.row T size (es u) true))::hp⟩):GO C0 Q r (X.bind f) m ops (Oo dst (gO g xs tys) ty pos af gd::rest) k ⟨sl,hp⟩:=
 GO.bind λu hu=>let⟨e,q⟩:=fJ ha
  GO.one (λ_=>Fl (k:=dst+100) c (i.h u hu) e hd<|by simp) hg q ⟨hn,ayS⟩ U U (hk u hu)
theorem ael(hg:bD ops sl gd=true)(i:CtI P X g T size l args es)(c:cG P g)(hx:aN sl x=some (.own kk l))(ha:pM sl xs=some args)(hh:aE hp kk=some (.row T size l true))(hd:Nat.blt dst nt=true)
  (hk:∀u,X=some u->GO C0 Q r (f u) (m.add ⟨gH ops gd++(ey x (.own kk l)++vM xs args),[(kk,some (.row T size l true))],[(dst,.one (.own kk<|es u))],[(kk,some (.row T size (es u) true))]⟩) ops rest k ⟨(dst,.one (.own kk<|es u))::sl,(kk,some (.row T size (es u) true))::hp⟩):GO C0 Q r (X.bind f) m ops (Oo dst (gO g (x::xs) tys) ty pos af gd::rest) k ⟨sl,hp⟩:=
 GO.bind λu hu=>by
  obtain⟨e1,q1⟩:=aJ hx;obtain⟨e2,q2⟩:=fJ ha;exact GO.one (λ_=>IL c (i.h u hu).1 (i.h u hu).2 e1 (aaT e2) hd) hg (q1.both q2) ⟨hh,ayS⟩ U U (hk u hu)
theorem GO.cut{Rs:List (Nat×SV)}{Rh:List (Nat×Option HE)}(i:∀u,X=some u->Ct P g (.row T size l::args) (.new T size (es u)))(c:cG P g)(hx:aN sl x=some (.own kk l))(hxs:Oc P xs args Rs Rh)(hq:bK sl Rs)(hh:dn hp ((kk,some (.row T size l true))::Rh))(hd:Nat.blt dst nt=true)
  (U3:bK sl (Ap kk sl)) (hno:Vl kk (Ap kk sl) hp=true)
  (hk:∀u,X=some u->GO C0 Q r (f u) .s ops rest k ⟨(dst,.one (.own kk<|es u))::Ap kk sl,(kk,some (.row T size (es u) true))::hp⟩):GO C0 Q r (X.bind f) .s ops (Oo dst (gO g (x::xs) tys) ty pos af none::rest) k ⟨sl,hp⟩:=⟨λhr a w q=>by
 obtain⟨u,hu,hf⟩:=avQ.1 hr;obtain⟨C,σ,lk,ob,c1,c2,hrel⟩:=q;obtain⟨e1,q1⟩:=aJ hx;refine(G.ad7 (C:=C) c (i u hu) e1 hxs hd (q1.both hq) hh U3 hno ⟨λa w r'=>(hk u hu).go hf a w ⟨C,σ,lk,ob.sub (aie (Wh:=[(kk,some (.row T size (es u) true))]) U),Nc (Ws:=[(dst,_)]) U λt sv ht=>c1 t sv (U3.mem (wP ht)),aat (Wh:=[(kk,some (.row T size (es u) true))]) U c2,r'⟩⟩).go a w hrel⟩
theorem aem(i:CtK P X g T size l args es)(c:cG P g)(hx:aN sl x=some (.own kk l))(ha:pM sl xs=some args)(hh:aE hp kk=some (.row T size l true))(hd:Nat.blt dst nt=true)(U3:bK sl (Ap kk sl))(hno:Vl kk (Ap kk sl) hp=true)
  (hk:∀u,X=some u->GO C0 Q r (f u) .s ops rest k ⟨(dst,.one (.own kk<|es u))::Ap kk sl,(kk,some (.row T size (es u) true))::hp⟩):GO C0 Q r (X.bind f) .s ops (Oo dst (gO g (x::xs) tys) ty pos af none::rest) k ⟨sl,hp⟩:=
 let⟨e2,q2⟩:=fJ ha
 GO.cut i.h c hx (aaT e2) q2 ⟨hh,ayS⟩ hd U3 hno hk
theorem F5{X Y:Type}{Fx:Option α}{fn:Nat}{ks:List Nat}{gs:List RG}{Rh:List (Nat×Option HE)}{enc:X->AG}{val:Y->Value}{p:X->Option Y}(i:CtD P Fx g T size l enc val p es)(c:cG P g)
  (hx:aN sl x=some (.own kk l)) (hy:aN sl y=some (.yh fn ks)) (j:BU P enc val p fn gs) (cf:cG P fn) (hc:tZ ks gs Rh) (hh:dn hp ((kk,some (.row T size l true))::(Rh++ []))) (hd:Nat.blt dst nt=true) (U3:bK sl (Ap kk sl)) (hno:Vl kk (Ap kk sl) hp=true)
  (hk:∀u,Fx=some u->GO C0 Q r (f u) .s ops rest k ⟨(dst,.one (.own kk<|es u))::Ap kk sl,(kk,some (.row T size (es u) true))::hp⟩):GO C0 Q r (Fx.bind f) .s ops (Oo dst (gO g [x,y] tys) ty pos af none::rest) k ⟨sl,hp⟩:=by
 obtain⟨e2,q2⟩:=aJ hy;exact GO.cut i.h c hx (Oc.yh (P:=P) (Φ:=rq enc val p) e2 hc cf (λargs v⟨x0,b,h1,h2,h3⟩=>by subst h1 h3;exact j.h x0 b h2) Oc.nil) (q2.both ayS) hh hd U3 hno hk
theorem abc{l:List α}{E bytes:Nat}{zz:Value}{kd:IntKind}{i:Int}(hg:bD ops sl gd=true)(hT:P.underlying T=some (.array n E))(hI:Info P E zz size bytes)(hx:aN sl x=some (.ptr kk 0))(hy:aN sl y=some (bI kd i))(hd:Nat.blt dst nt=true)
  (hk:∀u,Ol n l i=some u->GO C0 Q r (f u) (m.add<|X2 ops gd x (.ptr kk 0) y (bI kd i) dst<|.one<|.ptr kk<|i.toNat*size) ops rest k ⟨(dst,.one (.ptr kk<|i.toNat*size))::sl,hp⟩):GO C0 Q r ((Ol n l i).bind f) m ops (Oo dst (.indexAddr T x y) ty pos af gd::rest) k ⟨sl,hp⟩:=
 GO.bind λu hu=>f2 hg (λ_ _ _ e e'=>NP hT hI (Om hu).1 (Om hu).2.1 e e' hd) hx hy U (hk u hu)
theorem abj{l:List α}{u:α}{en:α->List DV}{d:DV}{i:Int}{t:TypeId}{td:TypeDesc}{cs:List BV}(h:Ol n l i=some u)(hg:bD ops sl gd=true)(hU:P.underlying t=some td)(hA:qJ td=false)(hx:aN sl x=some (.ptr kk (i.toNat*1)))(hh:aE hp kk=some (.blk T cs))(he:cs=dat (l.flatMap en))(hs:∀x,(en x).length=1)(hc:en u= [d])(hd:Nat.blt dst nt=true)
  (hk:GO C0 Q r F (m.add ⟨gH ops gd++ey x (.ptr kk<|i.toNat*1),[(kk,some (.blk T cs))],[(dst,.one (.g<|.d d))],[]⟩) ops rest k ⟨(dst,.one (.g<|.d d))::sl,hp⟩):GO C0 Q r F m ops (Oo dst (.load t x) ty pos af gd::rest) k ⟨sl,hp⟩:=
 OU hg hU hA hx hh (by subst he;exact adY h hs hc) U hd hk
end
end Go.Ab
namespace Go.Ab
open Go Go.RowKit
variable{c:Bool}{T:Nat}{s:ByteArray}
section
variable{P:Program}{nt:Nat}{R:Type}{C0:Cx P nt}{Q:R->Exit->Act->World->Prop}{r:R}{F:Option R}{m:Mode}{k:List KI}{ops:Array Oper}{rest:List Oper}{sl:SL}{hp:HL}{st:St}{dst:Nat}{ty:TypeId}{pos:String}{af:Array Edge}{gd:Option (Nat×Bool)}{op:Op}{x y z u:Operand}
theorem GO.skT{X Y:Option R}(hc:c=true)(h:GO C0 Q r X m ops rest k st):GO C0 Q r (if c=true then X else Y) m ops rest k st:=by subst hc;simpa using h
theorem GF.skF{X Y:Option R}(hc:c=false)(h:GF C0 Q r Y k st):GF C0 Q r (if c=true then X else Y) k st:=by subst hc;simpa using h
theorem GF.skT{X Y:Option R}(hc:c=true)(h:GF C0 Q r X k st):GF C0 Q r (if c=true then X else Y) k st:=by subst hc;simpa using h
theorem Rj{f k1 k2 k3 k4:Nat}(hg:bD ops sl gd=true)(hx:aN sl x=some (.ptr k1 0))(hy:aN sl y=some (.ptr k2 0))(hz:aN sl z=some (.ptr k3 0))(hu:aN sl u=some (.ptr k4 0))(hd:Nat.blt dst nt=true)
  (hk:GO C0 Q r F (m.add ⟨gH ops gd++(ey x (.ptr k1 0)++(ey y (.ptr k2 0)++(ey z (.ptr k3 0)++ey u (.ptr k4 0)))),[],[(dst,.one (.yh f [k1,k2,k3,k4]))],[]⟩) ops rest k ⟨(dst,.one (.yh f [k1,k2,k3,k4]))::sl,hp⟩):GO C0 Q r F m ops (Oo dst (.makeFunc (.func f) #[] #[x,y,z,u]) ty pos af gd::rest) k ⟨sl,hp⟩:=
 let⟨e1,h1⟩:=aJ hx;let⟨e2,h2⟩:=aJ hy;let⟨e3,h3⟩:=aJ hz;let⟨e4,h4⟩:=aJ hu
 GO.one (λ_=>PM e1 e2 e3 e4 hd) hg (h1.both<|h2.both<|h3.both h4) ayS (by simp[SV.calm,BV.calm]) U hk
theorem aet(hg:bD ops sl gd=true)(hT:P.underlying T=some .string)(hx:aN sl x=some (bS s))(hn:aE hp (dst+100)=none)(hd:Nat.blt dst nt=true)
  (hk:GO C0 Q r F (m.add ⟨gH ops gd++ey x (bS s),[(dst+100,none)],[(dst,.one (.ptr (dst+100) 0))],[(dst+100,some (.it s 0))]⟩) ops rest k ⟨(dst,.one (.ptr (dst+100) 0))::sl,(dst+100,some (.it s 0))::hp⟩):GO C0 Q r F m ops (Oo dst (.range T x) ty pos af gd::rest) k ⟨sl,hp⟩:=
 let⟨e,h⟩:=aJ hx;GO.one (λ_=>acv (k:=dst+100) hT e hd<|by simp) hg h ⟨hn,ayS⟩ U U hk
theorem ahv{X Y:Option R}{n p:Nat}(hg:bD ops sl gd=true)(hx:aN sl x=some (.ptr n 0))(hh:aE hp n=some (.it s p))(hd:Nat.blt dst nt=true)
  (h1:decide (p<s.size)=true->GO C0 Q r X (m.add ⟨gH ops gd++ey x (.ptr n 0),[(n,some (.it s p))],[(dst,.eV [bB true,bI .i64 (p:Int),bI .i32 ((Utf8.decode s p).1:Int)])],[(n,some (.it s<|p+(Utf8.decode s p).2))]⟩) ops rest k ⟨(dst,.eV [bB true,bI .i64 (p:Int),bI .i32 ((Utf8.decode s p).1:Int)])::sl,(n,some (.it s<|p+(Utf8.decode s p).2))::hp⟩)
  (h2:decide (p<s.size)=false->GO C0 Q r Y (m.add ⟨gH ops gd++ey x (.ptr n 0),[(n,some (.it s p))],[(dst,.eV [bB false])],[]⟩) ops rest k ⟨(dst,.eV [bB false])::sl,hp⟩):
  GO C0 Q r (if decide (p<s.size)=true then X else Y) m ops (Oo dst (.next x true) ty pos af gd::rest) k ⟨sl,hp⟩:=
 let⟨e,h⟩:=aJ hx
 GO.ite (λhb=>GO.one (λ_=>acu hb e hd) hg h ⟨hh,ayS⟩ U U<|h1 hb) λhb=>GO.one (λ_=>acs hb e hd) hg h ⟨hh,ayS⟩ U U (h2 hb)
theorem abq{f:ByteArray->Option R}{kl kh:IntKind}{lo hi:Int}(hg:bD ops sl gd=true)(hT:P.underlying T=some .string)(hx:aN sl x=some (bS s))(hy:aN sl y=some (bI kl lo))(hz:aN sl z=some (bI kh hi))(hd:Nat.blt dst nt=true)
  (hk:∀t,Ib s lo hi=some t->GO C0 Q r (f t) (m.add ⟨gH ops gd++(ey x (bS s)++(ey y (bI kl lo)++ey z (bI kh hi))),[],[(dst,.one (bS t))],[]⟩) ops rest k ⟨(dst,.one (bS t))::sl,hp⟩):GO C0 Q r ((Ib s lo hi).bind f) m ops (Oo dst (.slice T x (some y) (some z) none) ty pos af gd::rest) k ⟨sl,hp⟩:=
 GO.bind λt ht=>let⟨e1,h1⟩:=aJ hx;let⟨e2,h2⟩:=aJ hy;let⟨e3,h3⟩:=aJ hz
  GO.one (λ_=>YU e2 e3 ht hT e1 hd) hg (h1.both<|h2.both h3) ayS U U (hk t ht)
theorem abo{α:Type}{l:List α}{e:α->List DV}{f:List α->Option R}{T E:TypeId}{zz:Value}{size bytes:Nat}{es:List (List DV)}{hi:Int}(hg:bD ops sl gd=true)(hT:P.underlying T=some (.slice E))(hI:Info P E zz size bytes)(hx:aN sl x=some (.g (.d (.sl size es))))(he:es=l.map e)(hy:aN sl y=some (bI .i64 hi))(hz:aN sl z=some (bI .i64 hi))(hd:Nat.blt dst nt=true)
  (hk:∀l',sub l 0 hi=some l'->GO C0 Q r (f l') (m.add ⟨gH ops gd++(ey x (.g<|.d<|.sl size es)++(ey y (bI .i64 hi)++ey z (bI .i64 hi))),[],[(dst,.one (.cp size<|l'.map e))],[]⟩) ops rest k ⟨(dst,.one (.cp size<|l'.map e))::sl,hp⟩):GO C0 Q r ((sub l 0 hi).bind f) m ops (Oo dst (.slice T x none (some y)<|some z) ty pos af gd::rest) k ⟨sl,hp⟩:=
 GO.bind λl' hl=>let⟨e1,h1⟩:=aJ hx;let⟨e2,h2⟩:=aJ hy;let⟨e3,h3⟩:=aJ hz
  by subst he;exact GO.one (λ_=>YT hT hI (uJ hl e).1 (uJ hl e).2.1 (uJ hl e).2.2 e1 e2 e3 hd) hg (h1.both<|h2.both h3) ayS U U (hk l' hl)
theorem aaX{α:Type}{X:Option α}{f:α->Option R}{g size kk:Nat}{es:List (List DV)}{ex:Bool}{tys:Array TypeId}{res:α->RS}(hg:bD ops sl gd=true)(i:Z7 P X g [.g (.d (.sl size es))] res)(c:cG P g)(hs:∀r,(res r).sc=true)(hx:aN sl x=some (.own kk es))(hh:aE hp kk=some (.row T size es ex))(hd:Nat.blt dst nt=true)
  (hk:∀u,X=some u->GO C0 Q r (f u) (m.add ⟨gH ops gd++ey x (.own kk es),[(kk,some (.row T size es ex))],[(dst,(res u).sv)],[]⟩) ops rest k ⟨(dst,(res u).sv)::sl,hp⟩):GO C0 Q r (X.bind f) m ops (Oo dst (gO g [x] tys) ty pos af gd::rest) k ⟨sl,hp⟩:=
 GO.bind λu hu=>by
  obtain⟨e,q⟩:=aJ hx;have hq:xT P [x] [.g (.d<|.sl size es)] (ey x<|.own kk es) [(kk,some (.row T size es ex))]:=by simpa using xT.cons (QC.own (P:=P) (ex:=ex) (T:=T) e) xT.nil
  exact GO.one (λ_=>nC c (i u hu) (hs u) U hq hd) hg q ⟨hh,ayS⟩ aAr U (hk u hu)
end
end Go.Ab
namespace Go.Ark
open Go Go.Ab Go.RowKit Go.Proofs
variable{p q:Prop}
theorem Xf(h:q)(k:q->p:=by
 first
  | (show _->SG (.binOp _ _ _ _ _);exact f2 U (λ_ _ _ e e'=>YI e e' U) U U U)
  | (show _->SG (.indexAddr _ _ _);exact abc U uU iI U U U)
  | (show _->SG (.load _ _);exact abj (en:=ay) ay2 U uU U U U U (λ_=>rfl) U U)
  | (show _->SG (.range _ _);exact aet U uU U U U)
  | (show _->SG (.slice _ _ _ _ _);first | exact abq U uU U U U U | exact abo U uU iI U U U U U)
  | (show _->SG (.makeFunc _ _ _);exact Rj U U U U U U)
  | (show _->SG (.call ⟨.builtin _,_,_⟩);exact Nj (e:=aj) U uU iI U U U U U U U)
  | (show _->SG (.call _);first
    | exact aaW U cnI cI U U U
    | exact ael U ciI cI U U U U
    | exact aem ckI cI U U U U (by((repeat(refine⟨U,?_⟩));first | exact ayS | fail)) U
    | exact F5 cdI cI U U ccI cI tZ.nil ⟨U,ayS⟩ U (by((repeat(refine⟨U,?_⟩));first | exact ayS | fail)) U
    | exact F5 cdI cI U U ccI cI (tZ.cons U tZ.nil) ⟨U,U,ayS⟩ U (by((repeat(refine⟨U,?_⟩));first | exact ayS | fail)) U
    | exact F5 cdI cI U U ccI cI (tZ.cons U<|tZ.cons U tZ.nil) ⟨U,U,U,ayS⟩ U (by((repeat(refine⟨U,?_⟩));first | exact ayS | fail)) U
    | exact F5 cdI cI U U ccI cI (tZ.cons U<|tZ.cons U<|tZ.cons U tZ.nil) ⟨U,U,U,U,ayS⟩ U (by((repeat(refine⟨U,?_⟩));first | exact ayS | fail)) U
    | exact F5 cdI cI U U ccI cI (tZ.cons U<|tZ.cons U<|tZ.cons U<|tZ.cons U tZ.nil) ⟨U,U,U,U,U,ayS⟩ U (by((repeat(refine⟨U,?_⟩));first | exact ayS | fail)) U
    | exact aaX U tI cI (λ_=>rfl) U U U)):p:=k h
theorem sk1(h:q)(k:q->p:=by
 first
  | (show _->GO _ _ _ _ _ _ _ _ _;first | exact GO.skF U | exact GO.skT U | exact GO.skF ay6 | exact GO.skT<|by assumption)
  | (show _->GF _ _ _ _ _ _;first | exact GF.ap6 | exact GF.skF U | exact GF.skT U | exact GF.skF ay6 | exact GF.skT ay6)):p:=k h
theorem Zi{q2:Prop}(h:q)(h2:q2)(k:q->q2->p:=by
 show _->_->GO _ _ _ _ _ _ (⟨_,.next _ _,_,_,_,_⟩::_) _ _;exact ahv U U U U):p:=k h h2
theorem M4(h:p:=by
 repeat' (first
  | (show SG (.assign _);first | refine eo U U ?_ | refine jI U uU iI U ?_)
  | refine Xf ?_
  | refine qG ?_
  | refine qF ?_
  | refine VI ?_
  | refine rJ ?_
  | refine rG ?_ ?_
  | refine Zi ?_ ?_
  | exact pq
  | intro _
  | refine sk1 ?_)):p:=h
theorem wky(h:p:=by
 repeat' (first
  | (show SG (.assign _);first | refine eo U U ?_ | refine gC U uU iI U U U ?_)
  | refine Xf ?_
  | refine qG ?_
  | refine qF ?_
  | refine VI ?_
  | refine rJ ?_
  | refine rG ?_ ?_
  | refine Zi ?_ ?_
  | exact pq
  | intro _
  | refine sk1 ?_)):p:=h
end Go.Ark
namespace Go.Ab
open Go Go.RowKit
def kE(T E b:Nat)(s:ByteArray):OP:=λ_ w O=>∃p v,(p= .pointer none\/p= .pointer (some ⟨b,0,none⟩))/\w.heap[b]? =some (.cells #[p,v] T (0,0))/\w.ownsRow 0 E 1 v s.size (Lib.strCells s)/\v.ownBlock≠some b/\∀x,O x↔x=b\/v.ownBlock=some x
variable{w:World}{E n:Nat}{v:Value}
theorem Vx{xs:List Value}(h:w.ownsRow 0 E 1 v n xs){x:Nat}(hx:v.ownBlock=some x):x<w.heap.size:=by
 rcases h.2 with⟨rfl,_⟩ | ⟨g,cap,cur,rfl,_,hg,_⟩
 ·simp[Value.ownBlock]at hx
 ·obtain rfl:g=x:=by simpa[Value.ownBlock]using hx
  exact(avo.1 hg).1
variable{T b:Nat}{s:ByteArray}
theorem agq:bL (kE T E b s):=by
 refine⟨?_,?_⟩
 ·rintro M M' w w' O ⟨p,v,h1,h2,h3,h4,h5⟩ hO _
  refine⟨p,v,h1,(hO b<|(h5 b).2<|.inl U).trans h2,⟨h3.1,h3.2.imp id ?_⟩,h4,h5⟩;rintro⟨g,cap,cur,rfl,q1,q2,q3⟩;exact⟨g,cap,cur,U,q1,(hO g<|(h5 g).2<|.inr U).trans q2,q3⟩
 ·rintro M w O ⟨p,v,h1,h2,h3,h4,h5⟩ x hx
  rcases(h5 x).1 hx with rfl | c
  ·exact(avo.1 h2).1
  ·exact Vx h3 c
instance{T E b:Nat}{s:ByteArray}:OM (kE T E b s):=⟨agq⟩
variable{P:Program}
theorem af4{f:Nat}{s':ByteArray}{g:AG}{res:RS}{arg:Value}(hres:∀M w',I3 M w' res v)(hg:∀M w u,GR M w u g->u=arg)
  (h:∀(p vb:Value)(w:World),(p= .pointer none\/p= .pointer (some ⟨b,0,none⟩))->w.heap[b]? =some (.cells #[p,vb] T (0,0))->w.ownsRow 0 E 1 vb s.size (Lib.strCells s)->vb.ownBlock≠some b->
   Calls P f #[.pointer (some ⟨b,0,none⟩),arg] w λe w'=>e= .returned v/\B7 T E w b vb.ownBlock s' w'):
  fc P (γ:=Unit) f (kE T E b s) (λ_=>kE T E b s') [.g (.d<|.v<|.pointer<|some ⟨b,0,none⟩),.g g] (λ_=>res):=by
 refine⟨λM w O vs hM hO hP hl ha=>?_⟩
 match vs,hl with
 | [x,y],_=>
  have hx:RD (λb o=>M b o\/False) w x (.v<|.pointer<|some ⟨b,0,none⟩):=ha 0 _ x U U;obtain rfl:=RD.aX hx;obtain rfl:=hg _ _ _ (ha 1 _ y U U);obtain⟨p,vb,h1,h2,h3,h4,h5⟩:=hP;refine(h p vb w h1 h2 h3 h4).mono ?_
  rintro e w' ⟨rfl,v',q1,q2,q3,q4⟩;refine⟨(),v,U,λx=>x=b\/v'.ownBlock=some x,⟨q3.os,q3.tape,q3.output,q3.size,λk hk hn=>q3.block k hk λc=>hn<|(h5 k).2 c⟩,?_,?_,⟨_,v',.inr U,q1,q2,λc=>(q4 b c).1 U,λ_=>axE⟩,hres _ _⟩
  ·rintro x (rfl | hx)
   ·exact .inl ((h5 _).2<|.inl U)
   ·exact(q4 x hx).2.elim (λc=>.inl<|(h5 x).2<|.inr c) λc=>.inr c.1
  ·rintro x (rfl | hx)
   ·exact(avo.1 q1).1
   ·exact Vx q2 hx
theorem aaz{f:Nat}(h:∀(p vb:Value)(w:World),w.heap[b]? =some (.cells #[p,vb] T (0,0))->w.ownsRow 0 E 1 vb s.size (Lib.strCells s)->
   Calls P f #[.pointer (some ⟨b,0,none⟩)] w λe w'=>e= .returned (.string s)/\cU (λb'=>vb.ownBlock=some b') w w'):
  fc P (γ:=Unit) f (kE T E b s) (λ_=>tH) [.g (.d<|.v<|.pointer<|some ⟨b,0,none⟩)] (λ_=>.one<|.d<|.v<|.string s):=by
 refine⟨λM w O vs hM hO hP hl ha=>?_⟩
 match vs,hl with
 | [x],_=>
  have hx:RD (λb o=>M b o\/False) w x (.v<|.pointer<|some ⟨b,0,none⟩):=ha 0 _ x U U;obtain rfl:=RD.aX hx;obtain⟨p,vb,h1,h2,h3,h4,h5⟩:=hP;refine(h p vb w h2 h3).mono ?_
  rintro e w' ⟨rfl,q3⟩;exact⟨(),_,U,λ_=>False,⟨q3.os,q3.tape,q3.output,q3.size,λk hk hn=>q3.block k hk λc=>hn<|(h5 k).2<|.inr c⟩,λ_ c=>c.elim,λ_ c=>c.elim,λ_ c=>c,RD.v _ U⟩
theorem Ov{M:Nat->Nat->Prop}{O:Nat->Prop}:eu b T [.v (.pointer none),.v (.slice none 0 0)] M w O->w.heap[b]? =some (.cells #[.pointer none,.slice none 0 0] T (0,0))/\∀x,O x↔x=b:=λ⟨h1,arr,h2,h3,h4⟩=>by
 obtain⟨u0,q0,r0⟩:=h4 0 _ U;obtain⟨u1,q1,r1⟩:=h4 1 _ U;obtain rfl:=RD.aX r0;obtain rfl:=RD.aX r1;have ha:arr= #[.pointer none,.slice none 0 0]:=by
  refine Array.ext azx λi hi hj=>?_;have:i<2:=by simpa using hj
  match i,this with
  | 0,_=>exact(avo.1 q0).2
  | 1,_=>exact(avo.1 q1).2
 exact⟨ha ▸ h2,h1⟩
theorem ad5(M:Nat->Nat->Prop)(w:World)(O:Nat->Prop)(h:eu b T [.v (.pointer none),.v (.slice none 0 0)] M w O):kE T E b ByteArray.empty M w O:=
 ⟨_,_,.inl U,(Ov h).1,⟨U,.inl ⟨U,U⟩⟩,by simp[Value.ownBlock],λx=>by rw[(Ov h).2];simp[Value.ownBlock]⟩
theorem ahi{f:Nat}(h:∀w:World,w.heap[b]? =some (.cells #[.pointer none,.slice none 0 0] T (0,0))->Calls P f #[.pointer (some ⟨b,0,none⟩),.int .i64 n] w λe w'=>e= .returned (.tuple #[])/\B7 T E w b none ByteArray.empty w'):
  fc P (γ:=Unit) f (eu b T [.v (.pointer none),.v (.slice none 0 0)]) (λ_=>kE T E b ByteArray.empty) [.g (.d<|.v<|.pointer<|some ⟨b,0,none⟩),.g (.d<|.v<|.int .i64 (n:Int))] (λ_=>.eV []):=by
 refine⟨λM w O vs hM hO hP hl ha=>?_⟩
 match vs,hl with
 | [x,y],_=>
  have hx:RD (λb o=>M b o\/False) w x (.v<|.pointer<|some ⟨b,0,none⟩):=ha 0 _ x U U;have hy:RD (λb o=>M b o\/False) w y (.v<|.int .i64 (n:Int)):=ha 1 _ y U U;obtain rfl:=RD.aX hx;obtain rfl:=RD.aX hy;obtain⟨h1,h5⟩:=Ov hP;refine(h w h1).mono ?_
  rintro e w' ⟨rfl,v',q1,q2,q3,q4⟩;refine⟨(),_,U,λx=>x=b\/v'.ownBlock=some x,⟨q3.os,q3.tape,q3.output,q3.size,λk hk hn=>q3.block k hk λc=>hn<|(h5 k).2<|c.elim id λc=>aBT⟩,?_,?_,⟨_,v',.inr U,q1,q2,λc=>(q4 b c).1 U,λ_=>axE⟩,⟨_,U,U,λi g hi=>by simp at hi⟩⟩
  ·rintro x (rfl | hx)
   ·exact .inl ((h5 _).2 U)
   ·exact(q4 x hx).2.elim (λc=>aBT) λc=>.inr c.1
  ·rintro x (rfl | hx)
   ·exact(avo.1 q1).1
   ·exact Vx q2 hx
variable{x:Operand}{nt:Nat}{R:Type}{m:Mode}{k:List KI}{ops:Array Oper}{rest:List Oper}{sl:SL}{hp:HL}{dst:Nat}{ty:TypeId}{pos:String}{af:Array Edge}{gd:Option (Nat×Bool)}{α:Type}{zz:Value}{size bytes:Nat}{es:List (List DV)}{C0:Cx P nt}{Q:R->Exit->Act->World->Prop}{r:R}
section
variable{F:Option R}{Φ:OP}
theorem Q9(kk E:Nat){T:TypeId}(hg:bD ops sl gd=true)(i:Tm P T [.v (.pointer none),.v (.slice none 0 0)])(hh:aE hp kk=some (.obj tH))(hd:Nat.blt dst nt=true)(hl:qD m=true)
  (hk:∀n,GO C0 Q r F (m.add ⟨gH ops gd++ [],[(kk,some (.obj tH))],[(dst,.one (pt n 0))],[(kk,some (.obj<|kE T E n ByteArray.empty))]⟩) ops rest k ⟨(dst,.one (pt n 0))::sl,(kk,some (.obj<|kE T E n ByteArray.empty))::hp⟩):GO C0 Q r F m ops (Oo dst (.alloc T) ty pos af gd::rest) k ⟨sl,hp⟩:=
 let⟨_,_,_,hI,hz,_⟩:=i
 GO.CP (γ:=Nat) 0 (Rs:=[]) (Ws:=λn=>[(dst,.one (pt n 0))]) (Wh:=λn=>[(kk,some (.obj<|kE T E n ByteArray.empty))]) (λsl hp h1 h2 a w K Q q hK=>Im hI hz hd sl hp h1 h2 a w K Q q λn a w q'=>hK n a w
  ((q'.vs kk (B:=kE T E n ByteArray.empty) azp (VS.same λ_ _ _ h=>⟨(),ad5 _ _ _ (Zh h)⟩) agq).ext (λt=>rfl) λt=>by simp only[av4,avX,aG];split<;>rfl)) hg ayS ⟨hh,ayS⟩ hl hk
theorem Ro{l:List α}{e:α->List DV}{f:List α->Option R}{y:Operand}{T E:TypeId}{lo:Int}(hg:bD ops sl gd=true)(hT:P.underlying T=some (.slice E))(hI:Info P E zz size bytes)(hx:aN sl x=some (.g (.d (.sl size es))))(he:es=l.map e)(hy:aN sl y=some (bI .i64 lo))(hd:Nat.blt dst nt=true)
  (hk:∀q,sub l lo l.length=some q->GO C0 Q r (f q) (m.add ⟨gH ops gd++(ey x (.g<|.d<|.sl size es)++(ey y (bI .i64 lo)++ [])),[],[(dst,.one (.g<|.d<|.sl size<|q.map e))],[]⟩) ops rest k ⟨(dst,.one (.g<|.d<|.sl size<|q.map e))::sl,hp⟩):GO C0 Q r ((sub l lo l.length).bind f) m ops (Oo dst (.slice T x (some y) none none) ty pos af gd::rest) k ⟨sl,hp⟩:=
 GO.bind λq hq=>by
  subst he;obtain⟨e1,q1⟩:=aJ hx;obtain⟨e2,q2⟩:=aJ hy;exact GO.one (λ_=>NS (lo:=some lo) (hi:=none) hT hI (Qk hq e).1 (Qk hq e).2.1 (avK _) (Qk hq e).2.2 e1 (.some e2) .none hd) hg (q1.both<|q2.both ayS) ayS U U (hk q hq)
def FW(n:Int):Option Unit:=if decide (0<=n/\n<=140737488355328)=true then some ()else none
theorem GO.ag0{n:Int}(hn:decide (0<=n/\n<=140737488355328)=true)(h:GO C0 Q r ((FW n).bind λ_=>F) m ops rest k ⟨sl,hp⟩):GO C0 Q r F m ops rest k ⟨sl,hp⟩:=by
 rw[FW,avk hn]at h;exact h
end
class Z9(P:Program){α:Type}(F:Option α){X X' Y:outParam Type}(g:outParam Nat)(a a':outParam AG)(enc:outParam (X->AG))(enc':outParam (X'->AG))(val:outParam (Y->Value))(p:outParam (X->X'->Option Y))(res:outParam (α->RS)):Prop where
 h:∀r,F=some r->Ct P g [.g a,.g a',.sem (Qa enc enc' val p)] (res r)
 sc:∀r,(res r).sc=true
variable{g:Nat}
theorem am6{X X' Y:Type}{F:Option α}{a a':AG}{enc:X->AG}{enc':X'->AG}{val:Y->Value}{p:X->X'->Option Y}{res:α->RS}[i:Z9 P F g a a' enc enc' val p res]:Z9 P F g a a' enc enc' val p res:=i
section
variable{x' y:Operand}
theorem aa0{X X' Y:Type}{Fx:Option α}{f:α->Option R}{fn:Nat}{a a':AG}{enc:X->AG}{enc':X'->AG}{val:Y->Value}{p:X->X'->Option Y}{res:α->RS}{tys:Array TypeId}(hg:bD ops sl gd=true)(i:Z9 P Fx g a a' enc enc' val p res)(c:cG P g)
  (hx:aN sl x=some (.g a)) (hx':aN sl x'=some (.g a')) (hy:aN sl y=some (.yh fn [])) (j:∀u v,Z7 P (p u v) fn [.g (enc u),.g (enc' v)] (λq=>.one<|.d<|.v<|val q)) (cf:cG P fn) (hd:Nat.blt dst nt=true)
  (hk:∀u,Fx=some u->GO C0 Q r (f u) (m.add ⟨gH ops gd++(ey x (.g a)++(ey x' (.g a')++ey y (.yh fn []))),[],[(dst,(res u).sv)],[]⟩) ops rest k ⟨(dst,(res u).sv)::sl,hp⟩):GO C0 Q r (Fx.bind f) m ops (Oo dst (gO g [x,x',y] tys) ty pos af gd::rest) k ⟨sl,hp⟩:=
 GO.bind λu hu=>by
  obtain⟨e1,q1⟩:=aJ hx;obtain⟨e2,q2⟩:=aJ hx';obtain⟨e3,q3⟩:=aJ hy;have hq:xT P [x,x',y] [.g a,.g a',.sem (Qa enc enc' val p)] (ey x (.g a)++(ey x' (.g a')++ey y (.yh fn []))) []:=by
   have:=xT.cons (QC.g (P:=P) e1) (xT.cons (QC.g (P:=P) e2)<|xT.cons (QC.yh (P:=P) (Φ:=Qa enc enc' val p) e3 tZ.nil cf λargs v⟨x0,x1,b,h1,h2,h3⟩=>by subst h1 h3;exact j x0 x1 b h2) xT.nil);simpa using this
  exact GO.one (λ_=>nC c (i.h u hu) (i.sc u) U hq hd) hg (q1.both<|q2.both q3) ayS aAr U (hk u hu)
theorem GF.A4{fn:Func}{t k':Nat}{res:R->RS}{r':R}(hres:fn.results= #[.tmp t])(hs:bG sl t=some (.one (.own k' es)))(hh:aE hp k'=some (.row T size es true))(hg:res r'= .new T size es):
  GF C0 (λr=>bodyPost P fn<|BL C0.M C0.K C0.w0<|res r) r (some r') (.c .ret::k) ⟨sl,hp⟩:=⟨λhrr a w⟨C,σ,lk,ob,c1,c2,β,rb⟩=>by
 cases hrr;have hu:=(rb.sl t _ hs:BR C hp β w (.own k' es) _);refine wp_ret (mE ⟨rb.df,a.tmps.getD t undef,?_,a.tmps.getD t undef,U,lk.Gj rb.keep,?_⟩)
 ·rw[ri,hres]
  simp[Fv]
 ·rw[hg]
  obtain⟨_,_,_,_,h1,_,h2⟩:=hu;rw[hh]at h1;cases h1;obtain⟨hz,hsz,hr⟩:=rb.hp k' _ hh;refine⟨hz,hsz,?_⟩;rcases h2 rfl with⟨_,h3,h4⟩ | ⟨b,cap,cur,hb,za,hle,pR,hheap,hcs⟩
  ·exact .inl ⟨h3,h4⟩
  ·rcases hr with⟨q1,_⟩ | ⟨b',cur',q1,q2,q3,q4⟩
   ·rw[hb]at q1;cases q1
   ·rw[hb]at q1;cases q1
    rw[hheap]at q2;cases q2;refine .inr ⟨b,cap,cur,?_,(rb.own k' _ b hh hb).2,za,hle,pR,hheap,hcs,λi cs j d hi hj=>let⟨v,p1,p2⟩:=q4 i cs j d hi hj;⟨v,p1,p2.less λb'' o c=>?_⟩⟩
    ·rcases(rb.own k' _ b hh hb).1 with z | z
     ·have:=lk.keep.size;exact .inl ayT
     ·exact(lk.K b z).symm
    ·rcases c with c | c
     ·exact .inl (lk.M _ _ c)
     ·subst c;exact .inr ⟨k',_,hh,hb,.inl U⟩⟩
end
theorem wkN{p:Prop}(h:p:=by
 repeat' (first
  | (show SG (.assign _);first | refine eo U U ?_ | refine gC U uU iI U U U ?_)
  | refine Xf ?_
  | refine qG ?_
  | refine qF ?_
  | refine VI ?_
  | refine rJ ?_
  | refine rG ?_ ?_
  | refine Zi ?_ ?_
  | exact GF.A4 U U U U
  | exact pq
  | intro _
  | refine sk1 ?_)):p:=h
theorem wkf{p:Prop}(h:p:=by
 repeat' (first
  | (show SG (.assign _);first | refine eo U U ?_ | refine jI U uU iI U ?_)
  | refine qG ?_
  | refine qF ?_
  | (show SG (.call _);refine aa0 U am6 cI U U U (λ_ _=>tI) cI U λ_ _=>?_)
  | exact pq
  | intro _)):p:=h
section
theorem ahw{l:List ByteArray}{f:List ByteArray->Option R}{kk:Nat}{tys:Array TypeId}(t:Nat)(c:cG P g)(hs:aah P g E)(hx:aN sl x=some (.own kk es))(he:es=l.map Dk)(hd:Nat.blt dst nt=true)(hh:aE hp kk=some (.row E 1 es true))(ht:bG ((dst,.dead)::sl) t=some (.one (.own kk es)))
  (hk:GO C0 Q r (f<|cQ l) .s ops rest k ⟨(t,.one (.own kk<|(cQ l).map Dk))::(dst,.dead)::sl,(kk,some (.row E 1 ((cQ l).map Dk) true))::hp⟩):GO C0 Q r ((SK l).bind f) .s ops (Oo dst (gO g [x] tys) ty pos af none::rest) k ⟨sl,hp⟩:=⟨λhr a w q=>by
 obtain⟨u,hu,hf⟩:=avQ.1 hr;obtain⟨h0,rfl⟩:=acP hu;obtain⟨C,σ,lk,ob,c1,c2,hrel⟩:=q;obtain⟨e1,q1⟩:=aJ hx;subst he;refine(G.aas (C:=C) h0 c hs e1 hd q1 hh (G.renew (t:=t) ht azp (Zk l) ⟨λa w r'=>hk.go hf a w ⟨C,σ,lk,ob.sub (aie (Wh:=[(kk,some (.row E 1 ((cQ l).map Dk) true))]) U),Nc (Ws:=[(t,_),(dst,_)]) U c1,aat (Wh:=[(kk,some (.row E 1 ((cQ l).map Dk) true))]) U c2,r'⟩⟩)).go a w hrel⟩
end
variable{xs:List (Nat×Operand)}{gs:List (Nat×AG)}{len:Nat}
section
variable{F:Option R}{Φ:OP}{kk:Nat}{a:Act}{M:Nat->Nat->Prop}{O:Nat->Prop}
theorem At.evP(A:At C0 sl hp kk Φ a w M O){Rs:List (Nat×SV)}(e:Xq xs gs Rs):bK sl Rs->xs.length=gs.length/\∀(i:Nat)(p:Nat×AG),gs[i]? =some p->∃u,(xs.map λq=>(q.1,a.eval q.2))[i]? =some (p.1,u)/\GR M w u p.2:=by
 induction e with
 | nil=>exactλ_=>⟨U,λi p h=>ay4⟩
 | cons h t ih=>
  intro hs;obtain⟨h3,h4⟩:=ih hs.app.2;refine⟨by simp[h3],λi p hp=>?_⟩;cases i with
  | zero=>simp at hp;subst hp;exact⟨_,U,A.one h hs.app.1⟩
  | succ i=>simpa using h4 i p (by simpa using hp)
theorem QT{T E:TypeId}{Rs:List (Nat×SV)}(hT:P.underlying T=some (.slice E))(hI:Info P E zz size bytes)(hz:Nat.blt 0 size=true)(hbig:Nat.ble (len*size) 16777216=true)(hlen:Nat.ble len 16777216=true)
  (hx:Xq xs gs Rs) (he:lu (λi=>some (i*size,size)) (List.replicate (len*size) none) gs=some (es.flatten.map some)) (hel:Nat.beq es.length len=true) (hes:∀cs,cs∈es->cs.length=size) (hd:Nat.blt dst nt=true)
  (sl:SL) (hp:HL) (hs:bK sl Rs) (hh:dn hp [(kk,some (.obj Φ))]) (a:Act) (w:World) (K:Act->World->Prop) (Q:Exit->Act->World->Prop) (q:bE C0 ⟨sl,hp⟩ a w) (hK:∀g a w,bE C0 ⟨(dst,.one (dv g))::sl,(kk,some (.obj<|Sep Φ<|Row g E size es))::hp⟩ a w->K a w):(Oo dst (.buildSlice T len xs.toArray) ty pos af gd).wp P a w K Q:=by
 obtain⟨M,O,A⟩:=dL q hh.1;have hel:=av3 hel;have Km:¬(16777216<len*size):=by simp at hbig;omega
 obtain⟨h1,h2⟩:=A.evP hx hs;generalize hz0:(if len*size=0 then(#[]:Array Value)else zz.cells)=z0;have U4:VR M w ((Array.range<|len*size).map (z0[·% z0.size]!)) (List.replicate (len*size) none):=⟨ayW,λj d hj=>azN⟩;obtain⟨vals,hf,hv⟩:=Aq (rS:=xs.map λq=>(q.1,a.eval q.2)) U4 ay7 h2 he;have hrun:(execOp a.eval<|Oo dst (.buildSlice T len xs.toArray) ty pos af gd).run P w= .ok (.value<|.slice (some ⟨w.heap.size,0,none⟩) len len) (w.alloc<|.cells vals E):=by
  simp only[execOp,Instr.buildSlice,avw,avm hT,avt,hI.sizeOf];rw[avj aAv];by_cases h0:len*size=0
  ·rw[avk h0]at hz0
   subst hz0;rw[avk h0];simp only[avw,avF,avt,awN,hf,newRow,aym];rfl
  ·rw[avj h0]at hz0
   subst hz0;rw[avj h0];simp only[avw,avF,avt,hI.zero,awN,hf,newRow,aym];rfl
 unfold Oper.wp;rw[hrun];have hsize:vals.size=len*size:=by
  have h3:=hv.1;rw[avN]at h3;rw[h3,<-hel];exact CA hes
 have ld:Below w.heap.size w (w.alloc<|.cells vals E):=dM w _;refine hK _ _ _ (A.more Sb ay1 U λM' hM'=>⟨aAi,hes,.inr ⟨w.heap.size,len,vals,by rw[hel],by rw[hel];exact avq _,azC,awB w _,hsize,λi cs j d hi hj=>?_,λ_=>axE⟩⟩);obtain⟨u,h3,h4⟩:=hv.2 (i*size+j) d aAV;exact⟨u,h3,h4.mono λb o x hn hx=>⟨azq,hM' b o hn<|cz hx⟩⟩
theorem Mc(kk:Nat){T E:TypeId}{ds:List DV}(hg:bD ops sl gd=true)(hT:P.underlying T=some (.slice E))(hI:Info P E zz size bytes)(ha:F4 sl xs=some gs)(hz:Nat.blt 0 size=true)(hbig:Nat.ble (len*size) 16777216=true)(hlen:Nat.ble len 16777216=true)
  (he:(lu (λi=>some (i*size,size)) (List.replicate (len*size) none) gs).bind On=some ds) (agV:chunk size len ds=es) (h1:es.flatten=ds) (h2:Nat.beq es.length len=true) (h3:es.all (λc=>Nat.beq c.length size)=true) (hh:aE hp kk=some (.obj Φ)) (hd:Nat.blt dst nt=true) (hl:qD m=true)
  (hk:∀g,GO C0 Q r F (m.add ⟨gH ops gd++OQ xs gs,[(kk,some (.obj Φ))],[(dst,.one (dv g))],[(kk,some (.obj<|Sep Φ<|Row g E size es))]⟩) ops rest k ⟨(dst,.one (dv g))::sl,(kk,some (.obj<|Sep Φ<|Row g E size es))::hp⟩):GO C0 Q r F m ops (Oo dst (.buildSlice T len xs.toArray) ty pos af gd::rest) k ⟨sl,hp⟩:=
 let⟨e,q⟩:=vN ha
 GO.CP (γ:=Value) undef (Ws:=λg=>[(dst,.one (dv g))]) (Wh:=λg=>[(kk,some (.obj<|Sep Φ<|Row g E size es))]) (QT hT hI hz hbig hlen e (by
  cases h:lu (λi=>some (i*size,size)) (List.replicate (len*size) none) gs with
  | none=>rw[h]at he;cases he
  | some l=>rw[h]at he;rw[Am he,h1]) h2 (λc hc=>av3 (avI.1 h3 c hc)) hd) hg q ⟨hh,ayS⟩ hl hk
theorem TW{T E:TypeId}{ds:List DV}(hg:bD ops sl gd=true)(hT:P.underlying T=some (.slice E))(hI:Info P E zz size bytes)(ha:F4 sl xs=some gs)(hz:Nat.blt 0 size=true)(hbig:Nat.ble (len*size) 16777216=true)(hlen:Nat.ble len 16777216=true)
  (he:(lu (λi=>some (i*size,size)) (List.replicate (len*size) none) gs).bind On=some ds) (agV:chunk size len ds=es) (h1:es.flatten=ds) (h2:Nat.beq es.length len=true) (h3:es.all (λc=>Nat.beq c.length size)=true) (hh:aE hp (dst+100)=none) (hd:Nat.blt dst nt=true)
  (hk:GO C0 Q r F (m.add ⟨gH ops gd++OQ xs gs,[(dst+100,none)],[(dst,.one (.own (dst+100) es))],[(dst+100,some (.row E size es true))]⟩) ops rest k ⟨(dst,.one (.own (dst+100) es))::sl,(dst+100,some (.row E size es true))::hp⟩):GO C0 Q r F m ops (Oo dst (.buildSlice T len xs.toArray) ty pos af gd::rest) k ⟨sl,hp⟩:=
 let⟨e,q⟩:=vN ha
 GO.one (λ_=>PG (kk:=dst+100) (ex:=true) hT hI hz hbig hlen e (by
  cases h:lu (λi=>some (i*size,size)) (List.replicate (len*size) none) gs with
  | none=>rw[h]at he;cases he
  | some l=>rw[h]at he;rw[Am he,h1]) h2 (λc hc=>av3 (avI.1 h3 c hc)) hd ayW) hg q ⟨hh,ayS⟩ U U hk
theorem GO.eq'{F':Option R}{st:St}(e:F=F')(h:GO C0 Q r F' m ops rest k st):GO C0 Q r F m ops rest k st:=e ▸ h
end
theorem VS.aew{A:OP}{cs:List DV}(i:Nat)(hA:bL A)(hi:cs[i]? =some (.v v)):
  VS (Sep (Sep A<|eu b T cs)<|Row v E n es) (λ_:Unit=>Sep A<|eu b T<|cs.set i<|.sl n es):=
 VS.frz hA ayW λj d h=>by
  rw[awz]at h;split at h
  ·rename_i c;subst c
   split at h
   ·cases h;exact .inr ⟨hi,U⟩
   ·cases h
  ·exact .inl h
theorem VS.aau{A:OP}{cs:List DV}(i:Nat)(hi:cs[i]? =some (.v (.slice none 0 0))):VS (Sep A (eu b T cs)) (λ_:Unit=>Sep A (eu b T (cs.set i (.sl n [])))):=
 VS.same λM w O⟨O1,O2,h1,h2,h3,h4,arr,h5,h6,h7⟩=>⟨(),O1,O2,h1,h2,h3,h4,arr,h5,by simpa using h6,λj d h=>by
  rw[awz]at h;split at h
  ·rename_i c;subst c
   split at h
   ·cases h
    obtain⟨u,q1,q2⟩:=h7 _ _ hi;obtain rfl:=RD.aX q2;exact⟨_,q1,RD.nil _ _ _<|av5 _⟩
   ·cases h
  ·exact h7 j d h⟩
abbrev bZ(b:Nat):RG:=.g (.d (.v (.pointer (some ⟨b,0,none⟩))))
abbrev bV(i:Int):RG:=.g (.d (.v (.int .i64 i)))
abbrev fP(s:ByteArray):RG:=.g (.d (.v (.string s)))
abbrev bt{α:Type}(n:Nat)(e:α->List DV)(l:List α):RG:=.g (.d (.sl n (List.map e l)))
abbrev bH(b:Bool):RS:=.one (.d (.v (.bool b)))
abbrev j7(i:Int):RS:=.one (.d (.v (.int .i64 i)))
abbrev KS(s:ByteArray):RS:=.one (.d (.v (.string s)))
abbrev fu{α:Type}(n:Nat)(e:α->List DV)(l:List α):RS:=.one (.d (.sl n (List.map e l)))
abbrev cP{α:Type}(n:Nat)(e:α->List DV)(l:List α):SV:=.one (.g (.d (.sl n (List.map e l))))
abbrev aV(i:Int):SV:=.one (bI .i64 i)
abbrev kO(X:OP):Nat×Option HE:=(1000,some (.obj X))
end Go.Ab
namespace Go.Ab
open Go Go.RowKit
variable{P:Program}
theorem Gn{α ι:Type}{X:Option α}{f n:Nat}{fn:Func}{code:Code}{Φ:ι->OP}{iz:ι->Unit->α->OP}{args:ι->List RG}{res:Unit->α->RS}(hf:P.funcs[f]? =some fn)(hb:fn.body=some code)(hn:fn.ntmps=n)(hle:∀i,Nat.ble (args i).length n=true)
  (hrow:∀i,(args i).all (λg=>match g with | .g _=>true | _=>false)=true) (om:∀i,bL (Φ i)) (om':∀i u r,bL (iz i u r))
  (h:∀i r(C0:Cx P n),GF C0 (λr=>bodyPost P fn<|BM C0 (λg=>iz i g r) λg=>res g r) r X [.c code] ⟨m7 0<|args i,[(1000,some (.obj<|Φ i))]⟩):mU P X f Φ iz args res:=
 ⟨λi r hF=>fc.iB (iz:=λr g=>iz i g r) (res:=λr g=>res g r) hf hb hn (hle i) (hrow i) (om i) hF<|h i r,om',⟨()⟩⟩
theorem Mn{α ι:Type}{X:Option α}{f n:Nat}{fn:Func}{code:Code}{Φ:ι->OP}{args:ι->List RG}{res:α->RS}(hf:P.funcs[f]? =some fn)(hb:fn.body=some code)(hn:fn.ntmps=n)(hle:∀i,Nat.ble (args i).length n=true)
  (hrow:∀i,(args i).all (λg=>match g with | .g _=>true | _=>false)=true) (om:∀i,bL (Φ i))
  (h:∀i r(C0:Cx P n),GF C0 (λr=>bodyPost P fn<|BM C0 (λ_:Unit=>Φ i) λ_=>res r) r X [.c code] ⟨m7 0<|args i,[(1000,some (.obj<|Φ i))]⟩):tF P X f Φ args res:=
 ⟨λi r hF=>fc.iB (iz:=λ_ _=>Φ i) (res:=λr _=>res r) hf hb hn (hle i) (hrow i) (om i) hF<|h i r⟩
section
variable{nt:Nat}{R:Type}{C0:Cx P nt}{Q:R->Exit->Act->World->Prop}{r:R}{F:Option R}{m:Mode}{k:List KI}{ops:Array Oper}{rest:List Oper}{sl:SL}{hp:HL}{dst:Nat}{ty:TypeId}{pos:String}{af:Array Edge}{gd:Option (Nat×Bool)}
theorem OS{E size bytes:Nat}{zz:Value}(hg:bD ops sl gd=true)(_:P.underlying ty=some (.slice E))(_:Info P E zz size bytes)(hz:Nat.blt 0 size=true)(hh:aE hp (dst+200)=none)(hd:Nat.blt dst nt=true)
  (hk:GO C0 Q r F (m.add ⟨gH ops gd,[(dst+200,none)],[(dst,.one (.own (dst+200) []))],[(dst+200,some (.row E size [] true))]⟩) ops rest k ⟨(dst,.one (.own (dst+200) []))::sl,(dst+200,some (.row E size [] true))::hp⟩):GO C0 Q r F m ops (Oo dst (.assign<|.const<|.slice none 0 0) ty pos af gd::rest) k ⟨sl,hp⟩:=
 f0h (e:=.row E size [] true) hg (λ_=>Gr hz hd<|by simp) hh U U hk
end
end Go.Ab
namespace Go.Ark
open Go Go.Ab
theorem wkM{p:Prop}(h:p:=by
 repeat' (first
  | (show SG (.assign _);first | refine eo U U ?_ | refine gC U uU iI U U U ?_ | refine OS U uU iI U U U ?_)
  | refine Xf ?_
  | refine qG ?_
  | refine qF ?_
  | refine VI ?_
  | refine rJ ?_
  | refine rG ?_ ?_
  | refine Zi ?_ ?_
  | exact GF.A4 U U U U
  | exact pq
  | intro _
  | refine sk1 ?_)):p:=h
end Go.Ark
